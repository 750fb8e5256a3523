/- Trimming, plainly: what stands for a state does as it does. -/
import Derived.Test.YtcmfaclkgdmpbaaGreatDoorRpUU
namespace Go.Rv
def repI (S : List Qa) (l : List Bool) (b : Bool) (i : Nat) : Nat := if b = true then Qjt (X3 S l) i else i
def Stands (S : List Qa) (l : List Bool) (b : Bool) (i x : Nat) : Prop := i < S.length ∧ ∃ h : x < (W2 (Qie S l b)).length, (W2 (Qie S l b))[x] = repI S l b i
theorem bury_get {S : List Qa} {l : List Bool} {i k : Nat} (h1 : k < (mvs (X3 S l) i).length) (h2 : k < (mvs S i).length) : ((mvs (X3 S l) i)[k].To < 0 ∧ ((mvs S i)[k].To < 0 ∨ l.getD (mvs S i)[k].To.toNat false = false)) ∨ (0 ≤ (mvs S i)[k].To ∧ l.getD (mvs S i)[k].To.toNat false = true ∧ (mvs (X3 S l) i)[k].To = (mvs S i)[k].To) := by
 have e : (mvs (X3 S l) i)[k] = C0 (Qht l) (mvs S i)[k] := by simp only [X3, Qac, Qlw]
 rw [e]
 by_cases h : (mvs S i)[k].To < 0
 ·rw [send_neg h]; exact .inl ⟨by decide, .inl h⟩
 ·cases hl : l.getD (mvs S i)[k].To.toNat false with
  | false =>
   rw [C0, Tt, hl, if_neg (show ¬ (false = true) by decide), if_neg (by omega)]
   exact .inl ⟨by decide, .inr rfl⟩
  | true =>
   rw [C0, Tt, hl, if_pos rfl, if_pos ⟨by omega, by omega⟩]
   exact .inr ⟨by omega, rfl, by dsimp only; omega⟩
theorem mid_get {S : List Qa} {l : List Bool} (b : Bool) (hT : toOk S) {i : Nat} (hi : i < S.length) : repI S l b i < S.length ∧ (stA (Qie S l b) (repI S l b i)).Rule = (stA (X3 S l) i).Rule ∧ (stA (Qie S l b) (repI S l b i)).R = (stA (X3 S l) i).R ∧ (mvs (Qie S l b) (repI S l b i)).length = (mvs (X3 S l) i).length ∧ ∀ k, (h1 : k < (mvs (Qie S l b) (repI S l b i)).length) → (h2 : k < (mvs (X3 S l) i).length) → ((mvs (Qie S l b) (repI S l b i))[k].To < 0 ∧ (mvs (X3 S l) i)[k].To < 0) ∨ (0 ≤ (mvs (X3 S l) i)[k].To ∧ (mvs (Qie S l b) (repI S l b i))[k].To = (repI S l b (mvs (X3 S l) i)[k].To.toNat : Int)) := by
 have hB := bury_ok (l := l) hT
 have hBl : (X3 S l).length = S.length := by rw [X3, H6]
 cases b with
 | false =>
  refine ⟨hi, rfl, rfl, rfl, fun k h1 h2 => ?_⟩
  show ((mvs (X3 S l) i)[k].To < 0 ∧ (mvs (X3 S l) i)[k].To < 0) ∨ (0 ≤ (mvs (X3 S l) i)[k].To ∧ (mvs (X3 S l) i)[k].To = (((mvs (X3 S l) i)[k].To.toNat : Nat) : Int))
  omega
 | true =>
  have er : ∀ j, repI S l true j = Qjt (X3 S l) j := fun _ => rfl
  have hJ : Qie S l true = Sn (X3 S l) := rfl
  have hbB := Ll hB
  obtain ⟨g1, g2, _⟩ := Qjs hB (i := i) (by omega)
  have e1 : ∀ j, stA (Sn (X3 S l)) j = S6 (Qas (Uk (X3 S l))) (stA (X3 S l) j) := fun j => by rw [Sn, Qdf]
  have e4 : ∀ j, mvs (Sn (X3 S l)) j = (mvs (X3 S l) j).map (C0 (Qas (Uk (X3 S l)))) := fun j => by rw [Sn, Qac]
  rw [er, hJ]
  have key : (stA (X3 S l) (Qjt (X3 S l) i)).R = (stA (X3 S l) i).R ∧ (stA (X3 S l) (Qjt (X3 S l) i)).Rule = (stA (X3 S l) i).Rule ∧ (mvs (X3 S l) (Qjt (X3 S l) i)).length = (mvs (X3 S l) i).length ∧ ∀ k, (h1 : k < (mvs (X3 S l) (Qjt (X3 S l) i)).length) → (h2 : k < (mvs (X3 S l) i).length) → mSim (eqL (Uk (X3 S l))) (mvs (X3 S l) (Qjt (X3 S l) i))[k] (mvs (X3 S l) i)[k] := by
   rcases hbB.sim _ _ g1 (by omega) g2 with ⟨h1, h2⟩ | ⟨_, _, s1, s2, s3, s4⟩
   ·rw [h1, h2]
    refine ⟨rfl, rfl, rfl, fun k a1 a2 => ?_⟩
    by_cases h : (mvs (X3 S l) 0)[k].To < 0
    ·exact .inl ⟨h, h⟩
    ·exact .inr ⟨by omega, by omega, rfl, rfl⟩
   ·exact ⟨s1, s2, s3, s4⟩
  obtain ⟨s1, s2, s3, s4⟩ := key
  refine ⟨by omega, by rw [e1]; exact s2, by rw [e1]; exact s1, by rw [e4, Qk2]; exact s3, fun k h1 h2 => ?_⟩
  have h3 : k < (mvs (X3 S l) (Qjt (X3 S l) i)).length := by rw [s3]; exact h2
  have f1 : (mvs (Sn (X3 S l)) (Qjt (X3 S l) i))[k] = C0 (Qas (Uk (X3 S l))) (mvs (X3 S l) (Qjt (X3 S l) i))[k] := by simp only [e4, Qlw]
  rw [f1]
  rcases s4 k h3 h2 with h | ⟨a1, a2, _, a4⟩
  ·exact .inl ⟨by rw [send_neg h.1]; decide, h.2⟩
  ·rw [Qkc hB g1 (Qkz h3) a1, er, rep_eq a4]
   exact .inr ⟨a2, rfl⟩
theorem stands_zero {S : List Qa} {l : List Bool} {b : Bool} (hT : toOk S) (h0 : 0 < S.length) (hl : Ty S l) : Stands S l b 0 0 := by
 obtain ⟨m1, m2, _⟩ := mid_spec b hT hl
 obtain ⟨z1, z2, z3⟩ := order_zero m1 (by omega)
 have hBl : (X3 S l).length = S.length := by rw [X3, H6]
 refine ⟨h0, z1, ?_⟩
 rw [Q4 z1] at z2
 rw [z2]
 cases b with
 | false => rfl
 | true => exact ((rep_zero (bury_ok (l := l) hT) (by omega)).2 rfl).symm
theorem stands_step {S : List Qa} {l : List Bool} {b : Bool} (hT : toOk S) (h0 : 0 < S.length) (hl : Ty S l) {i x : Nat} (h : Stands S l b i x) : x < (Qej S l b).length ∧ (stA (Qej S l b) x).Rule = (stA S i).Rule ∧ (stA (Qej S l b) x).R = (stA S i).R ∧ (mvs (Qej S l b) x).length = (mvs S i).length ∧ ∀ k, (h1 : k < (mvs (Qej S l b) x).length) → (h2 : k < (mvs S i).length) → ((mvs (Qej S l b) x)[k].To < 0 ∧ ((mvs S i)[k].To < 0 ∨ l.getD (mvs S i)[k].To.toNat false = false)) ∨ (0 ≤ (mvs (Qej S l b) x)[k].To ∧ 0 ≤ (mvs S i)[k].To ∧ Stands S l b (mvs S i)[k].To.toNat (mvs (Qej S l b) x)[k].To.toNat) := by
 obtain ⟨m1, m2, m3⟩ := mid_spec b hT hl
 obtain ⟨hi, hx, hxi⟩ := h
 have ho := N2 m1 (by omega)
 obtain ⟨g1, g2, g3, g4, g5⟩ := mid_get (l := l) b hT hi
 have e1 : stA (Qej S l b) x = S6 (Nz (Qie S l b).length (W2 (Qie S l b))) (stA (Qie S l b) (repI S l b i)) := by rw [trim_mid, Qkb hx, hxi]
 have e3 : mvs (Qej S l b) x = (mvs (Qie S l b) (repI S l b i)).map (C0 (Nz (Qie S l b).length (W2 (Qie S l b)))) := by rw [trim_mid, keep_mvs hx, hxi]
 have eb := Qj6 (Qht l) S i
 have el : (mvs (X3 S l) i).length = (mvs S i).length := by rw [X3, Qac, Qk2]
 refine ⟨by rw [trim_mid, Qhm]; exact hx, by rw [e1]; exact g2.trans eb.1, by rw [e1]; exact g3.trans eb.2, by rw [e3, Qk2, g4, el], fun k h1 h2 => ?_⟩
 have h3 : k < (mvs (Qie S l b) (repI S l b i)).length := by rw [g4, el]; exact h2
 have h4 : k < (mvs (X3 S l) i).length := by rw [el]; exact h2
 have f2 : (mvs (Qej S l b) x)[k] = C0 (Nz (Qie S l b).length (W2 (Qie S l b))) (mvs (Qie S l b) (repI S l b i))[k] := by simp only [e3, Qlw]
 have hro : repI S l b i ∈ W2 (Qie S l b) := by rw [← hxi]; exact Qkz hx
 have hb := bury_get h4 h2
 rw [f2]
 rcases g5 k h3 h4 with ⟨a1, a2⟩ | ⟨a1, a2⟩
 ·rw [send_neg a1]
  rcases hb with hb | hb
  ·exact .inl ⟨by decide, hb.2⟩
  ·omega
 ·rcases hb with hb | ⟨b1, b2, b3⟩
  ·omega
  ·have hmem : (mvs (Qie S l b) (repI S l b i))[k] ∈ mvs (Qie S l b) (repI S l b i) := Qkz h3
   have hkm := keep_move m1 (by omega) hro hmem (by omega)
   have hin := ho.closed _ hro _ hmem (by omega)
   rw [hkm]
   dsimp only
   rw [Qk5]
   have hlt := hT i hi _ (Qkz h2)
   refine .inr ⟨by omega, b1, by omega, Qma.2 hin, ?_⟩
   rw [Qmt, a2, Qk5, b3]
theorem flat_rc {α : Type} (c : Nat) (d : α) : ∀ (N : List (List α)), (∀ r ∈ N, r.length = c) → ∀ n k, n < N.length → k < c → n * c + k < N.flatten.length ∧ N.flatten.getD (n * c + k) d = (N.getD n []).getD k d
 | [], _, n, _, hn, _ => absurd hn (Qmv _)
 | r :: N, h, 0, k, _, hk => by
  have hr := h r Qlg
  rw [Qlo, Nat.zero_mul, Qls]
  refine ⟨by rw [Qky]; omega, ?_⟩
  rw [Q4 (by rw [Qky]; omega), Qmq (by omega)]
  show _ = r.getD k d
  rw [Q4 (by omega)]
 | r :: N, h, n + 1, k, hn, hk => by
  have hr := h r Qlg
  rw [Qle] at hn
  obtain ⟨h1, h2⟩ := flat_rc c d N (fun r hr => h r (Qld _ hr)) n k (by omega) hk
  have e : (n + 1) * c + k = r.length + (n * c + k) := by rw [Qm8]; omega
  rw [Qlo, e]
  refine ⟨by rw [Qky]; omega, ?_⟩
  show _ = (N.getD n []).getD k d
  rw [← h2, Q4 (by rw [Qky]; omega), Q4 h1, Qn4 (by omega)]
  congr 1
  omega
end Go.Rv
