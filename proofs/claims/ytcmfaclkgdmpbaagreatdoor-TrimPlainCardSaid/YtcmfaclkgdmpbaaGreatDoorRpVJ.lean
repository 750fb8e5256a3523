/- Trimming, plainly: what stands for a state does as it does. -/
import Derived.Test.YtcmfaclkgdmpbaaGreatDoorRpUU
namespace Go.Rv
def repI (S : List Qa) (l : List Bool) (b : Bool) (i : Nat) : Nat := if b = true then Qep (Xi S l) i else i
def Stands (S : List Qa) (l : List Bool) (b : Bool) (i x : Nat) : Prop := i < S.length ∧ ∃ h : x < (Jq (Qc9 S l b)).length, (Jq (Qc9 S l b))[x] = repI S l b i
theorem bury_get {S : List Qa} {l : List Bool} {i k : Nat} (h1 : k < (mvs (Xi S l) i).length) (h2 : k < (mvs S i).length) : ((mvs (Xi S l) i)[k].To < 0 ∧ ((mvs S i)[k].To < 0 ∨ l.getD (mvs S i)[k].To.toNat false = false)) ∨ (0 ≤ (mvs S i)[k].To ∧ l.getD (mvs S i)[k].To.toNat false = true ∧ (mvs (Xi S l) i)[k].To = (mvs S i)[k].To) := by
 have e : (mvs (Xi S l) i)[k] = Mk (Qcm l) (mvs S i)[k] := by simp only [Xi, Pg, Qgt]
 rw [e]
 by_cases h : (mvs S i)[k].To < 0
 ·rw [send_neg h]; exact .inl ⟨by decide, .inl h⟩
 ·cases hl : l.getD (mvs S i)[k].To.toNat false with
  | false =>
   rw [Mk, Oz, hl, if_neg (show ¬ (false = true) by decide), if_neg (by omega)]
   exact .inl ⟨by decide, .inr rfl⟩
  | true =>
   rw [Mk, Oz, hl, if_pos rfl, if_pos ⟨by omega, by omega⟩]
   exact .inr ⟨by omega, rfl, by dsimp only; omega⟩
theorem mid_get {S : List Qa} {l : List Bool} (b : Bool) (hT : toOk S) {i : Nat} (hi : i < S.length) : repI S l b i < S.length ∧ (stA (Qc9 S l b) (repI S l b i)).Rule = (stA (Xi S l) i).Rule ∧ (stA (Qc9 S l b) (repI S l b i)).R = (stA (Xi S l) i).R ∧ (mvs (Qc9 S l b) (repI S l b i)).length = (mvs (Xi S l) i).length ∧ ∀ k, (h1 : k < (mvs (Qc9 S l b) (repI S l b i)).length) → (h2 : k < (mvs (Xi S l) i).length) → ((mvs (Qc9 S l b) (repI S l b i))[k].To < 0 ∧ (mvs (Xi S l) i)[k].To < 0) ∨ (0 ≤ (mvs (Xi S l) i)[k].To ∧ (mvs (Qc9 S l b) (repI S l b i))[k].To = (repI S l b (mvs (Xi S l) i)[k].To.toNat : Int)) := by
 have hB := bury_ok (l := l) hT
 have hBl : (Xi S l).length = S.length := by rw [Xi, Wm]
 cases b with
 | false =>
  refine ⟨hi, rfl, rfl, rfl, fun k h1 h2 => ?_⟩
  show ((mvs (Xi S l) i)[k].To < 0 ∧ (mvs (Xi S l) i)[k].To < 0) ∨ (0 ≤ (mvs (Xi S l) i)[k].To ∧ (mvs (Xi S l) i)[k].To = (((mvs (Xi S l) i)[k].To.toNat : Nat) : Int))
  omega
 | true =>
  have er : ∀ j, repI S l true j = Qep (Xi S l) j := fun _ => rfl
  have hJ : Qc9 S l true = Nx (Xi S l) := rfl
  have hbB := H1 hB
  obtain ⟨g1, g2, _⟩ := Qeo hB (i := i) (by omega)
  have e1 : ∀ j, stA (Nx (Xi S l)) j = Og (Pr (Vn (Xi S l))) (stA (Xi S l) j) := fun j => by rw [Nx, Sv]
  have e4 : ∀ j, mvs (Nx (Xi S l)) j = (mvs (Xi S l) j).map (Mk (Pr (Vn (Xi S l)))) := fun j => by rw [Nx, Pg]
  rw [er, hJ]
  have key : (stA (Xi S l) (Qep (Xi S l) i)).R = (stA (Xi S l) i).R ∧ (stA (Xi S l) (Qep (Xi S l) i)).Rule = (stA (Xi S l) i).Rule ∧ (mvs (Xi S l) (Qep (Xi S l) i)).length = (mvs (Xi S l) i).length ∧ ∀ k, (h1 : k < (mvs (Xi S l) (Qep (Xi S l) i)).length) → (h2 : k < (mvs (Xi S l) i).length) → mSim (eqL (Vn (Xi S l))) (mvs (Xi S l) (Qep (Xi S l) i))[k] (mvs (Xi S l) i)[k] := by
   rcases hbB.sim _ _ g1 (by omega) g2 with ⟨h1, h2⟩ | ⟨_, _, s1, s2, s3, s4⟩
   ·rw [h1, h2]
    refine ⟨rfl, rfl, rfl, fun k a1 a2 => ?_⟩
    by_cases h : (mvs (Xi S l) 0)[k].To < 0
    ·exact .inl ⟨h, h⟩
    ·exact .inr ⟨by omega, by omega, rfl, rfl⟩
   ·exact ⟨s1, s2, s3, s4⟩
  obtain ⟨s1, s2, s3, s4⟩ := key
  refine ⟨by omega, by rw [e1]; exact s2, by rw [e1]; exact s1, by rw [e4, Qfw]; exact s3, fun k h1 h2 => ?_⟩
  have h3 : k < (mvs (Xi S l) (Qep (Xi S l) i)).length := by rw [s3]; exact h2
  have f1 : (mvs (Nx (Xi S l)) (Qep (Xi S l) i))[k] = Mk (Pr (Vn (Xi S l))) (mvs (Xi S l) (Qep (Xi S l) i))[k] := by simp only [e4, Qgt]
  rw [f1]
  rcases s4 k h3 h2 with h | ⟨a1, a2, _, a4⟩
  ·exact .inl ⟨by rw [send_neg h.1]; decide, h.2⟩
  ·rw [Qfa hB g1 (Qfy h3) a1, er, rep_eq a4]
   exact .inr ⟨a2, rfl⟩
theorem stands_zero {S : List Qa} {l : List Bool} {b : Bool} (hT : toOk S) (h0 : 0 < S.length) (hl : I5 S l) : Stands S l b 0 0 := by
 obtain ⟨m1, m2, _⟩ := mid_spec b hT hl
 obtain ⟨z1, z2, z3⟩ := order_zero m1 (by omega)
 have hBl : (Xi S l).length = S.length := by rw [Xi, Wm]
 refine ⟨h0, z1, ?_⟩
 rw [Q2 z1] at z2
 rw [z2]
 cases b with
 | false => rfl
 | true => exact ((rep_zero (bury_ok (l := l) hT) (by omega)).2 rfl).symm
theorem stands_step {S : List Qa} {l : List Bool} {b : Bool} (hT : toOk S) (h0 : 0 < S.length) (hl : I5 S l) {i x : Nat} (h : Stands S l b i x) : x < (Sm S l b).length ∧ (stA (Sm S l b) x).Rule = (stA S i).Rule ∧ (stA (Sm S l b) x).R = (stA S i).R ∧ (mvs (Sm S l b) x).length = (mvs S i).length ∧ ∀ k, (h1 : k < (mvs (Sm S l b) x).length) → (h2 : k < (mvs S i).length) → ((mvs (Sm S l b) x)[k].To < 0 ∧ ((mvs S i)[k].To < 0 ∨ l.getD (mvs S i)[k].To.toNat false = false)) ∨ (0 ≤ (mvs (Sm S l b) x)[k].To ∧ 0 ≤ (mvs S i)[k].To ∧ Stands S l b (mvs S i)[k].To.toNat (mvs (Sm S l b) x)[k].To.toNat) := by
 obtain ⟨m1, m2, m3⟩ := mid_spec b hT hl
 obtain ⟨hi, hx, hxi⟩ := h
 have ho := Ej m1 (by omega)
 obtain ⟨g1, g2, g3, g4, g5⟩ := mid_get (l := l) b hT hi
 have e1 : stA (Sm S l b) x = Og (Ef (Qc9 S l b).length (Jq (Qc9 S l b))) (stA (Qc9 S l b) (repI S l b i)) := by rw [Qel, Qe9 hx, hxi]
 have e3 : mvs (Sm S l b) x = (mvs (Qc9 S l b) (repI S l b i)).map (Mk (Ef (Qc9 S l b).length (Jq (Qc9 S l b)))) := by rw [Qel, keep_mvs hx, hxi]
 have eb := Qe3 (Qcm l) S i
 have el : (mvs (Xi S l) i).length = (mvs S i).length := by rw [Xi, Pg, Qfw]
 refine ⟨by rw [Qel, Tr]; exact hx, by rw [e1]; exact g2.trans eb.1, by rw [e1]; exact g3.trans eb.2, by rw [e3, Qfw, g4, el], fun k h1 h2 => ?_⟩
 have h3 : k < (mvs (Qc9 S l b) (repI S l b i)).length := by rw [g4, el]; exact h2
 have h4 : k < (mvs (Xi S l) i).length := by rw [el]; exact h2
 have f2 : (mvs (Sm S l b) x)[k] = Mk (Ef (Qc9 S l b).length (Jq (Qc9 S l b))) (mvs (Qc9 S l b) (repI S l b i))[k] := by simp only [e3, Qgt]
 have hro : repI S l b i ∈ Jq (Qc9 S l b) := by rw [← hxi]; exact Qfy hx
 have hb := bury_get h4 h2
 rw [f2]
 rcases g5 k h3 h4 with ⟨a1, a2⟩ | ⟨a1, a2⟩
 ·rw [send_neg a1]
  rcases hb with hb | hb
  ·exact .inl ⟨by decide, hb.2⟩
  ·omega
 ·rcases hb with hb | ⟨b1, b2, b3⟩
  ·omega
  ·have hmem : (mvs (Qc9 S l b) (repI S l b i))[k] ∈ mvs (Qc9 S l b) (repI S l b i) := Qfy h3
   have hkm := keep_move m1 (by omega) hro hmem (by omega)
   have hin := ho.closed _ hro _ hmem (by omega)
   rw [hkm]
   dsimp only
   rw [Qf1]
   have hlt := hT i hi _ (Qfy h2)
   refine .inr ⟨by omega, b1, by omega, Qg9.2 hin, ?_⟩
   rw [Qhq, a2, Qf1, b3]
theorem flat_rc {α : Type} (c : Nat) (d : α) : ∀ (N : List (List α)), (∀ r ∈ N, r.length = c) → ∀ n k, n < N.length → k < c → n * c + k < N.flatten.length ∧ N.flatten.getD (n * c + k) d = (N.getD n []).getD k d
 | [], _, n, _, hn, _ => absurd hn (Qhj _)
 | r :: N, h, 0, k, _, hk => by
  have hr := h r Qga
  rw [Qgh, Qji, Qgq]
  refine ⟨by rw [Qfu]; omega, ?_⟩
  rw [Q2 (by rw [Qfu]; omega), Qhm (by omega)]
  show _ = r.getD k d
  rw [Q2 (by omega)]
 | r :: N, h, n + 1, k, hn, hk => by
  have hr := h r Qga
  rw [Qgc] at hn
  obtain ⟨h1, h2⟩ := flat_rc c d N (fun r hr => h r (Qf5 _ hr)) n k (by omega) hk
  have e : (n + 1) * c + k = r.length + (n * c + k) := by rw [Qh9]; omega
  rw [Qgh, e]
  refine ⟨by rw [Qfu]; omega, ?_⟩
  show _ = (N.getD n []).getD k d
  rw [← h2, Q2 (by rw [Qfu]; omega), Q2 h1, Qi7 (by omega)]
  congr 1
  omega
end Go.Rv
