/- Trimming, plainly: the reference's Live. -/
import Derived.Test.YtcmfaclkgdmpbaaGreatDoorRpUO
namespace Go.Rv
def P8 (S : List Qa) (out : List Bool) (i : Nat) : Bool := Qh0 (stA S i) || (mvs S i).any (Tr out)
def Qf1 (S : List Qa) : Nat → Nat → List Bool → Bool → List Bool × Bool
 | 0, _, out, ch => (out, ch)
 | m + 1, i, out, ch => if out.getD i false = true then Qf1 S m (i + 1) out ch else Qf1 S m (i + 1) (out.set i (P8 S out i)) (ch || P8 S out i)
theorem Qi1 {out : List Bool} {i : Nat} (h : out.getD i false = false) : out.set i false = out := by
 by_cases hi : i < out.length
 ·rw [Zb hi] at h
  rw [← h, List.set_getElem_self]
 ·rw [List.set_eq_of_length_le (by omega)]
theorem rlive_l3 (K : Nat) (go : Bool → Int → Int → Qc → (List Bool) → (List Int) → (List Int) → (List Int) → (List (List Qd)) → Option (List Bool)) (ch : Bool) (i c : Nat) (z : Int) (u v : Bool) (a : Qc) (L R U : List Int) (V : List (List Qd)) (hc : c < V.length) (out : List Bool) (hi : i < out.length) (ho : out.getD i false = false) (hm : ∀ m ∈ V[c], m.To < out.length) (hr : V[c].length ≤ 256) : ∀ (q k j : Nat) (b : Bool), V[c].length - j = q → q < k →
  Xl K go k ch (i : Int) (c : Int) (j : Int) z u v a (out.set i b) L R U V = go (ch || (b || (V[c].drop j).any (Tr out))) (i : Int) (IntKind.i64.wrap ((c : Int) + 1)) a (out.set i (b || (V[c].drop j).any (Tr out))) L R U V := by
 intro q
 induction q with
 | zero =>
  intro k j b hq hk
  obtain ⟨k, rfl⟩ : ∃ q, k = q + 1 := ⟨k - 1, by omega⟩
  have hg : Yb (out.set i b) (i : Int) = some b := by rw [Q2 (by rw [Qne]; exact hi), Qoa]
  rw [Xl]
  dsimp only
  rw [Q2 hc, bS, Qme (by omega), cF, hg, bS, Qmn (by omega), List.any_nil, Bool.or_false]
  cases ch with
  | true => rw [cT, Bool.true_or]
  | false => rw [cF, Qoj]
 | succ q ih =>
  intro k j b hq hk
  obtain ⟨k, rfl⟩ : ∃ q, k = q + 1 := ⟨k - 1, by omega⟩
  have hj : j < V[c].length := by omega
  have hlt : (j : Int) < (V[c].length : Int) := by omega
  have ht := hm _ (Qmg hj)
  have hg : Yb (out.set i b) (i : Int) = some b := by rw [Q2 (by rw [Qne]; exact hi), Qoa]
  have hss : ∀ b', (out.set i b).set i b' = out.set i b' := fun b' => Qpl ..
  rw [Xl]
  dsimp only
  rw [Q2 hc, bS, Qmk hlt, cT, Q2 hj, bS, hg, bS, B1 (n := j) (by omega), Qmi hj, List.any_cons, Qml, hss, hss]
  generalize V[c][j] = m at *
  cases b with
  | true => rw [cT, ih k (j + 1) true (by omega) (by omega), Bool.true_or, Bool.true_or]
  | false =>
   rw [cF]
   rw [Qi1 ho]
   by_cases h0 : m.To ≥ 0
   ·have hgm : Yb out m.To = some (out.getD m.To.toNat false) := by
     have := Qb3 (l := out) false (i := m.To.toNat) (by omega)
     rw [Qn9 h0] at this
     exact this
    rw [Qmk h0, cT, hgm, bS, ih k (j + 1) _ (by omega) (by omega), Tr, Qmk h0, Qmx, Qoj]
   ·have e : Tr out m = false := by rw [Tr, Qme h0, Bool.false_and]
    have h1 := ih k (j + 1) false (by omega) (by omega)
    rw [Qi1 ho] at h1
    rw [Qme h0, cF, h1, e, Qoj, Qoj]
theorem rlive_l2 (K : Nat) (hK : 1000 ≤ K) (go : Bool → Int → Qc → (List Bool) → Option (List Bool)) (ch : Bool) (i : Nat) (a : Qc) (s : Qa) (hs : Cq s) (hrl : s.Rule.length = s.Next.length) (out : List Bool) (hi : i < out.length) (hm : ∀ r ∈ s.Next, ∀ m ∈ r, m.To < out.length) : ∀ (q k c : Nat) (b : Bool), s.Next.length - c = q → q < k → c ≤ s.Next.length → out.getD i false = false →
  Yc K go k ch (i : Int) (c : Int) a out s.L s.R s.Rule s.Next = go (ch || restL out s c) (IntKind.i64.wrap ((i : Int) + 1)) a (out.set i (restL out s c)) := by
 have hn := hs.next
 intro q
 induction q with
 | zero =>
  intro k c b hq hk hc ho
  obtain ⟨k, rfl⟩ : ∃ q, k = q + 1 := ⟨k - 1, by omega⟩
  rw [Yc]
  dsimp only
  rw [Qme (by omega), cF, restL, Qmn (by omega), Qmn (by omega), List.flatten_nil, List.any_nil, List.any_nil, Bool.or_false, Bool.or_false, Qi1 ho]
  rfl
 | succ q ih =>
  intro k c b hq hk hc ho
  obtain ⟨k, rfl⟩ : ∃ q, k = q + 1 := ⟨k - 1, by omega⟩
  have hcl : c < s.Next.length := by omega
  have hcr : c < s.Rule.length := by omega
  have hlt : (c : Int) < (s.Next.length : Int) := by omega
  have hrow := Qmg hcl
  have h3 := fun b => rlive_l3 K (Yc K go k) ch i c (i : Int) false (!false) a s.L s.R s.Rule s.Next hcl out hi ho (hm _ hrow) (hs.row _ hrow) s.Next[c].length K 0 b rfl (by have := hs.row _ hrow; omega)
  rw [Qmr, Qmu, B1 (n := c) (by omega)] at h3
  rw [Yc]
  dsimp only
  rw [Qmk hlt, cT, Qb3 false hi, bS, ho, Qm4, cT, Q2 hcr, bS, Qml]
  rw [Qm4] at h3
  rw [h3, restL, Qmi hcl, Qmi hcr, List.any_cons, Qmz, List.any_append]
  cases hb : (decide (s.Rule[c] ≥ 0) || s.Next[c].any (Tr out)) with
  | true =>
   obtain ⟨k, rfl⟩ : ∃ q, k = q + 1 := ⟨k - 1, by omega⟩
   have he : (decide (s.Rule[c] ≥ 0) || (s.Rule.drop (c + 1)).any (fun r => decide (r ≥ 0)) || (s.Next[c].any (Tr out) || (s.Next.drop (c + 1)).flatten.any (Tr out))) = true := by
    revert hb
    cases decide (s.Rule[c] ≥ 0) <;> cases s.Next[c].any (Tr out) <;> cases (s.Rule.drop (c + 1)).any (fun r => decide (r ≥ 0)) <;> cases (s.Next.drop (c + 1)).flatten.any (Tr out) <;> decide
   have hg : Yb (out.set i true) (i : Int) = some true := by rw [Q2 (by rw [Qne]; exact hi), Qoa]
   rw [he, Yc]
   dsimp only
   rw [hg, bS, Qm5, cF]
   by_cases h9 : ((c + 1 : Nat) : Int) < (s.Next.length : Int)
   ·rw [Qmk h9, cT]; rfl
   ·rw [Qme h9, cF]; rfl
  | false =>
   have he : (decide (s.Rule[c] ≥ 0) || (s.Rule.drop (c + 1)).any (fun r => decide (r ≥ 0)) || (s.Next[c].any (Tr out) || (s.Next.drop (c + 1)).flatten.any (Tr out))) = restL out s (c + 1) := by
    rw [restL]
    revert hb
    cases decide (s.Rule[c] ≥ 0) <;> cases s.Next[c].any (Tr out) <;> cases (s.Rule.drop (c + 1)).any (fun r => decide (r ≥ 0)) <;> cases (s.Next.drop (c + 1)).flatten.any (Tr out) <;> decide
   rw [he, Bool.or_false, Qi1 ho]
   exact ih k (c + 1) b (by omega) (by omega) (by omega) ho
theorem rlive_l1 (K : Nat) (hK : 1000 ≤ K) (go : Bool → Qc → (List Bool) → Option (List Bool)) {a : Qc} (h : RQ a) : ∀ (q k i : Nat) (ch : Bool) (out : List Bool), a.States.length - i = q → q < k → i ≤ a.States.length → out.length = a.States.length →
  Yk K go k ch (i : Int) a out = go (Qf1 a.States q i out ch).2 a (Qf1 a.States q i out ch).1 := by
 have hn := h.n2
 intro q
 induction q with
 | zero =>
  intro k i ch out hq hk hi ho
  obtain ⟨k, rfl⟩ : ∃ q, k = q + 1 := ⟨k - 1, by omega⟩
  rw [Yk]
  dsimp only
  rw [Qme (by omega), cF]
  rfl
 | succ q ih =>
  intro k i ch out hq hk hi ho
  obtain ⟨k, rfl⟩ : ∃ q, k = q + 1 := ⟨k - 1, by omega⟩
  have hil : i < a.States.length := by omega
  have hmem := Qmg hil
  have hs := h.small hmem
  have hq' := h.st _ hmem
  have hsn := hs.next
  rw [Yk]
  dsimp only
  rw [Qmk (by omega), cT, Q2 hil, bS, Qf1]
  by_cases hb : out.getD i false = true
  ·obtain ⟨K', rfl⟩ : ∃ q, K = q + 1 := ⟨K - 1, by omega⟩
   rw [if_pos hb]
   have e : ∀ (j : Int), Yc (K' + 1) (Yk (K' + 1) go k) (K' + 1) ch (i : Int) j a out a.States[i].L a.States[i].R a.States[i].Rule a.States[i].Next = Ji (K' + 1) (Yk (K' + 1) go k) ch (i : Int) a out := fun j => by
    rw [Yc]
    dsimp only
    rw [Qb3 false (by omega), hb, bS, Qm5, cF]
    cases decide (j < (a.States[i].Next.length : Int)) <;> rfl
   rw [e, Ji, B1 (n := i) (by omega)]
   exact ih k (i + 1) ch out (by omega) (by omega) (by omega) ho
  ·have hb' : out.getD i false = false := by simpa using hb
   have h2 := rlive_l2 K hK (Yk K go k) ch i a a.States[i] hs (by have := hq'.rl; have := hq'.nl; omega) out (by omega) (fun r hr m hm => by
    have := h.toOk i hil m (by rw [mvs, Wq hil]; exact Qn8.2 ⟨r, hr, hm⟩)
    omega) a.States[i].Next.length K 0 false rfl (by omega) (Qmm _) hb'
   have e : restL out a.States[i] 0 = P8 a.States out i := by rw [restL, P8, Qmu, Qmu, mvs, Wq hil]; rfl
   rw [Qmr, B1 (n := i) (by omega), e] at h2
   rw [if_neg hb, h2]
   exact ih k (i + 1) _ _ (by omega) (by omega) (by omega) (by rw [Qne]; exact ho)
def Qga (out : List Bool) : Nat := (out.filter fun b => !b).length
theorem falses_le (out : List Bool) : Qga out ≤ out.length := List.length_filter_le _ _
theorem falses_set : ∀ (out : List Bool) (i : Nat), i < out.length → out.getD i false = false → Qga (out.set i true) + 1 = Qga out := by
 intro out
 induction out with
 | nil => intro i h; simp at h
 | cons b out ih =>
  intro i h hb
  cases i with
  | zero =>
   simp only [List.getD_cons_zero] at hb
   subst hb
   simp [Qga]
  | succ i =>
   simp only [List.getD_cons_succ] at hb
   have := ih i (by simpa using h) hb
   simp only [Qga, Qov] at this ⊢
   cases b <;> simp only [List.filter_cons, Qm4, Qm5, if_true, Qmw] <;> simp at this ⊢ <;> omega
theorem pass_spec {S : List Qa} (hT : toOk S) : ∀ (q i : Nat) (out : List Bool) (ch : Bool), S.length - i = q → i ≤ S.length → out.length = S.length → (∀ j, out.getD j false = true → Qkz S j) →
  (Qf1 S q i out ch).1.length = S.length ∧ (∀ j, (Qf1 S q i out ch).1.getD j false = true → Qkz S j) ∧ Qga (Qf1 S q i out ch).1 ≤ Qga out ∧ ((Qf1 S q i out ch).2 = true → ch = true ∨ Qga (Qf1 S q i out ch).1 < Qga out) ∧ ((Qf1 S q i out ch).2 = false → ch = false ∧ (Qf1 S q i out ch).1 = out ∧ ∀ j, i ≤ j → j < S.length → out.getD j false = true ∨ P8 S out j = false) := by
 intro q
 induction q with
 | zero =>
  intro i out ch hq hi ho hl
  exact ⟨ho, hl, Qms _, fun h => .inl h, fun h => ⟨h, rfl, fun j h1 h2 => by omega⟩⟩
 | succ q ih =>
  intro i out ch hq hi ho hl
  rw [Qf1]
  by_cases hb : out.getD i false = true
  ·rw [if_pos hb]
   obtain ⟨g1, g2, g3, g4, g5⟩ := ih (i + 1) out ch (by omega) (by omega) ho hl
   refine ⟨g1, g2, g3, g4, fun h => ?_⟩
   obtain ⟨a, b, c⟩ := g5 h
   refine ⟨a, b, fun j h1 h2 => ?_⟩
   by_cases hj : j = i
   ·subst hj; exact .inl hb
   ·exact c j (by omega) h2
  ·have hb' : out.getD i false = false := by simpa using hb
   rw [if_neg hb]
   cases hv : P8 S out i with
   | false =>
    rw [Qi1 hb', Bool.or_false]
    obtain ⟨g1, g2, g3, g4, g5⟩ := ih (i + 1) out ch (by omega) (by omega) ho hl
    refine ⟨g1, g2, g3, g4, fun h => ?_⟩
    obtain ⟨a, b, c⟩ := g5 h
    refine ⟨a, b, fun j h1 h2 => ?_⟩
    by_cases hj : j = i
    ·subst hj; exact .inr hv
    ·exact c j (by omega) h2
   | true =>
    have hf := falses_set out i (by omega) hb'
    have hlive : Qkz S i := by
     rw [P8, Qo7, Qol] at hv
     rcases hv with hv | ⟨m, hm, hg⟩
     ·exact .rule (by omega) hv
     ·rw [Tr, Qnh, Qnw] at hg
      exact .step m (by omega) hm hg.1 (hl _ hg.2)
    obtain ⟨g1, g2, g3, g4, g5⟩ := ih (i + 1) (out.set i true) (ch || true) (by omega) (by omega) (by rw [Qne]; exact ho) fun j hj => by
     by_cases hji : i = j
     ·subst hji; exact hlive
     ·refine hl j ?_
      simp only [List.getD, List.getElem?_set_ne hji] at hj
      exact hj
    refine ⟨g1, g2, by omega, fun _ => .inr (by omega), fun h => ?_⟩
    have := (g5 h).1
    rw [Bool.or_true] at this
    cases this
theorem rlive_l0 (K : Nat) (hK : 1000 ≤ K) {a : Qc} (h : RQ a) : ∀ (q k : Nat) (out : List Bool), Qga out ≤ q → q < k → out.length = a.States.length → (∀ j, out.getD j false = true → Qkz a.States j) →
  ∃ l, Yd K (k + 1) true a out = some l ∧ Qge a.States l := by
 intro q
 induction q with
 | zero =>
  intro k out hq hk ho hl
  obtain ⟨k, rfl⟩ : ∃ q, k = q + 1 := ⟨k - 1, by omega⟩
  have h1 := rlive_l1 K hK (Yd K (k + 1)) h a.States.length K 0 false out rfl (by have := h.n2; omega) (Qmm _) ho
  obtain ⟨g1, g2, g3, g4, g5⟩ := pass_spec h.toOk a.States.length 0 out false rfl (Qmm _) ho hl
  have hf : (Qf1 a.States a.States.length 0 out false).2 = false := by
   cases hv : (Qf1 a.States a.States.length 0 out false).2 with
   | false => rfl
   | true =>
    rcases g4 hv with h | h
    ·cases h
    ·omega
  obtain ⟨_, e, c⟩ := g5 hf
  refine ⟨out, ?_, Qlq ho hl (fun i hi hr => ?_) fun i hi m hm h0 hlm => ?_⟩
  ·rw [Yd]
   dsimp only
   rw [Qmr] at h1
   rw [cT, h1, hf, e, Yd]
   rfl
  ·rcases c i (Qmm _) hi with h | h
   ·exact h
   ·rw [P8, hr, Bool.true_or] at h; cases h
  ·rcases c i (Qmm _) hi with h | h
   ·exact h
   ·have : (mvs a.States i).any (Tr out) = true := Qol.2 ⟨m, hm, by rw [Tr, Qmk h0, hlm]; rfl⟩
    rw [P8, this, Bool.or_true] at h; cases h
 | succ q ih =>
  intro k out hq hk ho hl
  obtain ⟨k, rfl⟩ : ∃ q, k = q + 1 := ⟨k - 1, by omega⟩
  have h1 := rlive_l1 K hK (Yd K (k + 1)) h a.States.length K 0 false out rfl (by have := h.n2; omega) (Qmm _) ho
  obtain ⟨g1, g2, g3, g4, g5⟩ := pass_spec h.toOk a.States.length 0 out false rfl (Qmm _) ho hl
  rw [Qmr] at h1
  rw [Yd]
  dsimp only
  rw [cT, h1]
  cases hv : (Qf1 a.States a.States.length 0 out false).2 with
  | true =>
   refine ih k _ ?_ (by omega) g1 g2
   rcases g4 hv with h | h
   ·cases h
   ·omega
  | false =>
   obtain ⟨_, e, c⟩ := g5 hv
   refine ⟨out, ?_, Qlq ho hl (fun i hi hr => ?_) fun i hi m hm h0 hlm => ?_⟩
   ·rw [e, Yd]; rfl
   ·rcases c i (Qmm _) hi with h | h
    ·exact h
    ·rw [P8, hr, Bool.true_or] at h; cases h
   ·rcases c i (Qmm _) hi with h | h
    ·exact h
    ·have : (mvs a.States i).any (Tr out) = true := Qol.2 ⟨m, hm, by rw [Tr, Qmk h0, hlm]; rfl⟩
     rw [P8, this, Bool.or_true] at h; cases h
theorem rlive_ok {a : Qc} (h : Sg a) {K : Nat} (hK : 1000 ≤ K) : ∃ l, U1 K a = some l ∧ Qge a.States l := by
 have hn := h.1.n2
 have hfl := falses_le (List.replicate a.States.length false)
 rw [Qm2] at hfl
 obtain ⟨K', rfl⟩ : ∃ q, K = q + 1 := ⟨K - 1, by omega⟩
 obtain ⟨l, h1, h2⟩ := rlive_l0 (K' + 1) hK h.1 256 K' (List.replicate a.States.length false) (by omega) (by omega) (Qm2 ..) fun j hj => by
  have := repl_get (d := false) (by rw [hj]; decide)
  rw [Zb (by rw [Qm2]; exact this), Qn5] at hj
  cases hj
 refine ⟨l, ?_, h2⟩
 rw [U1, h.ref (by omega), bS, Qm5, cF, Z5 (by omega), Z5 (Zn.2 ⟨by simp only [maxLen]; omega, by omega⟩), Qml]
 exact h1
theorem rlive_bad {a : Qc} {K : Nat} (h : Yj K a = some false) : U1 K a = some [] := by
 rw [U1, h, bS, Qm4, cT]
end Go.Rv
