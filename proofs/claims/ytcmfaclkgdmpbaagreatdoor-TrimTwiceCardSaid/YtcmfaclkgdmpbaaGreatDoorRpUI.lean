/- Trimming, plainly: moves sent elsewhere; states as they are come to. -/
/- Automata, plainly: Right as a proposition. -/
/- Trimming, plainly: Live tells from which states a rule may end yet. -/
/- Trimming, plainly: moves sent elsewhere. -/
import Derived.Test.YtcmfaclkgdmpbaaGreatDoorRpUE
namespace Go.Rv
def toOk (S : List Qa) : Prop := ∀ i, i < S.length → ∀ m ∈ mvs S i, m.To < S.length
def K8 (to : List Int) (m : Qe) : Qe := if 0 ≤ m.To ∧ 0 ≤ to.getD m.To.toNat (-1) then ⟨to.getD m.To.toNat (-1), m.Ops⟩ else ⟨-1, []⟩
def Pr (to : List Int) (s : Qa) : Qa := ⟨s.L, s.R, s.Rule, s.Next.map fun r => r.map (K8 to)⟩
def Df (to : List Int) (S : List Qa) : List Qa := S.map (Pr to)
theorem send_flat (to : List Int) (s : Qa) : (Pr to s).Next.flatten = s.Next.flatten.map (K8 to) := by
 rw [Pr]
 exact List.map_flatten.symm
theorem Lu (to : List Int) (S : List Qa) : (Df to S).length = S.length := by rw [Df, List.length_map]
theorem Qbz (to : List Int) (S : List Qa) (i : Nat) : stA (Df to S) i = Pr to (stA S i) := by
 rw [stA, stA, Df]
 simp only [List.getD, List.getElem?_map]
 cases S[i]? <;> rfl
theorem Qe6 (to : List Int) (S : List Qa) (i : Nat) : mvs (Df to S) i = (mvs S i).map (K8 to) := by
 rw [mvs, Qbz, send_flat]
 rfl
def Qhc (l : List Bool) : List Int := (List.range l.length).map fun i => if l.getD i false = true then (i : Int) else -1
def Ti (l : List Nat) : List Int := l.map fun k => (l.idxOf k : Int)
def Qeq (o : List Nat) (m : Qe) : List Nat := if 0 ≤ m.To ∧ m.To.toNat ∉ o then o ++ [m.To.toNat] else o
def bfs (S : List Qa) : Nat → Nat → List Nat → List Nat
 | 0, _, o => o
 | k + 1, i, o => if i < o.length then bfs S k (i + 1) ((mvs S (o.getD i 0)).foldl Qeq o) else o
def Z1 (S : List Qa) : List Nat := bfs S (S.length + 1) 0 [0]
def C5 (n : Nat) (o : List Nat) : List Int := (List.range n).map fun j => if j ∈ o then (o.idxOf j : Int) else -1
def Po (S : List Qa) : List Qa := (Z1 S).map fun i => Pr (C5 S.length (Z1 S)) (stA S i)
def Uu (S : List Qa) (l : List Bool) : List Qa := Df (Qhc l) S
def Vh (S : List Qa) : List Nat := blkS S (S.length + 1) (List.replicate S.length 0) 0
def Qbf (S : List Qa) : List Qa := Df (Ti (Vh S)) S
def Bb (S : List Qa) (l : List Bool) (b : Bool) : List Qa := Po (if b = true then Qbf (Uu S l) else Uu S l)
theorem Qch {l : List Bool} {i : Nat} : (Qhc l).getD i (-1) = if l.getD i false = true then (i : Int) else -1 := by
 by_cases h : i < l.length
 ·rw [Qhc, Zc (by rw [List.length_map, List.length_range]; exact h), List.getElem_map, List.getElem_range]
 ·rw [Qhc]; simp [List.getD, h]
theorem Qce {l : List Nat} {i : Nat} (h : i < l.length) : (Ti l).getD i (-1) = (l.idxOf l[i] : Int) := by
 rw [Ti, Zc (by rw [List.length_map]; exact h), List.getElem_map]
theorem Sk {n : Nat} {o : List Nat} {i : Nat} (h : i < n) : (C5 n o).getD i (-1) = if i ∈ o then (o.idxOf i : Int) else -1 := by
 rw [C5, Zc (by rw [List.length_map, List.length_range]; exact h), List.getElem_map, List.getElem_range]
theorem addO_mem {o : List Nat} {m : Qe} {x : Nat} : x ∈ Qeq o m ↔ x ∈ o ∨ (0 ≤ m.To ∧ x = m.To.toNat) := by
 rw [Qeq]
 by_cases h : 0 ≤ m.To ∧ m.To.toNat ∉ o
 ·rw [if_pos h, List.mem_append, List.mem_singleton]
  constructor
  ·rintro (h1 | h1)
   ·exact .inl h1
   ·exact .inr ⟨h.1, h1⟩
  ·rintro (h1 | h1)
   ·exact .inl h1
   ·exact .inr h1.2
 ·rw [if_neg h]
  constructor
  ·exact .inl
  ·rintro (h1 | ⟨h1, rfl⟩)
   ·exact h1
   ·exact Decidable.byContradiction fun hc => h ⟨h1, hc⟩
theorem foldO_mem : ∀ (ms : List Qe) (o : List Nat) (x : Nat), x ∈ ms.foldl Qeq o ↔ x ∈ o ∨ ∃ m ∈ ms, 0 ≤ m.To ∧ x = m.To.toNat := by
 intro ms
 induction ms with
 | nil => intro o x; simp
 | cons m ms ih =>
  intro o x
  rw [List.foldl_cons, ih, addO_mem]
  constructor
  ·rintro ((h | h) | ⟨m', h1, h2⟩)
   ·exact .inl h
   ·exact .inr ⟨m, List.mem_cons_self, h⟩
   ·exact .inr ⟨m', List.mem_cons_of_mem _ h1, h2⟩
  ·rintro (h | ⟨m', h1, h2⟩)
   ·exact .inl (.inl h)
   ·rcases List.mem_cons.1 h1 with rfl | h1
    ·exact .inl (.inr h2)
    ·exact .inr ⟨m', h1, h2⟩
theorem addO_nodup {o : List Nat} {m : Qe} (h : o.Nodup) : (Qeq o m).Nodup := by
 rw [Qeq]
 split
 ·next hk => exact List.nodup_append.2 ⟨h, List.nodup_cons.2 ⟨List.not_mem_nil, List.nodup_nil⟩, fun a ha b hb => by rw [List.mem_singleton.1 hb]; exact fun e => hk.2 (e ▸ ha)⟩
 ·exact h
theorem Qh2 : ∀ (ms : List Qe) (o : List Nat), o.Nodup → (ms.foldl Qeq o).Nodup := by
 intro ms
 induction ms with
 | nil => intro o h; exact h
 | cons m ms ih => intro o h; exact ih _ (addO_nodup h)
theorem addO_pre (o : List Nat) (m : Qe) : ∃ t, Qeq o m = o ++ t := by
 rw [Qeq]
 split
 ·exact ⟨_, rfl⟩
 ·exact ⟨[], (List.append_nil _).symm⟩
theorem Qh1 : ∀ (ms : List Qe) (o : List Nat), ∃ t, ms.foldl Qeq o = o ++ t := by
 intro ms
 induction ms with
 | nil => intro o; exact ⟨[], (List.append_nil _).symm⟩
 | cons m ms ih =>
  intro o
  obtain ⟨t, ht⟩ := addO_pre o m
  obtain ⟨u, hu⟩ := ih (Qeq o m)
  exact ⟨t ++ u, by rw [List.foldl_cons, hu, ht, List.append_assoc]⟩
structure Ord (S : List Qa) (o r : List Nat) : Prop where
 pre : ∃ t, r = o ++ t
 nodup : r.Nodup
 lt : ∀ x ∈ r, x < S.length
 closed : ∀ a ∈ r, ∀ m ∈ mvs S a, 0 ≤ m.To → m.To.toNat ∈ r
 why : ∀ x ∈ r, x ∈ o ∨ ∃ a ∈ r, ∃ m ∈ mvs S a, 0 ≤ m.To ∧ x = m.To.toNat
theorem bfs_spec {S : List Qa} (hT : toOk S) : ∀ (k i : Nat) (o : List Nat), o.Nodup → (∀ x ∈ o, x < S.length) → i ≤ o.length → S.length < k + i → (∀ j, (h : j < o.length) → j < i → ∀ m ∈ mvs S o[j], 0 ≤ m.To → m.To.toNat ∈ o) → Ord S o (bfs S k i o) := by
 intro k
 induction k with
 | zero =>
  intro i o h1 h2 h3 h4 h5
  have := Qdq o (List.range S.length) h1 fun x hx => List.mem_range.2 (h2 x hx)
  rw [List.length_range] at this
  omega
 | succ k ih =>
  intro i o h1 h2 h3 h4 h5
  rw [bfs]
  by_cases hi : i < o.length
  ·rw [if_pos hi, Zc hi]
   have hlt := h2 _ (List.getElem_mem hi)
   obtain ⟨t, ht⟩ := Qh1 (mvs S o[i]) o
   have hmem := foldO_mem (mvs S o[i]) o
   obtain ⟨⟨u, hu⟩, g2, g3, g4, g5⟩ := ih (i + 1) _ (Qh2 (mvs S o[i]) o h1) (fun x hx => by
     rcases (hmem x).1 hx with h | ⟨m, hm, h0, rfl⟩
     ·exact h2 x h
     ·have := hT _ hlt m hm; omega) (by rw [ht, List.length_append]; omega) (by omega) (fun j hj hji m hm h0 => by
     have hjo : j < o.length := by omega
     have he : ((mvs S o[i]).foldl Qeq o)[j] = o[j] := by simp only [ht]; exact List.getElem_append_left hjo
     rw [he] at hm
     refine (hmem _).2 ?_
     by_cases hj' : j < i
     ·exact .inl (h5 j hjo hj' m hm h0)
     ·have : j = i := by omega
      subst this
      exact .inr ⟨m, hm, h0, rfl⟩)
   refine ⟨⟨t ++ u, by rw [hu, ht, List.append_assoc]⟩, g2, g3, g4, fun x hx => ?_⟩
   rcases g5 x hx with h | h
   ·rcases (hmem x).1 h with h | ⟨m, hm, h0, he⟩
    ·exact .inl h
    ·refine .inr ⟨o[i], ?_, m, hm, h0, he⟩
     rw [hu]
     exact List.mem_append.2 (.inl ((hmem _).2 (.inl (List.getElem_mem hi))))
   ·exact .inr h
  ·rw [if_neg hi]
   refine ⟨⟨[], (List.append_nil _).symm⟩, h1, h2, fun a ha m hm h0 => ?_, fun x hx => .inl hx⟩
   obtain ⟨j, hj, rfl⟩ := List.getElem_of_mem ha
   exact h5 j hj (by omega) m hm h0
theorem Kn {S : List Qa} (hT : toOk S) (h0 : 0 < S.length) : Ord S [0] (Z1 S) :=
 bfs_spec hT (S.length + 1) 0 [0] (List.nodup_cons.2 ⟨List.not_mem_nil, List.nodup_nil⟩) (fun x hx => by rw [List.mem_singleton.1 hx]; exact h0) (Nat.zero_le _) (by omega) fun j _ h => absurd h (Nat.not_lt_zero _)
theorem Jy {S : List Qa} (hT : toOk S) : Blk S (Vh S) :=
 blk_spec S hT _ _ _ (by rw [List.length_replicate]) (Nat.zero_le _) (by omega) fun E hE i j h => by
  obtain ⟨h1, h2, _⟩ := hE i j h
  rw [eqL, Zc (by rw [List.length_replicate]; exact h1), Zc (by rw [List.length_replicate]; exact h2), List.getElem_replicate, List.getElem_replicate]
inductive Qbm (S : List Qa) : Nat → Prop
 | rule {i : Nat} : i < S.length → Iu (stA S i) = true → Qbm S i
 | step {i : Nat} (m : Qe) : i < S.length → m ∈ mvs S i → 0 ≤ m.To → Qbm S m.To.toNat → Qbm S i
structure Ow (S : List Qa) (l : List Bool) : Prop where
 len : l.length = S.length
 iff : ∀ i, l.getD i false = true ↔ Qbm S i
theorem Ow.uniq {S : List Qa} {l r : List Bool} (h : Ow S l) (g : Ow S r) : l = r := by
 refine List.ext_getElem (h.len.trans g.len.symm) fun i h1 h2 => ?_
 have := (h.iff i).trans (g.iff i).symm
 rw [Zc h1, Zc h2] at this
 exact Bool.eq_iff_iff.2 this
theorem bury_to {S : List Qa} {l : List Bool} {i : Nat} {m : Qe} (hm : m ∈ mvs (Uu S l) i) (h0 : 0 ≤ m.To) : m ∈ mvs S i ∧ l.getD m.To.toNat false = true := by
 rw [Uu, Qe6] at hm
 obtain ⟨q, hq, rfl⟩ := List.mem_map.1 hm
 rw [K8, Qch] at h0 ⊢
 by_cases hl : l.getD q.To.toNat false = true
 ·rw [if_pos hl] at h0 ⊢
  by_cases hc : 0 ≤ q.To
  ·rw [if_pos ⟨hc, by omega⟩]
   refine ⟨?_, by show l.getD (Int.toNat (q.To.toNat : Int)) false = true; rw [Int.toNat_natCast]; exact hl⟩
   have : (⟨(q.To.toNat : Int), q.Ops⟩ : Qe) = q := by rw [Int.toNat_of_nonneg hc]
   rw [this]; exact hq
  ·rw [if_neg (by omega)] at h0; dsimp only at h0; omega
 ·rw [if_neg hl, if_neg (by omega)] at h0; dsimp only at h0; omega
theorem bury_ok {S : List Qa} {l : List Bool} (hT : toOk S) : toOk (Uu S l) := fun i hi m hm => by
 rw [Uu, Lu] at hi ⊢
 by_cases h0 : 0 ≤ m.To
 ·exact hT i hi m (bury_to hm h0).1
 ·omega
theorem join_to {S : List Qa} (hT : toOk S) {i : Nat} {m : Qe} (hi : i < S.length) (hm : m ∈ mvs (Qbf S) i) (h0 : 0 ≤ m.To) : ∃ q ∈ mvs S i, 0 ≤ q.To ∧ m.Ops = q.Ops ∧ m.To = ((Vh S).idxOf ((Vh S).getD q.To.toNat 0) : Int) := by
 have hl := (Jy hT).len
 rw [Qbf, Qe6] at hm
 obtain ⟨q, hq, rfl⟩ := List.mem_map.1 hm
 rw [K8] at h0 ⊢
 by_cases hc : 0 ≤ q.To
 ·have hq' := hT i hi q hq
  have hj := Qce (l := Vh S) (i := q.To.toNat) (by omega)
  rw [hj] at h0 ⊢
  rw [if_pos ⟨hc, by omega⟩]
  exact ⟨q, hq, hc, rfl, by rw [Zc (by omega)]⟩
 ·rw [if_neg (by omega)] at h0; dsimp only at h0; omega
theorem join_ok {S : List Qa} (hT : toOk S) : toOk (Qbf S) := fun i hi m hm => by
 rw [Qbf, Lu] at hi ⊢
 by_cases h0 : 0 ≤ m.To
 ·obtain ⟨q, hq, hc, _, he⟩ := join_to hT hi hm h0
  have hl := (Jy hT).len
  have := hT i hi q hq
  have h1 : (Vh S).idxOf ((Vh S).getD q.To.toNat 0) < (Vh S).length := by
   rw [Zc (by omega)]
   exact List.idxOf_lt_length_iff.2 (List.getElem_mem _)
  omega
 ·omega
theorem B1 (S : List Qa) : (Po S).length = (Z1 S).length := by rw [Po, List.length_map]
end Go.Rv
namespace Go.Rv
def MvQ (S : List Qa) (R : List Int) (m : Qe) : Prop :=
 (m.To = -1 ∧ m.Ops = []) ∨ (1 ≤ m.To ∧ m.To < S.length ∧ m.Ops.length = (stA S m.To.toNat).R.length ∧ ∀ i, (h : i < m.Ops.length) → 1 ≤ m.Ops[i] ∧ m.Ops[i] ≤ 3 ∧ (m.Ops[i] = 3 ∨ (stA S m.To.toNat).R.getD i 0 ∈ R))
structure StQ (n : Nat) (many : Int) (S : List Qa) (s : Qa) : Prop where
 code : Vu s.R.length ≠ 0
 rl : (s.Rule.length : Int) = Vu s.R.length
 nl : (s.Next.length : Int) = Vu s.R.length
 l : Qdd s.L 512 = true
 r : Qdd s.R n = true
 rule : ∀ r ∈ s.Rule, -1 ≤ r ∧ r < 512
 row : ∀ r ∈ s.Next, (r.length : Int) = many
 mv : ∀ r ∈ s.Next, ∀ m ∈ r, MvQ S s.R m
structure RQ (a : Ql) : Prop where
 split : splitS a.Split = true
 cl : a.Counts.length ≤ 512
 cn : ∀ c ∈ a.Counts, cntP c = true
 n1 : 1 ≤ a.States.length
 n2 : a.States.length ≤ 256
 l0 : (stA a.States 0).L = []
 r0 : (stA a.States 0).R = []
 st : ∀ s ∈ a.States, StQ a.Counts.length a.Split.Many a.States s
theorem stR_eq (a : Ql) (m : Qe) : stR a m = (stA a.States m.To.toNat).R := by
 rw [stR, stA, List.getD]
 cases a.States[m.To.toNat]? <;> rfl
theorem mvQ_iff {a : Ql} {s : Qa} {m : Qe} : Qgd a s m = true ↔ MvQ a.States s.R m := by
 rw [Qgd, MvQ, stR_eq]
 by_cases h : m.To = -1
 ·rw [if_pos h, beq_iff_eq, List.length_eq_zero_iff]
  constructor
  ·exact fun h' => .inl ⟨h, h'⟩
  ·rintro (h' | h')
   ·exact h'.2
   ·omega
 ·rw [if_neg h]
  simp only [Bool.and_eq_true, decide_eq_true_eq, beq_iff_eq, Qhn, opP, stR_eq, Bool.or_eq_true, List.contains_iff_mem]
  constructor
  ·rintro ⟨h1, h2, h3, h4⟩
   refine .inr ⟨h1, h2, h3, fun i hi => ?_⟩
   have := h4 i (Nat.zero_le _) (by omega)
   rw [Zc hi] at this
   exact this
  ·rintro (h' | ⟨h1, h2, h3, h4⟩)
   ·exact absurd h'.1 h
   ·refine ⟨h1, h2, h3, fun i _ hi => ?_⟩
    rw [Nat.zero_add] at hi
    rw [Zc hi]
    exact h4 i hi
theorem stQ_iff {a : Ql} {s : Qa} : Bi a s = true ↔ StQ a.Counts.length a.Split.Many a.States s := by
 simp only [Bi, Bool.and_eq_true, Bool.not_eq_true', beq_eq_false_iff_ne, beq_iff_eq, Qhn, rowP, decide_eq_true_eq]
 constructor
 ·rintro ⟨h1, h2, h3, h4, h5, h6⟩
  have hl : s.Rule.length = s.Next.length := by omega
  refine ⟨h1, h2, h3, h4, h5, fun r hr => ?_, fun r hr => ?_, fun r hr m hm => ?_⟩
  ·obtain ⟨i, hi, rfl⟩ := List.getElem_of_mem hr
   have := h6 i (Nat.zero_le _) (by omega)
   rw [Zc hi] at this
   exact ⟨this.1, this.2.1⟩
  ·obtain ⟨i, hi, rfl⟩ := List.getElem_of_mem hr
   have := h6 i (Nat.zero_le _) (by omega)
   rw [Zc hi] at this
   exact this.2.2.1
  ·obtain ⟨i, hi, rfl⟩ := List.getElem_of_mem hr
   obtain ⟨j, hj, rfl⟩ := List.getElem_of_mem hm
   have := h6 i (Nat.zero_le _) (by omega)
   rw [Zc hi] at this
   have := this.2.2.2 j (Nat.zero_le _) (by omega)
   rw [Zc hj] at this
   exact mvQ_iff.1 this
 ·rintro ⟨h1, h2, h3, h4, h5, h6, h7, h8⟩
  have hl : s.Rule.length = s.Next.length := by omega
  refine ⟨h1, h2, h3, h4, h5, fun i _ hi => ?_⟩
  rw [Nat.zero_add] at hi
  rw [Zc hi, Zc (by omega)]
  obtain ⟨a1, a2⟩ := h6 _ (List.getElem_mem (show i < s.Rule.length by omega))
  refine ⟨a1, a2, h7 _ (List.getElem_mem hi), fun j _ hj => ?_⟩
  rw [Nat.zero_add] at hj
  rw [Zc hj]
  exact mvQ_iff.2 (h8 _ (List.getElem_mem hi) _ (List.getElem_mem hj))
theorem Qhw {a : Ql} : Qe8 a = true ↔ RQ a := by
 simp only [Qe8, Bool.and_eq_true, Bool.not_eq_true', decide_eq_false_iff_not, beq_iff_eq, List.length_eq_zero_iff, Qhn]
 constructor
 ·rintro ⟨h1, h2, h3, h4, ⟨h5, h6⟩, h7, h8⟩
  refine ⟨h1, by omega, fun c hc => ?_, by omega, by omega, h5, h6, fun s hs => ?_⟩
  ·obtain ⟨i, hi, rfl⟩ := List.getElem_of_mem hc
   have := h7 i (Nat.zero_le _) (by omega)
   rw [Zc hi] at this
   exact this
  ·obtain ⟨i, hi, rfl⟩ := List.getElem_of_mem hs
   have := h8 i (Nat.zero_le _) (by omega)
   rw [Zc hi] at this
   exact stQ_iff.1 this
 ·rintro ⟨h1, h2, h3, h4, h5, h6, h7, h8⟩
  refine ⟨h1, by omega, by omega, by omega, ⟨h6, h7⟩, fun i _ hi => ?_, fun i _ hi => ?_⟩
  ·rw [Nat.zero_add] at hi
   rw [Zc hi]; exact h3 _ (List.getElem_mem hi)
  ·rw [Nat.zero_add] at hi
   rw [Zc hi]; exact stQ_iff.2 (h8 _ (List.getElem_mem hi))
theorem RQ.mvs {a : Ql} (h : RQ a) {i : Nat} {m : Qe} (hi : i < a.States.length) (hm : m ∈ mvs a.States i) : MvQ a.States (stA a.States i).R m := by
 rw [Go.Rv.mvs, M5 hi] at hm
 obtain ⟨r, hr, hm⟩ := List.mem_flatten.1 hm
 rw [M5 hi]
 exact (h.st _ (List.getElem_mem hi)).mv r hr m hm
theorem RQ.toOk {a : Ql} (h : RQ a) : toOk a.States := fun i hi m hm => by
 have := h.n1
 rcases h.mvs hi hm with h | h
 ·omega
 ·exact h.2.1
theorem codes_le {n : Nat} (h : Vu n ≠ 0) : n ≤ 3 ∧ 1 ≤ Vu n ∧ Vu n ≤ 27 := by
 rw [Vu] at h ⊢
 split
 ·omega
 ·split
  ·omega
  ·split
   ·omega
   ·split
    ·omega
    ·next a b c d => rw [if_neg a, if_neg b, if_neg c, if_neg d] at h; exact absurd rfl h
end Go.Rv
namespace Go.Rv
def Ru (a : Ql) : Prop := RQ a ∧ ∀ i, i < 256 → 0 ≤ a.Split.Of.f i ∧ a.Split.Of.f i < 256
theorem getD_far {α : Type} {l : List α} {i : Nat} {d : α} (h : l.length ≤ i) : l.getD i d = d := by simp [List.getD, h]
theorem rows_len {α : Type} {c : Nat} : ∀ (l : List (List α)), (∀ r ∈ l, r.length ≤ c) → l.flatten.length ≤ l.length * c := by
 intro l
 induction l with
 | nil => intro _; exact Nat.zero_le _
 | cons r l ih =>
  intro h
  have h1 := h r List.mem_cons_self
  have h2 := ih fun r hr => h r (List.mem_cons_of_mem _ hr)
  rw [List.flatten_cons, List.length_append, List.length_cons, Nat.add_mul]
  omega
theorem RQ.many {a : Ql} (h : RQ a) : a.Split.Many ≤ 256 := by
 have := splitF_many a.Split.Of 256 0 0 a.Split.Many h.split
 omega
structure Ou (s : Qa) : Prop where
 l : s.L.length ≤ 512
 r : s.R.length ≤ 3
 rule : 0 < s.Rule.length ∧ s.Rule.length ≤ 27
 next : s.Next.length ≤ 27
 row : ∀ r ∈ s.Next, r.length ≤ 256
 ops : ∀ r ∈ s.Next, ∀ m ∈ r, m.Ops.length ≤ 3
theorem RQ.small {a : Ql} (h : RQ a) {s : Qa} (hs : s ∈ a.States) : Ou s := by
 have g := h.st s hs
 obtain ⟨h1, h2, h3⟩ := codes_le g.code
 have h4 := g.rl
 have h5 := g.nl
 have h6 := h.many
 refine ⟨?_, h1, by omega, by omega, fun r hr => ?_, fun r hr m hm => ?_⟩
 ·rcases Qf6 s.L (-1) (by omega) g.l with h | h
  ·omega
  ·simp [h]
 ·have := g.row r hr; omega
 ·rcases g.mv r hr m hm with ⟨_, h⟩ | ⟨h7, h8, h9, _⟩
  ·simp [h]
  ·have := (codes_le (h.st _ (List.getElem_mem (show m.To.toNat < a.States.length by omega))).code).1
   rw [M5 (by omega)] at h9
   omega
theorem Ou.flat {s : Qa} (h : Ou s) : s.Next.flatten.length ≤ 6912 := by
 have h1 := rows_len s.Next h.row
 have h2 := h.next
 omega
theorem Ru.okay {a : Ql} (h : Ru a) : Okay a :=
 ⟨h.2, by have := h.1.cl; omega, by have := h.1.n2; omega, fun s hs => by
  have g := h.1.small hs
  have := g.l; have := g.r; have := g.rule; have := g.next
  exact ⟨by omega, by omega, by omega, by omega, fun r hr => ⟨by have := g.row r hr; omega, fun m hm => by have := g.ops r hr m hm; omega⟩⟩⟩
theorem Ru.big {a : Ql} (h : Ru a) {K : Nat} (hK : 1000 ≤ K) : Qgl a K :=
 ⟨by omega, by have := h.1.cl; omega, by have := h.1.n2; omega, fun s hs => by
  have g := h.1.small hs
  have := g.l; have := g.r; have := g.rule; have := g.next
  exact ⟨by omega, by omega, by omega, fun r hr => ⟨by have := g.row r hr; omega, fun m hm => by have := g.ops r hr m hm; omega⟩⟩⟩
theorem Ru.auto {a : Ql} (h : Ru a) {K : Nat} (hK : 1000 ≤ K) : Wl K a = some true := by
 rw [autoRight K a h.okay (h.big hK), Qhw.2 h.1]
theorem Ru.ref {a : Ql} (h : Ru a) {K : Nat} (hK : 1000 ≤ K) : X3 K a = some true := by
 rw [refRight K a h.okay (h.big hK), Qhw.2 h.1]
theorem Ru.live {a : Ql} (h : Ru a) {K : Nat} (hK : 10000 ≤ K) : LiveOk K a :=
 ⟨by omega, by have := h.1.n2; omega, fun s hs => (h.1.small hs).rule, fun s hs => by
  have g := (h.1.small hs).flat
  exact ⟨(h.1.small hs).next, g, by omega⟩, fun s hs m hm => by
  obtain ⟨i, hi, rfl⟩ := List.getElem_of_mem hs
  exact h.1.toOk i hi m (by rw [mvs, M5 hi]; exact hm)⟩
/- Who goes there. -/
theorem addF_get {i : Int} {F : List (List Int)} {m : Qe} {j : Nat} {p : Int} (hj : j < F.length) : p ∈ (addF i F m).getD j [] ↔ p ∈ F.getD j [] ∨ (p = i ∧ 0 ≤ m.To ∧ m.To.toNat = j) := by
 rw [addF]
 by_cases h : m.To ≥ 0
 ·rw [if_pos h]
  by_cases hm : m.To.toNat = j
  ·subst hm
   rw [Zc (by rw [List.length_set]; exact hj), List.getElem_set_self, List.mem_append, List.mem_singleton]
   constructor
   ·rintro (h1 | h1)
    ·exact .inl h1
    ·exact .inr ⟨h1, h, rfl⟩
   ·rintro (h1 | h1)
    ·exact .inl h1
    ·exact .inr h1.1
  ·rw [Zc (by rw [List.length_set]; exact hj), List.getElem_set_ne hm, Zc hj]
   constructor
   ·exact .inl
   ·rintro (h1 | h1)
    ·exact h1
    ·exact absurd h1.2.2 hm
 ·rw [if_neg h]
  constructor
  ·exact .inl
  ·rintro (h1 | h1)
   ·exact h1
   ·omega
theorem foldF_get {i : Int} : ∀ (ms : List Qe) (F : List (List Int)) (j : Nat) (p : Int), j < F.length → (p ∈ (ms.foldl (addF i) F).getD j [] ↔ p ∈ F.getD j [] ∨ (p = i ∧ ∃ m ∈ ms, 0 ≤ m.To ∧ m.To.toNat = j)) := by
 intro ms
 induction ms with
 | nil => intro F j p _; simp
 | cons m ms ih =>
  intro F j p hj
  rw [List.foldl_cons, ih _ _ _ (by rw [addF_len]; exact hj), addF_get hj]
  constructor
  ·rintro ((h | ⟨h1, h2⟩) | ⟨h1, m', h2, h3⟩)
   ·exact .inl h
   ·exact .inr ⟨h1, m, List.mem_cons_self, h2⟩
   ·exact .inr ⟨h1, m', List.mem_cons_of_mem _ h2, h3⟩
  ·rintro (h | ⟨h1, m', h2, h3⟩)
   ·exact .inl (.inl h)
   ·rcases List.mem_cons.1 h2 with rfl | h2
    ·exact .inl (.inr ⟨h1, h3⟩)
    ·exact .inr ⟨h1, m', h2, h3⟩
theorem initF_get : ∀ (l : List Qa) (i : Int) (F : List (List Int)) (j : Nat) (p : Int), j < F.length → (p ∈ (Qcf l i F).getD j [] ↔ p ∈ F.getD j [] ∨ ∃ k, ∃ (h : k < l.length), p = i + k ∧ ∃ m ∈ l[k].Next.flatten, 0 ≤ m.To ∧ m.To.toNat = j) := by
 intro l
 induction l with
 | nil => intro i F j p _; simp [Qcf]
 | cons s l ih =>
  intro i F j p hj
  rw [Qcf, ih _ _ _ _ (by rw [Qh3]; exact hj), foldF_get _ _ _ _ hj]
  constructor
  ·rintro ((h | ⟨h1, h2⟩) | ⟨k, hk, h1, h2⟩)
   ·exact .inl h
   ·exact .inr ⟨0, by rw [List.length_cons]; omega, by omega, h2⟩
   ·exact .inr ⟨k + 1, by rw [List.length_cons]; omega, by omega, h2⟩
  ·rintro (h | ⟨k, hk, h1, h2⟩)
   ·exact .inl (.inl h)
   ·cases k with
    | zero => exact .inl (.inr ⟨by omega, h2⟩)
    | succ k => exact .inr ⟨k, by rw [List.length_cons] at hk; omega, by omega, h2⟩
theorem initF_len : ∀ (l : List Qa) (i : Int) (F : List (List Int)), (Qcf l i F).length = F.length := by
 intro l
 induction l with
 | nil => intro i F; rfl
 | cons s l ih => intro i F; rw [Qcf, ih, Qh3]
theorem initT_get : ∀ (l : List Qa) (i : Int) (p : Int), p ∈ Qhb l i ↔ ∃ k, ∃ (h : k < l.length), p = i + k ∧ Iu l[k] = true := by
 intro l
 induction l with
 | nil => intro i p; simp [Qhb]
 | cons s l ih =>
  intro i p
  rw [Qhb, List.mem_append, ih]
  constructor
  ·rintro (h | ⟨k, hk, h1, h2⟩)
   ·split at h
    ·next hr => exact ⟨0, by rw [List.length_cons]; omega, by rw [List.mem_singleton.1 h]; omega, hr⟩
    ·cases h
   ·exact ⟨k + 1, by rw [List.length_cons]; omega, by omega, h2⟩
  ·rintro ⟨k, hk, h1, h2⟩
   cases k with
   | zero =>
    refine .inl ?_
    rw [List.getElem_cons_zero] at h2
    rw [if_pos h2, List.mem_singleton]; omega
   | succ k => exact .inr ⟨k, by rw [List.length_cons] at hk; omega, by omega, h2⟩
/- How many go anywhere. -/
def sumL (F : List (List Int)) : Nat := (F.map List.length).sum
theorem sum_set : ∀ (l : List Nat) (j c : Nat), j < l.length → (l.set j c).sum + l.getD j 0 = l.sum + c := by
 intro l
 induction l with
 | nil => intro j c h; cases h
 | cons x l ih =>
  intro j c h
  cases j with
  | zero => simp only [List.set_cons_zero, List.sum_cons, List.getD_cons_zero]; omega
  | succ j =>
   have := ih j c (by rw [List.length_cons] at h; omega)
   simp only [List.set_cons_succ, List.sum_cons, List.getD_cons_succ]
   omega
theorem addF_sum (i : Int) (F : List (List Int)) (m : Qe) : sumL (addF i F m) ≤ sumL F + 1 := by
 rw [addF]
 split
 ·by_cases hj : m.To.toNat < F.length
  ·have h1 := sum_set (F.map List.length) m.To.toNat ((F.getD m.To.toNat []).length + 1) (by rw [List.length_map]; exact hj)
   rw [Zc (l := F.map List.length) (by rw [List.length_map]; exact hj), List.getElem_map, Zc hj] at h1
   rw [sumL, sumL, List.map_set, List.length_append, List.length_singleton, Zc hj]
   omega
  ·rw [List.set_eq_of_length_le (by omega)]; omega
 ·omega
theorem foldF_sum (i : Int) : ∀ (ms : List Qe) (F : List (List Int)), sumL (ms.foldl (addF i) F) ≤ sumL F + ms.length := by
 intro ms
 induction ms with
 | nil => intro F; exact Nat.le_refl _
 | cons m ms ih =>
  intro F
  have h1 := ih (addF i F m)
  have h2 := addF_sum i F m
  rw [List.foldl_cons, List.length_cons]
  omega
theorem initF_sum : ∀ (l : List Qa) (i : Int) (F : List (List Int)), (∀ s ∈ l, s.Next.flatten.length ≤ 6912) → sumL (Qcf l i F) ≤ sumL F + 6912 * l.length := by
 intro l
 induction l with
 | nil => intro i F _; exact Nat.le_refl _
 | cons s l ih =>
  intro i F h
  have h1 := ih (i + 1) (s.Next.flatten.foldl (addF i) F) fun s hs => h s (List.mem_cons_of_mem _ hs)
  have h2 := foldF_sum i s.Next.flatten F
  have h3 := h s List.mem_cons_self
  rw [Qcf, List.length_cons]
  omega
theorem leftW_le (F : List (List Int)) : ∀ (out : List Bool) (i : Nat), leftW F out i ≤ sumL (F.drop i) := by
 intro out
 induction out with
 | nil => intro i; exact Nat.zero_le _
 | cons b out ih =>
  intro i
  have := ih (i + 1)
  rw [leftW]
  by_cases h : i < F.length
  ·rw [List.drop_eq_getElem_cons h, sumL, List.map_cons, List.sum_cons, Zc h]
   rw [sumL] at this
   split <;> omega
  ·have e : F.getD i [] = [] := by simp [List.getD, h]
   rw [e, List.length_nil]
   rw [List.drop_eq_nil_of_le (by omega)] at this ⊢
   split <;> omega
theorem repl_get {α : Type} {n j : Nat} {d x : α} (h : (List.replicate n x).getD j d ≠ d) : j < n := by
 refine Decidable.byContradiction fun hc => h ?_
 simp [List.getD, hc]
theorem Qbm.lt {S : List Qa} {i : Nat} (h : Qbm S i) : i < S.length := by cases h <;> assumption
theorem isLive_of {S : List Qa} {l : List Bool} (hl : l.length = S.length) (h1 : ∀ i, l.getD i false = true → Qbm S i) (h2 : ∀ i, i < S.length → Iu (stA S i) = true → l.getD i false = true) (h3 : ∀ i, i < S.length → ∀ m ∈ mvs S i, 0 ≤ m.To → l.getD m.To.toNat false = true → l.getD i false = true) : Ow S l :=
 ⟨hl, fun i => ⟨h1 i, fun h => by
  induction h with
  | rule a b => exact h2 _ a b
  | step m a b c _ ih => exact h3 _ a m b c ih⟩⟩
theorem live_ok {a : Ql} (h : Ru a) {K : Nat} (hK : 10000000 ≤ K) : ∃ l, Db K a = some l ∧ Ow a.States l := by
 have hn := h.1.n2
 have hL := h.live (K := K) (by omega)
 have hs0 : sumL (List.replicate a.States.length ([] : List Int)) = 0 := by
  rw [sumL, List.map_replicate, List.length_nil, List.sum_replicate_nat]; omega
 have hF0 : ∀ r ∈ List.replicate a.States.length ([] : List Int), r.length ≤ 0 := fun r hr => by rw [(List.mem_replicate.1 hr).2]; exact Nat.le_refl _
 have e0 := live_l0 K a hL (List.replicate a.States.length false) a.States.length K 0 0 (List.replicate a.States.length []) [] rfl (by omega) (Nat.zero_le _) (List.length_replicate ..) hF0 (by omega) (Nat.le_refl _)
 rw [List.drop_zero, List.nil_append, Int.natCast_zero] at e0
 have hlenF : (Qcf a.States 0 (List.replicate a.States.length [])).length = a.States.length := by rw [initF_len, List.length_replicate]
 have hget : ∀ j p, j < a.States.length → (p ∈ (Qcf a.States 0 (List.replicate a.States.length [])).getD j [] ↔ ∃ k, ∃ (h : k < a.States.length), p = (k : Int) ∧ ∃ m ∈ a.States[k].Next.flatten, 0 ≤ m.To ∧ m.To.toNat = j) := fun j p hj => by
  rw [initF_get _ _ _ _ _ (by rw [List.length_replicate]; exact hj), Zc (by rw [List.length_replicate]; exact hj), List.getElem_replicate]
  simp
 have hfar : ∀ j p, p ∈ (Qcf a.States 0 (List.replicate a.States.length [])).getD j [] → j < a.States.length := fun j p hp => by
  refine Decidable.byContradiction fun hc => ?_
  rw [getD_far (by omega)] at hp
  cases hp
 have hlw := leftW_le (Qcf a.States 0 (List.replicate a.States.length [])) (List.replicate a.States.length false) 0
 have hsum := initF_sum a.States 0 (List.replicate a.States.length []) fun s hs => (h.1.small hs).flat
 have htl := initT_len a.States 0
 rw [List.drop_zero] at hlw
 have hff : ∀ i, (List.replicate a.States.length false).getD i false = true → False := fun i hi => by
  have := repl_get (d := false) (by rw [hi]; decide)
  rw [Zc (by rw [List.length_replicate]; exact this), List.getElem_replicate] at hi
  cases hi
 obtain ⟨out, e, g1, g2, g3, _, g5⟩ := live_l2 K (Qcf a.States 0 (List.replicate a.States.length [])) a.States.length hlenF (fun r hr p hp => by
   obtain ⟨j, hj, rfl⟩ := List.getElem_of_mem hr
   rw [← Zc (d := []) hj] at hp
   obtain ⟨k, hk, rfl, _⟩ := (hget j p (by omega)).1 hp
   omega) (Qbm a.States) (fun i hi p hp => by
   obtain ⟨k, hk, rfl, m, hm, h0, he⟩ := (hget i p hi.lt).1 hp
   refine .step m hk (by rw [Int.toNat_natCast, mvs, M5 hk]; exact hm) h0 (by rw [he]; exact hi)) K (List.replicate a.States.length false) (Qhb a.States 0) (List.length_replicate ..) (fun p hp => by
   obtain ⟨k, hk, rfl, hr⟩ := (initT_get _ _ _).1 hp
   refine ⟨by omega, by omega, ?_⟩
   have e : ((0 : Int) + (k : Int)).toNat = k := by omega
   rw [e]
   exact .rule hk (by rw [M5 hk]; exact hr)) (fun i hi => (hff i hi).elim) (fun i hi => (hff i hi).elim) (by omega) (by omega)
 refine ⟨out, ?_, isLive_of g1 g2 (fun i hi hr => ?_) (fun i hi m hm h0 hl => ?_)⟩
 ·rw [Db, h.auto (by omega), bS]
  simp only [Bool.not_true, cF, Int.toNat_natCast]
  rw [Xh (by omega), Xh (Yg.2 ⟨by simp only [maxLen]; omega, by omega⟩), Xh (Yg.2 ⟨by simp only [maxLen]; omega, by omega⟩)]
  exact e0.trans e
 ·have := g5 (i : Int) ((initT_get _ _ _).2 ⟨i, hi, by omega, by rw [M5 hi] at hr; exact hr⟩)
  exact this
 ·have := g3 m.To.toNat hl (i : Int) ((hget _ _ (by rw [← g1]; refine Decidable.byContradiction fun hc => ?_; rw [getD_far (by omega)] at hl; cases hl)).2 ⟨i, hi, rfl, m, by rw [mvs, M5 hi] at hm; exact hm, h0, rfl⟩)
  exact this
end Go.Rv
namespace Go.Rv
theorem Qf4 {α : Type} (A B : List α) (x v : α) : (A ++ x :: B).set A.length v = A ++ v :: B := by
 rw [List.set_append_right _ _ (Nat.le_refl _), Nat.sub_self, List.set_cons_zero]
theorem Qgh {α : Type} (A B : List α) (x : α) : Xa (A ++ x :: B) (A.length : Int) = some x := by
 rw [Zg (by rw [List.length_append, List.length_cons]; omega)]
 rw [List.getElem_append_right (Nat.le_refl _)]
 simp
theorem clone8 {K : Nat} {l : List Int} (h : l.length ≤ 1000000) : Jq K l = some l := by
 rw [Jq, Xh (Yg.2 ⟨by simp only [maxLen, List.length_nil]; omega, by simp only [List.length_nil]; omega⟩), List.nil_append]
theorem cloneI {K : Nat} {l : List Int} (h : l.length ≤ 1000000) : Xz K l = some l := by
 rw [Xz, Xh (Yg.2 ⟨by simp only [maxLen, List.length_nil]; omega, by simp only [List.length_nil]; omega⟩), List.nil_append]
def F0 (to : List Int) (r : List Qe) : List Qe := r.map (K8 to)
theorem send_l2 (K : Nat) (go : Int → Qc → Int → Int → (List (List Qe)) → Int → Int → (List Int) → (List Qa) → (List Int) → (List Int) → (List Int) → (List (List Qe)) → (List (List Qe)) → Option Qc) (i : Int) (c : Nat) (t : Qc) (a b : Int) (N : List (List Qe)) (d : Int) (e : Int) (row : List Qe) (to : List Int) (st : List Qa) (L R U : List Int) (V : List (List Qe)) (hr : row.length ≤ 256) (hm : ∀ m ∈ row, m.To < to.length ∧ m.Ops.length ≤ 3) : ∀ (q k j : Nat) (A B : List (List Qe)) (x : List Qe), row.length - j = q → q < k → A.length = c → x.length ≤ j → j ≤ row.length →
  Z0 K go k i (c : Int) t a b N d e row (row.length : Int) (j : Int) to st L R U V (A ++ x :: B) = go i t a b N d (IntKind.i64.wrap (e + 1)) to st L R U V (A ++ (x ++ F0 to (row.drop j)) :: B) := by
 intro q
 induction q with
 | zero =>
  intro k j A B x hq hk hA hx hj
  obtain ⟨k, rfl⟩ : ∃ q, k = q + 1 := ⟨k - 1, by omega⟩
  rw [Z0]
  dsimp only
  rw [decide_eq_false (by omega), cF, List.drop_eq_nil_of_le (by omega), F0, List.map_nil, List.append_nil]
 | succ q ih =>
  intro k j A B x hq hk hA hx hj
  obtain ⟨k, rfl⟩ : ∃ q, k = q + 1 := ⟨k - 1, by omega⟩
  have hjl : j < row.length := by omega
  obtain ⟨h1, h2⟩ := hm _ (List.getElem_mem hjl)
  have hw := Ox (n := j) (by omega)
  have hlt : (j : Int) < (row.length : Int) := by omega
  have hih := fun y => ih k (j + 1) A B (x ++ [y]) (by omega) (by omega) hA (by rw [List.length_append, List.length_singleton]; omega) (by omega)
  have hj3 : ∀ T O, Uj K (Z0 K go k) i (c : Int) t a b N d e row (row.length : Int) (j : Int) to st L R U V (A ++ x :: B) T O = go i t a b N d (IntKind.i64.wrap (e + 1)) to st L R U V (A ++ (x ++ ⟨T, O⟩ :: F0 to (row.drop (j + 1))) :: B) := fun T O => by
   have hg : Xa (A ++ x :: B) (c : Int) = some x := by rw [← hA]; exact Qgh A B x
   rw [Uj, hg, bS, Xh (Yg.2 ⟨by simp only [maxLen, List.length_singleton]; omega, by simp only [List.length_singleton]; omega⟩), hw, Int.toNat_natCast, ← hA, Qf4, hA, hih, List.append_assoc]
   rfl
  rw [Z0]
  dsimp only
  rw [decide_eq_true hlt, cT, Zg hjl, bS, List.drop_eq_getElem_cons hjl, F0, List.map_cons]
  generalize row[j] = m at *
  by_cases h0 : m.To ≥ 0
  ·have ht : m.To.toNat < to.length := by omega
   have hg : Xa to m.To = some (to.getD m.To.toNat (-1)) := by
    have := Zg ht
    rw [Int.toNat_of_nonneg h0] at this
    rw [this, Zc ht]
   rw [decide_eq_true h0, cT, hg, bS]
   by_cases h3 : to.getD m.To.toNat (-1) ≥ 0
   ·rw [decide_eq_true h3, cT, clone8 (by omega), bS, hj3, K8, if_pos ⟨h0, h3⟩]
    rfl
   ·rw [decide_eq_false h3, cF, Ui, hj3, K8, if_neg (fun h => h3 h.2)]
    rfl
  ·rw [decide_eq_false h0, cF, Ui, hj3, K8, if_neg (fun h => h0 h.1)]
   rfl
theorem send_l1 (K : Nat) (hK : 1000 ≤ K) (go : Qc → Int → Int → (List Int) → (List Qa) → Option Qc) (t : Qc) (a b : Int) (s : Qa) (to : List Int) (hs : Ou s) (hm : ∀ r ∈ s.Next, ∀ m ∈ r, m.To < to.length) (A B : List Qa) (y : Qa) : ∀ (q k j : Nat) (X : List (List Qe)), s.Next.length - j = q → q < k → X.length = j → j ≤ s.Next.length →
  Yv K go k (A.length : Int) t a b s.Next (s.Next.length : Int) (j : Int) to (A ++ y :: B) s.L s.R s.Rule s.Next (X ++ List.replicate (s.Next.length - j) []) = go t a (IntKind.i64.wrap (b + 1)) to (A ++ ⟨s.L, s.R, s.Rule, X ++ (s.Next.drop j).map (F0 to)⟩ :: B) := by
 intro q
 have g1 := hs.l
 have g2 := hs.r
 have g3 := hs.rule
 have g4 := hs.next
 induction q with
 | zero =>
  intro k j X hq hk hX hj
  obtain ⟨k, rfl⟩ : ∃ q, k = q + 1 := ⟨k - 1, by omega⟩
  have e0 : s.Next.length - j = 0 := by omega
  rw [Yv]
  dsimp only
  rw [decide_eq_false (by omega), cF, cloneI (by omega), bS, cloneI (by omega), bS, cloneI (by omega), bS, Qgh, bS, Int.toNat_natCast, Qf4, e0, List.drop_eq_nil_of_le (by omega)]
  rfl
 | succ q ih =>
  intro k j X hq hk hX hj
  obtain ⟨k, rfl⟩ : ∃ q, k = q + 1 := ⟨k - 1, by omega⟩
  have hjl : j < s.Next.length := by omega
  have hlt : (j : Int) < (s.Next.length : Int) := by omega
  have hrow := List.getElem_mem hjl
  have e1 : s.Next.length - j = (s.Next.length - (j + 1)) + 1 := by omega
  have h2 := send_l2 K (Yv K go k) (A.length : Int) j t a b s.Next (s.Next.length : Int) (j : Int) s.Next[j] to (A ++ y :: B) s.L s.R s.Rule s.Next (hs.row _ hrow) (fun m hmm => ⟨hm _ hrow m hmm, hs.ops _ hrow m hmm⟩) s.Next[j].length K 0 X (List.replicate (s.Next.length - (j + 1)) []) [] rfl (by have := hs.row _ hrow; omega) hX (Nat.le_refl _) (Nat.zero_le _)
  rw [Int.natCast_zero, List.drop_zero, List.nil_append, Ox (n := j) (by omega)] at h2
  have h3 := ih k (j + 1) (X ++ [F0 to s.Next[j]]) (by omega) (by omega) (by rw [List.length_append, List.length_singleton]; omega) (by omega)
  rw [List.append_assoc, List.singleton_append] at h3
  rw [Yv]
  dsimp only
  rw [decide_eq_true hlt, cT, Zg hjl, bS, e1, List.replicate_succ, h2, h3, List.drop_eq_getElem_cons hjl, List.map_cons, List.append_assoc]
  rfl
theorem send_l0 (K : Nat) (hK : 1000 ≤ K) (x : Ql) (to : List Int) (hn : x.States.length ≤ 256) (hs : ∀ s ∈ x.States, Ou s) (hm : ∀ s ∈ x.States, ∀ r ∈ s.Next, ∀ m ∈ r, m.To < to.length) : ∀ (q k i : Nat) (X : List Qa), x.States.length - i = q → q < k → X.length = i → i ≤ x.States.length →
  Yw K k ⟨x⟩ (x.States.length : Int) (i : Int) to (X ++ List.replicate (x.States.length - i) ⟨[], [], [], []⟩) = some ⟨⟨x.Split, x.Counts, X ++ Df to (x.States.drop i)⟩⟩ := by
 intro q
 induction q with
 | zero =>
  intro k i X hq hk hX hi
  obtain ⟨k, rfl⟩ : ∃ q, k = q + 1 := ⟨k - 1, by omega⟩
  have e0 : x.States.length - i = 0 := by omega
  rw [Yw]
  dsimp only
  rw [decide_eq_false (by omega), cF, e0, List.drop_eq_nil_of_le (by omega)]
  rfl
 | succ q ih =>
  intro k i X hq hk hX hi
  obtain ⟨k, rfl⟩ : ∃ q, k = q + 1 := ⟨k - 1, by omega⟩
  have hil : i < x.States.length := by omega
  have hlt : (i : Int) < (x.States.length : Int) := by omega
  have hst := List.getElem_mem hil
  have hsm := hs _ hst
  have e1 : x.States.length - i = (x.States.length - (i + 1)) + 1 := by omega
  have h2 := send_l1 K hK (Yw K k) ⟨x⟩ (x.States.length : Int) (i : Int) x.States[i] to hsm (hm _ hst) X (List.replicate (x.States.length - (i + 1)) ⟨[], [], [], []⟩) ⟨[], [], [], []⟩ x.States[i].Next.length K 0 [] rfl (by have := hsm.next; omega) rfl (Nat.zero_le _)
  rw [Int.natCast_zero, List.drop_zero, List.nil_append, List.nil_append, Nat.sub_zero, Ox (n := i) (by omega), hX] at h2
  have h3 := ih k (i + 1) (X ++ [Pr to x.States[i]]) (by omega) (by omega) (by rw [List.length_append, List.length_singleton]; omega) (by omega)
  rw [List.append_assoc, List.singleton_append] at h3
  have h4 := hsm.next
  rw [Yw]
  dsimp only
  rw [decide_eq_true hlt, cT, Zg hil, bS, Xh (by omega), Xh (Yg.2 ⟨by simp only [maxLen]; omega, by omega⟩), Int.toNat_natCast, e1, List.replicate_succ, h2, List.drop_eq_getElem_cons hil]
  refine Eq.trans h3 ?_
  rw [List.append_assoc]
  rfl
theorem send_ok (K : Nat) (hK : 1000 ≤ K) (x : Ql) (to : List Int) (hn : x.States.length ≤ 256) (hs : ∀ s ∈ x.States, Ou s) (hm : ∀ s ∈ x.States, ∀ r ∈ s.Next, ∀ m ∈ r, m.To < to.length) : V2 K ⟨x⟩ to = some ⟨⟨x.Split, x.Counts, Df to x.States⟩⟩ := by
 have h := send_l0 K hK x to hn hs hm x.States.length K 0 [] rfl (by omega) rfl (Nat.zero_le _)
 rw [Int.natCast_zero, List.drop_zero, List.nil_append, List.nil_append, Nat.sub_zero] at h
 rw [V2]
 dsimp only
 rw [Xh (by omega), Xh (Yg.2 ⟨by simp only [maxLen]; omega, by omega⟩), Int.toNat_natCast]
 exact h
theorem send1_l2 (K : Nat) (go : (List Int) → Int → Qc → Int → Int → (List (List Qe)) → Int → Int → (List Qa) → (List Int) → (List Int) → (List Int) → (List (List Qe)) → (List (List Qe)) → Option Qc) (i : Int) (c : Nat) (t : Qc) (a b : Int) (N : List (List Qe)) (d : Int) (e : Int) (row : List Qe) (to : List Int) (st : List Qa) (L R U : List Int) (V : List (List Qe)) (hr : row.length ≤ 256) (hm : ∀ m ∈ row, m.To < to.length ∧ m.Ops.length ≤ 3) : ∀ (q k j : Nat) (A B : List (List Qe)) (x : List Qe), row.length - j = q → q < k → A.length = c → x.length ≤ j → j ≤ row.length →
  Zo K go k to i (c : Int) t a b N d e row (row.length : Int) (j : Int) st L R U V (A ++ x :: B) = go to i t a b N d (IntKind.i64.wrap (e + 1)) st L R U V (A ++ (x ++ F0 to (row.drop j)) :: B) := by
 intro q
 induction q with
 | zero =>
  intro k j A B x hq hk hA hx hj
  obtain ⟨k, rfl⟩ : ∃ q, k = q + 1 := ⟨k - 1, by omega⟩
  rw [Zo]
  dsimp only
  rw [decide_eq_false (by omega), cF, List.drop_eq_nil_of_le (by omega), F0, List.map_nil, List.append_nil]
 | succ q ih =>
  intro k j A B x hq hk hA hx hj
  obtain ⟨k, rfl⟩ : ∃ q, k = q + 1 := ⟨k - 1, by omega⟩
  have hjl : j < row.length := by omega
  obtain ⟨h1, h2⟩ := hm _ (List.getElem_mem hjl)
  have hw := Ox (n := j) (by omega)
  have hlt : (j : Int) < (row.length : Int) := by omega
  have hih := fun y => ih k (j + 1) A B (x ++ [y]) (by omega) (by omega) hA (by rw [List.length_append, List.length_singleton]; omega) (by omega)
  have hj3 : ∀ T O, X1 K (Zo K go k) to i (c : Int) t a b N d e row (row.length : Int) (j : Int) st L R U V (A ++ x :: B) T O = go to i t a b N d (IntKind.i64.wrap (e + 1)) st L R U V (A ++ (x ++ ⟨T, O⟩ :: F0 to (row.drop (j + 1))) :: B) := fun T O => by
   have hg : Xa (A ++ x :: B) (c : Int) = some x := by rw [← hA]; exact Qgh A B x
   rw [X1, hg, bS, Xh (Yg.2 ⟨by simp only [maxLen, List.length_singleton]; omega, by simp only [List.length_singleton]; omega⟩), hw, Int.toNat_natCast, ← hA, Qf4, hA, hih, List.append_assoc]
   rfl
  rw [Zo]
  dsimp only
  rw [decide_eq_true hlt, cT, Zg hjl, bS, List.drop_eq_getElem_cons hjl, F0, List.map_cons]
  generalize row[j] = m at *
  by_cases h0 : m.To ≥ 0
  ·have ht : m.To.toNat < to.length := by omega
   have hg : Xa to m.To = some (to.getD m.To.toNat (-1)) := by
    have := Zg ht
    rw [Int.toNat_of_nonneg h0] at this
    rw [this, Zc ht]
   rw [decide_eq_true h0, cT, hg, bS]
   by_cases h3 : to.getD m.To.toNat (-1) ≥ 0
   ·rw [decide_eq_true h3, cT, clone8 (by omega), bS, hj3, K8, if_pos ⟨h0, h3⟩]
    rfl
   ·rw [decide_eq_false h3, cF, X0, hj3, K8, if_neg (fun h => h3 h.2)]
    rfl
  ·rw [decide_eq_false h0, cF, X0, hj3, K8, if_neg (fun h => h0 h.1)]
   rfl
theorem send1_l1 (K : Nat) (hK : 1000 ≤ K) (go : (List Int) → Qc → Int → Int → (List Qa) → Option Qc) (t : Qc) (a b : Int) (s : Qa) (to : List Int) (hs : Ou s) (hm : ∀ r ∈ s.Next, ∀ m ∈ r, m.To < to.length) (A B : List Qa) (y : Qa) : ∀ (q k j : Nat) (X : List (List Qe)), s.Next.length - j = q → q < k → X.length = j → j ≤ s.Next.length →
  Yh K go k to (A.length : Int) t a b s.Next (s.Next.length : Int) (j : Int) (A ++ y :: B) s.L s.R s.Rule s.Next (X ++ List.replicate (s.Next.length - j) []) = go to t a (IntKind.i64.wrap (b + 1)) (A ++ ⟨s.L, s.R, s.Rule, X ++ (s.Next.drop j).map (F0 to)⟩ :: B) := by
 intro q
 have g1 := hs.l
 have g2 := hs.r
 have g3 := hs.rule
 have g4 := hs.next
 induction q with
 | zero =>
  intro k j X hq hk hX hj
  obtain ⟨k, rfl⟩ : ∃ q, k = q + 1 := ⟨k - 1, by omega⟩
  have e0 : s.Next.length - j = 0 := by omega
  rw [Yh]
  dsimp only
  rw [decide_eq_false (by omega), cF, cloneI (by omega), bS, cloneI (by omega), bS, cloneI (by omega), bS, Qgh, bS, Int.toNat_natCast, Qf4, e0, List.drop_eq_nil_of_le (by omega)]
  rfl
 | succ q ih =>
  intro k j X hq hk hX hj
  obtain ⟨k, rfl⟩ : ∃ q, k = q + 1 := ⟨k - 1, by omega⟩
  have hjl : j < s.Next.length := by omega
  have hlt : (j : Int) < (s.Next.length : Int) := by omega
  have hrow := List.getElem_mem hjl
  have e1 : s.Next.length - j = (s.Next.length - (j + 1)) + 1 := by omega
  have h2 := send1_l2 K (Yh K go k) (A.length : Int) j t a b s.Next (s.Next.length : Int) (j : Int) s.Next[j] to (A ++ y :: B) s.L s.R s.Rule s.Next (hs.row _ hrow) (fun m hmm => ⟨hm _ hrow m hmm, hs.ops _ hrow m hmm⟩) s.Next[j].length K 0 X (List.replicate (s.Next.length - (j + 1)) []) [] rfl (by have := hs.row _ hrow; omega) hX (Nat.le_refl _) (Nat.zero_le _)
  rw [Int.natCast_zero, List.drop_zero, List.nil_append, Ox (n := j) (by omega)] at h2
  have h3 := ih k (j + 1) (X ++ [F0 to s.Next[j]]) (by omega) (by omega) (by rw [List.length_append, List.length_singleton]; omega) (by omega)
  rw [List.append_assoc, List.singleton_append] at h3
  rw [Yh]
  dsimp only
  rw [decide_eq_true hlt, cT, Zg hjl, bS, e1, List.replicate_succ, h2, h3, List.drop_eq_getElem_cons hjl, List.map_cons, List.append_assoc]
  rfl
theorem send1_l0 (K : Nat) (hK : 1000 ≤ K) (x : Ql) (to : List Int) (hn : x.States.length ≤ 256) (hs : ∀ s ∈ x.States, Ou s) (hm : ∀ s ∈ x.States, ∀ r ∈ s.Next, ∀ m ∈ r, m.To < to.length) : ∀ (q k i : Nat) (X : List Qa), x.States.length - i = q → q < k → X.length = i → i ≤ x.States.length →
  Yi K k to ⟨x⟩ (x.States.length : Int) (i : Int) (X ++ List.replicate (x.States.length - i) ⟨[], [], [], []⟩) = some ⟨⟨x.Split, x.Counts, X ++ Df to (x.States.drop i)⟩⟩ := by
 intro q
 induction q with
 | zero =>
  intro k i X hq hk hX hi
  obtain ⟨k, rfl⟩ : ∃ q, k = q + 1 := ⟨k - 1, by omega⟩
  have e0 : x.States.length - i = 0 := by omega
  rw [Yi]
  dsimp only
  rw [decide_eq_false (by omega), cF, e0, List.drop_eq_nil_of_le (by omega)]
  rfl
 | succ q ih =>
  intro k i X hq hk hX hi
  obtain ⟨k, rfl⟩ : ∃ q, k = q + 1 := ⟨k - 1, by omega⟩
  have hil : i < x.States.length := by omega
  have hlt : (i : Int) < (x.States.length : Int) := by omega
  have hst := List.getElem_mem hil
  have hsm := hs _ hst
  have e1 : x.States.length - i = (x.States.length - (i + 1)) + 1 := by omega
  have h2 := send1_l1 K hK (Yi K k) ⟨x⟩ (x.States.length : Int) (i : Int) x.States[i] to hsm (hm _ hst) X (List.replicate (x.States.length - (i + 1)) ⟨[], [], [], []⟩) ⟨[], [], [], []⟩ x.States[i].Next.length K 0 [] rfl (by have := hsm.next; omega) rfl (Nat.zero_le _)
  rw [Int.natCast_zero, List.drop_zero, List.nil_append, List.nil_append, Nat.sub_zero, Ox (n := i) (by omega), hX] at h2
  have h3 := ih k (i + 1) (X ++ [Pr to x.States[i]]) (by omega) (by omega) (by rw [List.length_append, List.length_singleton]; omega) (by omega)
  rw [List.append_assoc, List.singleton_append] at h3
  have h4 := hsm.next
  rw [Yi]
  dsimp only
  rw [decide_eq_true hlt, cT, Zg hil, bS, Xh (by omega), Xh (Yg.2 ⟨by simp only [maxLen]; omega, by omega⟩), Int.toNat_natCast, e1, List.replicate_succ, h2, List.drop_eq_getElem_cons hil]
  refine Eq.trans h3 ?_
  rw [List.append_assoc]
  rfl
theorem send1_ok (K : Nat) (hK : 1000 ≤ K) (x : Ql) (to : List Int) (hn : x.States.length ≤ 256) (hs : ∀ s ∈ x.States, Ou s) (hm : ∀ s ∈ x.States, ∀ r ∈ s.Next, ∀ m ∈ r, m.To < to.length) : Vc K ⟨x⟩ to = some ⟨⟨x.Split, x.Counts, Df to x.States⟩⟩ := by
 have h := send1_l0 K hK x to hn hs hm x.States.length K 0 [] rfl (by omega) rfl (Nat.zero_le _)
 rw [Int.natCast_zero, List.drop_zero, List.nil_append, List.nil_append, Nat.sub_zero] at h
 rw [Vc]
 dsimp only
 rw [Xh (by omega), Xh (Yg.2 ⟨by simp only [maxLen]; omega, by omega⟩), Int.toNat_natCast]
 exact h
end Go.Rv
