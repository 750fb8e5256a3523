/- Trimming, plainly: moves sent elsewhere; states as they are come to. -/
import Derived.Test.YtcmfaclkgdmpbaaGreatDoorRpUE
namespace Go.Rv
def toOk (S : List Qa) : Prop := ∀ i, i < S.length → ∀ m ∈ mvs S i, m.To < S.length
def Ca (to : List Int) (m : Qc) : Qc := if 0 ≤ m.To ∧ 0 ≤ to.getD m.To.toNat (-1) then ⟨to.getD m.To.toNat (-1), m.Ops⟩ else ⟨-1, []⟩
def Ov (to : List Int) (s : Qa) : Qa := ⟨s.L, s.R, s.Rule, s.Next.map fun r => r.map (Ca to)⟩
def Ef (to : List Int) (S : List Qa) : List Qa := S.map (Ov to)
theorem send_flat (to : List Int) (s : Qa) : (Ov to s).Next.flatten = s.Next.flatten.map (Ca to) := by
 rw [Ov]
 exact List.map_flatten.symm
theorem Hu (to : List Int) (S : List Qa) : (Ef to S).length = S.length := by rw [Ef, Qgn]
theorem Tm (to : List Int) (S : List Qa) (i : Nat) : stA (Ef to S) i = Ov to (stA S i) := by
 rw [stA, stA, Ef]
 simp only [List.getD, List.getElem?_map]
 cases S[i]? <;> rfl
theorem Qcy (to : List Int) (S : List Qa) (i : Nat) : mvs (Ef to S) i = (mvs S i).map (Ca to) := by
 rw [mvs, Tm, send_flat]
 rfl
def Qfb (l : List Bool) : List Int := (List.range l.length).map fun i => if l.getD i false = true then (i : Int) else -1
def Ra (l : List Nat) : List Int := l.map fun k => (l.idxOf k : Int)
def addO (o : List Nat) (m : Qc) : List Nat := if 0 ≤ m.To ∧ m.To.toNat ∉ o then o ++ [m.To.toNat] else o
def bfs (S : List Qa) : Nat → Nat → List Nat → List Nat
 | 0, _, o => o
 | k + 1, i, o => if i < o.length then bfs S k (i + 1) ((mvs S (o.getD i 0)).foldl addO o) else o
def X4 (S : List Qa) : List Nat := bfs S (S.length + 1) 0 [0]
def Eu (n : Nat) (o : List Nat) : List Int := (List.range n).map fun j => if j ∈ o then (o.idxOf j : Int) else -1
def Qde (S : List Qa) : List Qa := (X4 S).map fun i => Ov (Eu S.length (X4 S)) (stA S i)
def V5 (S : List Qa) (l : List Bool) : List Qa := Ef (Qfb l) S
def X0 (S : List Qa) : List Nat := blkS S (S.length + 1) (List.replicate S.length 0) 0
def S4 (S : List Qa) : List Qa := Ef (Ra (X0 S)) S
def B9 (S : List Qa) (l : List Bool) (b : Bool) : List Qa := Qde (if b = true then S4 (V5 S l) else V5 S l)
theorem Qdi {l : List Bool} {i : Nat} : (Qfb l).getD i (-1) = if l.getD i false = true then (i : Int) else -1 := by
 by_cases h : i < l.length
 ·rw [Qfb, Za (by rw [Qgn, Qhi]; exact h), Qhq, Qjl]
 ·rw [Qfb]; simp [List.getD, h]
theorem Qdg {l : List Nat} {i : Nat} (h : i < l.length) : (Ra l).getD i (-1) = (l.idxOf l[i] : Int) := by
 rw [Ra, Za (by rw [Qgn]; exact h), Qhq]
theorem Tz {n : Nat} {o : List Nat} {i : Nat} (h : i < n) : (Eu n o).getD i (-1) = if i ∈ o then (o.idxOf i : Int) else -1 := by
 rw [Eu, Za (by rw [Qgn, Qhi]; exact h), Qhq, Qjl]
theorem addO_mem {o : List Nat} {m : Qc} {x : Nat} : x ∈ addO o m ↔ x ∈ o ∨ (0 ≤ m.To ∧ x = m.To.toNat) := by
 rw [addO]
 by_cases h : 0 ≤ m.To ∧ m.To.toNat ∉ o
 ·rw [if_pos h, Qgk, Qgo]
  constructor
  ·rintro (h1 | h1)
   ·exact .inl h1
   ·exact .inr ⟨h.1, h1⟩
  ·rintro (h1 | h1)
   ·exact .inl h1
   ·exact .inr h1.2
 ·rw [if_neg h]
  constructor
  ·exact .inl
  ·rintro (h1 | ⟨h1, rfl⟩)
   ·exact h1
   ·exact Decidable.byContradiction fun hc => h ⟨h1, hc⟩
theorem foldO_mem : ∀ (ms : List Qc) (o : List Nat) (x : Nat), x ∈ ms.foldl addO o ↔ x ∈ o ∨ ∃ m ∈ ms, 0 ≤ m.To ∧ x = m.To.toNat := by
 intro ms
 induction ms with
 | nil => intro o x; simp
 | cons m ms ih =>
  intro o x
  rw [Qhz, ih, addO_mem]
  constructor
  ·rintro ((h | h) | ⟨m', h1, h2⟩)
   ·exact .inl h
   ·exact .inr ⟨m, Qg4, h⟩
   ·exact .inr ⟨m', Qgz _ h1, h2⟩
  ·rintro (h | ⟨m', h1, h2⟩)
   ·exact .inl (.inl h)
   ·rcases Qhl.1 h1 with rfl | h1
    ·exact .inl (.inr h2)
    ·exact .inr ⟨m', h1, h2⟩
theorem addO_nodup {o : List Nat} {m : Qc} (h : o.Nodup) : (addO o m).Nodup := by
 rw [addO]
 split
 ·next hk => exact Qib.2 ⟨h, Qix.2 ⟨Qi1, Qiw⟩, fun a ha b hb => by rw [Qgo.1 hb]; exact fun e => hk.2 (e ▸ ha)⟩
 ·exact h
theorem Qf0 : ∀ (ms : List Qc) (o : List Nat), o.Nodup → (ms.foldl addO o).Nodup := by
 intro ms
 induction ms with
 | nil => intro o h; exact h
 | cons m ms ih => intro o h; exact ih _ (addO_nodup h)
theorem addO_pre (o : List Nat) (m : Qc) : ∃ t, addO o m = o ++ t := by
 rw [addO]
 split
 ·exact ⟨_, rfl⟩
 ·exact ⟨[], (Qhc _).symm⟩
theorem foldO_pre : ∀ (ms : List Qc) (o : List Nat), ∃ t, ms.foldl addO o = o ++ t := by
 intro ms
 induction ms with
 | nil => intro o; exact ⟨[], (Qhc _).symm⟩
 | cons m ms ih =>
  intro o
  obtain ⟨t, ht⟩ := addO_pre o m
  obtain ⟨u, hu⟩ := ih (addO o m)
  exact ⟨t ++ u, by rw [Qhz, hu, ht, Qgj]⟩
structure Ord (S : List Qa) (o r : List Nat) : Prop where
 pre : ∃ t, r = o ++ t
 nodup : r.Nodup
 lt : ∀ x ∈ r, x < S.length
 closed : ∀ a ∈ r, ∀ m ∈ mvs S a, 0 ≤ m.To → m.To.toNat ∈ r
 why : ∀ x ∈ r, x ∈ o ∨ ∃ a ∈ r, ∃ m ∈ mvs S a, 0 ≤ m.To ∧ x = m.To.toNat
theorem bfs_spec {S : List Qa} (hT : toOk S) : ∀ (k i : Nat) (o : List Nat), o.Nodup → (∀ x ∈ o, x < S.length) → i ≤ o.length → S.length < k + i → (∀ j, (h : j < o.length) → j < i → ∀ m ∈ mvs S o[j], 0 ≤ m.To → m.To.toNat ∈ o) → Ord S o (bfs S k i o) := by
 intro k
 induction k with
 | zero =>
  intro i o h1 h2 h3 h4 h5
  have := Tf o (List.range S.length) h1 fun x hx => Qh8.2 (h2 x hx)
  rw [Qhi] at this
  omega
 | succ k ih =>
  intro i o h1 h2 h3 h4 h5
  rw [bfs]
  by_cases hi : i < o.length
  ·rw [if_pos hi, Za hi]
   have hlt := h2 _ (Qgm hi)
   obtain ⟨t, ht⟩ := foldO_pre (mvs S o[i]) o
   have hmem := foldO_mem (mvs S o[i]) o
   obtain ⟨⟨u, hu⟩, g2, g3, g4, g5⟩ := ih (i + 1) _ (Qf0 (mvs S o[i]) o h1) (fun x hx => by
     rcases (hmem x).1 hx with h | ⟨m, hm, h0, rfl⟩
     ·exact h2 x h
     ·have := hT _ hlt m hm; omega) (by rw [ht, Qgl]; omega) (by omega) (fun j hj hji m hm h0 => by
     have hjo : j < o.length := by omega
     have he : ((mvs S o[i]).foldl addO o)[j] = o[j] := by simp only [ht]; exact List.getElem_append_left hjo
     rw [he] at hm
     refine (hmem _).2 ?_
     by_cases hj' : j < i
     ·exact .inl (h5 j hjo hj' m hm h0)
     ·have : j = i := by omega
      subst this
      exact .inr ⟨m, hm, h0, rfl⟩)
   refine ⟨⟨t ++ u, by rw [hu, ht, Qgj]⟩, g2, g3, g4, fun x hx => ?_⟩
   rcases g5 x hx with h | h
   ·rcases (hmem x).1 h with h | ⟨m, hm, h0, he⟩
    ·exact .inl h
    ·refine .inr ⟨o[i], ?_, m, hm, h0, he⟩
     rw [hu]
     exact Qgk.2 (.inl ((hmem _).2 (.inl (Qgm hi))))
   ·exact .inr h
  ·rw [if_neg hi]
   refine ⟨⟨[], (Qhc _).symm⟩, h1, h2, fun a ha m hm h0 => ?_, fun x hx => .inl hx⟩
   obtain ⟨j, hj, rfl⟩ := Qhg ha
   exact h5 j hj (by omega) m hm h0
theorem Ex {S : List Qa} (hT : toOk S) (h0 : 0 < S.length) : Ord S [0] (X4 S) :=
 bfs_spec hT (S.length + 1) 0 [0] (Qix.2 ⟨Qi1, Qiw⟩) (fun x hx => by rw [Qgo.1 hx]; exact h0) (Qgx _) (by omega) fun j _ h => absurd h (Nat.not_lt_zero _)
theorem Jc {S : List Qa} (hT : toOk S) : Blk S (X0 S) :=
 blk_spec S hT _ _ _ (by rw [Qhk]) (Qgx _) (by omega) fun E hE i j h => by
  obtain ⟨h1, h2, _⟩ := hE i j h
  rw [eqL, Za (by rw [Qhk]; exact h1), Za (by rw [Qhk]; exact h2), Qiq, Qiq]
inductive Qei (S : List Qa) : Nat → Prop
 | rule {i : Nat} : i < S.length → D5 (stA S i) = true → Qei S i
 | step {i : Nat} (m : Qc) : i < S.length → m ∈ mvs S i → 0 ≤ m.To → Qei S m.To.toNat → Qei S i
structure Qes (S : List Qa) (l : List Bool) : Prop where
 len : l.length = S.length
 iff : ∀ i, l.getD i false = true ↔ Qei S i
theorem bury_to {S : List Qa} {l : List Bool} {i : Nat} {m : Qc} (hm : m ∈ mvs (V5 S l) i) (h0 : 0 ≤ m.To) : m ∈ mvs S i ∧ l.getD m.To.toNat false = true := by
 rw [V5, Qcy] at hm
 obtain ⟨q, hq, rfl⟩ := Qhe.1 hm
 rw [Ca, Qdi] at h0 ⊢
 by_cases hl : l.getD q.To.toNat false = true
 ·rw [if_pos hl] at h0 ⊢
  by_cases hc : 0 ≤ q.To
  ·rw [if_pos ⟨hc, by omega⟩]
   refine ⟨?_, by show l.getD (Int.toNat (q.To.toNat : Int)) false = true; rw [Qgp]; exact hl⟩
   have : (⟨(q.To.toNat : Int), q.Ops⟩ : Qc) = q := by rw [Qhw hc]
   rw [this]; exact hq
  ·rw [if_neg (by omega)] at h0; dsimp only at h0; omega
 ·rw [if_neg hl, if_neg (by omega)] at h0; dsimp only at h0; omega
theorem bury_ok {S : List Qa} {l : List Bool} (hT : toOk S) : toOk (V5 S l) := fun i hi m hm => by
 rw [V5, Hu] at hi ⊢
 by_cases h0 : 0 ≤ m.To
 ·exact hT i hi m (bury_to hm h0).1
 ·omega
theorem join_to {S : List Qa} (hT : toOk S) {i : Nat} {m : Qc} (hi : i < S.length) (hm : m ∈ mvs (S4 S) i) (h0 : 0 ≤ m.To) : ∃ q ∈ mvs S i, 0 ≤ q.To ∧ m.Ops = q.Ops ∧ m.To = ((X0 S).idxOf ((X0 S).getD q.To.toNat 0) : Int) := by
 have hl := (Jc hT).len
 rw [S4, Qcy] at hm
 obtain ⟨q, hq, rfl⟩ := Qhe.1 hm
 rw [Ca] at h0 ⊢
 by_cases hc : 0 ≤ q.To
 ·have hq' := hT i hi q hq
  have hj := Qdg (l := X0 S) (i := q.To.toNat) (by omega)
  rw [hj] at h0 ⊢
  rw [if_pos ⟨hc, by omega⟩]
  exact ⟨q, hq, hc, rfl, by rw [Za (by omega)]⟩
 ·rw [if_neg (by omega)] at h0; dsimp only at h0; omega
theorem join_ok {S : List Qa} (hT : toOk S) : toOk (S4 S) := fun i hi m hm => by
 rw [S4, Hu] at hi ⊢
 by_cases h0 : 0 ≤ m.To
 ·obtain ⟨q, hq, hc, _, he⟩ := join_to hT hi hm h0
  have hl := (Jc hT).len
  have := hT i hi q hq
  have h1 : (X0 S).idxOf ((X0 S).getD q.To.toNat 0) < (X0 S).length := by
   rw [Za (by omega)]
   exact Qht.2 (Qgm _)
  omega
 ·omega
theorem P9 (S : List Qa) : (Qde S).length = (X4 S).length := by rw [Qde, Qgn]
end Go.Rv
namespace Go.Rv
def MvQ (S : List Qa) (R : List Int) (m : Qc) : Prop :=
 (m.To = -1 ∧ m.Ops = []) ∨ (1 ≤ m.To ∧ m.To < S.length ∧ m.Ops.length = (stA S m.To.toNat).R.length ∧ ∀ i, (h : i < m.Ops.length) → 1 ≤ m.Ops[i] ∧ m.Ops[i] ≤ 3 ∧ (m.Ops[i] = 3 ∨ (stA S m.To.toNat).R.getD i 0 ∈ R))
structure StQ (n : Nat) (many : Int) (S : List Qa) (s : Qa) : Prop where
 code : X8 s.R.length ≠ 0
 rl : (s.Rule.length : Int) = X8 s.R.length
 nl : (s.Next.length : Int) = X8 s.R.length
 l : Tp s.L 512 = true
 r : Tp s.R n = true
 rule : ∀ r ∈ s.Rule, -1 ≤ r ∧ r < 512
 row : ∀ r ∈ s.Next, (r.length : Int) = many
 mv : ∀ r ∈ s.Next, ∀ m ∈ r, MvQ S s.R m
structure RQ (a : Qm) : Prop where
 split : splitS a.Split = true
 cl : a.Counts.length ≤ 512
 cn : ∀ c ∈ a.Counts, cntP c = true
 n1 : 1 ≤ a.States.length
 n2 : a.States.length ≤ 256
 l0 : (stA a.States 0).L = []
 r0 : (stA a.States 0).R = []
 st : ∀ s ∈ a.States, StQ a.Counts.length a.Split.Many a.States s
theorem stR_eq (a : Qm) (m : Qc) : stR a m = (stA a.States m.To.toNat).R := by
 rw [stR, stA, List.getD]
 cases a.States[m.To.toNat]? <;> rfl
theorem mvQ_iff {a : Qm} {s : Qa} {m : Qc} : Qd4 a s m = true ↔ MvQ a.States s.R m := by
 rw [Qd4, MvQ, stR_eq]
 by_cases h : m.To = -1
 ·rw [if_pos h, Qio, Qin]
  constructor
  ·exact fun h' => .inl ⟨h, h'⟩
  ·rintro (h' | h')
   ·exact h'.2
   ·omega
 ·rw [if_neg h]
  simp only [Qhu, Qih, Qio, Qfj, opP, stR_eq, Qjm, List.contains_iff_mem]
  constructor
  ·rintro ⟨h1, h2, h3, h4⟩
   refine .inr ⟨h1, h2, h3, fun i hi => ?_⟩
   have := h4 i (Qgx _) (by omega)
   rw [Za hi] at this
   exact this
  ·rintro (h' | ⟨h1, h2, h3, h4⟩)
   ·exact absurd h'.1 h
   ·refine ⟨h1, h2, h3, fun i _ hi => ?_⟩
    rw [Qhf] at hi
    rw [Za hi]
    exact h4 i hi
theorem stQ_iff {a : Qm} {s : Qa} : Kq a s = true ↔ StQ a.Counts.length a.Split.Many a.States s := by
 simp only [Kq, Qhu, Bool.not_eq_true', Qg6, Qio, Qfj, rowP, Qih]
 constructor
 ·rintro ⟨h1, h2, h3, h4, h5, h6⟩
  have hl : s.Rule.length = s.Next.length := by omega
  refine ⟨h1, h2, h3, h4, h5, fun r hr => ?_, fun r hr => ?_, fun r hr m hm => ?_⟩
  ·obtain ⟨i, hi, rfl⟩ := Qhg hr
   have := h6 i (Qgx _) (by omega)
   rw [Za hi] at this
   exact ⟨this.1, this.2.1⟩
  ·obtain ⟨i, hi, rfl⟩ := Qhg hr
   have := h6 i (Qgx _) (by omega)
   rw [Za hi] at this
   exact this.2.2.1
  ·obtain ⟨i, hi, rfl⟩ := Qhg hr
   obtain ⟨j, hj, rfl⟩ := Qhg hm
   have := h6 i (Qgx _) (by omega)
   rw [Za hi] at this
   have := this.2.2.2 j (Qgx _) (by omega)
   rw [Za hj] at this
   exact mvQ_iff.1 this
 ·rintro ⟨h1, h2, h3, h4, h5, h6, h7, h8⟩
  have hl : s.Rule.length = s.Next.length := by omega
  refine ⟨h1, h2, h3, h4, h5, fun i _ hi => ?_⟩
  rw [Qhf] at hi
  rw [Za hi, Za (by omega)]
  obtain ⟨a1, a2⟩ := h6 _ (Qgm (show i < s.Rule.length by omega))
  refine ⟨a1, a2, h7 _ (Qgm hi), fun j _ hj => ?_⟩
  rw [Qhf] at hj
  rw [Za hj]
  exact mvQ_iff.2 (h8 _ (Qgm hi) _ (Qgm hj))
theorem Qft {a : Qm} : Qc0 a = true ↔ RQ a := by
 simp only [Qc0, Qhu, Bool.not_eq_true', decide_eq_false_iff_not, Qio, Qin, Qfj]
 constructor
 ·rintro ⟨h1, h2, h3, h4, ⟨h5, h6⟩, h7, h8⟩
  refine ⟨h1, by omega, fun c hc => ?_, by omega, by omega, h5, h6, fun s hs => ?_⟩
  ·obtain ⟨i, hi, rfl⟩ := Qhg hc
   have := h7 i (Qgx _) (by omega)
   rw [Za hi] at this
   exact this
  ·obtain ⟨i, hi, rfl⟩ := Qhg hs
   have := h8 i (Qgx _) (by omega)
   rw [Za hi] at this
   exact stQ_iff.1 this
 ·rintro ⟨h1, h2, h3, h4, h5, h6, h7, h8⟩
  refine ⟨h1, by omega, by omega, by omega, ⟨h6, h7⟩, fun i _ hi => ?_, fun i _ hi => ?_⟩
  ·rw [Qhf] at hi
   rw [Za hi]; exact h3 _ (Qgm hi)
  ·rw [Qhf] at hi
   rw [Za hi]; exact stQ_iff.2 (h8 _ (Qgm hi))
theorem RQ.mvs {a : Qm} (h : RQ a) {i : Nat} {m : Qc} (hi : i < a.States.length) (hm : m ∈ mvs a.States i) : MvQ a.States (stA a.States i).R m := by
 rw [Go.Rv.mvs, Ww hi] at hm
 obtain ⟨r, hr, hm⟩ := Qir.1 hm
 rw [Ww hi]
 exact (h.st _ (Qgm hi)).mv r hr m hm
theorem RQ.toOk {a : Qm} (h : RQ a) : toOk a.States := fun i hi m hm => by
 have := h.n1
 rcases h.mvs hi hm with h | h
 ·omega
 ·exact h.2.1
theorem codes_le {n : Nat} (h : X8 n ≠ 0) : n ≤ 3 ∧ 1 ≤ X8 n ∧ X8 n ≤ 27 := by
 rw [X8] at h ⊢
 split
 ·omega
 ·split
  ·omega
  ·split
   ·omega
   ·split
    ·omega
    ·next a b c d => rw [if_neg a, if_neg b, if_neg c, if_neg d] at h; exact absurd rfl h
end Go.Rv
namespace Go.Rv
def Pl (a : Qm) : Prop := RQ a ∧ ∀ i, i < 256 → 0 ≤ a.Split.Of.f i ∧ a.Split.Of.f i < 256
theorem getD_far {α : Type} {l : List α} {i : Nat} {d : α} (h : l.length ≤ i) : l.getD i d = d := by simp [List.getD, h]
theorem rows_len {α : Type} {c : Nat} : ∀ (l : List (List α)), (∀ r ∈ l, r.length ≤ c) → l.flatten.length ≤ l.length * c := by
 intro l
 induction l with
 | nil => intro _; exact Qgx _
 | cons r l ih =>
  intro h
  have h1 := h r Qg4
  have h2 := ih fun r hr => h r (Qgz _ hr)
  rw [Qg7, Qgl, Qgy, Qhy]
  omega
theorem RQ.many {a : Qm} (h : RQ a) : a.Split.Many ≤ 256 := by
 have := splitF_many a.Split.Of 256 0 0 a.Split.Many h.split
 omega
structure T9 (s : Qa) : Prop where
 l : s.L.length ≤ 512
 r : s.R.length ≤ 3
 rule : 0 < s.Rule.length ∧ s.Rule.length ≤ 27
 next : s.Next.length ≤ 27
 row : ∀ r ∈ s.Next, r.length ≤ 256
 ops : ∀ r ∈ s.Next, ∀ m ∈ r, m.Ops.length ≤ 3
theorem RQ.small {a : Qm} (h : RQ a) {s : Qa} (hs : s ∈ a.States) : T9 s := by
 have g := h.st s hs
 obtain ⟨h1, h2, h3⟩ := codes_le g.code
 have h4 := g.rl
 have h5 := g.nl
 have h6 := h.many
 refine ⟨?_, h1, by omega, by omega, fun r hr => ?_, fun r hr m hm => ?_⟩
 ·rcases Qdz s.L (-1) (by omega) g.l with h | h
  ·omega
  ·simp [h]
 ·have := g.row r hr; omega
 ·rcases g.mv r hr m hm with ⟨_, h⟩ | ⟨h7, h8, h9, _⟩
  ·simp [h]
  ·have := (codes_le (h.st _ (Qgm (show m.To.toNat < a.States.length by omega))).code).1
   rw [Ww (by omega)] at h9
   omega
theorem T9.flat {s : Qa} (h : T9 s) : s.Next.flatten.length ≤ 6912 := by
 have h1 := rows_len s.Next h.row
 have h2 := h.next
 omega
theorem Pl.okay {a : Qm} (h : Pl a) : Okay a :=
 ⟨h.2, by have := h.1.cl; omega, by have := h.1.n2; omega, fun s hs => by
  have g := h.1.small hs
  have := g.l; have := g.r; have := g.rule; have := g.next
  exact ⟨by omega, by omega, by omega, by omega, fun r hr => ⟨by have := g.row r hr; omega, fun m hm => by have := g.ops r hr m hm; omega⟩⟩⟩
theorem Pl.big {a : Qm} (h : Pl a) {K : Nat} (hK : 1000 ≤ K) : Qeb a K :=
 ⟨by omega, by have := h.1.cl; omega, by have := h.1.n2; omega, fun s hs => by
  have g := h.1.small hs
  have := g.l; have := g.r; have := g.rule; have := g.next
  exact ⟨by omega, by omega, by omega, fun r hr => ⟨by have := g.row r hr; omega, fun m hm => by have := g.ops r hr m hm; omega⟩⟩⟩
theorem Pl.auto {a : Qm} (h : Pl a) {K : Nat} (hK : 1000 ≤ K) : Hh K a = some true := by
 rw [autoRight K a h.okay (h.big hK), Qft.2 h.1]
theorem Pl.ref {a : Qm} (h : Pl a) {K : Nat} (hK : 1000 ≤ K) : Vf K a = some true := by
 rw [refRight K a h.okay (h.big hK), Qft.2 h.1]
theorem Pl.live {a : Qm} (h : Pl a) {K : Nat} (hK : 10000 ≤ K) : LiveOk K a :=
 ⟨by omega, by have := h.1.n2; omega, fun s hs => (h.1.small hs).rule, fun s hs => by
  have g := (h.1.small hs).flat
  exact ⟨(h.1.small hs).next, g, by omega⟩, fun s hs m hm => by
  obtain ⟨i, hi, rfl⟩ := Qhg hs
  exact h.1.toOk i hi m (by rw [mvs, Ww hi]; exact hm)⟩
theorem addF_get {i : Int} {F : List (List Int)} {m : Qc} {j : Nat} {p : Int} (hj : j < F.length) : p ∈ (addF i F m).getD j [] ↔ p ∈ F.getD j [] ∨ (p = i ∧ 0 ≤ m.To ∧ m.To.toNat = j) := by
 rw [addF]
 by_cases h : m.To ≥ 0
 ·rw [if_pos h]
  by_cases hm : m.To.toNat = j
  ·subst hm
   rw [Za (by rw [Qh3]; exact hj), List.getElem_set_self, Qgk, Qgo]
   constructor
   ·rintro (h1 | h1)
    ·exact .inl h1
    ·exact .inr ⟨h1, h, rfl⟩
   ·rintro (h1 | h1)
    ·exact .inl h1
    ·exact .inr h1.1
  ·rw [Za (by rw [Qh3]; exact hj), List.getElem_set_ne hm, Za hj]
   constructor
   ·exact .inl
   ·rintro (h1 | h1)
    ·exact h1
    ·exact absurd h1.2.2 hm
 ·rw [if_neg h]
  constructor
  ·exact .inl
  ·rintro (h1 | h1)
   ·exact h1
   ·omega
theorem foldF_get {i : Int} : ∀ (ms : List Qc) (F : List (List Int)) (j : Nat) (p : Int), j < F.length → (p ∈ (ms.foldl (addF i) F).getD j [] ↔ p ∈ F.getD j [] ∨ (p = i ∧ ∃ m ∈ ms, 0 ≤ m.To ∧ m.To.toNat = j)) := by
 intro ms
 induction ms with
 | nil => intro F j p _; simp
 | cons m ms ih =>
  intro F j p hj
  rw [Qhz, ih _ _ _ (by rw [addF_len]; exact hj), addF_get hj]
  constructor
  ·rintro ((h | ⟨h1, h2⟩) | ⟨h1, m', h2, h3⟩)
   ·exact .inl h
   ·exact .inr ⟨h1, m, Qg4, h2⟩
   ·exact .inr ⟨h1, m', Qgz _ h2, h3⟩
  ·rintro (h | ⟨h1, m', h2, h3⟩)
   ·exact .inl (.inl h)
   ·rcases Qhl.1 h2 with rfl | h2
    ·exact .inl (.inr ⟨h1, h3⟩)
    ·exact .inr ⟨h1, m', h2, h3⟩
theorem initF_get : ∀ (l : List Qa) (i : Int) (F : List (List Int)) (j : Nat) (p : Int), j < F.length → (p ∈ (T0 l i F).getD j [] ↔ p ∈ F.getD j [] ∨ ∃ k, ∃ (h : k < l.length), p = i + k ∧ ∃ m ∈ l[k].Next.flatten, 0 ≤ m.To ∧ m.To.toNat = j) := by
 intro l
 induction l with
 | nil => intro i F j p _; simp [T0]
 | cons s l ih =>
  intro i F j p hj
  rw [T0, ih _ _ _ _ (by rw [Qf1]; exact hj), foldF_get _ _ _ _ hj]
  constructor
  ·rintro ((h | ⟨h1, h2⟩) | ⟨k, hk, h1, h2⟩)
   ·exact .inl h
   ·exact .inr ⟨0, by rw [Qgy]; omega, by omega, h2⟩
   ·exact .inr ⟨k + 1, by rw [Qgy]; omega, by omega, h2⟩
  ·rintro (h | ⟨k, hk, h1, h2⟩)
   ·exact .inl (.inl h)
   ·cases k with
    | zero => exact .inl (.inr ⟨by omega, h2⟩)
    | succ k => exact .inr ⟨k, by rw [Qgy] at hk; omega, by omega, h2⟩
theorem initF_len : ∀ (l : List Qa) (i : Int) (F : List (List Int)), (T0 l i F).length = F.length := by
 intro l
 induction l with
 | nil => intro i F; rfl
 | cons s l ih => intro i F; rw [T0, ih, Qf1]
theorem initT_get : ∀ (l : List Qa) (i : Int) (p : Int), p ∈ Qfa l i ↔ ∃ k, ∃ (h : k < l.length), p = i + k ∧ D5 l[k] = true := by
 intro l
 induction l with
 | nil => intro i p; simp [Qfa]
 | cons s l ih =>
  intro i p
  rw [Qfa, Qgk, ih]
  constructor
  ·rintro (h | ⟨k, hk, h1, h2⟩)
   ·split at h
    ·next hr => exact ⟨0, by rw [Qgy]; omega, by rw [Qgo.1 h]; omega, hr⟩
    ·cases h
   ·exact ⟨k + 1, by rw [Qgy]; omega, by omega, h2⟩
  ·rintro ⟨k, hk, h1, h2⟩
   cases k with
   | zero =>
    refine .inl ?_
    rw [List.getElem_cons_zero] at h2
    rw [if_pos h2, Qgo]; omega
   | succ k => exact .inr ⟨k, by rw [Qgy] at hk; omega, by omega, h2⟩
def sumL (F : List (List Int)) : Nat := (F.map List.length).sum
theorem sum_set : ∀ (l : List Nat) (j c : Nat), j < l.length → (l.set j c).sum + l.getD j 0 = l.sum + c := by
 intro l
 induction l with
 | nil => intro j c h; cases h
 | cons x l ih =>
  intro j c h
  cases j with
  | zero => simp only [Qi7, List.sum_cons, List.getD_cons_zero]; omega
  | succ j =>
   have := ih j c (by rw [Qgy] at h; omega)
   simp only [Qi8, List.sum_cons, List.getD_cons_succ]
   omega
theorem addF_sum (i : Int) (F : List (List Int)) (m : Qc) : sumL (addF i F m) ≤ sumL F + 1 := by
 rw [addF]
 split
 ·by_cases hj : m.To.toNat < F.length
  ·have h1 := sum_set (F.map List.length) m.To.toNat ((F.getD m.To.toNat []).length + 1) (by rw [Qgn]; exact hj)
   rw [Za (l := F.map List.length) (by rw [Qgn]; exact hj), Qhq, Za hj] at h1
   rw [sumL, sumL, List.map_set, Qgl, Qgs, Za hj]
   omega
  ·rw [List.set_eq_of_length_le (by omega)]; omega
 ·omega
theorem foldF_sum (i : Int) : ∀ (ms : List Qc) (F : List (List Int)), sumL (ms.foldl (addF i) F) ≤ sumL F + ms.length := by
 intro ms
 induction ms with
 | nil => intro F; exact Qgv _
 | cons m ms ih =>
  intro F
  have h1 := ih (addF i F m)
  have h2 := addF_sum i F m
  rw [Qhz, Qgy]
  omega
theorem initF_sum : ∀ (l : List Qa) (i : Int) (F : List (List Int)), (∀ s ∈ l, s.Next.flatten.length ≤ 6912) → sumL (T0 l i F) ≤ sumL F + 6912 * l.length := by
 intro l
 induction l with
 | nil => intro i F _; exact Qgv _
 | cons s l ih =>
  intro i F h
  have h1 := ih (i + 1) (s.Next.flatten.foldl (addF i) F) fun s hs => h s (Qgz _ hs)
  have h2 := foldF_sum i s.Next.flatten F
  have h3 := h s Qg4
  rw [T0, Qgy]
  omega
theorem leftW_le (F : List (List Int)) : ∀ (out : List Bool) (i : Nat), leftW F out i ≤ sumL (F.drop i) := by
 intro out
 induction out with
 | nil => intro i; exact Qgx _
 | cons b out ih =>
  intro i
  have := ih (i + 1)
  rw [leftW]
  by_cases h : i < F.length
  ·rw [Qgt h, sumL, Qhb, List.sum_cons, Za h]
   rw [sumL] at this
   split <;> omega
  ·have e : F.getD i [] = [] := by simp [List.getD, h]
   rw [e, Qg9]
   rw [Qg1 (by omega)] at this ⊢
   split <;> omega
theorem repl_get {α : Type} {n j : Nat} {d x : α} (h : (List.replicate n x).getD j d ≠ d) : j < n := by
 refine Decidable.byContradiction fun hc => h ?_
 simp [List.getD, hc]
theorem Qei.lt {S : List Qa} {i : Nat} (h : Qei S i) : i < S.length := by cases h <;> assumption
theorem isLive_of {S : List Qa} {l : List Bool} (hl : l.length = S.length) (h1 : ∀ i, l.getD i false = true → Qei S i) (h2 : ∀ i, i < S.length → D5 (stA S i) = true → l.getD i false = true) (h3 : ∀ i, i < S.length → ∀ m ∈ mvs S i, 0 ≤ m.To → l.getD m.To.toNat false = true → l.getD i false = true) : Qes S l :=
 ⟨hl, fun i => ⟨h1 i, fun h => by
  induction h with
  | rule a b => exact h2 _ a b
  | step m a b c _ ih => exact h3 _ a m b c ih⟩⟩
theorem live_ok {a : Qm} (h : Pl a) {K : Nat} (hK : 10000000 ≤ K) : ∃ l, Te K a = some l ∧ Qes a.States l := by
 have hn := h.1.n2
 have hL := h.live (K := K) (by omega)
 have hs0 : sumL (List.replicate a.States.length ([] : List Int)) = 0 := by
  rw [sumL, Qim, Qg9, List.sum_replicate_nat]; omega
 have hF0 : ∀ r ∈ List.replicate a.States.length ([] : List Int), r.length ≤ 0 := fun r hr => by rw [(List.mem_replicate.1 hr).2]; exact Qgv _
 have e0 := live_l0 K a hL (List.replicate a.States.length false) a.States.length K 0 0 (List.replicate a.States.length []) [] rfl (by omega) (Qgx _) (Qhk ..) hF0 (by omega) (Qgv _)
 rw [Qhj, Qgw, Qg5] at e0
 have hlenF : (T0 a.States 0 (List.replicate a.States.length [])).length = a.States.length := by rw [initF_len, Qhk]
 have hget : ∀ j p, j < a.States.length → (p ∈ (T0 a.States 0 (List.replicate a.States.length [])).getD j [] ↔ ∃ k, ∃ (h : k < a.States.length), p = (k : Int) ∧ ∃ m ∈ a.States[k].Next.flatten, 0 ≤ m.To ∧ m.To.toNat = j) := fun j p hj => by
  rw [initF_get _ _ _ _ _ (by rw [Qhk]; exact hj), Za (by rw [Qhk]; exact hj), Qiq]
  simp
 have hfar : ∀ j p, p ∈ (T0 a.States 0 (List.replicate a.States.length [])).getD j [] → j < a.States.length := fun j p hp => by
  refine Decidable.byContradiction fun hc => ?_
  rw [getD_far (by omega)] at hp
  cases hp
 have hlw := leftW_le (T0 a.States 0 (List.replicate a.States.length [])) (List.replicate a.States.length false) 0
 have hsum := initF_sum a.States 0 (List.replicate a.States.length []) fun s hs => (h.1.small hs).flat
 have htl := initT_len a.States 0
 rw [Qhj] at hlw
 have hff : ∀ i, (List.replicate a.States.length false).getD i false = true → False := fun i hi => by
  have := repl_get (d := false) (by rw [hi]; decide)
  rw [Za (by rw [Qhk]; exact this), Qiq] at hi
  cases hi
 obtain ⟨out, e, g1, g2, g3, _, g5⟩ := live_l2 K (T0 a.States 0 (List.replicate a.States.length [])) a.States.length hlenF (fun r hr p hp => by
   obtain ⟨j, hj, rfl⟩ := Qhg hr
   rw [← Za (d := []) hj] at hp
   obtain ⟨k, hk, rfl, _⟩ := (hget j p (by omega)).1 hp
   omega) (Qei a.States) (fun i hi p hp => by
   obtain ⟨k, hk, rfl, m, hm, h0, he⟩ := (hget i p hi.lt).1 hp
   refine .step m hk (by rw [Qgp, mvs, Ww hk]; exact hm) h0 (by rw [he]; exact hi)) K (List.replicate a.States.length false) (Qfa a.States 0) (Qhk ..) (fun p hp => by
   obtain ⟨k, hk, rfl, hr⟩ := (initT_get _ _ _).1 hp
   refine ⟨by omega, by omega, ?_⟩
   have e : ((0 : Int) + (k : Int)).toNat = k := by omega
   rw [e]
   exact .rule hk (by rw [Ww hk]; exact hr)) (fun i hi => (hff i hi).elim) (fun i hi => (hff i hi).elim) (by omega) (by omega)
 refine ⟨out, ?_, isLive_of g1 g2 (fun i hi hr => ?_) (fun i hi m hm h0 hl => ?_)⟩
 ·rw [Te, h.auto (by omega), bS]
  simp only [Qh2, cF, Qgp]
  rw [Yp (by omega), Yp (Z3.2 ⟨by simp only [maxLen]; omega, by omega⟩), Yp (Z3.2 ⟨by simp only [maxLen]; omega, by omega⟩)]
  exact e0.trans e
 ·have := g5 (i : Int) ((initT_get _ _ _).2 ⟨i, hi, by omega, by rw [Ww hi] at hr; exact hr⟩)
  exact this
 ·have := g3 m.To.toNat hl (i : Int) ((hget _ _ (by rw [← g1]; refine Decidable.byContradiction fun hc => ?_; rw [getD_far (by omega)] at hl; cases hl)).2 ⟨i, hi, rfl, m, by rw [mvs, Ww hi] at hm; exact hm, h0, rfl⟩)
  exact this
end Go.Rv
namespace Go.Rv
theorem Qdy {α : Type} (A B : List α) (x v : α) : (A ++ x :: B).set A.length v = A ++ v :: B := by
 rw [List.set_append_right _ _ (Qgv _), Nat.sub_self, Qi7]
theorem Qd7 {α : Type} (A B : List α) (x : α) : Yw (A ++ x :: B) (A.length : Int) = some x := by
 rw [Ze (by rw [Qgl, Qgy]; omega)]
 rw [List.getElem_append_right (Qgv _)]
 simp
theorem clone8 {K : Nat} {l : List Int} (h : l.length ≤ 1000000) : Um K l = some l := by
 rw [Um, Yp (Z3.2 ⟨by simp only [maxLen, Qg9]; omega, by simp only [Qg9]; omega⟩), Qgw]
theorem cloneI {K : Nat} {l : List Int} (h : l.length ≤ 1000000) : Xk K l = some l := by
 rw [Xk, Yp (Z3.2 ⟨by simp only [maxLen, Qg9]; omega, by simp only [Qg9]; omega⟩), Qgw]
def Dj (to : List Int) (r : List Qc) : List Qc := r.map (Ca to)
theorem send_l2 (K : Nat) (go : Int → Qb → Int → Int → (List (List Qc)) → Int → Int → (List Int) → (List Qa) → (List Int) → (List Int) → (List Int) → (List (List Qc)) → (List (List Qc)) → Option Qb) (i : Int) (c : Nat) (t : Qb) (a b : Int) (N : List (List Qc)) (d : Int) (e : Int) (row : List Qc) (to : List Int) (st : List Qa) (L R U : List Int) (V : List (List Qc)) (hr : row.length ≤ 256) (hm : ∀ m ∈ row, m.To < to.length ∧ m.Ops.length ≤ 3) : ∀ (q k j : Nat) (A B : List (List Qc)) (x : List Qc), row.length - j = q → q < k → A.length = c → x.length ≤ j → j ≤ row.length →
  Zv K go k i (c : Int) t a b N d e row (row.length : Int) (j : Int) to st L R U V (A ++ x :: B) = go i t a b N d (IntKind.i64.wrap (e + 1)) to st L R U V (A ++ (x ++ Dj to (row.drop j)) :: B) := by
 intro q
 induction q with
 | zero =>
  intro k j A B x hq hk hA hx hj
  obtain ⟨k, rfl⟩ := Qjp k (by omega)
  rw [Zv]
  dsimp only
  rw [Qgr (by omega), cF, Qg1 (by omega), Dj, Qiz, Qhc]
 | succ q ih =>
  intro k j A B x hq hk hA hx hj
  obtain ⟨k, rfl⟩ := Qjp k (by omega)
  have hjl : j < row.length := by omega
  obtain ⟨h1, h2⟩ := hm _ (Qgm hjl)
  have hw := Pm (n := j) (by omega)
  have hlt : (j : Int) < (row.length : Int) := by omega
  have hih := fun y => ih k (j + 1) A B (x ++ [y]) (by omega) (by omega) hA (by rw [Qgl, Qgs]; omega) (by omega)
  have hj3 : ∀ T O, Vq K (Zv K go k) i (c : Int) t a b N d e row (row.length : Int) (j : Int) to st L R U V (A ++ x :: B) T O = go i t a b N d (IntKind.i64.wrap (e + 1)) to st L R U V (A ++ (x ++ ⟨T, O⟩ :: Dj to (row.drop (j + 1))) :: B) := fun T O => by
   have hg : Yw (A ++ x :: B) (c : Int) = some x := by rw [← hA]; exact Qd7 A B x
   rw [Vq, hg, bS, Yp (Z3.2 ⟨by simp only [maxLen, Qgs]; omega, by simp only [Qgs]; omega⟩), hw, Qgp, ← hA, Qdy, hA, hih, Qgj]
   rfl
  rw [Zv]
  dsimp only
  rw [Qgu hlt, cT, Ze hjl, bS, Qgt hjl, Dj, Qhb]
  generalize row[j] = m at *
  by_cases h0 : m.To ≥ 0
  ·have ht : m.To.toNat < to.length := by omega
   have hg : Yw to m.To = some (to.getD m.To.toNat (-1)) := by
    have := Ze ht
    rw [Qhw h0] at this
    rw [this, Za ht]
   rw [Qgu h0, cT, hg, bS]
   by_cases h3 : to.getD m.To.toNat (-1) ≥ 0
   ·rw [Qgu h3, cT, clone8 (by omega), bS, hj3, Ca, if_pos ⟨h0, h3⟩]
    rfl
   ·rw [Qgr h3, cF, Vp, hj3, Ca, if_neg (fun h => h3 h.2)]
    rfl
  ·rw [Qgr h0, cF, Vp, hj3, Ca, if_neg (fun h => h0 h.1)]
   rfl
theorem send_l1 (K : Nat) (hK : 1000 ≤ K) (go : Qb → Int → Int → (List Int) → (List Qa) → Option Qb) (t : Qb) (a b : Int) (s : Qa) (to : List Int) (hs : T9 s) (hm : ∀ r ∈ s.Next, ∀ m ∈ r, m.To < to.length) (A B : List Qa) (y : Qa) : ∀ (q k j : Nat) (X : List (List Qc)), s.Next.length - j = q → q < k → X.length = j → j ≤ s.Next.length →
  Yk K go k (A.length : Int) t a b s.Next (s.Next.length : Int) (j : Int) to (A ++ y :: B) s.L s.R s.Rule s.Next (X ++ List.replicate (s.Next.length - j) []) = go t a (IntKind.i64.wrap (b + 1)) to (A ++ ⟨s.L, s.R, s.Rule, X ++ (s.Next.drop j).map (Dj to)⟩ :: B) := by
 intro q
 have g1 := hs.l
 have g2 := hs.r
 have g3 := hs.rule
 have g4 := hs.next
 induction q with
 | zero =>
  intro k j X hq hk hX hj
  obtain ⟨k, rfl⟩ := Qjp k (by omega)
  have e0 : s.Next.length - j = 0 := by omega
  rw [Yk]
  dsimp only
  rw [Qgr (by omega), cF, cloneI (by omega), bS, cloneI (by omega), bS, cloneI (by omega), bS, Qd7, bS, Qgp, Qdy, e0, Qg1 (by omega)]
  rfl
 | succ q ih =>
  intro k j X hq hk hX hj
  obtain ⟨k, rfl⟩ := Qjp k (by omega)
  have hjl : j < s.Next.length := by omega
  have hlt : (j : Int) < (s.Next.length : Int) := by omega
  have hrow := Qgm hjl
  have e1 : s.Next.length - j = (s.Next.length - (j + 1)) + 1 := by omega
  have h2 := send_l2 K (Yk K go k) (A.length : Int) j t a b s.Next (s.Next.length : Int) (j : Int) s.Next[j] to (A ++ y :: B) s.L s.R s.Rule s.Next (hs.row _ hrow) (fun m hmm => ⟨hm _ hrow m hmm, hs.ops _ hrow m hmm⟩) s.Next[j].length K 0 X (List.replicate (s.Next.length - (j + 1)) []) [] rfl (by have := hs.row _ hrow; omega) hX (Qgv _) (Qgx _)
  rw [Qg5, Qhj, Qgw, Pm (n := j) (by omega)] at h2
  have h3 := ih k (j + 1) (X ++ [Dj to s.Next[j]]) (by omega) (by omega) (by rw [Qgl, Qgs]; omega) (by omega)
  rw [Qgj, Qic] at h3
  rw [Yk]
  dsimp only
  rw [Qgu hlt, cT, Ze hjl, bS, e1, Qh4, h2, h3, Qgt hjl, Qhb, Qgj]
  rfl
theorem send_l0 (K : Nat) (hK : 1000 ≤ K) (x : Qm) (to : List Int) (hn : x.States.length ≤ 256) (hs : ∀ s ∈ x.States, T9 s) (hm : ∀ s ∈ x.States, ∀ r ∈ s.Next, ∀ m ∈ r, m.To < to.length) : ∀ (q k i : Nat) (X : List Qa), x.States.length - i = q → q < k → X.length = i → i ≤ x.States.length →
  Yl K k ⟨x⟩ (x.States.length : Int) (i : Int) to (X ++ List.replicate (x.States.length - i) ⟨[], [], [], []⟩) = some ⟨⟨x.Split, x.Counts, X ++ Ef to (x.States.drop i)⟩⟩ := by
 intro q
 induction q with
 | zero =>
  intro k i X hq hk hX hi
  obtain ⟨k, rfl⟩ := Qjp k (by omega)
  have e0 : x.States.length - i = 0 := by omega
  rw [Yl]
  dsimp only
  rw [Qgr (by omega), cF, e0, Qg1 (by omega)]
  rfl
 | succ q ih =>
  intro k i X hq hk hX hi
  obtain ⟨k, rfl⟩ := Qjp k (by omega)
  have hil : i < x.States.length := by omega
  have hlt : (i : Int) < (x.States.length : Int) := by omega
  have hst := Qgm hil
  have hsm := hs _ hst
  have e1 : x.States.length - i = (x.States.length - (i + 1)) + 1 := by omega
  have h2 := send_l1 K hK (Yl K k) ⟨x⟩ (x.States.length : Int) (i : Int) x.States[i] to hsm (hm _ hst) X (List.replicate (x.States.length - (i + 1)) ⟨[], [], [], []⟩) ⟨[], [], [], []⟩ x.States[i].Next.length K 0 [] rfl (by have := hsm.next; omega) rfl (Qgx _)
  rw [Qg5, Qhj, Qgw, Qgw, Qhp, Pm (n := i) (by omega), hX] at h2
  have h3 := ih k (i + 1) (X ++ [Ov to x.States[i]]) (by omega) (by omega) (by rw [Qgl, Qgs]; omega) (by omega)
  rw [Qgj, Qic] at h3
  have h4 := hsm.next
  rw [Yl]
  dsimp only
  rw [Qgu hlt, cT, Ze hil, bS, Yp (by omega), Yp (Z3.2 ⟨by simp only [maxLen]; omega, by omega⟩), Qgp, e1, Qh4, h2, Qgt hil]
  refine Eq.trans h3 ?_
  rw [Qgj]
  rfl
theorem send_ok (K : Nat) (hK : 1000 ≤ K) (x : Qm) (to : List Int) (hn : x.States.length ≤ 256) (hs : ∀ s ∈ x.States, T9 s) (hm : ∀ s ∈ x.States, ∀ r ∈ s.Next, ∀ m ∈ r, m.To < to.length) : Vc K ⟨x⟩ to = some ⟨⟨x.Split, x.Counts, Ef to x.States⟩⟩ := by
 have h := send_l0 K hK x to hn hs hm x.States.length K 0 [] rfl (by omega) rfl (Qgx _)
 rw [Qg5, Qhj, Qgw, Qgw, Qhp] at h
 rw [Vc]
 dsimp only
 rw [Yp (by omega), Yp (Z3.2 ⟨by simp only [maxLen]; omega, by omega⟩), Qgp]
 exact h
theorem send1_l2 (K : Nat) (go : (List Int) → Int → Qb → Int → Int → (List (List Qc)) → Int → Int → (List Qa) → (List Int) → (List Int) → (List Int) → (List (List Qc)) → (List (List Qc)) → Option Qb) (i : Int) (c : Nat) (t : Qb) (a b : Int) (N : List (List Qc)) (d : Int) (e : Int) (row : List Qc) (to : List Int) (st : List Qa) (L R U : List Int) (V : List (List Qc)) (hr : row.length ≤ 256) (hm : ∀ m ∈ row, m.To < to.length ∧ m.Ops.length ≤ 3) : ∀ (q k j : Nat) (A B : List (List Qc)) (x : List Qc), row.length - j = q → q < k → A.length = c → x.length ≤ j → j ≤ row.length →
  Zf K go k to i (c : Int) t a b N d e row (row.length : Int) (j : Int) st L R U V (A ++ x :: B) = go to i t a b N d (IntKind.i64.wrap (e + 1)) st L R U V (A ++ (x ++ Dj to (row.drop j)) :: B) := by
 intro q
 induction q with
 | zero =>
  intro k j A B x hq hk hA hx hj
  obtain ⟨k, rfl⟩ := Qjp k (by omega)
  rw [Zf]
  dsimp only
  rw [Qgr (by omega), cF, Qg1 (by omega), Dj, Qiz, Qhc]
 | succ q ih =>
  intro k j A B x hq hk hA hx hj
  obtain ⟨k, rfl⟩ := Qjp k (by omega)
  have hjl : j < row.length := by omega
  obtain ⟨h1, h2⟩ := hm _ (Qgm hjl)
  have hw := Pm (n := j) (by omega)
  have hlt : (j : Int) < (row.length : Int) := by omega
  have hih := fun y => ih k (j + 1) A B (x ++ [y]) (by omega) (by omega) hA (by rw [Qgl, Qgs]; omega) (by omega)
  have hj3 : ∀ T O, Xm K (Zf K go k) to i (c : Int) t a b N d e row (row.length : Int) (j : Int) st L R U V (A ++ x :: B) T O = go to i t a b N d (IntKind.i64.wrap (e + 1)) st L R U V (A ++ (x ++ ⟨T, O⟩ :: Dj to (row.drop (j + 1))) :: B) := fun T O => by
   have hg : Yw (A ++ x :: B) (c : Int) = some x := by rw [← hA]; exact Qd7 A B x
   rw [Xm, hg, bS, Yp (Z3.2 ⟨by simp only [maxLen, Qgs]; omega, by simp only [Qgs]; omega⟩), hw, Qgp, ← hA, Qdy, hA, hih, Qgj]
   rfl
  rw [Zf]
  dsimp only
  rw [Qgu hlt, cT, Ze hjl, bS, Qgt hjl, Dj, Qhb]
  generalize row[j] = m at *
  by_cases h0 : m.To ≥ 0
  ·have ht : m.To.toNat < to.length := by omega
   have hg : Yw to m.To = some (to.getD m.To.toNat (-1)) := by
    have := Ze ht
    rw [Qhw h0] at this
    rw [this, Za ht]
   rw [Qgu h0, cT, hg, bS]
   by_cases h3 : to.getD m.To.toNat (-1) ≥ 0
   ·rw [Qgu h3, cT, clone8 (by omega), bS, hj3, Ca, if_pos ⟨h0, h3⟩]
    rfl
   ·rw [Qgr h3, cF, Xl, hj3, Ca, if_neg (fun h => h3 h.2)]
    rfl
  ·rw [Qgr h0, cF, Xl, hj3, Ca, if_neg (fun h => h0 h.1)]
   rfl
theorem send1_l1 (K : Nat) (hK : 1000 ≤ K) (go : (List Int) → Qb → Int → Int → (List Qa) → Option Qb) (t : Qb) (a b : Int) (s : Qa) (to : List Int) (hs : T9 s) (hm : ∀ r ∈ s.Next, ∀ m ∈ r, m.To < to.length) (A B : List Qa) (y : Qa) : ∀ (q k j : Nat) (X : List (List Qc)), s.Next.length - j = q → q < k → X.length = j → j ≤ s.Next.length →
  Z7 K go k to (A.length : Int) t a b s.Next (s.Next.length : Int) (j : Int) (A ++ y :: B) s.L s.R s.Rule s.Next (X ++ List.replicate (s.Next.length - j) []) = go to t a (IntKind.i64.wrap (b + 1)) (A ++ ⟨s.L, s.R, s.Rule, X ++ (s.Next.drop j).map (Dj to)⟩ :: B) := by
 intro q
 have g1 := hs.l
 have g2 := hs.r
 have g3 := hs.rule
 have g4 := hs.next
 induction q with
 | zero =>
  intro k j X hq hk hX hj
  obtain ⟨k, rfl⟩ := Qjp k (by omega)
  have e0 : s.Next.length - j = 0 := by omega
  rw [Z7]
  dsimp only
  rw [Qgr (by omega), cF, cloneI (by omega), bS, cloneI (by omega), bS, cloneI (by omega), bS, Qd7, bS, Qgp, Qdy, e0, Qg1 (by omega)]
  rfl
 | succ q ih =>
  intro k j X hq hk hX hj
  obtain ⟨k, rfl⟩ := Qjp k (by omega)
  have hjl : j < s.Next.length := by omega
  have hlt : (j : Int) < (s.Next.length : Int) := by omega
  have hrow := Qgm hjl
  have e1 : s.Next.length - j = (s.Next.length - (j + 1)) + 1 := by omega
  have h2 := send1_l2 K (Z7 K go k) (A.length : Int) j t a b s.Next (s.Next.length : Int) (j : Int) s.Next[j] to (A ++ y :: B) s.L s.R s.Rule s.Next (hs.row _ hrow) (fun m hmm => ⟨hm _ hrow m hmm, hs.ops _ hrow m hmm⟩) s.Next[j].length K 0 X (List.replicate (s.Next.length - (j + 1)) []) [] rfl (by have := hs.row _ hrow; omega) hX (Qgv _) (Qgx _)
  rw [Qg5, Qhj, Qgw, Pm (n := j) (by omega)] at h2
  have h3 := ih k (j + 1) (X ++ [Dj to s.Next[j]]) (by omega) (by omega) (by rw [Qgl, Qgs]; omega) (by omega)
  rw [Qgj, Qic] at h3
  rw [Z7]
  dsimp only
  rw [Qgu hlt, cT, Ze hjl, bS, e1, Qh4, h2, h3, Qgt hjl, Qhb, Qgj]
  rfl
theorem send1_l0 (K : Nat) (hK : 1000 ≤ K) (x : Qm) (to : List Int) (hn : x.States.length ≤ 256) (hs : ∀ s ∈ x.States, T9 s) (hm : ∀ s ∈ x.States, ∀ r ∈ s.Next, ∀ m ∈ r, m.To < to.length) : ∀ (q k i : Nat) (X : List Qa), x.States.length - i = q → q < k → X.length = i → i ≤ x.States.length →
  Z8 K k to ⟨x⟩ (x.States.length : Int) (i : Int) (X ++ List.replicate (x.States.length - i) ⟨[], [], [], []⟩) = some ⟨⟨x.Split, x.Counts, X ++ Ef to (x.States.drop i)⟩⟩ := by
 intro q
 induction q with
 | zero =>
  intro k i X hq hk hX hi
  obtain ⟨k, rfl⟩ := Qjp k (by omega)
  have e0 : x.States.length - i = 0 := by omega
  rw [Z8]
  dsimp only
  rw [Qgr (by omega), cF, e0, Qg1 (by omega)]
  rfl
 | succ q ih =>
  intro k i X hq hk hX hi
  obtain ⟨k, rfl⟩ := Qjp k (by omega)
  have hil : i < x.States.length := by omega
  have hlt : (i : Int) < (x.States.length : Int) := by omega
  have hst := Qgm hil
  have hsm := hs _ hst
  have e1 : x.States.length - i = (x.States.length - (i + 1)) + 1 := by omega
  have h2 := send1_l1 K hK (Z8 K k) ⟨x⟩ (x.States.length : Int) (i : Int) x.States[i] to hsm (hm _ hst) X (List.replicate (x.States.length - (i + 1)) ⟨[], [], [], []⟩) ⟨[], [], [], []⟩ x.States[i].Next.length K 0 [] rfl (by have := hsm.next; omega) rfl (Qgx _)
  rw [Qg5, Qhj, Qgw, Qgw, Qhp, Pm (n := i) (by omega), hX] at h2
  have h3 := ih k (i + 1) (X ++ [Ov to x.States[i]]) (by omega) (by omega) (by rw [Qgl, Qgs]; omega) (by omega)
  rw [Qgj, Qic] at h3
  have h4 := hsm.next
  rw [Z8]
  dsimp only
  rw [Qgu hlt, cT, Ze hil, bS, Yp (by omega), Yp (Z3.2 ⟨by simp only [maxLen]; omega, by omega⟩), Qgp, e1, Qh4, h2, Qgt hil]
  refine Eq.trans h3 ?_
  rw [Qgj]
  rfl
theorem send1_ok (K : Nat) (hK : 1000 ≤ K) (x : Qm) (to : List Int) (hn : x.States.length ≤ 256) (hs : ∀ s ∈ x.States, T9 s) (hm : ∀ s ∈ x.States, ∀ r ∈ s.Next, ∀ m ∈ r, m.To < to.length) : Xu K ⟨x⟩ to = some ⟨⟨x.Split, x.Counts, Ef to x.States⟩⟩ := by
 have h := send1_l0 K hK x to hn hs hm x.States.length K 0 [] rfl (by omega) rfl (Qgx _)
 rw [Qg5, Qhj, Qgw, Qgw, Qhp] at h
 rw [Xu]
 dsimp only
 rw [Yp (by omega), Yp (Z3.2 ⟨by simp only [maxLen]; omega, by omega⟩), Qgp]
 exact h
end Go.Rv
