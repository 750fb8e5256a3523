/- Trimming, plainly: moves sent elsewhere; states as they are come to. -/
import Derived.Test.YtcmfaclkgdmpbaaGreatDoorRpUE
namespace Go.Rv
def toOk (S : List Qa) : Prop := ∀ i, i < S.length → ∀ m ∈ mvs S i, m.To < S.length
def Mk (to : List Int) (m : Qd) : Qd := if 0 ≤ m.To ∧ 0 ≤ to.getD m.To.toNat (-1) then ⟨to.getD m.To.toNat (-1), m.Ops⟩ else ⟨-1, []⟩
def Og (to : List Int) (s : Qa) : Qa := ⟨s.L, s.R, s.Rule, s.Next.map fun r => r.map (Mk to)⟩
def D2 (to : List Int) (S : List Qa) : List Qa := S.map (Og to)
theorem send_flat (to : List Int) (s : Qa) : (Og to s).Next.flatten = s.Next.flatten.map (Mk to) := by
 rw [Og]
 exact List.map_flatten.symm
theorem Wm (to : List Int) (S : List Qa) : (D2 to S).length = S.length := by rw [D2, Qfw]
theorem Sv (to : List Int) (S : List Qa) (i : Nat) : stA (D2 to S) i = Og to (stA S i) := by
 rw [stA, stA, D2]
 simp only [List.getD, List.getElem?_map]
 cases S[i]? <;> rfl
theorem Pg (to : List Int) (S : List Qa) (i : Nat) : mvs (D2 to S) i = (mvs S i).map (Mk to) := by
 rw [mvs, Sv, send_flat]
 rfl
def Qcm (l : List Bool) : List Int := (List.range l.length).map fun i => if l.getD i false = true then (i : Int) else -1
def Pr (l : List Nat) : List Int := l.map fun k => (l.idxOf k : Int)
def addO (o : List Nat) (m : Qd) : List Nat := if 0 ≤ m.To ∧ m.To.toNat ∉ o then o ++ [m.To.toNat] else o
def bfs (S : List Qa) : Nat → Nat → List Nat → List Nat
 | 0, _, o => o
 | k + 1, i, o => if i < o.length then bfs S k (i + 1) ((mvs S (o.getD i 0)).foldl addO o) else o
def Jq (S : List Qa) : List Nat := bfs S (S.length + 1) 0 [0]
def Ef (n : Nat) (o : List Nat) : List Int := (List.range n).map fun j => if j ∈ o then (o.idxOf j : Int) else -1
def Qch (S : List Qa) : List Qa := (Jq S).map fun i => Og (Ef S.length (Jq S)) (stA S i)
def Xi (S : List Qa) (l : List Bool) : List Qa := D2 (Qcm l) S
def Vn (S : List Qa) : List Nat := blkS S (S.length + 1) (List.replicate S.length 0) 0
def Nx (S : List Qa) : List Qa := D2 (Pr (Vn S)) S
def Sm (S : List Qa) (l : List Bool) (b : Bool) : List Qa := Qch (if b = true then Nx (Xi S l) else Xi S l)
theorem Oz {l : List Bool} {i : Nat} : (Qcm l).getD i (-1) = if l.getD i false = true then (i : Int) else -1 := by
 by_cases h : i < l.length
 ·rw [Qcm, Q2 (by rw [Qfw, Qgi]; exact h), Qgt, Qig]
 ·rw [Qcm]; simp [List.getD, h]
theorem Qci {l : List Nat} {i : Nat} (h : i < l.length) : (Pr l).getD i (-1) = (l.idxOf l[i] : Int) := by
 rw [Pr, Q2 (by rw [Qfw]; exact h), Qgt]
theorem S8 {n : Nat} {o : List Nat} {i : Nat} (h : i < n) : (Ef n o).getD i (-1) = if i ∈ o then (o.idxOf i : Int) else -1 := by
 rw [Ef, Q2 (by rw [Qfw, Qgi]; exact h), Qgt, Qig]
theorem addO_mem {o : List Nat} {m : Qd} {x : Nat} : x ∈ addO o m ↔ x ∈ o ∨ (0 ≤ m.To ∧ x = m.To.toNat) := by
 rw [addO]
 by_cases h : 0 ≤ m.To ∧ m.To.toNat ∉ o
 ·rw [if_pos h, Qfz, Qf3]
  constructor
  ·rintro (h1 | h1)
   ·exact .inl h1
   ·exact .inr ⟨h.1, h1⟩
  ·rintro (h1 | h1)
   ·exact .inl h1
   ·exact .inr h1.2
 ·rw [if_neg h]
  constructor
  ·exact .inl
  ·rintro (h1 | ⟨h1, rfl⟩)
   ·exact h1
   ·exact Decidable.byContradiction fun hc => h ⟨h1, hc⟩
theorem foldO_mem : ∀ (ms : List Qd) (o : List Nat) (x : Nat), x ∈ ms.foldl addO o ↔ x ∈ o ∨ ∃ m ∈ ms, 0 ≤ m.To ∧ x = m.To.toNat := by
 intro ms
 induction ms with
 | nil => intro o x; simp
 | cons m ms ih =>
  intro o x
  rw [Qgx, ih, addO_mem]
  constructor
  ·rintro ((h | h) | ⟨m', h1, h2⟩)
   ·exact .inl h
   ·exact .inr ⟨m, Qga, h⟩
   ·exact .inr ⟨m', Qf5 _ h1, h2⟩
  ·rintro (h | ⟨m', h1, h2⟩)
   ·exact .inl (.inl h)
   ·rcases Qg1.1 h1 with rfl | h1
    ·exact .inl (.inr h2)
    ·exact .inr ⟨m', h1, h2⟩
theorem addO_nodup {o : List Nat} {m : Qd} (h : o.Nodup) : (addO o m).Nodup := by
 rw [addO]
 split
 ·next hk => exact Qhy.2 ⟨h, Qin.2 ⟨Qit, Qiw⟩, fun a ha b hb => by rw [Qf3.1 hb]; exact fun e => hk.2 (e ▸ ha)⟩
 ·exact h
theorem Qfc : ∀ (ms : List Qd) (o : List Nat), o.Nodup → (ms.foldl addO o).Nodup := by
 intro ms
 induction ms with
 | nil => intro o h; exact h
 | cons m ms ih => intro o h; exact ih _ (addO_nodup h)
theorem addO_pre (o : List Nat) (m : Qd) : ∃ t, addO o m = o ++ t := by
 rw [addO]
 split
 ·exact ⟨_, rfl⟩
 ·exact ⟨[], (Qgg _).symm⟩
theorem foldO_pre : ∀ (ms : List Qd) (o : List Nat), ∃ t, ms.foldl addO o = o ++ t := by
 intro ms
 induction ms with
 | nil => intro o; exact ⟨[], (Qgg _).symm⟩
 | cons m ms ih =>
  intro o
  obtain ⟨t, ht⟩ := addO_pre o m
  obtain ⟨u, hu⟩ := ih (addO o m)
  exact ⟨t ++ u, by rw [Qgx, hu, ht, Qfx]⟩
structure Ord (S : List Qa) (o r : List Nat) : Prop where
 pre : ∃ t, r = o ++ t
 nodup : r.Nodup
 lt : ∀ x ∈ r, x < S.length
 closed : ∀ a ∈ r, ∀ m ∈ mvs S a, 0 ≤ m.To → m.To.toNat ∈ r
 why : ∀ x ∈ r, x ∈ o ∨ ∃ a ∈ r, ∃ m ∈ mvs S a, 0 ≤ m.To ∧ x = m.To.toNat
theorem bfs_spec {S : List Qa} (hT : toOk S) : ∀ (k i : Nat) (o : List Nat), o.Nodup → (∀ x ∈ o, x < S.length) → i ≤ o.length → S.length < k + i → (∀ j, (h : j < o.length) → j < i → ∀ m ∈ mvs S o[j], 0 ≤ m.To → m.To.toNat ∈ o) → Ord S o (bfs S k i o) := by
 intro k
 induction k with
 | zero =>
  intro i o h1 h2 h3 h4 h5
  have := C4 o (List.range S.length) h1 fun x hx => Qgo.2 (h2 x hx)
  rw [Qgi] at this
  omega
 | succ k ih =>
  intro i o h1 h2 h3 h4 h5
  rw [bfs]
  by_cases hi : i < o.length
  ·rw [if_pos hi, Q2 hi]
   have hlt := h2 _ (Qfy hi)
   obtain ⟨t, ht⟩ := foldO_pre (mvs S o[i]) o
   have hmem := foldO_mem (mvs S o[i]) o
   obtain ⟨⟨u, hu⟩, g2, g3, g4, g5⟩ := ih (i + 1) _ (Qfc (mvs S o[i]) o h1) (fun x hx => by
     rcases (hmem x).1 hx with h | ⟨m, hm, h0, rfl⟩
     ·exact h2 x h
     ·have := hT _ hlt m hm; omega) (by rw [ht, Qfu]; omega) (by omega) (fun j hj hji m hm h0 => by
     have hjo : j < o.length := by omega
     have he : ((mvs S o[i]).foldl addO o)[j] = o[j] := by simp only [ht]; exact Qhm hjo
     rw [he] at hm
     refine (hmem _).2 ?_
     by_cases hj' : j < i
     ·exact .inl (h5 j hjo hj' m hm h0)
     ·have : j = i := by omega
      subst this
      exact .inr ⟨m, hm, h0, rfl⟩)
   refine ⟨⟨t ++ u, by rw [hu, ht, Qfx]⟩, g2, g3, g4, fun x hx => ?_⟩
   rcases g5 x hx with h | h
   ·rcases (hmem x).1 h with h | ⟨m, hm, h0, he⟩
    ·exact .inl h
    ·refine .inr ⟨o[i], ?_, m, hm, h0, he⟩
     rw [hu]
     exact Qfz.2 (.inl ((hmem _).2 (.inl (Qfy hi))))
   ·exact .inr h
  ·rw [if_neg hi]
   refine ⟨⟨[], (Qgg _).symm⟩, h1, h2, fun a ha m hm h0 => ?_, fun x hx => .inl hx⟩
   obtain ⟨j, hj, rfl⟩ := Qgp ha
   exact h5 j hj (by omega) m hm h0
theorem Ej {S : List Qa} (hT : toOk S) (h0 : 0 < S.length) : Ord S [0] (Jq S) :=
 bfs_spec hT (S.length + 1) 0 [0] (Qin.2 ⟨Qit, Qiw⟩) (fun x hx => by rw [Qf3.1 hx]; exact h0) (Qf7 _) (by omega) fun j _ h => absurd h (Qhj _)
theorem H1 {S : List Qa} (hT : toOk S) : Blk S (Vn S) :=
 blk_spec S hT _ _ _ (by rw [Qg0]) (Qf7 _) (by omega) fun E hE i j h => by
  obtain ⟨h1, h2, _⟩ := hE i j h
  rw [eqL, Q2 (by rw [Qg0]; exact h1), Q2 (by rw [Qg0]; exact h2), Qid, Qid]
inductive Qdn (S : List Qa) : Nat → Prop
 | rule {i : Nat} : i < S.length → Cc (stA S i) = true → Qdn S i
 | step {i : Nat} (m : Qd) : i < S.length → m ∈ mvs S i → 0 ≤ m.To → Qdn S m.To.toNat → Qdn S i
structure I5 (S : List Qa) (l : List Bool) : Prop where
 len : l.length = S.length
 iff : ∀ i, l.getD i false = true ↔ Qdn S i
theorem bury_to {S : List Qa} {l : List Bool} {i : Nat} {m : Qd} (hm : m ∈ mvs (Xi S l) i) (h0 : 0 ≤ m.To) : m ∈ mvs S i ∧ l.getD m.To.toNat false = true := by
 rw [Xi, Pg] at hm
 obtain ⟨q, hq, rfl⟩ := Qgf.1 hm
 rw [Mk, Oz] at h0 ⊢
 by_cases hl : l.getD q.To.toNat false = true
 ·rw [if_pos hl] at h0 ⊢
  by_cases hc : 0 ≤ q.To
  ·rw [if_pos ⟨hc, by omega⟩]
   refine ⟨?_, by show l.getD (Int.toNat (q.To.toNat : Int)) false = true; rw [Qf1]; exact hl⟩
   have : (⟨(q.To.toNat : Int), q.Ops⟩ : Qd) = q := by rw [Qir hc]
   rw [this]; exact hq
  ·rw [if_neg (by omega)] at h0; dsimp only at h0; omega
 ·rw [if_neg hl, if_neg (by omega)] at h0; dsimp only at h0; omega
theorem bury_ok {S : List Qa} {l : List Bool} (hT : toOk S) : toOk (Xi S l) := fun i hi m hm => by
 rw [Xi, Wm] at hi ⊢
 by_cases h0 : 0 ≤ m.To
 ·exact hT i hi m (bury_to hm h0).1
 ·omega
theorem join_to {S : List Qa} (hT : toOk S) {i : Nat} {m : Qd} (hi : i < S.length) (hm : m ∈ mvs (Nx S) i) (h0 : 0 ≤ m.To) : ∃ q ∈ mvs S i, 0 ≤ q.To ∧ m.Ops = q.Ops ∧ m.To = ((Vn S).idxOf ((Vn S).getD q.To.toNat 0) : Int) := by
 have hl := (H1 hT).len
 rw [Nx, Pg] at hm
 obtain ⟨q, hq, rfl⟩ := Qgf.1 hm
 rw [Mk] at h0 ⊢
 by_cases hc : 0 ≤ q.To
 ·have hq' := hT i hi q hq
  have hj := Qci (l := Vn S) (i := q.To.toNat) (by omega)
  rw [hj] at h0 ⊢
  rw [if_pos ⟨hc, by omega⟩]
  exact ⟨q, hq, hc, rfl, by rw [Q2 (by omega)]⟩
 ·rw [if_neg (by omega)] at h0; dsimp only at h0; omega
theorem join_ok {S : List Qa} (hT : toOk S) : toOk (Nx S) := fun i hi m hm => by
 rw [Nx, Wm] at hi ⊢
 by_cases h0 : 0 ≤ m.To
 ·obtain ⟨q, hq, hc, _, he⟩ := join_to hT hi hm h0
  have hl := (H1 hT).len
  have := hT i hi q hq
  have h1 : (Vn S).idxOf ((Vn S).getD q.To.toNat 0) < (Vn S).length := by
   rw [Q2 (by omega)]
   exact Qg9.2 (Qfy _)
  omega
 ·omega
theorem Tr (S : List Qa) : (Qch S).length = (Jq S).length := by rw [Qch, Qfw]
end Go.Rv
namespace Go.Rv
def MvQ (S : List Qa) (R : List Int) (m : Qd) : Prop :=
 (m.To = -1 ∧ m.Ops = []) ∨ (1 ≤ m.To ∧ m.To < S.length ∧ m.Ops.length = (stA S m.To.toNat).R.length ∧ ∀ i, (h : i < m.Ops.length) → 1 ≤ m.Ops[i] ∧ m.Ops[i] ≤ 3 ∧ (m.Ops[i] = 3 ∨ (stA S m.To.toNat).R.getD i 0 ∈ R))
structure StQ (n : Nat) (many : Int) (S : List Qa) (s : Qa) : Prop where
 code : U9 s.R.length ≠ 0
 rl : (s.Rule.length : Int) = U9 s.R.length
 nl : (s.Next.length : Int) = U9 s.R.length
 l : Dw s.L 512 = true
 r : Dw s.R n = true
 rule : ∀ r ∈ s.Rule, -1 ≤ r ∧ r < 512
 row : ∀ r ∈ s.Next, (r.length : Int) = many
 mv : ∀ r ∈ s.Next, ∀ m ∈ r, MvQ S s.R m
structure RQ (a : Qn) : Prop where
 split : splitS a.Split = true
 cl : a.Counts.length ≤ 512
 cn : ∀ c ∈ a.Counts, cntP c = true
 n1 : 1 ≤ a.States.length
 n2 : a.States.length ≤ 256
 l0 : (stA a.States 0).L = []
 r0 : (stA a.States 0).R = []
 st : ∀ s ∈ a.States, StQ a.Counts.length a.Split.Many a.States s
theorem stR_eq (a : Qn) (m : Qd) : stR a m = (stA a.States m.To.toNat).R := by
 rw [stR, stA, List.getD]
 cases a.States[m.To.toNat]? <;> rfl
theorem mvQ_iff {a : Qn} {s : Qa} {m : Qd} : moveP a s m = true ↔ MvQ a.States s.R m := by
 rw [moveP, MvQ, stR_eq]
 by_cases h : m.To = -1
 ·rw [if_pos h, Qhe, Qhr]
  constructor
  ·exact fun h' => .inl ⟨h, h'⟩
  ·rintro (h' | h')
   ·exact h'.2
   ·omega
 ·rw [if_neg h]
  simp only [Qgv, Qhc, Qhe, Qeu, opP, stR_eq, Qio, Qih]
  constructor
  ·rintro ⟨h1, h2, h3, h4⟩
   refine .inr ⟨h1, h2, h3, fun i hi => ?_⟩
   have := h4 i (Qf7 _) (by omega)
   rw [Q2 hi] at this
   exact this
  ·rintro (h' | ⟨h1, h2, h3, h4⟩)
   ·exact absurd h'.1 h
   ·refine ⟨h1, h2, h3, fun i _ hi => ?_⟩
    rw [Qgq] at hi
    rw [Q2 hi]
    exact h4 i hi
theorem stQ_iff {a : Qn} {s : Qa} : Iy a s = true ↔ StQ a.Counts.length a.Split.Many a.States s := by
 simp only [Iy, Qgv, Bool.not_eq_true', Qgd, Qhe, Qeu, rowP, Qhc]
 constructor
 ·rintro ⟨h1, h2, h3, h4, h5, h6⟩
  have hl : s.Rule.length = s.Next.length := by omega
  refine ⟨h1, h2, h3, h4, h5, fun r hr => ?_, fun r hr => ?_, fun r hr m hm => ?_⟩
  ·obtain ⟨i, hi, rfl⟩ := Qgp hr
   have := h6 i (Qf7 _) (by omega)
   rw [Q2 hi] at this
   exact ⟨this.1, this.2.1⟩
  ·obtain ⟨i, hi, rfl⟩ := Qgp hr
   have := h6 i (Qf7 _) (by omega)
   rw [Q2 hi] at this
   exact this.2.2.1
  ·obtain ⟨i, hi, rfl⟩ := Qgp hr
   obtain ⟨j, hj, rfl⟩ := Qgp hm
   have := h6 i (Qf7 _) (by omega)
   rw [Q2 hi] at this
   have := this.2.2.2 j (Qf7 _) (by omega)
   rw [Q2 hj] at this
   exact mvQ_iff.1 this
 ·rintro ⟨h1, h2, h3, h4, h5, h6, h7, h8⟩
  have hl : s.Rule.length = s.Next.length := by omega
  refine ⟨h1, h2, h3, h4, h5, fun i _ hi => ?_⟩
  rw [Qgq] at hi
  rw [Q2 hi, Q2 (by omega)]
  obtain ⟨a1, a2⟩ := h6 _ (Qfy (show i < s.Rule.length by omega))
  refine ⟨a1, a2, h7 _ (Qfy hi), fun j _ hj => ?_⟩
  rw [Qgq] at hj
  rw [Q2 hj]
  exact mvQ_iff.2 (h8 _ (Qfy hi) _ (Qfy hj))
theorem right_iff {a : Qn} : rightP a = true ↔ RQ a := by
 simp only [rightP, Qgv, Bool.not_eq_true', decide_eq_false_iff_not, Qhe, Qhr, Qeu]
 constructor
 ·rintro ⟨h1, h2, h3, h4, ⟨h5, h6⟩, h7, h8⟩
  refine ⟨h1, by omega, fun c hc => ?_, by omega, by omega, h5, h6, fun s hs => ?_⟩
  ·obtain ⟨i, hi, rfl⟩ := Qgp hc
   have := h7 i (Qf7 _) (by omega)
   rw [Q2 hi] at this
   exact this
  ·obtain ⟨i, hi, rfl⟩ := Qgp hs
   have := h8 i (Qf7 _) (by omega)
   rw [Q2 hi] at this
   exact stQ_iff.1 this
 ·rintro ⟨h1, h2, h3, h4, h5, h6, h7, h8⟩
  refine ⟨h1, by omega, by omega, by omega, ⟨h6, h7⟩, fun i _ hi => ?_, fun i _ hi => ?_⟩
  ·rw [Qgq] at hi
   rw [Q2 hi]; exact h3 _ (Qfy hi)
  ·rw [Qgq] at hi
   rw [Q2 hi]; exact stQ_iff.2 (h8 _ (Qfy hi))
theorem RQ.mvs {a : Qn} (h : RQ a) {i : Nat} {m : Qd} (hi : i < a.States.length) (hm : m ∈ mvs a.States i) : MvQ a.States (stA a.States i).R m := by
 rw [Go.Rv.mvs, Ua hi] at hm
 obtain ⟨r, hr, hm⟩ := Qiu.1 hm
 rw [Ua hi]
 exact (h.st _ (Qfy hi)).mv r hr m hm
theorem RQ.toOk {a : Qn} (h : RQ a) : toOk a.States := fun i hi m hm => by
 have := h.n1
 rcases h.mvs hi hm with h | h
 ·omega
 ·exact h.2.1
theorem codes_le {n : Nat} (h : U9 n ≠ 0) : n ≤ 3 ∧ 1 ≤ U9 n ∧ U9 n ≤ 27 := by
 rw [U9] at h ⊢
 split
 ·omega
 ·split
  ·omega
  ·split
   ·omega
   ·split
    ·omega
    ·next a b c d => rw [if_neg a, if_neg b, if_neg c, if_neg d] at h; exact absurd rfl h
end Go.Rv
namespace Go.Rv
def Th (a : Qn) : Prop := RQ a ∧ ∀ i, i < 256 → 0 ≤ a.Split.Of.f i ∧ a.Split.Of.f i < 256
theorem getD_far {α : Type} {l : List α} {i : Nat} {d : α} (h : l.length ≤ i) : l.getD i d = d := by simp [List.getD, h]
theorem rows_len {α : Type} {c : Nat} : ∀ (l : List (List α)), (∀ r ∈ l, r.length ≤ c) → l.flatten.length ≤ l.length * c := by
 intro l
 induction l with
 | nil => intro _; exact Qf7 _
 | cons r l ih =>
  intro h
  have h1 := h r Qga
  have h2 := ih fun r hr => h r (Qf5 _ hr)
  rw [Qgh, Qfu, Qgc, Qh9]
  omega
theorem RQ.many {a : Qn} (h : RQ a) : a.Split.Many ≤ 256 := by
 have := splitF_many a.Split.Of 256 0 0 a.Split.Many h.split
 omega
structure Tf (s : Qa) : Prop where
 l : s.L.length ≤ 512
 r : s.R.length ≤ 3
 rule : 0 < s.Rule.length ∧ s.Rule.length ≤ 27
 next : s.Next.length ≤ 27
 row : ∀ r ∈ s.Next, r.length ≤ 256
 ops : ∀ r ∈ s.Next, ∀ m ∈ r, m.Ops.length ≤ 3
theorem RQ.small {a : Qn} (h : RQ a) {s : Qa} (hs : s ∈ a.States) : Tf s := by
 have g := h.st s hs
 obtain ⟨h1, h2, h3⟩ := codes_le g.code
 have h4 := g.rl
 have h5 := g.nl
 have h6 := h.many
 refine ⟨?_, h1, by omega, by omega, fun r hr => ?_, fun r hr m hm => ?_⟩
 ·rcases Oh s.L (-1) (by omega) g.l with h | h
  ·omega
  ·simp [h]
 ·have := g.row r hr; omega
 ·rcases g.mv r hr m hm with ⟨_, h⟩ | ⟨h7, h8, h9, _⟩
  ·simp [h]
  ·have := (codes_le (h.st _ (Qfy (show m.To.toNat < a.States.length by omega))).code).1
   rw [Ua (by omega)] at h9
   omega
theorem Tf.flat {s : Qa} (h : Tf s) : s.Next.flatten.length ≤ 6912 := by
 have h1 := rows_len s.Next h.row
 have h2 := h.next
 omega
theorem Th.okay {a : Qn} (h : Th a) : Okay a :=
 ⟨h.2, by have := h.1.cl; omega, by have := h.1.n2; omega, fun s hs => by
  have g := h.1.small hs
  have := g.l; have := g.r; have := g.rule; have := g.next
  exact ⟨by omega, by omega, by omega, by omega, fun r hr => ⟨by have := g.row r hr; omega, fun m hm => by have := g.ops r hr m hm; omega⟩⟩⟩
theorem Th.big {a : Qn} (h : Th a) {K : Nat} (hK : 1000 ≤ K) : bigOf a K :=
 ⟨by omega, by have := h.1.cl; omega, by have := h.1.n2; omega, fun s hs => by
  have g := h.1.small hs
  have := g.l; have := g.r; have := g.rule; have := g.next
  exact ⟨by omega, by omega, by omega, fun r hr => ⟨by have := g.row r hr; omega, fun m hm => by have := g.ops r hr m hm; omega⟩⟩⟩
theorem Th.auto {a : Qn} (h : Th a) {K : Nat} (hK : 1000 ≤ K) : Mh K a = some true := by
 rw [autoRight K a h.okay (h.big hK), right_iff.2 h.1]
theorem Th.live {a : Qn} (h : Th a) {K : Nat} (hK : 10000 ≤ K) : LiveOk K a :=
 ⟨by omega, by have := h.1.n2; omega, fun s hs => (h.1.small hs).rule, fun s hs => by
  have g := (h.1.small hs).flat
  exact ⟨(h.1.small hs).next, g, by omega⟩, fun s hs m hm => by
  obtain ⟨i, hi, rfl⟩ := Qgp hs
  exact h.1.toOk i hi m (by rw [mvs, Ua hi]; exact hm)⟩
theorem addF_get {i : Int} {F : List (List Int)} {m : Qd} {j : Nat} {p : Int} (hj : j < F.length) : p ∈ (addF i F m).getD j [] ↔ p ∈ F.getD j [] ∨ (p = i ∧ 0 ≤ m.To ∧ m.To.toNat = j) := by
 rw [addF]
 by_cases h : m.To ≥ 0
 ·rw [if_pos h]
  by_cases hm : m.To.toNat = j
  ·subst hm
   rw [Q2 (by rw [Qgz]; exact hj), Qii, Qfz, Qf3]
   constructor
   ·rintro (h1 | h1)
    ·exact .inl h1
    ·exact .inr ⟨h1, h, rfl⟩
   ·rintro (h1 | h1)
    ·exact .inl h1
    ·exact .inr h1.1
  ·rw [Q2 (by rw [Qgz]; exact hj), List.getElem_set_ne hm, Q2 hj]
   constructor
   ·exact .inl
   ·rintro (h1 | h1)
    ·exact h1
    ·exact absurd h1.2.2 hm
 ·rw [if_neg h]
  constructor
  ·exact .inl
  ·rintro (h1 | h1)
   ·exact h1
   ·omega
theorem foldF_get {i : Int} : ∀ (ms : List Qd) (F : List (List Int)) (j : Nat) (p : Int), j < F.length → (p ∈ (ms.foldl (addF i) F).getD j [] ↔ p ∈ F.getD j [] ∨ (p = i ∧ ∃ m ∈ ms, 0 ≤ m.To ∧ m.To.toNat = j)) := by
 intro ms
 induction ms with
 | nil => intro F j p _; simp
 | cons m ms ih =>
  intro F j p hj
  rw [Qgx, ih _ _ _ (by rw [addF_len]; exact hj), addF_get hj]
  constructor
  ·rintro ((h | ⟨h1, h2⟩) | ⟨h1, m', h2, h3⟩)
   ·exact .inl h
   ·exact .inr ⟨h1, m, Qga, h2⟩
   ·exact .inr ⟨h1, m', Qf5 _ h2, h3⟩
  ·rintro (h | ⟨h1, m', h2, h3⟩)
   ·exact .inl (.inl h)
   ·rcases Qg1.1 h2 with rfl | h2
    ·exact .inl (.inr ⟨h1, h3⟩)
    ·exact .inr ⟨h1, m', h2, h3⟩
theorem initF_get : ∀ (l : List Qa) (i : Int) (F : List (List Int)) (j : Nat) (p : Int), j < F.length → (p ∈ (S9 l i F).getD j [] ↔ p ∈ F.getD j [] ∨ ∃ k, ∃ (h : k < l.length), p = i + k ∧ ∃ m ∈ l[k].Next.flatten, 0 ≤ m.To ∧ m.To.toNat = j) := by
 intro l
 induction l with
 | nil => intro i F j p _; simp [S9]
 | cons s l ih =>
  intro i F j p hj
  rw [S9, ih _ _ _ _ (by rw [Qfd]; exact hj), foldF_get _ _ _ _ hj]
  constructor
  ·rintro ((h | ⟨h1, h2⟩) | ⟨k, hk, h1, h2⟩)
   ·exact .inl h
   ·exact .inr ⟨0, by rw [Qgc]; omega, by omega, h2⟩
   ·exact .inr ⟨k + 1, by rw [Qgc]; omega, by omega, h2⟩
  ·rintro (h | ⟨k, hk, h1, h2⟩)
   ·exact .inl (.inl h)
   ·cases k with
    | zero => exact .inl (.inr ⟨by omega, h2⟩)
    | succ k => exact .inr ⟨k, by rw [Qgc] at hk; omega, by omega, h2⟩
theorem initF_len : ∀ (l : List Qa) (i : Int) (F : List (List Int)), (S9 l i F).length = F.length := by
 intro l
 induction l with
 | nil => intro i F; rfl
 | cons s l ih => intro i F; rw [S9, ih, Qfd]
theorem initT_get : ∀ (l : List Qa) (i : Int) (p : Int), p ∈ Qef l i ↔ ∃ k, ∃ (h : k < l.length), p = i + k ∧ Cc l[k] = true := by
 intro l
 induction l with
 | nil => intro i p; simp [Qef]
 | cons s l ih =>
  intro i p
  rw [Qef, Qfz, ih]
  constructor
  ·rintro (h | ⟨k, hk, h1, h2⟩)
   ·split at h
    ·next hr => exact ⟨0, by rw [Qgc]; omega, by rw [Qf3.1 h]; omega, hr⟩
    ·cases h
   ·exact ⟨k + 1, by rw [Qgc]; omega, by omega, h2⟩
  ·rintro ⟨k, hk, h1, h2⟩
   cases k with
   | zero =>
    refine .inl ?_
    rw [List.getElem_cons_zero] at h2
    rw [if_pos h2, Qf3]; omega
   | succ k => exact .inr ⟨k, by rw [Qgc] at hk; omega, by omega, h2⟩
def sumL (F : List (List Int)) : Nat := (F.map List.length).sum
theorem sum_set : ∀ (l : List Nat) (j c : Nat), j < l.length → (l.set j c).sum + l.getD j 0 = l.sum + c := by
 intro l
 induction l with
 | nil => intro j c h; cases h
 | cons x l ih =>
  intro j c h
  cases j with
  | zero => simp only [Qiz, List.sum_cons, List.getD_cons_zero]; omega
  | succ j =>
   have := ih j c (by rw [Qgc] at h; omega)
   simp only [Qi0, List.sum_cons, List.getD_cons_succ]
   omega
theorem addF_sum (i : Int) (F : List (List Int)) (m : Qd) : sumL (addF i F m) ≤ sumL F + 1 := by
 rw [addF]
 split
 ·by_cases hj : m.To.toNat < F.length
  ·have h1 := sum_set (F.map List.length) m.To.toNat ((F.getD m.To.toNat []).length + 1) (by rw [Qfw]; exact hj)
   rw [Q2 (l := F.map List.length) (by rw [Qfw]; exact hj), Qgt, Q2 hj] at h1
   rw [sumL, sumL, List.map_set, Qfu, Qft, Q2 hj]
   omega
  ·rw [List.set_eq_of_length_le (by omega)]; omega
 ·omega
theorem foldF_sum (i : Int) : ∀ (ms : List Qd) (F : List (List Int)), sumL (ms.foldl (addF i) F) ≤ sumL F + ms.length := by
 intro ms
 induction ms with
 | nil => intro F; exact Qf6 _
 | cons m ms ih =>
  intro F
  have h1 := ih (addF i F m)
  have h2 := addF_sum i F m
  rw [Qgx, Qgc]
  omega
theorem initF_sum : ∀ (l : List Qa) (i : Int) (F : List (List Int)), (∀ s ∈ l, s.Next.flatten.length ≤ 6912) → sumL (S9 l i F) ≤ sumL F + 6912 * l.length := by
 intro l
 induction l with
 | nil => intro i F _; exact Qf6 _
 | cons s l ih =>
  intro i F h
  have h1 := ih (i + 1) (s.Next.flatten.foldl (addF i) F) fun s hs => h s (Qf5 _ hs)
  have h2 := foldF_sum i s.Next.flatten F
  have h3 := h s Qga
  rw [S9, Qgc]
  omega
theorem leftW_le (F : List (List Int)) : ∀ (out : List Bool) (i : Nat), leftW F out i ≤ sumL (F.drop i) := by
 intro out
 induction out with
 | nil => intro i; exact Qf7 _
 | cons b out ih =>
  intro i
  have := ih (i + 1)
  rw [leftW]
  by_cases h : i < F.length
  ·rw [Qf2 h, sumL, Qge, List.sum_cons, Q2 h]
   rw [sumL] at this
   split <;> omega
  ·have e : F.getD i [] = [] := by simp [List.getD, h]
   rw [e, Qgu]
   rw [Qf9 (by omega)] at this ⊢
   split <;> omega
theorem repl_get {α : Type} {n j : Nat} {d x : α} (h : (List.replicate n x).getD j d ≠ d) : j < n := by
 refine Decidable.byContradiction fun hc => h ?_
 simp [List.getD, hc]
theorem Qdn.lt {S : List Qa} {i : Nat} (h : Qdn S i) : i < S.length := by cases h <;> assumption
theorem isLive_of {S : List Qa} {l : List Bool} (hl : l.length = S.length) (h1 : ∀ i, l.getD i false = true → Qdn S i) (h2 : ∀ i, i < S.length → Cc (stA S i) = true → l.getD i false = true) (h3 : ∀ i, i < S.length → ∀ m ∈ mvs S i, 0 ≤ m.To → l.getD m.To.toNat false = true → l.getD i false = true) : I5 S l :=
 ⟨hl, fun i => ⟨h1 i, fun h => by
  induction h with
  | rule a b => exact h2 _ a b
  | step m a b c _ ih => exact h3 _ a m b c ih⟩⟩
theorem live_ok {a : Qn} (h : Th a) {K : Nat} (hK : 10000000 ≤ K) : ∃ l, Sl K a = some l ∧ I5 a.States l := by
 have hn := h.1.n2
 have hL := h.live (K := K) (by omega)
 have hs0 : sumL (List.replicate a.States.length ([] : List Int)) = 0 := by
  rw [sumL, Qh3, Qgu, List.sum_replicate_nat]; omega
 have hF0 : ∀ r ∈ List.replicate a.States.length ([] : List Int), r.length ≤ 0 := fun r hr => by rw [(List.mem_replicate.1 hr).2]; exact Qf6 _
 have e0 := live_l0 K a hL (List.replicate a.States.length false) a.States.length K 0 0 (List.replicate a.States.length []) [] rfl (by omega) (Qf7 _) (Qg0 ..) hF0 (by omega) (Qf6 _)
 rw [Qgl, Qf8, Qgb] at e0
 have hlenF : (S9 a.States 0 (List.replicate a.States.length [])).length = a.States.length := by rw [initF_len, Qg0]
 have hget : ∀ j p, j < a.States.length → (p ∈ (S9 a.States 0 (List.replicate a.States.length [])).getD j [] ↔ ∃ k, ∃ (h : k < a.States.length), p = (k : Int) ∧ ∃ m ∈ a.States[k].Next.flatten, 0 ≤ m.To ∧ m.To.toNat = j) := fun j p hj => by
  rw [initF_get _ _ _ _ _ (by rw [Qg0]; exact hj), Q2 (by rw [Qg0]; exact hj), Qid]
  simp
 have hfar : ∀ j p, p ∈ (S9 a.States 0 (List.replicate a.States.length [])).getD j [] → j < a.States.length := fun j p hp => by
  refine Decidable.byContradiction fun hc => ?_
  rw [getD_far (by omega)] at hp
  cases hp
 have hlw := leftW_le (S9 a.States 0 (List.replicate a.States.length [])) (List.replicate a.States.length false) 0
 have hsum := initF_sum a.States 0 (List.replicate a.States.length []) fun s hs => (h.1.small hs).flat
 have htl := initT_len a.States 0
 rw [Qgl] at hlw
 have hff : ∀ i, (List.replicate a.States.length false).getD i false = true → False := fun i hi => by
  have := repl_get (d := false) (by rw [hi]; decide)
  rw [Q2 (by rw [Qg0]; exact this), Qid] at hi
  cases hi
 obtain ⟨out, e, g1, g2, g3, _, g5⟩ := live_l2 K (S9 a.States 0 (List.replicate a.States.length [])) a.States.length hlenF (fun r hr p hp => by
   obtain ⟨j, hj, rfl⟩ := Qgp hr
   rw [← Q2 (d := []) hj] at hp
   obtain ⟨k, hk, rfl, _⟩ := (hget j p (by omega)).1 hp
   omega) (Qdn a.States) (fun i hi p hp => by
   obtain ⟨k, hk, rfl, m, hm, h0, he⟩ := (hget i p hi.lt).1 hp
   refine .step m hk (by rw [Qf1, mvs, Ua hk]; exact hm) h0 (by rw [he]; exact hi)) K (List.replicate a.States.length false) (Qef a.States 0) (Qg0 ..) (fun p hp => by
   obtain ⟨k, hk, rfl, hr⟩ := (initT_get _ _ _).1 hp
   refine ⟨by omega, by omega, ?_⟩
   have e : ((0 : Int) + (k : Int)).toNat = k := by omega
   rw [e]
   exact .rule hk (by rw [Ua hk]; exact hr)) (fun i hi => (hff i hi).elim) (fun i hi => (hff i hi).elim) (by omega) (by omega)
 refine ⟨out, ?_, isLive_of g1 g2 (fun i hi hr => ?_) (fun i hi m hm h0 hl => ?_)⟩
 ·rw [Sl, h.auto (by omega), bS]
  simp only [Qg7, cF, Qf1]
  rw [Z3 (by omega), Z3 (Zl.2 ⟨by simp only [maxLen]; omega, by omega⟩), Z3 (Zl.2 ⟨by simp only [maxLen]; omega, by omega⟩)]
  exact e0.trans e
 ·have := g5 (i : Int) ((initT_get _ _ _).2 ⟨i, hi, by omega, by rw [Ua hi] at hr; exact hr⟩)
  exact this
 ·have := g3 m.To.toNat hl (i : Int) ((hget _ _ (by rw [← g1]; refine Decidable.byContradiction fun hc => ?_; rw [getD_far (by omega)] at hl; cases hl)).2 ⟨i, hi, rfl, m, by rw [mvs, Ua hi] at hm; exact hm, h0, rfl⟩)
  exact this
end Go.Rv
namespace Go.Rv
theorem Qc5 {α : Type} (A B : List α) (x v : α) : (A ++ x :: B).set A.length v = A ++ v :: B := by
 rw [List.set_append_right _ _ (Qf6 _), Nat.sub_self, Qiz]
theorem Qdc {α : Type} (A B : List α) (x : α) : Xl (A ++ x :: B) (A.length : Int) = some x := by
 rw [Ze (by rw [Qfu, Qgc]; omega)]
 rw [Qi7 (Qf6 _)]
 simp
theorem clone8 {K : Nat} {l : List Int} (h : l.length ≤ 1000000) : Uv K l = some l := by
 rw [Uv, Z3 (Zl.2 ⟨by simp only [maxLen, Qgu]; omega, by simp only [Qgu]; omega⟩), Qf8]
theorem cloneI {K : Nat} {l : List Int} (h : l.length ≤ 1000000) : Xv K l = some l := by
 rw [Xv, Z3 (Zl.2 ⟨by simp only [maxLen, Qgu]; omega, by simp only [Qgu]; omega⟩), Qf8]
def C8 (to : List Int) (r : List Qd) : List Qd := r.map (Mk to)
theorem send_l2 (K : Nat) (go : Int → Qc → Int → Int → (List (List Qd)) → Int → Int → (List Int) → (List Qa) → (List Int) → (List Int) → (List Int) → (List (List Qd)) → (List (List Qd)) → Option Qc) (i : Int) (c : Nat) (t : Qc) (a b : Int) (N : List (List Qd)) (d : Int) (e : Int) (row : List Qd) (to : List Int) (st : List Qa) (L R U : List Int) (V : List (List Qd)) (hr : row.length ≤ 256) (hm : ∀ m ∈ row, m.To < to.length ∧ m.Ops.length ≤ 3) : ∀ (q k j : Nat) (A B : List (List Qd)) (x : List Qd), row.length - j = q → q < k → A.length = c → x.length ≤ j → j ≤ row.length →
  Z0 K go k i (c : Int) t a b N d e row (row.length : Int) (j : Int) to st L R U V (A ++ x :: B) = go i t a b N d (IntKind.i64.wrap (e + 1)) to st L R U V (A ++ (x ++ C8 to (row.drop j)) :: B) := by
 intro q
 induction q with
 | zero =>
  intro k j A B x hq hk hA hx hj
  obtain ⟨k, rfl⟩ := Qjj k (by omega)
  rw [Z0]
  dsimp only
  rw [Qfv (by omega), cF, Qf9 (by omega), C8, Qhu, Qgg]
 | succ q ih =>
  intro k j A B x hq hk hA hx hj
  obtain ⟨k, rfl⟩ := Qjj k (by omega)
  have hjl : j < row.length := by omega
  obtain ⟨h1, h2⟩ := hm _ (Qfy hjl)
  have hw := Bx (n := j) (by omega)
  have hlt : (j : Int) < (row.length : Int) := by omega
  have hih := fun y => ih k (j + 1) A B (x ++ [y]) (by omega) (by omega) hA (by rw [Qfu, Qft]; omega) (by omega)
  have hj3 : ∀ T O, Vv K (Z0 K go k) i (c : Int) t a b N d e row (row.length : Int) (j : Int) to st L R U V (A ++ x :: B) T O = go i t a b N d (IntKind.i64.wrap (e + 1)) to st L R U V (A ++ (x ++ ⟨T, O⟩ :: C8 to (row.drop (j + 1))) :: B) := fun T O => by
   have hg : Xl (A ++ x :: B) (c : Int) = some x := by rw [← hA]; exact Qdc A B x
   rw [Vv, hg, bS, Z3 (Zl.2 ⟨by simp only [maxLen, Qft]; omega, by simp only [Qft]; omega⟩), hw, Qf1, ← hA, Qc5, hA, hih, Qfx]
   rfl
  rw [Z0]
  dsimp only
  rw [Qf0 hlt, cT, Ze hjl, bS, Qf2 hjl, C8, Qge]
  generalize row[j] = m at *
  by_cases h0 : m.To ≥ 0
  ·have ht : m.To.toNat < to.length := by omega
   have hg : Xl to m.To = some (to.getD m.To.toNat (-1)) := by
    have := Ze ht
    rw [Qir h0] at this
    rw [this, Q2 ht]
   rw [Qf0 h0, cT, hg, bS]
   by_cases h3 : to.getD m.To.toNat (-1) ≥ 0
   ·rw [Qf0 h3, cT, clone8 (by omega), bS, hj3, Mk, if_pos ⟨h0, h3⟩]
    rfl
   ·rw [Qfv h3, cF, Vu, hj3, Mk, if_neg (fun h => h3 h.2)]
    rfl
  ·rw [Qfv h0, cF, Vu, hj3, Mk, if_neg (fun h => h0 h.1)]
   rfl
theorem send_l1 (K : Nat) (hK : 1000 ≤ K) (go : Qc → Int → Int → (List Int) → (List Qa) → Option Qc) (t : Qc) (a b : Int) (s : Qa) (to : List Int) (hs : Tf s) (hm : ∀ r ∈ s.Next, ∀ m ∈ r, m.To < to.length) (A B : List Qa) (y : Qa) : ∀ (q k j : Nat) (X : List (List Qd)), s.Next.length - j = q → q < k → X.length = j → j ≤ s.Next.length →
  Ys K go k (A.length : Int) t a b s.Next (s.Next.length : Int) (j : Int) to (A ++ y :: B) s.L s.R s.Rule s.Next (X ++ List.replicate (s.Next.length - j) []) = go t a (IntKind.i64.wrap (b + 1)) to (A ++ ⟨s.L, s.R, s.Rule, X ++ (s.Next.drop j).map (C8 to)⟩ :: B) := by
 intro q
 have g1 := hs.l
 have g2 := hs.r
 have g3 := hs.rule
 have g4 := hs.next
 induction q with
 | zero =>
  intro k j X hq hk hX hj
  obtain ⟨k, rfl⟩ := Qjj k (by omega)
  have e0 : s.Next.length - j = 0 := by omega
  rw [Ys]
  dsimp only
  rw [Qfv (by omega), cF, cloneI (by omega), bS, cloneI (by omega), bS, cloneI (by omega), bS, Qdc, bS, Qf1, Qc5, e0, Qf9 (by omega)]
  rfl
 | succ q ih =>
  intro k j X hq hk hX hj
  obtain ⟨k, rfl⟩ := Qjj k (by omega)
  have hjl : j < s.Next.length := by omega
  have hlt : (j : Int) < (s.Next.length : Int) := by omega
  have hrow := Qfy hjl
  have e1 : s.Next.length - j = (s.Next.length - (j + 1)) + 1 := by omega
  have h2 := send_l2 K (Ys K go k) (A.length : Int) j t a b s.Next (s.Next.length : Int) (j : Int) s.Next[j] to (A ++ y :: B) s.L s.R s.Rule s.Next (hs.row _ hrow) (fun m hmm => ⟨hm _ hrow m hmm, hs.ops _ hrow m hmm⟩) s.Next[j].length K 0 X (List.replicate (s.Next.length - (j + 1)) []) [] rfl (by have := hs.row _ hrow; omega) hX (Qf6 _) (Qf7 _)
  rw [Qgb, Qgl, Qf8, Bx (n := j) (by omega)] at h2
  have h3 := ih k (j + 1) (X ++ [C8 to s.Next[j]]) (by omega) (by omega) (by rw [Qfu, Qft]; omega) (by omega)
  rw [Qfx, Qgw] at h3
  rw [Ys]
  dsimp only
  rw [Qf0 hlt, cT, Ze hjl, bS, e1, Qhg, h2, h3, Qf2 hjl, Qge, Qfx]
  rfl
theorem send_l0 (K : Nat) (hK : 1000 ≤ K) (x : Qn) (to : List Int) (hn : x.States.length ≤ 256) (hs : ∀ s ∈ x.States, Tf s) (hm : ∀ s ∈ x.States, ∀ r ∈ s.Next, ∀ m ∈ r, m.To < to.length) : ∀ (q k i : Nat) (X : List Qa), x.States.length - i = q → q < k → X.length = i → i ≤ x.States.length →
  Yt K k ⟨x⟩ (x.States.length : Int) (i : Int) to (X ++ List.replicate (x.States.length - i) ⟨[], [], [], []⟩) = some ⟨⟨x.Split, x.Counts, X ++ D2 to (x.States.drop i)⟩⟩ := by
 intro q
 induction q with
 | zero =>
  intro k i X hq hk hX hi
  obtain ⟨k, rfl⟩ := Qjj k (by omega)
  have e0 : x.States.length - i = 0 := by omega
  rw [Yt]
  dsimp only
  rw [Qfv (by omega), cF, e0, Qf9 (by omega)]
  rfl
 | succ q ih =>
  intro k i X hq hk hX hi
  obtain ⟨k, rfl⟩ := Qjj k (by omega)
  have hil : i < x.States.length := by omega
  have hlt : (i : Int) < (x.States.length : Int) := by omega
  have hst := Qfy hil
  have hsm := hs _ hst
  have e1 : x.States.length - i = (x.States.length - (i + 1)) + 1 := by omega
  have h2 := send_l1 K hK (Yt K k) ⟨x⟩ (x.States.length : Int) (i : Int) x.States[i] to hsm (hm _ hst) X (List.replicate (x.States.length - (i + 1)) ⟨[], [], [], []⟩) ⟨[], [], [], []⟩ x.States[i].Next.length K 0 [] rfl (by have := hsm.next; omega) rfl (Qf7 _)
  rw [Qgb, Qgl, Qf8, Qf8, Qha, Bx (n := i) (by omega), hX] at h2
  have h3 := ih k (i + 1) (X ++ [Og to x.States[i]]) (by omega) (by omega) (by rw [Qfu, Qft]; omega) (by omega)
  rw [Qfx, Qgw] at h3
  have h4 := hsm.next
  rw [Yt]
  dsimp only
  rw [Qf0 hlt, cT, Ze hil, bS, Z3 (by omega), Z3 (Zl.2 ⟨by simp only [maxLen]; omega, by omega⟩), Qf1, e1, Qhg, h2, Qf2 hil]
  refine Eq.trans h3 ?_
  rw [Qfx]
  rfl
theorem send_ok (K : Nat) (hK : 1000 ≤ K) (x : Qn) (to : List Int) (hn : x.States.length ≤ 256) (hs : ∀ s ∈ x.States, Tf s) (hm : ∀ s ∈ x.States, ∀ r ∈ s.Next, ∀ m ∈ r, m.To < to.length) : Vi K ⟨x⟩ to = some ⟨⟨x.Split, x.Counts, D2 to x.States⟩⟩ := by
 have h := send_l0 K hK x to hn hs hm x.States.length K 0 [] rfl (by omega) rfl (Qf7 _)
 rw [Qgb, Qgl, Qf8, Qf8, Qha] at h
 rw [Vi]
 dsimp only
 rw [Z3 (by omega), Z3 (Zl.2 ⟨by simp only [maxLen]; omega, by omega⟩), Qf1]
 exact h
theorem send1_l2 (K : Nat) (go : (List Int) → Int → Qc → Int → Int → (List (List Qd)) → Int → Int → (List Qa) → (List Int) → (List Int) → (List Int) → (List (List Qd)) → (List (List Qd)) → Option Qc) (i : Int) (c : Nat) (t : Qc) (a b : Int) (N : List (List Qd)) (d : Int) (e : Int) (row : List Qd) (to : List Int) (st : List Qa) (L R U : List Int) (V : List (List Qd)) (hr : row.length ≤ 256) (hm : ∀ m ∈ row, m.To < to.length ∧ m.Ops.length ≤ 3) : ∀ (q k j : Nat) (A B : List (List Qd)) (x : List Qd), row.length - j = q → q < k → A.length = c → x.length ≤ j → j ≤ row.length →
  Zo K go k to i (c : Int) t a b N d e row (row.length : Int) (j : Int) st L R U V (A ++ x :: B) = go to i t a b N d (IntKind.i64.wrap (e + 1)) st L R U V (A ++ (x ++ C8 to (row.drop j)) :: B) := by
 intro q
 induction q with
 | zero =>
  intro k j A B x hq hk hA hx hj
  obtain ⟨k, rfl⟩ := Qjj k (by omega)
  rw [Zo]
  dsimp only
  rw [Qfv (by omega), cF, Qf9 (by omega), C8, Qhu, Qgg]
 | succ q ih =>
  intro k j A B x hq hk hA hx hj
  obtain ⟨k, rfl⟩ := Qjj k (by omega)
  have hjl : j < row.length := by omega
  obtain ⟨h1, h2⟩ := hm _ (Qfy hjl)
  have hw := Bx (n := j) (by omega)
  have hlt : (j : Int) < (row.length : Int) := by omega
  have hih := fun y => ih k (j + 1) A B (x ++ [y]) (by omega) (by omega) hA (by rw [Qfu, Qft]; omega) (by omega)
  have hj3 : ∀ T O, Xx K (Zo K go k) to i (c : Int) t a b N d e row (row.length : Int) (j : Int) st L R U V (A ++ x :: B) T O = go to i t a b N d (IntKind.i64.wrap (e + 1)) st L R U V (A ++ (x ++ ⟨T, O⟩ :: C8 to (row.drop (j + 1))) :: B) := fun T O => by
   have hg : Xl (A ++ x :: B) (c : Int) = some x := by rw [← hA]; exact Qdc A B x
   rw [Xx, hg, bS, Z3 (Zl.2 ⟨by simp only [maxLen, Qft]; omega, by simp only [Qft]; omega⟩), hw, Qf1, ← hA, Qc5, hA, hih, Qfx]
   rfl
  rw [Zo]
  dsimp only
  rw [Qf0 hlt, cT, Ze hjl, bS, Qf2 hjl, C8, Qge]
  generalize row[j] = m at *
  by_cases h0 : m.To ≥ 0
  ·have ht : m.To.toNat < to.length := by omega
   have hg : Xl to m.To = some (to.getD m.To.toNat (-1)) := by
    have := Ze ht
    rw [Qir h0] at this
    rw [this, Q2 ht]
   rw [Qf0 h0, cT, hg, bS]
   by_cases h3 : to.getD m.To.toNat (-1) ≥ 0
   ·rw [Qf0 h3, cT, clone8 (by omega), bS, hj3, Mk, if_pos ⟨h0, h3⟩]
    rfl
   ·rw [Qfv h3, cF, Xw, hj3, Mk, if_neg (fun h => h3 h.2)]
    rfl
  ·rw [Qfv h0, cF, Xw, hj3, Mk, if_neg (fun h => h0 h.1)]
   rfl
theorem send1_l1 (K : Nat) (hK : 1000 ≤ K) (go : (List Int) → Qc → Int → Int → (List Qa) → Option Qc) (t : Qc) (a b : Int) (s : Qa) (to : List Int) (hs : Tf s) (hm : ∀ r ∈ s.Next, ∀ m ∈ r, m.To < to.length) (A B : List Qa) (y : Qa) : ∀ (q k j : Nat) (X : List (List Qd)), s.Next.length - j = q → q < k → X.length = j → j ≤ s.Next.length →
  Yc K go k to (A.length : Int) t a b s.Next (s.Next.length : Int) (j : Int) (A ++ y :: B) s.L s.R s.Rule s.Next (X ++ List.replicate (s.Next.length - j) []) = go to t a (IntKind.i64.wrap (b + 1)) (A ++ ⟨s.L, s.R, s.Rule, X ++ (s.Next.drop j).map (C8 to)⟩ :: B) := by
 intro q
 have g1 := hs.l
 have g2 := hs.r
 have g3 := hs.rule
 have g4 := hs.next
 induction q with
 | zero =>
  intro k j X hq hk hX hj
  obtain ⟨k, rfl⟩ := Qjj k (by omega)
  have e0 : s.Next.length - j = 0 := by omega
  rw [Yc]
  dsimp only
  rw [Qfv (by omega), cF, cloneI (by omega), bS, cloneI (by omega), bS, cloneI (by omega), bS, Qdc, bS, Qf1, Qc5, e0, Qf9 (by omega)]
  rfl
 | succ q ih =>
  intro k j X hq hk hX hj
  obtain ⟨k, rfl⟩ := Qjj k (by omega)
  have hjl : j < s.Next.length := by omega
  have hlt : (j : Int) < (s.Next.length : Int) := by omega
  have hrow := Qfy hjl
  have e1 : s.Next.length - j = (s.Next.length - (j + 1)) + 1 := by omega
  have h2 := send1_l2 K (Yc K go k) (A.length : Int) j t a b s.Next (s.Next.length : Int) (j : Int) s.Next[j] to (A ++ y :: B) s.L s.R s.Rule s.Next (hs.row _ hrow) (fun m hmm => ⟨hm _ hrow m hmm, hs.ops _ hrow m hmm⟩) s.Next[j].length K 0 X (List.replicate (s.Next.length - (j + 1)) []) [] rfl (by have := hs.row _ hrow; omega) hX (Qf6 _) (Qf7 _)
  rw [Qgb, Qgl, Qf8, Bx (n := j) (by omega)] at h2
  have h3 := ih k (j + 1) (X ++ [C8 to s.Next[j]]) (by omega) (by omega) (by rw [Qfu, Qft]; omega) (by omega)
  rw [Qfx, Qgw] at h3
  rw [Yc]
  dsimp only
  rw [Qf0 hlt, cT, Ze hjl, bS, e1, Qhg, h2, h3, Qf2 hjl, Qge, Qfx]
  rfl
theorem send1_l0 (K : Nat) (hK : 1000 ≤ K) (x : Qn) (to : List Int) (hn : x.States.length ≤ 256) (hs : ∀ s ∈ x.States, Tf s) (hm : ∀ s ∈ x.States, ∀ r ∈ s.Next, ∀ m ∈ r, m.To < to.length) : ∀ (q k i : Nat) (X : List Qa), x.States.length - i = q → q < k → X.length = i → i ≤ x.States.length →
  Yd K k to ⟨x⟩ (x.States.length : Int) (i : Int) (X ++ List.replicate (x.States.length - i) ⟨[], [], [], []⟩) = some ⟨⟨x.Split, x.Counts, X ++ D2 to (x.States.drop i)⟩⟩ := by
 intro q
 induction q with
 | zero =>
  intro k i X hq hk hX hi
  obtain ⟨k, rfl⟩ := Qjj k (by omega)
  have e0 : x.States.length - i = 0 := by omega
  rw [Yd]
  dsimp only
  rw [Qfv (by omega), cF, e0, Qf9 (by omega)]
  rfl
 | succ q ih =>
  intro k i X hq hk hX hi
  obtain ⟨k, rfl⟩ := Qjj k (by omega)
  have hil : i < x.States.length := by omega
  have hlt : (i : Int) < (x.States.length : Int) := by omega
  have hst := Qfy hil
  have hsm := hs _ hst
  have e1 : x.States.length - i = (x.States.length - (i + 1)) + 1 := by omega
  have h2 := send1_l1 K hK (Yd K k) ⟨x⟩ (x.States.length : Int) (i : Int) x.States[i] to hsm (hm _ hst) X (List.replicate (x.States.length - (i + 1)) ⟨[], [], [], []⟩) ⟨[], [], [], []⟩ x.States[i].Next.length K 0 [] rfl (by have := hsm.next; omega) rfl (Qf7 _)
  rw [Qgb, Qgl, Qf8, Qf8, Qha, Bx (n := i) (by omega), hX] at h2
  have h3 := ih k (i + 1) (X ++ [Og to x.States[i]]) (by omega) (by omega) (by rw [Qfu, Qft]; omega) (by omega)
  rw [Qfx, Qgw] at h3
  have h4 := hsm.next
  rw [Yd]
  dsimp only
  rw [Qf0 hlt, cT, Ze hil, bS, Z3 (by omega), Z3 (Zl.2 ⟨by simp only [maxLen]; omega, by omega⟩), Qf1, e1, Qhg, h2, Qf2 hil]
  refine Eq.trans h3 ?_
  rw [Qfx]
  rfl
theorem send1_ok (K : Nat) (hK : 1000 ≤ K) (x : Qn) (to : List Int) (hn : x.States.length ≤ 256) (hs : ∀ s ∈ x.States, Tf s) (hm : ∀ s ∈ x.States, ∀ r ∈ s.Next, ∀ m ∈ r, m.To < to.length) : X3 K ⟨x⟩ to = some ⟨⟨x.Split, x.Counts, D2 to x.States⟩⟩ := by
 have h := send1_l0 K hK x to hn hs hm x.States.length K 0 [] rfl (by omega) rfl (Qf7 _)
 rw [Qgb, Qgl, Qf8, Qf8, Qha] at h
 rw [X3]
 dsimp only
 rw [Z3 (by omega), Z3 (Zl.2 ⟨by simp only [maxLen]; omega, by omega⟩), Qf1]
 exact h
end Go.Rv
