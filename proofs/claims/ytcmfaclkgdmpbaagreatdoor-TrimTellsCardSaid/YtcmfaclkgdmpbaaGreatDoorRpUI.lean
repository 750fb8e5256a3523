/- Trimming, plainly: moves sent elsewhere; states as they are come to. -/
/- Automata, plainly: Right as a proposition. -/
/- Trimming, plainly: Live tells from which states a rule may end yet. -/
/- Trimming, plainly: moves sent elsewhere. -/
import Derived.Test.YtcmfaclkgdmpbaaGreatDoorRpUE
namespace Go.Rv
def toOk (S : List Qa) : Prop := ∀ i, i < S.length → ∀ m ∈ mvs S i, m.To < S.length
def Qji (to : List Int) (m : Qd) : Qd := if 0 ≤ m.To ∧ 0 ≤ to.getD m.To.toNat (-1) then ⟨to.getD m.To.toNat (-1), m.Ops⟩ else ⟨-1, []⟩
def Qem (to : List Int) (s : Qa) : Qa := ⟨s.L, s.R, s.Rule, s.Next.map fun r => r.map (Qji to)⟩
def N8 (to : List Int) (S : List Qa) : List Qa := S.map (Qem to)
theorem F4 (to : List Int) (S : List Qa) : (N8 to S).length = S.length := by rw [N8, Qmf]
theorem Qjh (to : List Int) (S : List Qa) (i : Nat) : stA (N8 to S) i = Qem to (stA S i) := by
 rw [stA, stA, N8]
 simp only [List.getD, List.getElem?_map]
 cases S[i]? <;> rfl
def Sc (l : List Bool) : List Int := (List.range l.length).map fun i => if l.getD i false = true then (i : Int) else -1
def Qb2 (l : List Nat) : List Int := l.map fun k => (l.idxOf k : Int)
def Qff (o : List Nat) (m : Qd) : List Nat := if 0 ≤ m.To ∧ m.To.toNat ∉ o then o ++ [m.To.toNat] else o
def bfs (S : List Qa) : Nat → Nat → List Nat → List Nat
 | 0, _, o => o
 | k + 1, i, o => if i < o.length then bfs S k (i + 1) ((mvs S (o.getD i 0)).foldl Qff o) else o
def Cm (S : List Qa) : List Nat := bfs S (S.length + 1) 0 [0]
def Ow (n : Nat) (o : List Nat) : List Int := (List.range n).map fun j => if j ∈ o then (o.idxOf j : Int) else -1
def Qjs (S : List Qa) : List Qa := (Cm S).map fun i => Qem (Ow S.length (Cm S)) (stA S i)
def Ts (S : List Qa) (l : List Bool) : List Qa := N8 (Sc l) S
def Lc (S : List Qa) : List Nat := blkS S (S.length + 1) (List.replicate S.length 0) 0
def joinL (S : List Qa) : List Qa := N8 (Qb2 (Lc S)) S
def trimL (S : List Qa) (l : List Bool) (b : Bool) : List Qa := Qjs (if b = true then joinL (Ts S l) else Ts S l)
theorem Qlu {l : List Bool} {i : Nat} : (Sc l).getD i (-1) = if l.getD i false = true then (i : Int) else -1 := by
 by_cases h : i < l.length
 ·rw [Sc, Zb (by rw [Qmf, Qm9]; exact h), Qnm, Qo5]
 ·rw [Sc]; simp [List.getD, h]
theorem Qlp {l : List Nat} {i : Nat} (h : i < l.length) : (Qb2 l).getD i (-1) = (l.idxOf l[i] : Int) := by
 rw [Qb2, Zb (by rw [Qmf]; exact h), Qnm]
theorem Qi0 {n : Nat} {o : List Nat} {i : Nat} (h : i < n) : (Ow n o).getD i (-1) = if i ∈ o then (o.idxOf i : Int) else -1 := by
 rw [Ow, Zb (by rw [Qmf, Qm9]; exact h), Qnm, Qo5]
theorem addO_mem {o : List Nat} {m : Qd} {x : Nat} : x ∈ Qff o m ↔ x ∈ o ∨ (0 ≤ m.To ∧ x = m.To.toNat) := by
 rw [Qff]
 by_cases h : 0 ≤ m.To ∧ m.To.toNat ∉ o
 ·rw [if_pos h, Qmj, Qmp]
  constructor
  ·rintro (h1 | h1)
   ·exact .inl h1
   ·exact .inr ⟨h.1, h1⟩
  ·rintro (h1 | h1)
   ·exact .inl h1
   ·exact .inr h1.2
 ·rw [if_neg h]
  constructor
  ·exact .inl
  ·rintro (h1 | ⟨h1, rfl⟩)
   ·exact h1
   ·exact Decidable.byContradiction fun hc => h ⟨h1, hc⟩
theorem Qls : ∀ (ms : List Qd) (o : List Nat) (x : Nat), x ∈ ms.foldl Qff o ↔ x ∈ o ∨ ∃ m ∈ ms, 0 ≤ m.To ∧ x = m.To.toNat := by
 intro ms
 induction ms with
 | nil => intro o x; simp
 | cons m ms ih =>
  intro o x
  rw [Qnp, ih, addO_mem]
  constructor
  ·rintro ((h | h) | ⟨m', h1, h2⟩)
   ·exact .inl h
   ·exact .inr ⟨m, Qm7, h⟩
   ·exact .inr ⟨m', Qm0 _ h1, h2⟩
  ·rintro (h | ⟨m', h1, h2⟩)
   ·exact .inl (.inl h)
   ·rcases Qnx.1 h1 with rfl | h1
    ·exact .inl (.inr h2)
    ·exact .inr ⟨m', h1, h2⟩
theorem addO_nodup {o : List Nat} {m : Qd} (h : o.Nodup) : (Qff o m).Nodup := by
 rw [Qff]
 split
 ·next hk => exact Qoh.2 ⟨h, Qoo.2 ⟨Qor, Qox⟩, fun a ha b hb => by rw [Qmp.1 hb]; exact fun e => hk.2 (e ▸ ha)⟩
 ·exact h
theorem Qh1 : ∀ (ms : List Qd) (o : List Nat), o.Nodup → (ms.foldl Qff o).Nodup := by
 intro ms
 induction ms with
 | nil => intro o h; exact h
 | cons m ms ih => intro o h; exact ih _ (addO_nodup h)
theorem addO_pre (o : List Nat) (m : Qd) : ∃ t, Qff o m = o ++ t := by
 rw [Qff]
 split
 ·exact ⟨_, rfl⟩
 ·exact ⟨[], (Qm1 _).symm⟩
theorem Qlr : ∀ (ms : List Qd) (o : List Nat), ∃ t, ms.foldl Qff o = o ++ t := by
 intro ms
 induction ms with
 | nil => intro o; exact ⟨[], (Qm1 _).symm⟩
 | cons m ms ih =>
  intro o
  obtain ⟨t, ht⟩ := addO_pre o m
  obtain ⟨u, hu⟩ := ih (Qff o m)
  exact ⟨t ++ u, by rw [Qnp, hu, ht, Qmd]⟩
structure Ord (S : List Qa) (o r : List Nat) : Prop where
 pre : ∃ t, r = o ++ t
 nodup : r.Nodup
 lt : ∀ x ∈ r, x < S.length
 closed : ∀ a ∈ r, ∀ m ∈ mvs S a, 0 ≤ m.To → m.To.toNat ∈ r
 why : ∀ x ∈ r, x ∈ o ∨ ∃ a ∈ r, ∃ m ∈ mvs S a, 0 ≤ m.To ∧ x = m.To.toNat
theorem bfs_spec {S : List Qa} (hT : toOk S) : ∀ (k i : Nat) (o : List Nat), o.Nodup → (∀ x ∈ o, x < S.length) → i ≤ o.length → S.length < k + i → (∀ j, (h : j < o.length) → j < i → ∀ m ∈ mvs S o[j], 0 ≤ m.To → m.To.toNat ∈ o) → Ord S o (bfs S k i o) := by
 intro k
 induction k with
 | zero =>
  intro i o h1 h2 h3 h4 h5
  have := Sv o (List.range S.length) h1 fun x hx => Qny.2 (h2 x hx)
  rw [Qm9] at this
  omega
 | succ k ih =>
  intro i o h1 h2 h3 h4 h5
  rw [bfs]
  by_cases hi : i < o.length
  ·rw [if_pos hi, Zb hi]
   have hlt := h2 _ (Qmg hi)
   obtain ⟨t, ht⟩ := Qlr (mvs S o[i]) o
   have hmem := Qls (mvs S o[i]) o
   obtain ⟨⟨u, hu⟩, g2, g3, g4, g5⟩ := ih (i + 1) _ (Qh1 (mvs S o[i]) o h1) (fun x hx => by
     rcases (hmem x).1 hx with h | ⟨m, hm, h0, rfl⟩
     ·exact h2 x h
     ·have := hT _ hlt m hm; omega) (by rw [ht, Qmc]; omega) (by omega) (fun j hj hji m hm h0 => by
     have hjo : j < o.length := by omega
     have he : ((mvs S o[i]).foldl Qff o)[j] = o[j] := by simp only [ht]; exact List.getElem_append_left hjo
     rw [he] at hm
     refine (hmem _).2 ?_
     by_cases hj' : j < i
     ·exact .inl (h5 j hjo hj' m hm h0)
     ·have : j = i := by omega
      subst this
      exact .inr ⟨m, hm, h0, rfl⟩)
   refine ⟨⟨t ++ u, by rw [hu, ht, Qmd]⟩, g2, g3, g4, fun x hx => ?_⟩
   rcases g5 x hx with h | h
   ·rcases (hmem x).1 h with h | ⟨m, hm, h0, he⟩
    ·exact .inl h
    ·refine .inr ⟨o[i], ?_, m, hm, h0, he⟩
     rw [hu]
     exact Qmj.2 (.inl ((hmem _).2 (.inl (Qmg hi))))
   ·exact .inr h
  ·rw [if_neg hi]
   refine ⟨⟨[], (Qm1 _).symm⟩, h1, h2, fun a ha m hm h0 => ?_, fun x hx => .inl hx⟩
   obtain ⟨j, hj, rfl⟩ := Qnf ha
   exact h5 j hj (by omega) m hm h0
theorem Qaz {S : List Qa} (hT : toOk S) (h0 : 0 < S.length) : Ord S [0] (Cm S) :=
 bfs_spec hT (S.length + 1) 0 [0] (Qoo.2 ⟨Qor, Qox⟩) (fun x hx => by rw [Qmp.1 hx]; exact h0) (Qmm _) (by omega) fun j _ h => absurd h (Nat.not_lt_zero _)
theorem Qb6 {S : List Qa} (hT : toOk S) : Blk S (Lc S) :=
 blk_spec S hT _ _ _ (by rw [Qm2]) (Qmm _) (by omega) fun E hE i j h => by
  obtain ⟨h1, h2, _⟩ := hE i j h
  rw [eqL, Zb (by rw [Qm2]; exact h1), Zb (by rw [Qm2]; exact h2), Qn5, Qn5]
inductive Qkz (S : List Qa) : Nat → Prop
 | rule {i : Nat} : i < S.length → Qh0 (stA S i) = true → Qkz S i
 | step {i : Nat} (m : Qd) : i < S.length → m ∈ mvs S i → 0 ≤ m.To → Qkz S m.To.toNat → Qkz S i
structure Qge (S : List Qa) (l : List Bool) : Prop where
 len : l.length = S.length
 iff : ∀ i, l.getD i false = true ↔ Qkz S i
theorem Qge.uniq {S : List Qa} {l r : List Bool} (h : Qge S l) (g : Qge S r) : l = r := by
 refine Qn7 (h.len.trans g.len.symm) fun i h1 h2 => ?_
 have := (h.iff i).trans (g.iff i).symm
 rw [Zb h1, Zb h2] at this
 exact Qo6.2 this
theorem Qk4 (S : List Qa) : (Qjs S).length = (Cm S).length := by rw [Qjs, Qmf]
end Go.Rv
namespace Go.Rv
def MvQ (S : List Qa) (R : List Int) (m : Qd) : Prop :=
 (m.To = -1 ∧ m.Ops = []) ∨ (1 ≤ m.To ∧ m.To < S.length ∧ m.Ops.length = (stA S m.To.toNat).R.length ∧ ∀ i, (h : i < m.Ops.length) → 1 ≤ m.Ops[i] ∧ m.Ops[i] ≤ 3 ∧ (m.Ops[i] = 3 ∨ (stA S m.To.toNat).R.getD i 0 ∈ R))
structure StQ (n : Nat) (many : Int) (S : List Qa) (s : Qa) : Prop where
 code : V2 s.R.length ≠ 0
 rl : (s.Rule.length : Int) = V2 s.R.length
 nl : (s.Next.length : Int) = V2 s.R.length
 l : Qf9 s.L 512 = true
 r : Qf9 s.R n = true
 rule : ∀ r ∈ s.Rule, -1 ≤ r ∧ r < 512
 row : ∀ r ∈ s.Next, (r.length : Int) = many
 mv : ∀ r ∈ s.Next, ∀ m ∈ r, MvQ S s.R m
structure RQ (a : Qc) : Prop where
 split : splitS a.Split = true
 cl : a.Counts.length ≤ 512
 cn : ∀ c ∈ a.Counts, cntP c = true
 n1 : 1 ≤ a.States.length
 n2 : a.States.length ≤ 256
 l0 : (stA a.States 0).L = []
 r0 : (stA a.States 0).R = []
 st : ∀ s ∈ a.States, StQ a.Counts.length a.Split.Many a.States s
theorem stR_eq (a : Qc) (m : Qd) : stR a m = (stA a.States m.To.toNat).R := by
 rw [stR, stA, List.getD]
 cases a.States[m.To.toNat]? <;> rfl
theorem mvQ_iff {a : Qc} {s : Qa} {m : Qd} : Qjq a s m = true ↔ MvQ a.States s.R m := by
 rw [Qjq, MvQ, stR_eq]
 by_cases h : m.To = -1
 ·rw [if_pos h, Qn0, Qn3]
  constructor
  ·exact fun h' => .inl ⟨h, h'⟩
  ·rintro (h' | h')
   ·exact h'.2
   ·omega
 ·rw [if_neg h]
  simp only [Qnh, Qnw, Qn0, Qk5, opP, stR_eq, Qo7, List.contains_iff_mem]
  constructor
  ·rintro ⟨h1, h2, h3, h4⟩
   refine .inr ⟨h1, h2, h3, fun i hi => ?_⟩
   have := h4 i (Qmm _) (by omega)
   rw [Zb hi] at this
   exact this
  ·rintro (h' | ⟨h1, h2, h3, h4⟩)
   ·exact absurd h'.1 h
   ·refine ⟨h1, h2, h3, fun i _ hi => ?_⟩
    rw [Qnb] at hi
    rw [Zb hi]
    exact h4 i hi
theorem stQ_iff {a : Qc} {s : Qa} : B8 a s = true ↔ StQ a.Counts.length a.Split.Many a.States s := by
 simp only [B8, Qnh, Bool.not_eq_true', Qmt, Qn0, Qk5, rowP, Qnw]
 constructor
 ·rintro ⟨h1, h2, h3, h4, h5, h6⟩
  have hl : s.Rule.length = s.Next.length := by omega
  refine ⟨h1, h2, h3, h4, h5, fun r hr => ?_, fun r hr => ?_, fun r hr m hm => ?_⟩
  ·obtain ⟨i, hi, rfl⟩ := Qnf hr
   have := h6 i (Qmm _) (by omega)
   rw [Zb hi] at this
   exact ⟨this.1, this.2.1⟩
  ·obtain ⟨i, hi, rfl⟩ := Qnf hr
   have := h6 i (Qmm _) (by omega)
   rw [Zb hi] at this
   exact this.2.2.1
  ·obtain ⟨i, hi, rfl⟩ := Qnf hr
   obtain ⟨j, hj, rfl⟩ := Qnf hm
   have := h6 i (Qmm _) (by omega)
   rw [Zb hi] at this
   have := this.2.2.2 j (Qmm _) (by omega)
   rw [Zb hj] at this
   exact mvQ_iff.1 this
 ·rintro ⟨h1, h2, h3, h4, h5, h6, h7, h8⟩
  have hl : s.Rule.length = s.Next.length := by omega
  refine ⟨h1, h2, h3, h4, h5, fun i _ hi => ?_⟩
  rw [Qnb] at hi
  rw [Zb hi, Zb (by omega)]
  obtain ⟨a1, a2⟩ := h6 _ (Qmg (show i < s.Rule.length by omega))
  refine ⟨a1, a2, h7 _ (Qmg hi), fun j _ hj => ?_⟩
  rw [Qnb] at hj
  rw [Zb hj]
  exact mvQ_iff.2 (h8 _ (Qmg hi) _ (Qmg hj))
theorem Qlh {a : Qc} : Qik a = true ↔ RQ a := by
 simp only [Qik, Qnh, Bool.not_eq_true', decide_eq_false_iff_not, Qn0, Qn3, Qk5]
 constructor
 ·rintro ⟨h1, h2, h3, h4, ⟨h5, h6⟩, h7, h8⟩
  refine ⟨h1, by omega, fun c hc => ?_, by omega, by omega, h5, h6, fun s hs => ?_⟩
  ·obtain ⟨i, hi, rfl⟩ := Qnf hc
   have := h7 i (Qmm _) (by omega)
   rw [Zb hi] at this
   exact this
  ·obtain ⟨i, hi, rfl⟩ := Qnf hs
   have := h8 i (Qmm _) (by omega)
   rw [Zb hi] at this
   exact stQ_iff.1 this
 ·rintro ⟨h1, h2, h3, h4, h5, h6, h7, h8⟩
  refine ⟨h1, by omega, by omega, by omega, ⟨h6, h7⟩, fun i _ hi => ?_, fun i _ hi => ?_⟩
  ·rw [Qnb] at hi
   rw [Zb hi]; exact h3 _ (Qmg hi)
  ·rw [Qnb] at hi
   rw [Zb hi]; exact stQ_iff.2 (h8 _ (Qmg hi))
theorem RQ.mvs {a : Qc} (h : RQ a) {i : Nat} {m : Qd} (hi : i < a.States.length) (hm : m ∈ mvs a.States i) : MvQ a.States (stA a.States i).R m := by
 rw [Go.Rv.mvs, Wq hi] at hm
 obtain ⟨r, hr, hm⟩ := Qn8.1 hm
 rw [Wq hi]
 exact (h.st _ (Qmg hi)).mv r hr m hm
theorem RQ.toOk {a : Qc} (h : RQ a) : toOk a.States := fun i hi m hm => by
 have := h.n1
 rcases h.mvs hi hm with h | h
 ·omega
 ·exact h.2.1
theorem codes_le {n : Nat} (h : V2 n ≠ 0) : n ≤ 3 ∧ 1 ≤ V2 n ∧ V2 n ≤ 27 := by
 rw [V2] at h ⊢
 split
 ·omega
 ·split
  ·omega
  ·split
   ·omega
   ·split
    ·omega
    ·next a b c d => rw [if_neg a, if_neg b, if_neg c, if_neg d] at h; exact absurd rfl h
end Go.Rv
namespace Go.Rv
def Sg (a : Qc) : Prop := RQ a ∧ ∀ i, i < 256 → 0 ≤ a.Split.Of.f i ∧ a.Split.Of.f i < 256
theorem getD_far {α : Type} {l : List α} {i : Nat} {d : α} (h : l.length ≤ i) : l.getD i d = d := by simp [List.getD, h]
theorem rows_len {α : Type} {c : Nat} : ∀ (l : List (List α)), (∀ r ∈ l, r.length ≤ c) → l.flatten.length ≤ l.length * c := by
 intro l
 induction l with
 | nil => intro _; exact Qmm _
 | cons r l ih =>
  intro h
  have h1 := h r Qm7
  have h2 := ih fun r hr => h r (Qm0 _ hr)
  rw [Qmz, Qmc, Qmw, Qoy]
  omega
theorem RQ.many {a : Qc} (h : RQ a) : a.Split.Many ≤ 256 := by
 have := splitF_many a.Split.Of 256 0 0 a.Split.Many h.split
 omega
structure Cq (s : Qa) : Prop where
 l : s.L.length ≤ 512
 r : s.R.length ≤ 3
 rule : 0 < s.Rule.length ∧ s.Rule.length ≤ 27
 next : s.Next.length ≤ 27
 row : ∀ r ∈ s.Next, r.length ≤ 256
 ops : ∀ r ∈ s.Next, ∀ m ∈ r, m.Ops.length ≤ 3
theorem RQ.small {a : Qc} (h : RQ a) {s : Qa} (hs : s ∈ a.States) : Cq s := by
 have g := h.st s hs
 obtain ⟨h1, h2, h3⟩ := codes_le g.code
 have h4 := g.rl
 have h5 := g.nl
 have h6 := h.many
 refine ⟨?_, h1, by omega, by omega, fun r hr => ?_, fun r hr m hm => ?_⟩
 ·rcases Qjk s.L (-1) (by omega) g.l with h | h
  ·omega
  ·simp [h]
 ·have := g.row r hr; omega
 ·rcases g.mv r hr m hm with ⟨_, h⟩ | ⟨h7, h8, h9, _⟩
  ·simp [h]
  ·have := (codes_le (h.st _ (Qmg (show m.To.toNat < a.States.length by omega))).code).1
   rw [Wq (by omega)] at h9
   omega
theorem Cq.flat {s : Qa} (h : Cq s) : s.Next.flatten.length ≤ 6912 := by
 have h1 := rows_len s.Next h.row
 have h2 := h.next
 omega
theorem Sg.okay {a : Qc} (h : Sg a) : Okay a :=
 ⟨h.2, by have := h.1.cl; omega, by have := h.1.n2; omega, fun s hs => by
  have g := h.1.small hs
  have := g.l; have := g.r; have := g.rule; have := g.next
  exact ⟨by omega, by omega, by omega, by omega, fun r hr => ⟨by have := g.row r hr; omega, fun m hm => by have := g.ops r hr m hm; omega⟩⟩⟩
theorem Sg.big {a : Qc} (h : Sg a) {K : Nat} (hK : 1000 ≤ K) : Qjw a K :=
 ⟨by omega, by have := h.1.cl; omega, by have := h.1.n2; omega, fun s hs => by
  have g := h.1.small hs
  have := g.l; have := g.r; have := g.rule; have := g.next
  exact ⟨by omega, by omega, by omega, fun r hr => ⟨by have := g.row r hr; omega, fun m hm => by have := g.ops r hr m hm; omega⟩⟩⟩
theorem Sg.auto {a : Qc} (h : Sg a) {K : Nat} (hK : 1000 ≤ K) : Wo K a = some true := by
 rw [autoRight K a h.okay (h.big hK), Qlh.2 h.1]
theorem Sg.ref {a : Qc} (h : Sg a) {K : Nat} (hK : 1000 ≤ K) : Yj K a = some true := by
 rw [refRight K a h.okay (h.big hK), Qlh.2 h.1]
theorem Sg.live {a : Qc} (h : Sg a) {K : Nat} (hK : 10000 ≤ K) : LiveOk K a :=
 ⟨by omega, by have := h.1.n2; omega, fun s hs => (h.1.small hs).rule, fun s hs => by
  have g := (h.1.small hs).flat
  exact ⟨(h.1.small hs).next, g, by omega⟩, fun s hs m hm => by
  obtain ⟨i, hi, rfl⟩ := Qnf hs
  exact h.1.toOk i hi m (by rw [mvs, Wq hi]; exact hm)⟩
/- Who goes there. -/
theorem addF_get {i : Int} {F : List (List Int)} {m : Qd} {j : Nat} {p : Int} (hj : j < F.length) : p ∈ (addF i F m).getD j [] ↔ p ∈ F.getD j [] ∨ (p = i ∧ 0 ≤ m.To ∧ m.To.toNat = j) := by
 rw [addF]
 by_cases h : m.To ≥ 0
 ·rw [if_pos h]
  by_cases hm : m.To.toNat = j
  ·subst hm
   rw [Zb (by rw [Qne]; exact hj), Qoa, Qmj, Qmp]
   constructor
   ·rintro (h1 | h1)
    ·exact .inl h1
    ·exact .inr ⟨h1, h, rfl⟩
   ·rintro (h1 | h1)
    ·exact .inl h1
    ·exact .inr h1.1
  ·rw [Zb (by rw [Qne]; exact hj), List.getElem_set_ne hm, Zb hj]
   constructor
   ·exact .inl
   ·rintro (h1 | h1)
    ·exact h1
    ·exact absurd h1.2.2 hm
 ·rw [if_neg h]
  constructor
  ·exact .inl
  ·rintro (h1 | h1)
   ·exact h1
   ·omega
theorem foldF_get {i : Int} : ∀ (ms : List Qd) (F : List (List Int)) (j : Nat) (p : Int), j < F.length → (p ∈ (ms.foldl (addF i) F).getD j [] ↔ p ∈ F.getD j [] ∨ (p = i ∧ ∃ m ∈ ms, 0 ≤ m.To ∧ m.To.toNat = j)) := by
 intro ms
 induction ms with
 | nil => intro F j p _; simp
 | cons m ms ih =>
  intro F j p hj
  rw [Qnp, ih _ _ _ (by rw [addF_len]; exact hj), addF_get hj]
  constructor
  ·rintro ((h | ⟨h1, h2⟩) | ⟨h1, m', h2, h3⟩)
   ·exact .inl h
   ·exact .inr ⟨h1, m, Qm7, h2⟩
   ·exact .inr ⟨h1, m', Qm0 _ h2, h3⟩
  ·rintro (h | ⟨h1, m', h2, h3⟩)
   ·exact .inl (.inl h)
   ·rcases Qnx.1 h2 with rfl | h2
    ·exact .inl (.inr ⟨h1, h3⟩)
    ·exact .inr ⟨h1, m', h2, h3⟩
theorem initF_get : ∀ (l : List Qa) (i : Int) (F : List (List Int)) (j : Nat) (p : Int), j < F.length → (p ∈ (Qe8 l i F).getD j [] ↔ p ∈ F.getD j [] ∨ ∃ k, ∃ (h : k < l.length), p = i + k ∧ ∃ m ∈ l[k].Next.flatten, 0 ≤ m.To ∧ m.To.toNat = j) := by
 intro l
 induction l with
 | nil => intro i F j p _; simp [Qe8]
 | cons s l ih =>
  intro i F j p hj
  rw [Qe8, ih _ _ _ _ (by rw [Qlt]; exact hj), foldF_get _ _ _ _ hj]
  constructor
  ·rintro ((h | ⟨h1, h2⟩) | ⟨k, hk, h1, h2⟩)
   ·exact .inl h
   ·exact .inr ⟨0, by rw [Qmw]; omega, by omega, h2⟩
   ·exact .inr ⟨k + 1, by rw [Qmw]; omega, by omega, h2⟩
  ·rintro (h | ⟨k, hk, h1, h2⟩)
   ·exact .inl (.inl h)
   ·cases k with
    | zero => exact .inl (.inr ⟨by omega, h2⟩)
    | succ k => exact .inr ⟨k, by rw [Qmw] at hk; omega, by omega, h2⟩
theorem initF_len : ∀ (l : List Qa) (i : Int) (F : List (List Int)), (Qe8 l i F).length = F.length := by
 intro l
 induction l with
 | nil => intro i F; rfl
 | cons s l ih => intro i F; rw [Qe8, ih, Qlt]
theorem initT_get : ∀ (l : List Qa) (i : Int) (p : Int), p ∈ Qku l i ↔ ∃ k, ∃ (h : k < l.length), p = i + k ∧ Qh0 l[k] = true := by
 intro l
 induction l with
 | nil => intro i p; simp [Qku]
 | cons s l ih =>
  intro i p
  rw [Qku, Qmj, ih]
  constructor
  ·rintro (h | ⟨k, hk, h1, h2⟩)
   ·split at h
    ·next hr => exact ⟨0, by rw [Qmw]; omega, by rw [Qmp.1 h]; omega, hr⟩
    ·cases h
   ·exact ⟨k + 1, by rw [Qmw]; omega, by omega, h2⟩
  ·rintro ⟨k, hk, h1, h2⟩
   cases k with
   | zero =>
    refine .inl ?_
    rw [List.getElem_cons_zero] at h2
    rw [if_pos h2, Qmp]; omega
   | succ k => exact .inr ⟨k, by rw [Qmw] at hk; omega, by omega, h2⟩
/- How many go anywhere. -/
def sumL (F : List (List Int)) : Nat := (F.map List.length).sum
theorem sum_set : ∀ (l : List Nat) (j c : Nat), j < l.length → (l.set j c).sum + l.getD j 0 = l.sum + c := by
 intro l
 induction l with
 | nil => intro j c h; cases h
 | cons x l ih =>
  intro j c h
  cases j with
  | zero => simp only [Qo4, List.sum_cons, List.getD_cons_zero]; omega
  | succ j =>
   have := ih j c (by rw [Qmw] at h; omega)
   simp only [Qov, List.sum_cons, List.getD_cons_succ]
   omega
theorem addF_sum (i : Int) (F : List (List Int)) (m : Qd) : sumL (addF i F m) ≤ sumL F + 1 := by
 rw [addF]
 split
 ·by_cases hj : m.To.toNat < F.length
  ·have h1 := sum_set (F.map List.length) m.To.toNat ((F.getD m.To.toNat []).length + 1) (by rw [Qmf]; exact hj)
   rw [Zb (l := F.map List.length) (by rw [Qmf]; exact hj), Qnm, Zb hj] at h1
   rw [sumL, sumL, List.map_set, Qmc, Qmh, Zb hj]
   omega
  ·rw [List.set_eq_of_length_le (by omega)]; omega
 ·omega
theorem foldF_sum (i : Int) : ∀ (ms : List Qd) (F : List (List Int)), sumL (ms.foldl (addF i) F) ≤ sumL F + ms.length := by
 intro ms
 induction ms with
 | nil => intro F; exact Qms _
 | cons m ms ih =>
  intro F
  have h1 := ih (addF i F m)
  have h2 := addF_sum i F m
  rw [Qnp, Qmw]
  omega
theorem initF_sum : ∀ (l : List Qa) (i : Int) (F : List (List Int)), (∀ s ∈ l, s.Next.flatten.length ≤ 6912) → sumL (Qe8 l i F) ≤ sumL F + 6912 * l.length := by
 intro l
 induction l with
 | nil => intro i F _; exact Qms _
 | cons s l ih =>
  intro i F h
  have h1 := ih (i + 1) (s.Next.flatten.foldl (addF i) F) fun s hs => h s (Qm0 _ hs)
  have h2 := foldF_sum i s.Next.flatten F
  have h3 := h s Qm7
  rw [Qe8, Qmw]
  omega
theorem leftW_le (F : List (List Int)) : ∀ (out : List Bool) (i : Nat), leftW F out i ≤ sumL (F.drop i) := by
 intro out
 induction out with
 | nil => intro i; exact Qmm _
 | cons b out ih =>
  intro i
  have := ih (i + 1)
  rw [leftW]
  by_cases h : i < F.length
  ·rw [Qmi h, sumL, Qmv, List.sum_cons, Zb h]
   rw [sumL] at this
   split <;> omega
  ·have e : F.getD i [] = [] := by simp [List.getD, h]
   rw [e, Qm8]
   rw [Qmn (by omega)] at this ⊢
   split <;> omega
theorem repl_get {α : Type} {n j : Nat} {d x : α} (h : (List.replicate n x).getD j d ≠ d) : j < n := by
 refine Decidable.byContradiction fun hc => h ?_
 simp [List.getD, hc]
theorem Qkz.lt {S : List Qa} {i : Nat} (h : Qkz S i) : i < S.length := by cases h <;> assumption
theorem Qlq {S : List Qa} {l : List Bool} (hl : l.length = S.length) (h1 : ∀ i, l.getD i false = true → Qkz S i) (h2 : ∀ i, i < S.length → Qh0 (stA S i) = true → l.getD i false = true) (h3 : ∀ i, i < S.length → ∀ m ∈ mvs S i, 0 ≤ m.To → l.getD m.To.toNat false = true → l.getD i false = true) : Qge S l :=
 ⟨hl, fun i => ⟨h1 i, fun h => by
  induction h with
  | rule a b => exact h2 _ a b
  | step m a b c _ ih => exact h3 _ a m b c ih⟩⟩
theorem live_ok {a : Qc} (h : Sg a) {K : Nat} (hK : 10000000 ≤ K) : ∃ l, If K a = some l ∧ Qge a.States l := by
 have hn := h.1.n2
 have hL := h.live (K := K) (by omega)
 have hs0 : sumL (List.replicate a.States.length ([] : List Int)) = 0 := by
  rw [sumL, Qok, Qm8, List.sum_replicate_nat]; omega
 have hF0 : ∀ r ∈ List.replicate a.States.length ([] : List Int), r.length ≤ 0 := fun r hr => by rw [(List.mem_replicate.1 hr).2]; exact Qms _
 have e0 := live_l0 K a hL (List.replicate a.States.length false) a.States.length K 0 0 (List.replicate a.States.length []) [] rfl (by omega) (Qmm _) (Qm2 ..) hF0 (by omega) (Qms _)
 rw [Qmu, Qmq, Qmr] at e0
 have hlenF : (Qe8 a.States 0 (List.replicate a.States.length [])).length = a.States.length := by rw [initF_len, Qm2]
 have hget : ∀ j p, j < a.States.length → (p ∈ (Qe8 a.States 0 (List.replicate a.States.length [])).getD j [] ↔ ∃ k, ∃ (h : k < a.States.length), p = (k : Int) ∧ ∃ m ∈ a.States[k].Next.flatten, 0 ≤ m.To ∧ m.To.toNat = j) := fun j p hj => by
  rw [initF_get _ _ _ _ _ (by rw [Qm2]; exact hj), Zb (by rw [Qm2]; exact hj), Qn5]
  simp
 have hfar : ∀ j p, p ∈ (Qe8 a.States 0 (List.replicate a.States.length [])).getD j [] → j < a.States.length := fun j p hp => by
  refine Decidable.byContradiction fun hc => ?_
  rw [getD_far (by omega)] at hp
  cases hp
 have hlw := leftW_le (Qe8 a.States 0 (List.replicate a.States.length [])) (List.replicate a.States.length false) 0
 have hsum := initF_sum a.States 0 (List.replicate a.States.length []) fun s hs => (h.1.small hs).flat
 have htl := initT_len a.States 0
 rw [Qmu] at hlw
 have hff : ∀ i, (List.replicate a.States.length false).getD i false = true → False := fun i hi => by
  have := repl_get (d := false) (by rw [hi]; decide)
  rw [Zb (by rw [Qm2]; exact this), Qn5] at hi
  cases hi
 obtain ⟨out, e, g1, g2, g3, _, g5⟩ := live_l2 K (Qe8 a.States 0 (List.replicate a.States.length [])) a.States.length hlenF (fun r hr p hp => by
   obtain ⟨j, hj, rfl⟩ := Qnf hr
   rw [← Zb (d := []) hj] at hp
   obtain ⟨k, hk, rfl, _⟩ := (hget j p (by omega)).1 hp
   omega) (Qkz a.States) (fun i hi p hp => by
   obtain ⟨k, hk, rfl, m, hm, h0, he⟩ := (hget i p hi.lt).1 hp
   refine .step m hk (by rw [Qml, mvs, Wq hk]; exact hm) h0 (by rw [he]; exact hi)) K (List.replicate a.States.length false) (Qku a.States 0) (Qm2 ..) (fun p hp => by
   obtain ⟨k, hk, rfl, hr⟩ := (initT_get _ _ _).1 hp
   refine ⟨by omega, by omega, ?_⟩
   have e : ((0 : Int) + (k : Int)).toNat = k := by omega
   rw [e]
   exact .rule hk (by rw [Wq hk]; exact hr)) (fun i hi => (hff i hi).elim) (fun i hi => (hff i hi).elim) (by omega) (by omega)
 refine ⟨out, ?_, Qlq g1 g2 (fun i hi hr => ?_) (fun i hi m hm h0 hl => ?_)⟩
 ·rw [If, h.auto (by omega), bS]
  simp only [Qm5, cF, Qml]
  rw [Z5 (by omega), Z5 (Zn.2 ⟨by simp only [maxLen]; omega, by omega⟩), Z5 (Zn.2 ⟨by simp only [maxLen]; omega, by omega⟩)]
  exact e0.trans e
 ·have := g5 (i : Int) ((initT_get _ _ _).2 ⟨i, hi, by omega, by rw [Wq hi] at hr; exact hr⟩)
  exact this
 ·have := g3 m.To.toNat hl (i : Int) ((hget _ _ (by rw [← g1]; refine Decidable.byContradiction fun hc => ?_; rw [getD_far (by omega)] at hl; cases hl)).2 ⟨i, hi, rfl, m, by rw [mvs, Wq hi] at hm; exact hm, h0, rfl⟩)
  exact this
end Go.Rv
namespace Go.Rv
theorem Qbh {α : Type} (A B : List α) (x v : α) : (A ++ x :: B).set A.length v = A ++ v :: B := by
 rw [List.set_append_right _ _ (Qms _), Nat.sub_self, Qo4]
theorem Qb4 {α : Type} (A B : List α) (x : α) : Yb (A ++ x :: B) (A.length : Int) = some x := by
 rw [Q2 (by rw [Qmc, Qmw]; omega)]
 rw [List.getElem_append_right (Qms _)]
 simp
theorem clone8 {K : Nat} {l : List Int} (h : l.length ≤ 1000000) : Jy K l = some l := by
 rw [Jy, Z5 (Zn.2 ⟨by simp only [maxLen, Qm8]; omega, by simp only [Qm8]; omega⟩), Qmq]
theorem cloneI {K : Nat} {l : List Int} (h : l.length ≤ 1000000) : Vb K l = some l := by
 rw [Vb, Z5 (Zn.2 ⟨by simp only [maxLen, Qm8]; omega, by simp only [Qm8]; omega⟩), Qmq]
def Kv (to : List Int) (r : List Qd) : List Qd := r.map (Qji to)
theorem send_l2 (K : Nat) (go : Int → Qe → Int → Int → (List (List Qd)) → Int → Int → (List Int) → (List Qa) → (List Int) → (List Int) → (List Int) → (List (List Qd)) → (List (List Qd)) → Option Qe) (i : Int) (c : Nat) (t : Qe) (a b : Int) (N : List (List Qd)) (d : Int) (e : Int) (row : List Qd) (to : List Int) (st : List Qa) (L R U : List Int) (V : List (List Qd)) (hr : row.length ≤ 256) (hm : ∀ m ∈ row, m.To < to.length ∧ m.Ops.length ≤ 3) : ∀ (q k j : Nat) (A B : List (List Qd)) (x : List Qd), row.length - j = q → q < k → A.length = c → x.length ≤ j → j ≤ row.length →
  Z1 K go k i (c : Int) t a b N d e row (row.length : Int) (j : Int) to st L R U V (A ++ x :: B) = go i t a b N d (IntKind.i64.wrap (e + 1)) to st L R U V (A ++ (x ++ Kv to (row.drop j)) :: B) := by
 intro q
 induction q with
 | zero =>
  intro k j A B x hq hk hA hx hj
  obtain ⟨k, rfl⟩ : ∃ q, k = q + 1 := ⟨k - 1, by omega⟩
  rw [Z1]
  dsimp only
  rw [Qme (by omega), cF, Qmn (by omega), Kv, Qob, Qm1]
 | succ q ih =>
  intro k j A B x hq hk hA hx hj
  obtain ⟨k, rfl⟩ : ∃ q, k = q + 1 := ⟨k - 1, by omega⟩
  have hjl : j < row.length := by omega
  obtain ⟨h1, h2⟩ := hm _ (Qmg hjl)
  have hw := B1 (n := j) (by omega)
  have hlt : (j : Int) < (row.length : Int) := by omega
  have hih := fun y => ih k (j + 1) A B (x ++ [y]) (by omega) (by omega) hA (by rw [Qmc, Qmh]; omega) (by omega)
  have hj3 : ∀ T O, Ut K (Z1 K go k) i (c : Int) t a b N d e row (row.length : Int) (j : Int) to st L R U V (A ++ x :: B) T O = go i t a b N d (IntKind.i64.wrap (e + 1)) to st L R U V (A ++ (x ++ ⟨T, O⟩ :: Kv to (row.drop (j + 1))) :: B) := fun T O => by
   have hg : Yb (A ++ x :: B) (c : Int) = some x := by rw [← hA]; exact Qb4 A B x
   rw [Ut, hg, bS, Z5 (Zn.2 ⟨by simp only [maxLen, Qmh]; omega, by simp only [Qmh]; omega⟩), hw, Qml, ← hA, Qbh, hA, hih, Qmd]
   rfl
  rw [Z1]
  dsimp only
  rw [Qmk hlt, cT, Q2 hjl, bS, Qmi hjl, Kv, Qmv]
  generalize row[j] = m at *
  by_cases h0 : m.To ≥ 0
  ·have ht : m.To.toNat < to.length := by omega
   have hg : Yb to m.To = some (to.getD m.To.toNat (-1)) := by
    have := Q2 ht
    rw [Qn9 h0] at this
    rw [this, Zb ht]
   rw [Qmk h0, cT, hg, bS]
   by_cases h3 : to.getD m.To.toNat (-1) ≥ 0
   ·rw [Qmk h3, cT, clone8 (by omega), bS, hj3, Qji, if_pos ⟨h0, h3⟩]
    rfl
   ·rw [Qme h3, cF, Us, hj3, Qji, if_neg (fun h => h3 h.2)]
    rfl
  ·rw [Qme h0, cF, Us, hj3, Qji, if_neg (fun h => h0 h.1)]
   rfl
theorem send_l1 (K : Nat) (hK : 1000 ≤ K) (go : Qe → Int → Int → (List Int) → (List Qa) → Option Qe) (t : Qe) (a b : Int) (s : Qa) (to : List Int) (hs : Cq s) (hm : ∀ r ∈ s.Next, ∀ m ∈ r, m.To < to.length) (A B : List Qa) (y : Qa) : ∀ (q k j : Nat) (X : List (List Qd)), s.Next.length - j = q → q < k → X.length = j → j ≤ s.Next.length →
  Y4 K go k (A.length : Int) t a b s.Next (s.Next.length : Int) (j : Int) to (A ++ y :: B) s.L s.R s.Rule s.Next (X ++ List.replicate (s.Next.length - j) []) = go t a (IntKind.i64.wrap (b + 1)) to (A ++ ⟨s.L, s.R, s.Rule, X ++ (s.Next.drop j).map (Kv to)⟩ :: B) := by
 intro q
 have g1 := hs.l
 have g2 := hs.r
 have g3 := hs.rule
 have g4 := hs.next
 induction q with
 | zero =>
  intro k j X hq hk hX hj
  obtain ⟨k, rfl⟩ : ∃ q, k = q + 1 := ⟨k - 1, by omega⟩
  have e0 : s.Next.length - j = 0 := by omega
  rw [Y4]
  dsimp only
  rw [Qme (by omega), cF, cloneI (by omega), bS, cloneI (by omega), bS, cloneI (by omega), bS, Qb4, bS, Qml, Qbh, e0, Qmn (by omega)]
  rfl
 | succ q ih =>
  intro k j X hq hk hX hj
  obtain ⟨k, rfl⟩ : ∃ q, k = q + 1 := ⟨k - 1, by omega⟩
  have hjl : j < s.Next.length := by omega
  have hlt : (j : Int) < (s.Next.length : Int) := by omega
  have hrow := Qmg hjl
  have e1 : s.Next.length - j = (s.Next.length - (j + 1)) + 1 := by omega
  have h2 := send_l2 K (Y4 K go k) (A.length : Int) j t a b s.Next (s.Next.length : Int) (j : Int) s.Next[j] to (A ++ y :: B) s.L s.R s.Rule s.Next (hs.row _ hrow) (fun m hmm => ⟨hm _ hrow m hmm, hs.ops _ hrow m hmm⟩) s.Next[j].length K 0 X (List.replicate (s.Next.length - (j + 1)) []) [] rfl (by have := hs.row _ hrow; omega) hX (Qms _) (Qmm _)
  rw [Qmr, Qmu, Qmq, B1 (n := j) (by omega)] at h2
  have h3 := ih k (j + 1) (X ++ [Kv to s.Next[j]]) (by omega) (by omega) (by rw [Qmc, Qmh]; omega) (by omega)
  rw [Qmd, Qno] at h3
  rw [Y4]
  dsimp only
  rw [Qmk hlt, cT, Q2 hjl, bS, e1, Qnt, h2, h3, Qmi hjl, Qmv, Qmd]
  rfl
theorem send_l0 (K : Nat) (hK : 1000 ≤ K) (x : Qc) (to : List Int) (hn : x.States.length ≤ 256) (hs : ∀ s ∈ x.States, Cq s) (hm : ∀ s ∈ x.States, ∀ r ∈ s.Next, ∀ m ∈ r, m.To < to.length) : ∀ (q k i : Nat) (X : List Qa), x.States.length - i = q → q < k → X.length = i → i ≤ x.States.length →
  Y5 K k ⟨x⟩ (x.States.length : Int) (i : Int) to (X ++ List.replicate (x.States.length - i) ⟨[], [], [], []⟩) = some ⟨⟨x.Split, x.Counts, X ++ N8 to (x.States.drop i)⟩⟩ := by
 intro q
 induction q with
 | zero =>
  intro k i X hq hk hX hi
  obtain ⟨k, rfl⟩ : ∃ q, k = q + 1 := ⟨k - 1, by omega⟩
  have e0 : x.States.length - i = 0 := by omega
  rw [Y5]
  dsimp only
  rw [Qme (by omega), cF, e0, Qmn (by omega)]
  rfl
 | succ q ih =>
  intro k i X hq hk hX hi
  obtain ⟨k, rfl⟩ : ∃ q, k = q + 1 := ⟨k - 1, by omega⟩
  have hil : i < x.States.length := by omega
  have hlt : (i : Int) < (x.States.length : Int) := by omega
  have hst := Qmg hil
  have hsm := hs _ hst
  have e1 : x.States.length - i = (x.States.length - (i + 1)) + 1 := by omega
  have h2 := send_l1 K hK (Y5 K k) ⟨x⟩ (x.States.length : Int) (i : Int) x.States[i] to hsm (hm _ hst) X (List.replicate (x.States.length - (i + 1)) ⟨[], [], [], []⟩) ⟨[], [], [], []⟩ x.States[i].Next.length K 0 [] rfl (by have := hsm.next; omega) rfl (Qmm _)
  rw [Qmr, Qmu, Qmq, Qmq, Qnj, B1 (n := i) (by omega), hX] at h2
  have h3 := ih k (i + 1) (X ++ [Qem to x.States[i]]) (by omega) (by omega) (by rw [Qmc, Qmh]; omega) (by omega)
  rw [Qmd, Qno] at h3
  have h4 := hsm.next
  rw [Y5]
  dsimp only
  rw [Qmk hlt, cT, Q2 hil, bS, Z5 (by omega), Z5 (Zn.2 ⟨by simp only [maxLen]; omega, by omega⟩), Qml, e1, Qnt, h2, Qmi hil]
  refine Eq.trans h3 ?_
  rw [Qmd]
  rfl
theorem send_ok (K : Nat) (hK : 1000 ≤ K) (x : Qc) (to : List Int) (hn : x.States.length ≤ 256) (hs : ∀ s ∈ x.States, Cq s) (hm : ∀ s ∈ x.States, ∀ r ∈ s.Next, ∀ m ∈ r, m.To < to.length) : V9 K ⟨x⟩ to = some ⟨⟨x.Split, x.Counts, N8 to x.States⟩⟩ := by
 have h := send_l0 K hK x to hn hs hm x.States.length K 0 [] rfl (by omega) rfl (Qmm _)
 rw [Qmr, Qmu, Qmq, Qmq, Qnj] at h
 rw [V9]
 dsimp only
 rw [Z5 (by omega), Z5 (Zn.2 ⟨by simp only [maxLen]; omega, by omega⟩), Qml]
 exact h
theorem send1_l2 (K : Nat) (go : (List Int) → Int → Qe → Int → Int → (List (List Qd)) → Int → Int → (List Qa) → (List Int) → (List Int) → (List Int) → (List (List Qd)) → (List (List Qd)) → Option Qe) (i : Int) (c : Nat) (t : Qe) (a b : Int) (N : List (List Qd)) (d : Int) (e : Int) (row : List Qd) (to : List Int) (st : List Qa) (L R U : List Int) (V : List (List Qd)) (hr : row.length ≤ 256) (hm : ∀ m ∈ row, m.To < to.length ∧ m.Ops.length ≤ 3) : ∀ (q k j : Nat) (A B : List (List Qd)) (x : List Qd), row.length - j = q → q < k → A.length = c → x.length ≤ j → j ≤ row.length →
  Zo K go k to i (c : Int) t a b N d e row (row.length : Int) (j : Int) st L R U V (A ++ x :: B) = go to i t a b N d (IntKind.i64.wrap (e + 1)) st L R U V (A ++ (x ++ Kv to (row.drop j)) :: B) := by
 intro q
 induction q with
 | zero =>
  intro k j A B x hq hk hA hx hj
  obtain ⟨k, rfl⟩ : ∃ q, k = q + 1 := ⟨k - 1, by omega⟩
  rw [Zo]
  dsimp only
  rw [Qme (by omega), cF, Qmn (by omega), Kv, Qob, Qm1]
 | succ q ih =>
  intro k j A B x hq hk hA hx hj
  obtain ⟨k, rfl⟩ : ∃ q, k = q + 1 := ⟨k - 1, by omega⟩
  have hjl : j < row.length := by omega
  obtain ⟨h1, h2⟩ := hm _ (Qmg hjl)
  have hw := B1 (n := j) (by omega)
  have hlt : (j : Int) < (row.length : Int) := by omega
  have hih := fun y => ih k (j + 1) A B (x ++ [y]) (by omega) (by omega) hA (by rw [Qmc, Qmh]; omega) (by omega)
  have hj3 : ∀ T O, Ve K (Zo K go k) to i (c : Int) t a b N d e row (row.length : Int) (j : Int) st L R U V (A ++ x :: B) T O = go to i t a b N d (IntKind.i64.wrap (e + 1)) st L R U V (A ++ (x ++ ⟨T, O⟩ :: Kv to (row.drop (j + 1))) :: B) := fun T O => by
   have hg : Yb (A ++ x :: B) (c : Int) = some x := by rw [← hA]; exact Qb4 A B x
   rw [Ve, hg, bS, Z5 (Zn.2 ⟨by simp only [maxLen, Qmh]; omega, by simp only [Qmh]; omega⟩), hw, Qml, ← hA, Qbh, hA, hih, Qmd]
   rfl
  rw [Zo]
  dsimp only
  rw [Qmk hlt, cT, Q2 hjl, bS, Qmi hjl, Kv, Qmv]
  generalize row[j] = m at *
  by_cases h0 : m.To ≥ 0
  ·have ht : m.To.toNat < to.length := by omega
   have hg : Yb to m.To = some (to.getD m.To.toNat (-1)) := by
    have := Q2 ht
    rw [Qn9 h0] at this
    rw [this, Zb ht]
   rw [Qmk h0, cT, hg, bS]
   by_cases h3 : to.getD m.To.toNat (-1) ≥ 0
   ·rw [Qmk h3, cT, clone8 (by omega), bS, hj3, Qji, if_pos ⟨h0, h3⟩]
    rfl
   ·rw [Qme h3, cF, Vd, hj3, Qji, if_neg (fun h => h3 h.2)]
    rfl
  ·rw [Qme h0, cF, Vd, hj3, Qji, if_neg (fun h => h0 h.1)]
   rfl
theorem send1_l1 (K : Nat) (hK : 1000 ≤ K) (go : (List Int) → Qe → Int → Int → (List Qa) → Option Qe) (t : Qe) (a b : Int) (s : Qa) (to : List Int) (hs : Cq s) (hm : ∀ r ∈ s.Next, ∀ m ∈ r, m.To < to.length) (A B : List Qa) (y : Qa) : ∀ (q k j : Nat) (X : List (List Qd)), s.Next.length - j = q → q < k → X.length = j → j ≤ s.Next.length →
  Yg K go k to (A.length : Int) t a b s.Next (s.Next.length : Int) (j : Int) (A ++ y :: B) s.L s.R s.Rule s.Next (X ++ List.replicate (s.Next.length - j) []) = go to t a (IntKind.i64.wrap (b + 1)) (A ++ ⟨s.L, s.R, s.Rule, X ++ (s.Next.drop j).map (Kv to)⟩ :: B) := by
 intro q
 have g1 := hs.l
 have g2 := hs.r
 have g3 := hs.rule
 have g4 := hs.next
 induction q with
 | zero =>
  intro k j X hq hk hX hj
  obtain ⟨k, rfl⟩ : ∃ q, k = q + 1 := ⟨k - 1, by omega⟩
  have e0 : s.Next.length - j = 0 := by omega
  rw [Yg]
  dsimp only
  rw [Qme (by omega), cF, cloneI (by omega), bS, cloneI (by omega), bS, cloneI (by omega), bS, Qb4, bS, Qml, Qbh, e0, Qmn (by omega)]
  rfl
 | succ q ih =>
  intro k j X hq hk hX hj
  obtain ⟨k, rfl⟩ : ∃ q, k = q + 1 := ⟨k - 1, by omega⟩
  have hjl : j < s.Next.length := by omega
  have hlt : (j : Int) < (s.Next.length : Int) := by omega
  have hrow := Qmg hjl
  have e1 : s.Next.length - j = (s.Next.length - (j + 1)) + 1 := by omega
  have h2 := send1_l2 K (Yg K go k) (A.length : Int) j t a b s.Next (s.Next.length : Int) (j : Int) s.Next[j] to (A ++ y :: B) s.L s.R s.Rule s.Next (hs.row _ hrow) (fun m hmm => ⟨hm _ hrow m hmm, hs.ops _ hrow m hmm⟩) s.Next[j].length K 0 X (List.replicate (s.Next.length - (j + 1)) []) [] rfl (by have := hs.row _ hrow; omega) hX (Qms _) (Qmm _)
  rw [Qmr, Qmu, Qmq, B1 (n := j) (by omega)] at h2
  have h3 := ih k (j + 1) (X ++ [Kv to s.Next[j]]) (by omega) (by omega) (by rw [Qmc, Qmh]; omega) (by omega)
  rw [Qmd, Qno] at h3
  rw [Yg]
  dsimp only
  rw [Qmk hlt, cT, Q2 hjl, bS, e1, Qnt, h2, h3, Qmi hjl, Qmv, Qmd]
  rfl
theorem send1_l0 (K : Nat) (hK : 1000 ≤ K) (x : Qc) (to : List Int) (hn : x.States.length ≤ 256) (hs : ∀ s ∈ x.States, Cq s) (hm : ∀ s ∈ x.States, ∀ r ∈ s.Next, ∀ m ∈ r, m.To < to.length) : ∀ (q k i : Nat) (X : List Qa), x.States.length - i = q → q < k → X.length = i → i ≤ x.States.length →
  Yh K k to ⟨x⟩ (x.States.length : Int) (i : Int) (X ++ List.replicate (x.States.length - i) ⟨[], [], [], []⟩) = some ⟨⟨x.Split, x.Counts, X ++ N8 to (x.States.drop i)⟩⟩ := by
 intro q
 induction q with
 | zero =>
  intro k i X hq hk hX hi
  obtain ⟨k, rfl⟩ : ∃ q, k = q + 1 := ⟨k - 1, by omega⟩
  have e0 : x.States.length - i = 0 := by omega
  rw [Yh]
  dsimp only
  rw [Qme (by omega), cF, e0, Qmn (by omega)]
  rfl
 | succ q ih =>
  intro k i X hq hk hX hi
  obtain ⟨k, rfl⟩ : ∃ q, k = q + 1 := ⟨k - 1, by omega⟩
  have hil : i < x.States.length := by omega
  have hlt : (i : Int) < (x.States.length : Int) := by omega
  have hst := Qmg hil
  have hsm := hs _ hst
  have e1 : x.States.length - i = (x.States.length - (i + 1)) + 1 := by omega
  have h2 := send1_l1 K hK (Yh K k) ⟨x⟩ (x.States.length : Int) (i : Int) x.States[i] to hsm (hm _ hst) X (List.replicate (x.States.length - (i + 1)) ⟨[], [], [], []⟩) ⟨[], [], [], []⟩ x.States[i].Next.length K 0 [] rfl (by have := hsm.next; omega) rfl (Qmm _)
  rw [Qmr, Qmu, Qmq, Qmq, Qnj, B1 (n := i) (by omega), hX] at h2
  have h3 := ih k (i + 1) (X ++ [Qem to x.States[i]]) (by omega) (by omega) (by rw [Qmc, Qmh]; omega) (by omega)
  rw [Qmd, Qno] at h3
  have h4 := hsm.next
  rw [Yh]
  dsimp only
  rw [Qmk hlt, cT, Q2 hil, bS, Z5 (by omega), Z5 (Zn.2 ⟨by simp only [maxLen]; omega, by omega⟩), Qml, e1, Qnt, h2, Qmi hil]
  refine Eq.trans h3 ?_
  rw [Qmd]
  rfl
theorem send1_ok (K : Nat) (hK : 1000 ≤ K) (x : Qc) (to : List Int) (hn : x.States.length ≤ 256) (hs : ∀ s ∈ x.States, Cq s) (hm : ∀ s ∈ x.States, ∀ r ∈ s.Next, ∀ m ∈ r, m.To < to.length) : Vl K ⟨x⟩ to = some ⟨⟨x.Split, x.Counts, N8 to x.States⟩⟩ := by
 have h := send1_l0 K hK x to hn hs hm x.States.length K 0 [] rfl (by omega) rfl (Qmm _)
 rw [Qmr, Qmu, Qmq, Qmq, Qnj] at h
 rw [Vl]
 dsimp only
 rw [Z5 (by omega), Z5 (Zn.2 ⟨by simp only [maxLen]; omega, by omega⟩), Qml]
 exact h
end Go.Rv
