/- A LOGIC OF ABSTRACT STATES OVER THE MODEL, part I: a region whose order is drawn: where what is not ordered does not meet, the order of the text serves. -/
import Derived.Test.YtcmfaclkgdmpbaaGreatDoorRvH
import Derived.Orders
namespace Go.Rv
def One (P : Program) (N : Nat) (ops : Array Oper) (i : Nat) (s : St) (K : St → Prop) : Prop :=
 ∀ F L a w, Rel w N F L s a → wpOp P ops (fun _ _ _ => False) i (fun a' w' => ∃ L' s', K s' ∧ Rel w' N F L' s' a' ∧ Ext L w L' w') a w
section
variable {P : Program} {N : Nat} {s : St} {ops : Array Oper}
theorem One.step {i : Nat} {o : Oper} {K : St → Prop} (ho : ops[i]? = some o) (hw : Ft ops s o true) (h : OpT P N o s K) : One P N ops i s K := by
 intro F L a w hr
 simp only [wpOp, ho, hw.eq hr, if_true]
 exact .inl (h F L a w hr)
theorem Ti {i : Nat} {a : Act} {w : World} {K K' : Act → World → Prop} {Q Q' : Exit → Act → World → Prop} (h : ∀ a w, K a w → K' a w) (hq : ∀ e a w, Q e a w → Q' e a w) (hh : wpOp P ops Q i K a w) : wpOp P ops Q' i K' a w := by
 unfold wpOp at hh ⊢
 cases ho : ops[i]? with
 | none => simp only [ho] at hh ⊢; exact h _ _ hh
 | some o =>
  simp only [ho] at hh ⊢
  split
  ·rename_i hw
   rw [if_pos hw] at hh
   rcases hh with hh | ⟨hh, a0, w0, h0⟩
   ·exact .inl (Ch hh h hq)
   ·exact .inr ⟨hh, a0, w0, hq _ _ _ h0⟩
  ·rename_i hw
   rw [if_neg hw] at hh
   exact h _ _ hh
theorem wpAny_all' {md : Region.Mode} {q q' : Exit → Act → World → Prop} (hq : ∀ e a w, q e a w → q' e a w) : ∀ (fuel : Nat) (listed : Array Bool) (a : Act) (w : World), wpAny P md ops q fuel listed a w → wpAny P md ops q' fuel listed a w := by
 intro fuel
 induction fuel with
 | zero => intro listed a w h; exact ⟨h.1, hq _ _ _ h.2⟩
 | succ fuel ih => intro listed a w h; exact ⟨fun hn => hq _ _ _ (h.1 hn), fun i hi => Ti (ih _) hq (h.2 i hi)⟩
def TA (P : Program) (N : Nat) (ops : Array Oper) (Q : Exit → St → Prop) : Nat → Array Bool → St → Prop
 | 0, listed, s => Region.ready .any ops listed = [] ∧ Q .normal s
 | fuel + 1, listed, s => (Region.ready .any ops listed = [] → Q .normal s) ∧ ∀ i ∈ Region.ready .any ops listed, One P N ops i s (TA P N ops Q fuel (listed.setIfInBounds i true))
theorem TA.sound {Q : Exit → St → Prop} : ∀ (fuel : Nat) (listed : Array Bool) (s : St), TA P N ops Q fuel listed s → ∀ F L a w, Rel w N F L s a →
  wpAny P .any ops (fun e a' w' => ∃ L' s', Q e s' ∧ Rel w' N F L' s' a' ∧ Ext L w L' w') fuel listed a w := by
 intro fuel
 induction fuel with
 | zero => intro listed s h F L a w hr; exact ⟨h.1, L, s, h.2, hr, Ext.refl _ _⟩
 | succ fuel ih =>
  intro listed s h F L a w hr
  refine ⟨fun hn => ⟨L, s, h.1 hn, hr, Ext.refl _ _⟩, fun i hi => ?_⟩
  refine Ti ?_ (fun _ _ _ h => h.elim) (h.2 i hi F L a w hr)
  rintro a' w' ⟨L', s', hk, hr', hx⟩
  have := ih _ s' hk F L' a' w' hr'
  exact wpAny_all' (fun e a2 w2 ⟨L2, s2, q, r, x⟩ => ⟨L2, s2, q, r, hx.trans x⟩) _ _ _ _ this
end
structure Ct where
 dst : Option Nat
 val : AV
 need : List (Nat × AV) := []
 objs : List (Nat × Ob) := []
 upd : List (Nat × Ob) := []
def Ct.go (c : Ct) (t : St) : St := ⟨(t.putO c.dst c.val).slots, c.upd.foldl (fun tab p => tab.set p.1 p.2) t.tab⟩
structure Ct.met (c : Ct) (t : St) : Prop where
 slots : ∀ p ∈ c.need, t.slots.lookup p.1 = some p.2
 objs : ∀ p ∈ c.objs, t.tab[p.1]? = some p.2
def Ct.ok (P : Program) (N : Nat) (ops : Array Oper) (i : Nat) (c : Ct) : Prop := ∀ t, c.met t → One P N ops i t (fun t' => t' = c.go t)
def Ct.meets (a b : Ct) : Bool :=
 (match a.dst with | some d => b.need.any (·.1 == d) || b.dst == some d | none => false) || (match b.dst with | some d => a.need.any (·.1 == d) | none => false) ||
 a.upd.any (fun p => b.objs.any (·.1 == p.1) || b.upd.any (·.1 == p.1)) || b.upd.any (fun p => a.objs.any (·.1 == p.1))
theorem Fo (c : Ct) (t : St) (d : Nat) : (c.go t).slots.lookup d = if c.dst = some d then some c.val else t.slots.lookup d := by
 cases hd : c.dst with
 | none => simp [Ct.go, St.putO, hd]
 | some e =>
  simp only [Ct.go, hd, St.putO, St.put, Qhb, Qgk]
  by_cases h : e = d
  ·subst h; simp
  ·rw [if_neg h]
   have : (d == e) = false := by simp; exact fun h' => h h'.symm
   rw [this]
theorem Ps : ∀ (u : List (Nat × Ob)) (tab : List Ob) (q : Nat), (∀ p ∈ u, p.1 ≠ q) → (u.foldl (fun tab p => tab.set p.1 p.2) tab)[q]? = tab[q]? := by
 intro u
 induction u with
 | nil => intro tab q _; rfl
 | cons p u ih =>
  intro tab q h
  simp only [Qgx]
  rw [ih _ q (fun x hx => h x (by simp [hx]))]
  exact List.getElem?_set_ne (h p (by simp))
theorem Fp : ∀ (u : List (Nat × Ob)) (tab tab' : List Ob) (q : Nat), tab[q]? = tab'[q]? → (u.foldl (fun tab p => tab.set p.1 p.2) tab)[q]? = (u.foldl (fun tab p => tab.set p.1 p.2) tab')[q]? := by
 intro u
 induction u with
 | nil => intro tab tab' q h; exact h
 | cons p u ih =>
  intro tab tab' q h
  simp only [Qgx]
  refine ih _ _ q ?_
  rw [List.getElem?_set, List.getElem?_set]
  by_cases hp : p.1 = q
  ·subst hp
   simp only [if_true]
   have : (p.1 < tab.length) ↔ (p.1 < tab'.length) := by
    have one : ∀ (x y : List Ob), x[p.1]? = y[p.1]? → p.1 < x.length → p.1 < y.length := fun x y hxy hx => by
     rcases Qi1 p.1 y.length with h' | h'
     ·exact h'
     ·rw [List.getElem?_eq_none h', List.getElem?_eq_getElem hx] at hxy; cases hxy
    exact ⟨one _ _ h, one _ _ h.symm⟩
   by_cases h1 : p.1 < tab.length
   ·rw [if_pos h1, if_pos (this.1 h1)]
   ·rw [if_neg h1, if_neg (fun h' => h1 (this.2 h'))]
  ·rw [if_neg hp, if_neg hp]; exact h
def St.like (s t : St) : Prop := (∀ d, s.slots.lookup d = t.slots.lookup d) ∧ ∀ q : Nat, s.tab[q]? = t.tab[q]?
theorem St.like.tab {s t : St} (h : St.like s t) : s.tab = t.tab := List.ext_getElem? h.2
def Kl (S : Nat → Bool) : List (Nat × Ct) → St → St
 | [], t => t
 | (i, c) :: l, t => Kl S l (if S i then c.go t else t)
theorem B0 (S S' : Nat → Bool) (d : Nat) : ∀ (l : List (Nat × Ct)) (t t' : St), t.slots.lookup d = t'.slots.lookup d → (∀ p ∈ l, p.2.dst = some d → S p.1 = S' p.1) → (Kl S l t).slots.lookup d = (Kl S' l t').slots.lookup d := by
 intro l
 induction l with
 | nil => intro t t' h _; exact h
 | cons p l ih =>
  intro t t' h hl
  obtain ⟨i, c⟩ := p
  refine ih _ _ ?_ (fun q hq => hl q (by simp [hq]))
  by_cases hd : c.dst = some d
  ·have := hl (i, c) (by simp) hd
   simp only at this
   rw [this]
   split
   ·rw [Fo, Fo, if_pos hd, if_pos hd]
   ·exact h
  ·split <;> split <;> simp [Fo, hd, h]
theorem Tm (S S' : Nat → Bool) (q : Nat) : ∀ (l : List (Nat × Ct)) (t t' : St), t.tab[q]? = t'.tab[q]? → (∀ p ∈ l, (∃ u ∈ p.2.upd, u.1 = q) → S p.1 = S' p.1) → (Kl S l t).tab[q]? = (Kl S' l t').tab[q]? := by
 intro l
 induction l with
 | nil => intro t t' h _; exact h
 | cons p l ih =>
  intro t t' h hl
  obtain ⟨i, c⟩ := p
  refine ih _ _ ?_ (fun q hq => hl q (by simp [hq]))
  by_cases hd : ∃ u ∈ c.upd, u.1 = q
  ·have := hl (i, c) (by simp) hd
   simp only at this
   rw [this]
   split
   ·exact Fp _ _ _ _ h
   ·exact h
  ·have hne : ∀ u ∈ c.upd, u.1 ≠ q := fun u hu he => hd ⟨u, hu, he⟩
   split <;> split <;> simp [Ct.go, Ps _ _ _ hne, h]
theorem runC_congr (S S' : Nat → Bool) : ∀ (l : List (Nat × Ct)) (t : St), (∀ p ∈ l, S p.1 = S' p.1) → Kl S l t = Kl S' l t := by
 intro l
 induction l with
 | nil => intro t _; rfl
 | cons p l ih =>
  intro t h
  obtain ⟨i, c⟩ := p
  simp only [Kl]
  rw [h (i, c) (by simp)]
  exact ih _ (fun q hq => h q (by simp [hq]))
def Pq (ops : Array Oper) (ms : List Nat) : Bool :=
 (List.range ops.size).all fun j => (List.range j).all fun i => !(ms.getD j 0).testBit i ||
  ((ops[j]?).map fun o => o.after.toList.any fun e => Region.binds .any e && decide (e.on < j) && (e.on == i || (decide (i < e.on) && (ms.getD e.on 0).testBit i))).getD false
def Ta (ops : Array Oper) : Bool := (List.range ops.size).all fun j => ((ops[j]?).map fun o => o.after.toList.all fun e => !Region.binds .any e || decide (e.on < j)).getD true
def Px (ms : List Nat) (cs : List Ct) : Bool :=
 (List.range cs.length).all fun j => (List.range j).all fun i => (ms.getD j 0).testBit i || !(cs.getD i ⟨none, .any, [], [], []⟩).meets (cs.getD j ⟨none, .any, [], [], []⟩)
section
variable {P : Program} {N : Nat} {ops : Array Oper}
def Closed (ops : Array Oper) (listed : Array Bool) : Prop := ∀ j o, ops[j]? = some o → listed.getD j false = true → ∀ e ∈ o.after, Region.binds .any e = true → listed.getD e.on false = true
theorem Cw {ms : List Nat} (hm : Pq ops ms = true) {listed : Array Bool} (hc : Closed ops listed) : ∀ (j : Nat), (∀ o, ops[j]? = some o → ∀ e ∈ o.after, Region.binds .any e = true → listed.getD e.on false = true) →
  ∀ i, i < j → j < ops.size → (ms.getD j 0).testBit i = true → listed.getD i false = true := by
 intro j
 induction j using Nat.strongRecOn with
 | _ j ih =>
  intro hj i hi hjs ht
  simp only [Pq, Qgr, Qgo] at hm
  have h := hm j hjs i hi
  rw [ht] at h
  simp only [Qg7, Qh1] at h
  have ho : ops[j]? = some ops[j] := by simp [hjs]
  rw [ho] at h
  simp only [Qhs, Qhd, Qhk, Qgv, Qio, Qhe, Qhc] at h
  obtain ⟨e, he, ⟨hb, hlt⟩, h⟩ := h
  have hle := hj _ ho e (by simpa using he) hb
  rcases h with h | ⟨hei, h⟩
  ·rw [← h]; exact hle
  ·exact ih e.on hlt (fun o hoe e' he' hb' => hc e.on o hoe hle e' he' hb') i hei (Nat.lt_trans hlt hjs) h
inductive Certs (P : Program) (N : Nat) (ops : Array Oper) : Nat → St → List Ct → St → Prop
 | nil (i : Nat) (t : St) : Certs P N ops i t [] t
 | cons {i : Nat} {t t' : St} {c : Ct} {cs : List Ct} (hok : Ct.ok P N ops i c) (hm : c.met t) (h : Certs P N ops (i + 1) (c.go t) cs t') : Certs P N ops i t (c :: cs) t'
def tag : Nat → List Ct → List (Nat × Ct)
 | _, [] => []
 | i, c :: cs => (i, c) :: tag (i + 1) cs
theorem Dq : ∀ (cs : List Ct) (i : Nat) (p : Nat × Ct), p ∈ tag i cs ↔ i ≤ p.1 ∧ cs[p.1 - i]? = some p.2 := by
 intro cs
 induction cs with
 | nil => intro i p; simp [tag]
 | cons c cs ih =>
  intro i p
  simp only [tag, Qg1, ih]
  constructor
  ·rintro (rfl | ⟨h1, h2⟩)
   ·simp
   ·refine ⟨by omega, ?_⟩
    have : p.1 - i = (p.1 - (i + 1)) + 1 := by omega
    rw [this]; simpa using h2
  ·rintro ⟨h1, h2⟩
   by_cases h : p.1 = i
   ·left
    rw [h] at h2
    simp at h2
    exact Prod.ext h h2.symm
   ·right
    refine ⟨by omega, ?_⟩
    have : p.1 - i = (p.1 - (i + 1)) + 1 := by omega
    rw [this] at h2
    simpa using h2
theorem Certs.all {i : Nat} {t t' : St} {cs : List Ct} (h : Certs P N ops i t cs t') : t' = Kl (fun _ => true) (tag i cs) t ∧ ∀ j c, cs[j]? = some c → Ct.ok P N ops (i + j) c ∧ c.met (Kl (fun k => decide (k < i + j)) (tag i cs) t) := by
 induction h with
 | nil i t => exact ⟨rfl, fun j c h => by simp at h⟩
 | cons hok hm h ih =>
  rename_i i t t' c cs
  refine ⟨by simpa [tag, Kl] using ih.1, fun j c' hj => ?_⟩
  cases j with
  | zero =>
   simp at hj; subst hj
   refine ⟨hok, ?_⟩
   have : Kl (fun k => decide (k < i + 0)) (tag i (c :: cs)) t = t := by
    have gen : ∀ (l : List (Nat × Ct)) (t : St), (∀ p ∈ l, i ≤ p.1) → Kl (fun k => decide (k < i + 0)) l t = t := by
     intro l
     induction l with
     | nil => intro t _; rfl
     | cons p l ihl =>
      intro t hp
      obtain ⟨k, c2⟩ := p
      have := hp (k, c2) (by simp)
      simp only [Kl, Qht]
      rw [if_neg (by simp; omega)]
      exact ihl t (fun q hq => hp q (by simp [hq]))
    exact gen _ t (fun p hp => ((Dq _ _ _).1 hp).1)
   rw [this]; exact hm
  | succ j =>
   obtain ⟨h1, h2⟩ := ih.2 j c' (by simpa using hj)
   have e : i + (j + 1) = i + 1 + j := by omega
   rw [e]
   refine ⟨h1, ?_⟩
   simp only [tag, Kl]
   rw [if_pos (by simp; omega)]
   exact h2
theorem Pw {ms : List Nat} {cs : List Ct} (h : Px ms cs = true) {i j : Nat} {a b : Ct} (hij : i < j) (ha : cs[i]? = some a) (hb : cs[j]? = some b) (hn : (ms.getD j 0).testBit i = false) : a.meets b = false := by
 have hj : j < cs.length := (List.getElem?_eq_some_iff.1 hb).1
 simp only [Px, Qgr, Qgo] at h
 have := h j hj i hij
 rw [hn, List.getD, List.getD, ha, hb] at this
 simpa using this
theorem Qe7 {a b : Ct} (h : a.meets b = false) : (∀ d, a.dst = some d → (∀ p ∈ b.need, p.1 ≠ d) ∧ b.dst ≠ some d) ∧ (∀ d, b.dst = some d → ∀ p ∈ a.need, p.1 ≠ d) ∧
  (∀ p ∈ a.upd, (∀ q ∈ b.objs, q.1 ≠ p.1) ∧ ∀ q ∈ b.upd, q.1 ≠ p.1) ∧ ∀ p ∈ b.upd, ∀ q ∈ a.objs, q.1 ≠ p.1 := by
 simp only [Ct.meets, Qi6] at h
 obtain ⟨⟨⟨h1, h2⟩, h3⟩, h4⟩ := h
 refine ⟨fun d hd => ?_, fun d hd => ?_, fun p hp => ?_, fun p hp q hq he => ?_⟩
 ·rw [hd] at h1
  simp only [Qi6] at h1
  refine ⟨fun p hp he => ?_, fun he => ?_⟩
  ·have := List.any_eq_false.1 h1.1 p hp; simp [he] at this
  ·have := h1.2; simp [he] at this
 ·rw [hd] at h2
  intro p hp he
  have := List.any_eq_false.1 h2 p hp; simp [he] at this
 ·have h3 := List.any_eq_false.1 h3 p hp
  simp only [Qio, not_or] at h3
  refine ⟨fun q hq he => h3.1 (Qhk.2 ⟨q, hq, by simp [he]⟩), fun q hq he => h3.2 (Qhk.2 ⟨q, hq, by simp [he]⟩)⟩
 ·have h4 := List.any_eq_false.1 h4 p hp
  exact h4 (Qhk.2 ⟨q, hq, by simp [he]⟩)
theorem runC_succ (cs : List Ct) : ∀ (i k : Nat) (t : St) (c : Ct), cs[k]? = some c → Kl (fun j => decide (j < i + k + 1)) (tag i cs) t = c.go (Kl (fun j => decide (j < i + k)) (tag i cs) t) := by
 induction cs with
 | nil => intro i k t c h; simp at h
 | cons c0 cs ih =>
  intro i k t c h
  have gen : ∀ (b : Nat) (l : List (Nat × Ct)) (t : St), (∀ p ∈ l, b ≤ p.1) → Kl (fun j => decide (j < b)) l t = t := by
   intro b l
   induction l with
   | nil => intro t _; rfl
   | cons p l ihl =>
    intro t hp
    obtain ⟨q, c2⟩ := p
    have := hp (q, c2) (by simp)
    simp only [Kl]
    rw [if_neg (by simp; omega)]
    exact ihl t (fun q hq => hp q (by simp [hq]))
  cases k with
  | zero =>
   simp at h; subst h
   simp only [tag, Kl, Qht]
   rw [if_pos (by simp), if_neg (by simp)]
   rw [gen (i + 1) _ _ (fun p hp => ((Dq _ _ _).1 hp).1), gen i _ _ (fun p hp => by have := ((Dq _ _ _).1 hp).1; omega)]
  | succ k =>
   simp only [tag, Kl]
   rw [if_pos (Qf0 (by omega)), if_pos (Qf0 (by omega))]
   have := ih (i + 1) k (c0.go t) c (by simpa using h)
   have e1 : i + 1 + k + 1 = i + (k + 1) + 1 := by omega
   have e2 : i + 1 + k = i + (k + 1) := by omega
   rw [e1, e2] at this
   exact this
theorem Cf {listed : Array Bool} {i : Nat} (h : i < listed.size) : (listed.setIfInBounds i true).getD i false = true := by simp [Array.getD_eq_getD_getElem?, h]
theorem count_set {n i : Nat} {S S' : Nat → Bool} (hi : i < n) (h0 : S i = true) (h1 : S' i = false) (h : ∀ k, k ≠ i → S' k = S k) : (List.range n).countP S = (List.range n).countP S' + 1 := by
 induction n with
 | zero => omega
 | succ n ih =>
  rw [List.range_succ, List.countP_append, List.countP_append]
  by_cases hin : i = n
  ·subst hin
   have : (List.range i).countP S = (List.range i).countP S' := List.countP_congr (fun x hx => by rw [h x (by have := Qgo.1 hx; omega)])
   simp [this, h0, h1]
  ·have := ih (by omega)
   have hn : S' n = S n := h n (fun e => hin e.symm)
   simp [this, hn]
   omega
theorem T.draw {id : Nat} {s t s1 : St} {cs : List Ct} {ms : List Nat} {Q : Exit → St → Prop} (hmix : P.follows .mixedOrders = true) (hcs : Certs P N ops 0 s cs t) (hlen : cs.length = ops.size) (hed : Ta ops = true) (hm : Pq ops ms = true) (ha : Px ms cs = true)
  (hs : Sub t.slots s1.slots) (ht : t.tab = s1.tab) (hq : ∀ u, Zx u s1 → Q .normal u) : T P N (.region id ops true) s Q := by
 obtain ⟨hfin, hall⟩ := hcs.all
 have hord : ∀ j o, ops[j]? = some o → ∀ e ∈ o.after, Region.binds .any e = true → e.on < j := by
  intro j o ho e he hb
  simp only [Ta, Qgr, Qgo] at hed
  have := hed j (Array.getElem?_eq_some_iff.1 ho).1
  rw [ho] at this
  simp only [Qhs, Qhd, Qgr] at this
  have := this e (by simpa using he)
  rw [hb] at this
  simpa using this
 have hdrew : ∀ {F L : Reg} {a : Act} {w : World}, Rel w N F L s a → Rel w.drew N F L s a := fun {F L a w} hr => by
  have := hr.next (w' := w.drew) (o := none) (v := undef) (x := .any) (tab := s.tab) (Ext.drew L w) (fun d hd => by cases hd) (.any _) (hr.heap.step (Ext.drew [] w) (fun p _ l hm => by cases hm) (Ext.drew _ w)) hr.nodup (fun p hp => hr.lt p (Qfz.2 (.inl hp)))
  simpa [St.upd, St.putO, Act.put] using this
 intro F L a w hr
 refine wp_mono (wp_region_any (Q := fun e a' w' => ∃ L' s', Q e s' ∧ Rel w' N F L' s' a' ∧ Ext L w.drew L' w') hmix (TA.sound ops.size _ s ?_ F L a w.drew (hdrew hr))) (fun e a' w' ⟨L', s', q, r, x⟩ => ⟨L', s', q, r, (Ext.drew L w).trans x⟩)
 have least : ∀ (listed : Array Bool), listed.size = ops.size → Region.ready .any ops listed = [] → ∀ k, k < ops.size → listed.getD k false = true := by
  intro listed hsz hn k
  induction k using Nat.strongRecOn with
  | _ k ih =>
   intro hk
   cases hb : listed.getD k false with
   | true => rfl
   | false =>
    exfalso
    have hmem : k ∈ Region.ready .any ops listed := by
     rw [mem_ready]
     refine ⟨?_, ops[k], by simp [hk], fun e he hbi => ?_⟩
     ·have hk' : k < listed.size := by omega
      rw [Array.getD_eq_getD_getElem?, Array.getElem?_eq_getElem hk'] at hb ⊢
      simpa using hb
     ·have hlt := hord k ops[k] (by simp [hk]) e he hbi
      exact ih e.on hlt (by omega)
    rw [hn] at hmem
    cases hmem
 have finish : ∀ (listed : Array Bool) (u : St), u.like (Kl (fun k => listed.getD k false) (tag 0 cs) s) → (∀ k, k < ops.size → listed.getD k false = true) → Q .normal u := by
  intro listed u hu hl
  have hall' : Kl (fun k => listed.getD k false) (tag 0 cs) s = t := by
   rw [hfin]
   refine runC_congr _ _ _ _ (fun p hp => ?_)
   have := ((Dq cs 0 p).1 hp).2
   simp only [Qha] at this
   exact hl p.1 (by rw [← hlen]; exact (List.getElem?_eq_some_iff.1 this).1)
  rw [hall'] at hu
  refine hq u ?_
  have h1 : Zx u ⟨s1.slots, u.tab⟩ := Fu s1.slots (fun d v hv => by rw [hu.1 d]; exact hs d v hv)
  rw [hu.tab, ht] at h1
  exact h1
 have key : ∀ (fuel : Nat) (listed : Array Bool) (u : St), listed.size = ops.size → Closed ops listed → u.like (Kl (fun k => listed.getD k false) (tag 0 cs) s) → ((List.range ops.size).countP (fun k => !listed.getD k false) = fuel) → TA P N ops Q fuel listed u := by
  intro fuel
  induction fuel with
  | zero =>
   intro listed u hsz hc hu hn
   have hl : ∀ k, k < ops.size → listed.getD k false = true := by
    intro k hk
    have := List.countP_eq_zero.1 hn k (by simpa using hk)
    simpa using this
   refine ⟨?_, finish listed u hu hl⟩
   cases hr : Region.ready .any ops listed with
   | nil => rfl
   | cons j js =>
    have hj : j ∈ Region.ready .any ops listed := by rw [hr]; simp
    obtain ⟨h0, o, ho, _⟩ := mem_ready.1 hj
    have hjs := (Array.getElem?_eq_some_iff.1 ho).1
    have h1 := hl j hjs
    have hj' : j < listed.size := by omega
    rw [Array.getD_eq_getD_getElem?, Array.getElem?_eq_getElem hj'] at h0 h1
    simp at h0 h1
    rw [h0] at h1
    cases h1
  | succ fuel ih =>
   intro listed u hsz hc hu hn
   refine ⟨fun hr => finish listed u hu (least listed hsz hr), fun i hi => ?_⟩
   obtain ⟨h0, o, ho, hpre⟩ := mem_ready.1 hi
   have his := (Array.getElem?_eq_some_iff.1 ho).1
   have hi' : i < listed.size := by omega
   have hif : listed.getD i false = false := by
    rw [Array.getD_eq_getD_getElem?, Array.getElem?_eq_getElem hi'] at h0 ⊢
    simpa using h0
   have hci : cs[i]? = some cs[i] := by simp [hlen, his]
   obtain ⟨hok, hmet⟩ := hall i _ hci
   simp only [Qgq] at hok hmet
   generalize cs[i]'(by omega) = c at *
   have hpre' : ∀ o, ops[i]? = some o → ∀ e ∈ o.after, Region.binds .any e = true → listed.getD e.on false = true := fun o' ho' e he hb => by
    rw [ho] at ho'; cases ho'; exact hpre e he hb
   -- of those that meet it the ones ahead are listed, the ones behind are not
   have ahead : ∀ k ck, cs[k]? = some ck → k < i → listed.getD k false = false → ck.meets c = false := by
    intro k ck hk hki hkl
    refine Pw ha hki hk hci ?_
    cases hb : (ms.getD i 0).testBit k with
    | false => rfl
    | true => rw [Cw hm hc i hpre' k hki his hb] at hkl; cases hkl
   have behind : ∀ k ck, cs[k]? = some ck → i < k → listed.getD k false = true → c.meets ck = false := by
    intro k ck hk hik hkl
    refine Pw ha hik hci hk ?_
    cases hb : (ms.getD k 0).testBit i with
    | false => rfl
    | true =>
     have := Cw hm hc k (fun o' ho' e he hb => hc k o' ho' hkl e he hb) i hik (by rw [← hlen]; exact (List.getElem?_eq_some_iff.1 hk).1) hb
     rw [this] at hif; cases hif
   have agree : ∀ (p : Nat × Ct), p ∈ tag 0 cs → (∀ hk : p.1 ≠ i, (p.1 < i → p.2.meets c = true) ∧ (i < p.1 → c.meets p.2 = true)) → listed.getD p.1 false = decide (p.1 < i) := by
    intro p hp hmt
    have hk := ((Dq cs 0 p).1 hp).2
    simp only [Qha] at hk
    by_cases hpi : p.1 = i
    ·rw [hpi, hif]; simp
    ·obtain ⟨h1, h2⟩ := hmt hpi
     by_cases hlt : p.1 < i
     ·simp only [hlt, decide_true]
      cases hb : listed.getD p.1 false with
      | true => rfl
      | false => rw [ahead p.1 p.2 hk hlt hb] at h1; exact absurd (h1 hlt) (by simp)
     ·simp only [hlt, decide_false]
      cases hb : listed.getD p.1 false with
      | false => rfl
      | true => rw [behind p.1 p.2 hk (by omega) hb] at h2; exact absurd (h2 (by omega)) (by simp)
   have meets_of : ∀ {a b : Ct}, (∃ d, a.dst = some d ∧ ((∃ p ∈ b.need, p.1 = d) ∨ b.dst = some d)) ∨ (∃ d, b.dst = some d ∧ ∃ p ∈ a.need, p.1 = d) ∨ (∃ p ∈ a.upd, (∃ q ∈ b.objs, q.1 = p.1) ∨ ∃ q ∈ b.upd, q.1 = p.1) ∨ (∃ p ∈ b.upd, ∃ q ∈ a.objs, q.1 = p.1) → a.meets b = true := by
    intro a b h
    cases hb : a.meets b with
    | true => rfl
    | false =>
     exfalso
     obtain ⟨m1, m2, m3, m4⟩ := Qe7 hb
     rcases h with ⟨d, hd, ⟨p, hp, he⟩ | he⟩ | ⟨d, hd, p, hp, he⟩ | ⟨p, hp, ⟨q, hq, he⟩ | ⟨q, hq, he⟩⟩ | ⟨p, hp, q, hq, he⟩
     ·exact (m1 d hd).1 p hp he
     ·exact (m1 d hd).2 he
     ·exact m2 d hd p hp he
     ·exact (m3 p hp).1 q hq he
     ·exact (m3 p hp).2 q hq he
     ·exact m4 p hp q hq he
   have slotAt : ∀ d, (∃ p ∈ c.need, p.1 = d) ∨ c.dst = some d → (Kl (fun k => listed.getD k false) (tag 0 cs) s).slots.lookup d = (Kl (fun k => decide (k < i)) (tag 0 cs) s).slots.lookup d := by
    intro d hd
    refine B0 _ _ d _ _ _ rfl (fun p hp hpd => agree p hp (fun _ => ⟨fun _ => meets_of (.inl ⟨d, hpd, hd⟩), fun _ => ?_⟩))
    rcases hd with hd | hd
    ·exact meets_of (.inr (.inl ⟨d, hpd, hd⟩))
    ·exact meets_of (.inl ⟨d, hd, .inr hpd⟩)
   have tabAt : ∀ q : Nat, (∃ p ∈ c.objs, p.1 = q) ∨ (∃ p ∈ c.upd, p.1 = q) → (Kl (fun k => listed.getD k false) (tag 0 cs) s).tab[q]? = (Kl (fun k => decide (k < i)) (tag 0 cs) s).tab[q]? := by
    intro q hd
    refine Tm _ _ q _ _ _ rfl (fun p hp hpd => agree p hp (fun _ => ?_))
    obtain ⟨x, hx, hxq⟩ := hpd
    rcases hd with ⟨y, hy, hyq⟩ | ⟨y, hy, hyq⟩
    ·exact ⟨fun _ => meets_of (.inr (.inr (.inl ⟨x, hx, .inl ⟨y, hy, by omega⟩⟩))), fun _ => meets_of (.inr (.inr (.inr ⟨x, hx, y, hy, by omega⟩)))⟩
    ·exact ⟨fun _ => meets_of (.inr (.inr (.inl ⟨x, hx, .inr ⟨y, hy, by omega⟩⟩))), fun _ => meets_of (.inr (.inr (.inl ⟨y, hy, .inr ⟨x, hx, by omega⟩⟩)))⟩
   have hmetu : c.met u := by
    refine ⟨fun p hp => ?_, fun p hp => ?_⟩
    ·rw [hu.1, slotAt p.1 (.inl ⟨p, hp, rfl⟩)]
     exact hmet.slots p hp
    ·rw [hu.2, tabAt p.1 (.inl ⟨p, hp, rfl⟩)]
     exact hmet.objs p hp
   have hone := hok u hmetu
   intro F L a w hr
   refine Ti ?_ (fun _ _ _ h => h) (hone F L a w hr)
   rintro a' w' ⟨L', s', rfl, hr', hx⟩
   refine ⟨L', _, ?_, hr', hx⟩
   have hother : ∀ k, k ≠ i → (listed.setIfInBounds i true).getD k false = listed.getD k false := fun k hk => _root_.Go.getD_set_ne false (fun h => hk h.symm)
   refine ih (listed.setIfInBounds i true) (c.go u) (by simpa using hsz) ?_ ?_ ?_
   ·intro j oj hoj hj e he hb
    by_cases hji : j = i
    ·subst hji
     exact getD_set_true (hpre' oj hoj e he hb)
    ·rw [hother j hji] at hj
     exact getD_set_true (hc j oj hoj hj e he hb)
   ·have hS : ∀ (p : Nat × Ct), p ∈ tag 0 cs → (∀ hk : p.1 ≠ i, (p.1 < i → p.2.meets c = true) ∧ (i < p.1 → c.meets p.2 = true)) → (listed.setIfInBounds i true).getD p.1 false = decide (p.1 < 0 + i + 1) := by
     intro p hp hmt
     by_cases hpi : p.1 = i
     ·rw [hpi, Cf hi', Qf0 (show i < 0 + i + 1 by omega)]
     ·rw [hother p.1 hpi, agree p hp hmt]
      by_cases h : p.1 < i
      ·rw [Qf0 h, Qf0 (show p.1 < 0 + i + 1 by omega)]
      ·rw [Qfv h, Qfv (show ¬ p.1 < 0 + i + 1 by omega)]
    have hsucc := runC_succ cs 0 i s c hci
    simp only [Qgq] at hsucc hS
    refine ⟨fun d => ?_, fun q => ?_⟩
    ·rw [Fo]
     by_cases hd : c.dst = some d
     ·rw [if_pos hd]
      have e1 : (Kl (fun k => (listed.setIfInBounds i true).getD k false) (tag 0 cs) s).slots.lookup d = (Kl (fun k => decide (k < i + 1)) (tag 0 cs) s).slots.lookup d :=
       B0 _ _ d _ _ _ rfl (fun p hp hpd => hS p hp (fun _ => ⟨fun _ => meets_of (.inl ⟨d, hpd, .inr hd⟩), fun _ => meets_of (.inl ⟨d, hd, .inr hpd⟩)⟩))
      rw [e1, hsucc, Fo, if_pos hd]
     ·rw [if_neg hd, hu.1]
      refine (B0 _ _ d _ _ _ rfl (fun p hp hpd => ?_))
      have hpi : p.1 ≠ i := fun h => by
       have hk := ((Dq cs 0 p).1 hp).2
       simp only [Qha, h] at hk
       rw [hci] at hk
       cases hk
       exact hd hpd
      rw [hother p.1 hpi]
    ·by_cases hq' : ∃ p ∈ c.upd, p.1 = q
     ·have e1 : (Kl (fun k => (listed.setIfInBounds i true).getD k false) (tag 0 cs) s).tab[q]? = (Kl (fun k => decide (k < i + 1)) (tag 0 cs) s).tab[q]? :=
       Tm _ _ q _ _ _ rfl (fun p hp hpd => hS p hp (fun _ => by
        obtain ⟨x, hx, hxq⟩ := hpd
        obtain ⟨y, hy, hyq⟩ := hq'
        exact ⟨fun _ => meets_of (.inr (.inr (.inl ⟨x, hx, .inr ⟨y, hy, by omega⟩⟩))), fun _ => meets_of (.inr (.inr (.inl ⟨y, hy, .inr ⟨x, hx, by omega⟩⟩)))⟩))
      rw [e1, hsucc]
      refine Fp _ _ _ _ ?_
      rw [hu.2, tabAt q (.inr hq')]
     ·have e2 : (c.go u).tab[q]? = u.tab[q]? := Ps _ _ _ (fun p hp he => hq' ⟨p, hp, he⟩)
      rw [e2, hu.2]
      refine (Tm _ _ q _ _ _ rfl (fun p hp hpd => ?_))
      have hpi : p.1 ≠ i := fun h => by
       have hk := ((Dq cs 0 p).1 hp).2
       simp only [Qha, h] at hk
       rw [hci] at hk
       cases hk
       exact hq' hpd
      rw [hother p.1 hpi]
   ·have := count_set (n := ops.size) (i := i) (S := fun k => !listed.getD k false) (S' := fun k => !(listed.setIfInBounds i true).getD k false) his (by simp only [hif]; rfl) (by simp only [Cf hi']; rfl) (fun k hk => by simp only [hother k hk])
    omega
 have hrep : ∀ k, (Array.replicate ops.size false).getD k false = false := fun k => by
  rw [Array.getD_eq_getD_getElem?, Array.getElem?_replicate]
  split <;> rfl
 refine key _ _ s (by simp) (fun j o _ hl => by rw [hrep j] at hl; cases hl) ?_ ?_
 ·have gen : ∀ (l : List (Nat × Ct)) (t : St), Kl (fun k => (Array.replicate ops.size false).getD k false) l t = t := by
   intro l
   induction l with
   | nil => intro t; rfl
   | cons p l ih =>
    intro t
    obtain ⟨k, c⟩ := p
    simp only [Kl]
    rw [if_neg (by rw [hrep k]; simp)]
    exact ih t
  rw [gen _ s]
  exact ⟨fun _ => rfl, fun _ => rfl⟩
 ·have : (List.range ops.size).countP (fun k => !(Array.replicate ops.size false).getD k false) = (List.range ops.size).length := List.countP_eq_length.2 (fun k _ => by simp only [hrep k]; rfl)
  rw [this, Qgi]
end
end Go.Rv
