/- A LOGIC OF ABSTRACT STATES OVER THE MODEL, part Y: states told anew with what is not known ahead; elements of many cells, loaded. -/
import Derived.Test.YtocjhbbldeankaaDoorRvX
namespace Go.Rv
theorem AtO.get {tab : List Ob} {is : List Nat} {os : List Ob} (h : AtO tab is os) : ∀ {k i : Nat} {o : Ob}, is[k]? = some i → os[k]? = some o → tab[i]? = some o := by
 induction h with
 | nil => intro k i o h; simp at h
 | cons h hn hk ih =>
  intro k i o hi ho
  cases k with
  | zero => simp at hi ho; subst hi; subst ho; exact h
  | succ k => exact ih (by simpa using hi) (by simpa using ho)
theorem Turn.viewP {sl : List (Nat × AV)} {tab : List Ob} (d i : Nat) {v : Value} {e : TypeId} {esz : Nat} {elems : List (List DC)} (hi : tab[i]? = some (.arrA v e esz elems)) : Turn ⟨(d, .c (.ex v)) :: sl, tab⟩ ⟨(d, .sl false esz elems) :: sl, tab⟩ :=
 (Turn.view (s := ⟨(d, .c (.ex v)) :: sl, tab⟩) d i (by simp) hi).trans (Turn.forget (s := ⟨(d, .sl false esz elems) :: (d, .c (.ex v)) :: sl, tab⟩) _ (fun t u h => by
  simp only [List.lookup_cons] at h ⊢
  cases he : (t == d) with
  | true => rw [he] at h; exact h
  | false => rw [he] at h; exact h))
theorem Turn.weakSlotP {sl : List (Nat × AV)} {tab : List Ob} (d : Nat) {l l' : List DC} (hw : WeakL tab l l') : Turn ⟨(d, .agg l) :: sl, tab⟩ ⟨(d, .agg l') :: sl, tab⟩ :=
 (Turn.weakSlot (s := ⟨(d, .agg l) :: sl, tab⟩) d (by simp) hw).trans (Turn.forget (s := ⟨(d, .agg l') :: (d, .agg l) :: sl, tab⟩) _ (fun t u h => by
  simp only [List.lookup_cons] at h ⊢
  cases he : (t == d) with
  | true => rw [he] at h; exact h
  | false => rw [he] at h; exact h))
def TurnG (s : St) (s' : Value → St) : Prop := ∀ (N : Nat) (F L : Reg) (a : Act) (w : World), Rel w N F L s a → ∃ v L', Rel w N F L' (s' v) a ∧ Ext L w L' w
section
variable {P : Program} {N : Nat} {s : St} {s' : Value → St} {Q : Exit → St → Prop} {ops : Array Oper}
theorem T.by_turnG {c : Code} (hs : TurnG s s') (h : ∀ v, T P N c (s' v) Q) : T P N c s Q := fun F L a w hr => by
 obtain ⟨v, L', h1, x1⟩ := hs N F L a w hr
 exact wp_mono (h v F L' a w h1) fun _ _ _ ⟨L2, s2, q2, r2, x2⟩ => ⟨L2, s2, q2, r2, x1.trans x2⟩
theorem TL.by_turnG {c : Code} (hs : TurnG s s') (h : ∀ v, TL P N c (s' v) Q) : TL P N c s Q := fun F L a w hr b k cs => by
 obtain ⟨v, L', h1, x1⟩ := hs N F L a w hr
 obtain ⟨e, a', w', ⟨L2, s2, q2, r2, x2⟩, h3⟩ := h v F L' a w h1 b k cs
 exact ⟨e, a', w', ⟨L2, s2, q2, r2, x1.trans x2⟩, h3⟩
theorem TurnG.ownFull (d : Nat) (e : TypeId) {esz : Nat} {elems : List (List DC)} (hd : s.slots.lookup d = some (.sl true esz elems)) : TurnG s (fun v => ⟨(d, .c (.ex v)) :: s.slots, .arrA v e esz elems :: s.tab⟩) := fun N F L a w hr => by
 have h := hr.avr hd
 refine ⟨a.tmps.getD d undef, L, ⟨hr.defers, hr.size, fun t v hv => ?_, ?_, hr.nodup, hr.lt⟩, Ext.refl _ _⟩
 ·simp only [List.lookup_cons] at hv
  split at hv
  ·rename_i he
   simp at he hv
   subst he; subst hv
   have hone : (a.tmps.getD t undef).oneCell' = true := by
    generalize a.tmps.getD t undef = q at h
    cases h with
    | c _ _ h => exact h.one
   rw [Array.getD_eq_getD_getElem?] at hone ⊢
   exact .c _ _ (.ex _ hone)
  ·exact hr.slot t v hv
 ·generalize a.tmps.getD d undef = q at h ⊢
  cases h with
  | c _ _ h =>
   have := HeapR.cons _ _ _ _ (ObR.arrA _ e _ _ _ (OwnR.full _ e _ _ h)) hr.heap
   simpa using this
end
section
variable {P : Program} {N : Nat} {s : St} {o : Oper} {K : St → Prop}
end
/- Objects laid out: what a chain of changes has left, list by list. -/
inductive Nm {α : Type} : List α → List α → Prop
 | n : Nm [] []
 | c {a : α} {l l' : List α} (k : Nm l l') : Nm (a :: l) (a :: l')
theorem Nm.eq {α : Type} {l l' : List α} (h : Nm l l') : l = l' := by
 induction h with
 | n => rfl
 | c k ih => rw [ih]
theorem nm {P : Program} {N : Nat} {s : St} {Q : Exit → St → Prop} {ops : Array Oper} {l : List Oper} {t : List Ob} (ht : Nm s.tab t) (h : TL' P N ops l ⟨s.slots, t⟩ Q) : TL' P N ops l s Q := by
 have e : s = ⟨s.slots, t⟩ := by rw [← ht.eq]
 rw [e]
 exact h
inductive Tk : List Ob → Ob → List Ob → Prop
 | z {o : Ob} {l : List Ob} : Tk (o :: l) o l
 | s {a o : Ob} {l l' : List Ob} (k : Tk l o l') : Tk (a :: l) o (a :: l')
theorem Tk.perm {l l' : List Ob} {o : Ob} (h : Tk l o l') : l.Perm (o :: l') := by
 induction h with
 | z => exact .refl _
 | s k ih => exact (ih.cons _).trans (.swap _ _ _)
inductive Pk : List Ob → List Ob → Prop
 | n (t) : Pk t []
 | c {t u r : List Ob} {o : Ob} (h : Tk t o u) (k : Pk u r) : Pk t (o :: r)
theorem Pk.perm {t r : List Ob} (h : Pk t r) : ∃ u, t.Perm (r ++ u) := by
 induction h with
 | n t => exact ⟨t, .refl _⟩
 | c h k ih =>
  obtain ⟨u, hu⟩ := ih
  exact ⟨u, h.perm.trans (hu.cons _)⟩
theorem Turn.rp {s s' : St} (hs : Sub s.slots s'.slots) (hp : Pk s.tab s'.tab) : Turn s s' := by
 obtain ⟨u, hu⟩ := hp.perm
 have h1 : Turn s ⟨s.slots, s'.tab ++ u⟩ := Turn.perm hu
 have h2 : Turn ⟨s.slots, s'.tab ++ u⟩ ⟨s.slots, s'.tab⟩ := Turn.keepFirst rfl
 exact (h1.trans h2).trans (Turn.sub hs)
end Go.Rv
