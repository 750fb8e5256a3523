/- A LOGIC OF ABSTRACT STATES OVER THE MODEL, part Y: states told anew with what is not known ahead; elements of many cells, loaded. -/
import Derived.Test.YtjgldamcldbbfaaDoorRvX
namespace Go.Rv
theorem AtO.get {tab : List Ob} {is : List Nat} {os : List Ob} (h : AtO tab is os) : ∀ {k i : Nat} {o : Ob}, is[k]? = some i → os[k]? = some o → tab[i]? = some o := by
  induction h with
  | nil => intro k i o h; simp at h
  | cons h hn hk ih =>
    intro k i o hi ho
    cases k with
    | zero => simp at hi ho; subst hi; subst ho; exact h
    | succ k => exact ih (by simpa using hi) (by simpa using ho)
section
variable {P : Program} {N : Nat} {s : St} {s' : Value → St} {Q : Exit → St → Prop} {ops : Array Oper}
end
section
variable {P : Program} {N : Nat} {s : St} {o : Oper} {K : St → Prop}
end

/- Objects laid out: what a chain of changes has left, list by list. -/
inductive Nm {α : Type} : List α → List α → Prop
  | n : Nm [] []
  | c {a : α} {l l' : List α} (k : Nm l l') : Nm (a :: l) (a :: l')
theorem Nm.eq {α : Type} {l l' : List α} (h : Nm l l') : l = l' := by
  induction h with
  | n => rfl
  | c k ih => rw [ih]
inductive Tk : List Ob → Ob → List Ob → Prop
  | z {o : Ob} {l : List Ob} : Tk (o :: l) o l
  | s {a o : Ob} {l l' : List Ob} (k : Tk l o l') : Tk (a :: l) o (a :: l')
theorem Tk.perm {l l' : List Ob} {o : Ob} (h : Tk l o l') : l.Perm (o :: l') := by
  induction h with
  | z => exact .refl _
  | s k ih => exact (ih.cons _).trans (.swap _ _ _)
inductive Pk : List Ob → List Ob → Prop
  | n (t) : Pk t []
  | c {t u r : List Ob} {o : Ob} (h : Tk t o u) (k : Pk u r) : Pk t (o :: r)
theorem Pk.perm {t r : List Ob} (h : Pk t r) : ∃ u, t.Perm (r ++ u) := by
  induction h with
  | n t => exact ⟨t, .refl _⟩
  | c h k ih =>
    obtain ⟨u, hu⟩ := ih
    exact ⟨u, h.perm.trans (hu.cons _)⟩
theorem Turn.rp {s s' : St} (hs : Sub s.slots s'.slots) (hp : Pk s.tab s'.tab) : Turn s s' := by
  obtain ⟨u, hu⟩ := hp.perm
  have h1 : Turn s ⟨s.slots, s'.tab ++ u⟩ := Turn.perm hu
  have h2 : Turn ⟨s.slots, s'.tab ++ u⟩ ⟨s.slots, s'.tab⟩ := Turn.keepFirst rfl
  exact (h1.trans h2).trans (Turn.sub hs)
end Go.Rv
