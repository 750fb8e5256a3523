/- A LOGIC OF ABSTRACT STATES OVER THE MODEL, part H: the same rules in the forms in which a program types them. -/
import Derived.Test.YtcmfaclkgdmpbaaGreatDoorRvF
namespace Go.Rv
def TL' (P : Program) (N : Nat) (ops : Array Oper) (l : List Oper) (s : St) (Q : Exit → St → Prop) : Prop :=
 ∀ (js : List Nat), js.map (ops[·]?) = l.map some → TO P N ops js s Q
section
variable {P : Program} {N : Nat} {s s' : St} {Q : Exit → St → Prop} {ops : Array Oper}
theorem Qr {id : Nat} (h : TL' P N ops ops.toList s Q) : T P N (.region id ops false) s Q := by
 refine T.region (h _ ?_)
 apply List.ext_getElem?
 intro i
 by_cases hi : i < ops.size
 ·simp [hi]
 ·simp [hi]
theorem TL'.nil (h : Q .normal s) : TL' P N ops [] s Q := by
 intro js hj
 cases js with
 | nil => exact TO.nil h
 | cons j js => simp at hj
theorem TL'.step {o : Oper} {l : List Oper} (hw : Rf ops s o true) (h : OpT P N o s (fun s' => TL' P N ops l s' Q)) : TL' P N ops (o :: l) s Q := by
 intro js hj
 cases js with
 | nil => simp at hj
 | cons j js =>
  simp only [Qmv, Qn6] at hj
  refine TO.step hj.1 hw ?_
  intro F L a w hr
  exact F9 (h F L a w hr) (fun a' w' ⟨L', s', k, r, x⟩ => ⟨L', s', k js hj.2, r, x⟩) (fun _ _ _ h => h)
theorem Uh {l : List Oper} (hs : Zr s s') (h : TL' P N ops l s' Q) : TL' P N ops l s Q := fun js hj => TO.by_turn hs (h js hj)
theorem dlt {o : Oper} {d N : Nat} (h : o.dst = some d) (hd : d < N) : ∀ d', o.dst = some d' → d' < N := fun d' h' => by
 rw [h] at h'
 cases h'
 exact hd
/- Where a piece of code has ended, what is next. -/
theorem tN {next : St → Prop} (h : next s) : thenS next Q .normal s := h
theorem Qj {next : St → Prop} {id : Nat} (h : Q (.exit id) s) : thenS next Q (.exit id) s := h
theorem Qs {next : St → Prop} (h : Q .ret s) : thenS next Q .ret s := h
theorem Qk {id : Nat} (h : Q .normal s) : Qv id Q .normal s := h
theorem Qy {id : Nat} (h : Q .ret s) : Qv id Q .ret s := h
theorem Qq {id : Nat} (h : Q .normal s) : Qv id Q (.exit id) s := by simp only [Qv, if_true]; exact h
end
def Sub (sl sl' : List (Nat × AV)) : Prop := ∀ t v, sl'.lookup t = some v → sl.lookup t = some v
theorem Sub.nil (sl : List (Nat × AV)) : Sub sl [] := fun t v h => by simp at h
theorem Sub.cons {sl sl' : List (Nat × AV)} {t : Nat} {v : AV} (h : sl.lookup t = some v) (k : Sub sl sl') : Sub sl ((t, v) :: sl') := fun u x hu => by
 simp only [Qnr] at hu
 split at hu
 ·rename_i he; simp at he hu; subst he; subst hu; exact h
 ·exact k u x hu
theorem Zr.sub {s : St} {sl' : List (Nat × AV)} (h : Sub s.slots sl') : Zr s ⟨sl', s.tab⟩ := Rg sl' h
end Go.Rv
