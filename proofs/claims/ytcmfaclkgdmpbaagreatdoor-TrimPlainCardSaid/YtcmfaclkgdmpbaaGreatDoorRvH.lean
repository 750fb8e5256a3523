/- A LOGIC OF ABSTRACT STATES OVER THE MODEL, part H: the same rules in the forms in which a program types them. -/
import Derived.Test.YtcmfaclkgdmpbaaGreatDoorRvF
namespace Go.Rv
def TL' (P : Program) (N : Nat) (ops : Array Oper) (l : List Oper) (s : St) (Q : Exit → St → Prop) : Prop :=
 ∀ (js : List Nat), js.map (ops[·]?) = l.map some → TO P N ops js s Q
section
variable {P : Program} {N : Nat} {s s' : St} {Q : Exit → St → Prop} {ops : Array Oper}
theorem Qq {id : Nat} (h : TL' P N ops ops.toList s Q) : T P N (.region id ops false) s Q := by
 refine T.region (h _ ?_)
 apply List.ext_getElem?
 intro i
 by_cases hi : i < ops.size
 ·simp [hi]
 ·simp [hi]
theorem TL'.nil (h : Q .normal s) : TL' P N ops [] s Q := by
 intro js hj
 cases js with
 | nil => exact TO.nil h
 | cons j js => simp at hj
theorem TL'.step {o : Oper} {l : List Oper} (hw : Ft ops s o true) (h : OpT P N o s (fun s' => TL' P N ops l s' Q)) : TL' P N ops (o :: l) s Q := by
 intro js hj
 cases js with
 | nil => simp at hj
 | cons j js =>
  simp only [Qge, Qim] at hj
  refine TO.step hj.1 hw ?_
  intro F L a w hr
  exact Ch (h F L a w hr) (fun a' w' ⟨L', s', k, r, x⟩ => ⟨L', s', k js hj.2, r, x⟩) (fun _ _ _ h => h)
theorem J8 {l : List Oper} (hs : Zx s s') (h : TL' P N ops l s' Q) : TL' P N ops l s Q := fun js hj => TO.by_turn hs (h js hj)
theorem dlt {o : Oper} {d N : Nat} (h : o.dst = some d) (hd : d < N) : ∀ d', o.dst = some d' → d' < N := fun d' h' => by
 rw [h] at h'
 cases h'
 exact hd
theorem tN {next : St → Prop} (h : next s) : thenS next Q .normal s := h
theorem Qk {next : St → Prop} {id : Nat} (h : Q (.exit id) s) : thenS next Q (.exit id) s := h
theorem Qy {next : St → Prop} (h : Q .ret s) : thenS next Q .ret s := h
theorem Qj {id : Nat} (h : Q .normal s) : Qz id Q .normal s := h
theorem Q7 {id : Nat} (h : Q .ret s) : Qz id Q .ret s := h
theorem Qu {id : Nat} (h : Q .normal s) : Qz id Q (.exit id) s := by simp only [Qz, if_true]; exact h
end
def Sub (sl sl' : List (Nat × AV)) : Prop := ∀ t v, sl'.lookup t = some v → sl.lookup t = some v
theorem Sub.nil (sl : List (Nat × AV)) : Sub sl [] := fun t v h => by simp at h
theorem Sub.cons {sl sl' : List (Nat × AV)} {t : Nat} {v : AV} (h : sl.lookup t = some v) (k : Sub sl sl') : Sub sl ((t, v) :: sl') := fun u x hu => by
 simp only [Qhb] at hu
 split at hu
 ·rename_i he; simp at he hu; subst he; subst hu; exact h
 ·exact k u x hu
theorem Zx.sub {s : St} {sl' : List (Nat × AV)} (h : Sub s.slots sl') : Zx s ⟨sl', s.tab⟩ := Fu sl' h
end Go.Rv
