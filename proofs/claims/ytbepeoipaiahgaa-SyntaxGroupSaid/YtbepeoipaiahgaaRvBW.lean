/- A LOGIC OF ABSTRACT STATES OVER THE MODEL, part BW: owned memory that is lent to a call; an array that was appended to, whose old header is still wanted. -/
import Derived.Test.YtbepeoipaiahgaaRvP
namespace Go.Rv
/-- The arguments of a call to which an owned object is lent. -/
def ArgsB (s : St) (ob : Ob) (xs : List Operand) (avs : List AV) : Prop := ∀ (w : World) (N : Nat) (F L : Reg) (a : Act) (r R : Reg), Rel w N F L s a → ObR w (r ++ R) ob r → (∀ p ∈ r, ∀ lim, (p.1, lim) ∉ R) → (∀ b off, Wr R b off → Wr (L ++ F) b off) →
  (xs.map a.eval).length = avs.length ∧ ∀ (i : Nat) (v : Value) (x : AV), (xs.map a.eval)[i]? = some v → avs[i]? = some x → AvR w R v x
theorem ArgsB.nil {s : St} {ob : Ob} : ArgsB s ob [] [] := fun w N F L a r R _ _ _ _ => ⟨rfl, fun i v x h => by simp at h⟩
theorem ArgsB.more {s : St} {ob : Ob} {x : Operand} {l : List Operand} {y : AV} {ys : List AV} (h : ∀ (w : World) (N : Nat) (F L : Reg) (a : Act) (r R : Reg), Rel w N F L s a → ObR w (r ++ R) ob r → (∀ p ∈ r, ∀ lim, (p.1, lim) ∉ R) → (∀ b off, Wr R b off → Wr (L ++ F) b off) → AvR w R (a.eval x) y) (k : ArgsB s ob l ys) : ArgsB s ob (x :: l) (y :: ys) := fun w N F L a r R hr ho hd hs => by
  obtain ⟨h1, h2⟩ := k w N F L a r R hr ho hd hs
  refine ⟨by simp at h1 ⊢; exact h1, fun i v z hv hz => ?_⟩
  cases i with
  | zero => simp at hv hz; subst hv; subst hz; exact h w N F L a r R hr ho hd hs
  | succ i => exact h2 i v z (by simpa using hv) (by simpa using hz)
theorem ArgsB.cons {s : St} {ob : Ob} {x : Operand} {l : List Operand} {y : AV} {ys : List AV} (h : s.ev x = some y) (k : ArgsB s ob l ys) : ArgsB s ob (x :: l) (y :: ys) :=
  ArgsB.more (fun _ _ _ _ _ _ _ hr _ _ hs => (hr.ev h).less hs) k
/-- A result that leads nowhere. -/
inductive Plain : AV → Prop
  | ex (v : Value) : Plain (.c (.ex v))
  | agg (l : List Value) {l' : List DC} (h : l' = l.map DC.ex) : Plain (.agg l')
section
variable {P : Program} {N : Nat} {s : St} {o : Oper} {K : St → Prop}
end
section
variable {P : Program} {N : Nat} {s : St} {o : Oper} {K : St → Prop}
theorem OpT.pre {s' : St} (h : Turn s s') (k : OpT P N o s' K) : OpT P N o s K := by
  intro F L a w hr
  obtain ⟨L', h1, h2⟩ := h N F L a w hr
  refine upon_mono (k F L' a w h1) ?_ (fun _ _ _ h => h)
  rintro a' w' ⟨L2, t, kt, hr', hx⟩
  exact ⟨L2, t, kt, hr', h2.trans hx⟩
end
end Go.Rv
