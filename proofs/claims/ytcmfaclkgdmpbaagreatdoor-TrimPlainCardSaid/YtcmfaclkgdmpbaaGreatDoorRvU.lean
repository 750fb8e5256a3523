/- A LOGIC OF ABSTRACT STATES OVER THE MODEL, part U: fields of structs as values; is a slice nil?; pointers held against each other. -/
import Derived.Test.YtcmfaclkgdmpbaaGreatDoorRvT
import Derived.Laws.Cover3
import Derived.Laws.Pointers
namespace Go.Rv
section
variable {P : Program} {N : Nat} {s : St} {o : Oper} {K : St → Prop}
theorem Qb3 {w : World} {t e : TypeId} (ht : P.underlying t = some (.slice e)) (a : Option Addr) (n c : Nat) : (Op.equal t (.slice a n c) (.slice none 0 0)).run P w = .ok a.isNone w := run_equal_slice_nil w t e a n c ht
theorem Qfm {α : Type} {t t' e : TypeId} {x y : Operand} {full : Bool} {esz : Nat} {xs : List α} {f : α → List DC} (ho : o.op = .binOp .eql t x y t') (hN : ∀ d, o.dst = some d → d < N) (ht : P.underlying t = some (.slice e))
  (hx : s.ev x = some (.sl full esz (xs.map f))) (hy : s.ev y = some (.c (.ex (.slice none 0 0)))) (k : ∀ b : Bool, (b = true → xs = []) → K (s.putO o.dst (.bool b))) : OpT P N o s K := by
 intro F L a w hr
 have h := hr.ev hx
 generalize hq : a.eval x = q at h
 cases h with
 | c _ _ h =>
  obtain ⟨ad, b, off, cap, vs, rfl, ha, -, -, -, -, -, -⟩ := h.flat
  have hrun : (execOp a.eval o).run P w = .ok (.value (.bool ad.isNone)) w := by
   have hb : binOp .eql t (.slice ad (xs.map f).length cap) (.slice none 0 0) = (do pure (.bool (← Op.equal t (.slice ad (xs.map f).length cap) (.slice none 0 0)))) := rfl
   have hg : eqGuard .eql t x y (.slice ad (xs.map f).length cap) (.slice none 0 0) = pure () := rfl
   simp only [execOp, ho, hq, hr.exact hy, hg, hb, Sem.run_bind, Sem.run_pure, Result.andThen_ok, Qb3 ht]
  unfold Oper.wp
  rw [hrun, Oper.upon_value]
  refine ⟨L, _, k ad.isNone ?_, hr.put hN (.c _ _ (.ex _ rfl)), Ext.refl _ _⟩
  intro hn
  rcases ha with h | ⟨h, _⟩
  ·rw [h] at hn; cases hn
  ·simpa using h
end
end Go.Rv
