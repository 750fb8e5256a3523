/- A LOGIC OF ABSTRACT STATES OVER THE MODEL, part Q: structs of numbers compared; new memory at a place of the table that was kept for it; bytes of a literal that are converted. -/
import Derived.Test.YtbepeoipaiahgaaRvO
import Derived.Laws.StructEq
namespace Go.Rv

section
variable {P : Program} {N : Nat} {s : St} {o : Oper} {K : St → Prop}
/-- What an operation leaves, told anew. -/
theorem OpT.after {K' : St → Prop} (h : OpT P N o s K') (hk : ∀ t, K' t → ∃ t', Turn t t' ∧ K t') : OpT P N o s K := by
  intro F L a w hr
  refine upon_mono (h F L a w hr) ?_ (fun _ _ _ h => h)
  rintro a' w' ⟨L', s', k, hr', hx⟩
  obtain ⟨t', ht, kt⟩ := hk s' k
  obtain ⟨L2, h2, h3⟩ := ht N F L' a' w' hr'
  exact ⟨L2, t', kt, h2, hx.trans h3⟩
theorem Turn.keepPlace {s : St} : Turn s ⟨s.slots, .ro 0 [] :: s.tab⟩ := fun N F L a w hr =>
  ⟨L, ⟨hr.defers, hr.size, hr.slot, by have := HeapR.cons _ _ _ _ (ObR.ro (w := w) (M := L ++ F) 0 [] [] .nil (fun i v hv => by simp at hv)) hr.heap; simpa using this, hr.nodup, hr.lt⟩, Ext.refl _ _⟩
end
end Go.Rv
