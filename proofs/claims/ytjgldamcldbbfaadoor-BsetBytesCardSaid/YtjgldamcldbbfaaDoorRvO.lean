/- A LOGIC OF ABSTRACT STATES OVER THE MODEL, part O: entries of the model's own (searches in bytes). -/
import Derived.Test.YtjgldamcldbbfaaDoorRvM
import Derived.Lib.BytesEntry
namespace Go.Rv
section
variable {P : Program} {N : Nat} {s : St} {o : Oper} {K : St → Prop}
/-- Where bytes lie that may not be written. -/
theorem Rel.bytes {w : World} {F L : Reg} {a : Act} {x : Operand} {full : Bool} {xs : List Int} (hr : Rel w N F L s a) (hx : s.ev x = some (.sl full 1 (xs.map (cI .u8)))) :
    ∃ ad cap, a.eval x = .slice ad xs.length cap ∧ (ad = none → xs = []) ∧ ∀ d, ad = some d → ∀ i, i < xs.length → w.cell? (d.add i) = some (.int .u8 (xs.getD i 0)) := by
  have hv := hr.ev hx
  generalize hq : a.eval x = q at hv
  cases hv with
  | c _ _ hv =>
    obtain ⟨ad, b, off, cap, vs, rfl, ha, hc, hm, hf, hz, hre, hw⟩ := hv.flat
    have hfl : (xs.map (cI .u8)).flatten = (xs.map (Value.int .u8)).map DC.ex := by
      clear hre hw hz hc hf ha hv hx hq
      induction xs with
      | nil => rfl
      | cons y ys ih => simp only [List.map_cons, List.flatten_cons, ih]; rfl
    have hvs : vs = xs.map (Value.int .u8) := by
      have := (RepL.ints (vs := vs.toArray) (l := (xs.map (cI .u8)).flatten) (by simpa using hre) _ hfl)
      simpa using this
    subst hvs
    refine ⟨ad, cap, by rw [List.length_map], fun h => ?_, fun d hd i hi => ?_⟩
    · rcases ha with h' | ⟨h', _⟩
      · rw [h] at h'; cases h'
      · simpa using h'
    · rcases ha with h' | ⟨h', _⟩
      · rw [hd] at h'
        cases h'
        rw [addr_add]
        refine (hw i _ ?_).1
        rw [List.getElem?_map, List.getElem?_eq_getElem hi, List.getD_eq_getElem?_getD, List.getElem?_eq_getElem hi]
        rfl
      · have : xs = [] := by simpa using h'
        subst this
        simp at hi
end
end Go.Rv
