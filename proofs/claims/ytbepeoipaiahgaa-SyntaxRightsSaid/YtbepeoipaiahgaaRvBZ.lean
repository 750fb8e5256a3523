/- A LOGIC OF ABSTRACT STATES OVER THE MODEL, part BZ: slices cut with a bound of their room; a part of an owned array, lent to a call. -/
import Derived.Test.YtbepeoipaiahgaaRvBY
namespace Go.Rv
section
variable {P : Program} {N : Nat} {s : St} {o : Oper} {K : St → Prop}
theorem ObR.headX {w : World} {M : Reg} {v : Value} {e : TypeId} {esz lo : Nat} {elems : List (List DC)} {r : Reg} (h : ObR w M (.arrX v e esz lo elems) r) : ∃ a c, v = .slice a elems.length c ∧ elems.length ≤ c := by
  cases h with
  | arrX0 a => exact ⟨a, 0, rfl, Nat.le_refl _⟩
  | arrX g cap cur _ _ _ _ hg hlo hn hm hcs hz hnw hr => exact ⟨_, cap, rfl, hn⟩
/-- xs[l:] of an owned array: the place that it is cut at. -/
theorem OpT.sliceSub {α : Type} {t e e' : TypeId} {x low : Operand} {v : Value} {i esz lo l : Nat} {xs : List α} {f : α → List DC} {z : Value} {by_ : Nat} (ho : o.op = .slice t x (some low) none none) (hN : ∀ d, o.dst = some d → d < N) (ht : P.underlying t = some (.slice e))
    (hei : EInfo P e z esz by_) (hx : s.ev x = some (.c (.ex v))) (hi : s.tab[i]? = some (.arrX v e' esz lo (xs.map f))) (hl : Bd s (some low) 0 l) (h1 : l ≤ xs.length) (k : K (s.putO o.dst (.sub v esz l))) : OpT P N o s K :=
  OpT.still _ hN (fun F L a w hr => by
    obtain ⟨r1, r2, h1', h2, hp⟩ := hr.heap.get hi
    obtain ⟨ad, cap, rfl, hcap⟩ := h1'.headX
    have hlen : (xs.map f).length = xs.length := List.length_map _
    have hrun := run_bounds2 (P := P) (isS := true) (n := (xs.map f).length) (c := cap) hl (.none _) hr (by omega) hcap
    refine ⟨.slice (if cap = l then ad else ad.map (·.add (l * esz))) ((xs.map f).length - l) (cap - l), ?_, .sub _ _ _ _ ⟨ad, _, cap, rfl, by omega, rfl⟩⟩
    simp only [execOp, ho, hr.exact hx, Instr.sliceAt, Sem.run_bind, run_underlying ht, Result.andThen_ok, Instr.slice, Option.map_some, Option.map_none, hei.sizeOf]
    simp only [Option.map_some, Option.map_none] at hrun
    rw [hrun]
    rfl) k
theorem ArgsB.lentSub {α : Type} {s : St} {x : Operand} {l : List Operand} {avs : List AV} {v : Value} {e : TypeId} {esz lo k : Nat} {xs : List α} {f : α → List DC} (h : s.ev x = some (.sub v esz k)) (hk : ArgsB s (.arrX v e esz lo (xs.map f)) l avs) : ArgsB s (.arrX v e esz lo (xs.map f)) (x :: l) (.sl false esz ((xs.drop k).map f) :: avs) :=
  ArgsB.more (fun w _ F L a _ R hr ho hd _ => by
    have hv := hr.ev h
    generalize a.eval x = q at hv
    cases hv with
    | sub _ _ _ _ hsub =>
      have hrep := ho.peek hd fun b off hw => Wr.append.2 (.inr hw)
      obtain ⟨ad, n, cap, rfl, hkn, rfl⟩ := hsub
      obtain ⟨ad', b, off, cap', vs, hveq, ha, hc, hm, hf, hz, hre, hw⟩ := hrep.flat
      simp only [Value.slice.injEq] at hveq
      obtain ⟨rfl, rfl, rfl⟩ := hveq
      have := cut_rep (full' := false) ha hc hm hz hre hw k (xs.map f).length cap hkn (Nat.le_refl _) hc (Nat.le_refl _) (fun h => by cases h)
      refine .c _ _ ?_
      rw [List.take_length] at this
      simpa [List.map_drop] using this) hk
end
end Go.Rv
