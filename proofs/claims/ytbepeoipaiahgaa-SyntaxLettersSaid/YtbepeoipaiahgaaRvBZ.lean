/- A LOGIC OF ABSTRACT STATES OVER THE MODEL, part BZ: slices cut with a bound of their room; a part of an owned array, lent to a call. -/
import Derived.Test.YtbepeoipaiahgaaRvBY
namespace Go.Rv
section
variable {P : Program} {N : Nat} {s : St} {o : Oper} {K : St → Prop}
theorem run_bounds3 {high max : Operand} {n h : Nat} {w : World} {F L : Reg} {a : Act} {c : Nat} (hh : Bd s (some high) n h) (hm : Bd s (some max) n h) (hr : Rel w N F L s a) (h2 : h ≤ c) :
    (Instr.sliceBounds true n c none (some (a.eval high)) (some (a.eval max))).run P w = .ok (0, h, h) w := by
  unfold Instr.sliceBounds
  rcases hm.run (P := P) (code := .slice3Acap) hr h2 with ⟨e1, e2⟩ | ⟨v, e1, e2⟩
  · cases e1
  · rcases hh.run (P := P) (code := .slice3B) hr (Nat.le_refl h) with ⟨e3, e4⟩ | ⟨v', e3, e4⟩
    · cases e3
    · simp only [Option.map_some, Option.some.injEq] at e1 e3
      subst e1; subst e3
      simp [e2, e4]
/-- xs[:h:h]: a slice without room behind its elements. -/
theorem OpT.slice3M {α : Type} {t e : TypeId} {x high max : Operand} {full : Bool} {esz : Nat} {xs : List α} {f : α → List DC} {z : Value} {by_ h : Nat} (ho : o.op = .slice t x none (some high) (some max)) (hN : ∀ d, o.dst = some d → d < N) (ht : P.underlying t = some (.slice e))
    (hei : EInfo P e z esz by_) (hx : s.ev x = some (.sl full esz (xs.map f))) (hh : Bd s (some high) xs.length h) (hmx : Bd s (some max) xs.length h) (h2 : h ≤ xs.length) (k : K (s.putO o.dst (.sl true esz ((xs.take h).map f)))) : OpT P N o s K :=
  OpT.still _ hN (fun F L a w hr => by
    have hv := hr.ev hx
    generalize hq : a.eval x = q at hv
    cases hv with
    | c _ _ hv =>
      obtain ⟨ad, b, off, cap, vs, rfl, ha, hc, hm, hf, hz, hre, hw⟩ := hv.flat
      have hlen : (xs.map f).length = xs.length := List.length_map _
      have hrun := run_bounds3 (P := P) (n := (xs.map f).length) (c := cap) (by rw [hlen]; exact hh) (by rw [hlen]; exact hmx) hr (by omega)
      refine ⟨.slice (if h = 0 then ad else ad.map (·.add (0 * esz))) (h - 0) (h - 0), ?_, .c _ _ ?_⟩
      · simp only [execOp, ho, hq, Instr.sliceAt, Sem.run_bind, run_underlying ht, Result.andThen_ok, Instr.slice, Option.map_some, Option.map_none, hrun, hei.sizeOf]
        rfl
      · have := cut_rep (full' := true) ha hc hm hz hre hw 0 h h (Nat.zero_le _) (by omega) (Nat.le_refl _) (by omega) (fun _ => rfl)
        simpa [List.map_take, List.map_drop] using this) k
end
end Go.Rv
