/- The rows of a chapter over the plain laws: from what a law's plain text answers to the given statement. -/
import Derived.Test.YtnedpcjnhkmikaaRows
import Derived.Test.YtnedpcjnhkmikaaRgL6
import Derived.Test.YtnedpcjnhkmikaaRvN
namespace Go.Rv
open Go.Proofs Go.Proofs.Ytnedpcjnhkmikaa Go.ChangeShapes Go.WideShapes Go.RowKit
set_option maxRecDepth 100000
set_option linter.unusedVariables false

theorem seatOwn : ownKnob Try.prog.godebug = none := by kernel_rfl
theorem seatLaidOut : laidOutB Try.prog = true := by kernel_rfl
theorem c5 : Try.prog.cellsOf 5 = 1 := by kernel_rfl
theorem c3 : Try.prog.cellsOf 3 = 1 := by kernel_rfl
theorem c23 : Try.prog.cellsOf 23 = 2 := by kernel_rfl
theorem c24 : Try.prog.cellsOf 24 = 1 := by kernel_rfl
abbrev okB (n : Int) : Prop := (Lit.int .u8 n).wf = true
abbrev okI (n : Int) : Prop := (Lit.int .i64 n).wf = true
abbrev okP (p : api_Place) : Prop := okI p.Line ∧ okI p.Col
abbrev okL (l : List Int) : Prop := l.length ≤ maxLen ∧ ∀ n ∈ l, okB n
abbrev okM (l : List (List Int)) : Prop := l.length ≤ maxLen ∧ ∀ x ∈ l, okL x
theorem rdB : Rd Try.prog 5 (cI .u8) okB := Rd.int Try.underlying5
theorem rdI : Rd Try.prog 3 (cI .i64) okI := Rd.int Try.underlying3
theorem rdL : Rd Try.prog 24 (cL 1 (cI .u8)) okL := Rd.slice Try.underlying24 c5 (by decide) rdB
theorem rdM : Rd Try.prog 36 (cL 1 (cL 1 (cI .u8))) okM := Rd.slice Try.underlying36 c24 (by decide) rdL
theorem rdP : Rd Try.prog 23 c_api_Place okP := by
  intro H enc w held fuel cs x h
  obtain ⟨xs, m, _, _, hl, hn, hel⟩ := DataW.trod_struct Try.underlying23 h
  rw [c23] at hl
  match cs, hl with
  | [c0, c1], _ =>
    obtain ⟨n0, h0, w0⟩ : ∃ n, [c0] = [Value.int .i64 n] ∧ okI n := by
      have : DataW.trod enc Try.prog w 0 (fun _ => true) held m 3 (([c0, c1].drop 0).take (Try.prog.cellsOf 3)) = xs[0]? := hel 0 _ rfl
      rw [c3] at this
      obtain ⟨y, hy⟩ : ∃ y, xs[0]? = some y := ⟨xs[0]'(by rw [hn]; decide), by simp [hn]⟩
      rw [hy] at this
      obtain ⟨n, h1, _, h3⟩ := DataW.trod_int Try.underlying3 this
      exact ⟨n, h1, h3⟩
    obtain ⟨n1, h1, w1⟩ : ∃ n, [c1] = [Value.int .i64 n] ∧ okI n := by
      have : DataW.trod enc Try.prog w 0 (fun _ => true) held m 3 (([c0, c1].drop 1).take (Try.prog.cellsOf 3)) = xs[1]? := hel 1 _ rfl
      rw [c3] at this
      obtain ⟨y, hy⟩ : ∃ y, xs[1]? = some y := ⟨xs[1]'(by rw [hn]; decide), by simp [hn]⟩
      rw [hy] at this
      obtain ⟨n, h1, _, h3⟩ := DataW.trod_int Try.underlying3 this
      exact ⟨n, h1, h3⟩
    simp at h0 h1
    subst h0; subst h1
    exact ⟨⟨n0, n1⟩, ⟨w0, w1⟩, .cons (.ex _ rfl) (.cons (.ex _ rfl) .nil)⟩

theorem placeLines_lifted (hp : ∀ (a0 : List (List Int)), okM a0 → ∃ K, raddlelaw19_PlaceLines K a0 = some true) (os : Os) (started : os.Started) (H : Type) (enc : TypeId × Value → H) :
    ReturnsInHanded {} Try.checked os 6 .any (Rows.placeLinesSpec.pre6 enc Try.prog Try.f6 Rows.placeLinesRow.domain false) (Rows.placeLinesSpec.post enc Try.prog Try.f6 false true false false) := by
  refine returnsInHanded_of_change (C := Try.checked) seatOwn started (by kernel_rfl) Try.func6
    (ChangeSpec.witness6 (enc := enc) (C := Try.checked) false ⟨#[], #[.slice none 0 0], []⟩ 8 (by kernel_rfl) (by kernel_rfl) (by kernel_rfl) (by kernel_rfl)) ?_
  intro W base args ds gs before hval0 hW hcnd _
  have hval : ∀ (j : Nat) t v, Try.f6.params[j]? = some t → args[j]? = some v → Value.okWide Try.prog W .any base t v := hval0
  have hW' := hW
  obtain ⟨p, q, hA, _, _, _, _⟩ := hW
  replace hA : DataW.TrodAll enc Try.prog W 0 (fun _ => true) true Try.f6.params.toList args.toList ds p := hA
  rw [Try.params6] at hA hval
  have hget : ∀ (j : Nat) (v : Value), args.toList[j]? = some v → args[j]? = some v := fun j v h => by rw [← Array.getElem?_toList]; exact h
  obtain ⟨v0, vs0, d0, ds0, p0, q0, e0, rfl, rfl, t0, hA0⟩ := trodAll_cons hA
  obtain ⟨ez, rfl, rfl⟩ := trodAll_nil hA0
  skip
  have hargs : args.toList = [v0] := by simp_all
  obtain ⟨a0, o0, r0⟩ := arg_flat (g := fun (l : List (List Int)) => .sl false 1 (l.map (cL 1 (cI .u8)))) Try.underlying36 rfl (fun _ => rfl) rdM (hval 0 36 v0 rfl (hget 0 v0 (by rw [hargs]; rfl))) t0
  obtain ⟨K, hK⟩ := hp a0 o0
  refine law_call seatLaidOut (of_decide_eq_true (by kernel_rfl)) hW' rfl rfl (tb := 4) (by kernel_rfl) Try.underlying4 (raddlelaw19_PlaceLines_T (fl0 := false) hK) (by rw [hargs]; rfl) ?_ .nil
  intro i v x hv hx
  rw [hargs] at hv
  match i, hv, hx with
  | 0, hv, hx => simp at hv hx; subst hv; subst hx; exact r0
theorem placeLines_holds (hp : ∀ (a0 : List (List Int)), okM a0 → ∃ K, raddlelaw19_PlaceLines K a0 = some true) : Rows.PlaceLinesSaid :=
  OpenClaim.holds_of_wide 6 Try.f6 rfl rfl rfl rfl rfl rfl rfl ⟨rfl, rfl, rfl, rfl, rfl⟩ rfl rfl rfl rfl rfl (by kernel_rfl) Try.func6 (by kernel_rfl)
    (of_decide_eq_true (by kernel_rfl)) (by unfold Func.isWrapper; first | (rw [if_pos (by decide +kernel)]; kernel_rfl) | (rw [if_neg (by decide +kernel)]; exact ⟨rfl, rfl⟩))
    (fun os started H enc _ => placeLines_lifted hp os started H enc)
end Go.Rv
