/- The rows of a chapter over the plain laws: from what a law's plain text answers to the given statement. -/
import Derived.Test.YtnedpcjnhkmikaaRows
import Derived.Test.YtnedpcjnhkmikaaRgL5
import Derived.Test.YtnedpcjnhkmikaaRvN
namespace Go.Rv
open Go.Proofs Go.Proofs.Ytnedpcjnhkmikaa Go.ChangeShapes Go.WideShapes Go.RowKit
set_option maxRecDepth 100000
set_option linter.unusedVariables false

theorem seatOwn : ownKnob Try.prog.godebug = none := by kernel_rfl
theorem seatLaidOut : laidOutB Try.prog = true := by kernel_rfl
theorem c5 : Try.prog.cellsOf 5 = 1 := by kernel_rfl
theorem c3 : Try.prog.cellsOf 3 = 1 := by kernel_rfl
theorem c23 : Try.prog.cellsOf 23 = 2 := by kernel_rfl
theorem c24 : Try.prog.cellsOf 24 = 1 := by kernel_rfl
abbrev okB (n : Int) : Prop := (Lit.int .u8 n).wf = true
abbrev okI (n : Int) : Prop := (Lit.int .i64 n).wf = true
abbrev okP (p : api_Place) : Prop := okI p.Line ∧ okI p.Col
abbrev okL (l : List Int) : Prop := l.length ≤ maxLen ∧ ∀ n ∈ l, okB n
abbrev okM (l : List (List Int)) : Prop := l.length ≤ maxLen ∧ ∀ x ∈ l, okL x
theorem rdB : Rd Try.prog 5 (cI .u8) okB := Rd.int Try.underlying5
theorem rdI : Rd Try.prog 3 (cI .i64) okI := Rd.int Try.underlying3
theorem rdL : Rd Try.prog 24 (cL 1 (cI .u8)) okL := Rd.slice Try.underlying24 c5 (by decide) rdB
theorem rdM : Rd Try.prog 36 (cL 1 (cL 1 (cI .u8))) okM := Rd.slice Try.underlying36 c24 (by decide) rdL
theorem rdP : Rd Try.prog 23 c_api_Place okP := by
  intro H enc w held fuel cs x h
  obtain ⟨xs, m, _, _, hl, hn, hel⟩ := DataW.trod_struct Try.underlying23 h
  rw [c23] at hl
  match cs, hl with
  | [c0, c1], _ =>
    obtain ⟨n0, h0, w0⟩ : ∃ n, [c0] = [Value.int .i64 n] ∧ okI n := by
      have : DataW.trod enc Try.prog w 0 (fun _ => true) held m 3 (([c0, c1].drop 0).take (Try.prog.cellsOf 3)) = xs[0]? := hel 0 _ rfl
      rw [c3] at this
      obtain ⟨y, hy⟩ : ∃ y, xs[0]? = some y := ⟨xs[0]'(by rw [hn]; decide), by simp [hn]⟩
      rw [hy] at this
      obtain ⟨n, h1, _, h3⟩ := DataW.trod_int Try.underlying3 this
      exact ⟨n, h1, h3⟩
    obtain ⟨n1, h1, w1⟩ : ∃ n, [c1] = [Value.int .i64 n] ∧ okI n := by
      have : DataW.trod enc Try.prog w 0 (fun _ => true) held m 3 (([c0, c1].drop 1).take (Try.prog.cellsOf 3)) = xs[1]? := hel 1 _ rfl
      rw [c3] at this
      obtain ⟨y, hy⟩ : ∃ y, xs[1]? = some y := ⟨xs[1]'(by rw [hn]; decide), by simp [hn]⟩
      rw [hy] at this
      obtain ⟨n, h1, _, h3⟩ := DataW.trod_int Try.underlying3 this
      exact ⟨n, h1, h3⟩
    simp at h0 h1
    subst h0; subst h1
    exact ⟨⟨n0, n1⟩, ⟨w0, w1⟩, .cons (.ex _ rfl) (.cons (.ex _ rfl) .nil)⟩

theorem placeOrder_lifted (hp : ∀ (a0 : List Int) (a1 : Int) (a2 : Int), okL a0 → okB a1 → okB a2 → ∃ K, raddlelaw19_PlaceOrder K a0 a1 a2 = some true) (os : Os) (started : os.Started) (H : Type) (enc : TypeId × Value → H) :
    ReturnsInHanded {} Try.checked os 5 .any (Rows.placeOrderSpec.pre6 enc Try.prog Try.f5 Rows.placeOrderRow.domain false) (Rows.placeOrderSpec.post enc Try.prog Try.f5 false true false false) := by
  refine returnsInHanded_of_change (C := Try.checked) seatOwn started (by kernel_rfl) Try.func5
    (ChangeSpec.witness6 (enc := enc) (C := Try.checked) false ⟨#[], #[.slice none 0 0, .int .u8 0, .int .u8 0], []⟩ 8 (by kernel_rfl) (by kernel_rfl) (by kernel_rfl) (by kernel_rfl)) ?_
  intro W base args ds gs before hval0 hW hcnd _
  have hval : ∀ (j : Nat) t v, Try.f5.params[j]? = some t → args[j]? = some v → Value.okWide Try.prog W .any base t v := hval0
  have hW' := hW
  obtain ⟨p, q, hA, _, _, _, _⟩ := hW
  replace hA : DataW.TrodAll enc Try.prog W 0 (fun _ => true) true Try.f5.params.toList args.toList ds p := hA
  rw [Try.params5] at hA hval
  have hget : ∀ (j : Nat) (v : Value), args.toList[j]? = some v → args[j]? = some v := fun j v h => by rw [← Array.getElem?_toList]; exact h
  obtain ⟨v0, vs0, d0, ds0, p0, q0, e0, rfl, rfl, t0, hA0⟩ := trodAll_cons hA
  obtain ⟨v1, vs1, d1, ds1, p1, q1, e1, rfl, rfl, t1, hA1⟩ := trodAll_cons hA0
  obtain ⟨v2, vs2, d2, ds2, p2, q2, e2, rfl, rfl, t2, hA2⟩ := trodAll_cons hA1
  obtain ⟨ez, rfl, rfl⟩ := trodAll_nil hA2
  skip; subst e1; subst e2
  have hargs : args.toList = [v0, v1, v2] := by simp_all
  obtain ⟨a0, o0, r0⟩ := arg_flat (g := fun (l : List Int) => .sl false 1 (l.map (cI .u8))) Try.underlying24 rfl (fun _ => rfl) rdL (hval 0 24 v0 rfl (hget 0 v0 (by rw [hargs]; rfl))) t0
  obtain ⟨a1, o1, r1⟩ := arg_flat (g := fun n => .ex (.int .u8 n)) Try.underlying5 rfl (fun _ => rfl) rdB (hval 1 5 v1 rfl (hget 1 v1 (by rw [hargs]; rfl))) t1
  obtain ⟨a2, o2, r2⟩ := arg_flat (g := fun n => .ex (.int .u8 n)) Try.underlying5 rfl (fun _ => rfl) rdB (hval 2 5 v2 rfl (hget 2 v2 (by rw [hargs]; rfl))) t2
  obtain ⟨K, hK⟩ := hp a0 a1 a2 o0 o1 o2
  refine law_call seatLaidOut (of_decide_eq_true (by kernel_rfl)) hW' rfl rfl (tb := 4) (by kernel_rfl) Try.underlying4 (raddlelaw19_PlaceOrder_T (fl0 := false) hK) (by rw [hargs]; rfl) ?_ .nil
  intro i v x hv hx
  rw [hargs] at hv
  match i, hv, hx with
  | 0, hv, hx => simp at hv hx; subst hv; subst hx; exact r0
  | 1, hv, hx => simp at hv hx; subst hv; subst hx; exact r1
  | 2, hv, hx => simp at hv hx; subst hv; subst hx; exact r2
theorem placeOrder_holds (hp : ∀ (a0 : List Int) (a1 : Int) (a2 : Int), okL a0 → okB a1 → okB a2 → ∃ K, raddlelaw19_PlaceOrder K a0 a1 a2 = some true) : Rows.PlaceOrderSaid :=
  OpenClaim.holds_of_wide 5 Try.f5 rfl rfl rfl rfl rfl rfl rfl ⟨rfl, rfl, rfl, rfl, rfl⟩ rfl rfl rfl rfl rfl (by kernel_rfl) Try.func5 (by kernel_rfl)
    (of_decide_eq_true (by kernel_rfl)) (by unfold Func.isWrapper; first | (rw [if_pos (by decide +kernel)]; kernel_rfl) | (rw [if_neg (by decide +kernel)]; exact ⟨rfl, rfl⟩))
    (fun os started H enc _ => placeOrder_lifted hp os started H enc)
end Go.Rv
