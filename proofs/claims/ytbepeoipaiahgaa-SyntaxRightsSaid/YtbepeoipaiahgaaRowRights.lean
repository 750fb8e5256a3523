/- The rows of a chapter over the plain laws: from what a law's plain text answers to the given statement. -/
import Derived.Test.YtbepeoipaiahgaaRows
import Derived.Test.YtbepeoipaiahgaaRvW
import Derived.Test.YtbepeoipaiahgaaRgL7
import Derived.Test.YtbepeoipaiahgaaRvN
namespace Go.Rv
open Go.Proofs Go.Proofs.Ytbepeoipaiahgaa Go.ChangeShapes Go.WideShapes Go.RowKit
set_option maxRecDepth 100000
set_option linter.unusedVariables false

theorem seatOwn : ownKnob Try.prog.godebug = none := by kernel_rfl
theorem seatLaidOut : laidOutB Try.prog = true := by kernel_rfl
theorem c5 : Try.prog.cellsOf 5 = 1 := by kernel_rfl
abbrev ok5 (x : Int) : Prop := (Lit.int .u8 x).wf = true
theorem rd5 : Rd Try.prog 5 (cI .u8) ok5 := Rd.int Try.underlying5
theorem c31 : Try.prog.cellsOf 31 = 1 := by kernel_rfl
theorem c33 : Try.prog.cellsOf 33 = 4 := by kernel_rfl
abbrev ok33 (x : Arr4) : Prop := ((Lit.int .u64 x.a0).wf = true ∧ (Lit.int .u64 x.a1).wf = true) ∧ (Lit.int .u64 x.a2).wf = true ∧ (Lit.int .u64 x.a3).wf = true
theorem rd33 : Rd Try.prog 33 (Arr4.dc .u64) ok33 := Rd.arr4 Try.underlying33 Try.underlying31 c31 c33
theorem c3 : Try.prog.cellsOf 3 = 1 := by kernel_rfl
abbrev ok3 (x : Int) : Prop := (Lit.int .i64 x).wf = true
theorem rd3 : Rd Try.prog 3 (cI .i64) ok3 := Rd.int Try.underlying3
theorem c34 : Try.prog.cellsOf 34 = 1 := by kernel_rfl
abbrev ok34 (x : List Int) : Prop := x.length ≤ maxLen ∧ ∀ a ∈ x, ok3 a
theorem rd34 : Rd Try.prog 34 (cL 1 (cI .i64)) ok34 := Rd.slice Try.underlying34 c3 (by decide) rd3
theorem c9 : Try.prog.cellsOf 9 = 1 := by kernel_rfl
abbrev ok9 (x : ByteArray) : Prop := x.size ≤ maxLen
theorem rd9 : Rd Try.prog 9 cS ok9 := Rd.string Try.underlying9
theorem c36 : Try.prog.cellsOf 36 = 9 := by kernel_rfl
abbrev ok36 (x : api_Node) : Prop := ok5 x.Op ∧ ok33 x.S ∧ ok34 x.L ∧ ok3 x.Lo ∧ ok3 x.Hi ∧ ok9 x.Name
theorem rd36 : Rd Try.prog 36 c_api_Node ok36 := by
  have h := Rd.struct Try.underlying36 c36 (RdAt.cons (sz := 1) (by rfl) c5 rd5 (RdAt.cons (sz := 4) (by rfl) c33 rd33 (RdAt.cons (sz := 1) (by rfl) c34 rd34 (RdAt.cons (sz := 1) (by rfl) c3 rd3 (RdAt.cons (sz := 1) (by rfl) c3 rd3 (RdAt.cons (sz := 1) (by rfl) c9 rd9 (RdAt.nil _)))))))
  exact h.map (fun x => (⟨x.1, x.2.1, x.2.2.1, x.2.2.2.1, x.2.2.2.2.1, x.2.2.2.2.2.1⟩ : api_Node)) (fun x => by simp only [c_api_Node, List.append_assoc, List.cons_append, List.nil_append, List.append_nil, cI, cL, cB, cS, Arr2.dc, Arr4.dc]) (fun _ h => ⟨h.1, h.2.1, h.2.2.1, h.2.2.2.1, h.2.2.2.2.1, h.2.2.2.2.2.1⟩)
abbrev ok23 (x : List api_Node) : Prop := x.length ≤ maxLen ∧ ∀ a ∈ x, ok36 a
theorem rd23 : Rd Try.prog 23 (cL 9 c_api_Node) ok23 := Rd.slice Try.underlying23 c36 (by decide) rd36

theorem syntaxRights_lifted (hp : ∀ (a0 : List api_Node), ok23 a0 → ∃ K, raddlelaw04_SyntaxRights K a0 = some true) (os : Os) (started : os.Started) (H : Type) (enc : TypeId × Value → H) :
    ReturnsInHanded {} Try.checked os 7 .any (Rows.syntaxRightsSpec.pre6 enc Try.prog Try.f7 Rows.syntaxRightsRow.domain false) (Rows.syntaxRightsSpec.post enc Try.prog Try.f7 false true false false) := by
  refine returnsInHanded_of_change (C := Try.checked) seatOwn started (by kernel_rfl) Try.func7
    (ChangeSpec.witness6 (enc := enc) (C := Try.checked) false ⟨#[], #[.slice none 0 0], []⟩ 8 (by kernel_rfl) (by kernel_rfl) (by kernel_rfl) (by kernel_rfl)) ?_
  intro W base args ds gs before hval0 hW hcnd _
  have hval : ∀ (j : Nat) t v, Try.f7.params[j]? = some t → args[j]? = some v → Value.okWide Try.prog W .any base t v := hval0
  have hW' := hW
  obtain ⟨p, q, hA, _, _, _, _⟩ := hW
  replace hA : DataW.TrodAll enc Try.prog W 0 (fun _ => true) true Try.f7.params.toList args.toList ds p := hA
  rw [Try.params7] at hA hval
  have hget : ∀ (j : Nat) (v : Value), args.toList[j]? = some v → args[j]? = some v := fun j v h => by rw [← Array.getElem?_toList]; exact h
  obtain ⟨v0, vs0, d0, ds0, p0, q0, e0, rfl, rfl, t0, hA0⟩ := trodAll_cons hA
  obtain ⟨ez, rfl, rfl⟩ := trodAll_nil hA0
  skip
  have hargs : args.toList = [v0] := by simp_all
  obtain ⟨a0, o0, r0⟩ := arg_flat (g := fun (l : List api_Node) => .sl false 9 (l.map c_api_Node)) Try.underlying23 rfl (fun _ => rfl) rd23 (hval 0 23 v0 rfl (hget 0 v0 (by rw [hargs]; rfl))) t0
  obtain ⟨K, hK⟩ := hp a0 o0
  refine law_call seatLaidOut (of_decide_eq_true (by kernel_rfl)) hW' rfl rfl (tb := 4) (by kernel_rfl) Try.underlying4 (raddlelaw04_SyntaxRights_T K (flx0 := false) hK) (by rw [hargs]; rfl) ?_ .nil
  intro i v x hv hx
  rw [hargs] at hv
  match i, hv, hx with
  | 0, hv, hx => simp at hv hx; subst hv; subst hx; exact r0
theorem syntaxRights_holds (hp : ∀ (a0 : List api_Node), ok23 a0 → ∃ K, raddlelaw04_SyntaxRights K a0 = some true) : Rows.SyntaxRightsSaid :=
  OpenClaim.holds_of_wide 7 Try.f7 rfl rfl rfl rfl rfl rfl rfl ⟨rfl, rfl, rfl, rfl, rfl⟩ rfl rfl rfl rfl rfl (by kernel_rfl) Try.func7 (by kernel_rfl)
    (of_decide_eq_true (by kernel_rfl)) (by unfold Func.isWrapper; first | (rw [if_pos (by decide +kernel)]; kernel_rfl) | (rw [if_neg (by decide +kernel)]; exact ⟨rfl, rfl⟩))
    (fun os started H enc _ => syntaxRights_lifted hp os started H enc)
end Go.Rv
