/- The rows of a chapter over the plain laws: from what a law's plain text answers to the given statement. -/
import Derived.Test.YtaipjabggdifoaaRows
import Derived.Test.YtaipjabggdifoaaRvNW
import Derived.Test.YtaipjabggdifoaaRgL6
import Derived.Test.YtaipjabggdifoaaRvN
namespace Go.Rv
open Go.Proofs Go.Proofs.Ytaipjabggdifoaa Go.ChangeShapes Go.WideShapes Go.RowKit
set_option maxRecDepth 100000
set_option linter.unusedVariables false

theorem seatOwn : ownKnob Try.prog.godebug = none := by kernel_rfl
theorem seatLaidOut : laidOutB Try.prog = true := by kernel_rfl
theorem c5 : Try.prog.cellsOf 5 = 1 := by kernel_rfl
abbrev ok5 (x : Int) : Prop := (Lit.int .u8 x).wf = true
theorem rd5 : Rd Try.prog 5 (cI .u8) ok5 := Rd.int Try.underlying5
theorem c22 : Try.prog.cellsOf 22 = 256 := by kernel_rfl
abbrev ok22 (x : ArrN) : Prop := ∀ i, i < 256 → (Lit.int .u8 (x.f i)).wf = true
theorem rd22 : Rd Try.prog 22 (ArrN.dc 256 .u8) ok22 := Rd.arrN Try.underlying22 Try.underlying5 c5 c22
theorem c3 : Try.prog.cellsOf 3 = 1 := by kernel_rfl
abbrev ok3 (x : Int) : Prop := (Lit.int .i64 x).wf = true
theorem rd3 : Rd Try.prog 3 (cI .i64) ok3 := Rd.int Try.underlying3
theorem c24 : Try.prog.cellsOf 24 = 257 := by kernel_rfl
abbrev ok24 (x : api_Split) : Prop := ok22 x.Of ∧ ok3 x.Many
theorem rd24 : Rd Try.prog 24 c_api_Split ok24 := by
  have h := Rd.struct Try.underlying24 c24 (RdAt.cons (sz := 256) (by rfl) c22 rd22 (RdAt.cons (sz := 1) (by rfl) c3 rd3 (RdAt.nil _)))
  exact h.map (fun x => (⟨x.1, x.2.1⟩ : api_Split)) (fun x => by simp only [c_api_Split, List.append_assoc, List.cons_append, List.nil_append, List.append_nil, cI, cL, cB, cS, Arr2.dc, Arr4.dc]) (fun _ h => ⟨h.1, h.2.1⟩)
theorem c42 : Try.prog.cellsOf 42 = 2 := by kernel_rfl
abbrev ok42 (x : Arr2) : Prop := (Lit.int .i64 x.a0).wf = true ∧ (Lit.int .i64 x.a1).wf = true
theorem rd42 : Rd Try.prog 42 (Arr2.dc .i64) ok42 := Rd.arr2 Try.underlying42 Try.underlying3 c3 c42
theorem c25 : Try.prog.cellsOf 25 = 1 := by kernel_rfl
abbrev ok25 (x : List Arr2) : Prop := x.length ≤ maxLen ∧ ∀ a ∈ x, ok42 a
theorem rd25 : Rd Try.prog 25 (cL 2 (Arr2.dc .i64)) ok25 := Rd.slice Try.underlying25 c42 (by decide) rd42
theorem c56 : Try.prog.cellsOf 56 = 1 := by kernel_rfl
abbrev ok56 (x : List Int) : Prop := x.length ≤ maxLen ∧ ∀ a ∈ x, ok3 a
theorem rd56 : Rd Try.prog 56 (cL 1 (cI .i64)) ok56 := Rd.slice Try.underlying56 c3 (by decide) rd3
theorem c29 : Try.prog.cellsOf 29 = 1 := by kernel_rfl
abbrev ok29 (x : List Int) : Prop := x.length ≤ maxLen ∧ ∀ a ∈ x, ok5 a
theorem rd29 : Rd Try.prog 29 (cL 1 (cI .u8)) ok29 := Rd.slice Try.underlying29 c5 (by decide) rd5
theorem c63 : Try.prog.cellsOf 63 = 2 := by kernel_rfl
abbrev ok63 (x : api_Move) : Prop := ok3 x.To ∧ ok29 x.Ops
theorem rd63 : Rd Try.prog 63 c_api_Move ok63 := by
  have h := Rd.struct Try.underlying63 c63 (RdAt.cons (sz := 1) (by rfl) c3 rd3 (RdAt.cons (sz := 1) (by rfl) c29 rd29 (RdAt.nil _)))
  exact h.map (fun x => (⟨x.1, x.2.1⟩ : api_Move)) (fun x => by simp only [c_api_Move, List.append_assoc, List.cons_append, List.nil_append, List.append_nil, cI, cL, cB, cS, Arr2.dc, Arr4.dc]) (fun _ h => ⟨h.1, h.2.1⟩)
theorem c61 : Try.prog.cellsOf 61 = 1 := by kernel_rfl
abbrev ok61 (x : List api_Move) : Prop := x.length ≤ maxLen ∧ ∀ a ∈ x, ok63 a
theorem rd61 : Rd Try.prog 61 (cL 2 c_api_Move) ok61 := Rd.slice Try.underlying61 c63 (by decide) rd63
theorem c57 : Try.prog.cellsOf 57 = 1 := by kernel_rfl
abbrev ok57 (x : List (List api_Move)) : Prop := x.length ≤ maxLen ∧ ∀ a ∈ x, ok61 a
theorem rd57 : Rd Try.prog 57 (cL 1 (cL 2 c_api_Move)) ok57 := Rd.slice Try.underlying57 c61 (by decide) rd61
theorem c59 : Try.prog.cellsOf 59 = 4 := by kernel_rfl
abbrev ok59 (x : api_State) : Prop := ok56 x.L ∧ ok56 x.R ∧ ok56 x.Rule ∧ ok57 x.Next
theorem rd59 : Rd Try.prog 59 c_api_State ok59 := by
  have h := Rd.struct Try.underlying59 c59 (RdAt.cons (sz := 1) (by rfl) c56 rd56 (RdAt.cons (sz := 1) (by rfl) c56 rd56 (RdAt.cons (sz := 1) (by rfl) c56 rd56 (RdAt.cons (sz := 1) (by rfl) c57 rd57 (RdAt.nil _)))))
  exact h.map (fun x => (⟨x.1, x.2.1, x.2.2.1, x.2.2.2.1⟩ : api_State)) (fun x => by simp only [c_api_Move, c_api_State, List.append_assoc, List.cons_append, List.nil_append, List.append_nil, cI, cL, cB, cS, Arr2.dc, Arr4.dc]) (fun _ h => ⟨h.1, h.2.1, h.2.2.1, h.2.2.2.1⟩)
theorem c26 : Try.prog.cellsOf 26 = 1 := by kernel_rfl
abbrev ok26 (x : List api_State) : Prop := x.length ≤ maxLen ∧ ∀ a ∈ x, ok59 a
theorem rd26 : Rd Try.prog 26 (cL 4 c_api_State) ok26 := Rd.slice Try.underlying26 c59 (by decide) rd59
theorem c28 : Try.prog.cellsOf 28 = 259 := by kernel_rfl
abbrev ok28 (x : api_Auto) : Prop := ok24 x.Split ∧ ok25 x.Counts ∧ ok26 x.States
theorem rd28 : Rd Try.prog 28 c_api_Auto ok28 := by
  have h := Rd.struct Try.underlying28 c28 (RdAt.cons (sz := 257) (by rfl) c24 rd24 (RdAt.cons (sz := 1) (by rfl) c25 rd25 (RdAt.cons (sz := 1) (by rfl) c26 rd26 (RdAt.nil _))))
  exact h.map (fun x => (⟨x.1, x.2.1, x.2.2.1⟩ : api_Auto)) (fun x => by simp only [c_api_Auto, c_api_Move, c_api_Split, c_api_State, List.append_assoc, List.cons_append, List.nil_append, List.append_nil, cI, cL, cB, cS, Arr2.dc, Arr4.dc]) (fun _ h => ⟨h.1, h.2.1, h.2.2.1⟩)
theorem c4 : Try.prog.cellsOf 4 = 1 := by kernel_rfl
abbrev ok4 (x : Bool) : Prop := True
theorem rd4 : Rd Try.prog 4 cB ok4 := Rd.bool Try.underlying4
abbrev ok41 (x : List Bool) : Prop := x.length ≤ maxLen ∧ ∀ a ∈ x, ok4 a
theorem rd41 : Rd Try.prog 41 (cL 1 cB) ok41 := Rd.slice Try.underlying41 c4 (by decide) rd4

theorem tableLong_lifted (hp : ∀ (a0 : api_Auto) (a1 : List Bool), ok28 a0 → ok41 a1 → a0.Counts.length * 16 ≤ reachBytes → ∃ K, raddlelaw14_TableLong K a0 a1 = some true) (os : Os) (started : os.Started) (H : Type) (enc : TypeId × Value → H) :
    ReturnsInHanded {} Try.checked os 6 .any (Rows.tableLongSpec.pre6 enc Try.prog Try.f6 Rows.tableLongRow.domain false) (Rows.tableLongSpec.post enc Try.prog Try.f6 false true false false) := by
  refine returnsInHanded_of_change_sized (C := Try.checked) seatOwn started (by kernel_rfl) Try.func6
    (ChangeSpec.witness6 (enc := enc) (C := Try.checked) false ⟨#[], #[.agg (List.replicate 256 (Value.int .u8 0) ++ [Value.int .i64 0] ++ [Value.slice none 0 0, Value.slice none 0 0]).toArray, .slice none 0 0], []⟩ 8 (by kernel_rfl) (by kernel_rfl) (by kernel_rfl) (by kernel_rfl)) ?_
  intro W base args ds gs before hval0 hW hcnd hsz0 _
  have hval : ∀ (j : Nat) t v, Try.f6.params[j]? = some t → args[j]? = some v → Value.okWide Try.prog W .any base t v := hval0
  have hW' := hW
  obtain ⟨p, q, hA, _, _, _, _⟩ := hW
  replace hA : DataW.TrodAll enc Try.prog W 0 (fun _ => true) true Try.f6.params.toList args.toList ds p := hA
  rw [Try.params6] at hA hval
  have hget : ∀ (j : Nat) (v : Value), args.toList[j]? = some v → args[j]? = some v := fun j v h => by rw [← Array.getElem?_toList]; exact h
  obtain ⟨v0, vs0, d0, ds0, p0, q0, e0, rfl, rfl, t0, hA0⟩ := trodAll_cons hA
  obtain ⟨v1, vs1, d1, ds1, p1, q1, e1, rfl, rfl, t1, hA1⟩ := trodAll_cons hA0
  obtain ⟨ez, rfl, rfl⟩ := trodAll_nil hA1
  skip; subst e1
  have hargs : args.toList = [v0, v1] := by simp_all
  obtain ⟨a0, o0, r0⟩ := arg_agg Try.underlying28 rfl rd28 (hval 0 28 v0 rfl (hget 0 v0 (by rw [hargs]; rfl))) t0
  obtain ⟨a1, o1, r1⟩ := arg_flat (g := fun (l : List Bool) => .sl false 1 (l.map cB)) Try.underlying41 rfl (fun _ => rfl) rd41 (hval 1 41 v1 rfl (hget 1 v1 (by rw [hargs]; rfl))) t1
  have hsz := hsz0
  rw [Try.params6] at hsz
  have hlen0 : a0.Counts.length * 16 ≤ reachBytes := by
    obtain ⟨fu0, hfu0⟩ := t0
    cases r0 with
    | agg cs _ hrep =>
      have hd : (c_api_Auto a0)[257]? = some (.sl false 2 (a0.Counts.map (Arr2.dc .i64))) := by simp [c_api_Auto, List.getElem?_append, ArrN.dc_len]
      obtain ⟨h1, h2⟩ := hrep
      have hlt : 257 < cs.toList.length := by rw [h1]; exact (List.getElem?_eq_some_iff.1 hd).1
      have hv : cs.toList[257]? = some cs.toList[257] := List.getElem?_eq_getElem hlt
      have hl := sized_field Try.underlying28 hfu0 (weights_arg hsz (j := 0) rfl rfl) (i := 1) rfl Try.underlying25 c25 hv (h2 257 _ _ hv hd)
      rw [List.length_map, show Try.prog.bytesOf 42 = 16 by kernel_rfl] at hl
      exact hl
  obtain ⟨K, hK⟩ := hp a0 a1 o0 o1 hlen0
  refine law_call seatLaidOut (of_decide_eq_true (by kernel_rfl)) hW' rfl rfl (tb := 4) (by kernel_rfl) Try.underlying4 (raddlelaw14_TableLong_T K (flx1 := false) hK) (by rw [hargs]; rfl) ?_ .nil
  intro i v x hv hx
  rw [hargs] at hv
  match i, hv, hx with
  | 0, hv, hx => simp at hv hx; subst hv; subst hx; exact r0
  | 1, hv, hx => simp at hv hx; subst hv; subst hx; exact r1
theorem tableLong_holds (hp : ∀ (a0 : api_Auto) (a1 : List Bool), ok28 a0 → ok41 a1 → a0.Counts.length * 16 ≤ reachBytes → ∃ K, raddlelaw14_TableLong K a0 a1 = some true) : Rows.TableLongSaid :=
  OpenClaim.holds_of_wide 6 Try.f6 rfl rfl rfl rfl rfl rfl rfl ⟨rfl, rfl, rfl, rfl, rfl⟩ rfl rfl rfl rfl rfl (by kernel_rfl) Try.func6 (by kernel_rfl)
    (of_decide_eq_true (by kernel_rfl)) (by unfold Func.isWrapper; first | (rw [if_pos (by decide +kernel)]; kernel_rfl) | (rw [if_neg (by decide +kernel)]; exact ⟨rfl, rfl⟩))
    (fun os started H enc _ => tableLong_lifted hp os started H enc)
end Go.Rv
