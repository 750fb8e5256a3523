/- The rows of a chapter over the plain laws: from what a law's plain text answers to the given statement. -/
import Derived.Test.YtaipjabggdifoaaRows
import Derived.Test.YtaipjabggdifoaaRvW
import Derived.Test.YtaipjabggdifoaaRgL8
import Derived.Test.YtaipjabggdifoaaRvN
namespace Go.Rv
open Go.Proofs Go.Proofs.Ytaipjabggdifoaa Go.ChangeShapes Go.WideShapes Go.RowKit
set_option maxRecDepth 100000
set_option linter.unusedVariables false
theorem seatOwn : ownKnob Try.prog.godebug = none := by kernel_rfl
theorem seatLaidOut : laidOutB Try.prog = true := by kernel_rfl
theorem c5 : Try.prog.cellsOf 5 = 1 := by kernel_rfl
abbrev ok5 (x : Int) : Prop := (Lit.int .u8 x).wf = true
theorem rd5 : Rd Try.prog 5 (cI .u8) ok5 := Rd.int Try.underlying5
theorem c22 : Try.prog.cellsOf 22 = 256 := by kernel_rfl
abbrev ok22 (x : Qy) : Prop := ∀ i, i < 256 → (Lit.int .u8 (x.f i)).wf = true
theorem rd22 : Rd Try.prog 22 (Qy.dc 256 .u8) ok22 := Rd.arrN Try.underlying22 Try.underlying5 c5 c22
theorem c3 : Try.prog.cellsOf 3 = 1 := by kernel_rfl
abbrev ok3 (x : Int) : Prop := (Lit.int .i64 x).wf = true
theorem rd3 : Rd Try.prog 3 (cI .i64) ok3 := Rd.int Try.underlying3
theorem c24 : Try.prog.cellsOf 24 = 257 := by kernel_rfl
abbrev ok24 (x : aSp) : Prop := ok22 x.Of ∧ ok3 x.Many
theorem rd24 : Rd Try.prog 24 c_aSp ok24 := by
 have h := Rd.struct Try.underlying24 c24 (RdAt.cons (sz := 256) (by rfl) c22 rd22 (RdAt.cons (sz := 1) (by rfl) c3 rd3 (RdAt.nil _)))
 exact h.map (fun x => (⟨x.1, x.2.1⟩ : aSp)) (fun x => by simp only [c_aSp, List.append_assoc, List.cons_append, List.nil_append, List.append_nil, cI, cL, cB, cS, Ze.dc, Zr.dc]) (fun _ h => ⟨h.1, h.2.1⟩)
theorem c42 : Try.prog.cellsOf 42 = 2 := by kernel_rfl
abbrev ok42 (x : Ze) : Prop := (Lit.int .i64 x.a0).wf = true ∧ (Lit.int .i64 x.a1).wf = true
theorem rd42 : Rd Try.prog 42 (Ze.dc .i64) ok42 := Rd.arr2 Try.underlying42 Try.underlying3 c3 c42
theorem c25 : Try.prog.cellsOf 25 = 1 := by kernel_rfl
abbrev ok25 (x : List Ze) : Prop := x.length ≤ maxLen ∧ ∀ a ∈ x, ok42 a
theorem rd25 : Rd Try.prog 25 (cL 2 (Ze.dc .i64)) ok25 := Rd.slice Try.underlying25 c42 (by decide) rd42
theorem c56 : Try.prog.cellsOf 56 = 1 := by kernel_rfl
abbrev ok56 (x : List Int) : Prop := x.length ≤ maxLen ∧ ∀ a ∈ x, ok3 a
theorem rd56 : Rd Try.prog 56 (cL 1 (cI .i64)) ok56 := Rd.slice Try.underlying56 c3 (by decide) rd3
theorem c29 : Try.prog.cellsOf 29 = 1 := by kernel_rfl
abbrev ok29 (x : List Int) : Prop := x.length ≤ maxLen ∧ ∀ a ∈ x, ok5 a
theorem rd29 : Rd Try.prog 29 (cL 1 (cI .u8)) ok29 := Rd.slice Try.underlying29 c5 (by decide) rd5
theorem c63 : Try.prog.cellsOf 63 = 2 := by kernel_rfl
abbrev ok63 (x : aMv) : Prop := ok3 x.To ∧ ok29 x.Ops
theorem rd63 : Rd Try.prog 63 Qw ok63 := by
 have h := Rd.struct Try.underlying63 c63 (RdAt.cons (sz := 1) (by rfl) c3 rd3 (RdAt.cons (sz := 1) (by rfl) c29 rd29 (RdAt.nil _)))
 exact h.map (fun x => (⟨x.1, x.2.1⟩ : aMv)) (fun x => by simp only [Qw, List.append_assoc, List.cons_append, List.nil_append, List.append_nil, cI, cL, cB, cS, Ze.dc, Zr.dc]) (fun _ h => ⟨h.1, h.2.1⟩)
theorem c61 : Try.prog.cellsOf 61 = 1 := by kernel_rfl
abbrev ok61 (x : List aMv) : Prop := x.length ≤ maxLen ∧ ∀ a ∈ x, ok63 a
theorem rd61 : Rd Try.prog 61 (cL 2 Qw) ok61 := Rd.slice Try.underlying61 c63 (by decide) rd63
theorem c57 : Try.prog.cellsOf 57 = 1 := by kernel_rfl
abbrev ok57 (x : List (List aMv)) : Prop := x.length ≤ maxLen ∧ ∀ a ∈ x, ok61 a
theorem rd57 : Rd Try.prog 57 (cL 1 (cL 2 Qw)) ok57 := Rd.slice Try.underlying57 c61 (by decide) rd61
theorem c59 : Try.prog.cellsOf 59 = 4 := by kernel_rfl
abbrev ok59 (x : aSt) : Prop := ok56 x.L ∧ ok56 x.R ∧ ok56 x.Rule ∧ ok57 x.Next
theorem rd59 : Rd Try.prog 59 Qx ok59 := by
 have h := Rd.struct Try.underlying59 c59 (RdAt.cons (sz := 1) (by rfl) c56 rd56 (RdAt.cons (sz := 1) (by rfl) c56 rd56 (RdAt.cons (sz := 1) (by rfl) c56 rd56 (RdAt.cons (sz := 1) (by rfl) c57 rd57 (RdAt.nil _)))))
 exact h.map (fun x => (⟨x.1, x.2.1, x.2.2.1, x.2.2.2.1⟩ : aSt)) (fun x => by simp only [Qw, Qx, List.append_assoc, List.cons_append, List.nil_append, List.append_nil, cI, cL, cB, cS, Ze.dc, Zr.dc]) (fun _ h => ⟨h.1, h.2.1, h.2.2.1, h.2.2.2.1⟩)
theorem c26 : Try.prog.cellsOf 26 = 1 := by kernel_rfl
abbrev ok26 (x : List aSt) : Prop := x.length ≤ maxLen ∧ ∀ a ∈ x, ok59 a
theorem rd26 : Rd Try.prog 26 (cL 4 Qx) ok26 := Rd.slice Try.underlying26 c59 (by decide) rd59
theorem c28 : Try.prog.cellsOf 28 = 259 := by kernel_rfl
abbrev ok28 (x : aAu) : Prop := ok24 x.Split ∧ ok25 x.Counts ∧ ok26 x.States
theorem rd28 : Rd Try.prog 28 c_aAu ok28 := by
 have h := Rd.struct Try.underlying28 c28 (RdAt.cons (sz := 257) (by rfl) c24 rd24 (RdAt.cons (sz := 1) (by rfl) c25 rd25 (RdAt.cons (sz := 1) (by rfl) c26 rd26 (RdAt.nil _))))
 exact h.map (fun x => (⟨x.1, x.2.1, x.2.2.1⟩ : aAu)) (fun x => by simp only [c_aAu, Qw, c_aSp, Qx, List.append_assoc, List.cons_append, List.nil_append, List.append_nil, cI, cL, cB, cS, Ze.dc, Zr.dc]) (fun _ h => ⟨h.1, h.2.1, h.2.2.1⟩)
abbrev ok47 (x : Int) : Prop := (Lit.int .u16 x).wf = true
theorem rd47 : Rd Try.prog 47 (cI .u16) ok47 := Rd.int Try.underlying47
theorem Po (hp : ∀ (a0 : aAu) (a1 : Int) (a2 : Int), ok28 a0 → ok47 a1 → ok5 a2 → ∃ K, He K a0 a1 a2 = some true) (os : Os) (started : os.Started) (H : Type) (enc : TypeId × Value → H) :
  ReturnsInHanded {} Try.checked os 8 .any (Rows.tableBackSpec.pre6 enc Try.prog Try.f8 Rows.tableBackRow.domain false) (Rows.tableBackSpec.post enc Try.prog Try.f8 false true false false) := by
 refine returnsInHanded_of_change (C := Try.checked) seatOwn started (by kernel_rfl) Try.func8
  (ChangeSpec.witness6 (enc := enc) (C := Try.checked) false ⟨#[], #[.agg (List.replicate 256 (Value.int .u8 0) ++ [Value.int .i64 0] ++ [Value.slice none 0 0, Value.slice none 0 0]).toArray, .int .u16 0, .int .u8 0], []⟩ 8 (by kernel_rfl) (by kernel_rfl) (by kernel_rfl) (by kernel_rfl)) ?_
 intro W base args ds gs before hval0 hW hcnd _
 have hval : ∀ (j : Nat) t v, Try.f8.params[j]? = some t → args[j]? = some v → Value.okWide Try.prog W .any base t v := hval0
 have hW' := hW
 obtain ⟨p, q, hA, _, _, _, _⟩ := hW
 replace hA : DataW.TrodAll enc Try.prog W 0 (fun _ => true) true Try.f8.params.toList args.toList ds p := hA
 rw [Try.params8] at hA hval
 have hget : ∀ (j : Nat) (v : Value), args.toList[j]? = some v → args[j]? = some v := fun j v h => by rw [← Array.getElem?_toList]; exact h
 obtain ⟨v0, vs0, d0, ds0, p0, q0, e0, rfl, rfl, t0, hA0⟩ := trodAll_cons hA
 obtain ⟨v1, vs1, d1, ds1, p1, q1, e1, rfl, rfl, t1, hA1⟩ := trodAll_cons hA0
 obtain ⟨v2, vs2, d2, ds2, p2, q2, e2, rfl, rfl, t2, hA2⟩ := trodAll_cons hA1
 obtain ⟨ez, rfl, rfl⟩ := trodAll_nil hA2
 skip; subst e1; subst e2
 have hargs : args.toList = [v0, v1, v2] := by simp_all
 obtain ⟨a0, o0, r0⟩ := arg_agg Try.underlying28 rfl rd28 (hval 0 28 v0 rfl (hget 0 v0 (by rw [hargs]; rfl))) t0
 obtain ⟨a1, o1, r1⟩ := arg_flat (g := fun n => .ex (.int .u16 n)) Try.underlying47 rfl (fun _ => rfl) rd47 (hval 1 47 v1 rfl (hget 1 v1 (by rw [hargs]; rfl))) t1
 obtain ⟨a2, o2, r2⟩ := arg_flat (g := fun n => .ex (.int .u8 n)) Try.underlying5 rfl (fun _ => rfl) rd5 (hval 2 5 v2 rfl (hget 2 v2 (by rw [hargs]; rfl))) t2
 obtain ⟨K, hK⟩ := hp a0 a1 a2 o0 o1 o2
 refine law_call seatLaidOut (of_decide_eq_true (by kernel_rfl)) hW' rfl rfl (tb := 4) (by kernel_rfl) Try.underlying4 (l4_TableBack_T K hK) (by rw [hargs]; rfl) ?_ .nil
 intro i v x hv hx
 rw [hargs] at hv
 match i, hv, hx with
 | 0, hv, hx => simp at hv hx; subst hv; subst hx; exact r0
 | 1, hv, hx => simp at hv hx; subst hv; subst hx; exact r1
 | 2, hv, hx => simp at hv hx; subst hv; subst hx; exact r2
theorem P8 (hp : ∀ (a0 : aAu) (a1 : Int) (a2 : Int), ok28 a0 → ok47 a1 → ok5 a2 → ∃ K, He K a0 a1 a2 = some true) : Rows.TableBackSaid :=
 OpenClaim.holds_of_wide 8 Try.f8 rfl rfl rfl rfl rfl rfl rfl ⟨rfl, rfl, rfl, rfl, rfl⟩ rfl rfl rfl rfl rfl (by kernel_rfl) Try.func8 (by kernel_rfl)
  (of_decide_eq_true (by kernel_rfl)) (by unfold Func.isWrapper; first | (rw [if_pos (by decide +kernel)]; kernel_rfl) | (rw [if_neg (by decide +kernel)]; exact ⟨rfl, rfl⟩))
  (fun os started H enc _ => Po hp os started H enc)
end Go.Rv
