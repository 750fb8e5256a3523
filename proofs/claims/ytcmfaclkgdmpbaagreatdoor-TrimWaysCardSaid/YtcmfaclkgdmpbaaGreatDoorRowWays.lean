/- The rows of chapter 12 over the plain laws: from what a law's plain text answers to the given statements. -/
import Derived.Test.YtcmfaclkgdmpbaaGreatDoorRows
import Derived.Test.YtcmfaclkgdmpbaaGreatDoorTie
import Derived.Test.YtcmfaclkgdmpbaaGreatDoorCards
import Derived.Test.YtcmfaclkgdmpbaaGreatDoorRgL6
import Derived.Test.YtcmfaclkgdmpbaaGreatDoorRvW
import Derived.SevenTiedAt
namespace Go.Rv
open Go.Proofs Go.Proofs.YtcmfaclkgdmpbaaGreatDoor Go.ChangeShapes Go.WideShapes Go.RowKit
set_option maxRecDepth 100000
set_option linter.unusedVariables false
theorem trydOwn : ownKnob Tryz.prog.godebug = none := by kernel_rfl
theorem trydLaidOut : laidOutB Tryz.prog = true := by kernel_rfl
theorem trydG0 : Tryz.prog.globalNamed "internal/strconv.uint64pow10" = some 0 := by kernel_rfl
theorem trydT0 : (Tryz.prog.globals[0]?).map (·.type) = some 201 := by kernel_rfl
theorem cc61 : Tryz.prog.cellsOf 61 = 1 := by kernel_rfl
theorem cc201 : Tryz.prog.cellsOf 201 = 20 := by kernel_rfl
theorem laid_plain (W : World) (h : laidMetH Tryz.prog [("math/bits.deBruijn32tab", Rows.laid_math_bits_deBruijn32tab), ("math/bits.deBruijn64tab", Rows.laid_math_bits_deBruijn64tab), ("internal/strconv.uint64pow10", Rows.laid_internal_strconv_uint64pow10)] W) : Xt W [] [.tab 0 Xs] [] := by
 have h' : laidMet Tryz.prog [("math/bits.deBruijn32tab", Rows.laid_math_bits_deBruijn32tab), ("math/bits.deBruijn64tab", Rows.laid_math_bits_deBruijn64tab), ("internal/strconv.uint64pow10", Rows.laid_internal_strconv_uint64pow10)] W := h
 obtain ⟨ps, h1, _⟩ := h'
 obtain ⟨_, _, _, _, _, _, _, _, _, _, h2, _⟩ := h1
 obtain ⟨_, _, _, _, _, _, _, _, _, _, h3, _⟩ := h2
 exact tab_of_laid (ns := Lib.pow10Tab) trydG0 trydT0 Tryz.underlying201 Tryz.underlying61 cc61 cc201 rfl h3
theorem door_met (os : Os) (args : Array Value) : laidMetH Tryz.prog [("math/bits.deBruijn32tab", Rows.laid_math_bits_deBruijn32tab), ("math/bits.deBruijn64tab", Rows.laid_math_bits_deBruijn64tab), ("internal/strconv.uint64pow10", Rows.laid_internal_strconv_uint64pow10)] ((World.doorLaid Tryz.prog 400 os).forCall (fun _ _ => 0) ⟨#[], args, []⟩).memory :=
 laidMetH_of_parts3 (fuel := 8) (laidMet_of_run' 8 (by kernel_rfl) (by kernel_rfl)) (by kernel_rfl) (by kernel_rfl)
theorem c5 : Tryz.prog.cellsOf 5 = 1 := by kernel_rfl
abbrev ok5 (x : Int) : Prop := (Lit.int .u8 x).wf = true
theorem rd5 : Rd Tryz.prog 5 (cI .u8) ok5 := Rd.int Tryz.underlying5
theorem c22 : Tryz.prog.cellsOf 22 = 256 := by kernel_rfl
abbrev ok22 (x : Zg) : Prop := ∀ i, i < 256 → (Lit.int .u8 (x.f i)).wf = true
theorem rd22 : Rd Tryz.prog 22 (Zg.dc 256 .u8) ok22 := Rd.arrN Tryz.underlying22 Tryz.underlying5 c5 c22
theorem c3 : Tryz.prog.cellsOf 3 = 1 := by kernel_rfl
abbrev ok3 (x : Int) : Prop := (Lit.int .i64 x).wf = true
theorem rd3 : Rd Tryz.prog 3 (cI .i64) ok3 := Rd.int Tryz.underlying3
theorem c24 : Tryz.prog.cellsOf 24 = 257 := by kernel_rfl
abbrev ok24 (x : Q5) : Prop := ok22 x.Of ∧ ok3 x.Many
theorem rd24 : Rd Tryz.prog 24 Qcf ok24 := by
 have h := Rd.struct Tryz.underlying24 c24 (RdAt.cons (sz := 256) (by rfl) c22 rd22 (RdAt.cons (sz := 1) (by rfl) c3 rd3 (RdAt.nil _)))
 exact h.map (fun x => (⟨x.1, x.2.1⟩ : Q5)) (fun x => by simp only [Qcf, Qgj, Qhx, Qgw, Qhc, cI, cL, cB, cS, Zs.dc, Z2.dc]) (fun _ h => ⟨h.1, h.2.1⟩)
theorem c59 : Tryz.prog.cellsOf 59 = 2 := by kernel_rfl
abbrev ok59 (x : Zs) : Prop := (Lit.int .i64 x.a0).wf = true ∧ (Lit.int .i64 x.a1).wf = true
theorem rd59 : Rd Tryz.prog 59 (Zs.dc .i64) ok59 := Rd.arr2 Tryz.underlying59 Tryz.underlying3 c3 c59
theorem c25 : Tryz.prog.cellsOf 25 = 1 := by kernel_rfl
abbrev ok25 (x : List Zs) : Prop := x.length ≤ maxLen ∧ ∀ a ∈ x, ok59 a
theorem rd25 : Rd Tryz.prog 25 (cL 2 (Zs.dc .i64)) ok25 := Rd.slice Tryz.underlying25 c59 (by decide) rd59
theorem c38 : Tryz.prog.cellsOf 38 = 1 := by kernel_rfl
abbrev ok38 (x : List Int) : Prop := x.length ≤ maxLen ∧ ∀ a ∈ x, ok3 a
theorem rd38 : Rd Tryz.prog 38 (cL 1 (cI .i64)) ok38 := Rd.slice Tryz.underlying38 c3 (by decide) rd3
theorem c52 : Tryz.prog.cellsOf 52 = 1 := by kernel_rfl
abbrev ok52 (x : List Int) : Prop := x.length ≤ maxLen ∧ ∀ a ∈ x, ok5 a
theorem rd52 : Rd Tryz.prog 52 (cL 1 (cI .u8)) ok52 := Rd.slice Tryz.underlying52 c5 (by decide) rd5
theorem c54 : Tryz.prog.cellsOf 54 = 2 := by kernel_rfl
abbrev ok54 (x : Qc) : Prop := ok3 x.To ∧ ok52 x.Ops
theorem rd54 : Rd Tryz.prog 54 Qi ok54 := by
 have h := Rd.struct Tryz.underlying54 c54 (RdAt.cons (sz := 1) (by rfl) c3 rd3 (RdAt.cons (sz := 1) (by rfl) c52 rd52 (RdAt.nil _)))
 exact h.map (fun x => (⟨x.1, x.2.1⟩ : Qc)) (fun x => by simp only [Qi, Qgj, Qhx, Qgw, Qhc, cI, cL, cB, cS, Zs.dc, Z2.dc]) (fun _ h => ⟨h.1, h.2.1⟩)
theorem c55 : Tryz.prog.cellsOf 55 = 1 := by kernel_rfl
abbrev ok55 (x : List Qc) : Prop := x.length ≤ maxLen ∧ ∀ a ∈ x, ok54 a
theorem rd55 : Rd Tryz.prog 55 (cL 2 Qi) ok55 := Rd.slice Tryz.underlying55 c54 (by decide) rd54
theorem c49 : Tryz.prog.cellsOf 49 = 1 := by kernel_rfl
abbrev ok49 (x : List (List Qc)) : Prop := x.length ≤ maxLen ∧ ∀ a ∈ x, ok55 a
theorem rd49 : Rd Tryz.prog 49 (cL 1 (cL 2 Qi)) ok49 := Rd.slice Tryz.underlying49 c55 (by decide) rd55
theorem c51 : Tryz.prog.cellsOf 51 = 4 := by kernel_rfl
abbrev ok51 (x : Qa) : Prop := ok38 x.L ∧ ok38 x.R ∧ ok38 x.Rule ∧ ok49 x.Next
theorem rd51 : Rd Tryz.prog 51 Qd ok51 := by
 have h := Rd.struct Tryz.underlying51 c51 (RdAt.cons (sz := 1) (by rfl) c38 rd38 (RdAt.cons (sz := 1) (by rfl) c38 rd38 (RdAt.cons (sz := 1) (by rfl) c38 rd38 (RdAt.cons (sz := 1) (by rfl) c49 rd49 (RdAt.nil _)))))
 exact h.map (fun x => (⟨x.1, x.2.1, x.2.2.1, x.2.2.2.1⟩ : Qa)) (fun x => by simp only [Qi, Qd, Qgj, Qhx, Qgw, Qhc, cI, cL, cB, cS, Zs.dc, Z2.dc]) (fun _ h => ⟨h.1, h.2.1, h.2.2.1, h.2.2.2.1⟩)
theorem c26 : Tryz.prog.cellsOf 26 = 1 := by kernel_rfl
abbrev ok26 (x : List Qa) : Prop := x.length ≤ maxLen ∧ ∀ a ∈ x, ok51 a
theorem rd26 : Rd Tryz.prog 26 (cL 4 Qd) ok26 := Rd.slice Tryz.underlying26 c51 (by decide) rd51
theorem c28 : Tryz.prog.cellsOf 28 = 259 := by kernel_rfl
abbrev ok28 (x : Qm) : Prop := ok24 x.Split ∧ ok25 x.Counts ∧ ok26 x.States
theorem rd28 : Rd Tryz.prog 28 c_api_Auto ok28 := by
 have h := Rd.struct Tryz.underlying28 c28 (RdAt.cons (sz := 257) (by rfl) c24 rd24 (RdAt.cons (sz := 1) (by rfl) c25 rd25 (RdAt.cons (sz := 1) (by rfl) c26 rd26 (RdAt.nil _))))
 exact h.map (fun x => (⟨x.1, x.2.1, x.2.2.1⟩ : Qm)) (fun x => by simp only [c_api_Auto, Qi, Qcf, Qd, Qgj, Qhx, Qgw, Qhc, cI, cL, cB, cS, Zs.dc, Z2.dc]) (fun _ h => ⟨h.1, h.2.1, h.2.2.1⟩)
theorem Qfo (hp : ∀ (a0 : Qm) (a1 : Int) (a2 : Int), ok28 a0 → ok5 a1 → ok5 a2 → ∃ K, Xz K a0 a1 a2 = some true) (os : Os) (started : os.Started) (H : Type) (enc : TypeId × Value → H) :
  ReturnsInHanded {} Tryz.checked os 6 .any (fun w args => (Rows.trimWaysSpec.pre enc Tryz.prog Tryz.f6 [] false w args ∧ laidMetH Tryz.prog [("math/bits.deBruijn32tab", Rows.laid_math_bits_deBruijn32tab), ("math/bits.deBruijn64tab", Rows.laid_math_bits_deBruijn64tab), ("internal/strconv.uint64pow10", Rows.laid_internal_strconv_uint64pow10)] w) ∧ sizedMet enc Tryz.prog Tryz.f6 (OpenSpec.ofChange Rows.trimWaysSpec) false w args)
   (Rows.trimWaysSpec.post enc Tryz.prog Tryz.f6 false true false false) := by
 refine returnsInHanded_of_change_and (C := Tryz.checked) (X := fun w _ => laidMetH Tryz.prog [("math/bits.deBruijn32tab", Rows.laid_math_bits_deBruijn32tab), ("math/bits.deBruijn64tab", Rows.laid_math_bits_deBruijn64tab), ("internal/strconv.uint64pow10", Rows.laid_internal_strconv_uint64pow10)] w) (fun _ _ _ hh h => h.of_heap hh) trydOwn started (by kernel_rfl) Tryz.func6
  (ChangeSpec.witness_shaped (enc := enc) (C := Tryz.checked) (os := os) (X := fun w _ => laidMetH Tryz.prog [("math/bits.deBruijn32tab", Rows.laid_math_bits_deBruijn32tab), ("math/bits.deBruijn64tab", Rows.laid_math_bits_deBruijn64tab), ("internal/strconv.uint64pow10", Rows.laid_internal_strconv_uint64pow10)] w) false (World.doorLaid Tryz.prog 400 os) #[.agg (List.replicate 256 (Value.int .u8 0) ++ [Value.int .i64 0] ++ [Value.slice none 0 0, Value.slice none 0 0]).toArray, .int .u8 0, .int .u8 0] 8 rfl (World.shaped_of_RefB (by kernel_rfl) (by kernel_rfl)) (by kernel_rfl) (by kernel_rfl) (by kernel_rfl) (door_met os _)) ?_
 intro W base args ds gs before hval0 hW _ _ hL _
 have hval : ∀ (j : Nat) t v, Tryz.f6.params[j]? = some t → args[j]? = some v → Value.okWide Tryz.prog W .any base t v := hval0
 have hW' := hW
 obtain ⟨p, q, hA, _, _, _, _⟩ := hW
 replace hA : DataW.TrodAll enc Tryz.prog W 0 (fun _ => true) true Tryz.f6.params.toList args.toList ds p := hA
 rw [Tryz.params6] at hA hval
 have hget : ∀ (j : Nat) (v : Value), args.toList[j]? = some v → args[j]? = some v := fun j v h => by rw [← Array.getElem?_toList]; exact h
 obtain ⟨v0, vs0, d0, ds0, p0, q0, e0, rfl, rfl, t0, hA0⟩ := trodAll_cons hA
 obtain ⟨v1, vs1, d1, ds1, p1, q1, e1, rfl, rfl, t1, hA1⟩ := trodAll_cons hA0
 obtain ⟨v2, vs2, d2, ds2, p2, q2, e2, rfl, rfl, t2, hA2⟩ := trodAll_cons hA1
 obtain ⟨ez, rfl, rfl⟩ := trodAll_nil hA2
 skip; subst e1; subst e2
 have hargs : args.toList = [v0, v1, v2] := by simp_all
 obtain ⟨a0, o0, r0⟩ := arg_agg Tryz.underlying28 rfl rd28 (hval 0 28 v0 rfl (hget 0 v0 (by rw [hargs]; rfl))) t0
 obtain ⟨a1, o1, r1⟩ := arg_flat (g := fun n => .ex (.int .u8 n)) Tryz.underlying5 rfl (fun _ => rfl) rd5 (hval 1 5 v1 rfl (hget 1 v1 (by rw [hargs]; rfl))) t1
 obtain ⟨a2, o2, r2⟩ := arg_flat (g := fun n => .ex (.int .u8 n)) Tryz.underlying5 rfl (fun _ => rfl) rd5 (hval 2 5 v2 rfl (hget 2 v2 (by rw [hargs]; rfl))) t2
 obtain ⟨K, hK⟩ := hp a0 a1 a2 o0 o1 o2
 refine law_call trydLaidOut (of_decide_eq_true (by kernel_rfl)) hW' rfl rfl (tb := 4) (by kernel_rfl) Tryz.underlying4 (S2 K hK) (by rw [hargs]; rfl) ?_ (laid_plain W hL)
 intro i v x hv hx
 rw [hargs] at hv
 match i, hv, hx with
 | 0, hv, hx => simp at hv hx; subst hv; subst hx; exact r0
 | 1, hv, hx => simp at hv hx; subst hv; subst hx; exact r1
 | 2, hv, hx => simp at hv hx; subst hv; subst hx; exact r2
theorem trimWays_holds (hp : ∀ (a0 : Qm) (a1 : Int) (a2 : Int), ok28 a0 → ok5 a1 → ok5 a2 → ∃ K, Xz K a0 a1 a2 = some true) : Rows.TrimWaysSaid :=
 OpenClaim.holds_of_wide 6 Tryz.f6 rfl rfl rfl rfl rfl rfl rfl ⟨rfl, rfl, rfl, rfl, rfl⟩ rfl rfl rfl rfl rfl (by kernel_rfl) Tryz.func6 (by kernel_rfl)
  (of_decide_eq_true (by kernel_rfl)) (by unfold Func.isWrapper; first | (rw [if_pos (by decide +kernel)]; kernel_rfl) | (rw [if_neg (by decide +kernel)]; exact ⟨rfl, rfl⟩))
  (fun os started H enc _ => Qfo hp os started H enc)
theorem trimWays_card (hp : ∀ (a0 : Qm) (a1 : Int) (a2 : Int), ok28 a0 → ok5 a1 → ok5 a2 → ∃ K, Xz K a0 a1 a2 = some true) : Rows.TrimWaysCardSaid :=
 Claim7.holds_tied_plain_at .later [] [.data, .data, .data] true (true, "f16aef468eda9596b0e1c36e5d6d831041177148b627a83f527ca87b555b2e29") false
  (trimWays_holds hp) (fun _ h => by cases h) (by kernel_rfl) (fun _ h => by cases h) trimWays_row_tie rfl ⟨rfl, rfl⟩ (by kernel_rfl) rfl
  (fun f fn hf hfn => by
   obtain rfl : f = 6 := Option.some.inj ((show Tryz.prog.funcNamed "raddle/raddlelaw12.TrimWays" = some 6 by kernel_rfl).symm.trans hf) |>.symm
   obtain rfl : fn = Tryz.f6 := (Option.some.inj (Tryz.func6.symm.trans hfn)).symm
   exact ⟨by kernel_rfl, fun j t ht => by
    rw [Tryz.params6] at ht
    have hm : t ∈ [28, 5, 5] := by simpa using Array.mem_of_getElem? ht
    have hall : ([28, 5, 5].all fun u => !Tryz.prog.wantsStandIn u) = true := by kernel_rfl
    exact (show Tryz.prog.wantsStandIn t = false by simpa using Qhh.1 hall t hm)⟩)
  (by kernel_rfl)
end Go.Rv
