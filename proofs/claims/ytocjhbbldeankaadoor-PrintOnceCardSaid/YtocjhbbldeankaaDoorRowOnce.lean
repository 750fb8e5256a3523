/- The rows of chapter 05 over the plain laws: from what a law's plain text answers to the given statements. -/
import Derived.Test.YtocjhbbldeankaaDoorRows
import Derived.Test.YtocjhbbldeankaaDoorTie
import Derived.Test.YtocjhbbldeankaaDoorCards
import Derived.Test.YtocjhbbldeankaaDoorRgL6
import Derived.Test.YtocjhbbldeankaaDoorRvW
import Derived.SevenTiedAt
namespace Go.Rv
open Go.Proofs Go.Proofs.YtocjhbbldeankaaDoor Go.ChangeShapes Go.WideShapes Go.RowKit
set_option maxRecDepth 100000
set_option linter.unusedVariables false
theorem trydOwn : ownKnob Tryd.prog.godebug = none := by kernel_rfl
theorem trydLaidOut : laidOutB Tryd.prog = true := by kernel_rfl
theorem trydG1 : Tryd.prog.globalNamed "internal/strconv.uint64pow10" = some 1 := by kernel_rfl
theorem trydT1 : (Tryd.prog.globals[1]?).map (·.type) = some 105 := by kernel_rfl
theorem trydG2 : Tryd.prog.globalNamed "math/bits.deBruijn64tab" = some 2 := by kernel_rfl
theorem trydT2 : (Tryd.prog.globals[2]?).map (·.type) = some 110 := by kernel_rfl
theorem trydG3 : Tryd.prog.globalNamed "math/bits.deBruijn32tab" = some 3 := by kernel_rfl
theorem trydT3 : (Tryd.prog.globals[3]?).map (·.type) = some 120 := by kernel_rfl
theorem cc5 : Tryd.prog.cellsOf 5 = 1 := by kernel_rfl
theorem cc23 : Tryd.prog.cellsOf 23 = 1 := by kernel_rfl
theorem cc105 : Tryd.prog.cellsOf 105 = 20 := by kernel_rfl
theorem cc110 : Tryd.prog.cellsOf 110 = 64 := by kernel_rfl
theorem cc120 : Tryd.prog.cellsOf 120 = 32 := by kernel_rfl
theorem laid_plain (W : World) (h : laidMetH Tryd.prog [("math/bits.deBruijn32tab", Rows.laid_math_bits_deBruijn32tab), ("math/bits.deBruijn64tab", Rows.laid_math_bits_deBruijn64tab), ("internal/strconv.uint64pow10", Rows.laid_internal_strconv_uint64pow10)] W) : HeapR W [] [.tab 1 pow10V, .ro 2 deBruijnD, .ro 3 deBruijn32D] [] := by
 have h' : laidMet Tryd.prog [("math/bits.deBruijn32tab", Rows.laid_math_bits_deBruijn32tab), ("math/bits.deBruijn64tab", Rows.laid_math_bits_deBruijn64tab), ("internal/strconv.uint64pow10", Rows.laid_internal_strconv_uint64pow10)] W := h
 obtain ⟨ps, h1, _⟩ := h'
 have a := ro_of_laid (ns := deBruijn32) trydG3 trydT3 Tryd.underlying120 Tryd.underlying5 cc5 cc120 rfl h1
 obtain ⟨_, _, _, _, _, _, _, _, _, _, h2, _⟩ := h1
 have b := ro_of_laid (ns := deBruijn) trydG2 trydT2 Tryd.underlying110 Tryd.underlying5 cc5 cc110 rfl h2
 obtain ⟨_, _, _, _, _, _, _, _, _, _, h3, _⟩ := h2
 have c := tab_of_laid (ns := Lib.pow10Tab) trydG1 trydT1 Tryd.underlying105 Tryd.underlying23 cc23 cc105 rfl h3
 exact HeapR.join (HeapR.join c b) a
theorem door_met (os : Os) (args : Array Value) : laidMetH Tryd.prog [("math/bits.deBruijn32tab", Rows.laid_math_bits_deBruijn32tab), ("math/bits.deBruijn64tab", Rows.laid_math_bits_deBruijn64tab), ("internal/strconv.uint64pow10", Rows.laid_internal_strconv_uint64pow10)] ((World.doorLaid Tryd.prog 400 os).forCall (fun _ _ => 0) ⟨#[], args, []⟩).memory :=
 laidMetH_of_parts3 (fuel := 8) (laidMet_of_run' 8 (by kernel_rfl) (by kernel_rfl)) (by kernel_rfl) (by kernel_rfl)
abbrev ok9 (x : ByteArray) : Prop := x.size ≤ maxLen
theorem rd9 : Rd Tryd.prog 9 cS ok9 := Rd.string Tryd.underlying9
theorem printOnce_lifted (hp : ∀ (a0 : ByteArray), ok9 a0 → ∃ K, l5_PrintOnce K a0 = some true) (os : Os) (started : os.Started) (H : Type) (enc : TypeId × Value → H) :
  ReturnsInHanded {} Tryd.checked os 6 .any (fun w args => (Rows.printOnceSpec.pre enc Tryd.prog Tryd.f6 [] false w args ∧ laidMetH Tryd.prog [("math/bits.deBruijn32tab", Rows.laid_math_bits_deBruijn32tab), ("math/bits.deBruijn64tab", Rows.laid_math_bits_deBruijn64tab), ("internal/strconv.uint64pow10", Rows.laid_internal_strconv_uint64pow10)] w) ∧ sizedMet enc Tryd.prog Tryd.f6 (OpenSpec.ofChange Rows.printOnceSpec) false w args)
   (Rows.printOnceSpec.post enc Tryd.prog Tryd.f6 false true false false) := by
 refine returnsInHanded_of_change_and (C := Tryd.checked) (X := fun w _ => laidMetH Tryd.prog [("math/bits.deBruijn32tab", Rows.laid_math_bits_deBruijn32tab), ("math/bits.deBruijn64tab", Rows.laid_math_bits_deBruijn64tab), ("internal/strconv.uint64pow10", Rows.laid_internal_strconv_uint64pow10)] w) (fun _ _ _ hh h => h.of_heap hh) trydOwn started (by kernel_rfl) Tryd.func6
  (ChangeSpec.witness_shaped (enc := enc) (C := Tryd.checked) (os := os) (X := fun w _ => laidMetH Tryd.prog [("math/bits.deBruijn32tab", Rows.laid_math_bits_deBruijn32tab), ("math/bits.deBruijn64tab", Rows.laid_math_bits_deBruijn64tab), ("internal/strconv.uint64pow10", Rows.laid_internal_strconv_uint64pow10)] w) false (World.doorLaid Tryd.prog 400 os) #[.string ⟨#[]⟩] 8 rfl (World.shaped_of_RefB (by kernel_rfl) (by kernel_rfl)) (by kernel_rfl) (by kernel_rfl) (by kernel_rfl) (door_met os _)) ?_
 intro W base args ds gs before hval0 hW _ _ hL _
 have hval : ∀ (j : Nat) t v, Tryd.f6.params[j]? = some t → args[j]? = some v → Value.okWide Tryd.prog W .any base t v := hval0
 have hW' := hW
 obtain ⟨p, q, hA, _, _, _, _⟩ := hW
 replace hA : DataW.TrodAll enc Tryd.prog W 0 (fun _ => true) true Tryd.f6.params.toList args.toList ds p := hA
 rw [Tryd.params6] at hA hval
 have hget : ∀ (j : Nat) (v : Value), args.toList[j]? = some v → args[j]? = some v := fun j v h => by rw [← Array.getElem?_toList]; exact h
 obtain ⟨v0, vs0, d0, ds0, p0, q0, e0, rfl, rfl, t0, hA0⟩ := trodAll_cons hA
 obtain ⟨ez, rfl, rfl⟩ := trodAll_nil hA0
 skip
 have hargs : args.toList = [v0] := by simp_all
 obtain ⟨a0, o0, r0⟩ := arg_flat (g := fun s => .ex (.string s)) Tryd.underlying9 rfl (fun _ => rfl) rd9 (hval 0 9 v0 rfl (hget 0 v0 (by rw [hargs]; rfl))) t0
 obtain ⟨K, hK⟩ := hp a0 o0
 refine law_call trydLaidOut (of_decide_eq_true (by kernel_rfl)) hW' rfl rfl (tb := 4) (by kernel_rfl) Tryd.underlying4 (l5_PrintOnce_T K hK) (by rw [hargs]; rfl) ?_ (laid_plain W hL)
 intro i v x hv hx
 rw [hargs] at hv
 match i, hv, hx with
 | 0, hv, hx => simp at hv hx; subst hv; subst hx; exact r0
theorem printOnce_holds (hp : ∀ (a0 : ByteArray), ok9 a0 → ∃ K, l5_PrintOnce K a0 = some true) : Rows.PrintOnceSaid :=
 OpenClaim.holds_of_wide 6 Tryd.f6 rfl rfl rfl rfl rfl rfl rfl ⟨rfl, rfl, rfl, rfl, rfl⟩ rfl rfl rfl rfl rfl (by kernel_rfl) Tryd.func6 (by kernel_rfl)
  (of_decide_eq_true (by kernel_rfl)) (by unfold Func.isWrapper; first | (rw [if_pos (by decide +kernel)]; kernel_rfl) | (rw [if_neg (by decide +kernel)]; exact ⟨rfl, rfl⟩))
  (fun os started H enc _ => printOnce_lifted hp os started H enc)
theorem printOnce_card (hp : ∀ (a0 : ByteArray), ok9 a0 → ∃ K, l5_PrintOnce K a0 = some true) : Rows.PrintOnceCardSaid :=
 Claim7.holds_tied_plain_at .later [] [.data, .data, .data] true (true, "bd037feb8679b4a783cc0d17873ff0e20c0e55b93c6138e93fd7d0f0a963a03b") false
  (printOnce_holds hp) (fun _ h => by cases h) (by kernel_rfl) (fun _ h => by cases h) printOnce_row_tie rfl ⟨rfl, rfl⟩ (by kernel_rfl) rfl
  (fun f fn hf hfn => by
   obtain rfl : f = 6 := Option.some.inj ((show Tryd.prog.funcNamed "raddle/raddlelaw05.PrintOnce" = some 6 by kernel_rfl).symm.trans hf) |>.symm
   obtain rfl : fn = Tryd.f6 := (Option.some.inj (Tryd.func6.symm.trans hfn)).symm
   exact ⟨by kernel_rfl, fun j t ht => by
    rw [Tryd.params6] at ht
    have hm : t ∈ [9] := by simpa using Array.mem_of_getElem? ht
    have hall : ([9].all fun u => !Tryd.prog.wantsStandIn u) = true := by kernel_rfl
    exact (show Tryd.prog.wantsStandIn t = false by simpa using List.all_eq_true.1 hall t hm)⟩)
  (by kernel_rfl)
end Go.Rv
