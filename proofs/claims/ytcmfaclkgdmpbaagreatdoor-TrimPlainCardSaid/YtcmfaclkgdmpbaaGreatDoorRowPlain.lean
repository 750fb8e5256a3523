/- The rows of chapter 12 over the plain laws: from what a law's plain text answers to the given statements. -/
import Derived.Test.YtcmfaclkgdmpbaaGreatDoorRows
import Derived.Test.YtcmfaclkgdmpbaaGreatDoorTie
import Derived.Test.YtcmfaclkgdmpbaaGreatDoorCards
import Derived.Test.YtcmfaclkgdmpbaaGreatDoorRgL8
import Derived.Test.YtcmfaclkgdmpbaaGreatDoorRvW
import Derived.SevenTiedAt
namespace Go.Rv
open Go.Proofs Go.Proofs.YtcmfaclkgdmpbaaGreatDoor Go.ChangeShapes Go.WideShapes Go.RowKit
set_option maxRecDepth 100000
set_option linter.unusedVariables false
theorem trydOwn : ownKnob Tryz.prog.godebug = none := by kernel_rfl
theorem trydLaidOut : laidOutB Tryz.prog = true := by kernel_rfl
theorem trydG0 : Tryz.prog.globalNamed "internal/strconv.uint64pow10" = some 0 := by kernel_rfl
theorem trydT0 : (Tryz.prog.globals[0]?).map (·.type) = some 201 := by kernel_rfl
theorem cc61 : Tryz.prog.cellsOf 61 = 1 := by kernel_rfl
theorem cc201 : Tryz.prog.cellsOf 201 = 20 := by kernel_rfl
theorem laid_plain (W : World) (h : laidMetH Tryz.prog [("math/bits.deBruijn32tab", Rows.laid_math_bits_deBruijn32tab), ("math/bits.deBruijn64tab", Rows.laid_math_bits_deBruijn64tab), ("internal/strconv.uint64pow10", Rows.laid_internal_strconv_uint64pow10)] W) : X1 W [] [.tab 0 Vo] [] := by
 have h' : laidMet Tryz.prog [("math/bits.deBruijn32tab", Rows.laid_math_bits_deBruijn32tab), ("math/bits.deBruijn64tab", Rows.laid_math_bits_deBruijn64tab), ("internal/strconv.uint64pow10", Rows.laid_internal_strconv_uint64pow10)] W := h
 obtain ⟨ps, h1, _⟩ := h'
 obtain ⟨_, _, _, _, _, _, _, _, _, _, h2, _⟩ := h1
 obtain ⟨_, _, _, _, _, _, _, _, _, _, h3, _⟩ := h2
 exact tab_of_laid (ns := Lib.pow10Tab) trydG0 trydT0 Tryz.underlying201 Tryz.underlying61 cc61 cc201 rfl h3
theorem door_met (os : Os) (args : Array Value) : laidMetH Tryz.prog [("math/bits.deBruijn32tab", Rows.laid_math_bits_deBruijn32tab), ("math/bits.deBruijn64tab", Rows.laid_math_bits_deBruijn64tab), ("internal/strconv.uint64pow10", Rows.laid_internal_strconv_uint64pow10)] ((World.doorLaid Tryz.prog 400 os).forCall (fun _ _ => 0) ⟨#[], args, []⟩).memory :=
 laidMetH_of_parts3 (fuel := 8) (laidMet_of_run' 8 (by kernel_rfl) (by kernel_rfl)) (by kernel_rfl) (by kernel_rfl)
theorem c5 : Tryz.prog.cellsOf 5 = 1 := by kernel_rfl
abbrev ok5 (x : Int) : Prop := (Lit.int .u8 x).wf = true
theorem rd5 : Rd Tryz.prog 5 (cI .u8) ok5 := Rd.int Tryz.underlying5
abbrev ok52 (x : List Int) : Prop := x.length ≤ maxLen ∧ ∀ a ∈ x, ok5 a
theorem rd52 : Rd Tryz.prog 52 (cL 1 (cI .u8)) ok52 := Rd.slice Tryz.underlying52 c5 (by decide) rd5
theorem Qd1 (hp : ∀ (a0 : List Int), ok52 a0 → ∃ K, Xt K a0 = some true) (os : Os) (started : os.Started) (H : Type) (enc : TypeId × Value → H) :
  ReturnsInHanded {} Tryz.checked os 8 .any (fun w args => (Rows.trimPlainSpec.pre enc Tryz.prog Tryz.f8 [] false w args ∧ laidMetH Tryz.prog [("math/bits.deBruijn32tab", Rows.laid_math_bits_deBruijn32tab), ("math/bits.deBruijn64tab", Rows.laid_math_bits_deBruijn64tab), ("internal/strconv.uint64pow10", Rows.laid_internal_strconv_uint64pow10)] w) ∧ sizedMet enc Tryz.prog Tryz.f8 (OpenSpec.ofChange Rows.trimPlainSpec) false w args)
   (Rows.trimPlainSpec.post enc Tryz.prog Tryz.f8 false true false false) := by
 refine returnsInHanded_of_change_and (C := Tryz.checked) (X := fun w _ => laidMetH Tryz.prog [("math/bits.deBruijn32tab", Rows.laid_math_bits_deBruijn32tab), ("math/bits.deBruijn64tab", Rows.laid_math_bits_deBruijn64tab), ("internal/strconv.uint64pow10", Rows.laid_internal_strconv_uint64pow10)] w) (fun _ _ _ hh h => h.of_heap hh) trydOwn started (by kernel_rfl) Tryz.func8
  (ChangeSpec.witness_shaped (enc := enc) (C := Tryz.checked) (os := os) (X := fun w _ => laidMetH Tryz.prog [("math/bits.deBruijn32tab", Rows.laid_math_bits_deBruijn32tab), ("math/bits.deBruijn64tab", Rows.laid_math_bits_deBruijn64tab), ("internal/strconv.uint64pow10", Rows.laid_internal_strconv_uint64pow10)] w) false (World.doorLaid Tryz.prog 400 os) #[.slice none 0 0] 8 rfl (World.shaped_of_RefB (by kernel_rfl) (by kernel_rfl)) (by kernel_rfl) (by kernel_rfl) (by kernel_rfl) (door_met os _)) ?_
 intro W base args ds gs before hval0 hW _ _ hL _
 have hval : ∀ (j : Nat) t v, Tryz.f8.params[j]? = some t → args[j]? = some v → Value.okWide Tryz.prog W .any base t v := hval0
 have hW' := hW
 obtain ⟨p, q, hA, _, _, _, _⟩ := hW
 replace hA : DataW.TrodAll enc Tryz.prog W 0 (fun _ => true) true Tryz.f8.params.toList args.toList ds p := hA
 rw [Tryz.params8] at hA hval
 have hget : ∀ (j : Nat) (v : Value), args.toList[j]? = some v → args[j]? = some v := fun j v h => by rw [← Array.getElem?_toList]; exact h
 obtain ⟨v0, vs0, d0, ds0, p0, q0, e0, rfl, rfl, t0, hA0⟩ := trodAll_cons hA
 obtain ⟨ez, rfl, rfl⟩ := trodAll_nil hA0
 skip
 have hargs : args.toList = [v0] := by simp_all
 obtain ⟨a0, o0, r0⟩ := arg_flat (g := fun (l : List Int) => .sl false 1 (l.map (cI .u8))) Tryz.underlying52 rfl (fun _ => rfl) rd52 (hval 0 52 v0 rfl (hget 0 v0 (by rw [hargs]; rfl))) t0
 obtain ⟨K, hK⟩ := hp a0 o0
 refine law_call trydLaidOut (of_decide_eq_true (by kernel_rfl)) hW' rfl rfl (tb := 4) (by kernel_rfl) Tryz.underlying4 (Pp K (flx0 := false) hK) (by rw [hargs]; rfl) ?_ (laid_plain W hL)
 intro i v x hv hx
 rw [hargs] at hv
 match i, hv, hx with
 | 0, hv, hx => simp at hv hx; subst hv; subst hx; exact r0
theorem Qey (hp : ∀ (a0 : List Int), ok52 a0 → ∃ K, Xt K a0 = some true) : Rows.TrimPlainSaid :=
 OpenClaim.holds_of_wide 8 Tryz.f8 rfl rfl rfl rfl rfl rfl rfl ⟨rfl, rfl, rfl, rfl, rfl⟩ rfl rfl rfl rfl rfl (by kernel_rfl) Tryz.func8 (by kernel_rfl)
  (of_decide_eq_true (by kernel_rfl)) (by unfold Func.isWrapper; first | (rw [if_pos (by decide +kernel)]; kernel_rfl) | (rw [if_neg (by decide +kernel)]; exact ⟨rfl, rfl⟩))
  (fun os started H enc _ => Qd1 hp os started H enc)
theorem trimPlain_card (hp : ∀ (a0 : List Int), ok52 a0 → ∃ K, Xt K a0 = some true) : Rows.TrimPlainCardSaid :=
 Claim7.holds_tied_plain_at .later [] [.data, .data, .data] true (true, "f16aef468eda9596b0e1c36e5d6d831041177148b627a83f527ca87b555b2e29") false
  (Qey hp) (fun _ h => by cases h) (by kernel_rfl) (fun _ h => by cases h) trimPlain_row_tie rfl ⟨rfl, rfl⟩ (by kernel_rfl) rfl
  (fun f fn hf hfn => by
   obtain rfl : f = 8 := Option.some.inj ((show Tryz.prog.funcNamed "raddle/raddlelaw12.TrimPlain" = some 8 by kernel_rfl).symm.trans hf) |>.symm
   obtain rfl : fn = Tryz.f8 := (Option.some.inj (Tryz.func8.symm.trans hfn)).symm
   exact ⟨by kernel_rfl, fun j t ht => by
    rw [Tryz.params8] at ht
    have hm : t ∈ [52] := by simpa using Array.mem_of_getElem? ht
    have hall : ([52].all fun u => !Tryz.prog.wantsStandIn u) = true := by kernel_rfl
    exact (show Tryz.prog.wantsStandIn t = false by simpa using Qgr.1 hall t hm)⟩)
  (by kernel_rfl)
end Go.Rv
