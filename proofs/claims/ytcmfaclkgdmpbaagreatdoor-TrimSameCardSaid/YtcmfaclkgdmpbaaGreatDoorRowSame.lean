/- The rows of chapter 12 over the plain laws: from what a law's plain text answers to the given statements. -/
import Derived.Test.YtcmfaclkgdmpbaaGreatDoorRows
import Derived.Test.YtcmfaclkgdmpbaaGreatDoorTie
import Derived.Test.YtcmfaclkgdmpbaaGreatDoorCards
import Derived.Test.YtcmfaclkgdmpbaaGreatDoorRgL5
import Derived.Test.YtcmfaclkgdmpbaaGreatDoorRvW
import Derived.SevenTiedAt
namespace Go.Rv
open Go.Proofs Go.Proofs.YtcmfaclkgdmpbaaGreatDoor Go.ChangeShapes Go.WideShapes Go.RowKit
set_option maxRecDepth 100000
set_option linter.unusedVariables false
theorem trydOwn : ownKnob Tryz.prog.godebug = none := by kernel_rfl
theorem trydLaidOut : laidOutB Tryz.prog = true := by kernel_rfl
theorem trydG0 : Tryz.prog.globalNamed "internal/strconv.uint64pow10" = some 0 := by kernel_rfl
theorem trydT0 : (Tryz.prog.globals[0]?).map (·.type) = some 201 := by kernel_rfl
theorem cc61 : Tryz.prog.cellsOf 61 = 1 := by kernel_rfl
theorem cc201 : Tryz.prog.cellsOf 201 = 20 := by kernel_rfl
theorem laid_plain (W : World) (h : laidMetH Tryz.prog [("math/bits.deBruijn32tab", Rows.laid_math_bits_deBruijn32tab), ("math/bits.deBruijn64tab", Rows.laid_math_bits_deBruijn64tab), ("internal/strconv.uint64pow10", Rows.laid_internal_strconv_uint64pow10)] W) : Vq W [] [.tab 0 Ub] [] := by
 have h' : laidMet Tryz.prog [("math/bits.deBruijn32tab", Rows.laid_math_bits_deBruijn32tab), ("math/bits.deBruijn64tab", Rows.laid_math_bits_deBruijn64tab), ("internal/strconv.uint64pow10", Rows.laid_internal_strconv_uint64pow10)] W := h
 obtain ⟨ps, h1, _⟩ := h'
 obtain ⟨_, _, _, _, _, _, _, _, _, _, h2, _⟩ := h1
 obtain ⟨_, _, _, _, _, _, _, _, _, _, h3, _⟩ := h2
 exact tab_of_laid (ns := Lib.pow10Tab) trydG0 trydT0 Tryz.underlying201 Tryz.underlying61 cc61 cc201 rfl h3
theorem door_met (os : Os) (args : Array Value) : laidMetH Tryz.prog [("math/bits.deBruijn32tab", Rows.laid_math_bits_deBruijn32tab), ("math/bits.deBruijn64tab", Rows.laid_math_bits_deBruijn64tab), ("internal/strconv.uint64pow10", Rows.laid_internal_strconv_uint64pow10)] ((World.doorLaid Tryz.prog 400 os).forCall (fun _ _ => 0) ⟨#[], args, []⟩).memory :=
 laidMetH_of_parts3 (fuel := 8) (laidMet_of_run' 8 (by kernel_rfl) (by kernel_rfl)) (by kernel_rfl) (by kernel_rfl)
theorem c3 : Tryz.prog.cellsOf 3 = 1 := by kernel_rfl
abbrev ok3 (x : Int) : Prop := (Lit.int .i64 x).wf = true
theorem rd3 : Rd Tryz.prog 3 (cI .i64) ok3 := Rd.int Tryz.underlying3
theorem c38 : Tryz.prog.cellsOf 38 = 1 := by kernel_rfl
abbrev ok38 (x : List Int) : Prop := x.length ≤ maxLen ∧ ∀ a ∈ x, ok3 a
theorem rd38 : Rd Tryz.prog 38 (cL 1 (cI .i64)) ok38 := Rd.slice Tryz.underlying38 c3 (by decide) rd3
theorem c61 : Tryz.prog.cellsOf 61 = 1 := by kernel_rfl
theorem c63 : Tryz.prog.cellsOf 63 = 4 := by kernel_rfl
abbrev ok63 (x : Zy) : Prop := ((Lit.int .u64 x.a0).wf = true ∧ (Lit.int .u64 x.a1).wf = true) ∧ (Lit.int .u64 x.a2).wf = true ∧ (Lit.int .u64 x.a3).wf = true
theorem rd63 : Rd Tryz.prog 63 (Zy.dc .u64) ok63 := Rd.arr4 Tryz.underlying63 Tryz.underlying61 c61 c63
theorem c4 : Tryz.prog.cellsOf 4 = 1 := by kernel_rfl
abbrev ok4 (x : Bool) : Prop := True
theorem rd4 : Rd Tryz.prog 4 cB ok4 := Rd.bool Tryz.underlying4
theorem c65 : Tryz.prog.cellsOf 65 = 9 := by kernel_rfl
abbrev ok65 (x : Zl) : Prop := ok63 x.S ∧ ok3 x.Lo ∧ ok3 x.Hi ∧ ok3 x.Rule ∧ ok4 x.Last ∧ ok38 x.Next
theorem rd65 : Rd Tryz.prog 65 Qv ok65 := by
 have h := Rd.struct Tryz.underlying65 c65 (RdAt.cons (sz := 4) (by rfl) c63 rd63 (RdAt.cons (sz := 1) (by rfl) c3 rd3 (RdAt.cons (sz := 1) (by rfl) c3 rd3 (RdAt.cons (sz := 1) (by rfl) c3 rd3 (RdAt.cons (sz := 1) (by rfl) c4 rd4 (RdAt.cons (sz := 1) (by rfl) c38 rd38 (RdAt.nil _)))))))
 exact h.map (fun x => (⟨x.1, x.2.1, x.2.2.1, x.2.2.2.1, x.2.2.2.2.1, x.2.2.2.2.2.1⟩ : Zl)) (fun x => by simp only [Qv, Qk0, Qmk, Qlc, Qli, cI, cL, cB, cS, Xf.dc, Zy.dc]) (fun _ h => ⟨h.1, h.2.1, h.2.2.1, h.2.2.2.1, h.2.2.2.2.1, h.2.2.2.2.2.1⟩)
theorem c41 : Tryz.prog.cellsOf 41 = 1 := by kernel_rfl
abbrev ok41 (x : List Zl) : Prop := x.length ≤ maxLen ∧ ∀ a ∈ x, ok65 a
theorem rd41 : Rd Tryz.prog 41 (cL 9 Qv) ok41 := Rd.slice Tryz.underlying41 c65 (by decide) rd65
theorem c43 : Tryz.prog.cellsOf 43 = 2 := by kernel_rfl
abbrev ok43 (x : Qj) : Prop := ok38 x.First ∧ ok41 x.P
theorem rd43 : Rd Tryz.prog 43 Qkg ok43 := by
 have h := Rd.struct Tryz.underlying43 c43 (RdAt.cons (sz := 1) (by rfl) c38 rd38 (RdAt.cons (sz := 1) (by rfl) c41 rd41 (RdAt.nil _)))
 exact h.map (fun x => (⟨x.1, x.2.1⟩ : Qj)) (fun x => by simp only [Qkg, Qv, Qk0, Qmk, Qlc, Qli, cI, cL, cB, cS, Xf.dc, Zy.dc]) (fun _ h => ⟨h.1, h.2.1⟩)
abbrev ok9 (x : ByteArray) : Prop := x.size ≤ maxLen
theorem rd9 : Rd Tryz.prog 9 cS ok9 := Rd.string Tryz.underlying9
theorem Qj1 (hp : ∀ (a0 : Qj) (a1 : ByteArray), ok43 a0 → ok9 a1 → ∃ K, V1 K a0 a1 = some true) (os : Os) (started : os.Started) (H : Type) (enc : TypeId × Value → H) :
  ReturnsInHanded {} Tryz.checked os 5 .any (fun w args => (Rows.trimSameSpec.pre enc Tryz.prog Tryz.f5 [] false w args ∧ laidMetH Tryz.prog [("math/bits.deBruijn32tab", Rows.laid_math_bits_deBruijn32tab), ("math/bits.deBruijn64tab", Rows.laid_math_bits_deBruijn64tab), ("internal/strconv.uint64pow10", Rows.laid_internal_strconv_uint64pow10)] w) ∧ sizedMet enc Tryz.prog Tryz.f5 (OpenSpec.ofChange Rows.trimSameSpec) false w args)
   (Rows.trimSameSpec.post enc Tryz.prog Tryz.f5 false true false false) := by
 refine returnsInHanded_of_change_and (C := Tryz.checked) (X := fun w _ => laidMetH Tryz.prog [("math/bits.deBruijn32tab", Rows.laid_math_bits_deBruijn32tab), ("math/bits.deBruijn64tab", Rows.laid_math_bits_deBruijn64tab), ("internal/strconv.uint64pow10", Rows.laid_internal_strconv_uint64pow10)] w) (fun _ _ _ hh h => h.of_heap hh) trydOwn started (by kernel_rfl) Tryz.func5
  (ChangeSpec.witness_shaped (enc := enc) (C := Tryz.checked) (os := os) (X := fun w _ => laidMetH Tryz.prog [("math/bits.deBruijn32tab", Rows.laid_math_bits_deBruijn32tab), ("math/bits.deBruijn64tab", Rows.laid_math_bits_deBruijn64tab), ("internal/strconv.uint64pow10", Rows.laid_internal_strconv_uint64pow10)] w) false (World.doorLaid Tryz.prog 400 os) #[.agg #[.slice none 0 0, .slice none 0 0], .string ⟨#[]⟩] 8 rfl (World.shaped_of_RefB (by kernel_rfl) (by kernel_rfl)) (by kernel_rfl) (by kernel_rfl) (by kernel_rfl) (door_met os _)) ?_
 intro W base args ds gs before hval0 hW _ _ hL _
 have hval : ∀ (j : Nat) t v, Tryz.f5.params[j]? = some t → args[j]? = some v → Value.okWide Tryz.prog W .any base t v := hval0
 have hW' := hW
 obtain ⟨p, q, hA, _, _, _, _⟩ := hW
 replace hA : DataW.TrodAll enc Tryz.prog W 0 (fun _ => true) true Tryz.f5.params.toList args.toList ds p := hA
 rw [Tryz.params5] at hA hval
 have hget : ∀ (j : Nat) (v : Value), args.toList[j]? = some v → args[j]? = some v := fun j v h => by rw [← Array.getElem?_toList]; exact h
 obtain ⟨v0, vs0, d0, ds0, p0, q0, e0, rfl, rfl, t0, hA0⟩ := trodAll_cons hA
 obtain ⟨v1, vs1, d1, ds1, p1, q1, e1, rfl, rfl, t1, hA1⟩ := trodAll_cons hA0
 obtain ⟨ez, rfl, rfl⟩ := trodAll_nil hA1
 skip; subst e1
 have hargs : args.toList = [v0, v1] := by simp_all
 obtain ⟨a0, o0, r0⟩ := arg_agg Tryz.underlying43 rfl rd43 (hval 0 43 v0 rfl (hget 0 v0 (by rw [hargs]; rfl))) t0
 obtain ⟨a1, o1, r1⟩ := arg_flat (g := fun s => .ex (.string s)) Tryz.underlying9 rfl (fun _ => rfl) rd9 (hval 1 9 v1 rfl (hget 1 v1 (by rw [hargs]; rfl))) t1
 obtain ⟨K, hK⟩ := hp a0 a1 o0 o1
 refine law_call trydLaidOut (of_decide_eq_true (by kernel_rfl)) hW' rfl rfl (tb := 4) (by kernel_rfl) Tryz.underlying4 (Qct K hK) (by rw [hargs]; rfl) ?_ (laid_plain W hL)
 intro i v x hv hx
 rw [hargs] at hv
 match i, hv, hx with
 | 0, hv, hx => simp at hv hx; subst hv; subst hx; exact r0
 | 1, hv, hx => simp at hv hx; subst hv; subst hx; exact r1
theorem trimSame_holds (hp : ∀ (a0 : Qj) (a1 : ByteArray), ok43 a0 → ok9 a1 → ∃ K, V1 K a0 a1 = some true) : Rows.TrimSameSaid :=
 OpenClaim.holds_of_wide 5 Tryz.f5 rfl rfl rfl rfl rfl rfl rfl ⟨rfl, rfl, rfl, rfl, rfl⟩ rfl rfl rfl rfl rfl (by kernel_rfl) Tryz.func5 (by kernel_rfl)
  (of_decide_eq_true (by kernel_rfl)) (by unfold Func.isWrapper; first | (rw [if_pos (by decide +kernel)]; kernel_rfl) | (rw [if_neg (by decide +kernel)]; exact ⟨rfl, rfl⟩))
  (fun os started H enc _ => Qj1 hp os started H enc)
theorem trimSame_card (hp : ∀ (a0 : Qj) (a1 : ByteArray), ok43 a0 → ok9 a1 → ∃ K, V1 K a0 a1 = some true) : Rows.TrimSameCardSaid :=
 Claim7.holds_tied_plain_at .later [] [.data, .data, .data] true (true, "f16aef468eda9596b0e1c36e5d6d831041177148b627a83f527ca87b555b2e29") false
  (trimSame_holds hp) (fun _ h => by cases h) (by kernel_rfl) (fun _ h => by cases h) trimSame_row_tie rfl ⟨rfl, rfl⟩ (by kernel_rfl) rfl
  (fun f fn hf hfn => by
   obtain rfl : f = 5 := Option.some.inj ((show Tryz.prog.funcNamed "raddle/raddlelaw12.TrimSame" = some 5 by kernel_rfl).symm.trans hf) |>.symm
   obtain rfl : fn = Tryz.f5 := (Option.some.inj (Tryz.func5.symm.trans hfn)).symm
   exact ⟨by kernel_rfl, fun j t ht => by
    rw [Tryz.params5] at ht
    have hm : t ∈ [43, 9] := by simpa using Array.mem_of_getElem? ht
    have hall : ([43, 9].all fun u => !Tryz.prog.wantsStandIn u) = true := by kernel_rfl
    exact (show Tryz.prog.wantsStandIn t = false by simpa using Qlv.1 hall t hm)⟩)
  (by kernel_rfl)
end Go.Rv
