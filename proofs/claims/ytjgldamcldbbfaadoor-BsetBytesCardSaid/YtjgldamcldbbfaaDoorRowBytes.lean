/- The rows of chapter 01 over the plain laws: from what a law's plain text answers to the given statements. -/
import Derived.Test.YtjgldamcldbbfaaDoorRows
import Derived.Test.YtjgldamcldbbfaaDoorTie
import Derived.Test.YtjgldamcldbbfaaDoorCards
import Derived.Test.YtjgldamcldbbfaaDoorRgL9
import Derived.Test.YtjgldamcldbbfaaDoorRvN
import Derived.SevenTiedAt
namespace Go.Rv
open Go.Proofs Go.Proofs.YtjgldamcldbbfaaDoor Go.ChangeShapes Go.WideShapes Go.RowKit
set_option maxRecDepth 100000
set_option linter.unusedVariables false

theorem trydOwn : ownKnob Tryd.prog.godebug = none := by kernel_rfl
theorem trydLaidOut : laidOutB Tryd.prog = true := by kernel_rfl
theorem trydG0 : Tryd.prog.globalNamed "math/bits.deBruijn64tab" = some 0 := by kernel_rfl
theorem trydT0 : (Tryd.prog.globals[0]?).map (·.type) = some 50 := by kernel_rfl
theorem c5 : Tryd.prog.cellsOf 5 = 1 := by kernel_rfl
theorem c50 : Tryd.prog.cellsOf 50 = 64 := by kernel_rfl
abbrev okB (n : Int) : Prop := (Lit.int .u8 n).wf = true
abbrev okL (l : List Int) : Prop := l.length ≤ maxLen ∧ ∀ n ∈ l, okB n
theorem rdB : Rd Tryd.prog 5 (cI .u8) okB := Rd.int Tryd.underlying5
theorem rdL : Rd Tryd.prog 26 (cL 1 (cI .u8)) okL := Rd.slice Tryd.underlying26 c5 (by decide) rdB
theorem laid_plain (W : World) (h : laidMetH Tryd.prog [("math/bits.deBruijn64tab", Rows.laid_math_bits_deBruijn64tab)] W) : HeapR W [] [.ro 0 deBruijnD] [] := by
  have h' : laidMet Tryd.prog [("math/bits.deBruijn64tab", Rows.laid_math_bits_deBruijn64tab)] W := h
  obtain ⟨ps, h1, _⟩ := h'
  exact ro_of_laid (ns := deBruijn) trydG0 trydT0 Tryd.underlying50 Tryd.underlying5 c5 c50 rfl h1
theorem door_met (os : Os) (args : Array Value) : laidMetH Tryd.prog [("math/bits.deBruijn64tab", Rows.laid_math_bits_deBruijn64tab)] ((World.doorLaid Tryd.prog 400 os).forCall (fun _ _ => 0) ⟨#[], args, []⟩).memory :=
  laidMetH_of_parts3 (fuel := 8) (laidMet_of_run' 8 (by kernel_rfl) (by kernel_rfl)) (by kernel_rfl) (by kernel_rfl)

theorem bsetBytes_lifted (hp : ∀ (a0 : List Int) (a1 : Int), okL a0 → okB a1 → ∃ K, raddlelaw01_BsetBytes K a0 a1 = some true) (os : Os) (started : os.Started) (H : Type) (enc : TypeId × Value → H) :
    ReturnsInHanded {} Tryd.checked os 9 .any (fun w args => (Rows.bsetBytesSpec.pre enc Tryd.prog Tryd.f9 [] false w args ∧ laidMetH Tryd.prog [("math/bits.deBruijn64tab", Rows.laid_math_bits_deBruijn64tab)] w) ∧ sizedMet enc Tryd.prog Tryd.f9 (OpenSpec.ofChange Rows.bsetBytesSpec) false w args)
      (Rows.bsetBytesSpec.post enc Tryd.prog Tryd.f9 false true false false) := by
  refine returnsInHanded_of_change_and (C := Tryd.checked) (X := fun w _ => laidMetH Tryd.prog [("math/bits.deBruijn64tab", Rows.laid_math_bits_deBruijn64tab)] w) (fun _ _ _ hh h => h.of_heap hh) trydOwn started (by kernel_rfl) Tryd.func9
    (ChangeSpec.witness_shaped (enc := enc) (C := Tryd.checked) (os := os) (X := fun w _ => laidMetH Tryd.prog [("math/bits.deBruijn64tab", Rows.laid_math_bits_deBruijn64tab)] w) false (World.doorLaid Tryd.prog 400 os) #[.slice none 0 0, .int .u8 0] 8 rfl (World.shaped_of_RefB (by kernel_rfl) (by kernel_rfl)) (by kernel_rfl) (by kernel_rfl) (by kernel_rfl) (door_met os _)) ?_
  intro W base args ds gs before hval0 hW _ _ hL _
  have hval : ∀ (j : Nat) t v, Tryd.f9.params[j]? = some t → args[j]? = some v → Value.okWide Tryd.prog W .any base t v := hval0
  have hW' := hW
  obtain ⟨p, q, hA, _, _, _, _⟩ := hW
  replace hA : DataW.TrodAll enc Tryd.prog W 0 (fun _ => true) true Tryd.f9.params.toList args.toList ds p := hA
  rw [Tryd.params9] at hA hval
  have hget : ∀ (j : Nat) (v : Value), args.toList[j]? = some v → args[j]? = some v := fun j v h => by rw [← Array.getElem?_toList]; exact h
  obtain ⟨v0, vs0, d0, ds0, p0, q0, e0, rfl, rfl, t0, hA0⟩ := trodAll_cons hA
  obtain ⟨v1, vs1, d1, ds1, p1, q1, e1, rfl, rfl, t1, hA1⟩ := trodAll_cons hA0
  obtain ⟨ez, rfl, rfl⟩ := trodAll_nil hA1
  skip; subst e1
  have hargs : args.toList = [v0, v1] := by simp_all
  obtain ⟨a0, o0, r0⟩ := arg_flat (g := fun (l : List Int) => .sl false 1 (l.map (cI .u8))) Tryd.underlying26 rfl (fun _ => rfl) rdL (hval 0 26 v0 rfl (hget 0 v0 (by rw [hargs]; rfl))) t0
  obtain ⟨a1, o1, r1⟩ := arg_flat (g := fun n => .ex (.int .u8 n)) Tryd.underlying5 rfl (fun _ => rfl) rdB (hval 1 5 v1 rfl (hget 1 v1 (by rw [hargs]; rfl))) t1
  obtain ⟨K, hK⟩ := hp a0 a1 o0 o1
  refine law_call trydLaidOut (of_decide_eq_true (by kernel_rfl)) hW' rfl rfl (tb := 4) (by kernel_rfl) Tryd.underlying4 (raddlelaw01_BsetBytes_T K (flx0 := false) hK) (by rw [hargs]; rfl) ?_ (laid_plain W hL)
  intro i v x hv hx
  rw [hargs] at hv
  match i, hv, hx with
  | 0, hv, hx => simp at hv hx; subst hv; subst hx; exact r0
  | 1, hv, hx => simp at hv hx; subst hv; subst hx; exact r1
theorem bsetBytes_holds (hp : ∀ (a0 : List Int) (a1 : Int), okL a0 → okB a1 → ∃ K, raddlelaw01_BsetBytes K a0 a1 = some true) : Rows.BsetBytesSaid :=
  OpenClaim.holds_of_wide 9 Tryd.f9 rfl rfl rfl rfl rfl rfl rfl ⟨rfl, rfl, rfl, rfl, rfl⟩ rfl rfl rfl rfl rfl (by kernel_rfl) Tryd.func9 (by kernel_rfl)
    (of_decide_eq_true (by kernel_rfl)) (by unfold Func.isWrapper; first | (rw [if_pos (by decide +kernel)]; kernel_rfl) | (rw [if_neg (by decide +kernel)]; exact ⟨rfl, rfl⟩))
    (fun os started H enc _ => bsetBytes_lifted hp os started H enc)
theorem bsetBytes_card (hp : ∀ (a0 : List Int) (a1 : Int), okL a0 → okB a1 → ∃ K, raddlelaw01_BsetBytes K a0 a1 = some true) : Rows.BsetBytesCardSaid :=
  Claim7.holds_tied_plain_at .later [] [.data] true (true, "e76e61662a0575a74b4bf3577d6e05d5e8b856dabaddd1105dd94ebd9a624e5f") false
    (bsetBytes_holds hp) (fun _ h => by cases h) (by kernel_rfl) (fun _ h => by cases h) bsetBytes_row_tie rfl ⟨rfl, rfl⟩ (by kernel_rfl) rfl
    (fun f fn hf hfn => by
      obtain rfl : f = 9 := Option.some.inj ((show Tryd.prog.funcNamed "raddle/raddlelaw01.BsetBytes" = some 9 by kernel_rfl).symm.trans hf) |>.symm
      obtain rfl : fn = Tryd.f9 := (Option.some.inj (Tryd.func9.symm.trans hfn)).symm
      exact ⟨by kernel_rfl, fun j t ht => by
        rw [Tryd.params9] at ht
        have hm : t ∈ [26, 5] := by simpa using Array.mem_of_getElem? ht
        have hall : ([26, 5].all fun u => !Tryd.prog.wantsStandIn u) = true := by kernel_rfl
        exact (show Tryd.prog.wantsStandIn t = false by simpa using List.all_eq_true.1 hall t hm)⟩)
    (by kernel_rfl)
end Go.Rv
