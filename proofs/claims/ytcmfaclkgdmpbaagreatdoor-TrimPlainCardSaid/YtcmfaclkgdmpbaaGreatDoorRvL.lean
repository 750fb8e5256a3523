/- A LOGIC OF ABSTRACT STATES OVER THE MODEL, part L: slices cut, memory that nobody writes, calls beside it, strings of bytes. -/
import Derived.Test.YtcmfaclkgdmpbaaGreatDoorRvJ
namespace Go.Rv
section
variable {P : Program} {N : Nat} {s : St} {o : Oper} {K : St → Prop}
inductive Bd (s : St) : Option Operand → Nat → Nat → Prop
 | none (d) : Bd s none d d
 | some (y k j d) (h : s.ev y = some (.int k j)) (h0 : 0 ≤ j) : Bd s (some y) d j.toNat
theorem Bd.run {low : Option Operand} {d l y : Nat} {code : BoundsCode} {w : World} {F L : Reg} {a : Act} (h : Bd s low d l) (hr : Rel w N F L s a) (hy : l ≤ y) : low = Option.none ∧ l = d ∨ ∃ v, low.map a.eval = Option.some v ∧ (Instr.sliceBound v y code).run P w = .ok l w := by
 cases h with
 | none => exact .inl ⟨rfl, rfl⟩
 | some y' k j _ h h0 => exact .inr ⟨_, rfl, by rw [hr.exact h]; exact run_sliceBound w k j y code h0 (by omega)⟩
theorem E1 {low high : Option Operand} {n l h : Nat} {w : World} {F L : Reg} {a : Act} {isS : Bool} {c : Nat} (hl : Bd s low 0 l) (hh : Bd s high n h) (hr : Rel w N F L s a) (h1 : l ≤ h) (h2 : h ≤ c) :
  (Instr.sliceBounds isS n c (low.map a.eval) (high.map a.eval) none).run P w = .ok (l, h, c) w := by
 unfold Instr.sliceBounds
 rcases hh.run (P := P) (code := if isS then .sliceAcap else .sliceAlen) hr h2 with ⟨e1, e2⟩ | ⟨v, e1, e2⟩
 ·rcases hl.run (P := P) (code := .sliceB) hr h1 with ⟨e3, e4⟩ | ⟨v', e3, e4⟩
  ·subst e1; subst e2; subst e3; subst e4; simp
  ·subst e1; subst e2; rw [e3]; simp [e4]
 ·rcases hl.run (P := P) (code := .sliceB) hr h1 with ⟨e3, e4⟩ | ⟨v', e3, e4⟩
  ·rw [e1]; subst e3; subst e4; simp [e2]
  ·rw [e1, e3]; simp [e2, e4]
theorem OpT.sliceM {α : Type} {t e : TypeId} {x : Operand} {low high : Option Operand} {full : Bool} {esz : Nat} {xs : List α} {f : α → List DC} {z : Value} {by_ l h : Nat} (ho : o.op = .slice t x low high none) (hN : ∀ d, o.dst = some d → d < N) (ht : P.underlying t = some (.slice e))
  (hei : Zk P e z esz by_) (hx : s.ev x = some (.sl full esz (xs.map f))) (hl : Bd s low 0 l) (hh : Bd s high xs.length h) (h1 : l ≤ h) (h2 : h ≤ xs.length) (k : K (s.putO o.dst (.sl false esz (((xs.take h).drop l).map f)))) : OpT P N o s K :=
 Zd _ hN (fun F L a w hr => by
  have hv := hr.ev hx
  generalize hq : a.eval x = q at hv
  cases hv with
  | c _ _ hv =>
   obtain ⟨ad, b, off, cap, vs, rfl, ha, hc, hm, hf, hz, hre, hw⟩ := hv.flat
   have hlen : (xs.map f).length = xs.length := Qfw _
   have hrun := E1 (P := P) (isS := true) (n := (xs.map f).length) (c := cap) hl (by rw [hlen]; exact hh) hr h1 (by omega)
   refine ⟨.slice (if cap = l then ad else ad.map (·.add (l * esz))) (h - l) (cap - l), ?_, .c _ _ ?_⟩
   ·simp only [execOp, ho, hq, Instr.sliceAt, Sem.run_bind, run_underlying ht, Result.andThen_ok, Instr.slice, hrun, hei.sizeOf, Qib]
    rfl
   ·have := cut_rep (full' := false) ha hc hm hz hre hw l h cap h1 (by omega) (by omega) (Qf6 _) (fun h => by cases h)
    simpa [List.map_take, List.map_drop] using this) k
def Z1 (P : Program) (f : FuncId) (avs : List AV) (G : List Ob) (x : AV) : Prop := Qek P f avs G (fun y t => y = x ∧ t = G)
theorem Z1.nil {f : FuncId} {avs : List AV} {x : AV} (h : Z1 P f avs [] x) : CallP P f avs x := h
theorem Zr {c : Ct} {t : St} (h1 : c.need.map (fun p => t.slots.lookup p.1) = c.need.map (fun p => some p.2)) (h2 : c.objs.map (fun p => t.tab[p.1]?) = c.objs.map (fun p => some p.2)) : c.met t := by
 refine ⟨fun p hp => ?_, fun p hp => ?_⟩
 ·exact List.map_inj_left.1 h1 p hp
 ·exact List.map_inj_left.1 h2 p hp
end
def ck (p : Prop) [Decidable p] : Option Unit := if p then some () else none
theorem Q9 {β : Type} {p : Prop} [Decidable p] {f : Unit → Option β} {r : β} (h : (ck p).bind f = some r) : p ∧ f () = some r := by
 unfold ck at h
 split at h
 ·exact ⟨by assumption, h⟩
 ·cases h
abbrev cI (k : IntKind) (x : Int) : List DC := [.ex (.int k x)]
abbrev cB (x : Bool) : List DC := [.ex (.bool x)]
abbrev cL {α : Type} (esz : Nat) (f : α → List DC) (x : List α) : List DC := [.sl false esz (x.map f)]
def codeOf (f : Func) : Code := f.body.getD .skip
def Code.at : List Nat → Code → Code
 | [], c => c
 | 0 :: l, .seq a _ => Code.at l a
 | 1 :: l, .seq _ b => Code.at l b
 | 0 :: l, .cond _ a _ => Code.at l a
 | 1 :: l, .cond _ _ b => Code.at l b
 | 0 :: l, .block _ a => Code.at l a
 | 0 :: l, .loop a => Code.at l a
 | _, c => c
end Go.Rv
