/- A LOGIC OF ABSTRACT STATES OVER THE MODEL, part N: a law's row: arguments that read as data are data in the logic's sense; a call that answers true, and leaves all old memory, is what the row says. -/
import Derived.Test.YtcmfaclkgdmpbaaGreatDoorRvM
import Derived.ProofKit
import Derived.LaidMore
import Derived.OpenShut
import Derived.Carry
import Derived.Handed
import Derived.Stop.Joined
namespace Go.Rv
open Go.ChangeShapes Go.RowKit
def Rd (P : Program) (t : TypeId) {α : Type} (f : α → List DC) (I : α → Prop) : Prop :=
 ∀ (H : Type) (enc : TypeId × Value → H) (w : World) (held : Bool) (fuel : Nat) (cs : List Value) (x : DataW H × List MemPlace), DataW.trod enc P w 0 (fun _ => true) held fuel t cs = some x → ∃ a, I a ∧ V8 w [] cs (f a)
section
variable {P : Program} {t e : TypeId}
theorem Rd.int {k : IntKind} (ht : P.underlying t = some (.int k)) : Rd P t (cI k) (fun n => (Lit.int k n).wf = true) := by
 intro H enc w held fuel cs x h
 obtain ⟨n, rfl, _, hw⟩ := DataW.trod_int ht h
 exact ⟨n, hw, .cons (.ex _ rfl) .nil⟩
theorem cells_get {w : World} {a : Addr} {n : Nat} {l : List Value} (h : w.cells? 0 a n = some l) : l.length = n ∧ ∀ j, j < n → w.cell? (a.add j) = l[j]? := by
 simp only [World.cells?, Qf7, if_true] at h
 exact ⟨by simpa using mapM_some_length h, fun j hj => mapM_some_get h j j (by simp [hj])⟩
theorem Rd.slice {α : Type} {f : α → List DC} {I : α → Prop} {esz : Nat} (ht : P.underlying t = some (.slice e)) (hc : P.cellsOf e = esz) (h0 : 0 < esz) (he : Rd P e f I) : Rd P t (cL esz f) (fun l => l.length ≤ maxLen ∧ ∀ a ∈ l, I a) := by
 intro H enc w held fuel cs x h
 rcases DataW.trod_slice ht h with ⟨rfl, _⟩ | ⟨ad, len, cap, elems, rest, n, _, rfl, _, _, hlc, hcm, hlen, hel, hre, _⟩
 ·exact ⟨[], ⟨by simp [maxLen], by simp⟩, .cons (.empty none) .nil⟩
 ·rw [hc] at hel hre
  have hspot : 0 < cap → ad.spot = none := by
   intro hcap
   have one : ∀ m, (∃ l, w.cells? 0 (ad.add (m * esz)) esz = some l) → m = 0 → ad.spot = none := by
    rintro m ⟨l, hl⟩ rfl
    obtain ⟨h1, h2⟩ := cells_get hl
    have := h2 0 h0
    have hl0 : l[0]? = some l[0] := by simp [h1, h0]
    rw [hl0] at this
    have hs := World.cell?_spot this
    simpa [Addr.add] using hs
   by_cases hl : 0 < len
   ·have := hel 0 hl
    have hx : elems[0]? = some elems[0] := by simp [hlen, hl]
    rw [hx] at this
    obtain ⟨l, hl, _⟩ := Qis.1 this
    exact one 0 ⟨l, hl⟩ rfl
   ·have hl0 : len = 0 := by omega
    obtain ⟨h1, h2⟩ := hre rfl
    have := h2 0 (by omega)
    have hx : rest[0]? = some rest[0] := by simp [h1]
    rw [hx] at this
    obtain ⟨l, hl, _⟩ := Qis.1 this
    exact one (len + 0) ⟨l, hl⟩ (by omega)
  have build : ∀ m, m ≤ len → ∃ (as : List α) (vs : List Value), as.length = m ∧ (∀ a ∈ as, I a) ∧ V8 w [] vs (as.map f).flatten ∧ vs.length = m * esz ∧ (∀ y ∈ as.map f, y.length = esz) ∧ ∀ (q : Nat) (v : Value), vs[q]? = some v → w.cell? ⟨ad.block, ad.off + q, none⟩ = some v := by
   intro m
   induction m with
   | zero => intro _; exact ⟨[], [], rfl, by simp, .nil, by simp, by simp, fun q v hq => by simp at hq⟩
   | succ m ih =>
    intro hm
    obtain ⟨as, vs, h1, h2, h3, h4, h5, h6⟩ := ih (by omega)
    have hx : elems[m]? = some elems[m] := by simp [hlen]
    have hm' := hel m (by omega)
    rw [hx] at hm'
    obtain ⟨l, hl, htr⟩ := Qis.1 hm'
    obtain ⟨a, hI, hrep⟩ := he H enc w held n l _ htr
    obtain ⟨hll, hlg⟩ := cells_get hl
    have had : ad = ⟨ad.block, ad.off, none⟩ := by
     have := hspot (by omega)
     cases ad
     simp at this
     subst this
     rfl
    refine ⟨as ++ [a], vs ++ l, by simp [h1], ?_, ?_, ?_, ?_, ?_⟩
    ·intro b hb
     rcases Qfz.1 hb with hb | hb
     ·exact h2 b hb
     ·simp at hb; subst hb; exact hI
    ·rw [Qg5, Qic]
     refine h3.append ?_
     simpa using hrep
    ·rw [Qfu, h4, hll, Qhp]
    ·intro y hy
     rw [Qg5] at hy
     rcases Qfz.1 hy with hy | hy
     ·exact h5 y hy
     ·simp at hy; subst hy; rw [← hrep.1, hll]
    ·intro q v hq
     by_cases hqv : q < vs.length
     ·rw [List.getElem?_append_left hqv] at hq
      exact h6 q v hq
     ·rw [List.getElem?_append_right (by omega)] at hq
      have hql : q - vs.length < l.length := (List.getElem?_eq_some_iff.1 hq).1
      have := hlg (q - vs.length) (by omega)
      rw [hq, had, addr_add, addr_add] at this
      rw [← this]
      congr 2
      omega
  obtain ⟨as, vs, h1, h2, h3, h4, h5, h6⟩ := build len (Qf6 _)
  refine ⟨as, ⟨by omega, h2⟩, .cons ?_ .nil⟩
  have hl : (as.map f).length = len := by simp [h1]
  by_cases hcap : cap = 0
  ·have : as = [] := Qgj (by omega)
   subst this
   have e0 : len = 0 := by omega
   subst hcap
   subst e0
   exact Fw.sl (some ad) 0 0 0 false esz [] (fun _ _ => undef) (.inr ⟨rfl, rfl⟩) (by simp) (by simp [maxLen]) (fun h => by cases h) (by simp) (fun i j d hd => by simp at hd) (fun i j d hd => by simp at hd)
  ·have had : ad = ⟨ad.block, ad.off, none⟩ := by
    have := hspot (by omega)
    cases ad
    simp at this
    subst this
    rfl
   rw [← hl, had]
   exact Fv (vs := vs) h3 (fun q v hq => ⟨h6 q v hq, Wr.nil⟩) (by omega) hcm (fun h => by cases h) h5
end
theorem oneCell_of_ok {P : Program} {w : World} {r : Reach} {b : Nat} {t : TypeId} {d : TypeDesc} {v : Value} (ht : P.underlying t = some d) (hf : TypeDesc.flat d = true) (h : Value.okWide P w r b t v) : v.oneCell' = true := by
 cases v <;> first
  | rfl
  | (exfalso; cases d <;> first | (simp [TypeDesc.flat] at hf; done) | (simp [Value.okWide, ht, Cell.okWide, Cell.ok] at h; done))
theorem arg_flat {P : Program} {w : World} {r : Reach} {b : Nat} {t : TypeId} {d : TypeDesc} {v : Value} {α : Type} {f : α → List DC} {I : α → Prop} {g : α → DC} (ht : P.underlying t = some d) (hf : TypeDesc.flat d = true) (hfg : ∀ a, f a = [g a]) (hrd : Rd P t f I) (h : Value.okWide P w r b t v)
  {H : Type} {enc : TypeId × Value → H} {x : DataW H} {ps : List MemPlace} (htr : DataW.Trod enc P w 0 (fun _ => true) true t v x ps) : ∃ a, I a ∧ AvR w [] v (.c (g a)) := by
 obtain ⟨fuel, hfu⟩ := htr
 obtain ⟨a, hI, hrep⟩ := hrd H enc w true fuel _ _ hfu
 have hone := oneCell_of_ok ht hf h
 have hcells : v.cells = #[v] := by cases v <;> first | rfl | (simp [Value.oneCell'] at hone)
 rw [hcells, hfg] at hrep
 exact ⟨a, hI, .c _ _ (hrep.uncons.1)⟩
theorem trodAll_stays {H : Type} {enc : TypeId × Value → H} {P : Program} (hl : laidOutB P = true) {W W' : World} (hB : Below W.heap.size W W') {sp : Nat → Bool} : ∀ {ts : List TypeId} {vs : List Value} {ds : List (DataW H)} {ps : List MemPlace}, (∀ t ∈ ts, P.readableRec t = true ∧ t < P.types.size) →
  DataW.TrodAll enc P W 0 (fun _ => true) true ts vs ds ps → (∀ p ∈ ps, p.block < W.heap.size) → (∀ p ∈ ps, sp p.block = true) → DataW.TrodAll enc P W' 0 sp true ts vs ds ps := by
 intro ts
 induction ts with
 | nil => intro vs ds ps _ h _ _; obtain ⟨rfl, rfl, rfl⟩ := trodAll_nil h; simp [DataW.TrodAll]
 | cons t ts ih =>
  intro vs ds ps ht h hlt hsp
  obtain ⟨v, vs', d, ds', p, q, rfl, rfl, rfl, h1, h2⟩ := trodAll_cons h
  exact trodAll_cons_mk (WideElems.Trod_stays hl (ht t (by simp)).1 (ht t (by simp)).2 h1 (fun x hx => hB.same (hlt x (by simp [hx]))) (fun x hx => hsp x (by simp [hx])))
   (ih (fun u hu => ht u (by simp [hu])) h2 (fun x hx => hlt x (by simp [hx])) (fun x hx => hsp x (by simp [hx])))
theorem law_call {H : Type} {enc : TypeId × Value → H} {P : Program} {f : FuncId} {fn : Func} {s : ChangeSpec} {apart fresh handsOn : Bool} {W : World} {args : Array Value} {ds gs : List (DataW H)} {before : List MemPlace} {tb : TypeId} {avs : List AV} {G : List Ob}
  (hl : laidOutB P = true) (hps : ∀ t ∈ fn.params.toList, P.readableRec t = true ∧ t < P.types.size) (hW : DataW.Whole enc P fn.params.toList s.vars apart W args.toList ds gs before) (hvars : s.vars = []) (hs : s.fn H ds = { results := [.lit (.bool true)], args := ds })
  (hr : fn.resultTypes = #[tb]) (htb : P.underlying tb = some .bool) (hcall : Z1 P f avs G (.bool true)) (hlen : args.toList.length = avs.length) (hargs : ∀ (i : Nat) (v : Value) (x : AV), args.toList[i]? = some v → avs[i]? = some x → AvR W [] v x) (hG : X1 W [] G []) :
  Calls P f args W fun e W' => ∃ v, e = .returned v ∧ s.post enc P fn apart fresh handsOn false W args v W' := by
 have h := hcall [] [] W args.toList hlen (fun i v x hv hx => hargs i v x hv hx) hG (by simp) (by simp)
 rw [Array.toArray_toList] at h
 refine h.mono ?_
 rintro e W' ⟨v, x, t, L', rfl, ⟨rfl, rfl⟩, hv, _, _, _, hx⟩
 have hvb : v = .bool true := hv.exact.1
 subst hvb
 have hB : Below W.heap.size W W' := ⟨hx.os, hx.tape, hx.output, hx.size, fun k hk => hx.block k hk (fun _ h => by cases h)⟩
 have hlt := hW.lt
 have hW' := hW
 obtain ⟨p, q, hA, hV, hpq, hfz, hnd⟩ := hW
 rw [hvars] at hV
 obtain ⟨rfl, rfl⟩ := trodVars_none hV
 rw [Qgg] at hpq
 subst hpq
 refine ⟨_, rfl, ds, [], before, [], before, [], hW', ?_, ?_, ?_, hB.frame _, fun h => by cases h⟩
 ·rw [Qgg, hs, hr]
  exact trodAll_mk1 (shut_bool htb true)
 ·rw [Qgg, hs]
  exact trodAll_stays hl hB hps hA hlt (fun x hx => by simpa using hlt x hx)
 ·rw [hvars, Qgg, hs]
  rfl
end Go.Rv
