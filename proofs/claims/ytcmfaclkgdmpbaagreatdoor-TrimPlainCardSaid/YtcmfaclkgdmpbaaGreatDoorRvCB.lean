/- A LOGIC OF ABSTRACT STATES OVER THE MODEL, part CB: calls that the library's contracts answer; an array in a box as a text; a builder's text. -/
import Derived.Test.YtcmfaclkgdmpbaaGreatDoorRvCA
import Derived.Test.YtcmfaclkgdmpbaaGreatDoorRvN
import Derived.Shelf.Strings.OnBuilder
import Derived.Shelf.Strconv.Itoa3
namespace Go.Rv
open Go.Shelf Go.RowKit Go.Proofs
theorem Ext.ofBelow {w w' : World} (hb : Below w.heap.size w w') : Ext [] w [] w' :=
 ⟨hb.os, hb.tape, hb.output, hb.size, fun b h _ => hb.block b h, fun b off h _ => World.cell?_of_block (a := ⟨b, off, none⟩) (hb.block b h), fun _ _ _ h => h, fun _ l _ h => ⟨l, h⟩⟩
theorem Z1.ofBelow {P : Program} {f : FuncId} {avs : List AV} {G : List Ob} {x : AV} (hG : ∀ w M L, X1 w M G L → L = [])
  (h : ∀ (M : Reg) (w : World) (vs : List Value), vs.length = avs.length → (∀ (i : Nat) (v : Value) (x : AV), vs[i]? = some v → avs[i]? = some x → AvR w M v x) → X1 w M G [] →
   Calls P f vs.toArray w fun e w' => ∃ v, e = .returned v ∧ (∀ M', AvR w' M' v x) ∧ Below w.heap.size w w') : Z1 P f avs G x := by
 intro F L w vs h1 h2 h3 h4 h5
 have hL := hG _ _ _ h3
 subst hL
 refine (h _ w vs h1 h2 h3).mono ?_
 rintro e w' ⟨v, rfl, hv, hb⟩
 have hx := Ext.ofBelow hb
 exact ⟨v, x, G, [], rfl, ⟨rfl, rfl⟩, hv _, h3.step hx (fun p hp => by cases hp) (hx.frame F), h4, fun p hp => Qhf (h5 p hp) hb.size, hx⟩
def itoaS (n : Int) : ByteArray := ⟨(Lib.itoa n).toArray⟩
abbrev Vo : Array Value := (Lib.pow10Tab.map fun z => Value.int .u64 z).toArray
theorem tab_ro {w : World} {M L : Reg} {g : Nat} {cs : Array Value} (h : X1 w M [.tab g cs] L) : L = [] := by
 cases h with
 | cons _ _ _ _ h k => cases h; cases k; rfl
theorem itoa_call {P : Program} {ρ : Ren} (L : LaysM.n171 P ρ) {g : Nat} (hg : P.globalNamed "internal/strconv.uint64pow10" = some g) {n : Int} (h0 : -9223372036854775808 ≤ n) (h1 : n ≤ 9223372036854775807) :
  Z1 P (ρ.f 171) [.int .i64 n] [.tab g Vo] (.str (itoaS n)) := by
 refine Z1.ofBelow (fun _ _ _ h => tab_ro h) fun M w vs hl ha hh => ?_
 match vs, hl with
 | [v0], _ =>
  have a0 := ha 0 v0 _ rfl rfl
  have e0 : v0 = .int .i64 n := by cases a0 with | c _ _ h => cases h; rfl
  subst e0
  have htab : Lib.TabIs P w "internal/strconv.uint64pow10" .u64 Lib.pow10Tab := by
   generalize hL : ([] : Reg) = L' at hh
   cases hh with
   | cons _ _ _ _ h k =>
    cases h with
    | tab _ t _ fz hg' _ => simp [Lib.TabIs, World.var?, hg, hg', Vo]
  refine (Any.strconv_Itoa L n h0 h1 w htab).mono ?_
  rintro e w' ⟨rfl, k, os, rfl⟩
  exact ⟨_, rfl, fun M' => .c _ _ (.ex _ rfl), ⟨rfl, rfl, rfl, by
   show w.heap.size ≤ (w.heap ++ os).size
   simp, fun q hq => by
   show (w.heap ++ os)[q]? = w.heap[q]?
   rw [Array.getElem?_append_left hq]⟩⟩
theorem tab_of_laid {P : Program} {W : World} {name : String} {g : Nat} {t e : TypeId} {n : Nat} {k : IntKind} {ns : List Int} (hg : P.globalNamed name = some g) (htg : (P.globals[g]?).map (·.type) = some t) (ht : P.underlying t = some (.array n e)) (he : P.underlying e = some (.int k)) (hc : P.cellsOf e = 1) (hct : P.cellsOf t = n)
  (hn : ns.length = n) {rest : List (String × DataW Unit)} {ps : List MemPlace} (h : DataW.LaidVars P W ((name, .agg (ns.map fun m => .lit (.int k m))) :: rest) ps) : X1 W [] [.tab g (ns.map (Value.int k)).toArray] [] := by
 obtain ⟨g0, t0, cs, fu, p, q, hg0, ht0, hv, hd, _, _⟩ := h
 obtain rfl := Option.some.inj (hg.symm.trans hg0)
 obtain rfl := Option.some.inj (htg.symm.trans ht0)
 obtain ⟨xs, m, _, hx, hl, hxn, hel⟩ := DataW.trod_array ht hd
 simp only [Qf4, DataW.agg.injEq] at hx
 have hcs : cs.toList = ns.map (Value.int k) := by
  apply List.ext_getElem?
  intro i
  by_cases hi : i < n
  ·have h1 := hel i hi
   rw [hc, Qhi] at h1
   have hxi : xs[i]? = some xs[i] := by simp [hxn, hi]
   rw [hxi] at h1
   obtain ⟨v, h2, h3, _⟩ := DataW.trod_int he h1
   have hci : i < cs.toList.length := by rw [hl, hct]; exact hi
   have h4 : cs.toList[i]? = some (.int k v) := by
    have h5 : ((cs.toList.drop i).take 1)[0]? = some (.int k v) := by rw [h2]; rfl
    rw [List.getElem?_take, if_pos (by omega), List.getElem?_drop, Qht] at h5
    exact h5
   have h6 := congrArg (fun l : List (DataW Unit) => l[i]?) hx.1
   have hni : i < ns.length := by omega
   simp only [List.getElem?_map, hxi, Qhs, h3, List.getElem?_eq_getElem hni] at h6
   have hvn : ns[i] = v := by simpa using h6
   rw [h4, List.getElem?_map, List.getElem?_eq_getElem hni, hvn]
   rfl
  ·rw [List.getElem?_eq_none (by rw [hl, hct]; omega), List.getElem?_eq_none (by simp; omega)]
 have hcs2 : cs = (ns.map (Value.int k)).toArray := by apply Array.ext'; simpa using hcs
 subst hcs2
 have hb : ∃ t fz, W.heap[g]? = some (.cells (ns.map (Value.int k)).toArray t fz) := by
  simp only [World.var?, hg, Option.bind_some] at hv
  cases hq : W.heap[g]? with
  | none => rw [hq] at hv; cases hv
  | some ob =>
   rw [hq] at hv
   cases ob with
   | cells c t fz => simp only [Qgk] at hv; subst hv; exact ⟨t, fz, rfl⟩
   | _ => cases hv
 obtain ⟨t, fz, hb⟩ := hb
 simpa using X1.cons _ _ _ _ (ObR.tab (M := []) g t _ fz hb (fun _ => Wr.nil)) .nil
section
variable {P : Program} {N : Nat} {s : St} {o : Oper} {K : St → Prop}
end
set_option maxHeartbeats 2000000 in
set_option maxRecDepth 100000 in
theorem builderStr_run {P : Program} {ρ : Ren} (L : Lays.n169 P ρ) (X : Builder.Extra P ρ) (b g cap : Nat) (p : Value) (cur : Array Value) (l : List UInt8) (w : World) (h0 : l ≠ []) (hbk : w.heap[b]? = some (.cells #[p, .slice (some ⟨g, 0, none⟩) l.length cap] (ρ.t 72) (0, 0)))
  (hg : w.heap[g]? = some (.cells cur (ρ.t 5) (0, 0))) (hnc : l.length ≤ cap) (hcm : cap ≤ maxLen) (hcs : cur.size = cap * 1) (htake : cur.toList.take (l.length * 1) = Lib.byteCells l) :
  Calls P (ρ.f 169) #[.pointer (some ⟨b, 0, none⟩)] w fun e w' => e = .returned (.string ⟨l.toArray⟩) ∧ w' = w.drew.freeze ⟨g, 0, none⟩ l.length := by
 have hl0 : l.length ≠ 0 := by simpa using h0
 have c1 : w.drew.cell? ⟨b, 1, none⟩ = some (.slice (some ⟨g, 0, none⟩) l.length cap) := by
  have : w.drew.heap[b]? = some (.cells #[p, .slice (some ⟨g, 0, none⟩) l.length cap] (ρ.t 72) (0, 0)) := hbk
  rw [Lib.cell_of_heap this]; rfl
 have hSD : (Builtin.unsafeSliceData_ #[(ρ.t 37)] (ρ.t 127) #[.slice (some ⟨g, 0, none⟩) l.length cap]).run P w.drew = .ok (.pointer (some ⟨g, 0, none⟩)) w.drew :=
  Lib.run_unsafeSliceData_row _ _ _ _ _ _ (by omega)
 have hUS : (Builtin.unsafeString_ #[(ρ.t 127), (ρ.t 3)] (ρ.t 9) #[.pointer (some ⟨g, 0, none⟩), .int .i64 l.length]).run P w.drew = .ok (.string ⟨l.toArray⟩) (w.drew.freeze ⟨g, 0, none⟩ l.length) := by
  refine Lib.run_unsafeString_row w.drew (ρ.t 127) (ρ.t 3) (ρ.t 9) (ρ.t 5) L.t127 X.cellsByte g cur.size (by have hg' : w.drew.heap[g]? = some (.cells cur (ρ.t 5) (0, 0)) := hg; simp [World.shape?, hg']) l h0 (by omega) (by unfold maxLen at hcm; omega) ?_
  intro j x hx
  have hg' : w.drew.heap[g]? = some (.cells cur (ρ.t 5) (0, 0)) := hg
  rw [addr_add, cell_of_row w.drew g _ cur (ρ.t 5) _ hg', Qgq]
  have : (cur.toList.take (l.length * 1))[j]? = some (.int .u8 x.toNat) := by rw [htake]; simp [Lib.byteCells, hx]
  rw [List.getElem?_take] at this
  split at this
  ·simpa using this
  ·cases this
 have mixed := L.mixed
 have t72 := L.t72; have a72 := L.a72; have z72 := L.z72; have v72 := L.v72; have u72 := run_underlying L.t72
 have t70 := L.t70; have a70 := L.a70; have z70 := L.z70; have v70 := L.v70; have u70 := run_underlying L.t70
 have t37 := L.t37; have a37 := L.a37; have z37 := L.z37; have v37 := L.v37; have u37 := run_underlying L.t37
 have t127 := L.t127; have a127 := L.a127; have z127 := L.z127; have v127 := L.v127; have u127 := run_underlying L.t127
 have t3 := L.t3; have a3 := L.a3; have z3 := L.z3; have v3 := L.v3; have u3 := run_underlying L.t3
 have t9 := L.t9; have a9 := L.a9; have z9 := L.z9; have v9 := L.v9; have u9 := run_underlying L.t9
 have t5 := X.t5; have a5 := X.a5; have z5 := X.z5; have v5 := X.v5; have u5 := run_underlying X.t5
 go_enter L.f169, Body.n169_ntmps ρ
 go_wp2
 go_region_o
 all_goals (go_wp2; go_ret; exact ⟨rfl, rfl⟩)
def W8 (xs : List Int) : Bool := xs.all fun x => decide (0 ≤ x) && decide (x < 256)
theorem okBytes_of {xs : List Int} (h : W8 xs = true) : ∃ l : List UInt8, xs = l.map fun u => (u.toNat : Int) := by
 refine ⟨xs.map fun x => UInt8.ofNat x.toNat, ?_⟩
 rw [Qjc]
 refine (List.map_id xs).symm.trans (Qja fun x hx => ?_)
 have := Qgr.1 h x hx
 simp only [Qgv, Qhc] at this
 simp only [id, Function.comp, UInt8.toNat_ofNat']
 omega
theorem Qds (l : List UInt8) : ofBytes (l.map fun u => (u.toNat : Int)) = ⟨l.toArray⟩ := by
 have : ∀ (l : List UInt8) (r : ByteArray), (l.map fun u => (u.toNat : Int)).foldl (fun r n => r.push (UInt8.ofNat n.toNat)) r = ⟨r.data ++ l.toArray⟩ := by
  intro l
  induction l with
  | nil => intro r; simp
  | cons x l ih =>
   intro r
   rw [Qge, Qgx, ih]
   congr 1
   apply Array.ext'
   simp [ByteArray.push]
 rw [ofBytes, this]
 show (⟨(#[] : Array UInt8) ++ l.toArray⟩ : ByteArray) = _
 simp
theorem Qfe {P : Program} {ρ : Ren} (L : Lays.n169 P ρ) (X : Builder.Extra P ρ) {b : Nat} {v p : Value} {xs : List Int} (h0 : 0 < xs.length) (hb : W8 xs = true) :
  Ud P (ρ.f 169) [.ptr b 0] [.box b (ρ.t 72) [.d (.ex p), .d (.ex v)], .arrX v (ρ.t 5) 1 0 (xs.map (cI .u8))] (fun _ => .str (ofBytes xs)) (fun _ => [.box b (ρ.t 72) [.d (.ex p), .d (.ex v)], .ro 0 []]) := by
 intro F L' w vs hl ha hh hnd hlt
 match vs, hl with
 | [v0], _ =>
  have a0 := ha 0 v0 _ rfl rfl
  have e0 : v0 = .pointer (some ⟨b, 0, none⟩) := by cases a0 with | c _ _ h => cases h; rfl
  subst e0
  cases hh with
  | cons _ r1 _ r2 hbx hh =>
   cases hh with
   | cons _ r3 _ r4 hx hh =>
    cases hh
    generalize hys : xs.map (cI .u8) = ys at hx
    have hyl : ys.length = xs.length := by rw [← hys, Qfw]
    cases hx with
    | arrX0 => simp at hyl; omega
    | arrX g cap cur _ _ _ _ hg hlo hn hm hcs hz hnw hre =>
     cases hbx with
     | box _ _ cs _ r' hbk hcells =>
      obtain ⟨l, rfl⟩ := okBytes_of hb
      have hcs' : cs.toList = [p, .slice (some ⟨g, 0, none⟩) ys.length cap] ∧ r' = [] := by
       have := Xe.plain (l := [.ex p, .ex (.slice (some ⟨g, 0, none⟩) ys.length cap)]) hcells
       refine ⟨?_, this.1⟩
       have h2 := V8.ints (vs := cs) this.2 [p, .slice (some ⟨g, 0, none⟩) ys.length cap] rfl
       exact h2
      obtain ⟨hcs1, rfl⟩ := hcs'
      have hcs2 : cs = #[p, .slice (some ⟨g, 0, none⟩) l.length cap] := by
       apply Array.ext'
       rw [hcs1, hyl, Qfw]
      subst hcs2
      have hyl2 : ys.length = l.length := by rw [hyl, Qfw]
      have htake : cur.toList.take (l.length * 1) = Lib.byteCells l := by
       have h2 := V8.ints (vs := (cur.toList.take (l.length * 1)).toArray) (l := ys.flatten) (by rw [hyl2] at hre; simpa using hre) ((l.map fun u => (u.toNat : Int)).map (Value.int .u8)) (by rw [← hys, cI_flat])
       simpa [Lib.byteCells, Function.comp_def] using h2
      refine (builderStr_run L X b g cap p cur l w (by intro h; subst h; simp at h0) hbk hg (by omega) hm hcs htake).mono ?_
      rintro e w' ⟨rfl, rfl⟩
      have hx1 : Ext [(g, 0 * 1)] w [] (w.drew.freeze ⟨g, 0, none⟩ l.length) := (Ext.drew _ w).trans (Ext.freeze w.drew g 0 l.length (0 * 1))
      have hbg : b ≠ g := by
       intro h; subst h
       simp at hnd
      have hbk' := (hx1.block b (lt_of_block hbk) (fun lim hm => by simp at hm; exact hbg hm.1)).trans hbk
      have hone := (Xe.plain (l := [.ex p, .ex (.slice (some ⟨g, 0, none⟩) ys.length cap)]) hcells).2.one
      have hp1 := hone p (by simp)
      refine ⟨_, .str _, _, [(b, 0)], rfl, ⟨fun _ => undef, rfl, rfl⟩, ?_, ?_, ?_, ?_, ?_⟩
      ·rw [Qds]; exact .c _ _ (.ex _ rfl)
      ·rw [hyl2]
       exact .cons _ _ _ _ (.box b _ _ _ [] hbk' (.cons _ _ [] _ _ [] (.d _ _ (.ex _ hp1)) (.cons _ _ [] _ _ [] (.d _ _ (.ex _ rfl)) .nil))) (.cons _ [] _ [] (.ro 0 [] [] .nil (fun i v hv => by simp at hv)) .nil)
      ·simp at hnd ⊢; exact ⟨hnd.1.2, hnd.2.2⟩
      ·intro q hq
       have := hlt q (by simp at hq ⊢; rcases hq with rfl | hq; exact .inl rfl; exact .inr (.inr hq))
       exact Qhf this hx1.size
      ·refine (hx1.frame [(b, 0)]).congr (fun q => ?_) (fun q => ?_)
       ·simp [or_comm]
       ·simp
end Go.Rv
