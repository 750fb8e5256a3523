/- A LOGIC OF ABSTRACT STATES OVER THE MODEL, part BW: owned memory that is lent to a call; an array that was appended to, whose old header is still wanted. -/
/- A LOGIC OF ABSTRACT STATES OVER THE MODEL, part BX: an array in an owned box, lent to a call as a slice. -/
/- A LOGIC OF ABSTRACT STATES OVER THE MODEL, part BY: entries at texts. -/
/- A LOGIC OF ABSTRACT STATES OVER THE MODEL, part BZ: slices cut with a bound of their room; a part of an owned array, lent to a call. -/
/- A LOGIC OF ABSTRACT STATES OVER THE MODEL, part CA: slices that are made; the text of a rune; pointers held against each other; a text behind owned bytes. -/
import Derived.Test.YtocjhbbldeankaaDoorRvP
import Derived.Lib.Bytealg
import Derived.Laws.MakeOwn
import Derived.Laws.Runes
import Derived.Lib.Builder
import Derived.Lib.AppendStr
namespace Go.Rv
theorem ObR.peek {w : World} {M R r : Reg} {v : Value} {e : TypeId} {esz lo : Nat} {elems : List (List DC)} (h : ObR w M (.arrX v e esz lo elems) r) (hdis : ∀ p ∈ r, ∀ lim, (p.1, lim) ∉ R) (hs : ∀ b off, Wr R b off → Wr M b off) : RepC w R v (.sl false esz elems) := by
 cases h with
 | arrX0 a => exact .empty a
 | arrX g cap cur _ _ _ _ hg hlo hn hm hcs hz hnw hr =>
  have key := OwnR.view (OwnR.some (w := w) (M := R) g cap cur e esz elems hg hn hm hcs hz (fun off _ hw => by
   obtain ⟨l, hl, _⟩ := hw
   exact hdis (g, lo * esz) (by simp) l hl) (hr.less hs))
  exact key
def ArgsB (s : St) (ob : Ob) (xs : List Operand) (avs : List AV) : Prop := ∀ (w : World) (N : Nat) (F L : Reg) (a : Act) (r R : Reg), Rel w N F L s a → ObR w (r ++ R) ob r → (∀ p ∈ r, ∀ lim, (p.1, lim) ∉ R) → (∀ b off, Wr R b off → Wr (L ++ F) b off) →
 (xs.map a.eval).length = avs.length ∧ ∀ (i : Nat) (v : Value) (x : AV), (xs.map a.eval)[i]? = some v → avs[i]? = some x → AvR w R v x
theorem ArgsB.nil {s : St} {ob : Ob} : ArgsB s ob [] [] := fun w N F L a r R _ _ _ _ => ⟨rfl, fun i v x h => by simp at h⟩
theorem ArgsB.more {s : St} {ob : Ob} {x : Operand} {l : List Operand} {y : AV} {ys : List AV} (h : ∀ (w : World) (N : Nat) (F L : Reg) (a : Act) (r R : Reg), Rel w N F L s a → ObR w (r ++ R) ob r → (∀ p ∈ r, ∀ lim, (p.1, lim) ∉ R) → (∀ b off, Wr R b off → Wr (L ++ F) b off) → AvR w R (a.eval x) y) (k : ArgsB s ob l ys) : ArgsB s ob (x :: l) (y :: ys) := fun w N F L a r R hr ho hd hs => by
 obtain ⟨h1, h2⟩ := k w N F L a r R hr ho hd hs
 refine ⟨by simp at h1 ⊢; exact h1, fun i v z hv hz => ?_⟩
 cases i with
 | zero => simp at hv hz; subst hv; subst hz; exact h w N F L a r R hr ho hd hs
 | succ i => exact h2 i v z (by simpa using hv) (by simpa using hz)
theorem ArgsB.cons {s : St} {ob : Ob} {x : Operand} {l : List Operand} {y : AV} {ys : List AV} (h : s.ev x = some y) (k : ArgsB s ob l ys) : ArgsB s ob (x :: l) (y :: ys) :=
 ArgsB.more (fun _ _ _ _ _ _ _ hr _ _ hs => (hr.ev h).less hs) k
theorem ArgsB.lentX {s : St} {x : Operand} {l : List Operand} {ys : List AV} {v : Value} {e : TypeId} {esz lo : Nat} {elems : List (List DC)} (h : s.ev x = some (.c (.ex v))) (k : ArgsB s (.arrX v e esz lo elems) l ys) : ArgsB s (.arrX v e esz lo elems) (x :: l) (.sl false esz elems :: ys) :=
 ArgsB.more (fun _ _ _ _ _ _ _ hr ho hd _ => by
  rw [hr.exact h]
  exact .c _ _ (ho.peek hd fun b off hw => Wr.append.2 (.inr hw))) k
inductive Plain : AV → Prop
 | ex (v : Value) : Plain (.c (.ex v))
 | agg (l : List Value) {l' : List DC} (h : l' = l.map DC.ex) : Plain (.agg l')
theorem Plain.lift {x : AV} (h : Plain x) {w : World} {M M' : Reg} {v : Value} (hv : AvR w M v x) : AvR w M' v x := by
 cases h with
 | ex v0 =>
  cases hv with
  | c _ _ hc =>
   cases hc with
   | ex _ h1 => exact .c _ _ (.ex _ h1)
 | agg l hl =>
  subst hl
  cases hv with
  | agg vs _ hr =>
   refine .agg vs _ ⟨hr.1, fun i u d hu hd => ?_⟩
   have h1 := hr.2 i u d hu hd
   rw [List.getElem?_map] at hd
   obtain ⟨z, _, rfl⟩ := Option.map_eq_some_iff.1 hd
   cases h1 with
   | ex _ h2 => exact .ex _ h2
section
variable {P : Program} {N : Nat} {s : St} {o : Oper} {K : St → Prop}
theorem OpT.callLent {f : FuncId} {fn : Func} {args : Array Operand} {ts : Array TypeId} {avs : List AV} {x : AV} {i : Nat} {ob : Ob} (ho : o.op = .call { callee := .value (.func f), args, argTypes := ts }) (hN : ∀ d, o.dst = some d → d < N)
  (hf : P.funcs[f]? = some fn) (hb : fn.body.isSome = true) (hname : (fn.name == "runtime.NumGoroutine") = false) (hi : s.tab[i]? = some ob) (hargs : ArgsB s ob args.toList avs) (hc : CallP P f avs x) (hp : Plain x)
  (k : K (s.putO o.dst x)) : OpT P N o s K := by
 intro F L a w hr
 unfold Oper.wp
 rw [run_callOp ho hf hb hname, Oper.upon_enter]
 obtain ⟨r, r2, hob, hrest, hperm⟩ := hr.heap.get hi
 have hsame : Reg.same (L ++ F) (r ++ (r2 ++ F)) := by rw [← List.append_assoc]; exact perm_same hperm
 have hnd : ((r ++ (r2 ++ F)).map (·.1)).Nodup := by rw [← List.append_assoc]; exact ((List.Perm.append_right F hperm).map _).nodup_iff.1 hr.nodup
 have hlt : ∀ p ∈ r ++ (r2 ++ F), p.1 < w.heap.size := fun p hp => hr.lt p ((hsame p).2 hp)
 have hnd2 : ((r2 ++ F).map (·.1)).Nodup := by rw [List.map_append, List.nodup_append] at hnd; exact hnd.2.1
 have hdis : ∀ p ∈ r, ∀ lim, (p.1, lim) ∉ r2 ++ F := fun p hp' lim hm => by
  rw [List.map_append, List.nodup_append] at hnd
  exact hnd.2.2 p.1 (List.mem_map_of_mem hp') p.1 (List.mem_map.2 ⟨(p.1, lim), hm, rfl⟩) rfl
 obtain ⟨h1, h2⟩ := hargs w N F L a r (r2 ++ F) hr (hob.congr fun b off => hsame.wr.symm) hdis (fun b off hw => hsame.wr.2 (Wr.append.2 (.inr hw)))
 have hcall := hc (r2 ++ F) [] w (args.toList.map a.eval) h1 (fun i v x hv hx => by rw [List.nil_append]; exact h2 i v x hv hx) .nil (by rw [List.nil_append]; exact hnd2) (fun p hp => by rw [List.nil_append] at hp; exact hlt p (List.mem_append.2 (.inr hp)))
 have harr : (args.toList.map a.eval).toArray = args.map a.eval := by rw [← Array.toList_map]
 rw [harr] at hcall
 refine hcall.mono ?_
 rintro e w' ⟨v, y, tab', L', rfl, ⟨hy, ht⟩, hv, hh', _, _, hx⟩
 subst hy; subst ht
 cases hh'
 have hxL : Ext L w L w' := by simpa using hx.frame L
 have hkeep : HeapR w' (L ++ F) s.tab L := hr.heap.step hx (fun p _ lim hm => by cases hm) (by simpa using hx.frame (L ++ F))
 have hrel := hr.next (tab := s.tab) hxL hN (hp.lift hv) hkeep hr.nodup (fun p hp' => Nat.lt_of_lt_of_le (hr.lt p (List.mem_append.2 (.inl hp'))) hx.size)
 rw [St.upd_tab] at hrel
 exact ⟨L, _, k, hrel, hxL⟩
end
section
variable {P : Program} {N : Nat} {s : St} {o : Oper} {K : St → Prop}
theorem OpT.pre {s' : St} (h : Turn s s') (k : OpT P N o s' K) : OpT P N o s K := by
 intro F L a w hr
 obtain ⟨L', h1, h2⟩ := h N F L a w hr
 refine upon_mono (k F L' a w h1) ?_ (fun _ _ _ h => h)
 rintro a' w' ⟨L2, t, kt, hr', hx⟩
 exact ⟨L2, t, kt, hr', h2.trans hx⟩
end
end Go.Rv
namespace Go.Rv
theorem ArrN.oc_flat {n : Nat} {k : IntKind} {a : ArrN} : a.oc n k = (((a.list n).map (cI k)).flatten).map OC.d := by
 simp only [ArrN.oc, ArrN.list, List.map_map]
 induction List.range n with
 | nil => rfl
 | cons x l ih => simp only [List.map_cons, List.flatten_cons, List.map_append, ih]; rfl
section
variable {P : Program} {N : Nat} {s : St} {o : Oper} {K : St → Prop}
end
end Go.Rv
namespace Go.Rv
section
variable {P : Program} {N : Nat} {s : St} {o : Oper} {K : St → Prop}
def idxS (t : ByteArray) (c : Int) : Int := Lib.indexByte t.data.toList c.toNat.toUInt8
theorem OpT.indexByteStr {f : FuncId} {fn : Func} {x y : Operand} {ts : Array TypeId} {t : ByteArray} {c : Int} (ho : o.op = .call { callee := .value (.func f), args := #[x, y], argTypes := ts }) (hN : ∀ d, o.dst = some d → d < N) (hf : P.funcs[f]? = some fn) (hname : (fn.name == "runtime.NumGoroutine") = false)
  (hb : fn.body.isNone = true) (hn : Extern.findNext fn = none) (he : Extern.find fn = some Extern.BytealgIndexByte.indexByte) (hx : s.ev x = some (.str t)) (hy : s.ev y = some (.int .u8 c)) (k : K (s.putO o.dst (.int .i64 (idxS t c)))) : OpT P N o s K :=
 OpT.still _ hN (fun F L a w hr => by
  refine ⟨.int .i64 (idxS t c), run_entryOp ho hf hname hb hn he ?_, .c _ _ (.ex _ rfl)⟩
  have e : (#[x, y] : Array Operand).map a.eval = #[.string t, .int .u8 c] := by simp [hr.exact hx, hr.exact hy]
  rw [e]
  exact Lib.run_indexByteString t c w) k
end
end Go.Rv
namespace Go.Rv
section
variable {P : Program} {N : Nat} {s : St} {o : Oper} {K : St → Prop}
theorem ObR.headX {w : World} {M : Reg} {v : Value} {e : TypeId} {esz lo : Nat} {elems : List (List DC)} {r : Reg} (h : ObR w M (.arrX v e esz lo elems) r) : ∃ a c, v = .slice a elems.length c ∧ elems.length ≤ c := by
 cases h with
 | arrX0 a => exact ⟨a, 0, rfl, Nat.le_refl _⟩
 | arrX g cap cur _ _ _ _ hg hlo hn hm hcs hz hnw hr => exact ⟨_, cap, rfl, hn⟩
theorem OpT.sliceSub {α : Type} {t e e' : TypeId} {x low : Operand} {v : Value} {i esz lo l : Nat} {xs : List α} {f : α → List DC} {z : Value} {by_ : Nat} (ho : o.op = .slice t x (some low) none none) (hN : ∀ d, o.dst = some d → d < N) (ht : P.underlying t = some (.slice e))
  (hei : EInfo P e z esz by_) (hx : s.ev x = some (.c (.ex v))) (hi : s.tab[i]? = some (.arrX v e' esz lo (xs.map f))) (hl : Bd s (some low) 0 l) (h1 : l ≤ xs.length) (k : K (s.putO o.dst (.sub v esz l))) : OpT P N o s K :=
 OpT.still _ hN (fun F L a w hr => by
  obtain ⟨r1, r2, h1', h2, hp⟩ := hr.heap.get hi
  obtain ⟨ad, cap, rfl, hcap⟩ := h1'.headX
  have hlen : (xs.map f).length = xs.length := List.length_map _
  have hrun := run_bounds2 (P := P) (isS := true) (n := (xs.map f).length) (c := cap) hl (.none _) hr (by omega) hcap
  refine ⟨.slice (if cap = l then ad else ad.map (·.add (l * esz))) ((xs.map f).length - l) (cap - l), ?_, .sub _ _ _ _ ⟨ad, _, cap, rfl, by omega, rfl⟩⟩
  simp only [execOp, ho, hr.exact hx, Instr.sliceAt, Sem.run_bind, run_underlying ht, Result.andThen_ok, Instr.slice, Option.map_some, Option.map_none, hei.sizeOf]
  simp only [Option.map_some, Option.map_none] at hrun
  rw [hrun]
  rfl) k
theorem ArgsB.lentSub {α : Type} {s : St} {x : Operand} {l : List Operand} {avs : List AV} {v : Value} {e : TypeId} {esz lo k : Nat} {xs : List α} {f : α → List DC} (h : s.ev x = some (.sub v esz k)) (hk : ArgsB s (.arrX v e esz lo (xs.map f)) l avs) : ArgsB s (.arrX v e esz lo (xs.map f)) (x :: l) (.sl false esz ((xs.drop k).map f) :: avs) :=
 ArgsB.more (fun w _ F L a _ R hr ho hd _ => by
  have hv := hr.ev h
  generalize a.eval x = q at hv
  cases hv with
  | sub _ _ _ _ hsub =>
   have hrep := ho.peek hd fun b off hw => Wr.append.2 (.inr hw)
   obtain ⟨ad, n, cap, rfl, hkn, rfl⟩ := hsub
   obtain ⟨ad', b, off, cap', vs, hveq, ha, hc, hm, hf, hz, hre, hw⟩ := hrep.flat
   simp only [Value.slice.injEq] at hveq
   obtain ⟨rfl, rfl, rfl⟩ := hveq
   have := cut_rep (full' := false) ha hc hm hz hre hw k (xs.map f).length cap hkn (Nat.le_refl _) hc (Nat.le_refl _) (fun h => by cases h)
   refine .c _ _ ?_
   rw [List.take_length] at this
   simpa [List.map_drop] using this) hk
theorem ArgsB.lentXM {α : Type} {s : St} {x : Operand} {l : List Operand} {avs : List AV} {v : Value} {e : TypeId} {esz lo : Nat} {xs : List α} {f : α → List DC} (h : s.ev x = some (.c (.ex v))) (k : ArgsB s (.arrX v e esz lo (xs.map f)) l avs) : ArgsB s (.arrX v e esz lo (xs.map f)) (x :: l) (.sl false esz (xs.map f) :: avs) := ArgsB.lentX h k
end
end Go.Rv
namespace Go.Rv
section
variable {P : Program} {N : Nat} {s : St} {o : Oper} {K : St → Prop}
theorem zeros_flat {z : Array Value} {sz : Nat} (hz : z.size = sz) (hs : 0 < sz) (q : Nat) : (madeCells z (q * sz)).toList = (List.replicate q z.toList).flatten := by
 apply List.ext_getElem?
 intro j
 have hfl : (List.replicate q z.toList).flatten.length = q * sz := by
  rw [flat_len (k := sz) (fun x hx => by rw [List.eq_of_mem_replicate hx]; simpa using hz)]; simp
 have hzl : (madeCells z (q * sz)).toList.length = q * sz := by rw [Array.length_toList, size_madeCells]
 by_cases hj : j < q * sz
 ·have hdec : j = j / sz * sz + j % sz := by rw [Nat.mul_comm]; exact (Nat.div_add_mod j sz).symm
  have hjm : j % sz < sz := Nat.mod_lt _ hs
  have hjd : j / sz < q := Nat.div_lt_of_lt_mul (by rw [Nat.mul_comm]; exact hj)
  have h1 : (List.replicate q z.toList).flatten[j]? = z.toList[j % sz]? := by
   rw [hdec, flat_get (k := sz) (fun x hx => by rw [List.eq_of_mem_replicate hx]; simpa using hz) hjm]
   simp [hjd]
  rw [h1]
  simp only [madeCells, Array.getElem?_toList, Array.getElem?_map, hz]
  have hjm' : j % sz < z.size := by rw [hz]; exact hjm
  simp [hj, hjm']
 ·rw [List.getElem?_eq_none (by rw [hzl]; omega), List.getElem?_eq_none (by omega)]
theorem OpT.makeSliceX {α : Type} {x y : Operand} {t e : TypeId} {kl kc : IntKind} {n : Int} {z : Value} {esz by_ : Nat} {f : α → List DC} {zv : α} (ho : o.op = .makeSlice t x y) (hN : ∀ d, o.dst = some d → d < N)
  (ht : P.underlying t = some (.slice e)) (hei : EInfo P e z esz by_) (hs : 0 < esz) (hz : z.cells.size = esz) (hz1 : z.cells.toList.all Value.oneCell' = true) (hzv : f zv = z.cells.toList.map DC.ex)
  (hx : s.ev x = some (.int kl n)) (hy : s.ev y = some (.int kc n)) (hn : 0 ≤ n) (hroom : roomy by_ n.toNat = true)
  (k' : ∀ v, K (s.upd o.dst (.c (.ex v)) (.arrX v e esz 0 ((List.replicate n.toNat zv).map f) :: s.tab))) : OpT P N o s K := by
 intro F L a w hr
 obtain ⟨i, hi, hiz, his, hib⟩ := hei
 subst his; subst hib
 obtain ⟨h63, hby⟩ := roomy_iff.1 hroom
 obtain ⟨m, rfl⟩ : ∃ m : Nat, n = (m : Int) := ⟨n.toNat, by omega⟩
 rw [Int.toNat_natCast] at h63 hby k'
 have hmk := run_make (P := P) w t e i z ht hi hiz kl kc (m : Int) (m : Int) hn (Int.le_refl _) (by
  have : ((i.bytes * m : Nat) : Int) ≤ 281474976710656 := by rw [Nat.mul_comm]; omega
  rwa [Int.natCast_mul] at this) (by simp only [maxLen] at h63; omega)
 simp only [Int.toNat_natCast] at hmk
 have hrun : (execOp a.eval o).run P w = .ok (.value (.slice (some ⟨w.heap.size, 0, none⟩) m m)) (w.alloc (.cells (madeCells z.cells (m * i.size)) e)) := by
  simp [execOp, ho, hr.exact hx, hr.exact hy, hmk]
 have hone : ∀ v ∈ z.cells.toList, v.oneCell' = true := fun v hv => List.all_eq_true.1 hz1 v hv
 have hl1 : ((List.replicate m zv).map f).length = m := by simp
 obtain ⟨L', h2, h3⟩ := hr.add (w' := w.alloc (.cells (madeCells z.cells (m * i.size)) e)) (r := [(w.heap.size, 0 * i.size)]) (dst := o.dst) (v := .slice (some ⟨w.heap.size, 0, none⟩) m m)
  (x := .c (.ex (.slice (some ⟨w.heap.size, 0, none⟩) m m))) (o := .arrX (.slice (some ⟨w.heap.size, 0, none⟩) m m) e i.size 0 ((List.replicate m zv).map f))
  ⟨Ext.alloc w (.cells (madeCells z.cells (m * i.size)) e) (0 * i.size), by simp, fun p hp => by simp at hp; subst hp; simp⟩ hN
  (fun M hnew hxM => by
   have := ObR.arrX (w := w.alloc (.cells (madeCells z.cells (m * i.size)) e)) (M := M) w.heap.size m _ e i.size 0 ((List.replicate m zv).map f) (heap_alloc_new w _) (Nat.zero_le _) (by rw [hl1]; exact Nat.le_refl _) h63
    (size_madeCells _ _) (fun x hx => by
     rw [List.map_replicate] at hx
     rw [List.eq_of_mem_replicate hx, hzv]; simpa using hz) (fun off ho => by omega) (by
     rw [hl1, List.take_of_length_le (by rw [Array.length_toList, size_madeCells]; exact Nat.le_refl _), zeros_flat hz hs, List.map_replicate, hzv]
     exact RepL.reps hone m)
   rwa [hl1] at this) (fun M _ _ => .c _ _ (.ex _ rfl))
 unfold Oper.wp
 rw [hrun, Oper.upon_value]
 exact ⟨L', _, k' _, h2, h3⟩
def runeS (a : Int) : ByteArray := Utf8.encode a
theorem OpT.convRune {src dst : TypeId} {x : Operand} {k : IntKind} {a : Int} (ho : o.op = .convert src dst x) (hN : ∀ d, o.dst = some d → d < N) {d1 : TypeDesc} (hs : P.underlying src = some d1) (hd : P.underlying dst = some .string)
  (hx : s.ev x = some (.int k a)) (k' : K (s.putO o.dst (.str (runeS a)))) : OpT P N o s K :=
 OpT.still _ hN (fun F L a' w hr => by
  refine ⟨.string (runeS a), ?_, .c _ _ (.ex _ rfl)⟩
  simp only [execOp, ho, hr.exact hx, Sem.run_bind, run_convert_int_string w src dst k a (by rw [hs]; rfl) hd]
  rfl) k'
theorem OpT.eqlPtrNil {t t' e : TypeId} {x y : Operand} (ho : o.op = .binOp .eql t x y t') (hN : ∀ d, o.dst = some d → d < N) (ht : P.underlying t = some (.pointer e))
  (hx : s.ev x = some (.c (.ex (.pointer none)))) (hy : s.ev y = some (.c (.ex (.pointer none)))) (k : K (s.putO o.dst (.bool true))) : OpT P N o s K :=
 OpT.still _ hN (fun F L a w hr => by
  refine ⟨.bool true, ?_, .c _ _ (.ex _ rfl)⟩
  have h : ∀ d : Nat, (Op.equalIn (d + 1) t (.pointer none) (.pointer none)).run P w = .ok true w := fun d => by
   simp [Op.equalIn, run_underlying ht]
  have hg : eqGuard .eql t x y (.pointer none) (.pointer none) = pure () := rfl
  have hb : (binOp .eql t (.pointer none) (.pointer none)).run P w = .ok (.bool true) w := by
   simp only [binOp]
   simp [Op.equal, Op.maxDepth, h 9999]
  simp only [execOp, ho, hr.exact hx, hr.exact hy, hg, Sem.run_bind, Sem.run_pure, Result.andThen_ok, hb]) k
theorem OpT.eqlPtrSome {t t' e : TypeId} {x y : Operand} {b off : Nat} (ho : o.op = .binOp .eql t x y t') (hN : ∀ d, o.dst = some d → d < N) (ht : P.underlying t = some (.pointer e))
  (hx : s.ev x = some (.ptr b off)) (hy : s.ev y = some (.c (.ex (.pointer none)))) (k : K (s.putO o.dst (.bool false))) : OpT P N o s K :=
 OpT.still _ hN (fun F L a w hr => by
  refine ⟨.bool false, ?_, .c _ _ (.ex _ rfl)⟩
  have h : ∀ d : Nat, (Op.equalIn (d + 1) t (.pointer (some ⟨b, off, none⟩)) (.pointer none)).run P w = .ok false w := fun d => by
   simp [Op.equalIn, run_underlying ht]
  have hg : eqGuard .eql t x y (.pointer (some ⟨b, off, none⟩)) (.pointer none) = pure () := rfl
  have hb : (binOp .eql t (.pointer (some ⟨b, off, none⟩)) (.pointer none)).run P w = .ok (.bool false) w := by
   simp only [binOp]
   simp [Op.equal, Op.maxDepth, h 9999]
  simp only [execOp, ho, hr.exact hx, hr.exact hy, hg, Sem.run_bind, Sem.run_pure, Result.andThen_ok, hb]) k
theorem OpT.neqPtrSame {t t' e : TypeId} {x y : Operand} {b off : Nat} {z : Value} {sz by_ : Nat} (ho : o.op = .binOp .neq t x y t') (hN : ∀ d, o.dst = some d → d < N) (ht : P.underlying t = some (.pointer e)) (he : EInfo P e z sz by_)
  (hx : s.ev x = some (.ptr b off)) (hy : s.ev y = some (.ptr b off)) (k : K (s.putO o.dst (.bool false))) : OpT P N o s K :=
 OpT.still _ hN (fun F L a w hr => by
  refine ⟨.bool false, ?_, .c _ _ (.ex _ rfl)⟩
  obtain ⟨i, hi, _⟩ := he
  have hg : eqGuard .neq t x y (.pointer (some ⟨b, off, none⟩)) (.pointer (some ⟨b, off, none⟩)) = pure () := rfl
  simp only [execOp, ho, hr.exact hx, hr.exact hy, hg, Sem.run_bind, Sem.run_pure, Result.andThen_ok, Lib.run_neq_ptr_same w ⟨b, off, none⟩ ht hi]) k
theorem OpT.noEscape {f : FuncId} {fn : Func} {x : Operand} {ts : Array TypeId} {v : Value} (ho : o.op = .call { callee := .value (.func f), args := #[x], argTypes := ts }) (hN : ∀ d, o.dst = some d → d < N) (hf : P.funcs[f]? = some fn) (hname : (fn.name == "runtime.NumGoroutine") = false)
  (hb : fn.body.isNone = true) (hn : Extern.findNext fn = none) (he : Extern.find fn = some Extern.AbiNoEscape.same) (hv1 : v.oneCell' = true) (hx : s.ev x = some (.c (.ex v))) (k : K (s.putO o.dst (.c (.ex v)))) : OpT P N o s K :=
 OpT.still _ hN (fun F L a w hr => by
  refine ⟨v, run_entryOp ho hf hname hb hn he ?_, .c _ _ (.ex _ hv1)⟩
  have e : (#[x] : Array Operand).map a.eval = #[v] := by simp [hr.exact hx]
  rw [e]
  exact Lib.run_noEscape w v) k
theorem OpT.toUnsafe {src dst t e : TypeId} {x : Operand} {b i : Nat} {cells : List OC} {z : Value} {sz by_ : Nat} (ho : o.op = .convert src dst x) (hN : ∀ d, o.dst = some d → d < N) (hs : P.underlying src = some (.pointer t)) (hd : P.underlying dst = some .unsafePointer) (ht : EInfo P t z sz by_) (hsz : sz ≠ 0)
  (hx : s.ev x = some (.ptr b 0)) (hi : s.tab[i]? = some (.box b e cells)) (hc : 0 < cells.length) (k : K (s.putO o.dst (.ptr b 0))) : OpT P N o s K :=
 OpT.still _ hN (fun F L a w hr => by
  refine ⟨.pointer (some ⟨b, 0, none⟩), ?_, .c _ _ (.ex _ rfl)⟩
  obtain ⟨j, hj, _, hjs, _⟩ := ht
  obtain ⟨r, R, hob, -⟩ := hr.touch hi
  cases hob with
  | box _ _ cs _ r' hb hcs =>
   have hlen := hcs.length
   have hsh : w.shape? b = some (e, cs.size) := by simp [World.shape?, hb]
   have hr2 := Lib.run_to_unsafe (P := P) w ⟨b, 0, none⟩ hs hd hj (by rw [hjs]; exact hsz) hsh (by simp at hlen; simp; omega)
   simp only [execOp, ho, hr.exact hx, Sem.run_bind, hr2, Result.andThen_ok]
   rfl) k
theorem OpT.ofUnsafe {src dst u e : TypeId} {x : Operand} {b i n : Nat} {cells : List OC} {z : Value} {sz by_ : Nat} (ho : o.op = .convert src dst x) (hN : ∀ d, o.dst = some d → d < N) (hs : P.underlying src = some .unsafePointer) (hd : P.underlying dst = some (.pointer u)) (hu : EInfo P u z sz by_)
  (hx : s.ev x = some (.ptr b 0)) (hi : s.tab[i]? = some (.box b e cells)) (hc : cells.length = n) (hlies : liesAt P P.depth e (n / P.cellsOf e) 0 u 1 = true) (k : K (s.putO o.dst (.ptr b 0))) : OpT P N o s K :=
 OpT.still _ hN (fun F L a w hr => by
  refine ⟨.pointer (some ⟨b, 0, none⟩), ?_, .c _ _ (.ex _ rfl)⟩
  obtain ⟨j, hj, _, hjs, _⟩ := hu
  obtain ⟨r, R, hob, -⟩ := hr.touch hi
  cases hob with
  | box _ _ cs _ r' hb hcs =>
   have hlen := hcs.length
   have hsh : w.shape? b = some (e, n) := by
    have : cs.size = n := by simp at hlen; omega
    simp [World.shape?, hb, this]
   have hr2 := Lib.run_from_unsafe (P := P) w ⟨b, 0, none⟩ hs hd hj hsh hlies
   simp only [execOp, ho, hr.exact hx, Sem.run_bind, hr2, Result.andThen_ok]
   rfl) k
def bytesI (b : ByteArray) : List Int := b.data.toList.map fun x => (x.toNat : Int)
theorem strCells_bytesI (b : ByteArray) : Lib.strCells b = (bytesI b).map (Value.int .u8) := by simp [Lib.strCells, bytesI]
theorem bytesI_len (b : ByteArray) : (bytesI b).length = b.size := by
 rw [bytesI, List.length_map, Array.length_toList]; rfl
theorem cI_flat (k : IntKind) (xs : List Int) : (xs.map (cI k)).flatten = (xs.map (Value.int k)).map DC.ex := by
 induction xs with
 | nil => rfl
 | cons y ys ih => simp only [List.map_cons, List.flatten_cons, ih]; rfl
theorem RepL.ofOne {w : World} {M : Reg} : ∀ (vs : List Value), (∀ v ∈ vs, v.oneCell' = true) → RepL w M vs (vs.map DC.ex)
 | [], _ => RepL.nil
 | v :: vs, h => RepL.cons (.ex v (h v (by simp))) (RepL.ofOne vs fun u hu => h u (by simp [hu]))
theorem run_appendOpS {w w' : World} {a : Act} {x y : Operand} {t u : TypeId} {p q v : Value} (ho : o.op = .call { callee := .builtin .append, args := #[x, y], argTypes := #[t, u] }) (hx : a.eval x = p) (hy : a.eval y = q)
  (h : (Builtin.append_ #[t, u] o.type #[p, q]).run P w = .ok v w') : (execOp a.eval o).run P w = .ok (.value v) w' := by
 simp [execOp, ho, resolve, invoke, builtin, hx, hy, h]
theorem OpT.appendStrXM {x y : Operand} {t u e : TypeId} {z : Value} {v : Value} {i : Nat} {xs : List Int} {b : ByteArray} (ho : o.op = .call { callee := .builtin .append, args := #[x, y], argTypes := #[t, u] }) (hN : ∀ d, o.dst = some d → d < N)
  (ht : P.underlying t = some (.slice e)) (hu : P.underlying u = some .string) (hei : EInfo P e z 1 1) (hz : z.cells.size = 1) (hx : s.ev x = some (.c (.ex v))) (hi : s.tab[i]? = some (.arrX v e 1 0 (xs.map (cI .u8)))) (hy : s.ev y = some (.str b))
  (hroom : roomy 1 (xs.length + b.size) = true)
  (k : ∀ v', K (s.upd o.dst (.c (.ex v')) (s.tab.set i (.arrX v' e 1 0 ((xs ++ bytesI b).map (cI .u8)))))) : OpT P N o s K := by
 intro F L a w hr
 have hv := hr.exact hx
 have hvy := hr.exact hy
 obtain ⟨h63, hby⟩ := roomy_iff.1 hroom
 obtain ⟨r, R, hob, hwr, hnd, hlt, hdis, hgo⟩ := hr.touch hi
 have hlen1 : (xs.map (cI .u8)).length = xs.length := List.length_map _
 have hlenb : ((bytesI b).map (cI .u8)).length = b.size := by rw [List.length_map, bytesI_len]
 have hz1 : ∀ ys : List Int, ∀ q ∈ ys.map (cI .u8), q.length = 1 := fun ys q hq => by obtain ⟨_, _, rfl⟩ := List.mem_map.1 hq; rfl
 have hsc : ∀ M, ∀ w' : World, RepL w' M (Lib.strCells b) ((bytesI b).map (cI .u8)).flatten := fun M w' => by
  rw [cI_flat, ← strCells_bytesI]
  exact RepL.ofOne _ (Lib.strCells_oneCell b)
 have hscl := Lib.strCells_length b
 have hfreshR : ∀ lim, (w.heap.size, lim) ∉ R := fun lim hl => by
  have : Wr (L ++ F) w.heap.size lim := (hwr _ _).1 (Wr.append.2 (.inr ⟨lim, hl, Nat.le_refl _⟩))
  obtain ⟨l2, hl2, _⟩ := this
  exact absurd (hr.lt _ hl2) (by simp)
 obtain ⟨ii, hi1, hi2, hi3, hi4⟩ := hei
 rw [List.map_append] at k
 generalize hes : xs.map (cI .u8) = elems at *
 generalize hys : (bytesI b).map (cI .u8) = ys at *
 have hzo : ∀ q ∈ elems, q.length = 1 := by rw [← hes]; exact hz1 xs
 have hzy : ∀ q ∈ ys, q.length = 1 := by rw [← hys]; exact hz1 _
 have hlen : (elems ++ ys).length = elems.length + ys.length := List.length_append
 have hnc : ∀ n c, n + b.size ≤ 140737488355328 → c < n + b.size → Builtin.nextslicecap (n + b.size) c * ii.bytes ≤ 281474976710656 := fun n c h1 h2 => by
  have := nextslicecap_le (need := n + b.size) (old := c) h2
  rw [hi4]; omega
 cases hob with
 | arrX0 bb =>
  cases bb with
  | none =>
   by_cases h0 : b.size = 0
   ·have hye : ys = [] := List.eq_nil_of_length_eq_zero (by omega)
    subst hye
    have hrun0 : (Builtin.append_ #[t, u] o.type #[.slice none 0 0, .string b]).run P w = .ok (.slice none 0 0) w := by
     simp [Builtin.append_, run_underlying ht, run_underlying hu, sizeOf, typeInfo, hi1, hi3, Builtin.lenOf, h0, Builtin.firstCells]
    have hrun := run_appendOpS (w := w) (w' := w) (a := a) ho hv hvy hrun0
    obtain ⟨L', h2, h3⟩ := hgo w [] (.arrX (.slice none 0 0) e 1 0 ([] ++ [])) o.dst (.slice none 0 0) (.c (.ex (.slice none 0 0))) ⟨Ext.refl _ _, hnd, hlt⟩ hN (.arrX0 _ _ _) (.c _ _ (.ex _ rfl))
    unfold Oper.wp
    rw [hrun, Oper.upon_value]
    exact ⟨L', _, k _, h2, h3⟩
   ·have happ := run_append_nil_string (P := P) w t u o.type e ii z ht hu hi1 hi2 b (by omega) (by omega) (by rw [hi4]; omega)
    have hrun := run_appendOpS (a := a) ho hv hvy happ
    have hf : Fits w (w.drew.alloc (.cells (b.data.map (fun b => Value.int .u8 b.toNat) ++ Builtin.zeroCells z.cells (grownCap w b.size 0 e - b.size)) e)) [] [(w.heap.size, 0 * 1)] :=
     ⟨(Ext.drew [] w).trans (Ext.alloc w.drew _ _), by simp, fun p hp => by simp at hp; subst hp; simp⟩
    have hcells : (b.data.map (fun b => Value.int .u8 b.toNat) ++ Builtin.zeroCells z.cells (grownCap w b.size 0 e - b.size)) = (([] : List Value).toArray ++ (Lib.strCells b).toArray ++ Builtin.zeroCells z.cells (grownCap w (([] : List (List DC)).length + ys.length) 0 e - (([] : List (List DC)).length + ys.length))) := by
     rw [List.length_nil, Nat.zero_add, hlenb]
     congr 1
     apply Array.ext'
     simp [Lib.strCells]
    rw [hcells] at hf hrun
    have hkey := fresh_ownX (w := w) (e := e) (z := z) (size := 1) (lo := 0) (elems := []) (ys := ys) (olds := []) (news := Lib.strCells b) (cap := 0) hz (by simp) (by rw [hscl, hlenb, Nat.mul_one]) (fun x hx => by simp at hx) hzy (by simp only [List.length_nil]; omega) (Nat.le_refl _) (hf.ext.frame R) (fun off hoff hw => by simp at hoff) RepL.nil (hsc _ _)
    rw [List.length_nil, Nat.zero_add, hlenb] at hkey
    rw [List.length_nil, Nat.zero_add, hlenb] at hrun hf
    obtain ⟨L', h2, h3⟩ := hgo _ _ (.arrX (.slice (some ⟨w.heap.size, 0, none⟩) b.size (grownCap w b.size 0 e)) e 1 0 ([] ++ ys)) o.dst (.slice (some ⟨w.heap.size, 0, none⟩) b.size (grownCap w b.size 0 e)) (.c (.ex _)) hf hN hkey (.c _ _ (.ex _ rfl))
    unfold Oper.wp
    rw [hrun, Oper.upon_value]
    exact ⟨L', _, k _, h2, h3⟩
  | some ad =>
   by_cases h0 : b.size = 0
   ·have hye : ys = [] := List.eq_nil_of_length_eq_zero (by omega)
    subst hye
    have hrun0 : (Builtin.append_ #[t, u] o.type #[.slice (some ad) 0 0, .string b]).run P w = .ok (.slice (some ad) 0 0) w := by
     have hb0 : b.data.toList = [] := List.eq_nil_of_length_eq_zero (by rw [Array.length_toList]; exact h0)
     have hf := Lib.run_firstCells_string (P := P) w 1 b
     rw [h0] at hf
     simp [Builtin.append_, run_underlying ht, run_underlying hu, sizeOf, typeInfo, hi1, hi3, Builtin.lenOf, h0, hf, Lib.strCells, hb0, storeCells]
    have hrun := run_appendOpS (w := w) (w' := w) (a := a) ho hv hvy hrun0
    obtain ⟨L', h2, h3⟩ := hgo w [] (.arrX (.slice (some ad) 0 0) e 1 0 ([] ++ [])) o.dst (.slice (some ad) 0 0) (.c (.ex (.slice (some ad) 0 0))) ⟨Ext.refl _ _, hnd, hlt⟩ hN (.arrX0 _ _ _) (.c _ _ (.ex _ rfl))
    unfold Oper.wp
    rw [hrun, Oper.upon_value]
    exact ⟨L', _, k _, h2, h3⟩
   ·have happ := Lib.run_append_grow_string (P := P) w t u o.type e ii z ht hu hi1 hi2 ad 0 0 [] (by simp) (fun j v hj => by simp at hj) b (by omega) (by omega) (hnc 0 0 (by omega) (by omega))
    have hrun := run_appendOpS (a := a) ho hv hvy happ
    have hf : Fits w (w.drew.alloc (.cells (([] : List Value).toArray ++ (Lib.strCells b).toArray ++ Builtin.zeroCells z.cells (grownCap w (0 + b.size) 0 e - (0 + b.size))) e)) [] [(w.heap.size, 0 * 1)] :=
     ⟨(Ext.drew [] w).trans (Ext.alloc w.drew _ _), by simp, fun p hp => by simp at hp; subst hp; simp⟩
    have hkey := fresh_ownX (w := w) (e := e) (z := z) (size := 1) (lo := 0) (elems := []) (ys := ys) (olds := []) (news := Lib.strCells b) (cap := 0) (M := [] ++ R) (M' := [(w.heap.size, 0 * 1)] ++ R) hz (by simp) (by rw [hscl, hlenb, Nat.mul_one]) (fun x hx => by simp at hx) hzy (by simp only [List.length_nil]; omega) (Nat.le_refl _) (by
     rw [List.length_nil, hlenb]; exact hf.ext.frame R) (fun off hoff hw => by simp at hoff) RepL.nil (hsc _ _)
    rw [List.length_nil, hlenb] at hkey
    obtain ⟨L', h2, h3⟩ := hgo _ _ (.arrX (.slice (some ⟨w.heap.size, 0, none⟩) (0 + b.size) (grownCap w (0 + b.size) 0 e)) e 1 0 ([] ++ ys)) o.dst (.slice (some ⟨w.heap.size, 0, none⟩) (0 + b.size) (grownCap w (0 + b.size) 0 e)) (.c (.ex _)) hf hN hkey (.c _ _ (.ex _ rfl))
    unfold Oper.wp
    rw [hrun, Oper.upon_value]
    exact ⟨L', _, k _, h2, h3⟩
 | arrX g cap cur _ _ _ _ hg hloe hn hm hcs hzo' hnw hro =>
  have hglt := lt_of_block hg
  by_cases hroom : elems.length + b.size ≤ cap
  ·have hfit : elems.length + b.size ≤ cur.size := by rw [hcs]; omega
   have happ := Lib.run_append_room_string (P := P) w t u o.type e ii ht hu hi1 hi3 g elems.length cap cur hg b hroom hfit
   have hrun := run_appendOpS (a := a) ho hv hvy happ
   have hx1 : Ext [(g, 0 * 1)] w [(g, 0 * 1)] (w.setRow g (cur.toList.take elems.length ++ Lib.strCells b ++ cur.toList.drop (elems.length + b.size)).toArray) :=
    Ext.setRow_from hg (Nat.le_refl _) (fun q hq => by omega)
   have hf : Fits w _ [(g, 0 * 1)] [(g, 0 * 1)] := ⟨hx1, by simp, fun p hp => by simp at hp; subst hp; simpa using hglt⟩
   have hxR := hx1.frame R
   have hown' : ObR (w.setRow g (cur.toList.take elems.length ++ Lib.strCells b ++ cur.toList.drop (elems.length + b.size)).toArray) ([(g, 0 * 1)] ++ R) (.arrX (.slice (some ⟨g, 0, none⟩) (elems ++ ys).length cap) e 1 0 (elems ++ ys)) [(g, 0 * 1)] := by
    refine .arrX g cap _ e 1 0 (elems ++ ys) (setRow_heap w g cur _ e _ hg) (Nat.zero_le _) (by rw [hlen]; omega) hm ?_ ?_ ?_ ?_
    ·simp only [List.size_toArray, List.length_append, List.length_take, List.length_drop, Array.length_toList, hscl]; omega
    ·intro x hx; rcases List.mem_append.1 hx with h | h; (exact hzo x h); exact hzy x h
    ·intro off hoff hw; omega
    ·have : (cur.toList.take elems.length ++ Lib.strCells b ++ cur.toList.drop (elems.length + b.size)).toArray.toList.take ((elems ++ ys).length * 1) = cur.toList.take (elems.length * 1) ++ Lib.strCells b := by
      have hl1 : (cur.toList.take elems.length ++ Lib.strCells b).length = (elems ++ ys).length * 1 := by
       have hcur : cur.toList.length = cur.size := by simp
       rw [List.length_append, List.length_take, hcur, hlen, hscl]; omega
      rw [← hl1, Nat.mul_one]
      exact List.take_left
     rw [this, List.flatten_append]
     exact (hro.step hxR).append (hsc _ _)
   rw [hlen, hlenb] at hown'
   obtain ⟨L', h2, h3⟩ := hgo _ _ (.arrX (.slice (some ⟨g, 0, none⟩) (elems.length + b.size) cap) e 1 0 (elems ++ ys)) o.dst (.slice (some ⟨g, 0, none⟩) (elems.length + b.size) cap) (.c (.ex _)) hf hN hown' (.c _ _ (.ex _ rfl))
   unfold Oper.wp
   rw [hrun, Oper.upon_value]
   exact ⟨L', _, k _, h2, h3⟩
  ·have holdlen : (cur.toList.take (elems.length * 1)).length = elems.length * 1 := by
    have hcur : cur.toList.length = cur.size := by simp
    rw [List.length_take, hcur, hcs]
    exact Nat.min_eq_left (Nat.mul_le_mul_right _ hn)
   have happ := Lib.run_append_grow_string (P := P) w t u o.type e ii z ht hu hi1 hi2 ⟨g, 0, none⟩ elems.length cap (cur.toList.take (elems.length * 1)) (by rw [holdlen, hi3]) (fun j v hj => by
    rw [addr_add, cell_of_row w g _ cur e _ hg, Nat.zero_add]
    rw [List.getElem?_take] at hj
    split at hj
    ·simpa using hj
    ·cases hj) b (by omega) (by omega) (hnc _ _ (by omega) (by omega))
   have hrun := run_appendOpS (a := a) ho hv hvy happ
   have hf : Fits w (w.drew.alloc (.cells ((cur.toList.take (elems.length * 1)).toArray ++ (Lib.strCells b).toArray ++ Builtin.zeroCells z.cells (grownCap w (elems.length + b.size) cap e - (elems.length + b.size))) e)) [(g, 0 * 1)] [(w.heap.size, 0 * 1)] :=
    ⟨((Ext.drew [] w).trans (Ext.alloc w.drew _ _)).ofNil, by simp, fun p hp => by simp at hp; subst hp; simp⟩
   have hkey := fresh_ownX (w := w) (e := e) (z := z) (size := 1) (lo := 0) (elems := elems) (ys := ys) (olds := cur.toList.take (elems.length * 1)) (news := Lib.strCells b) (cap := cap) (M := [(g, 0 * 1)] ++ R) (M' := [(w.heap.size, 0 * 1)] ++ R) hz holdlen (by rw [hscl, hlenb, Nat.mul_one]) hzo hzy (by omega) (Nat.zero_le _) (by
    rw [hlenb]; exact hf.ext.frame R) (fun off hoff hw => by omega) hro (hsc _ _)
   rw [hlenb] at hkey
   obtain ⟨L', h2, h3⟩ := hgo _ _ (.arrX (.slice (some ⟨w.heap.size, 0, none⟩) (elems.length + b.size) (grownCap w (elems.length + b.size) cap e)) e 1 0 (elems ++ ys)) o.dst (.slice (some ⟨w.heap.size, 0, none⟩) (elems.length + b.size) (grownCap w (elems.length + b.size) cap e)) (.c (.ex _)) hf hN hkey (.c _ _ (.ex _ rfl))
   unfold Oper.wp
   rw [hrun, Oper.upon_value]
   exact ⟨L', _, k _, h2, h3⟩
end
end Go.Rv
