/- A LOGIC OF ABSTRACT STATES OVER THE MODEL, part BW: owned memory that is lent to a call; an array that was appended to, whose old header is still wanted. -/
import Derived.Test.YtcmfaclkgdmpbaaGreatDoorRvP
import Derived.Lib.Bytealg
import Derived.Laws.MakeOwn
import Derived.Laws.Runes
import Derived.Lib.Builder
import Derived.Lib.AppendStr
namespace Go.Rv
section
variable {P : Program} {N : Nat} {s : St} {o : Oper} {K : St → Prop}
end
section
variable {P : Program} {N : Nat} {s : St} {o : Oper} {K : St → Prop}
theorem OpT.pre {s' : St} (h : Zx s s') (k : OpT P N o s' K) : OpT P N o s K := by
 intro F L a w hr
 obtain ⟨L', h1, h2⟩ := h N F L a w hr
 refine Ch (k F L' a w h1) ?_ (fun _ _ _ h => h)
 rintro a' w' ⟨L2, t, kt, hr', hx⟩
 exact ⟨L2, t, kt, hr', h2.trans hx⟩
end
end Go.Rv
namespace Go.Rv
section
variable {P : Program} {N : Nat} {s : St} {o : Oper} {K : St → Prop}
end
end Go.Rv
namespace Go.Rv
section
variable {P : Program} {N : Nat} {s : St} {o : Oper} {K : St → Prop}
end
end Go.Rv
namespace Go.Rv
section
variable {P : Program} {N : Nat} {s : St} {o : Oper} {K : St → Prop}
theorem ObR.headX {w : World} {M : Reg} {v : Value} {e : TypeId} {esz lo : Nat} {elems : List (List DC)} {r : Reg} (h : ObR w M (.arrX v e esz lo elems) r) : ∃ a c, v = .slice a elems.length c ∧ elems.length ≤ c := by
 cases h with
 | arrX0 a => exact ⟨a, 0, rfl, Qf6 _⟩
 | arrX g cap cur _ _ _ _ hg hlo hn hm hcs hz hnw hr => exact ⟨_, cap, rfl, hn⟩
theorem OpT.sliceSub {α : Type} {t e e' : TypeId} {x low : Operand} {v : Value} {i esz lo l : Nat} {xs : List α} {f : α → List DC} {z : Value} {by_ : Nat} (ho : o.op = .slice t x (some low) none none) (hN : ∀ d, o.dst = some d → d < N) (ht : P.underlying t = some (.slice e))
  (hei : Zk P e z esz by_) (hx : s.ev x = some (.c (.ex v))) (hi : s.tab[i]? = some (.arrX v e' esz lo (xs.map f))) (hl : Bd s (some low) 0 l) (h1 : l ≤ xs.length) (k : K (s.putO o.dst (.sub v esz l))) : OpT P N o s K :=
 Zd _ hN (fun F L a w hr => by
  obtain ⟨r1, r2, h1', h2, hp⟩ := hr.heap.get hi
  obtain ⟨ad, cap, rfl, hcap⟩ := h1'.headX
  have hlen : (xs.map f).length = xs.length := Qfw _
  have hrun := E1 (P := P) (isS := true) (n := (xs.map f).length) (c := cap) hl (.none _) hr (by omega) hcap
  refine ⟨.slice (if cap = l then ad else ad.map (·.add (l * esz))) ((xs.map f).length - l) (cap - l), ?_, .sub _ _ _ _ ⟨ad, _, cap, rfl, by omega, rfl⟩⟩
  simp only [execOp, ho, hr.exact hx, Instr.sliceAt, Sem.run_bind, run_underlying ht, Result.andThen_ok, Instr.slice, Qhs, Qib, hei.sizeOf]
  simp only [Qhs, Qib] at hrun
  rw [hrun]
  rfl) k
end
end Go.Rv
namespace Go.Rv
section
variable {P : Program} {N : Nat} {s : St} {o : Oper} {K : St → Prop}
theorem zeros_flat {z : Array Value} {sz : Nat} (hz : z.size = sz) (hs : 0 < sz) (q : Nat) : (madeCells z (q * sz)).toList = (List.replicate q z.toList).flatten := by
 apply List.ext_getElem?
 intro j
 have hfl : (List.replicate q z.toList).flatten.length = q * sz := by
  rw [Eg (k := sz) (fun x hx => by rw [Qhn hx]; simpa using hz)]; simp
 have hzl : (madeCells z (q * sz)).toList.length = q * sz := by rw [Qg6, size_madeCells]
 by_cases hj : j < q * sz
 ·have hdec : j = j / sz * sz + j % sz := by rw [Qjd]; exact (Qip j sz).symm
  have hjm : j % sz < sz := Qh6 _ hs
  have hjd : j / sz < q := Nat.div_lt_of_lt_mul (by rw [Qjd]; exact hj)
  have h1 : (List.replicate q z.toList).flatten[j]? = z.toList[j % sz]? := by
   rw [hdec, Ts (k := sz) (fun x hx => by rw [Qhn hx]; simpa using hz) hjm]
   simp [hjd]
  rw [h1]
  simp only [madeCells, Array.getElem?_toList, Array.getElem?_map, hz]
  have hjm' : j % sz < z.size := by rw [hz]; exact hjm
  simp [hj, hjm']
 ·rw [List.getElem?_eq_none (by rw [hzl]; omega), List.getElem?_eq_none (by omega)]
theorem Gm {α : Type} {x y : Operand} {t e : TypeId} {kl kc : IntKind} {n : Int} {z : Value} {esz by_ : Nat} {f : α → List DC} {zv : α} (ho : o.op = .makeSlice t x y) (hN : ∀ d, o.dst = some d → d < N)
  (ht : P.underlying t = some (.slice e)) (hei : Zk P e z esz by_) (hs : 0 < esz) (hz : z.cells.size = esz) (hz1 : z.cells.toList.all Value.oneCell' = true) (hzv : f zv = z.cells.toList.map DC.ex)
  (hx : s.ev x = some (.int kl n)) (hy : s.ev y = some (.int kc n)) (hn : 0 ≤ n) (hroom : roomy by_ n.toNat = true)
  (k' : ∀ v, K (s.upd o.dst (.c (.ex v)) (.arrX v e esz 0 ((List.replicate n.toNat zv).map f) :: s.tab))) : OpT P N o s K := by
 intro F L a w hr
 obtain ⟨i, hi, hiz, his, hib⟩ := hei
 subst his; subst hib
 obtain ⟨h63, hby⟩ := Zl.1 hroom
 obtain ⟨m, rfl⟩ : ∃ m : Nat, n = (m : Int) := ⟨n.toNat, by omega⟩
 rw [Qf1] at h63 hby k'
 have hmk := run_make (P := P) w t e i z ht hi hiz kl kc (m : Int) (m : Int) hn (Int.le_refl _) (by
  have : ((i.bytes * m : Nat) : Int) ≤ 281474976710656 := by rw [Qjd]; omega
  rwa [Int.natCast_mul] at this) (by simp only [maxLen] at h63; omega)
 simp only [Qf1] at hmk
 have hrun : (execOp a.eval o).run P w = .ok (.value (.slice (some ⟨w.heap.size, 0, none⟩) m m)) (w.alloc (.cells (madeCells z.cells (m * i.size)) e)) := by
  simp [execOp, ho, hr.exact hx, hr.exact hy, hmk]
 have hone : ∀ v ∈ z.cells.toList, v.oneCell' = true := fun v hv => Qgr.1 hz1 v hv
 have hl1 : ((List.replicate m zv).map f).length = m := by simp
 obtain ⟨L', h2, h3⟩ := hr.add (w' := w.alloc (.cells (madeCells z.cells (m * i.size)) e)) (r := [(w.heap.size, 0 * i.size)]) (dst := o.dst) (v := .slice (some ⟨w.heap.size, 0, none⟩) m m)
  (x := .c (.ex (.slice (some ⟨w.heap.size, 0, none⟩) m m))) (o := .arrX (.slice (some ⟨w.heap.size, 0, none⟩) m m) e i.size 0 ((List.replicate m zv).map f))
  ⟨Ext.alloc w (.cells (madeCells z.cells (m * i.size)) e) (0 * i.size), by simp, fun p hp => by simp at hp; subst hp; simp⟩ hN
  (fun M hnew hxM => by
   have := ObR.arrX (w := w.alloc (.cells (madeCells z.cells (m * i.size)) e)) (M := M) w.heap.size m _ e i.size 0 ((List.replicate m zv).map f) (heap_alloc_new w _) (Qf7 _) (by rw [hl1]; exact Qf6 _) h63
    (size_madeCells _ _) (fun x hx => by
     rw [Qh3] at hx
     rw [Qhn hx, hzv]; simpa using hz) (fun off ho => by omega) (by
     rw [hl1, Qg8 (by rw [Qg6, size_madeCells]; exact Qf6 _), zeros_flat hz hs, Qh3, hzv]
     exact V8.reps hone m)
   rwa [hl1] at this) (fun M _ _ => .c _ _ (.ex _ rfl))
 unfold Oper.wp
 rw [hrun, Oper.upon_value]
 exact ⟨L', _, k' _, h2, h3⟩
theorem OpT.eqlPtrNil {t t' e : TypeId} {x y : Operand} (ho : o.op = .binOp .eql t x y t') (hN : ∀ d, o.dst = some d → d < N) (ht : P.underlying t = some (.pointer e))
  (hx : s.ev x = some (.c (.ex (.pointer none)))) (hy : s.ev y = some (.c (.ex (.pointer none)))) (k : K (s.putO o.dst (.bool true))) : OpT P N o s K :=
 Zd _ hN (fun F L a w hr => by
  refine ⟨.bool true, ?_, .c _ _ (.ex _ rfl)⟩
  have h : ∀ d : Nat, (Op.equalIn (d + 1) t (.pointer none) (.pointer none)).run P w = .ok true w := fun d => by
   simp [Op.equalIn, run_underlying ht]
  have hg : eqGuard .eql t x y (.pointer none) (.pointer none) = pure () := rfl
  have hb : (binOp .eql t (.pointer none) (.pointer none)).run P w = .ok (.bool true) w := by
   simp only [binOp]
   simp [Op.equal, Op.maxDepth, h 9999]
  simp only [execOp, ho, hr.exact hx, hr.exact hy, hg, Sem.run_bind, Sem.run_pure, Result.andThen_ok, hb]) k
theorem OpT.eqlPtrSome {t t' e : TypeId} {x y : Operand} {b off : Nat} (ho : o.op = .binOp .eql t x y t') (hN : ∀ d, o.dst = some d → d < N) (ht : P.underlying t = some (.pointer e))
  (hx : s.ev x = some (.ptr b off)) (hy : s.ev y = some (.c (.ex (.pointer none)))) (k : K (s.putO o.dst (.bool false))) : OpT P N o s K :=
 Zd _ hN (fun F L a w hr => by
  refine ⟨.bool false, ?_, .c _ _ (.ex _ rfl)⟩
  have h : ∀ d : Nat, (Op.equalIn (d + 1) t (.pointer (some ⟨b, off, none⟩)) (.pointer none)).run P w = .ok false w := fun d => by
   simp [Op.equalIn, run_underlying ht]
  have hg : eqGuard .eql t x y (.pointer (some ⟨b, off, none⟩)) (.pointer none) = pure () := rfl
  have hb : (binOp .eql t (.pointer (some ⟨b, off, none⟩)) (.pointer none)).run P w = .ok (.bool false) w := by
   simp only [binOp]
   simp [Op.equal, Op.maxDepth, h 9999]
  simp only [execOp, ho, hr.exact hx, hr.exact hy, hg, Sem.run_bind, Sem.run_pure, Result.andThen_ok, hb]) k
theorem OpT.neqPtrSame {t t' e : TypeId} {x y : Operand} {b off : Nat} {z : Value} {sz by_ : Nat} (ho : o.op = .binOp .neq t x y t') (hN : ∀ d, o.dst = some d → d < N) (ht : P.underlying t = some (.pointer e)) (he : Zk P e z sz by_)
  (hx : s.ev x = some (.ptr b off)) (hy : s.ev y = some (.ptr b off)) (k : K (s.putO o.dst (.bool false))) : OpT P N o s K :=
 Zd _ hN (fun F L a w hr => by
  refine ⟨.bool false, ?_, .c _ _ (.ex _ rfl)⟩
  obtain ⟨i, hi, _⟩ := he
  have hg : eqGuard .neq t x y (.pointer (some ⟨b, off, none⟩)) (.pointer (some ⟨b, off, none⟩)) = pure () := rfl
  simp only [execOp, ho, hr.exact hx, hr.exact hy, hg, Sem.run_bind, Sem.run_pure, Result.andThen_ok, Lib.run_neq_ptr_same w ⟨b, off, none⟩ ht hi]) k
theorem OpT.noEscape {f : FuncId} {fn : Func} {x : Operand} {ts : Array TypeId} {v : Value} (ho : o.op = .call { callee := .value (.func f), args := #[x], argTypes := ts }) (hN : ∀ d, o.dst = some d → d < N) (hf : P.funcs[f]? = some fn) (hname : (fn.name == "runtime.NumGoroutine") = false)
  (hb : fn.body.isNone = true) (hn : Extern.findNext fn = none) (he : Extern.find fn = some Extern.AbiNoEscape.same) (hv1 : v.oneCell' = true) (hx : s.ev x = some (.c (.ex v))) (k : K (s.putO o.dst (.c (.ex v)))) : OpT P N o s K :=
 Zd _ hN (fun F L a w hr => by
  refine ⟨v, run_entryOp ho hf hname hb hn he ?_, .c _ _ (.ex _ hv1)⟩
  have e : (#[x] : Array Operand).map a.eval = #[v] := by simp [hr.exact hx]
  rw [e]
  exact Lib.run_noEscape w v) k
theorem OpT.toUnsafe {src dst t e : TypeId} {x : Operand} {b i : Nat} {cells : List OC} {z : Value} {sz by_ : Nat} (ho : o.op = .convert src dst x) (hN : ∀ d, o.dst = some d → d < N) (hs : P.underlying src = some (.pointer t)) (hd : P.underlying dst = some .unsafePointer) (ht : Zk P t z sz by_) (hsz : sz ≠ 0)
  (hx : s.ev x = some (.ptr b 0)) (hi : s.tab[i]? = some (.box b e cells)) (hc : 0 < cells.length) (k : K (s.putO o.dst (.ptr b 0))) : OpT P N o s K :=
 Zd _ hN (fun F L a w hr => by
  refine ⟨.pointer (some ⟨b, 0, none⟩), ?_, .c _ _ (.ex _ rfl)⟩
  obtain ⟨j, hj, _, hjs, _⟩ := ht
  obtain ⟨r, R, hob, -⟩ := hr.touch hi
  cases hob with
  | box _ _ cs _ r' hb hcs =>
   have hlen := hcs.length
   have hsh : w.shape? b = some (e, cs.size) := by simp [World.shape?, hb]
   have hr2 := Lib.run_to_unsafe (P := P) w ⟨b, 0, none⟩ hs hd hj (by rw [hjs]; exact hsz) hsh (by simp at hlen; simp; omega)
   simp only [execOp, ho, hr.exact hx, Sem.run_bind, hr2, Result.andThen_ok]
   rfl) k
theorem OpT.ofUnsafe {src dst u e : TypeId} {x : Operand} {b i n : Nat} {cells : List OC} {z : Value} {sz by_ : Nat} (ho : o.op = .convert src dst x) (hN : ∀ d, o.dst = some d → d < N) (hs : P.underlying src = some .unsafePointer) (hd : P.underlying dst = some (.pointer u)) (hu : Zk P u z sz by_)
  (hx : s.ev x = some (.ptr b 0)) (hi : s.tab[i]? = some (.box b e cells)) (hc : cells.length = n) (hlies : liesAt P P.depth e (n / P.cellsOf e) 0 u 1 = true) (k : K (s.putO o.dst (.ptr b 0))) : OpT P N o s K :=
 Zd _ hN (fun F L a w hr => by
  refine ⟨.pointer (some ⟨b, 0, none⟩), ?_, .c _ _ (.ex _ rfl)⟩
  obtain ⟨j, hj, _, hjs, _⟩ := hu
  obtain ⟨r, R, hob, -⟩ := hr.touch hi
  cases hob with
  | box _ _ cs _ r' hb hcs =>
   have hlen := hcs.length
   have hsh : w.shape? b = some (e, n) := by
    have : cs.size = n := by simp at hlen; omega
    simp [World.shape?, hb, this]
   have hr2 := Lib.run_from_unsafe (P := P) w ⟨b, 0, none⟩ hs hd hj hsh hlies
   simp only [execOp, ho, hr.exact hx, Sem.run_bind, hr2, Result.andThen_ok]
   rfl) k
def Mg (b : ByteArray) : List Int := b.data.toList.map fun x => (x.toNat : Int)
theorem Qe1 (b : ByteArray) : Lib.strCells b = (Mg b).map (Value.int .u8) := by simp [Lib.strCells, Mg]
theorem Qdf (b : ByteArray) : (Mg b).length = b.size := by
 rw [Mg, Qfw, Qg6]; rfl
theorem cI_flat (k : IntKind) (xs : List Int) : (xs.map (cI k)).flatten = (xs.map (Value.int k)).map DC.ex := by
 induction xs with
 | nil => rfl
 | cons y ys ih => simp only [Qge, Qgh, ih]; rfl
theorem V8.ofOne {w : World} {M : Reg} : ∀ (vs : List Value), (∀ v ∈ vs, v.oneCell' = true) → V8 w M vs (vs.map DC.ex)
 | [], _ => V8.nil
 | v :: vs, h => V8.cons (.ex v (h v (by simp))) (V8.ofOne vs fun u hu => h u (by simp [hu]))
theorem Ll {w w' : World} {a : Act} {x y : Operand} {t u : TypeId} {p q v : Value} (ho : o.op = .call { callee := .builtin .append, args := #[x, y], argTypes := #[t, u] }) (hx : a.eval x = p) (hy : a.eval y = q)
  (h : (Builtin.append_ #[t, u] o.type #[p, q]).run P w = .ok v w') : (execOp a.eval o).run P w = .ok (.value v) w' := by
 simp [execOp, ho, resolve, invoke, builtin, hx, hy, h]
theorem Tg {x y : Operand} {t u e : TypeId} {z : Value} {v : Value} {i : Nat} {xs : List Int} {b : ByteArray} (ho : o.op = .call { callee := .builtin .append, args := #[x, y], argTypes := #[t, u] }) (hN : ∀ d, o.dst = some d → d < N)
  (ht : P.underlying t = some (.slice e)) (hu : P.underlying u = some .string) (hei : Zk P e z 1 1) (hz : z.cells.size = 1) (hx : s.ev x = some (.c (.ex v))) (hi : s.tab[i]? = some (.arrX v e 1 0 (xs.map (cI .u8)))) (hy : s.ev y = some (.str b))
  (hroom : roomy 1 (xs.length + b.size) = true)
  (k : ∀ v', K (s.upd o.dst (.c (.ex v')) (s.tab.set i (.arrX v' e 1 0 ((xs ++ Mg b).map (cI .u8)))))) : OpT P N o s K := by
 intro F L a w hr
 have hv := hr.exact hx
 have hvy := hr.exact hy
 obtain ⟨h63, hby⟩ := Zl.1 hroom
 obtain ⟨r, R, hob, hwr, hnd, hlt, hdis, hgo⟩ := hr.touch hi
 have hlen1 : (xs.map (cI .u8)).length = xs.length := Qfw _
 have hlenb : ((Mg b).map (cI .u8)).length = b.size := by rw [Qfw, Qdf]
 have hz1 : ∀ ys : List Int, ∀ q ∈ ys.map (cI .u8), q.length = 1 := fun ys q hq => by obtain ⟨_, _, rfl⟩ := Qgf.1 hq; rfl
 have hsc : ∀ M, ∀ w' : World, V8 w' M (Lib.strCells b) ((Mg b).map (cI .u8)).flatten := fun M w' => by
  rw [cI_flat, ← Qe1]
  exact V8.ofOne _ (Lib.strCells_oneCell b)
 have hscl := Lib.strCells_length b
 have hfreshR : ∀ lim, (w.heap.size, lim) ∉ R := fun lim hl => by
  have : Wr (L ++ F) w.heap.size lim := (hwr _ _).1 (Wr.append.2 (.inr ⟨lim, hl, Qf6 _⟩))
  obtain ⟨l2, hl2, _⟩ := this
  exact absurd (hr.lt _ hl2) (by simp)
 obtain ⟨ii, hi1, hi2, hi3, hi4⟩ := hei
 rw [Qg5] at k
 generalize hes : xs.map (cI .u8) = elems at *
 generalize hys : (Mg b).map (cI .u8) = ys at *
 have hzo : ∀ q ∈ elems, q.length = 1 := by rw [← hes]; exact hz1 xs
 have hzy : ∀ q ∈ ys, q.length = 1 := by rw [← hys]; exact hz1 _
 have hlen : (elems ++ ys).length = elems.length + ys.length := Qfu
 have hnc : ∀ n c, n + b.size ≤ 140737488355328 → c < n + b.size → Builtin.nextslicecap (n + b.size) c * ii.bytes ≤ 281474976710656 := fun n c h1 h2 => by
  have := nextslicecap_le (need := n + b.size) (old := c) h2
  rw [hi4]; omega
 cases hob with
 | arrX0 bb =>
  cases bb with
  | none =>
   by_cases h0 : b.size = 0
   ·have hye : ys = [] := Qgj (by omega)
    subst hye
    have hrun0 : (Builtin.append_ #[t, u] o.type #[.slice none 0 0, .string b]).run P w = .ok (.slice none 0 0) w := by
     simp [Builtin.append_, run_underlying ht, run_underlying hu, sizeOf, typeInfo, hi1, hi3, Builtin.lenOf, h0, Builtin.firstCells]
    have hrun := Ll (w := w) (w' := w) (a := a) ho hv hvy hrun0
    obtain ⟨L', h2, h3⟩ := hgo w [] (.arrX (.slice none 0 0) e 1 0 ([] ++ [])) o.dst (.slice none 0 0) (.c (.ex (.slice none 0 0))) ⟨Ext.refl _ _, hnd, hlt⟩ hN (.arrX0 _ _ _) (.c _ _ (.ex _ rfl))
    unfold Oper.wp
    rw [hrun, Oper.upon_value]
    exact ⟨L', _, k _, h2, h3⟩
   ·have happ := run_append_nil_string (P := P) w t u o.type e ii z ht hu hi1 hi2 b (by omega) (by omega) (by rw [hi4]; omega)
    have hrun := Ll (a := a) ho hv hvy happ
    have hf : Fits w (w.drew.alloc (.cells (b.data.map (fun b => Value.int .u8 b.toNat) ++ Builtin.zeroCells z.cells (grownCap w b.size 0 e - b.size)) e)) [] [(w.heap.size, 0 * 1)] :=
     ⟨(Ext.drew [] w).trans (Ext.alloc w.drew _ _), by simp, fun p hp => by simp at hp; subst hp; simp⟩
    have hcells : (b.data.map (fun b => Value.int .u8 b.toNat) ++ Builtin.zeroCells z.cells (grownCap w b.size 0 e - b.size)) = (([] : List Value).toArray ++ (Lib.strCells b).toArray ++ Builtin.zeroCells z.cells (grownCap w (([] : List (List DC)).length + ys.length) 0 e - (([] : List (List DC)).length + ys.length))) := by
     rw [Qgu, Qgq, hlenb]
     congr 1
     apply Array.ext'
     simp [Lib.strCells]
    rw [hcells] at hf hrun
    have hkey := Ox (w := w) (e := e) (z := z) (size := 1) (lo := 0) (elems := []) (ys := ys) (olds := []) (news := Lib.strCells b) (cap := 0) hz (by simp) (by rw [hscl, hlenb, Qhi]) (fun x hx => by simp at hx) hzy (by simp only [Qgu]; omega) (Qf6 _) (hf.ext.frame R) (fun off hoff hw => by simp at hoff) V8.nil (hsc _ _)
    rw [Qgu, Qgq, hlenb] at hkey
    rw [Qgu, Qgq, hlenb] at hrun hf
    obtain ⟨L', h2, h3⟩ := hgo _ _ (.arrX (.slice (some ⟨w.heap.size, 0, none⟩) b.size (grownCap w b.size 0 e)) e 1 0 ([] ++ ys)) o.dst (.slice (some ⟨w.heap.size, 0, none⟩) b.size (grownCap w b.size 0 e)) (.c (.ex _)) hf hN hkey (.c _ _ (.ex _ rfl))
    unfold Oper.wp
    rw [hrun, Oper.upon_value]
    exact ⟨L', _, k _, h2, h3⟩
  | some ad =>
   by_cases h0 : b.size = 0
   ·have hye : ys = [] := Qgj (by omega)
    subst hye
    have hrun0 : (Builtin.append_ #[t, u] o.type #[.slice (some ad) 0 0, .string b]).run P w = .ok (.slice (some ad) 0 0) w := by
     have hb0 : b.data.toList = [] := Qgj (by rw [Qg6]; exact h0)
     have hf := Lib.run_firstCells_string (P := P) w 1 b
     rw [h0] at hf
     simp [Builtin.append_, run_underlying ht, run_underlying hu, sizeOf, typeInfo, hi1, hi3, Builtin.lenOf, h0, hf, Lib.strCells, hb0, storeCells]
    have hrun := Ll (w := w) (w' := w) (a := a) ho hv hvy hrun0
    obtain ⟨L', h2, h3⟩ := hgo w [] (.arrX (.slice (some ad) 0 0) e 1 0 ([] ++ [])) o.dst (.slice (some ad) 0 0) (.c (.ex (.slice (some ad) 0 0))) ⟨Ext.refl _ _, hnd, hlt⟩ hN (.arrX0 _ _ _) (.c _ _ (.ex _ rfl))
    unfold Oper.wp
    rw [hrun, Oper.upon_value]
    exact ⟨L', _, k _, h2, h3⟩
   ·have happ := Lib.run_append_grow_string (P := P) w t u o.type e ii z ht hu hi1 hi2 ad 0 0 [] (by simp) (fun j v hj => by simp at hj) b (by omega) (by omega) (hnc 0 0 (by omega) (by omega))
    have hrun := Ll (a := a) ho hv hvy happ
    have hf : Fits w (w.drew.alloc (.cells (([] : List Value).toArray ++ (Lib.strCells b).toArray ++ Builtin.zeroCells z.cells (grownCap w (0 + b.size) 0 e - (0 + b.size))) e)) [] [(w.heap.size, 0 * 1)] :=
     ⟨(Ext.drew [] w).trans (Ext.alloc w.drew _ _), by simp, fun p hp => by simp at hp; subst hp; simp⟩
    have hkey := Ox (w := w) (e := e) (z := z) (size := 1) (lo := 0) (elems := []) (ys := ys) (olds := []) (news := Lib.strCells b) (cap := 0) (M := [] ++ R) (M' := [(w.heap.size, 0 * 1)] ++ R) hz (by simp) (by rw [hscl, hlenb, Qhi]) (fun x hx => by simp at hx) hzy (by simp only [Qgu]; omega) (Qf6 _) (by
     rw [Qgu, hlenb]; exact hf.ext.frame R) (fun off hoff hw => by simp at hoff) V8.nil (hsc _ _)
    rw [Qgu, hlenb] at hkey
    obtain ⟨L', h2, h3⟩ := hgo _ _ (.arrX (.slice (some ⟨w.heap.size, 0, none⟩) (0 + b.size) (grownCap w (0 + b.size) 0 e)) e 1 0 ([] ++ ys)) o.dst (.slice (some ⟨w.heap.size, 0, none⟩) (0 + b.size) (grownCap w (0 + b.size) 0 e)) (.c (.ex _)) hf hN hkey (.c _ _ (.ex _ rfl))
    unfold Oper.wp
    rw [hrun, Oper.upon_value]
    exact ⟨L', _, k _, h2, h3⟩
 | arrX g cap cur _ _ _ _ hg hloe hn hm hcs hzo' hnw hro =>
  have hglt := lt_of_block hg
  by_cases hroom : elems.length + b.size ≤ cap
  ·have hfit : elems.length + b.size ≤ cur.size := by rw [hcs]; omega
   have happ := Lib.run_append_room_string (P := P) w t u o.type e ii ht hu hi1 hi3 g elems.length cap cur hg b hroom hfit
   have hrun := Ll (a := a) ho hv hvy happ
   have hx1 : Ext [(g, 0 * 1)] w [(g, 0 * 1)] (w.setRow g (cur.toList.take elems.length ++ Lib.strCells b ++ cur.toList.drop (elems.length + b.size)).toArray) :=
    Li hg (Qf6 _) (fun q hq => by omega)
   have hf : Fits w _ [(g, 0 * 1)] [(g, 0 * 1)] := ⟨hx1, by simp, fun p hp => by simp at hp; subst hp; simpa using hglt⟩
   have hxR := hx1.frame R
   have hown' : ObR (w.setRow g (cur.toList.take elems.length ++ Lib.strCells b ++ cur.toList.drop (elems.length + b.size)).toArray) ([(g, 0 * 1)] ++ R) (.arrX (.slice (some ⟨g, 0, none⟩) (elems ++ ys).length cap) e 1 0 (elems ++ ys)) [(g, 0 * 1)] := by
    refine .arrX g cap _ e 1 0 (elems ++ ys) (setRow_heap w g cur _ e _ hg) (Qf7 _) (by rw [hlen]; omega) hm ?_ ?_ ?_ ?_
    ·simp only [Qh7, Qfu, Qgn, Qie, Qg6, hscl]; omega
    ·intro x hx; rcases Qfz.1 hx with h | h; (exact hzo x h); exact hzy x h
    ·intro off hoff hw; omega
    ·have : (cur.toList.take elems.length ++ Lib.strCells b ++ cur.toList.drop (elems.length + b.size)).toArray.toList.take ((elems ++ ys).length * 1) = cur.toList.take (elems.length * 1) ++ Lib.strCells b := by
      have hl1 : (cur.toList.take elems.length ++ Lib.strCells b).length = (elems ++ ys).length * 1 := by
       have hcur : cur.toList.length = cur.size := by simp
       rw [Qfu, Qgn, hcur, hlen, hscl]; omega
      rw [← hl1, Qhi]
      exact Qi8
     rw [this, Qic]
     exact (hro.step hxR).append (hsc _ _)
   rw [hlen, hlenb] at hown'
   obtain ⟨L', h2, h3⟩ := hgo _ _ (.arrX (.slice (some ⟨g, 0, none⟩) (elems.length + b.size) cap) e 1 0 (elems ++ ys)) o.dst (.slice (some ⟨g, 0, none⟩) (elems.length + b.size) cap) (.c (.ex _)) hf hN hown' (.c _ _ (.ex _ rfl))
   unfold Oper.wp
   rw [hrun, Oper.upon_value]
   exact ⟨L', _, k _, h2, h3⟩
  ·have holdlen : (cur.toList.take (elems.length * 1)).length = elems.length * 1 := by
    have hcur : cur.toList.length = cur.size := by simp
    rw [Qgn, hcur, hcs]
    exact Qiq (Qgy _ hn)
   have happ := Lib.run_append_grow_string (P := P) w t u o.type e ii z ht hu hi1 hi2 ⟨g, 0, none⟩ elems.length cap (cur.toList.take (elems.length * 1)) (by rw [holdlen, hi3]) (fun j v hj => by
    rw [addr_add, cell_of_row w g _ cur e _ hg, Qgq]
    rw [List.getElem?_take] at hj
    split at hj
    ·simpa using hj
    ·cases hj) b (by omega) (by omega) (hnc _ _ (by omega) (by omega))
   have hrun := Ll (a := a) ho hv hvy happ
   have hf : Fits w (w.drew.alloc (.cells ((cur.toList.take (elems.length * 1)).toArray ++ (Lib.strCells b).toArray ++ Builtin.zeroCells z.cells (grownCap w (elems.length + b.size) cap e - (elems.length + b.size))) e)) [(g, 0 * 1)] [(w.heap.size, 0 * 1)] :=
    ⟨((Ext.drew [] w).trans (Ext.alloc w.drew _ _)).ofNil, by simp, fun p hp => by simp at hp; subst hp; simp⟩
   have hkey := Ox (w := w) (e := e) (z := z) (size := 1) (lo := 0) (elems := elems) (ys := ys) (olds := cur.toList.take (elems.length * 1)) (news := Lib.strCells b) (cap := cap) (M := [(g, 0 * 1)] ++ R) (M' := [(w.heap.size, 0 * 1)] ++ R) hz holdlen (by rw [hscl, hlenb, Qhi]) hzo hzy (by omega) (Qf7 _) (by
    rw [hlenb]; exact hf.ext.frame R) (fun off hoff hw => by omega) hro (hsc _ _)
   rw [hlenb] at hkey
   obtain ⟨L', h2, h3⟩ := hgo _ _ (.arrX (.slice (some ⟨w.heap.size, 0, none⟩) (elems.length + b.size) (grownCap w (elems.length + b.size) cap e)) e 1 0 (elems ++ ys)) o.dst (.slice (some ⟨w.heap.size, 0, none⟩) (elems.length + b.size) (grownCap w (elems.length + b.size) cap e)) (.c (.ex _)) hf hN hkey (.c _ _ (.ex _ rfl))
   unfold Oper.wp
   rw [hrun, Oper.upon_value]
   exact ⟨L', _, k _, h2, h3⟩
end
end Go.Rv
