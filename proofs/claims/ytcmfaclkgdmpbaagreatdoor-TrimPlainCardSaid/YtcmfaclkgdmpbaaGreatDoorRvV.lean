/- A LOGIC OF ABSTRACT STATES OVER THE MODEL, part V: slices that are nil; a slice's array, owned whole, cut; zeros appended. -/
import Derived.Test.YtcmfaclkgdmpbaaGreatDoorRvU
import Derived.Lib.AppendZeros
namespace Go.Rv
theorem V8.reps {w : World} {M : Reg} {l : List Value} (h : ∀ v ∈ l, v.oneCell' = true) : ∀ m, V8 w M (List.replicate m l).flatten (List.replicate m (l.map DC.ex)).flatten := by
 intro m
 induction m with
 | zero => simpa using V8.nil
 | succ m ih =>
  rw [Qhg, Qhg, Qgh, Qgh]
  exact (Qdj h).append ih
section
variable {P : Program} {N : Nat} {s : St} {o : Oper} {K : St → Prop}
theorem OpT.capNil {t e : TypeId} {x : Operand} {ad : Option Addr} {n c : Nat} (ho : o.op = .call { callee := .builtin .cap, args := #[x], argTypes := #[t] }) (hN : ∀ d, o.dst = some d → d < N) (ht : P.underlying t = some (.slice e))
  (hx : s.ev x = some (.c (.ex (.slice ad n c)))) (k' : K (s.putO o.dst (.int .i64 c))) : OpT P N o s K :=
 Zd _ hN (fun F L a w hr => ⟨.int .i64 c, by simp [execOp, ho, resolve, hr.exact hx, invoke, builtin, Builtin.cap_, run_underlying ht, goInt], .c _ _ (.ex _ rfl)⟩) k'
theorem OpT.sliceNil {t e : TypeId} {x : Operand} {low high : Option Operand} {z : Value} {esz by_ : Nat} (ho : o.op = .slice t x low high none) (hN : ∀ d, o.dst = some d → d < N) (ht : P.underlying t = some (.slice e))
  (hei : Zk P e z esz by_) (hx : s.ev x = some (.c (.ex (.slice none 0 0)))) (hl : Bd s low 0 0) (hh : Bd s high 0 0) (k : K (s.putO o.dst (.c (.ex (.slice none 0 0))))) : OpT P N o s K :=
 Zd _ hN (fun F L a w hr => by
  have hrun := E1 (P := P) (isS := true) (n := 0) (c := 0) hl hh hr (Qf6 _) (Qf6 _)
  refine ⟨.slice none 0 0, ?_, .c _ _ (.ex _ rfl)⟩
  simp only [execOp, ho, hr.exact hx, Instr.sliceAt, Sem.run_bind, run_underlying ht, Result.andThen_ok, Instr.slice, hrun, hei.sizeOf, Qib]
  rfl) k
theorem OpT.sliceX {α : Type} {t e e' : TypeId} {x : Operand} {high : Option Operand} {v : Value} {i esz h : Nat} {xs : List α} {f : α → List DC} {z : Value} {sz by_ : Nat} (ho : o.op = .slice t x none high none) (hN : ∀ d, o.dst = some d → d < N) (ht : P.underlying t = some (.slice e))
  (hei : Zk P e z sz by_) (hx : s.ev x = some (.c (.ex v))) (hi : s.tab[i]? = some (.arrX v e' esz 0 (xs.map f))) (hh : Bd s high xs.length h) (h2 : h ≤ xs.length)
  (k : ∀ v', K (s.upd o.dst (.c (.ex v')) (s.tab.set i (.arrX v' e' esz 0 ((xs.take h).map f))))) : OpT P N o s K := by
 intro F L a w hr
 have hv := hr.exact hx
 obtain ⟨r, R, hob, hwr, hnd, hlt, hdis, hgo⟩ := hr.touch hi
 have hlen : (xs.map f).length = xs.length := Qfw _
 have key : ∀ (ad : Option Addr) (n c : Nat), v = .slice ad n c → n = xs.length → xs.length ≤ c → (execOp a.eval o).run P w = .ok (.value (.slice (if c = 0 then ad else ad.map (·.add (0 * sz))) (h - 0) (c - 0))) w := by
  intro ad n c hvv hn hc
  subst hn
  have hrun := E1 (P := P) (isS := true) (n := xs.length) (c := c) (Bd.none (s := s) 0) hh hr (Qf7 _) (by omega)
  simp only [execOp, ho, hv, hvv, Instr.sliceAt, Sem.run_bind, run_underlying ht, Result.andThen_ok, Instr.slice, Qib, hei.sizeOf]
  rw [Qib] at hrun
  rw [hrun]
  rfl
 generalize hys : xs.map f = ys at hob
 cases hob with
 | arrX0 ad =>
  have hx0 : xs = [] := by simpa using hys
  subst hx0
  have h0 : h = 0 := by simpa using h2
  subst h0
  have hrun := key ad 0 0 rfl rfl (Qf6 _)
  simp only [if_true, Qha] at hrun
  obtain ⟨L', h3, h4⟩ := hgo w [] (.arrX (.slice ad 0 0) e' esz 0 []) o.dst (.slice ad 0 0) (.c (.ex (.slice ad 0 0))) ⟨Ext.refl _ _, hnd, hlt⟩ hN (.arrX0 ad e' esz) (.c _ _ (.ex _ rfl))
  unfold Oper.wp
  rw [hrun, Oper.upon_value]
  exact ⟨L', _, k (.slice ad 0 0), h3, h4⟩
 | arrX g cap cur _ _ _ _ hg hlo hn hm hcs hz hnw hro =>
  subst hys
  have hrun := key (some ⟨g, 0, none⟩) _ cap rfl hlen (by omega)
  have e1 : (if cap = 0 then (some ⟨g, 0, none⟩ : Option Addr) else (some ⟨g, 0, none⟩ : Option Addr).map (·.add (0 * sz))) = some ⟨g, 0, none⟩ := by
   split
   ·rfl
   ·simp [Addr.add]
  rw [e1, Qha, Qha] at hrun
  have hl2 : ((xs.take h).map f).length = h := by simp; omega
  have hflat : ((xs.take h).map f).flatten = ((xs.map f).flatten).take (h * esz) := by
   rw [List.map_take]
   have gen : ∀ (es : List (List DC)), (∀ e ∈ es, e.length = esz) → ∀ n, (es.take n).flatten = es.flatten.take (n * esz) := by
    intro es
    induction es with
    | nil => intro _ n; simp
    | cons e es ih =>
     intro he n
     cases n with
     | zero => simp
     | succ n =>
      have h1 := ih (fun x hx => he x (by simp [hx])) n
      have h2 : e.length = esz := he e (by simp)
      simp only [List.take_succ_cons, Qgh, h1]
      have e1 : e.take ((n + 1) * esz) = e := Qg8 (by rw [h2, Qhp]; omega)
      have e2 : (n + 1) * esz - e.length = n * esz := by rw [h2, Qhp]; omega
      rw [List.take_append, e1, e2]
   exact gen _ hz h
  have hob' : ObR w ([(g, 0 * esz)] ++ R) (.arrX (.slice (some ⟨g, 0, none⟩) h cap) e' esz 0 ((xs.take h).map f)) [(g, 0 * esz)] := by
   have := ObR.arrX (w := w) (M := [(g, 0 * esz)] ++ R) g cap cur e' esz 0 ((xs.take h).map f) hg (Qf7 _) (by rw [hl2]; omega) hm hcs (fun y hy => by
    rw [List.map_take] at hy
    exact hz y (Qil hy)) (fun off ho => by omega) (by
    rw [hl2, hflat]
    have := hro.take (h * esz)
    rw [List.take_take, Qiq (Qgy _ (by omega))] at this
    exact this)
   rwa [hl2] at this
  obtain ⟨L', h3, h4⟩ := hgo w [(g, 0 * esz)] (.arrX (.slice (some ⟨g, 0, none⟩) h cap) e' esz 0 ((xs.take h).map f)) o.dst (.slice (some ⟨g, 0, none⟩) h cap) (.c (.ex (.slice (some ⟨g, 0, none⟩) h cap))) ⟨Ext.refl _ _, hnd, hlt⟩ hN hob' (.c _ _ (.ex _ rfl))
  unfold Oper.wp
  rw [hrun, Oper.upon_value]
  exact ⟨L', _, k _, h3, h4⟩
theorem Qej {α : Type} {x y : Operand} {t tn e : TypeId} {kn k : IntKind} {n : Int} {z : Value} {esz by_ : Nat} {f : α → List DC} {zv : α} (ho : o.op = .call { callee := .builtin .append, args := #[x, y], argTypes := #[t, tn] }) (hN : ∀ d, o.dst = some d → d < N)
  (ht : P.underlying t = some (.slice e)) (htn : P.underlying tn = some (.int kn)) (hei : Zk P e z esz by_) (hs : 0 < esz) (hz : z.cells.size = esz) (hz1 : z.cells.toList.all Value.oneCell' = true) (hzv : f zv = z.cells.toList.map DC.ex)
  (hx : s.ev x = some (.c (.ex (.slice none 0 0)))) (hy : s.ev y = some (.int k n)) (hn : 0 < n) (hroom : roomy by_ n.toNat = true)
  (k' : ∀ v, K (s.upd o.dst (.c (.ex v)) (.arrX v e esz 0 ((List.replicate n.toNat zv).map f) :: s.tab))) : OpT P N o s K := by
 intro F L a w hr
 obtain ⟨i, hi, hiz, his, hib⟩ := hei
 subst his; subst hib
 obtain ⟨h63, hby⟩ := Zl.1 hroom
 obtain ⟨m, rfl⟩ : ∃ m : Nat, n = (m : Int) := ⟨n.toNat, by omega⟩
 have hm0 : 0 < m := by omega
 rw [Qf1] at h63 hby k'
 have happ := Lib.run_append_nil_zeros (P := P) w t tn o.type e i z k kn ht htn hi hiz m hm0 hs (by simp only [maxLen] at h63; omega) (by omega)
 have hge := grownCap_ge w m 0 e
 have hle := grownCap_le_maxLen w m 0 e h63
 have hrun : (execOp a.eval o).run P w = .ok (.value (.slice (some ⟨w.heap.size, 0, none⟩) m (grownCap w m 0 e))) (w.drew.alloc (.cells (Builtin.zeroCells z.cells m ++ Builtin.zeroCells z.cells (grownCap w m 0 e - m)) e)) := by
  simp [execOp, ho, resolve, invoke, builtin, hr.exact hx, hr.exact hy, happ]
 have hzl : ∀ q, (Builtin.zeroCells z.cells q).toList.length = q * i.size := fun q => by rw [Qg6, size_zeroCells, hz]
 have hz0 : ∀ q, (Builtin.zeroCells z.cells q).toList = (List.replicate q z.cells.toList).flatten := by
  intro q
  apply List.ext_getElem?
  intro j
  have hfl : (List.replicate q z.cells.toList).flatten.length = q * i.size := by
   rw [Eg (k := i.size) (fun x hx => by rw [Qhn hx]; simpa using hz)]; simp
  by_cases hj : j < q * i.size
  ·have hdec : j = j / i.size * i.size + j % i.size := by rw [Qjd]; exact (Qip j i.size).symm
   have hjm : j % i.size < i.size := Qh6 _ hs
   have hjd : j / i.size < q := Nat.div_lt_of_lt_mul (by rw [Qjd]; exact hj)
   have h1 : (List.replicate q z.cells.toList).flatten[j]? = z.cells.toList[j % i.size]? := by
    rw [hdec, Ts (k := i.size) (fun x hx => by rw [Qhn hx]; simpa using hz) hjm]
    simp [hjd]
   rw [h1]
   simp only [Builtin.zeroCells, Array.getElem?_toList, Array.getElem?_map, hz]
   have hjm' : j % i.size < z.cells.size := by rw [hz]; exact hjm
   simp [hj, hjm']
  ·rw [List.getElem?_eq_none (by rw [hzl]; omega), List.getElem?_eq_none (by omega)]
 have hone : ∀ v ∈ z.cells.toList, v.oneCell' = true := fun v hv => Qgr.1 hz1 v hv
 have hl1 : ((List.replicate m zv).map f).length = m := by simp
 obtain ⟨L', h2, h3⟩ := hr.add (w' := w.drew.alloc (.cells (Builtin.zeroCells z.cells m ++ Builtin.zeroCells z.cells (grownCap w m 0 e - m)) e)) (r := [(w.heap.size, 0 * i.size)]) (dst := o.dst) (v := .slice (some ⟨w.heap.size, 0, none⟩) m (grownCap w m 0 e))
  (x := .c (.ex (.slice (some ⟨w.heap.size, 0, none⟩) m (grownCap w m 0 e)))) (o := .arrX (.slice (some ⟨w.heap.size, 0, none⟩) m (grownCap w m 0 e)) e i.size 0 ((List.replicate m zv).map f))
  ⟨by have := (Ext.drew [] w).trans (Ext.alloc w.drew (.cells (Builtin.zeroCells z.cells m ++ Builtin.zeroCells z.cells (grownCap w m 0 e - m)) e) (0 * i.size)); simpa using this, by simp, fun p hp => by simp at hp; subst hp; simp⟩ hN
  (fun M hnew hxM => by
   have := ObR.arrX (w := w.drew.alloc (.cells (Builtin.zeroCells z.cells m ++ Builtin.zeroCells z.cells (grownCap w m 0 e - m)) e)) (M := M) w.heap.size (grownCap w m 0 e) _ e i.size 0 ((List.replicate m zv).map f) (heap_alloc_new w.drew _) (Qf7 _) (by rw [hl1]; exact hge) hle
    (by simp only [Array.size_append, size_zeroCells, hz, ← Qh9]; congr 1; omega) (fun x hx => by
     rw [Qh3] at hx
     rw [Qhn hx, hzv]; simpa using hz) (fun off ho => by omega) (by
     rw [hl1, Qhz, Qhl (by rw [hzl]; exact Qf6 _), Qg8 (by rw [hzl]; exact Qf6 _), hz0, Qh3, hzv]
     exact V8.reps hone m)
   rwa [hl1] at this) (fun M _ _ => .c _ _ (.ex _ rfl))
 unfold Oper.wp
 rw [hrun, Oper.upon_value]
 exact ⟨L', _, k' _, h2, h3⟩
end
end Go.Rv
