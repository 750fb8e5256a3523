/- A LOGIC OF ABSTRACT STATES OVER THE MODEL, part G: append, make, cuts; elements of an owned slice. -/
import Derived.Test.YtcmfaclkgdmpbaaGreatDoorRvE
namespace Go.Rv
theorem Ext.ofNil {r r' : Reg} {w w' : World} (h : Ext [] w r' w') : Ext r w r' w' :=
 ⟨h.os, h.tape, h.output, h.size, fun b hb _ => h.block b hb (fun _ hl => by cases hl), fun b off hb _ => h.cell b off hb Wr.nil, fun b off hb hw => absurd (h.mono b off hb hw) Wr.nil, fun b l hb hl => by obtain ⟨_, h'⟩ := h.blocks b l hb hl; cases h'⟩
theorem Li {w : World} {g lim lim' : Nat} {cur : Array Value} {cs : List Value} {e : TypeId} (hg : w.heap[g]? = some (.cells cur e (0, 0))) (hl : lim ≤ lim') (hs : ∀ q, q < lim → cs[q]? = cur[q]?) : Ext [(g, lim)] w [(g, lim')] (w.setRow g cs.toArray) where
 os := rfl
 tape := rfl
 output := rfl
 size := by simp
 block k hk hn := setRow_other w g k _ (fun h => hn lim (by simp [h]))
 cell k off hk hn := by
  by_cases h : k = g
  ·subst h
   have ho : off < lim := by
    rcases Qi1 off lim with h | h
    ·exact h
    ·exact absurd ⟨lim, by simp, h⟩ hn
   rw [cell_setRow_same w k off cur _ e _ hg, cell_of_row w k off cur e _ hg]
   simpa using hs off ho
  ·exact cell_setRow_other w g _ ⟨k, off, none⟩ h
 mono k off hk hw := by
  obtain ⟨l, hl', hle⟩ := hw
  simp at hl'
  exact ⟨lim, by simp [hl'.1], by omega⟩
 blocks k l hk hl' := by simp at hl'; exact ⟨lim, by simp [hl'.1]⟩
section
variable {P : Program} {w : World}
theorem E2 {t ty e : TypeId} {z : Value} {size by_ : Nat} (ht : P.underlying t = some (.slice e)) (hei : Zk P e z size by_) (base a : Option Addr) (n cap c : Nat) (hn : n ≤ cap) :
  (Builtin.append_ #[t, t] ty #[.slice base n cap, .slice a 0 c]).run P w = .ok (.slice base n cap) w := by
 cases a <;> cases base <;> simp [Builtin.append_, run_underlying ht, hei.sizeOf, Builtin.lenOf, hn, Builtin.firstCells, loadCells, loadCellsFrom, storeCells]
theorem Jy {t ty e : TypeId} {z : Value} {size by_ : Nat} (ht : P.underlying t = some (.slice e)) (hei : Zk P e z size by_) (base : Option Addr) (n cap : Nat) (olds : List Value) (hlo : olds.length = n * size)
  (hb : base = none → n = 0 ∧ cap = 0) (holds : ∀ b, base = some b → ∀ (j : Nat) (v : Value), olds[j]? = some v → w.cell? (b.add j) = some v)
  (a : Addr) (m c : Nat) (news : List Value) (hl : news.length = m * size) (hnews : ∀ (j : Nat) (v : Value), news[j]? = some v → w.cell? (a.add j) = some v) (hm : 0 < m) (hg : cap < n + m) (h63 : n + m ≤ maxLen) (hby : (n + m) * by_ ≤ 140737488355328) :
  (Builtin.append_ #[t, t] ty #[.slice base n cap, .slice (some a) m c]).run P w =
   .ok (.slice (some ⟨w.heap.size, 0, none⟩) (n + m) (grownCap w (n + m) cap e)) (w.drew.alloc (.cells (olds.toArray ++ news.toArray ++ Builtin.zeroCells z.cells (grownCap w (n + m) cap e - (n + m))) e)) := by
 obtain ⟨i, hi, hz, hs, hbs⟩ := hei
 subst hs
 subst hbs
 have h63' : ((n + m : Nat) : Int) ≤ 9223372036854775807 := by simp only [maxLen] at h63; omega
 cases base with
 | none =>
  obtain ⟨rfl, rfl⟩ := hb rfl
  have : olds = [] := Qgj (by simpa using hlo)
  subst this
  have := run_append_nil (P := P) w t ty e i z ht hi hz a m c news hl hnews hm (by omega) (by rw [Qgq] at hby; omega)
  simpa using this
 | some b => exact run_append_grow (P := P) w t ty e i z ht hi hz b n cap olds hlo (holds b rfl) a m c news hl hnews hg h63' (growslice_fits hg hby)
theorem Qck {M : Reg} {e : TypeId} {z : Value} {size : Nat} {elems ys : List (List DC)} {olds news : List Value} {cap : Nat} (hz : z.cells.size = size) (hlo : olds.length = elems.length * size) (hl : news.length = ys.length * size)
  (hzo : ∀ x ∈ elems, x.length = size) (hzy : ∀ x ∈ ys, x.length = size) (h63 : elems.length + ys.length ≤ maxLen) 
  {M' : Reg} (hM : Ext M w M' (w.drew.alloc (.cells (olds.toArray ++ news.toArray ++ Builtin.zeroCells z.cells (grownCap w (elems.length + ys.length) cap e - (elems.length + ys.length))) e)))
  (hnew : ∀ off, off < (elems.length + ys.length) * size → ¬ Wr M' w.heap.size off) (ho : V8 w M olds elems.flatten) (hn : V8 w M news ys.flatten) :
  OwnR (w.drew.alloc (.cells (olds.toArray ++ news.toArray ++ Builtin.zeroCells z.cells (grownCap w (elems.length + ys.length) cap e - (elems.length + ys.length))) e)) M' (.slice (some ⟨w.heap.size, 0, none⟩) (elems.length + ys.length) (grownCap w (elems.length + ys.length) cap e)) e size (elems ++ ys) [(w.heap.size, (elems.length + ys.length) * size)] := by
 have hge := grownCap_ge w (elems.length + ys.length) cap e
 have hle := grownCap_le_maxLen w (elems.length + ys.length) cap e h63
 have hlen : (elems ++ ys).length = elems.length + ys.length := Qfu
 have key := OwnR.some (w := w.drew.alloc (.cells (olds.toArray ++ news.toArray ++ Builtin.zeroCells z.cells (grownCap w (elems.length + ys.length) cap e - (elems.length + ys.length))) e)) (M := M') w.heap.size (grownCap w (elems.length + ys.length) cap e) _ e size (elems ++ ys) (heap_alloc_new w.drew _) (by rw [hlen]; exact hge) hle ?_ ?_ ?_ ?_
 ·rw [hlen] at key; exact key
 ·simp only [Array.size_append, Qh7, size_zeroCells, hz, hlo, hl, ← Qh9]
  congr 1
  omega
 ·intro x hx
  rcases Qfz.1 hx with h | h
  ·exact hzo x h
  ·exact hzy x h
 ·intro off hoff
  rw [hlen] at hoff
  exact hnew off hoff
 ·have : (olds.toArray ++ news.toArray ++ Builtin.zeroCells z.cells (grownCap w (elems.length + ys.length) cap e - (elems.length + ys.length))).toList.take ((elems ++ ys).length * size) = olds ++ news := by
   rw [Qhz, Qhz, hlen, Qh9, ← hlo, ← hl, ← Qfu]
   exact Qi8
  rw [this, Qic]
  exact (ho.step hM).append (hn.step hM)
end
theorem Fw.news {w : World} {M : Reg} {v : Value} {full : Bool} {esz : Nat} {ys : List (List DC)} (h : Fw w M v (.sl full esz ys)) :
  ∃ (a : Option Addr) (c : Nat) (news : List Value), v = .slice a ys.length c ∧ (∀ x ∈ ys, x.length = esz) ∧ news.length = ys.length * esz ∧ V8 w M news ys.flatten ∧ (∀ u ∈ news, u.oneCell' = true) ∧
   (0 < ys.length → ∃ ad, a = some ad ∧ ∀ (j : Nat) (u : Value), news[j]? = some u → w.cell? (ad.add j) = some u) := by
 obtain ⟨a, b, off, cap, vs, h1, h2, _, _, _, h6, h7, h8⟩ := h.flat
 refine ⟨a, cap, vs, h1, h6, by rw [h7.1, Eg h6], h7, h7.one, fun hp => ?_⟩
 rcases h2 with rfl | ⟨rfl, _⟩
 ·exact ⟨_, rfl, fun j u hu => by rw [addr_add]; exact (h8 j u hu).1⟩
 ·simp at hp
section
variable {P : Program} {N : Nat} {s : St} {o : Oper} {K : St → Prop} {Q : Exit → St → Prop}
theorem Uo {w w' : World} {a : Act} {x y : Operand} {t : TypeId} {u u' v : Value} (ho : o.op = .call { callee := .builtin .append, args := #[x, y], argTypes := #[t, t] }) (hx : a.eval x = u) (hy : a.eval y = u')
  (h : (Builtin.append_ #[t, t] o.type #[u, u']).run P w = .ok v w') : (execOp a.eval o).run P w = .ok (.value v) w' := by
 simp [execOp, ho, resolve, invoke, builtin, hx, hy, h]
theorem OpT.appendNew {x y : Operand} {t e : TypeId} {z : Value} {esz by_ : Nat} {full : Bool} {elems ys : List (List DC)} (ho : o.op = .call { callee := .builtin .append, args := #[x, y], argTypes := #[t, t] }) (hN : ∀ d, o.dst = some d → d < N)
  (ht : P.underlying t = some (.slice e)) (hei : Zk P e z esz by_) (hz : z.cells.size = esz) (hx : s.ev x = some (.sl true esz elems)) (hy : s.ev y = some (.sl full esz ys))
  (hne : 0 < ys.length ∨ elems = []) (h63 : elems.length + ys.length ≤ maxLen) (hby : (elems.length + ys.length) * by_ ≤ 140737488355328)
  (k : ∀ v, K (s.upd o.dst (.c (.ex v)) (.arrA v e esz (elems ++ ys) :: s.tab))) : OpT P N o s K := by
 intro F L a w hr
 obtain ⟨b1, bb, boff, cap, olds, hv, hb, hc, hm, hf, hzo, hro, hco⟩ := (hr.ev hx).cell.flat
 obtain ⟨ay, cy, news, hvy, hzy, hln, hrn, hone, hpos⟩ := (hr.ev hy).cell.news
 have hcap : cap = elems.length := hf rfl
 by_cases h0 : ys.length = 0
 ·have hye : ys = [] := Qgj h0
  subst hye
  have hee : elems = [] := by
   rcases hne with h | h
   ·simp at h
   ·exact h
  subst hee
  simp only [Qgu] at hcap hv
  subst hcap
  have hrun := Uo (w := w) (w' := w) (a := a) ho hv hvy (E2 ht hei b1 ay 0 0 cy (Qf6 _))
  obtain ⟨L', h2, h3⟩ := hr.add (w' := w) (r := []) (o := .arrA (.slice b1 0 0) e esz []) (dst := o.dst) (v := .slice b1 0 0) (x := .c (.ex (.slice b1 0 0))) ⟨Ext.refl _ _, by simp, fun p hp => by cases hp⟩ hN (fun M _ _ => .arrA _ e esz [] [] (.nil b1 e esz)) (fun M _ _ => .c _ _ (.ex _ rfl))
  unfold Oper.wp
  rw [hrun, Oper.upon_value]
  exact ⟨L', _, k _, h2, h3⟩
 ·have hpos' : 0 < ys.length := by omega
  obtain ⟨ad, rfl, hnews⟩ := hpos hpos'
  have hlo : olds.length = elems.length * esz := by rw [hro.1, Eg hzo]
  have happ := Jy (w := w) (ty := o.type) ht hei b1 elems.length cap olds hlo (fun hbn => by rcases hb with h | ⟨h, h'⟩; (rw [hbn] at h; cases h); exact ⟨by simp [h], h'⟩)
   (fun b hbs j v hj => by
    rcases hb with h | ⟨h, _⟩
    ·rw [hbs] at h; cases h; rw [addr_add]; exact (hco j v hj).1
    ·subst h; have : olds = [] := Qgj (by simpa using hlo)
     subst this; simp at hj) ad ys.length cy news hln hnews hpos' (by omega) h63 hby
  have hrun := Uo (a := a) ho hv hvy happ
  obtain ⟨L', h2, h3⟩ := hr.add (w' := w.drew.alloc (.cells (olds.toArray ++ news.toArray ++ Builtin.zeroCells z.cells (grownCap w (elems.length + ys.length) cap e - (elems.length + ys.length))) e))
   (r := [(w.heap.size, (elems.length + ys.length) * esz)]) (dst := o.dst) (v := .slice (some ⟨w.heap.size, 0, none⟩) (elems.length + ys.length) (grownCap w (elems.length + ys.length) cap e))
   (x := .c (.ex (.slice (some ⟨w.heap.size, 0, none⟩) (elems.length + ys.length) (grownCap w (elems.length + ys.length) cap e))))
   (o := .arrA (.slice (some ⟨w.heap.size, 0, none⟩) (elems.length + ys.length) (grownCap w (elems.length + ys.length) cap e)) e esz (elems ++ ys))
   ⟨(Ext.drew [] w).trans (Ext.alloc w.drew _ _), by simp, fun p hp => by simp at hp; subst hp; simp⟩ hN
   (fun M hnew hxM => .arrA _ e esz _ _ (Qck hz hlo hln hzo hzy h63 hxM (fun off hoff hw => by
    have := hnew _ off (Qf6 _) hw
    obtain ⟨lim, hl, hle⟩ := this
    simp at hl
    omega) hro hrn)) (fun M _ _ => .c _ _ (.ex _ rfl))
  unfold Oper.wp
  rw [hrun, Oper.upon_value]
  exact ⟨L', _, k _, h2, h3⟩
theorem OpT.appendA {x y : Operand} {t e : TypeId} {z : Value} {esz by_ : Nat} {full : Bool} {v : Value} {i : Nat} {elems ys : List (List DC)} (ho : o.op = .call { callee := .builtin .append, args := #[x, y], argTypes := #[t, t] }) (hN : ∀ d, o.dst = some d → d < N)
  (ht : P.underlying t = some (.slice e)) (hei : Zk P e z esz by_) (hz : z.cells.size = esz) (hx : s.ev x = some (.c (.ex v))) (hi : s.tab[i]? = some (.arrA v e esz elems)) (hy : s.ev y = some (.sl full esz ys))
  (h63 : elems.length + ys.length ≤ maxLen) (hby : (elems.length + ys.length) * by_ ≤ 140737488355328)
  (k : ∀ v', K (s.upd o.dst (.c (.ex v')) (s.tab.set i (.arrA v' e esz (elems ++ ys))))) : OpT P N o s K := by
 intro F L a w hr
 have hv := hr.exact hx
 obtain ⟨r, R, hob, hwr, hnd, hlt, hdis, hgo⟩ := hr.touch hi
 obtain ⟨ay, cy, news, hvy, hzy, hln, hrn, hone, hpos⟩ := (hr.ev hy).cell.news
 have hrn' : V8 w (r ++ R) news ys.flatten := hrn.congr hwr
 cases hob with
 | arrA _ _ _ _ _ hown =>
 by_cases h0 : ys.length = 0
 ·have hye : ys = [] := Qgj h0
  subst hye
  have hle : ∃ b n c, v = .slice b n c ∧ n ≤ c := by cases hown with | nil => exact ⟨_, _, _, rfl, Qf6 _⟩ | full _ _ _ _ h => (obtain ⟨_, _, _, _, _, e, _, hc, _⟩ := h.flat; exact ⟨_, _, _, e, hc⟩) | some g cap cur _ _ _ hg hn => exact ⟨_, _, _, rfl, hn⟩
  obtain ⟨b, n, c, rfl, hnc⟩ := hle
  have hrun := Uo (w := w) (w' := w) (a := a) ho hv hvy (E2 ht hei b ay n c cy hnc)
  obtain ⟨L', h2, h3⟩ := hgo w r (.arrA (.slice b n c) e esz (elems ++ [])) o.dst (.slice b n c) (.c (.ex (.slice b n c))) ⟨Ext.refl _ _, hnd, hlt⟩ hN (by rw [Qgg]; exact .arrA _ e esz _ _ hown) (.c _ _ (.ex _ rfl))
  unfold Oper.wp
  rw [hrun, Oper.upon_value]
  exact ⟨L', _, k _, h2, h3⟩
 ·have hpos' : 0 < ys.length := by omega
  obtain ⟨ad, rfl, hnews⟩ := hpos hpos'
  cases hown with
  | full _ _ _ _ hfull =>
   obtain ⟨b1, bb, boff, cap, olds, hvv, hb, hc, hm, hf, hzo, hro, hco⟩ := hfull.flat
   have hcap : cap = elems.length := hf rfl
   subst hvv
   have hlo : olds.length = elems.length * esz := by rw [hro.1, Eg hzo]
   have happ := Jy (w := w) (ty := o.type) ht hei b1 elems.length cap olds hlo (fun hbn => by rcases hb with h | ⟨h, h'⟩; (rw [hbn] at h; cases h); exact ⟨by simp [h], h'⟩)
    (fun b hbs j v hj => by
     rcases hb with h | ⟨h, _⟩
     ·rw [hbs] at h; cases h; rw [addr_add]; exact (hco j v hj).1
     ·subst h; have : olds = [] := Qgj (by simpa using hlo)
      subst this; simp at hj) ad ys.length cy news hln hnews hpos' (by omega) h63 hby
   have hrun := Uo (a := a) ho hv hvy happ
   have hf : Fits w (w.drew.alloc (.cells (olds.toArray ++ news.toArray ++ Builtin.zeroCells z.cells (grownCap w (elems.length + ys.length) cap e - (elems.length + ys.length))) e)) [] [(w.heap.size, (elems.length + ys.length) * esz)] :=
    ⟨(Ext.drew [] w).trans (Ext.alloc w.drew _ _), by simp, fun p hp => by simp at hp; subst hp; simp⟩
   obtain ⟨L', h2, h3⟩ := hgo _ _ (.arrA (.slice (some ⟨w.heap.size, 0, none⟩) (elems.length + ys.length) (grownCap w (elems.length + ys.length) cap e)) e esz (elems ++ ys)) o.dst (.slice (some ⟨w.heap.size, 0, none⟩) (elems.length + ys.length) (grownCap w (elems.length + ys.length) cap e)) (.c (.ex _)) hf hN
    (.arrA _ e esz _ _ (Qck hz hlo hln hzo hzy h63 (hf.ext.frame R) (fun off hoff hw => by
     rcases Wr.append.1 hw with ⟨lim, hl, hle⟩ | ⟨lim, hl, _⟩
     ·simp only [Qf3, Qf4] at hl; omega
     ·have : Wr (L ++ F) w.heap.size lim := (hwr _ _).1 (Wr.append.2 (.inr ⟨lim, hl, Qf6 _⟩))
      obtain ⟨l2, hl2, _⟩ := this
      exact absurd (hr.lt _ hl2) (by simp)) hro hrn')) (.c _ _ (.ex _ rfl))
   unfold Oper.wp
   rw [hrun, Oper.upon_value]
   exact ⟨L', _, k _, h2, h3⟩
  | nil b =>
   have happ := Jy (w := w) (ty := o.type) ht hei b 0 0 [] (by simp) (fun _ => ⟨rfl, rfl⟩) (fun b _ j v hj => by simp at hj) ad ys.length cy news hln hnews hpos' (by omega) h63 hby
   have hrun := Uo (a := a) ho hv hvy happ
   have hf : Fits w (w.drew.alloc (.cells (([] : List Value).toArray ++ news.toArray ++ Builtin.zeroCells z.cells (grownCap w (0 + ys.length) 0 e - (0 + ys.length))) e)) [] [(w.heap.size, (0 + ys.length) * esz)] :=
    ⟨(Ext.drew [] w).trans (Ext.alloc w.drew _ _), by simp, fun p hp => by simp at hp; subst hp; simp⟩
   obtain ⟨L', h2, h3⟩ := hgo _ _ (.arrA (.slice (some ⟨w.heap.size, 0, none⟩) (0 + ys.length) (grownCap w (0 + ys.length) 0 e)) e esz ([] ++ ys)) o.dst (.slice (some ⟨w.heap.size, 0, none⟩) (0 + ys.length) (grownCap w (0 + ys.length) 0 e)) (.c (.ex _)) hf hN
    (.arrA _ e esz _ _ (Qck (elems := []) (olds := []) (cap := 0) hz (by simp) hln (fun x hx => by simp at hx) hzy h63 (hf.ext.frame R) (fun off hoff hw => by
     rcases Wr.append.1 hw with ⟨lim, hl, hle⟩ | ⟨lim, hl, _⟩
     ·simp only [Qf3, Qf4] at hl; simp only [Qgu] at hoff; omega
     ·have h1 := hr.lt (w.heap.size, lim) (by
       have : Wr (L ++ F) w.heap.size lim := (hwr _ _).1 (Wr.append.2 (.inr ⟨lim, hl, Qf6 _⟩))
       obtain ⟨l2, hl2, _⟩ := this
       exact absurd (hr.lt _ hl2) (by simp))
      simp at h1) V8.nil hrn')) (.c _ _ (.ex _ rfl))
   unfold Oper.wp
   rw [hrun, Oper.upon_value]
   exact ⟨L', _, k _, h2, h3⟩
  | some g cap cur _ _ _ hg hn hm hcs hzo hnw hro =>
   have hglt := lt_of_block hg
   have hRg : ∀ lim, (g, lim) ∉ R := hdis (g, elems.length * esz) (by simp)
   by_cases hroom : elems.length + ys.length ≤ cap
   ·obtain ⟨ii, hi1, hi2, hi3, hi4⟩ := hei
    subst hi3
    have hfit : elems.length * ii.size + news.length ≤ cur.size := by rw [hln, hcs, ← Qh9]; exact Qgy _ hroom
    have happ := run_append_room (P := P) w t o.type e ii ht hi1 g elems.length cap cur hg ad ys.length cy news hln hnews hone hroom hfit
    have hrun := Uo (a := a) ho hv hvy happ
    have hx1 : Ext [(g, elems.length * ii.size)] w [(g, (elems.length + ys.length) * ii.size)] (w.setRow g (cur.toList.take (elems.length * ii.size) ++ news ++ cur.toList.drop (elems.length * ii.size + news.length)).toArray) :=
     Li hg (Qgy _ (Nat.le_add_right _ _)) (fun q hq => by
      rw [Qfx, List.getElem?_append_left (by simp; omega), List.getElem?_take, if_pos hq]
      simp)
    have hf : Fits w _ [(g, elems.length * ii.size)] [(g, (elems.length + ys.length) * ii.size)] := ⟨hx1, by simp, fun p hp => by simp at hp; subst hp; simpa using hglt⟩
    have hxR := hx1.frame R
    have hlen : (elems ++ ys).length = elems.length + ys.length := Qfu
    have hown' : OwnR (w.setRow g (cur.toList.take (elems.length * ii.size) ++ news ++ cur.toList.drop (elems.length * ii.size + news.length)).toArray) ([(g, (elems.length + ys.length) * ii.size)] ++ R) (.slice (some ⟨g, 0, none⟩) (elems ++ ys).length cap) e ii.size (elems ++ ys) [(g, (elems ++ ys).length * ii.size)] := by
     refine .some g cap _ e ii.size (elems ++ ys) (setRow_heap w g cur _ e _ hg) (by rw [hlen]; exact hroom) hm ?_ ?_ ?_ ?_
     ·simp only [Qh7, Qfu, Qgn, Qie, Qg6]; omega
     ·intro x hx; rcases Qfz.1 hx with h | h; (exact hzo x h); exact hzy x h
     ·intro off hoff hw
      rw [hlen] at hoff
      rcases Wr.append.1 hw with ⟨lim, hl, hle⟩ | ⟨lim, hl, _⟩
      ·simp only [Qf3, Qf4] at hl; omega
      ·exact hRg lim hl
     ·have : (cur.toList.take (elems.length * ii.size) ++ news ++ cur.toList.drop (elems.length * ii.size + news.length)).toArray.toList.take ((elems ++ ys).length * ii.size) = cur.toList.take (elems.length * ii.size) ++ news := by
       have hl1 : (cur.toList.take (elems.length * ii.size) ++ news).length = (elems ++ ys).length * ii.size := by
        have hcur : cur.toList.length = cur.size := by simp
        rw [Qfu, Qgn, hcur, hlen, Qh9, hln]; omega
       rw [← hl1]
       exact Qi8
      rw [this, Qic]
      exact (hro.step hxR).append (hrn'.step hxR)
    rw [hlen] at hown'
    obtain ⟨L', h2, h3⟩ := hgo _ _ (.arrA (.slice (some ⟨g, 0, none⟩) (elems.length + ys.length) cap) e ii.size (elems ++ ys)) o.dst (.slice (some ⟨g, 0, none⟩) (elems.length + ys.length) cap) (.c (.ex _)) hf hN (.arrA _ e _ _ _ hown') (.c _ _ (.ex _ rfl))
    unfold Oper.wp
    rw [hrun, Oper.upon_value]
    exact ⟨L', _, k _, h2, h3⟩
   ·have holdlen : (cur.toList.take (elems.length * esz)).length = elems.length * esz := by
     have hcur : cur.toList.length = cur.size := by simp
     rw [Qgn, hcur, hcs]
     exact Qiq (Qgy _ hn)
    have happ := Jy (w := w) (ty := o.type) ht hei (some ⟨g, 0, none⟩) elems.length cap (cur.toList.take (elems.length * esz)) holdlen (fun h => by cases h) (fun b hb j v hj => by
     cases hb
     rw [addr_add, cell_of_row w g _ cur e _ hg, Qgq]
     rw [List.getElem?_take] at hj
     split at hj
     ·simpa using hj
     ·cases hj) ad ys.length cy news hln hnews hpos' (by omega) h63 hby
    have hrun := Uo (a := a) ho hv hvy happ
    have hf : Fits w (w.drew.alloc (.cells ((cur.toList.take (elems.length * esz)).toArray ++ news.toArray ++ Builtin.zeroCells z.cells (grownCap w (elems.length + ys.length) cap e - (elems.length + ys.length))) e)) [(g, elems.length * esz)] [(w.heap.size, (elems.length + ys.length) * esz)] :=
     ⟨((Ext.drew [] w).trans (Ext.alloc w.drew _ _)).ofNil, by simp, fun p hp => by simp at hp; subst hp; simp⟩
    obtain ⟨L', h2, h3⟩ := hgo _ _ (.arrA (.slice (some ⟨w.heap.size, 0, none⟩) (elems.length + ys.length) (grownCap w (elems.length + ys.length) cap e)) e esz (elems ++ ys)) o.dst (.slice (some ⟨w.heap.size, 0, none⟩) (elems.length + ys.length) (grownCap w (elems.length + ys.length) cap e)) (.c (.ex _)) hf hN
     (.arrA _ e esz _ _ (Qck hz holdlen hln hzo hzy h63 (hf.ext.frame R) (fun off hoff hw => by
      rcases Wr.append.1 hw with ⟨lim, hl, hle⟩ | ⟨lim, hl, _⟩
      ·simp only [Qf3, Qf4] at hl; omega
      ·have : Wr (L ++ F) w.heap.size lim := (hwr _ _).1 (Wr.append.2 (.inr ⟨lim, hl, Qf6 _⟩))
       obtain ⟨l2, hl2, _⟩ := this
       exact absurd (hr.lt _ hl2) (by simp)) hro hrn')) (.c _ _ (.ex _ rfl))
    unfold Oper.wp
    rw [hrun, Oper.upon_value]
    exact ⟨L', _, k _, h2, h3⟩
end
end Go.Rv
