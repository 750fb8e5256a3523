/- A LOGIC OF ABSTRACT STATES OVER THE MODEL, part G: append, make, cuts; elements of an owned slice. -/
/- A LOGIC OF ABSTRACT STATES OVER THE MODEL, part F: what is told may be turned; functions' contracts, calls. -/
/- A LOGIC OF ABSTRACT STATES OVER THE MODEL, part H: the same rules in the forms in which a program types them. -/
/- A LOGIC OF ABSTRACT STATES OVER THE MODEL, part I: a region whose order is drawn: where what is not ordered does not meet, the order of the text serves. -/
import Derived.Test.YtocjhbbldeankaaDoorRvE
import Derived.Orders
namespace Go.Rv
theorem Ext.ofNil {r r' : Reg} {w w' : World} (h : Ext [] w r' w') : Ext r w r' w' :=
 ⟨h.os, h.tape, h.output, h.size, fun b hb _ => h.block b hb (fun _ hl => by cases hl), fun b off hb _ => h.cell b off hb Wr.nil, fun b off hb hw => absurd (h.mono b off hb hw) Wr.nil, fun b l hb hl => by obtain ⟨_, h'⟩ := h.blocks b l hb hl; cases h'⟩
theorem Ext.setRow_from {w : World} {g lim lim' : Nat} {cur : Array Value} {cs : List Value} {e : TypeId} (hg : w.heap[g]? = some (.cells cur e (0, 0))) (hl : lim ≤ lim') (hs : ∀ q, q < lim → cs[q]? = cur[q]?) : Ext [(g, lim)] w [(g, lim')] (w.setRow g cs.toArray) where
 os := rfl
 tape := rfl
 output := rfl
 size := by simp
 block k hk hn := setRow_other w g k _ (fun h => hn lim (by simp [h]))
 cell k off hk hn := by
  by_cases h : k = g
  ·subst h
   have ho : off < lim := by
    rcases Nat.lt_or_ge off lim with h | h
    ·exact h
    ·exact absurd ⟨lim, by simp, h⟩ hn
   rw [cell_setRow_same w k off cur _ e _ hg, cell_of_row w k off cur e _ hg]
   simpa using hs off ho
  ·exact cell_setRow_other w g _ ⟨k, off, none⟩ h
 mono k off hk hw := by
  obtain ⟨l, hl', hle⟩ := hw
  simp at hl'
  exact ⟨lim, by simp [hl'.1], by omega⟩
 blocks k l hk hl' := by simp at hl'; exact ⟨lim, by simp [hl'.1]⟩
section
variable {P : Program} {w : World}
theorem run_append_zero {t ty e : TypeId} {z : Value} {size by_ : Nat} (ht : P.underlying t = some (.slice e)) (hei : EInfo P e z size by_) (base a : Option Addr) (n cap c : Nat) (hn : n ≤ cap) :
  (Builtin.append_ #[t, t] ty #[.slice base n cap, .slice a 0 c]).run P w = .ok (.slice base n cap) w := by
 cases a <;> cases base <;> simp [Builtin.append_, run_underlying ht, hei.sizeOf, Builtin.lenOf, hn, Builtin.firstCells, loadCells, loadCellsFrom, storeCells]
theorem run_append_fresh {t ty e : TypeId} {z : Value} {size by_ : Nat} (ht : P.underlying t = some (.slice e)) (hei : EInfo P e z size by_) (base : Option Addr) (n cap : Nat) (olds : List Value) (hlo : olds.length = n * size)
  (hb : base = none → n = 0 ∧ cap = 0) (holds : ∀ b, base = some b → ∀ (j : Nat) (v : Value), olds[j]? = some v → w.cell? (b.add j) = some v)
  (a : Addr) (m c : Nat) (news : List Value) (hl : news.length = m * size) (hnews : ∀ (j : Nat) (v : Value), news[j]? = some v → w.cell? (a.add j) = some v) (hm : 0 < m) (hg : cap < n + m) (h63 : n + m ≤ maxLen) (hby : (n + m) * by_ ≤ 140737488355328) :
  (Builtin.append_ #[t, t] ty #[.slice base n cap, .slice (some a) m c]).run P w =
   .ok (.slice (some ⟨w.heap.size, 0, none⟩) (n + m) (grownCap w (n + m) cap e)) (w.drew.alloc (.cells (olds.toArray ++ news.toArray ++ Builtin.zeroCells z.cells (grownCap w (n + m) cap e - (n + m))) e)) := by
 obtain ⟨i, hi, hz, hs, hbs⟩ := hei
 subst hs
 subst hbs
 have h63' : ((n + m : Nat) : Int) ≤ 9223372036854775807 := by simp only [maxLen] at h63; omega
 cases base with
 | none =>
  obtain ⟨rfl, rfl⟩ := hb rfl
  have : olds = [] := List.eq_nil_of_length_eq_zero (by simpa using hlo)
  subst this
  have := run_append_nil (P := P) w t ty e i z ht hi hz a m c news hl hnews hm (by omega) (by rw [Nat.zero_add] at hby; omega)
  simpa using this
 | some b => exact run_append_grow (P := P) w t ty e i z ht hi hz b n cap olds hlo (holds b rfl) a m c news hl hnews hg h63' (growslice_fits hg hby)
theorem fresh_own {M : Reg} {e : TypeId} {z : Value} {size : Nat} {elems ys : List (List DC)} {olds news : List Value} {cap : Nat} (hz : z.cells.size = size) (hlo : olds.length = elems.length * size) (hl : news.length = ys.length * size)
  (hzo : ∀ x ∈ elems, x.length = size) (hzy : ∀ x ∈ ys, x.length = size) (h63 : elems.length + ys.length ≤ maxLen) 
  {M' : Reg} (hM : Ext M w M' (w.drew.alloc (.cells (olds.toArray ++ news.toArray ++ Builtin.zeroCells z.cells (grownCap w (elems.length + ys.length) cap e - (elems.length + ys.length))) e)))
  (hnew : ∀ off, off < (elems.length + ys.length) * size → ¬ Wr M' w.heap.size off) (ho : RepL w M olds elems.flatten) (hn : RepL w M news ys.flatten) :
  OwnR (w.drew.alloc (.cells (olds.toArray ++ news.toArray ++ Builtin.zeroCells z.cells (grownCap w (elems.length + ys.length) cap e - (elems.length + ys.length))) e)) M' (.slice (some ⟨w.heap.size, 0, none⟩) (elems.length + ys.length) (grownCap w (elems.length + ys.length) cap e)) e size (elems ++ ys) [(w.heap.size, (elems.length + ys.length) * size)] := by
 have hge := grownCap_ge w (elems.length + ys.length) cap e
 have hle := grownCap_le_maxLen w (elems.length + ys.length) cap e h63
 have hlen : (elems ++ ys).length = elems.length + ys.length := List.length_append
 have key := OwnR.some (w := w.drew.alloc (.cells (olds.toArray ++ news.toArray ++ Builtin.zeroCells z.cells (grownCap w (elems.length + ys.length) cap e - (elems.length + ys.length))) e)) (M := M') w.heap.size (grownCap w (elems.length + ys.length) cap e) _ e size (elems ++ ys) (heap_alloc_new w.drew _) (by rw [hlen]; exact hge) hle ?_ ?_ ?_ ?_
 ·rw [hlen] at key; exact key
 ·simp only [Array.size_append, List.size_toArray, size_zeroCells, hz, hlo, hl, ← Nat.add_mul]
  congr 1
  omega
 ·intro x hx
  rcases List.mem_append.1 hx with h | h
  ·exact hzo x h
  ·exact hzy x h
 ·intro off hoff
  rw [hlen] at hoff
  exact hnew off hoff
 ·have : (olds.toArray ++ news.toArray ++ Builtin.zeroCells z.cells (grownCap w (elems.length + ys.length) cap e - (elems.length + ys.length))).toList.take ((elems ++ ys).length * size) = olds ++ news := by
   rw [Array.toList_append, Array.toList_append, hlen, Nat.add_mul, ← hlo, ← hl, ← List.length_append]
   exact List.take_left
  rw [this, List.flatten_append]
  exact (ho.step hM).append (hn.step hM)
end
theorem RepC.news {w : World} {M : Reg} {v : Value} {full : Bool} {esz : Nat} {ys : List (List DC)} (h : RepC w M v (.sl full esz ys)) :
  ∃ (a : Option Addr) (c : Nat) (news : List Value), v = .slice a ys.length c ∧ (∀ x ∈ ys, x.length = esz) ∧ news.length = ys.length * esz ∧ RepL w M news ys.flatten ∧ (∀ u ∈ news, u.oneCell' = true) ∧
   (0 < ys.length → ∃ ad, a = some ad ∧ ∀ (j : Nat) (u : Value), news[j]? = some u → w.cell? (ad.add j) = some u) := by
 obtain ⟨a, b, off, cap, vs, h1, h2, _, _, _, h6, h7, h8⟩ := h.flat
 refine ⟨a, cap, vs, h1, h6, by rw [h7.1, flat_len h6], h7, h7.one, fun hp => ?_⟩
 rcases h2 with rfl | ⟨rfl, _⟩
 ·exact ⟨_, rfl, fun j u hu => by rw [addr_add]; exact (h8 j u hu).1⟩
 ·simp at hp
section
variable {P : Program} {N : Nat} {s : St} {o : Oper} {K : St → Prop} {Q : Exit → St → Prop}
theorem run_appendOp {w w' : World} {a : Act} {x y : Operand} {t : TypeId} {u u' v : Value} (ho : o.op = .call { callee := .builtin .append, args := #[x, y], argTypes := #[t, t] }) (hx : a.eval x = u) (hy : a.eval y = u')
  (h : (Builtin.append_ #[t, t] o.type #[u, u']).run P w = .ok v w') : (execOp a.eval o).run P w = .ok (.value v) w' := by
 simp [execOp, ho, resolve, invoke, builtin, hx, hy, h]
theorem OpT.appendA {x y : Operand} {t e : TypeId} {z : Value} {esz by_ : Nat} {full : Bool} {v : Value} {i : Nat} {elems ys : List (List DC)} (ho : o.op = .call { callee := .builtin .append, args := #[x, y], argTypes := #[t, t] }) (hN : ∀ d, o.dst = some d → d < N)
  (ht : P.underlying t = some (.slice e)) (hei : EInfo P e z esz by_) (hz : z.cells.size = esz) (hx : s.ev x = some (.c (.ex v))) (hi : s.tab[i]? = some (.arrA v e esz elems)) (hy : s.ev y = some (.sl full esz ys))
  (h63 : elems.length + ys.length ≤ maxLen) (hby : (elems.length + ys.length) * by_ ≤ 140737488355328)
  (k : ∀ v', K (s.upd o.dst (.c (.ex v')) (s.tab.set i (.arrA v' e esz (elems ++ ys))))) : OpT P N o s K := by
 intro F L a w hr
 have hv := hr.exact hx
 obtain ⟨r, R, hob, hwr, hnd, hlt, hdis, hgo⟩ := hr.touch hi
 obtain ⟨ay, cy, news, hvy, hzy, hln, hrn, hone, hpos⟩ := (hr.ev hy).cell.news
 have hrn' : RepL w (r ++ R) news ys.flatten := hrn.congr hwr
 cases hob with
 | arrA _ _ _ _ _ hown =>
 by_cases h0 : ys.length = 0
 ·have hye : ys = [] := List.eq_nil_of_length_eq_zero h0
  subst hye
  have hle : ∃ b n c, v = .slice b n c ∧ n ≤ c := by cases hown with | nil => exact ⟨_, _, _, rfl, Nat.le_refl _⟩ | full _ _ _ _ h => (obtain ⟨_, _, _, _, _, e, _, hc, _⟩ := h.flat; exact ⟨_, _, _, e, hc⟩) | some g cap cur _ _ _ hg hn => exact ⟨_, _, _, rfl, hn⟩
  obtain ⟨b, n, c, rfl, hnc⟩ := hle
  have hrun := run_appendOp (w := w) (w' := w) (a := a) ho hv hvy (run_append_zero ht hei b ay n c cy hnc)
  obtain ⟨L', h2, h3⟩ := hgo w r (.arrA (.slice b n c) e esz (elems ++ [])) o.dst (.slice b n c) (.c (.ex (.slice b n c))) ⟨Ext.refl _ _, hnd, hlt⟩ hN (by rw [List.append_nil]; exact .arrA _ e esz _ _ hown) (.c _ _ (.ex _ rfl))
  unfold Oper.wp
  rw [hrun, Oper.upon_value]
  exact ⟨L', _, k _, h2, h3⟩
 ·have hpos' : 0 < ys.length := by omega
  obtain ⟨ad, rfl, hnews⟩ := hpos hpos'
  cases hown with
  | full _ _ _ _ hfull =>
   obtain ⟨b1, bb, boff, cap, olds, hvv, hb, hc, hm, hf, hzo, hro, hco⟩ := hfull.flat
   have hcap : cap = elems.length := hf rfl
   subst hvv
   have hlo : olds.length = elems.length * esz := by rw [hro.1, flat_len hzo]
   have happ := run_append_fresh (w := w) (ty := o.type) ht hei b1 elems.length cap olds hlo (fun hbn => by rcases hb with h | ⟨h, h'⟩; (rw [hbn] at h; cases h); exact ⟨by simp [h], h'⟩)
    (fun b hbs j v hj => by
     rcases hb with h | ⟨h, _⟩
     ·rw [hbs] at h; cases h; rw [addr_add]; exact (hco j v hj).1
     ·subst h; have : olds = [] := List.eq_nil_of_length_eq_zero (by simpa using hlo)
      subst this; simp at hj) ad ys.length cy news hln hnews hpos' (by omega) h63 hby
   have hrun := run_appendOp (a := a) ho hv hvy happ
   have hf : Fits w (w.drew.alloc (.cells (olds.toArray ++ news.toArray ++ Builtin.zeroCells z.cells (grownCap w (elems.length + ys.length) cap e - (elems.length + ys.length))) e)) [] [(w.heap.size, (elems.length + ys.length) * esz)] :=
    ⟨(Ext.drew [] w).trans (Ext.alloc w.drew _ _), by simp, fun p hp => by simp at hp; subst hp; simp⟩
   obtain ⟨L', h2, h3⟩ := hgo _ _ (.arrA (.slice (some ⟨w.heap.size, 0, none⟩) (elems.length + ys.length) (grownCap w (elems.length + ys.length) cap e)) e esz (elems ++ ys)) o.dst (.slice (some ⟨w.heap.size, 0, none⟩) (elems.length + ys.length) (grownCap w (elems.length + ys.length) cap e)) (.c (.ex _)) hf hN
    (.arrA _ e esz _ _ (fresh_own hz hlo hln hzo hzy h63 (hf.ext.frame R) (fun off hoff hw => by
     rcases Wr.append.1 hw with ⟨lim, hl, hle⟩ | ⟨lim, hl, _⟩
     ·simp only [List.mem_singleton, Prod.mk.injEq] at hl; omega
     ·have : Wr (L ++ F) w.heap.size lim := (hwr _ _).1 (Wr.append.2 (.inr ⟨lim, hl, Nat.le_refl _⟩))
      obtain ⟨l2, hl2, _⟩ := this
      exact absurd (hr.lt _ hl2) (by simp)) hro hrn')) (.c _ _ (.ex _ rfl))
   unfold Oper.wp
   rw [hrun, Oper.upon_value]
   exact ⟨L', _, k _, h2, h3⟩
  | nil b =>
   have happ := run_append_fresh (w := w) (ty := o.type) ht hei b 0 0 [] (by simp) (fun _ => ⟨rfl, rfl⟩) (fun b _ j v hj => by simp at hj) ad ys.length cy news hln hnews hpos' (by omega) h63 hby
   have hrun := run_appendOp (a := a) ho hv hvy happ
   have hf : Fits w (w.drew.alloc (.cells (([] : List Value).toArray ++ news.toArray ++ Builtin.zeroCells z.cells (grownCap w (0 + ys.length) 0 e - (0 + ys.length))) e)) [] [(w.heap.size, (0 + ys.length) * esz)] :=
    ⟨(Ext.drew [] w).trans (Ext.alloc w.drew _ _), by simp, fun p hp => by simp at hp; subst hp; simp⟩
   obtain ⟨L', h2, h3⟩ := hgo _ _ (.arrA (.slice (some ⟨w.heap.size, 0, none⟩) (0 + ys.length) (grownCap w (0 + ys.length) 0 e)) e esz ([] ++ ys)) o.dst (.slice (some ⟨w.heap.size, 0, none⟩) (0 + ys.length) (grownCap w (0 + ys.length) 0 e)) (.c (.ex _)) hf hN
    (.arrA _ e esz _ _ (fresh_own (elems := []) (olds := []) (cap := 0) hz (by simp) hln (fun x hx => by simp at hx) hzy h63 (hf.ext.frame R) (fun off hoff hw => by
     rcases Wr.append.1 hw with ⟨lim, hl, hle⟩ | ⟨lim, hl, _⟩
     ·simp only [List.mem_singleton, Prod.mk.injEq] at hl; simp only [List.length_nil] at hoff; omega
     ·have h1 := hr.lt (w.heap.size, lim) (by
       have : Wr (L ++ F) w.heap.size lim := (hwr _ _).1 (Wr.append.2 (.inr ⟨lim, hl, Nat.le_refl _⟩))
       obtain ⟨l2, hl2, _⟩ := this
       exact absurd (hr.lt _ hl2) (by simp))
      simp at h1) RepL.nil hrn')) (.c _ _ (.ex _ rfl))
   unfold Oper.wp
   rw [hrun, Oper.upon_value]
   exact ⟨L', _, k _, h2, h3⟩
  | some g cap cur _ _ _ hg hn hm hcs hzo hnw hro =>
   have hglt := lt_of_block hg
   have hRg : ∀ lim, (g, lim) ∉ R := hdis (g, elems.length * esz) (by simp)
   by_cases hroom : elems.length + ys.length ≤ cap
   ·obtain ⟨ii, hi1, hi2, hi3, hi4⟩ := hei
    subst hi3
    have hfit : elems.length * ii.size + news.length ≤ cur.size := by rw [hln, hcs, ← Nat.add_mul]; exact Nat.mul_le_mul_right _ hroom
    have happ := run_append_room (P := P) w t o.type e ii ht hi1 g elems.length cap cur hg ad ys.length cy news hln hnews hone hroom hfit
    have hrun := run_appendOp (a := a) ho hv hvy happ
    have hx1 : Ext [(g, elems.length * ii.size)] w [(g, (elems.length + ys.length) * ii.size)] (w.setRow g (cur.toList.take (elems.length * ii.size) ++ news ++ cur.toList.drop (elems.length * ii.size + news.length)).toArray) :=
     Ext.setRow_from hg (Nat.mul_le_mul_right _ (Nat.le_add_right _ _)) (fun q hq => by
      rw [List.append_assoc, List.getElem?_append_left (by simp; omega), List.getElem?_take, if_pos hq]
      simp)
    have hf : Fits w _ [(g, elems.length * ii.size)] [(g, (elems.length + ys.length) * ii.size)] := ⟨hx1, by simp, fun p hp => by simp at hp; subst hp; simpa using hglt⟩
    have hxR := hx1.frame R
    have hlen : (elems ++ ys).length = elems.length + ys.length := List.length_append
    have hown' : OwnR (w.setRow g (cur.toList.take (elems.length * ii.size) ++ news ++ cur.toList.drop (elems.length * ii.size + news.length)).toArray) ([(g, (elems.length + ys.length) * ii.size)] ++ R) (.slice (some ⟨g, 0, none⟩) (elems ++ ys).length cap) e ii.size (elems ++ ys) [(g, (elems ++ ys).length * ii.size)] := by
     refine .some g cap _ e ii.size (elems ++ ys) (setRow_heap w g cur _ e _ hg) (by rw [hlen]; exact hroom) hm ?_ ?_ ?_ ?_
     ·simp only [List.size_toArray, List.length_append, List.length_take, List.length_drop, Array.length_toList]; omega
     ·intro x hx; rcases List.mem_append.1 hx with h | h; (exact hzo x h); exact hzy x h
     ·intro off hoff hw
      rw [hlen] at hoff
      rcases Wr.append.1 hw with ⟨lim, hl, hle⟩ | ⟨lim, hl, _⟩
      ·simp only [List.mem_singleton, Prod.mk.injEq] at hl; omega
      ·exact hRg lim hl
     ·have : (cur.toList.take (elems.length * ii.size) ++ news ++ cur.toList.drop (elems.length * ii.size + news.length)).toArray.toList.take ((elems ++ ys).length * ii.size) = cur.toList.take (elems.length * ii.size) ++ news := by
       have hl1 : (cur.toList.take (elems.length * ii.size) ++ news).length = (elems ++ ys).length * ii.size := by
        have hcur : cur.toList.length = cur.size := by simp
        rw [List.length_append, List.length_take, hcur, hlen, Nat.add_mul, hln]; omega
       rw [← hl1]
       exact List.take_left
      rw [this, List.flatten_append]
      exact (hro.step hxR).append (hrn'.step hxR)
    rw [hlen] at hown'
    obtain ⟨L', h2, h3⟩ := hgo _ _ (.arrA (.slice (some ⟨g, 0, none⟩) (elems.length + ys.length) cap) e ii.size (elems ++ ys)) o.dst (.slice (some ⟨g, 0, none⟩) (elems.length + ys.length) cap) (.c (.ex _)) hf hN (.arrA _ e _ _ _ hown') (.c _ _ (.ex _ rfl))
    unfold Oper.wp
    rw [hrun, Oper.upon_value]
    exact ⟨L', _, k _, h2, h3⟩
   ·have holdlen : (cur.toList.take (elems.length * esz)).length = elems.length * esz := by
     have hcur : cur.toList.length = cur.size := by simp
     rw [List.length_take, hcur, hcs]
     exact Nat.min_eq_left (Nat.mul_le_mul_right _ hn)
    have happ := run_append_fresh (w := w) (ty := o.type) ht hei (some ⟨g, 0, none⟩) elems.length cap (cur.toList.take (elems.length * esz)) holdlen (fun h => by cases h) (fun b hb j v hj => by
     cases hb
     rw [addr_add, cell_of_row w g _ cur e _ hg, Nat.zero_add]
     rw [List.getElem?_take] at hj
     split at hj
     ·simpa using hj
     ·cases hj) ad ys.length cy news hln hnews hpos' (by omega) h63 hby
    have hrun := run_appendOp (a := a) ho hv hvy happ
    have hf : Fits w (w.drew.alloc (.cells ((cur.toList.take (elems.length * esz)).toArray ++ news.toArray ++ Builtin.zeroCells z.cells (grownCap w (elems.length + ys.length) cap e - (elems.length + ys.length))) e)) [(g, elems.length * esz)] [(w.heap.size, (elems.length + ys.length) * esz)] :=
     ⟨((Ext.drew [] w).trans (Ext.alloc w.drew _ _)).ofNil, by simp, fun p hp => by simp at hp; subst hp; simp⟩
    obtain ⟨L', h2, h3⟩ := hgo _ _ (.arrA (.slice (some ⟨w.heap.size, 0, none⟩) (elems.length + ys.length) (grownCap w (elems.length + ys.length) cap e)) e esz (elems ++ ys)) o.dst (.slice (some ⟨w.heap.size, 0, none⟩) (elems.length + ys.length) (grownCap w (elems.length + ys.length) cap e)) (.c (.ex _)) hf hN
     (.arrA _ e esz _ _ (fresh_own hz holdlen hln hzo hzy h63 (hf.ext.frame R) (fun off hoff hw => by
      rcases Wr.append.1 hw with ⟨lim, hl, hle⟩ | ⟨lim, hl, _⟩
      ·simp only [List.mem_singleton, Prod.mk.injEq] at hl; omega
      ·have : Wr (L ++ F) w.heap.size lim := (hwr _ _).1 (Wr.append.2 (.inr ⟨lim, hl, Nat.le_refl _⟩))
       obtain ⟨l2, hl2, _⟩ := this
       exact absurd (hr.lt _ hl2) (by simp)) hro hrn')) (.c _ _ (.ex _ rfl))
    unfold Oper.wp
    rw [hrun, Oper.upon_value]
    exact ⟨L', _, k _, h2, h3⟩
end
end Go.Rv
namespace Go.Rv
theorem HeapR.perm {w : World} {M : Reg} {t t' : List Ob} (hp : t.Perm t') : ∀ {L : Reg}, HeapR w M t L → ∃ L', HeapR w M t' L' ∧ L.Perm L' := by
 induction hp with
 | nil => intro L h; exact ⟨L, h, List.Perm.refl _⟩
 | cons x _ ih =>
  intro L h
  cases h with
  | cons _ r _ rs h1 h2 =>
   obtain ⟨L', h3, h4⟩ := ih h2
   exact ⟨r ++ L', .cons x r _ L' h1 h3, List.Perm.append_left r h4⟩
 | swap x y l =>
  intro L h
  cases h with
  | cons _ r _ rs h1 h2 =>
   cases h2 with
   | cons _ r2 _ rs2 h3 h4 =>
    refine ⟨r2 ++ (r ++ rs2), .cons x r2 _ _ h3 (.cons y r _ _ h1 h4), ?_⟩
    rw [← List.append_assoc, ← List.append_assoc]
    exact List.Perm.append_right rs2 List.perm_append_comm
 | trans _ _ ih1 ih2 =>
  intro L h
  obtain ⟨L1, h1, h2⟩ := ih1 h
  obtain ⟨L2, h3, h4⟩ := ih2 h1
  exact ⟨L2, h3, h2.trans h4⟩
theorem HeapR.split {w : World} {M : Reg} : ∀ {t t' : List Ob} {L : Reg}, HeapR w M (t ++ t') L → ∃ L1 L2, HeapR w M t L1 ∧ HeapR w M t' L2 ∧ L = L1 ++ L2 := by
 intro t
 induction t with
 | nil => intro t' L h; exact ⟨[], L, .nil, h, rfl⟩
 | cons o t ih =>
  intro t' L h
  cases h with
  | cons _ r _ rs h1 h2 =>
   obtain ⟨L1, L2, h3, h4, rfl⟩ := ih h2
   exact ⟨r ++ L1, L2, .cons o r _ L1 h1 h3, h4, by simp⟩
theorem HeapR.join {w : World} {M : Reg} {t t' : List Ob} {L L' : Reg} (h : HeapR w M t L) (k : HeapR w M t' L') : HeapR w M (t ++ t') (L ++ L') := by
 induction h with
 | nil => exact k
 | cons o r t rs h1 _ ih => simpa using HeapR.cons o r _ _ h1 ih
def Turn (s s' : St) : Prop := ∀ (N : Nat) (F L : Reg) (a : Act) (w : World), Rel w N F L s a → ∃ L', Rel w N F L' s' a ∧ Ext L w L' w
theorem Turn.refl (s : St) : Turn s s := fun _ _ L _ _ h => ⟨L, h, Ext.refl _ _⟩
theorem Turn.trans {s s1 s2 : St} (h : Turn s s1) (k : Turn s1 s2) : Turn s s2 := fun N F L a w hr => by
 obtain ⟨L1, h1, x1⟩ := h N F L a w hr
 obtain ⟨L2, h2, x2⟩ := k N F L1 a w h1
 exact ⟨L2, h2, x1.trans x2⟩
theorem Turn.forget {s : St} (sl : List (Nat × AV)) (hs : ∀ t v, sl.lookup t = some v → s.slots.lookup t = some v) : Turn s ⟨sl, s.tab⟩ :=
 fun _ _ L _ _ hr => ⟨L, ⟨hr.defers, hr.size, fun t v hv => hr.slot t v (hs t v hv), hr.heap, hr.nodup, hr.lt⟩, Ext.refl _ _⟩
theorem Turn.dropO {s : St} (i : Nat) : Turn s ⟨s.slots, s.tab.eraseIdx i⟩ := fun _ _ _ _ _ hr => hr.dropO i
theorem Turn.dropAll {s : St} : Turn s ⟨s.slots, []⟩ := by
 obtain ⟨sl, tab⟩ := s
 induction tab with
 | nil => exact Turn.refl _
 | cons o t ih => exact (Turn.dropO (s := ⟨sl, o :: t⟩) 0).trans ih
theorem Turn.perm {s : St} {tab : List Ob} (hp : s.tab.Perm tab) : Turn s ⟨s.slots, tab⟩ := fun N F L a w hr => by
 obtain ⟨L', h1, h2⟩ := hr.heap.perm hp
 have hs := perm_same (F := F) h2
 exact ⟨L', ⟨hr.defers, hr.size, fun t v hv => (hr.slot t v hv).less fun b o => (hs.wr).2, h1.congr fun b o => hs.wr.symm, ((List.Perm.append_right F h2).map _).nodup_iff.1 hr.nodup, fun p hp => hr.lt p ((hs p).2 hp)⟩,
  (Ext.refl L w).congr (fun _ => Iff.rfl) (fun p => h2.mem_iff)⟩
theorem Turn.slot {s : St} (d : Nat) (x : AV) (h : ∀ (N : Nat) (F L : Reg) (a : Act) (w : World), Rel w N F L s a → AvR w (L ++ F) (a.tmps.getD d undef) x) : Turn s ⟨(d, x) :: s.slots, s.tab⟩ :=
 fun N F L a w hr => ⟨L, ⟨hr.defers, hr.size, fun t v hv => by
  simp only [List.lookup_cons] at hv
  split at hv
  ·rename_i he; simp at he hv; subst he; subst hv; exact h N F L a w hr
  ·exact hr.slot t v hv, hr.heap, hr.nodup, hr.lt⟩, Ext.refl _ _⟩
theorem RepC.empty {w : World} {M : Reg} {full : Bool} {esz : Nat} (a : Option Addr) : RepC w M (.slice a 0 0) (.sl full esz []) :=
 RepC.sl (w := w) (M := M) a 0 0 0 full esz [] (fun _ _ => undef) (.inr ⟨rfl, rfl⟩) (by simp) (by simp) (fun _ => by simp) (fun e he => by simp at he) (fun i j d hd => by simp at hd) (fun i j d hd => by simp at hd)
theorem RepC.unfull {w : World} {M : Reg} {v : Value} {full : Bool} {esz : Nat} {elems : List (List DC)} (h : RepC w M v (.sl full esz elems)) : RepC w M v (.sl false esz elems) := by
 cases h with
 | sl a b off cap full esz elems vs ha hc hm hf hz hw hr => exact .sl a b off cap false esz elems vs ha hc hm (fun h => by cases h) hz hw hr
theorem OwnR.view {w : World} {M : Reg} {v : Value} {e : TypeId} {esz : Nat} {elems : List (List DC)} {r : Reg} (h : OwnR w M v e esz elems r) : RepC w M v (.sl false esz elems) := by
 cases h with
 | nil a => exact RepC.empty a
 | full _ _ _ _ h => exact h.unfull
 | some g cap cur _ _ _ hg hn hm hcs hz hnw hr =>
  refine RepC.ofFlat (off := 0) hr (fun q v hv => ?_) hn hm (fun h => by cases h) hz
  rw [List.getElem?_take] at hv
  split at hv
  ·rename_i hq
   rw [Nat.zero_add, cell_of_row w g q cur e _ hg]
   exact ⟨by simpa using hv, hnw q hq⟩
  ·cases hv
theorem Turn.view {s : St} (d i : Nat) {v : Value} {e : TypeId} {esz : Nat} {elems : List (List DC)} (hd : s.slots.lookup d = some (.c (.ex v))) (hi : s.tab[i]? = some (.arrA v e esz elems)) : Turn s ⟨(d, .sl false esz elems) :: s.slots, s.tab⟩ :=
 Turn.slot d _ fun N F L a w hr => by
  obtain ⟨r1, r2, h1, -, -⟩ := hr.heap.get hi
  have hv := hr.exact (x := .tmp d) hd
  simp only [Act.eval] at hv
  rw [hv]
  cases h1 with
  | arrA _ _ _ _ _ h => exact .c _ _ h.view
section
variable {P : Program} {N : Nat} {s s' : St} {Q : Exit → St → Prop}
theorem TO.by_turn {ops : Array Oper} {l : List Nat} (hs : Turn s s') (h : TO P N ops l s' Q) : TO P N ops l s Q := TO.turn (fun F L a w hr => hs N F L a w hr) h
theorem T.by_turn {c : Code} (hs : Turn s s') (h : T P N c s' Q) : T P N c s Q := T.turn (fun F L a w hr => hs N F L a w hr) h
theorem TL.by_turn {c : Code} (hs : Turn s s') (h : TL P N c s' Q) : TL P N c s Q := by
 intro F L a w hr b k cs
 obtain ⟨L', hr', hx⟩ := hs N F L a w hr
 obtain ⟨e, a', w', ⟨L2, s2, q, r, x⟩, harr⟩ := h F L' a w hr' b k cs
 exact ⟨e, a', w', ⟨L2, s2, q, r, hx.trans x⟩, harr⟩
end
def CallT (P : Program) (f : FuncId) (avs : List AV) (tab : List Ob) (R : AV → List Ob → Prop) : Prop :=
 ∀ (F L : Reg) (w : World) (vs : List Value), vs.length = avs.length → (∀ (i : Nat) (v : Value) (x : AV), vs[i]? = some v → avs[i]? = some x → AvR w (L ++ F) v x) → HeapR w (L ++ F) tab L → ((L ++ F).map (·.1)).Nodup → (∀ p ∈ L ++ F, p.1 < w.heap.size) →
  Calls P f vs.toArray w fun e w' => ∃ v x tab' L', e = .returned v ∧ R x tab' ∧ AvR w' (L' ++ F) v x ∧ HeapR w' (L' ++ F) tab' L' ∧ ((L' ++ F).map (·.1)).Nodup ∧ (∀ p ∈ L' ++ F, p.1 < w'.heap.size) ∧ Ext L w L' w'
theorem CallT.mono {P : Program} {f : FuncId} {avs : List AV} {tab : List Ob} {R R' : AV → List Ob → Prop} (h : CallT P f avs tab R) (hr : ∀ x t, R x t → R' x t) : CallT P f avs tab R' :=
 fun F L w vs h1 h2 h3 h4 h5 => Calls.mono (h F L w vs h1 h2 h3 h4 h5) fun _ _ ⟨v, x, t, L', he, hR, rest⟩ => ⟨v, x, t, L', he, hr _ _ hR, rest⟩
def Pure1 (x : AV) : AV → List Ob → Prop := fun y t => y = x ∧ t = []
abbrev CallP (P : Program) (f : FuncId) (avs : List AV) (x : AV) : Prop := CallT P f avs [] (Pure1 x)
inductive ResV (P : Program) (s : St) : ResultVar → AV → Prop
 | tmp (t x) (h : s.slots.lookup t = some x) : ResV P s (.tmp t) x
 | cell (t : Nat) (ty : TypeId) (b off i : Nat) (e : TypeId) (cells : List OC) (d : DC) (dt : TypeDesc) (ht : s.slots.lookup t = some (.ptr b off)) (hi : s.tab[i]? = some (.box b e cells)) (hd : cells[off]? = some (.d d)) (hu : P.underlying ty = some dt) (hfl : TypeDesc.flat dt = true) : ResV P s (.cell t ty) (.c d)
 | cellAgg (t : Nat) (ty : TypeId) (b off i : Nat) (e : TypeId) (cells : List OC) (l : List DC) (dt : TypeDesc) (z : Value) (sz by_ : Nat) (ht : s.slots.lookup t = some (.ptr b off)) (hi : s.tab[i]? = some (.box b e cells)) (hl : l.length = sz) (hd : (cells.drop off).take sz = l.map OC.d) (hu : P.underlying ty = some dt) (hfl : TypeDesc.flat dt = false) (hei : EInfo P ty z sz by_) : ResV P s (.cell t ty) (.agg l)
inductive ResL (P : Program) (s : St) : List ResultVar → List AV → Prop
 | nil : ResL P s [] []
 | cons (r x rs xs) (h : ResV P s r x) (t : ResL P s rs xs) : ResL P s (r :: rs) (x :: xs)
def resRun (tmps : Array Value) : ResultVar → Sem Value
 | .tmp t => pure (tmps.getD t undef)
 | .cell a t => do loadVar t (← asAddr (tmps.getD a undef))
theorem results_eq (fn : Func) (tmps : Array Value) : results fn tmps = (do let vs ← fn.results.mapM (resRun tmps); pure (if h : vs.size = 1 then vs[0] else .tuple vs)) := rfl
theorem ResV.run {P : Program} {s : St} {r : ResultVar} {x : AV} (h : ResV P s r x) {w : World} {N : Nat} {F L : Reg} {a : Act} (hr : Rel w N F L s a) : ∃ v, (resRun a.tmps r).run P w = .ok v w ∧ AvR w (L ++ F) v x := by
 cases h with
 | tmp t _ h => exact ⟨_, rfl, hr.slot t x h⟩
 | cell t ty b off i e cells d dt ht hi hd hu hfl =>
  obtain ⟨r1, r2, h1, -, -⟩ := hr.heap.get hi
  cases h1 with
  | box _ _ cs _ r hb h =>
   obtain ⟨v, hv, hrep⟩ := h.getD hd
   have hcell : w.cell? ⟨b, off, none⟩ = some v := by rw [cell_of_row w b off cs e _ hb]; simpa using hv
   have hp := hr.exact (x := .tmp t) ht
   simp only [Act.eval] at hp
   exact ⟨v, by simp only [resRun, hp]; simp [asAddr, loadVar, run_isAgg hu, hfl, hcell], .c _ _ hrep⟩
 | cellAgg t ty b off i e cells l dt z sz by_ ht hi hl hd hu hfl hei =>
  obtain ⟨r1, r2, h1, -, -⟩ := hr.heap.get hi
  cases h1 with
  | box _ _ cs _ r hb h =>
   subst hl
   have hrep := h.getDs hd
   have hlen : l.length ≤ (cs.toList.drop off).length := by have := hrep.1; simp at this ⊢; omega
   have hld := run_loadCells_at (P := P) (w := w) (b := b) (off := off) (vs := cs.toList.drop off) l.length (fun i v hv => by
    rw [cell_of_row w b (off + i) cs e _ hb]; simpa using hv) hlen
   have hp := hr.exact (x := .tmp t) ht
   simp only [Act.eval] at hp
   exact ⟨.agg ((cs.toList.drop off).take l.length).toArray, by simp only [resRun, hp]; simp [asAddr, loadVar, run_isAgg hu, hfl, hei.sizeOf, hld], .agg _ _ (by simpa using hrep)⟩
theorem ResL.run {P : Program} {s : St} {w : World} {N : Nat} {F L : Reg} {a : Act} (hr : Rel w N F L s a) : ∀ {rs : List ResultVar} {xs : List AV}, ResL P s rs xs → ∃ vs : List Value, (rs.mapM (resRun a.tmps)).run P w = .ok vs w ∧ vs.length = xs.length ∧ ∀ (i : Nat) (v : Value) (x : AV), vs[i]? = some v → xs[i]? = some x → AvR w (L ++ F) v x := by
 intro rs
 induction rs with
 | nil => intro xs h; cases h; exact ⟨[], by simp, rfl, fun i v x hv => by simp at hv⟩
 | cons r rs ih =>
  intro xs h
  cases h with
  | cons _ x _ xs h t =>
   obtain ⟨v, h1, h2⟩ := h.run hr
   obtain ⟨vs, h3, h4, h5⟩ := ih t
   refine ⟨v :: vs, by simp [List.mapM_cons, h1, h3], by simp [h4], fun i u y hu hy => ?_⟩
   cases i with
   | zero => simp at hu hy; subst hu; subst hy; exact h2
   | succ i => exact h5 i u y (by simpa using hu) (by simpa using hy)
def tupAV : List AV → AV
 | [x] => x
 | l => .tup l
theorem ResL.results {P : Program} {s : St} {fn : Func} {xs : List AV} (h : ResL P s fn.results.toList xs) {w : World} {N : Nat} {F L : Reg} {a : Act} (hr : Rel w N F L s a) : ∃ v, (results fn a.tmps).run P w = .ok v w ∧ AvR w (L ++ F) v (tupAV xs) := by
 obtain ⟨vs, h1, h2, h3⟩ := h.run hr
 refine ⟨_, by rw [results_eq]; simp [Array.mapM_eq_mapM_toList, h1]; rfl, ?_⟩
 split
 ·rename_i hs
  match vs, xs, h2, hs with
  | [v], [x], _, _ => exact h3 0 v x rfl rfl
 ·rename_i hs
  have : tupAV xs = .tup xs := by
   match xs with
   | [] => rfl
   | [x] => simp at h2 hs; omega
   | _ :: _ :: _ => rfl
  rw [this]
  exact .tup _ _ (by simpa using h2) (fun i v x hv hx => h3 i v x (by simpa using hv) hx)
def Fin (P : Program) (fn : Func) (R : AV → List Ob → Prop) (s : St) : Prop :=
 ∀ (N : Nat) (F L : Reg) (a : Act) (w : World), Rel w N F L s a → ∃ v x tab' L', (results fn a.tmps).run P w = .ok v w ∧ R x tab' ∧ AvR w (L' ++ F) v x ∧ HeapR w (L' ++ F) tab' L' ∧ ((L' ++ F).map (·.1)).Nodup ∧ (∀ p ∈ L' ++ F, p.1 < w.heap.size) ∧ Ext L w L' w
theorem Fin.turn {P : Program} {fn : Func} {R : AV → List Ob → Prop} {s s' : St} (h : Turn s s') (k : Fin P fn R s') : Fin P fn R s := fun N F L a w hr => by
 obtain ⟨L1, h1, x1⟩ := h N F L a w hr
 obtain ⟨v, x, t, L2, h2, h3, h4, h5, h6, h7, h8⟩ := k N F L1 a w h1
 exact ⟨v, x, t, L2, h2, h3, h4, h5, h6, h7, x1.trans h8⟩
theorem Fin.done {P : Program} {fn : Func} {R : AV → List Ob → Prop} {s : St} {xs : List AV} (h : ResL P s fn.results.toList xs) (hR : R (tupAV xs) []) : Fin P fn R s := fun N F L a w hr => by
 obtain ⟨v, h1, h2⟩ := h.results hr
 obtain ⟨L', h3, h4⟩ := Turn.dropAll N F L a w hr
 refine ⟨v, _, [], L', h1, hR, h2.less fun b off hw => ?_, h3.heap, h3.nodup, h3.lt, h4⟩
 rcases Wr.append.1 hw with h | h
 ·have hb : b < w.heap.size := by obtain ⟨l, hl, _⟩ := h; exact h3.lt (b, l) (List.mem_append.2 (.inl hl))
  exact Wr.append.2 (.inl (h4.mono b off hb h))
 ·exact Wr.append.2 (.inr h)
def paramSlots : Nat → List AV → List (Nat × AV)
 | _, [] => []
 | i, x :: l => (i, x) :: paramSlots (i + 1) l
theorem paramSlots_lookup : ∀ (l : List AV) (i t : Nat) (v : AV), (paramSlots i l).lookup t = some v → i ≤ t ∧ l[t - i]? = some v := by
 intro l
 induction l with
 | nil => intro i t v h; simp [paramSlots] at h
 | cons x l ih =>
  intro i t v h
  simp only [paramSlots, List.lookup_cons] at h
  split at h
  ·rename_i he; simp at he h; subst he; subst h; simp
  ·obtain ⟨h1, h2⟩ := ih (i + 1) t v h
   refine ⟨by omega, ?_⟩
   have : t - i = (t - (i + 1)) + 1 := by omega
   rw [this]
   simpa using h2
def retS (P : Program) (fn : Func) (R : AV → List Ob → Prop) : Exit → St → Prop
 | .normal, s => Fin P fn R s
 | .ret, s => Fin P fn R s
 | _, _ => False
theorem CallT.intro {P : Program} {f : FuncId} {fn : Func} {c : Code} {avs : List AV} {tab : List Ob} {R : AV → List Ob → Prop} (hf : P.funcs[f]? = some fn) (hb : fn.body = some c) (hN : avs.length ≤ fn.ntmps)
  (h : T P fn.ntmps c ⟨paramSlots 0 avs, tab⟩ (retS P fn R)) : CallT P f avs tab R := by
 intro F L w vs hl hv hh hnd hlt
 refine calls_of_wp hf hb ?_
 have hsz : vs.toArray.size = avs.length := by simpa using hl
 have hr : Rel w fn.ntmps F L ⟨paramSlots 0 avs, tab⟩ { tmps := vs.toArray ++ Array.replicate (fn.ntmps - vs.toArray.size) undef, defers := [] } := by
  refine ⟨rfl, by simp; omega, fun t v ht => ?_, hh, hnd, hlt⟩
  obtain ⟨_, h2⟩ := paramSlots_lookup avs 0 t v ht
  simp only [Nat.sub_zero] at h2
  have ht' : t < vs.length := by rw [hl]; exact (List.getElem?_eq_some_iff.1 h2).1
  have : (vs.toArray ++ Array.replicate (fn.ntmps - vs.toArray.size) undef).getD t undef = vs[t] := by
   rw [Array.getD_eq_getD_getElem?, Array.getElem?_append_left (by simpa using ht')]
   simp [ht']
  rw [this]
  exact hv t _ v (by simp [ht']) h2
 refine wp_mono (h F L _ w hr) ?_
 rintro e a' w' ⟨L', s', q, hr', x⟩
 have fin : Fin P fn R s' → a'.defers = [] ∧ ∃ v, (results fn a'.tmps).run P w' = .ok v w' ∧ ∃ v2 x tab' L', Ending.returned v = .returned v2 ∧ R x tab' ∧ AvR w' (L' ++ F) v2 x ∧ HeapR w' (L' ++ F) tab' L' ∧ ((L' ++ F).map (·.1)).Nodup ∧ (∀ p ∈ L' ++ F, p.1 < w'.heap.size) ∧ Ext L w L' w' := by
  intro hfin
  obtain ⟨v, y, t, L2, h2, h3, h4, h5, h6, h7, h8⟩ := hfin _ F L' a' w' hr'
  exact ⟨hr'.defers, v, h2, v, y, t, L2, rfl, h3, h4, h5, h6, h7, x.trans h8⟩
 cases e with
 | normal => exact fin q
 | ret => exact fin q
 | exit id => exact q.elim
 | goto l => exact q.elim
 | panic ch => exact q.elim
 | outgrown => exact q.elim
section
variable {P : Program} {N : Nat} {s : St} {o : Oper} {K : St → Prop}
def St.evs (s : St) : List Operand → Option (List AV)
 | [] => some []
 | x :: r => match s.ev x, s.evs r with
  | some v, some l => some (v :: l)
  | _, _ => none
theorem Rel.evs {w : World} {F L : Reg} {a : Act} (hr : Rel w N F L s a) : ∀ {xs : List Operand} {avs : List AV}, s.evs xs = some avs → (xs.map a.eval).length = avs.length ∧ ∀ (i : Nat) (v : Value) (x : AV), (xs.map a.eval)[i]? = some v → avs[i]? = some x → AvR w (L ++ F) v x := by
 intro xs
 induction xs with
 | nil => intro avs h; simp only [St.evs, Option.some.injEq] at h; subst h; exact ⟨rfl, fun i v x hv => by simp at hv⟩
 | cons y ys ih =>
  intro avs h
  simp only [St.evs] at h
  cases hy : s.ev y with
  | none => simp [hy] at h
  | some v =>
   cases hys : s.evs ys with
   | none => simp [hy, hys] at h
   | some l =>
    simp only [hy, hys, Option.some.injEq] at h
    subst h
    obtain ⟨h1, h2⟩ := ih hys
    refine ⟨by simpa using h1, fun i u x hu hx => ?_⟩
    cases i with
    | zero => simp at hu hx; subst hu; subst hx; exact hr.ev hy
    | succ i => exact h2 i u x (by simpa using hu) (by simpa using hx)
theorem run_callOp {w : World} {a : Act} {f : FuncId} {fn : Func} {args : Array Operand} {ts : Array TypeId} (ho : o.op = .call { callee := .value (.func f), args, argTypes := ts }) (hf : P.funcs[f]? = some fn) (hb : fn.body.isSome = true) (hname : (fn.name == "runtime.NumGoroutine") = false) :
  (execOp a.eval o).run P w = .ok (.enter f (args.map a.eval)) w := by
 have h1 : (callFunc f (#[] ++ args.map a.eval ++ #[])).run P w = .ok (.enter f (args.map a.eval)) w := by
  have h2 : fn.name ≠ "runtime.NumGoroutine" := by simpa using hname
  have h3 : fn.body ≠ none := fun h => by rw [h] at hb; cases hb
  simp [callFunc, hf, h2, h3]
 simp only [execOp, ho, resolve, Act.eval, Deferred.ofValue, Sem.run_bind, Sem.run_pure, Result.andThen_ok, invoke]
 exact h1
theorem OpT.call {f : FuncId} {fn : Func} {args : Array Operand} {ts : Array TypeId} {avs : List AV} {sub rest : List Ob} {R : AV → List Ob → Prop} (ho : o.op = .call { callee := .value (.func f), args, argTypes := ts }) (hN : ∀ d, o.dst = some d → d < N)
  (hf : P.funcs[f]? = some fn) (hb : fn.body.isSome = true) (hname : (fn.name == "runtime.NumGoroutine") = false) (hargs : s.evs args.toList = some avs) (hp : s.tab.Perm (sub ++ rest)) (hc : CallT P f avs sub R)
  (k : ∀ x tab', R x tab' → K (s.upd o.dst x (tab' ++ rest))) : OpT P N o s K := by
 intro F L a w hr
 unfold Oper.wp
 rw [run_callOp ho hf hb hname, Oper.upon_enter]
 obtain ⟨h1, h2⟩ := hr.evs hargs
 obtain ⟨L0, hh, hpL⟩ := hr.heap.perm hp
 obtain ⟨L1, L2, hh1, hh2, rfl⟩ := hh.split
 have hsame : Reg.same (L ++ F) (L1 ++ (L2 ++ F)) := by rw [← List.append_assoc]; exact perm_same hpL
 have hnd : ((L1 ++ (L2 ++ F)).map (·.1)).Nodup := by rw [← List.append_assoc]; exact ((List.Perm.append_right F hpL).map _).nodup_iff.1 hr.nodup
 have hlt : ∀ p ∈ L1 ++ (L2 ++ F), p.1 < w.heap.size := fun p hp => hr.lt p ((hsame p).2 hp)
 have hcall := hc (L2 ++ F) L1 w (args.toList.map a.eval) h1 (fun i v x hv hx => (h2 i v x hv hx).less fun b off => hsame.wr.2) (hh1.congr fun b off => hsame.wr.symm) hnd hlt
 have harr : (args.toList.map a.eval).toArray = args.map a.eval := by rw [← Array.toList_map]
 rw [harr] at hcall
 refine hcall.mono ?_
 rintro e w' ⟨v, x, tab', L', rfl, hR, hv, hh', hnd', hlt', hx⟩
 have hrest : HeapR w' (L' ++ (L2 ++ F)) rest L2 := by
  refine (hh2.congr fun b off => hsame.wr.symm).step hx (fun p hp' lim hm => ?_) (hx.frame _)
  rw [List.map_append, List.nodup_append] at hnd
  exact hnd.2.2 p.1 (List.mem_map.2 ⟨(p.1, lim), hm, rfl⟩) p.1 (List.mem_map_of_mem (List.mem_append.2 (.inl hp'))) rfl
 have hxL : Ext L w (L' ++ L2) w' := (hx.frame L2).congr (fun p => hpL.mem_iff.symm) (fun _ => Iff.rfl)
 refine ⟨L' ++ L2, _, k x tab' hR, hr.next hxL hN (by rw [List.append_assoc]; exact hv) (by rw [List.append_assoc]; exact hh'.join hrest) (by rw [List.append_assoc]; exact hnd') (fun p hp' => ?_), hxL⟩
 rcases List.mem_append.1 hp' with h | h
 ·exact hlt' p (List.mem_append.2 (.inl h))
 ·exact hlt' p (List.mem_append.2 (.inr (List.mem_append.2 (.inl h))))
end
end Go.Rv
namespace Go.Rv
def TL' (P : Program) (N : Nat) (ops : Array Oper) (l : List Oper) (s : St) (Q : Exit → St → Prop) : Prop :=
 ∀ (js : List Nat), js.map (ops[·]?) = l.map some → TO P N ops js s Q
section
variable {P : Program} {N : Nat} {s s' : St} {Q : Exit → St → Prop} {ops : Array Oper}
theorem T.rL {id : Nat} (h : TL' P N ops ops.toList s Q) : T P N (.region id ops false) s Q := by
 refine T.region (h _ ?_)
 apply List.ext_getElem?
 intro i
 by_cases hi : i < ops.size
 ·simp [hi]
 ·simp [hi]
theorem TL'.nil (h : Q .normal s) : TL' P N ops [] s Q := by
 intro js hj
 cases js with
 | nil => exact TO.nil h
 | cons j js => simp at hj
theorem TL'.step {o : Oper} {l : List Oper} (hw : Wanted ops s o true) (h : OpT P N o s (fun s' => TL' P N ops l s' Q)) : TL' P N ops (o :: l) s Q := by
 intro js hj
 cases js with
 | nil => simp at hj
 | cons j js =>
  simp only [List.map_cons, List.cons.injEq] at hj
  refine TO.step hj.1 hw ?_
  intro F L a w hr
  exact upon_mono (h F L a w hr) (fun a' w' ⟨L', s', k, r, x⟩ => ⟨L', s', k js hj.2, r, x⟩) (fun _ _ _ h => h)
theorem TL'.pass {o : Oper} {l : List Oper} (hw : Wanted ops s o false) (hN : ∀ d, o.dst = some d → d < N) (h : TL' P N ops l (s.putO o.dst .any) Q) : TL' P N ops (o :: l) s Q := by
 intro js hj
 cases js with
 | nil => simp at hj
 | cons j js =>
  simp only [List.map_cons, List.cons.injEq] at hj
  exact TO.pass hj.1 hw hN (h js hj.2)
theorem TL'.turn {l : List Oper} (hs : Turn s s') (h : TL' P N ops l s' Q) : TL' P N ops l s Q := fun js hj => TO.by_turn hs (h js hj)
theorem TL'.split {l : List Oper} {d : Nat} {b : Bool} (hd : s.slots.lookup d = some (.bool b)) (ht : b = true → TL' P N ops l (s.put d (.bool true)) Q) (hf : b = false → TL' P N ops l (s.put d (.bool false)) Q) : TL' P N ops l s Q :=
 fun js hj => TO.split hd (fun h => ht h js hj) (fun h => hf h js hj)
theorem dlt {o : Oper} {d N : Nat} (h : o.dst = some d) (hd : d < N) : ∀ d', o.dst = some d' → d' < N := fun d' h' => by
 rw [h] at h'
 cases h'
 exact hd
/- Where a piece of code has ended, what is next. -/
theorem tN {next : St → Prop} (h : next s) : thenS next Q .normal s := h
theorem thenS_exit {next : St → Prop} {id : Nat} (h : Q (.exit id) s) : thenS next Q (.exit id) s := h
theorem thenS_ret {next : St → Prop} (h : Q .ret s) : thenS next Q .ret s := h
theorem inBlock_normal {id : Nat} (h : Q .normal s) : inBlockS id Q .normal s := h
theorem inBlock_ret {id : Nat} (h : Q .ret s) : inBlockS id Q .ret s := h
theorem inBlock_exit {id : Nat} (h : Q .normal s) : inBlockS id Q (.exit id) s := by simp only [inBlockS, if_true]; exact h
theorem inBlock_other {id id' : Nat} (hne : id' ≠ id) (h : Q (.exit id') s) : inBlockS id Q (.exit id') s := by simp only [inBlockS, if_neg hne]; exact h
end
def Sub (sl sl' : List (Nat × AV)) : Prop := ∀ t v, sl'.lookup t = some v → sl.lookup t = some v
theorem Sub.nil (sl : List (Nat × AV)) : Sub sl [] := fun t v h => by simp at h
theorem Sub.cons {sl sl' : List (Nat × AV)} {t : Nat} {v : AV} (h : sl.lookup t = some v) (k : Sub sl sl') : Sub sl ((t, v) :: sl') := fun u x hu => by
 simp only [List.lookup_cons] at hu
 split at hu
 ·rename_i he; simp at he hu; subst he; subst hu; exact h
 ·exact k u x hu
theorem Turn.sub {s : St} {sl' : List (Nat × AV)} (h : Sub s.slots sl') : Turn s ⟨sl', s.tab⟩ := Turn.forget sl' h
end Go.Rv
namespace Go.Rv
def One (P : Program) (N : Nat) (ops : Array Oper) (i : Nat) (s : St) (K : St → Prop) : Prop :=
 ∀ F L a w, Rel w N F L s a → wpOp P ops (fun _ _ _ => False) i (fun a' w' => ∃ L' s', K s' ∧ Rel w' N F L' s' a' ∧ Ext L w L' w') a w
section
variable {P : Program} {N : Nat} {s : St} {ops : Array Oper}
theorem One.step {i : Nat} {o : Oper} {K : St → Prop} (ho : ops[i]? = some o) (hw : Wanted ops s o true) (h : OpT P N o s K) : One P N ops i s K := by
 intro F L a w hr
 simp only [wpOp, ho, hw.eq hr, if_true]
 exact .inl (h F L a w hr)
theorem One.pass {i : Nat} {o : Oper} {K : St → Prop} (ho : ops[i]? = some o) (hw : Wanted ops s o false) (hN : ∀ d, o.dst = some d → d < N) (h : K (s.putO o.dst .any)) : One P N ops i s K := by
 intro F L a w hr
 simp only [wpOp, ho, hw.eq hr, Bool.false_eq_true, if_false]
 exact ⟨L, _, h, hr.put hN (.any _), Ext.refl _ _⟩
theorem wpOp_all {i : Nat} {a : Act} {w : World} {K K' : Act → World → Prop} {Q Q' : Exit → Act → World → Prop} (h : ∀ a w, K a w → K' a w) (hq : ∀ e a w, Q e a w → Q' e a w) (hh : wpOp P ops Q i K a w) : wpOp P ops Q' i K' a w := by
 unfold wpOp at hh ⊢
 cases ho : ops[i]? with
 | none => simp only [ho] at hh ⊢; exact h _ _ hh
 | some o =>
  simp only [ho] at hh ⊢
  split
  ·rename_i hw
   rw [if_pos hw] at hh
   rcases hh with hh | ⟨hh, a0, w0, h0⟩
   ·exact .inl (upon_mono hh h hq)
   ·exact .inr ⟨hh, a0, w0, hq _ _ _ h0⟩
  ·rename_i hw
   rw [if_neg hw] at hh
   exact h _ _ hh
theorem wpAny_all' {md : Region.Mode} {q q' : Exit → Act → World → Prop} (hq : ∀ e a w, q e a w → q' e a w) : ∀ (fuel : Nat) (listed : Array Bool) (a : Act) (w : World), wpAny P md ops q fuel listed a w → wpAny P md ops q' fuel listed a w := by
 intro fuel
 induction fuel with
 | zero => intro listed a w h; exact ⟨h.1, hq _ _ _ h.2⟩
 | succ fuel ih => intro listed a w h; exact ⟨fun hn => hq _ _ _ (h.1 hn), fun i hi => wpOp_all (ih _) hq (h.2 i hi)⟩
def TA (P : Program) (N : Nat) (ops : Array Oper) (Q : Exit → St → Prop) : Nat → Array Bool → St → Prop
 | 0, listed, s => Region.ready .any ops listed = [] ∧ Q .normal s
 | fuel + 1, listed, s => (Region.ready .any ops listed = [] → Q .normal s) ∧ ∀ i ∈ Region.ready .any ops listed, One P N ops i s (TA P N ops Q fuel (listed.setIfInBounds i true))
theorem TA.sound {Q : Exit → St → Prop} : ∀ (fuel : Nat) (listed : Array Bool) (s : St), TA P N ops Q fuel listed s → ∀ F L a w, Rel w N F L s a →
  wpAny P .any ops (fun e a' w' => ∃ L' s', Q e s' ∧ Rel w' N F L' s' a' ∧ Ext L w L' w') fuel listed a w := by
 intro fuel
 induction fuel with
 | zero => intro listed s h F L a w hr; exact ⟨h.1, L, s, h.2, hr, Ext.refl _ _⟩
 | succ fuel ih =>
  intro listed s h F L a w hr
  refine ⟨fun hn => ⟨L, s, h.1 hn, hr, Ext.refl _ _⟩, fun i hi => ?_⟩
  refine wpOp_all ?_ (fun _ _ _ h => h.elim) (h.2 i hi F L a w hr)
  rintro a' w' ⟨L', s', hk, hr', hx⟩
  have := ih _ s' hk F L' a' w' hr'
  exact wpAny_all' (fun e a2 w2 ⟨L2, s2, q, r, x⟩ => ⟨L2, s2, q, r, hx.trans x⟩) _ _ _ _ this
end
structure Ct where
 dst : Option Nat
 val : AV
 need : List (Nat × AV) := []
 objs : List (Nat × Ob) := []
 upd : List (Nat × Ob) := []
def Ct.go (c : Ct) (t : St) : St := ⟨(t.putO c.dst c.val).slots, c.upd.foldl (fun tab p => tab.set p.1 p.2) t.tab⟩
structure Ct.met (c : Ct) (t : St) : Prop where
 slots : ∀ p ∈ c.need, t.slots.lookup p.1 = some p.2
 objs : ∀ p ∈ c.objs, t.tab[p.1]? = some p.2
def Ct.ok (P : Program) (N : Nat) (ops : Array Oper) (i : Nat) (c : Ct) : Prop := ∀ t, c.met t → One P N ops i t (fun t' => t' = c.go t)
def Ct.meets (a b : Ct) : Bool :=
 (match a.dst with | some d => b.need.any (·.1 == d) || b.dst == some d | none => false) || (match b.dst with | some d => a.need.any (·.1 == d) | none => false) ||
 a.upd.any (fun p => b.objs.any (·.1 == p.1) || b.upd.any (·.1 == p.1)) || b.upd.any (fun p => a.objs.any (·.1 == p.1))
theorem go_lookup (c : Ct) (t : St) (d : Nat) : (c.go t).slots.lookup d = if c.dst = some d then some c.val else t.slots.lookup d := by
 cases hd : c.dst with
 | none => simp [Ct.go, St.putO, hd]
 | some e =>
  simp only [Ct.go, hd, St.putO, St.put, List.lookup_cons, Option.some.injEq]
  by_cases h : e = d
  ·subst h; simp
  ·rw [if_neg h]
   have : (d == e) = false := by simp; exact fun h' => h h'.symm
   rw [this]
theorem foldl_set_get : ∀ (u : List (Nat × Ob)) (tab : List Ob) (q : Nat), (∀ p ∈ u, p.1 ≠ q) → (u.foldl (fun tab p => tab.set p.1 p.2) tab)[q]? = tab[q]? := by
 intro u
 induction u with
 | nil => intro tab q _; rfl
 | cons p u ih =>
  intro tab q h
  simp only [List.foldl_cons]
  rw [ih _ q (fun x hx => h x (by simp [hx]))]
  exact List.getElem?_set_ne (h p (by simp))
theorem foldl_set_congr : ∀ (u : List (Nat × Ob)) (tab tab' : List Ob) (q : Nat), tab[q]? = tab'[q]? → (u.foldl (fun tab p => tab.set p.1 p.2) tab)[q]? = (u.foldl (fun tab p => tab.set p.1 p.2) tab')[q]? := by
 intro u
 induction u with
 | nil => intro tab tab' q h; exact h
 | cons p u ih =>
  intro tab tab' q h
  simp only [List.foldl_cons]
  refine ih _ _ q ?_
  rw [List.getElem?_set, List.getElem?_set]
  by_cases hp : p.1 = q
  ·subst hp
   simp only [if_true]
   have : (p.1 < tab.length) ↔ (p.1 < tab'.length) := by
    have one : ∀ (x y : List Ob), x[p.1]? = y[p.1]? → p.1 < x.length → p.1 < y.length := fun x y hxy hx => by
     rcases Nat.lt_or_ge p.1 y.length with h' | h'
     ·exact h'
     ·rw [List.getElem?_eq_none h', List.getElem?_eq_getElem hx] at hxy; cases hxy
    exact ⟨one _ _ h, one _ _ h.symm⟩
   by_cases h1 : p.1 < tab.length
   ·rw [if_pos h1, if_pos (this.1 h1)]
   ·rw [if_neg h1, if_neg (fun h' => h1 (this.2 h'))]
  ·rw [if_neg hp, if_neg hp]; exact h
def St.like (s t : St) : Prop := (∀ d, s.slots.lookup d = t.slots.lookup d) ∧ ∀ q : Nat, s.tab[q]? = t.tab[q]?
theorem St.like.tab {s t : St} (h : St.like s t) : s.tab = t.tab := List.ext_getElem? h.2
def runC (S : Nat → Bool) : List (Nat × Ct) → St → St
 | [], t => t
 | (i, c) :: l, t => runC S l (if S i then c.go t else t)
theorem runC_lookup (S S' : Nat → Bool) (d : Nat) : ∀ (l : List (Nat × Ct)) (t t' : St), t.slots.lookup d = t'.slots.lookup d → (∀ p ∈ l, p.2.dst = some d → S p.1 = S' p.1) → (runC S l t).slots.lookup d = (runC S' l t').slots.lookup d := by
 intro l
 induction l with
 | nil => intro t t' h _; exact h
 | cons p l ih =>
  intro t t' h hl
  obtain ⟨i, c⟩ := p
  refine ih _ _ ?_ (fun q hq => hl q (by simp [hq]))
  by_cases hd : c.dst = some d
  ·have := hl (i, c) (by simp) hd
   simp only at this
   rw [this]
   split
   ·rw [go_lookup, go_lookup, if_pos hd, if_pos hd]
   ·exact h
  ·split <;> split <;> simp [go_lookup, hd, h]
theorem runC_tab (S S' : Nat → Bool) (q : Nat) : ∀ (l : List (Nat × Ct)) (t t' : St), t.tab[q]? = t'.tab[q]? → (∀ p ∈ l, (∃ u ∈ p.2.upd, u.1 = q) → S p.1 = S' p.1) → (runC S l t).tab[q]? = (runC S' l t').tab[q]? := by
 intro l
 induction l with
 | nil => intro t t' h _; exact h
 | cons p l ih =>
  intro t t' h hl
  obtain ⟨i, c⟩ := p
  refine ih _ _ ?_ (fun q hq => hl q (by simp [hq]))
  by_cases hd : ∃ u ∈ c.upd, u.1 = q
  ·have := hl (i, c) (by simp) hd
   simp only at this
   rw [this]
   split
   ·exact foldl_set_congr _ _ _ _ h
   ·exact h
  ·have hne : ∀ u ∈ c.upd, u.1 ≠ q := fun u hu he => hd ⟨u, hu, he⟩
   split <;> split <;> simp [Ct.go, foldl_set_get _ _ _ hne, h]
theorem runC_congr (S S' : Nat → Bool) : ∀ (l : List (Nat × Ct)) (t : St), (∀ p ∈ l, S p.1 = S' p.1) → runC S l t = runC S' l t := by
 intro l
 induction l with
 | nil => intro t _; rfl
 | cons p l ih =>
  intro t h
  obtain ⟨i, c⟩ := p
  simp only [runC]
  rw [h (i, c) (by simp)]
  exact ih _ (fun q hq => h q (by simp [hq]))
def masksOk (ops : Array Oper) (ms : List Nat) : Bool :=
 (List.range ops.size).all fun j => (List.range j).all fun i => !(ms.getD j 0).testBit i ||
  ((ops[j]?).map fun o => o.after.toList.any fun e => Region.binds .any e && decide (e.on < j) && (e.on == i || (decide (i < e.on) && (ms.getD e.on 0).testBit i))).getD false
def edgesOk (ops : Array Oper) : Bool := (List.range ops.size).all fun j => ((ops[j]?).map fun o => o.after.toList.all fun e => !Region.binds .any e || decide (e.on < j)).getD true
def apartOk (ms : List Nat) (cs : List Ct) : Bool :=
 (List.range cs.length).all fun j => (List.range j).all fun i => (ms.getD j 0).testBit i || !(cs.getD i ⟨none, .any, [], [], []⟩).meets (cs.getD j ⟨none, .any, [], [], []⟩)
section
variable {P : Program} {N : Nat} {ops : Array Oper}
def Closed (ops : Array Oper) (listed : Array Bool) : Prop := ∀ j o, ops[j]? = some o → listed.getD j false = true → ∀ e ∈ o.after, Region.binds .any e = true → listed.getD e.on false = true
theorem masks_listed {ms : List Nat} (hm : masksOk ops ms = true) {listed : Array Bool} (hc : Closed ops listed) : ∀ (j : Nat), (∀ o, ops[j]? = some o → ∀ e ∈ o.after, Region.binds .any e = true → listed.getD e.on false = true) →
  ∀ i, i < j → j < ops.size → (ms.getD j 0).testBit i = true → listed.getD i false = true := by
 intro j
 induction j using Nat.strongRecOn with
 | _ j ih =>
  intro hj i hi hjs ht
  simp only [masksOk, List.all_eq_true, List.mem_range] at hm
  have h := hm j hjs i hi
  rw [ht] at h
  simp only [Bool.not_true, Bool.false_or] at h
  have ho : ops[j]? = some ops[j] := by simp [hjs]
  rw [ho] at h
  simp only [Option.map_some, Option.getD_some, List.any_eq_true, Bool.and_eq_true, Bool.or_eq_true, beq_iff_eq, decide_eq_true_eq] at h
  obtain ⟨e, he, ⟨hb, hlt⟩, h⟩ := h
  have hle := hj _ ho e (by simpa using he) hb
  rcases h with h | ⟨hei, h⟩
  ·rw [← h]; exact hle
  ·exact ih e.on hlt (fun o hoe e' he' hb' => hc e.on o hoe hle e' he' hb') i hei (Nat.lt_trans hlt hjs) h
inductive Certs (P : Program) (N : Nat) (ops : Array Oper) : Nat → St → List Ct → St → Prop
 | nil (i : Nat) (t : St) : Certs P N ops i t [] t
 | cons {i : Nat} {t t' : St} {c : Ct} {cs : List Ct} (hok : Ct.ok P N ops i c) (hm : c.met t) (h : Certs P N ops (i + 1) (c.go t) cs t') : Certs P N ops i t (c :: cs) t'
def tag : Nat → List Ct → List (Nat × Ct)
 | _, [] => []
 | i, c :: cs => (i, c) :: tag (i + 1) cs
theorem mem_tag : ∀ (cs : List Ct) (i : Nat) (p : Nat × Ct), p ∈ tag i cs ↔ i ≤ p.1 ∧ cs[p.1 - i]? = some p.2 := by
 intro cs
 induction cs with
 | nil => intro i p; simp [tag]
 | cons c cs ih =>
  intro i p
  simp only [tag, List.mem_cons, ih]
  constructor
  ·rintro (rfl | ⟨h1, h2⟩)
   ·simp
   ·refine ⟨by omega, ?_⟩
    have : p.1 - i = (p.1 - (i + 1)) + 1 := by omega
    rw [this]; simpa using h2
  ·rintro ⟨h1, h2⟩
   by_cases h : p.1 = i
   ·left
    rw [h] at h2
    simp at h2
    exact Prod.ext h h2.symm
   ·right
    refine ⟨by omega, ?_⟩
    have : p.1 - i = (p.1 - (i + 1)) + 1 := by omega
    rw [this] at h2
    simpa using h2
theorem Certs.all {i : Nat} {t t' : St} {cs : List Ct} (h : Certs P N ops i t cs t') : t' = runC (fun _ => true) (tag i cs) t ∧ ∀ j c, cs[j]? = some c → Ct.ok P N ops (i + j) c ∧ c.met (runC (fun k => decide (k < i + j)) (tag i cs) t) := by
 induction h with
 | nil i t => exact ⟨rfl, fun j c h => by simp at h⟩
 | cons hok hm h ih =>
  rename_i i t t' c cs
  refine ⟨by simpa [tag, runC] using ih.1, fun j c' hj => ?_⟩
  cases j with
  | zero =>
   simp at hj; subst hj
   refine ⟨hok, ?_⟩
   have : runC (fun k => decide (k < i + 0)) (tag i (c :: cs)) t = t := by
    have gen : ∀ (l : List (Nat × Ct)) (t : St), (∀ p ∈ l, i ≤ p.1) → runC (fun k => decide (k < i + 0)) l t = t := by
     intro l
     induction l with
     | nil => intro t _; rfl
     | cons p l ihl =>
      intro t hp
      obtain ⟨k, c2⟩ := p
      have := hp (k, c2) (by simp)
      simp only [runC, Nat.add_zero]
      rw [if_neg (by simp; omega)]
      exact ihl t (fun q hq => hp q (by simp [hq]))
    exact gen _ t (fun p hp => ((mem_tag _ _ _).1 hp).1)
   rw [this]; exact hm
  | succ j =>
   obtain ⟨h1, h2⟩ := ih.2 j c' (by simpa using hj)
   have e : i + (j + 1) = i + 1 + j := by omega
   rw [e]
   refine ⟨h1, ?_⟩
   simp only [tag, runC]
   rw [if_pos (by simp; omega)]
   exact h2
theorem apart_meets {ms : List Nat} {cs : List Ct} (h : apartOk ms cs = true) {i j : Nat} {a b : Ct} (hij : i < j) (ha : cs[i]? = some a) (hb : cs[j]? = some b) (hn : (ms.getD j 0).testBit i = false) : a.meets b = false := by
 have hj : j < cs.length := (List.getElem?_eq_some_iff.1 hb).1
 simp only [apartOk, List.all_eq_true, List.mem_range] at h
 have := h j hj i hij
 rw [hn, List.getD, List.getD, ha, hb] at this
 simpa using this
theorem meets_false {a b : Ct} (h : a.meets b = false) : (∀ d, a.dst = some d → (∀ p ∈ b.need, p.1 ≠ d) ∧ b.dst ≠ some d) ∧ (∀ d, b.dst = some d → ∀ p ∈ a.need, p.1 ≠ d) ∧
  (∀ p ∈ a.upd, (∀ q ∈ b.objs, q.1 ≠ p.1) ∧ ∀ q ∈ b.upd, q.1 ≠ p.1) ∧ ∀ p ∈ b.upd, ∀ q ∈ a.objs, q.1 ≠ p.1 := by
 simp only [Ct.meets, Bool.or_eq_false_iff] at h
 obtain ⟨⟨⟨h1, h2⟩, h3⟩, h4⟩ := h
 refine ⟨fun d hd => ?_, fun d hd => ?_, fun p hp => ?_, fun p hp q hq he => ?_⟩
 ·rw [hd] at h1
  simp only [Bool.or_eq_false_iff] at h1
  refine ⟨fun p hp he => ?_, fun he => ?_⟩
  ·have := List.any_eq_false.1 h1.1 p hp; simp [he] at this
  ·have := h1.2; simp [he] at this
 ·rw [hd] at h2
  intro p hp he
  have := List.any_eq_false.1 h2 p hp; simp [he] at this
 ·have h3 := List.any_eq_false.1 h3 p hp
  simp only [Bool.or_eq_true, not_or] at h3
  refine ⟨fun q hq he => h3.1 (List.any_eq_true.2 ⟨q, hq, by simp [he]⟩), fun q hq he => h3.2 (List.any_eq_true.2 ⟨q, hq, by simp [he]⟩)⟩
 ·have h4 := List.any_eq_false.1 h4 p hp
  exact h4 (List.any_eq_true.2 ⟨q, hq, by simp [he]⟩)
theorem runC_succ (cs : List Ct) : ∀ (i k : Nat) (t : St) (c : Ct), cs[k]? = some c → runC (fun j => decide (j < i + k + 1)) (tag i cs) t = c.go (runC (fun j => decide (j < i + k)) (tag i cs) t) := by
 induction cs with
 | nil => intro i k t c h; simp at h
 | cons c0 cs ih =>
  intro i k t c h
  have gen : ∀ (b : Nat) (l : List (Nat × Ct)) (t : St), (∀ p ∈ l, b ≤ p.1) → runC (fun j => decide (j < b)) l t = t := by
   intro b l
   induction l with
   | nil => intro t _; rfl
   | cons p l ihl =>
    intro t hp
    obtain ⟨q, c2⟩ := p
    have := hp (q, c2) (by simp)
    simp only [runC]
    rw [if_neg (by simp; omega)]
    exact ihl t (fun q hq => hp q (by simp [hq]))
  cases k with
  | zero =>
   simp at h; subst h
   simp only [tag, runC, Nat.add_zero]
   rw [if_pos (by simp), if_neg (by simp)]
   rw [gen (i + 1) _ _ (fun p hp => ((mem_tag _ _ _).1 hp).1), gen i _ _ (fun p hp => by have := ((mem_tag _ _ _).1 hp).1; omega)]
  | succ k =>
   simp only [tag, runC]
   rw [if_pos (decide_eq_true (by omega)), if_pos (decide_eq_true (by omega))]
   have := ih (i + 1) k (c0.go t) c (by simpa using h)
   have e1 : i + 1 + k + 1 = i + (k + 1) + 1 := by omega
   have e2 : i + 1 + k = i + (k + 1) := by omega
   rw [e1, e2] at this
   exact this
theorem getD_set_self' {listed : Array Bool} {i : Nat} (h : i < listed.size) : (listed.setIfInBounds i true).getD i false = true := by simp [Array.getD_eq_getD_getElem?, h]
theorem count_set {n i : Nat} {S S' : Nat → Bool} (hi : i < n) (h0 : S i = true) (h1 : S' i = false) (h : ∀ k, k ≠ i → S' k = S k) : (List.range n).countP S = (List.range n).countP S' + 1 := by
 induction n with
 | zero => omega
 | succ n ih =>
  rw [List.range_succ, List.countP_append, List.countP_append]
  by_cases hin : i = n
  ·subst hin
   have : (List.range i).countP S = (List.range i).countP S' := List.countP_congr (fun x hx => by rw [h x (by have := List.mem_range.1 hx; omega)])
   simp [this, h0, h1]
  ·have := ih (by omega)
   have hn : S' n = S n := h n (fun e => hin e.symm)
   simp [this, hn]
   omega
theorem T.draw {id : Nat} {s t s1 : St} {cs : List Ct} {ms : List Nat} {Q : Exit → St → Prop} (hmix : P.follows .mixedOrders = true) (hcs : Certs P N ops 0 s cs t) (hlen : cs.length = ops.size) (hed : edgesOk ops = true) (hm : masksOk ops ms = true) (ha : apartOk ms cs = true)
  (hs : Sub t.slots s1.slots) (ht : t.tab = s1.tab) (hq : ∀ u, Turn u s1 → Q .normal u) : T P N (.region id ops true) s Q := by
 obtain ⟨hfin, hall⟩ := hcs.all
 have hord : ∀ j o, ops[j]? = some o → ∀ e ∈ o.after, Region.binds .any e = true → e.on < j := by
  intro j o ho e he hb
  simp only [edgesOk, List.all_eq_true, List.mem_range] at hed
  have := hed j (Array.getElem?_eq_some_iff.1 ho).1
  rw [ho] at this
  simp only [Option.map_some, Option.getD_some, List.all_eq_true] at this
  have := this e (by simpa using he)
  rw [hb] at this
  simpa using this
 have hdrew : ∀ {F L : Reg} {a : Act} {w : World}, Rel w N F L s a → Rel w.drew N F L s a := fun {F L a w} hr => by
  have := hr.next (w' := w.drew) (o := none) (v := undef) (x := .any) (tab := s.tab) (Ext.drew L w) (fun d hd => by cases hd) (.any _) (hr.heap.step (Ext.drew [] w) (fun p _ l hm => by cases hm) (Ext.drew _ w)) hr.nodup (fun p hp => hr.lt p (List.mem_append.2 (.inl hp)))
  simpa [St.upd, St.putO, Act.put] using this
 intro F L a w hr
 refine wp_mono (wp_region_any (Q := fun e a' w' => ∃ L' s', Q e s' ∧ Rel w' N F L' s' a' ∧ Ext L w.drew L' w') hmix (TA.sound ops.size _ s ?_ F L a w.drew (hdrew hr))) (fun e a' w' ⟨L', s', q, r, x⟩ => ⟨L', s', q, r, (Ext.drew L w).trans x⟩)
 have least : ∀ (listed : Array Bool), listed.size = ops.size → Region.ready .any ops listed = [] → ∀ k, k < ops.size → listed.getD k false = true := by
  intro listed hsz hn k
  induction k using Nat.strongRecOn with
  | _ k ih =>
   intro hk
   cases hb : listed.getD k false with
   | true => rfl
   | false =>
    exfalso
    have hmem : k ∈ Region.ready .any ops listed := by
     rw [mem_ready]
     refine ⟨?_, ops[k], by simp [hk], fun e he hbi => ?_⟩
     ·have hk' : k < listed.size := by omega
      rw [Array.getD_eq_getD_getElem?, Array.getElem?_eq_getElem hk'] at hb ⊢
      simpa using hb
     ·have hlt := hord k ops[k] (by simp [hk]) e he hbi
      exact ih e.on hlt (by omega)
    rw [hn] at hmem
    cases hmem
 have finish : ∀ (listed : Array Bool) (u : St), u.like (runC (fun k => listed.getD k false) (tag 0 cs) s) → (∀ k, k < ops.size → listed.getD k false = true) → Q .normal u := by
  intro listed u hu hl
  have hall' : runC (fun k => listed.getD k false) (tag 0 cs) s = t := by
   rw [hfin]
   refine runC_congr _ _ _ _ (fun p hp => ?_)
   have := ((mem_tag cs 0 p).1 hp).2
   simp only [Nat.sub_zero] at this
   exact hl p.1 (by rw [← hlen]; exact (List.getElem?_eq_some_iff.1 this).1)
  rw [hall'] at hu
  refine hq u ?_
  have h1 : Turn u ⟨s1.slots, u.tab⟩ := Turn.forget s1.slots (fun d v hv => by rw [hu.1 d]; exact hs d v hv)
  rw [hu.tab, ht] at h1
  exact h1
 have key : ∀ (fuel : Nat) (listed : Array Bool) (u : St), listed.size = ops.size → Closed ops listed → u.like (runC (fun k => listed.getD k false) (tag 0 cs) s) → ((List.range ops.size).countP (fun k => !listed.getD k false) = fuel) → TA P N ops Q fuel listed u := by
  intro fuel
  induction fuel with
  | zero =>
   intro listed u hsz hc hu hn
   have hl : ∀ k, k < ops.size → listed.getD k false = true := by
    intro k hk
    have := List.countP_eq_zero.1 hn k (by simpa using hk)
    simpa using this
   refine ⟨?_, finish listed u hu hl⟩
   cases hr : Region.ready .any ops listed with
   | nil => rfl
   | cons j js =>
    have hj : j ∈ Region.ready .any ops listed := by rw [hr]; simp
    obtain ⟨h0, o, ho, _⟩ := mem_ready.1 hj
    have hjs := (Array.getElem?_eq_some_iff.1 ho).1
    have h1 := hl j hjs
    have hj' : j < listed.size := by omega
    rw [Array.getD_eq_getD_getElem?, Array.getElem?_eq_getElem hj'] at h0 h1
    simp at h0 h1
    rw [h0] at h1
    cases h1
  | succ fuel ih =>
   intro listed u hsz hc hu hn
   refine ⟨fun hr => finish listed u hu (least listed hsz hr), fun i hi => ?_⟩
   obtain ⟨h0, o, ho, hpre⟩ := mem_ready.1 hi
   have his := (Array.getElem?_eq_some_iff.1 ho).1
   have hi' : i < listed.size := by omega
   have hif : listed.getD i false = false := by
    rw [Array.getD_eq_getD_getElem?, Array.getElem?_eq_getElem hi'] at h0 ⊢
    simpa using h0
   have hci : cs[i]? = some cs[i] := by simp [hlen, his]
   obtain ⟨hok, hmet⟩ := hall i _ hci
   simp only [Nat.zero_add] at hok hmet
   generalize cs[i]'(by omega) = c at *
   have hpre' : ∀ o, ops[i]? = some o → ∀ e ∈ o.after, Region.binds .any e = true → listed.getD e.on false = true := fun o' ho' e he hb => by
    rw [ho] at ho'; cases ho'; exact hpre e he hb
   -- of those that meet it the ones ahead are listed, the ones behind are not
   have ahead : ∀ k ck, cs[k]? = some ck → k < i → listed.getD k false = false → ck.meets c = false := by
    intro k ck hk hki hkl
    refine apart_meets ha hki hk hci ?_
    cases hb : (ms.getD i 0).testBit k with
    | false => rfl
    | true => rw [masks_listed hm hc i hpre' k hki his hb] at hkl; cases hkl
   have behind : ∀ k ck, cs[k]? = some ck → i < k → listed.getD k false = true → c.meets ck = false := by
    intro k ck hk hik hkl
    refine apart_meets ha hik hci hk ?_
    cases hb : (ms.getD k 0).testBit i with
    | false => rfl
    | true =>
     have := masks_listed hm hc k (fun o' ho' e he hb => hc k o' ho' hkl e he hb) i hik (by rw [← hlen]; exact (List.getElem?_eq_some_iff.1 hk).1) hb
     rw [this] at hif; cases hif
   have agree : ∀ (p : Nat × Ct), p ∈ tag 0 cs → (∀ hk : p.1 ≠ i, (p.1 < i → p.2.meets c = true) ∧ (i < p.1 → c.meets p.2 = true)) → listed.getD p.1 false = decide (p.1 < i) := by
    intro p hp hmt
    have hk := ((mem_tag cs 0 p).1 hp).2
    simp only [Nat.sub_zero] at hk
    by_cases hpi : p.1 = i
    ·rw [hpi, hif]; simp
    ·obtain ⟨h1, h2⟩ := hmt hpi
     by_cases hlt : p.1 < i
     ·simp only [hlt, decide_true]
      cases hb : listed.getD p.1 false with
      | true => rfl
      | false => rw [ahead p.1 p.2 hk hlt hb] at h1; exact absurd (h1 hlt) (by simp)
     ·simp only [hlt, decide_false]
      cases hb : listed.getD p.1 false with
      | false => rfl
      | true => rw [behind p.1 p.2 hk (by omega) hb] at h2; exact absurd (h2 (by omega)) (by simp)
   have meets_of : ∀ {a b : Ct}, (∃ d, a.dst = some d ∧ ((∃ p ∈ b.need, p.1 = d) ∨ b.dst = some d)) ∨ (∃ d, b.dst = some d ∧ ∃ p ∈ a.need, p.1 = d) ∨ (∃ p ∈ a.upd, (∃ q ∈ b.objs, q.1 = p.1) ∨ ∃ q ∈ b.upd, q.1 = p.1) ∨ (∃ p ∈ b.upd, ∃ q ∈ a.objs, q.1 = p.1) → a.meets b = true := by
    intro a b h
    cases hb : a.meets b with
    | true => rfl
    | false =>
     exfalso
     obtain ⟨m1, m2, m3, m4⟩ := meets_false hb
     rcases h with ⟨d, hd, ⟨p, hp, he⟩ | he⟩ | ⟨d, hd, p, hp, he⟩ | ⟨p, hp, ⟨q, hq, he⟩ | ⟨q, hq, he⟩⟩ | ⟨p, hp, q, hq, he⟩
     ·exact (m1 d hd).1 p hp he
     ·exact (m1 d hd).2 he
     ·exact m2 d hd p hp he
     ·exact (m3 p hp).1 q hq he
     ·exact (m3 p hp).2 q hq he
     ·exact m4 p hp q hq he
   have slotAt : ∀ d, (∃ p ∈ c.need, p.1 = d) ∨ c.dst = some d → (runC (fun k => listed.getD k false) (tag 0 cs) s).slots.lookup d = (runC (fun k => decide (k < i)) (tag 0 cs) s).slots.lookup d := by
    intro d hd
    refine runC_lookup _ _ d _ _ _ rfl (fun p hp hpd => agree p hp (fun _ => ⟨fun _ => meets_of (.inl ⟨d, hpd, hd⟩), fun _ => ?_⟩))
    rcases hd with hd | hd
    ·exact meets_of (.inr (.inl ⟨d, hpd, hd⟩))
    ·exact meets_of (.inl ⟨d, hd, .inr hpd⟩)
   have tabAt : ∀ q : Nat, (∃ p ∈ c.objs, p.1 = q) ∨ (∃ p ∈ c.upd, p.1 = q) → (runC (fun k => listed.getD k false) (tag 0 cs) s).tab[q]? = (runC (fun k => decide (k < i)) (tag 0 cs) s).tab[q]? := by
    intro q hd
    refine runC_tab _ _ q _ _ _ rfl (fun p hp hpd => agree p hp (fun _ => ?_))
    obtain ⟨x, hx, hxq⟩ := hpd
    rcases hd with ⟨y, hy, hyq⟩ | ⟨y, hy, hyq⟩
    ·exact ⟨fun _ => meets_of (.inr (.inr (.inl ⟨x, hx, .inl ⟨y, hy, by omega⟩⟩))), fun _ => meets_of (.inr (.inr (.inr ⟨x, hx, y, hy, by omega⟩)))⟩
    ·exact ⟨fun _ => meets_of (.inr (.inr (.inl ⟨x, hx, .inr ⟨y, hy, by omega⟩⟩))), fun _ => meets_of (.inr (.inr (.inl ⟨y, hy, .inr ⟨x, hx, by omega⟩⟩)))⟩
   have hmetu : c.met u := by
    refine ⟨fun p hp => ?_, fun p hp => ?_⟩
    ·rw [hu.1, slotAt p.1 (.inl ⟨p, hp, rfl⟩)]
     exact hmet.slots p hp
    ·rw [hu.2, tabAt p.1 (.inl ⟨p, hp, rfl⟩)]
     exact hmet.objs p hp
   have hone := hok u hmetu
   intro F L a w hr
   refine wpOp_all ?_ (fun _ _ _ h => h) (hone F L a w hr)
   rintro a' w' ⟨L', s', rfl, hr', hx⟩
   refine ⟨L', _, ?_, hr', hx⟩
   have hother : ∀ k, k ≠ i → (listed.setIfInBounds i true).getD k false = listed.getD k false := fun k hk => _root_.Go.getD_set_ne false (fun h => hk h.symm)
   refine ih (listed.setIfInBounds i true) (c.go u) (by simpa using hsz) ?_ ?_ ?_
   ·intro j oj hoj hj e he hb
    by_cases hji : j = i
    ·subst hji
     exact getD_set_true (hpre' oj hoj e he hb)
    ·rw [hother j hji] at hj
     exact getD_set_true (hc j oj hoj hj e he hb)
   ·have hS : ∀ (p : Nat × Ct), p ∈ tag 0 cs → (∀ hk : p.1 ≠ i, (p.1 < i → p.2.meets c = true) ∧ (i < p.1 → c.meets p.2 = true)) → (listed.setIfInBounds i true).getD p.1 false = decide (p.1 < 0 + i + 1) := by
     intro p hp hmt
     by_cases hpi : p.1 = i
     ·rw [hpi, getD_set_self' hi', decide_eq_true (show i < 0 + i + 1 by omega)]
     ·rw [hother p.1 hpi, agree p hp hmt]
      by_cases h : p.1 < i
      ·rw [decide_eq_true h, decide_eq_true (show p.1 < 0 + i + 1 by omega)]
      ·rw [decide_eq_false h, decide_eq_false (show ¬ p.1 < 0 + i + 1 by omega)]
    have hsucc := runC_succ cs 0 i s c hci
    simp only [Nat.zero_add] at hsucc hS
    refine ⟨fun d => ?_, fun q => ?_⟩
    ·rw [go_lookup]
     by_cases hd : c.dst = some d
     ·rw [if_pos hd]
      have e1 : (runC (fun k => (listed.setIfInBounds i true).getD k false) (tag 0 cs) s).slots.lookup d = (runC (fun k => decide (k < i + 1)) (tag 0 cs) s).slots.lookup d :=
       runC_lookup _ _ d _ _ _ rfl (fun p hp hpd => hS p hp (fun _ => ⟨fun _ => meets_of (.inl ⟨d, hpd, .inr hd⟩), fun _ => meets_of (.inl ⟨d, hd, .inr hpd⟩)⟩))
      rw [e1, hsucc, go_lookup, if_pos hd]
     ·rw [if_neg hd, hu.1]
      refine (runC_lookup _ _ d _ _ _ rfl (fun p hp hpd => ?_))
      have hpi : p.1 ≠ i := fun h => by
       have hk := ((mem_tag cs 0 p).1 hp).2
       simp only [Nat.sub_zero, h] at hk
       rw [hci] at hk
       cases hk
       exact hd hpd
      rw [hother p.1 hpi]
    ·by_cases hq' : ∃ p ∈ c.upd, p.1 = q
     ·have e1 : (runC (fun k => (listed.setIfInBounds i true).getD k false) (tag 0 cs) s).tab[q]? = (runC (fun k => decide (k < i + 1)) (tag 0 cs) s).tab[q]? :=
       runC_tab _ _ q _ _ _ rfl (fun p hp hpd => hS p hp (fun _ => by
        obtain ⟨x, hx, hxq⟩ := hpd
        obtain ⟨y, hy, hyq⟩ := hq'
        exact ⟨fun _ => meets_of (.inr (.inr (.inl ⟨x, hx, .inr ⟨y, hy, by omega⟩⟩))), fun _ => meets_of (.inr (.inr (.inl ⟨y, hy, .inr ⟨x, hx, by omega⟩⟩)))⟩))
      rw [e1, hsucc]
      refine foldl_set_congr _ _ _ _ ?_
      rw [hu.2, tabAt q (.inr hq')]
     ·have e2 : (c.go u).tab[q]? = u.tab[q]? := foldl_set_get _ _ _ (fun p hp he => hq' ⟨p, hp, he⟩)
      rw [e2, hu.2]
      refine (runC_tab _ _ q _ _ _ rfl (fun p hp hpd => ?_))
      have hpi : p.1 ≠ i := fun h => by
       have hk := ((mem_tag cs 0 p).1 hp).2
       simp only [Nat.sub_zero, h] at hk
       rw [hci] at hk
       cases hk
       exact hq' hpd
      rw [hother p.1 hpi]
   ·have := count_set (n := ops.size) (i := i) (S := fun k => !listed.getD k false) (S' := fun k => !(listed.setIfInBounds i true).getD k false) his (by simp only [hif]; rfl) (by simp only [getD_set_self' hi']; rfl) (fun k hk => by simp only [hother k hk])
    omega
 have hrep : ∀ k, (Array.replicate ops.size false).getD k false = false := fun k => by
  rw [Array.getD_eq_getD_getElem?, Array.getElem?_replicate]
  split <;> rfl
 refine key _ _ s (by simp) (fun j o _ hl => by rw [hrep j] at hl; cases hl) ?_ ?_
 ·have gen : ∀ (l : List (Nat × Ct)) (t : St), runC (fun k => (Array.replicate ops.size false).getD k false) l t = t := by
   intro l
   induction l with
   | nil => intro t; rfl
   | cons p l ih =>
    intro t
    obtain ⟨k, c⟩ := p
    simp only [runC]
    rw [if_neg (by rw [hrep k]; simp)]
    exact ih t
  rw [gen _ s]
  exact ⟨fun _ => rfl, fun _ => rfl⟩
 ·have : (List.range ops.size).countP (fun k => !(Array.replicate ops.size false).getD k false) = (List.range ops.size).length := List.countP_eq_length.2 (fun k _ => by simp only [hrep k]; rfl)
  rw [this, List.length_range]
end
end Go.Rv
