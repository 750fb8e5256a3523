/- A LOGIC OF ABSTRACT STATES OVER THE MODEL, part M: slices whose elements are written: append, elements' addresses, loads and stores through them, and how they come to be read only. -/
import Derived.Test.YtbepeoipaiahgaaRvK
import Derived.Test.YtbepeoipaiahgaaRvL
namespace Go.Rv

section
variable {P : Program} {N : Nat} {s : St} {o : Oper} {K : St → Prop}

theorem Turn.nilX {s : St} (e : TypeId) (esz : Nat) : Turn s ⟨s.slots, .arrX (.slice none 0 0) e esz 0 [] :: s.tab⟩ := fun N F L a w hr =>
  ⟨L, ⟨hr.defers, hr.size, hr.slot, by have := HeapR.cons _ _ _ _ (ObR.arrX0 (w := w) (M := L ++ F) none e esz) hr.heap; simpa using this, hr.nodup, hr.lt⟩, Ext.refl _ _⟩
theorem ObR.lenX {w : World} {M : Reg} {v : Value} {e : TypeId} {esz lo : Nat} {elems : List (List DC)} {r : Reg} (h : ObR w M (.arrX v e esz lo elems) r) : ∃ a c, v = .slice a elems.length c := by
  cases h with
  | arrX0 a => exact ⟨a, 0, rfl⟩
  | arrX g cap => exact ⟨_, cap, rfl⟩
theorem OpT.lenXM {α : Type} {t : TypeId} {e e' : TypeId} {x : Operand} {v : Value} {i esz lo : Nat} {xs : List α} {f : α → List DC} (ho : o.op = .call { callee := .builtin .len, args := #[x], argTypes := #[t] }) (hN : ∀ d, o.dst = some d → d < N) (ht : P.underlying t = some (.slice e))
    (hx : s.ev x = some (.c (.ex v))) (hi : s.tab[i]? = some (.arrX v e' esz lo (xs.map f))) (k' : K (s.putO o.dst (.int .i64 xs.length))) : OpT P N o s K :=
  OpT.still _ hN (fun F L a w hr => by
    obtain ⟨r1, r2, h1, h2, hp⟩ := hr.heap.get hi
    obtain ⟨ad, c, rfl⟩ := h1.lenX
    refine ⟨.int .i64 xs.length, ?_, .c _ _ (.ex _ rfl)⟩
    simp [execOp, ho, resolve, hr.exact hx, invoke, builtin, Builtin.len_, run_underlying ht, goInt]) k'

theorem fresh_ownX {w : World} {M : Reg} {e : TypeId} {z : Value} {size lo : Nat} {elems ys : List (List DC)} {olds news : List Value} {cap : Nat} (hz : z.cells.size = size) (hlo : olds.length = elems.length * size) (hl : news.length = ys.length * size)
    (hzo : ∀ x ∈ elems, x.length = size) (hzy : ∀ x ∈ ys, x.length = size) (h63 : elems.length + ys.length ≤ maxLen) (hloe : lo ≤ elems.length)
    {M' : Reg} (hM : Ext M w M' (w.drew.alloc (.cells (olds.toArray ++ news.toArray ++ Builtin.zeroCells z.cells (grownCap w (elems.length + ys.length) cap e - (elems.length + ys.length))) e)))
    (hnew : ∀ off, off < lo * size → ¬ Wr M' w.heap.size off) (ho : RepL w M olds elems.flatten) (hn : RepL w M news ys.flatten) :
    ObR (w.drew.alloc (.cells (olds.toArray ++ news.toArray ++ Builtin.zeroCells z.cells (grownCap w (elems.length + ys.length) cap e - (elems.length + ys.length))) e)) M' (.arrX (.slice (some ⟨w.heap.size, 0, none⟩) (elems.length + ys.length) (grownCap w (elems.length + ys.length) cap e)) e size lo (elems ++ ys)) [(w.heap.size, lo * size)] := by
  have hge := grownCap_ge w (elems.length + ys.length) cap e
  have hle := grownCap_le_maxLen w (elems.length + ys.length) cap e h63
  have hlen : (elems ++ ys).length = elems.length + ys.length := List.length_append
  have key := ObR.arrX (w := w.drew.alloc (.cells (olds.toArray ++ news.toArray ++ Builtin.zeroCells z.cells (grownCap w (elems.length + ys.length) cap e - (elems.length + ys.length))) e)) (M := M') w.heap.size (grownCap w (elems.length + ys.length) cap e) _ e size lo (elems ++ ys) (heap_alloc_new w.drew _) (by rw [hlen]; omega) (by rw [hlen]; exact hge) hle ?_ ?_ hnew ?_
  · rw [hlen] at key; exact key
  · simp only [Array.size_append, List.size_toArray, size_zeroCells, hz, hlo, hl, ← Nat.add_mul]
    congr 1
    omega
  · intro x hx
    rcases List.mem_append.1 hx with h | h
    · exact hzo x h
    · exact hzy x h
  · have : (olds.toArray ++ news.toArray ++ Builtin.zeroCells z.cells (grownCap w (elems.length + ys.length) cap e - (elems.length + ys.length))).toList.take ((elems ++ ys).length * size) = olds ++ news := by
      rw [Array.toList_append, Array.toList_append, hlen, Nat.add_mul, ← hlo, ← hl, ← List.length_append]
      exact List.take_left
    rw [this, List.flatten_append]
    exact (ho.step hM).append (hn.step hM)

theorem OpT.appendX {x y : Operand} {t e : TypeId} {z : Value} {esz by_ lo : Nat} {full : Bool} {v : Value} {i : Nat} {elems ys : List (List DC)} (ho : o.op = .call { callee := .builtin .append, args := #[x, y], argTypes := #[t, t] }) (hN : ∀ d, o.dst = some d → d < N)
    (ht : P.underlying t = some (.slice e)) (hei : EInfo P e z esz by_) (hz : z.cells.size = esz) (hx : s.ev x = some (.c (.ex v))) (hi : s.tab[i]? = some (.arrX v e esz lo elems)) (hy : s.ev y = some (.sl full esz ys))
    (h63 : elems.length + ys.length ≤ maxLen) (hby : (elems.length + ys.length) * by_ ≤ 140737488355328)
    (k : ∀ v', K (s.upd o.dst (.c (.ex v')) (s.tab.set i (.arrX v' e esz lo (elems ++ ys))))) : OpT P N o s K := by
  intro F L a w hr
  have hv := hr.exact hx
  obtain ⟨r, R, hob, hwr, hnd, hlt, hdis, hgo⟩ := hr.touch hi
  obtain ⟨ay, cy, news, hvy, hzy, hln, hrn, hone, hpos⟩ := (hr.ev hy).cell.news
  have hrn' : RepL w (r ++ R) news ys.flatten := hrn.congr hwr
  have hfreshR : ∀ lim, (w.heap.size, lim) ∉ R := fun lim hl => by
    have : Wr (L ++ F) w.heap.size lim := (hwr _ _).1 (Wr.append.2 (.inr ⟨lim, hl, Nat.le_refl _⟩))
    obtain ⟨l2, hl2, _⟩ := this
    exact absurd (hr.lt _ hl2) (by simp)
  by_cases h0 : ys.length = 0
  · have hye : ys = [] := List.eq_nil_of_length_eq_zero h0
    subst hye
    have hle : ∃ b n c, v = .slice b n c ∧ n ≤ c := by cases hob with | arrX0 => exact ⟨_, _, _, rfl, Nat.le_refl _⟩ | arrX g cap cur _ _ _ _ hg _ hn => exact ⟨_, _, _, rfl, hn⟩
    obtain ⟨b, n, c, rfl, hnc⟩ := hle
    have hrun := run_appendOp (w := w) (w' := w) (a := a) ho hv hvy (run_append_zero ht hei b ay n c cy hnc)
    obtain ⟨L', h2, h3⟩ := hgo w r (.arrX (.slice b n c) e esz lo (elems ++ [])) o.dst (.slice b n c) (.c (.ex (.slice b n c))) ⟨Ext.refl _ _, hnd, hlt⟩ hN (by rw [List.append_nil]; exact hob) (.c _ _ (.ex _ rfl))
    unfold Oper.wp
    rw [hrun, Oper.upon_value]
    exact ⟨L', _, k _, h2, h3⟩
  · have hpos' : 0 < ys.length := by omega
    obtain ⟨ad, rfl, hnews⟩ := hpos hpos'
    cases hob with
    | arrX0 b =>
      have happ := run_append_fresh (w := w) (ty := o.type) ht hei b 0 0 [] (by simp) (fun _ => ⟨rfl, rfl⟩) (fun b _ j v hj => by simp at hj) ad ys.length cy news hln hnews hpos' (by omega) h63 hby
      have hrun := run_appendOp (a := a) ho hv hvy happ
      have hf : Fits w (w.drew.alloc (.cells (([] : List Value).toArray ++ news.toArray ++ Builtin.zeroCells z.cells (grownCap w (0 + ys.length) 0 e - (0 + ys.length))) e)) [] [(w.heap.size, 0 * esz)] :=
        ⟨(Ext.drew [] w).trans (Ext.alloc w.drew _ _), by simp, fun p hp => by simp at hp; subst hp; simp⟩
      obtain ⟨L', h2, h3⟩ := hgo _ _ (.arrX (.slice (some ⟨w.heap.size, 0, none⟩) (0 + ys.length) (grownCap w (0 + ys.length) 0 e)) e esz 0 ([] ++ ys)) o.dst (.slice (some ⟨w.heap.size, 0, none⟩) (0 + ys.length) (grownCap w (0 + ys.length) 0 e)) (.c (.ex _)) hf hN
        (fresh_ownX (elems := []) (olds := []) (cap := 0) (lo := 0) hz (by simp) hln (fun x hx => by simp at hx) hzy h63 (Nat.le_refl _) (hf.ext.frame R) (fun off hoff hw => by simp at hoff) RepL.nil hrn') (.c _ _ (.ex _ rfl))
      unfold Oper.wp
      rw [hrun, Oper.upon_value]
      exact ⟨L', _, k _, h2, h3⟩
    | arrX g cap cur _ _ _ _ hg hloe hn hm hcs hzo hnw hro =>
      have hglt := lt_of_block hg
      have hRg : ∀ lim, (g, lim) ∉ R := hdis (g, lo * esz) (by simp)
      by_cases hroom : elems.length + ys.length ≤ cap
      · obtain ⟨ii, hi1, hi2, hi3, hi4⟩ := hei
        subst hi3
        have hfit : elems.length * ii.size + news.length ≤ cur.size := by rw [hln, hcs, ← Nat.add_mul]; exact Nat.mul_le_mul_right _ hroom
        have happ := run_append_room (P := P) w t o.type e ii ht hi1 g elems.length cap cur hg ad ys.length cy news hln hnews hone hroom hfit
        have hrun := run_appendOp (a := a) ho hv hvy happ
        have hlele : lo * ii.size ≤ elems.length * ii.size := Nat.mul_le_mul_right _ hloe
        have hx1 : Ext [(g, lo * ii.size)] w [(g, lo * ii.size)] (w.setRow g (cur.toList.take (elems.length * ii.size) ++ news ++ cur.toList.drop (elems.length * ii.size + news.length)).toArray) :=
          Ext.setRow_from hg (Nat.le_refl _) (fun q hq => by
            rw [List.append_assoc, List.getElem?_append_left (by simp; omega), List.getElem?_take, if_pos (by omega)]
            simp)
        have hf : Fits w _ [(g, lo * ii.size)] [(g, lo * ii.size)] := ⟨hx1, by simp, fun p hp => by simp at hp; subst hp; simpa using hglt⟩
        have hxR := hx1.frame R
        have hlen : (elems ++ ys).length = elems.length + ys.length := List.length_append
        have hown' : ObR (w.setRow g (cur.toList.take (elems.length * ii.size) ++ news ++ cur.toList.drop (elems.length * ii.size + news.length)).toArray) ([(g, lo * ii.size)] ++ R) (.arrX (.slice (some ⟨g, 0, none⟩) (elems ++ ys).length cap) e ii.size lo (elems ++ ys)) [(g, lo * ii.size)] := by
          refine .arrX g cap _ e ii.size lo (elems ++ ys) (setRow_heap w g cur _ e _ hg) (by rw [hlen]; omega) (by rw [hlen]; exact hroom) hm ?_ ?_ ?_ ?_
          · simp only [List.size_toArray, List.length_append, List.length_take, List.length_drop, Array.length_toList]; omega
          · intro x hx; rcases List.mem_append.1 hx with h | h; (exact hzo x h); exact hzy x h
          · intro off hoff hw
            exact hnw off hoff (hxR.mono g off hglt hw)
          · have : (cur.toList.take (elems.length * ii.size) ++ news ++ cur.toList.drop (elems.length * ii.size + news.length)).toArray.toList.take ((elems ++ ys).length * ii.size) = cur.toList.take (elems.length * ii.size) ++ news := by
              have hl1 : (cur.toList.take (elems.length * ii.size) ++ news).length = (elems ++ ys).length * ii.size := by
                have hcur : cur.toList.length = cur.size := by simp
                rw [List.length_append, List.length_take, hcur, hlen, Nat.add_mul, hln]; omega
              rw [← hl1]
              exact List.take_left
            rw [this, List.flatten_append]
            exact (hro.step hxR).append (hrn'.step hxR)
        rw [hlen] at hown'
        obtain ⟨L', h2, h3⟩ := hgo _ _ (.arrX (.slice (some ⟨g, 0, none⟩) (elems.length + ys.length) cap) e ii.size lo (elems ++ ys)) o.dst (.slice (some ⟨g, 0, none⟩) (elems.length + ys.length) cap) (.c (.ex _)) hf hN hown' (.c _ _ (.ex _ rfl))
        unfold Oper.wp
        rw [hrun, Oper.upon_value]
        exact ⟨L', _, k _, h2, h3⟩
      · have holdlen : (cur.toList.take (elems.length * esz)).length = elems.length * esz := by
          have hcur : cur.toList.length = cur.size := by simp
          rw [List.length_take, hcur, hcs]
          exact Nat.min_eq_left (Nat.mul_le_mul_right _ hn)
        have happ := run_append_fresh (w := w) (ty := o.type) ht hei (some ⟨g, 0, none⟩) elems.length cap (cur.toList.take (elems.length * esz)) holdlen (fun h => by cases h) (fun b hb j v hj => by
          cases hb
          rw [addr_add, cell_of_row w g _ cur e _ hg, Nat.zero_add]
          rw [List.getElem?_take] at hj
          split at hj
          · simpa using hj
          · cases hj) ad ys.length cy news hln hnews hpos' (by omega) h63 hby
        have hrun := run_appendOp (a := a) ho hv hvy happ
        have hf : Fits w (w.drew.alloc (.cells ((cur.toList.take (elems.length * esz)).toArray ++ news.toArray ++ Builtin.zeroCells z.cells (grownCap w (elems.length + ys.length) cap e - (elems.length + ys.length))) e)) [(g, lo * esz)] [(w.heap.size, lo * esz)] :=
          ⟨((Ext.drew [] w).trans (Ext.alloc w.drew _ _)).ofNil, by simp, fun p hp => by simp at hp; subst hp; simp⟩
        obtain ⟨L', h2, h3⟩ := hgo _ _ (.arrX (.slice (some ⟨w.heap.size, 0, none⟩) (elems.length + ys.length) (grownCap w (elems.length + ys.length) cap e)) e esz lo (elems ++ ys)) o.dst (.slice (some ⟨w.heap.size, 0, none⟩) (elems.length + ys.length) (grownCap w (elems.length + ys.length) cap e)) (.c (.ex _)) hf hN
          (fresh_ownX hz holdlen hln hzo hzy h63 hloe (hf.ext.frame R) (fun off hoff hw => by
            rcases Wr.append.1 hw with ⟨lim, hl, hle⟩ | ⟨lim, hl, _⟩
            · simp only [List.mem_singleton, Prod.mk.injEq] at hl; omega
            · exact hfreshR lim hl) hro hrn') (.c _ _ (.ex _ rfl))
        unfold Oper.wp
        rw [hrun, Oper.upon_value]
        exact ⟨L', _, k _, h2, h3⟩
theorem OpT.appendXM {α : Type} {x y : Operand} {t e : TypeId} {z : Value} {esz by_ lo : Nat} {full : Bool} {v : Value} {i : Nat} {xs ys : List α} {f : α → List DC} (ho : o.op = .call { callee := .builtin .append, args := #[x, y], argTypes := #[t, t] }) (hN : ∀ d, o.dst = some d → d < N)
    (ht : P.underlying t = some (.slice e)) (hei : EInfo P e z esz by_) (hz : z.cells.size = esz) (hx : s.ev x = some (.c (.ex v))) (hi : s.tab[i]? = some (.arrX v e esz lo (xs.map f))) (hy : s.ev y = some (.sl full esz (ys.map f)))
    (hroom : roomy by_ (xs.length + ys.length) = true)
    (k : ∀ v', K (s.upd o.dst (.c (.ex v')) (s.tab.set i (.arrX v' e esz lo ((xs ++ ys).map f))))) : OpT P N o s K := by
  obtain ⟨h1, h2⟩ := roomy_iff.1 hroom
  exact OpT.appendX ho hN ht hei hz hx hi hy (by simpa using h1) (by simpa using h2) (fun v => by rw [← List.map_append]; exact k v)
end

/- An operation that is passed leaves nothing; and one that asks for what was passed is passed. -/
theorem AvR.none' {w : World} {M : Reg} : AvR w M undef (.tup []) := .tup #[] [] rfl (fun i v x h => by simp at h)
theorem Rel.gone {w : World} {N : Nat} {F L : Reg} {s : St} {a : Act} {d : Nat} (hr : Rel w N F L s a) (hs : s.slots.lookup d = some (.tup [])) : a.tmps.getD d undef = .tuple #[] := by
  have h := hr.slot d _ hs
  generalize a.tmps.getD d undef = q at h
  cases h with
  | tup vs _ hl _ =>
    have : vs = #[] := by simpa using hl
    rw [this]
section
variable {P : Program} {N : Nat} {s : St} {o : Oper} {K : St → Prop} {ops : Array Oper} {Q : Exit → St → Prop}
theorem wanted_gone {j : Nat} {x : Bool} {d : Nat} {w : World} {F L : Reg} {a : Act} (hr : Rel w N F L s a) (h : o.guard = some (j, x)) (hd : (ops[j]?).bind (·.dst) = some d) (hs : s.slots.lookup d = some (.tup [])) : Region.wanted o (yielded ops a.tmps) = false := by
  have hv := hr.gone hs
  have hg : yielded ops a.tmps j = none := by
    simp only [yielded, hd]
    rw [Array.getD_eq_getD_getElem?] at hv
    simp only [Option.bind_some]
    cases hq : a.tmps[d]? with
    | none => rfl
    | some v => rw [hq] at hv; simp at hv; subst hv; rfl
  simp [Region.wanted, h, hg]
/-- Not wanted: by a condition's value, or since the condition was passed itself. -/
inductive Unwanted (ops : Array Oper) (s : St) (o : Oper) : Prop
  | off (j : Nat) (x : Bool) (d : Nat) (b : Bool) (h : o.guard = some (j, x)) (hd : (ops[j]?).bind (·.dst) = some d) (hs : s.slots.lookup d = some (.c (.ex (.bool b)))) (hb : b = !x)
  | gone (j : Nat) (x : Bool) (d : Nat) (h : o.guard = some (j, x)) (hd : (ops[j]?).bind (·.dst) = some d) (hs : s.slots.lookup d = some (.tup []))
theorem Unwanted.eq {w : World} {F L : Reg} {a : Act} (h : Unwanted ops s o) (hr : Rel w N F L s a) : Region.wanted o (yielded ops a.tmps) = false := by
  cases h with
  | off j x d b h hd hs hb => exact (Wanted.off h hd hs hb).eq hr
  | gone j x d h hd hs => exact wanted_gone hr h hd hs
theorem TO.passU {i : Nat} {rest : List Nat} (ho : ops[i]? = some o) (hw : Unwanted ops s o) (hN : ∀ d, o.dst = some d → d < N) (h : TO P N ops rest (s.putO o.dst (.tup [])) Q) : TO P N ops (i :: rest) s Q := by
  intro F L a w hr
  simp only [wpOps, ho, hw.eq hr, if_false, Bool.false_eq_true]
  exact h F L _ w (hr.put hN AvR.none')
theorem TL'.passU {l : List Oper} (hw : Unwanted ops s o) (hN : ∀ d, o.dst = some d → d < N) (h : TL' P N ops l (s.putO o.dst (.tup [])) Q) : TL' P N ops (o :: l) s Q := by
  intro js hj
  cases js with
  | nil => simp at hj
  | cons j js =>
    simp only [List.map_cons, List.cons.injEq] at hj
    exact TO.passU hj.1 hw hN (h js hj.2)
theorem One.passU {i : Nat} (ho : ops[i]? = some o) (hw : Unwanted ops s o) (hN : ∀ d, o.dst = some d → d < N) (h : K (s.putO o.dst (.tup []))) : One P N ops i s K := by
  intro F L a w hr
  simp only [wpOp, ho, hw.eq hr, Bool.false_eq_true, if_false]
  exact ⟨L, _, h, hr.put hN AvR.none', Ext.refl _ _⟩
end

/- Little things. -/
theorem all1 {l : List Value} (h : l.all Value.oneCell' = true) : ∀ v ∈ l, v.oneCell' = true := List.all_eq_true.1 h
theorem lenAll {l : List (List DC)} {n : Nat} (h : l.all (fun x => x.length == n) = true) : ∀ x ∈ l, x.length = n := fun x hx => by simpa using List.all_eq_true.1 h x hx
theorem Fin.doneK {P : Program} {fn : Func} {R : AV → List Ob → Prop} {s : St} {xs : List AV} {G : List Ob} (h : ResL P s fn.results.toList xs) (hp : Pick s.tab G) (hR : R (tupAV xs) G) : Fin P fn R s := fun N F L a w hr => by
  obtain ⟨v, h1, h2⟩ := h.results hr
  obtain ⟨L', h3, h4⟩ := Turn.re (s := s) (s' := ⟨[], G⟩) (Sub.nil _) hp N F L a w hr
  exact ⟨v, _, G, L', h1, hR, h2.step (h4.frame F), h3.heap, h3.nodup, h3.lt, h4⟩

/-- Memory that nobody writes, lent to a call. -/
inductive Ros (s : St) : List Ob → Prop
  | nil : Ros s []
  | cons (i : Nat) {g : Nat} {cells : List DC} {G : List Ob} (h : s.tab[i]? = some (.ro g cells)) (k : Ros s G) : Ros s (.ro g cells :: G)
theorem Ros.heap {s : St} {G : List Ob} (h : Ros s G) {w : World} {N : Nat} {F L : Reg} {a : Act} (hr : Rel w N F L s a) : HeapR w (L ++ F) (G ++ s.tab) L := by
  induction h with
  | nil => exact hr.heap
  | cons i h k ih =>
    obtain ⟨r1, r2, h1, h2, hp⟩ := hr.heap.get h
    have e : r1 = [] := by cases h1; rfl
    subst e
    have := HeapR.cons _ _ _ _ h1 ih
    simpa using this
section
variable {P : Program} {N : Nat} {s : St} {o : Oper} {K : St → Prop}
end

end Go.Rv
