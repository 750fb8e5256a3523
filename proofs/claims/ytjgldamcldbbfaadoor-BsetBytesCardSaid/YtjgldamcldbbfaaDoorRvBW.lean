/- A LOGIC OF ABSTRACT STATES OVER THE MODEL, part BW: owned memory that is lent to a call; an array that was appended to, whose old header is still wanted. -/
import Derived.Test.YtjgldamcldbbfaaDoorRvP
namespace Go.Rv
/-- An owned array, read by one who may not write it. -/
theorem ObR.peek {w : World} {M R r : Reg} {v : Value} {e : TypeId} {esz lo : Nat} {elems : List (List DC)} (h : ObR w M (.arrX v e esz lo elems) r) (hdis : ∀ p ∈ r, ∀ lim, (p.1, lim) ∉ R) (hs : ∀ b off, Wr R b off → Wr M b off) : RepC w R v (.sl false esz elems) := by
  cases h with
  | arrX0 a => exact .empty a
  | arrX g cap cur _ _ _ _ hg hlo hn hm hcs hz hnw hr =>
    have key := OwnR.view (OwnR.some (w := w) (M := R) g cap cur e esz elems hg hn hm hcs hz (fun off _ hw => by
      obtain ⟨l, hl, _⟩ := hw
      exact hdis (g, lo * esz) (by simp) l hl) (hr.less hs))
    exact key
theorem ObR.peekFork {w : World} {M R r : Reg} {v v1 : Value} {e : TypeId} {esz : Nat} {elems ys : List (List DC)} (h : ObR w M (.fork v v1 e esz elems ys) r) (hdis : ∀ p ∈ r, ∀ lim, (p.1, lim) ∉ R) (hs : ∀ b off, Wr R b off → Wr M b off) : RepC w R v1 (.sl false esz (elems ++ ys)) := by
  cases h with
  | forkIn _ _ _ _ _ _ _ hc h => exact h.peek hdis hs
  | forkNew _ _ _ _ _ _ r1 r2 h1 h2 => exact h2.peek (fun p hp => hdis p (List.mem_append.2 (.inr hp))) hs
/-- The arguments of a call to which an owned object is lent. -/
def ArgsB (s : St) (ob : Ob) (xs : List Operand) (avs : List AV) : Prop := ∀ (w : World) (N : Nat) (F L : Reg) (a : Act) (r R : Reg), Rel w N F L s a → ObR w (r ++ R) ob r → (∀ p ∈ r, ∀ lim, (p.1, lim) ∉ R) → (∀ b off, Wr R b off → Wr (L ++ F) b off) →
  (xs.map a.eval).length = avs.length ∧ ∀ (i : Nat) (v : Value) (x : AV), (xs.map a.eval)[i]? = some v → avs[i]? = some x → AvR w R v x
theorem ArgsB.nil {s : St} {ob : Ob} : ArgsB s ob [] [] := fun w N F L a r R _ _ _ _ => ⟨rfl, fun i v x h => by simp at h⟩
theorem ArgsB.more {s : St} {ob : Ob} {x : Operand} {l : List Operand} {y : AV} {ys : List AV} (h : ∀ (w : World) (N : Nat) (F L : Reg) (a : Act) (r R : Reg), Rel w N F L s a → ObR w (r ++ R) ob r → (∀ p ∈ r, ∀ lim, (p.1, lim) ∉ R) → (∀ b off, Wr R b off → Wr (L ++ F) b off) → AvR w R (a.eval x) y) (k : ArgsB s ob l ys) : ArgsB s ob (x :: l) (y :: ys) := fun w N F L a r R hr ho hd hs => by
  obtain ⟨h1, h2⟩ := k w N F L a r R hr ho hd hs
  refine ⟨by simp at h1 ⊢; exact h1, fun i v z hv hz => ?_⟩
  cases i with
  | zero => simp at hv hz; subst hv; subst hz; exact h w N F L a r R hr ho hd hs
  | succ i => exact h2 i v z (by simpa using hv) (by simpa using hz)
theorem ArgsB.cons {s : St} {ob : Ob} {x : Operand} {l : List Operand} {y : AV} {ys : List AV} (h : s.ev x = some y) (k : ArgsB s ob l ys) : ArgsB s ob (x :: l) (y :: ys) :=
  ArgsB.more (fun _ _ _ _ _ _ _ hr _ _ hs => (hr.ev h).less hs) k
theorem ArgsB.lentF {s : St} {x : Operand} {l : List Operand} {ys : List AV} {v v1 : Value} {e : TypeId} {esz : Nat} {elems zs : List (List DC)} (h : s.ev x = some (.c (.ex v1))) (k : ArgsB s (.fork v v1 e esz elems zs) l ys) : ArgsB s (.fork v v1 e esz elems zs) (x :: l) (.sl false esz (elems ++ zs) :: ys) :=
  ArgsB.more (fun _ _ _ _ _ _ _ hr ho hd _ => by
    rw [hr.exact h]
    exact .c _ _ (ho.peekFork hd fun b off hw => Wr.append.2 (.inr hw))) k
theorem ArgsB.lentFM {α : Type} {s : St} {x : Operand} {l : List Operand} {avs : List AV} {v v1 : Value} {e : TypeId} {esz : Nat} {xs ys : List α} {f : α → List DC} (h : s.ev x = some (.c (.ex v1))) (k : ArgsB s (.fork v v1 e esz (xs.map f) (ys.map f)) l avs) : ArgsB s (.fork v v1 e esz (xs.map f) (ys.map f)) (x :: l) (.sl false esz ((xs ++ ys).map f) :: avs) := by
  rw [List.map_append]
  exact ArgsB.lentF h k
/-- A result that leads nowhere. -/
inductive Plain : AV → Prop
  | ex (v : Value) : Plain (.c (.ex v))
  | agg (l : List Value) {l' : List DC} (h : l' = l.map DC.ex) : Plain (.agg l')
theorem Plain.lift {x : AV} (h : Plain x) {w : World} {M M' : Reg} {v : Value} (hv : AvR w M v x) : AvR w M' v x := by
  cases h with
  | ex v0 =>
    cases hv with
    | c _ _ hc =>
      cases hc with
      | ex _ h1 => exact .c _ _ (.ex _ h1)
  | agg l hl =>
    subst hl
    cases hv with
    | agg vs _ hr =>
      refine .agg vs _ ⟨hr.1, fun i u d hu hd => ?_⟩
      have h1 := hr.2 i u d hu hd
      rw [List.getElem?_map] at hd
      obtain ⟨z, _, rfl⟩ := Option.map_eq_some_iff.1 hd
      cases h1 with
      | ex _ h2 => exact .ex _ h2
section
variable {P : Program} {N : Nat} {s : St} {o : Oper} {K : St → Prop}
/-- A call to which an owned object is lent, and whose result is plain. -/
theorem OpT.callLent {f : FuncId} {fn : Func} {args : Array Operand} {ts : Array TypeId} {avs : List AV} {x : AV} {i : Nat} {ob : Ob} (ho : o.op = .call { callee := .value (.func f), args, argTypes := ts }) (hN : ∀ d, o.dst = some d → d < N)
    (hf : P.funcs[f]? = some fn) (hb : fn.body.isSome = true) (hname : (fn.name == "runtime.NumGoroutine") = false) (hi : s.tab[i]? = some ob) (hargs : ArgsB s ob args.toList avs) (hc : CallP P f avs x) (hp : Plain x)
    (k : K (s.putO o.dst x)) : OpT P N o s K := by
  intro F L a w hr
  unfold Oper.wp
  rw [run_callOp ho hf hb hname, Oper.upon_enter]
  obtain ⟨r, r2, hob, hrest, hperm⟩ := hr.heap.get hi
  have hsame : Reg.same (L ++ F) (r ++ (r2 ++ F)) := by rw [← List.append_assoc]; exact perm_same hperm
  have hnd : ((r ++ (r2 ++ F)).map (·.1)).Nodup := by rw [← List.append_assoc]; exact ((List.Perm.append_right F hperm).map _).nodup_iff.1 hr.nodup
  have hlt : ∀ p ∈ r ++ (r2 ++ F), p.1 < w.heap.size := fun p hp => hr.lt p ((hsame p).2 hp)
  have hnd2 : ((r2 ++ F).map (·.1)).Nodup := by rw [List.map_append, List.nodup_append] at hnd; exact hnd.2.1
  have hdis : ∀ p ∈ r, ∀ lim, (p.1, lim) ∉ r2 ++ F := fun p hp' lim hm => by
    rw [List.map_append, List.nodup_append] at hnd
    exact hnd.2.2 p.1 (List.mem_map_of_mem hp') p.1 (List.mem_map.2 ⟨(p.1, lim), hm, rfl⟩) rfl
  obtain ⟨h1, h2⟩ := hargs w N F L a r (r2 ++ F) hr (hob.congr fun b off => hsame.wr.symm) hdis (fun b off hw => hsame.wr.2 (Wr.append.2 (.inr hw)))
  have hcall := hc (r2 ++ F) [] w (args.toList.map a.eval) h1 (fun i v x hv hx => by rw [List.nil_append]; exact h2 i v x hv hx) .nil (by rw [List.nil_append]; exact hnd2) (fun p hp => by rw [List.nil_append] at hp; exact hlt p (List.mem_append.2 (.inr hp)))
  have harr : (args.toList.map a.eval).toArray = args.map a.eval := by rw [← Array.toList_map]
  rw [harr] at hcall
  refine hcall.mono ?_
  rintro e w' ⟨v, y, tab', L', rfl, ⟨hy, ht⟩, hv, hh', _, _, hx⟩
  subst hy; subst ht
  cases hh'
  have hxL : Ext L w L w' := by simpa using hx.frame L
  have hkeep : HeapR w' (L ++ F) s.tab L := hr.heap.step hx (fun p _ lim hm => by cases hm) (by simpa using hx.frame (L ++ F))
  have hrel := hr.next (tab := s.tab) hxL hN (hp.lift hv) hkeep hr.nodup (fun p hp' => Nat.lt_of_lt_of_le (hr.lt p (List.mem_append.2 (.inl hp'))) hx.size)
  rw [St.upd_tab] at hrel
  exact ⟨L, _, k, hrel, hxL⟩
/-- append, the old header kept. -/
theorem OpT.appendFork {x y : Operand} {t e : TypeId} {z : Value} {esz by_ : Nat} {full : Bool} {v : Value} {i : Nat} {elems ys : List (List DC)} (ho : o.op = .call { callee := .builtin .append, args := #[x, y], argTypes := #[t, t] }) (hN : ∀ d, o.dst = some d → d < N)
    (ht : P.underlying t = some (.slice e)) (hei : EInfo P e z esz by_) (hz : z.cells.size = esz) (hx : s.ev x = some (.c (.ex v))) (hi : s.tab[i]? = some (.arrX v e esz 0 elems)) (hy : s.ev y = some (.sl full esz ys))
    (h63 : elems.length + ys.length ≤ maxLen) (hby : (elems.length + ys.length) * by_ ≤ 140737488355328)
    (k : ∀ v', K (s.upd o.dst (.c (.ex v')) (s.tab.set i (.fork v v' e esz elems ys)))) : OpT P N o s K := by
  intro F L a w hr
  have hv := hr.exact hx
  obtain ⟨r, R, hob, hwr, hnd, hlt, hdis, hgo⟩ := hr.touch hi
  obtain ⟨ay, cy, news, hvy, hzy, hln, hrn, hone, hpos⟩ := (hr.ev hy).cell.news
  have hrn' : RepL w (r ++ R) news ys.flatten := hrn.congr hwr
  have hfreshR : ∀ lim, (w.heap.size, lim) ∉ R := fun lim hl => by
    have : Wr (L ++ F) w.heap.size lim := (hwr _ _).1 (Wr.append.2 (.inr ⟨lim, hl, Nat.le_refl _⟩))
    obtain ⟨l2, hl2, _⟩ := this
    exact absurd (hr.lt _ hl2) (by simp)
  by_cases h0 : ys.length = 0
  · have hye : ys = [] := List.eq_nil_of_length_eq_zero h0
    subst hye
    have hob0 := hob
    cases hob with
    | arrX0 b =>
      have hrun := run_appendOp (w := w) (w' := w) (a := a) ho hv hvy (run_append_zero ht hei b ay 0 0 cy (Nat.le_refl _))
      obtain ⟨L', h2, h3⟩ := hgo w [] (.fork (.slice b 0 0) (.slice b 0 0) e esz [] []) o.dst (.slice b 0 0) (.c (.ex (.slice b 0 0))) ⟨Ext.refl _ _, hnd, hlt⟩ hN (.forkNew _ _ e esz [] [] [] [] hob0 hob0) (.c _ _ (.ex _ rfl))
      unfold Oper.wp
      rw [hrun, Oper.upon_value]
      exact ⟨L', _, k _, h2, h3⟩
    | arrX g cap cur _ _ _ _ hg hloe hn hm hcs hzo hnw hro =>
      have hrun := run_appendOp (w := w) (w' := w) (a := a) ho hv hvy (run_append_zero ht hei (some ⟨g, 0, none⟩) ay elems.length cap cy hn)
      obtain ⟨L', h2, h3⟩ := hgo w [(g, 0 * esz)] (.fork (.slice (some ⟨g, 0, none⟩) elems.length cap) (.slice (some ⟨g, 0, none⟩) elems.length cap) e esz elems []) o.dst (.slice (some ⟨g, 0, none⟩) elems.length cap) (.c (.ex (.slice (some ⟨g, 0, none⟩) elems.length cap))) ⟨Ext.refl _ _, hnd, hlt⟩ hN
        (.forkIn _ _ e esz elems [] _ ⟨g, elems.length, cap, rfl, rfl, Nat.le_refl _⟩ (by rw [List.append_nil]; exact hob0)) (.c _ _ (.ex _ rfl))
      unfold Oper.wp
      rw [hrun, Oper.upon_value]
      exact ⟨L', _, k _, h2, h3⟩
  · have hpos' : 0 < ys.length := by omega
    obtain ⟨ad, rfl, hnews⟩ := hpos hpos'
    have hob0 := hob
    cases hob with
    | arrX0 b =>
      have happ := run_append_fresh (w := w) (ty := o.type) ht hei b 0 0 [] (by simp) (fun _ => ⟨rfl, rfl⟩) (fun b _ j v hj => by simp at hj) ad ys.length cy news hln hnews hpos' (by omega) h63 hby
      have hrun := run_appendOp (a := a) ho hv hvy happ
      have hf : Fits w (w.drew.alloc (.cells (([] : List Value).toArray ++ news.toArray ++ Builtin.zeroCells z.cells (grownCap w (0 + ys.length) 0 e - (0 + ys.length))) e)) [] [(w.heap.size, 0 * esz)] :=
        ⟨(Ext.drew [] w).trans (Ext.alloc w.drew _ _), by simp, fun p hp => by simp at hp; subst hp; simp⟩
      obtain ⟨L', h2, h3⟩ := hgo _ ([] ++ [(w.heap.size, 0 * esz)]) (.fork (.slice b 0 0) (.slice (some ⟨w.heap.size, 0, none⟩) (0 + ys.length) (grownCap w (0 + ys.length) 0 e)) e esz [] ys) o.dst (.slice (some ⟨w.heap.size, 0, none⟩) (0 + ys.length) (grownCap w (0 + ys.length) 0 e)) (.c (.ex _)) hf hN
        (.forkNew _ _ e esz [] ys [] [(w.heap.size, 0 * esz)] (.arrX0 b e esz) (fresh_ownX (elems := []) (olds := []) (cap := 0) (lo := 0) hz (by simp) hln (fun x hx => by simp at hx) hzy h63 (Nat.le_refl _) (hf.ext.frame R) (fun off hoff hw => by simp at hoff) RepL.nil hrn')) (.c _ _ (.ex _ rfl))
      unfold Oper.wp
      rw [hrun, Oper.upon_value]
      exact ⟨L', _, k _, h2, h3⟩
    | arrX g cap cur _ _ _ _ hg hloe hn hm hcs hzo hnw hro =>
      have hglt := lt_of_block hg
      have hRg : ∀ lim, (g, lim) ∉ R := hdis (g, 0 * esz) (by simp)
      by_cases hroom : elems.length + ys.length ≤ cap
      · obtain ⟨ii, hi1, hi2, hi3, hi4⟩ := hei
        subst hi3
        have hfit : elems.length * ii.size + news.length ≤ cur.size := by rw [hln, hcs, ← Nat.add_mul]; exact Nat.mul_le_mul_right _ hroom
        have happ := run_append_room (P := P) w t o.type e ii ht hi1 g elems.length cap cur hg ad ys.length cy news hln hnews hone hroom hfit
        have hrun := run_appendOp (a := a) ho hv hvy happ
        have hlele : 0 * ii.size ≤ elems.length * ii.size := Nat.mul_le_mul_right _ hloe
        have hx1 : Ext [(g, 0 * ii.size)] w [(g, 0 * ii.size)] (w.setRow g (cur.toList.take (elems.length * ii.size) ++ news ++ cur.toList.drop (elems.length * ii.size + news.length)).toArray) :=
          Ext.setRow_from hg (Nat.le_refl _) (fun q hq => by
            rw [List.append_assoc, List.getElem?_append_left (by simp; omega), List.getElem?_take, if_pos (by omega)]
            simp)
        have hf : Fits w _ [(g, 0 * ii.size)] [(g, 0 * ii.size)] := ⟨hx1, by simp, fun p hp => by simp at hp; subst hp; simpa using hglt⟩
        have hxR := hx1.frame R
        have hlen : (elems ++ ys).length = elems.length + ys.length := List.length_append
        have hown' : ObR (w.setRow g (cur.toList.take (elems.length * ii.size) ++ news ++ cur.toList.drop (elems.length * ii.size + news.length)).toArray) ([(g, 0 * ii.size)] ++ R) (.arrX (.slice (some ⟨g, 0, none⟩) (elems ++ ys).length cap) e ii.size 0 (elems ++ ys)) [(g, 0 * ii.size)] := by
          refine .arrX g cap _ e ii.size 0 (elems ++ ys) (setRow_heap w g cur _ e _ hg) (by rw [hlen]; omega) (by rw [hlen]; exact hroom) hm ?_ ?_ ?_ ?_
          · simp only [List.size_toArray, List.length_append, List.length_take, List.length_drop, Array.length_toList]; omega
          · intro x hx; rcases List.mem_append.1 hx with h | h; (exact hzo x h); exact hzy x h
          · intro off hoff hw
            exact hnw off hoff (hxR.mono g off hglt hw)
          · have : (cur.toList.take (elems.length * ii.size) ++ news ++ cur.toList.drop (elems.length * ii.size + news.length)).toArray.toList.take ((elems ++ ys).length * ii.size) = cur.toList.take (elems.length * ii.size) ++ news := by
              have hl1 : (cur.toList.take (elems.length * ii.size) ++ news).length = (elems ++ ys).length * ii.size := by
                have hcur : cur.toList.length = cur.size := by simp
                rw [List.length_append, List.length_take, hcur, hlen, Nat.add_mul, hln]; omega
              rw [← hl1]
              exact List.take_left
            rw [this, List.flatten_append]
            exact (hro.step hxR).append (hrn'.step hxR)
        rw [hlen] at hown'
        obtain ⟨L', h2, h3⟩ := hgo _ _ (.fork (.slice (some ⟨g, 0, none⟩) elems.length cap) (.slice (some ⟨g, 0, none⟩) (elems.length + ys.length) cap) e ii.size elems ys) o.dst (.slice (some ⟨g, 0, none⟩) (elems.length + ys.length) cap) (.c (.ex _)) hf hN
          (.forkIn _ _ e ii.size elems ys _ ⟨g, elems.length + ys.length, cap, rfl, rfl, by omega⟩ hown') (.c _ _ (.ex _ rfl))
        unfold Oper.wp
        rw [hrun, Oper.upon_value]
        exact ⟨L', _, k _, h2, h3⟩
      · have holdlen : (cur.toList.take (elems.length * esz)).length = elems.length * esz := by
          have hcur : cur.toList.length = cur.size := by simp
          rw [List.length_take, hcur, hcs]
          exact Nat.min_eq_left (Nat.mul_le_mul_right _ hn)
        have happ := run_append_fresh (w := w) (ty := o.type) ht hei (some ⟨g, 0, none⟩) elems.length cap (cur.toList.take (elems.length * esz)) holdlen (fun h => by cases h) (fun b hb j v hj => by
          cases hb
          rw [addr_add, cell_of_row w g _ cur e _ hg, Nat.zero_add]
          rw [List.getElem?_take] at hj
          split at hj
          · simpa using hj
          · cases hj) ad ys.length cy news hln hnews hpos' (by omega) h63 hby
        have hrun := run_appendOp (a := a) ho hv hvy happ
        have hx0 : Ext [] w [(w.heap.size, 0 * esz)] (w.drew.alloc (.cells ((cur.toList.take (elems.length * esz)).toArray ++ news.toArray ++ Builtin.zeroCells z.cells (grownCap w (elems.length + ys.length) cap e - (elems.length + ys.length))) e)) := (Ext.drew [] w).trans (Ext.alloc w.drew _ _)
        have hx1 := (hx0.frame [(g, 0 * esz)]).congr (K := [(g, 0 * esz)]) (K' := [(g, 0 * esz)] ++ [(w.heap.size, 0 * esz)]) (fun p => Iff.rfl) (fun p => by simp [or_comm])
        have hf : Fits w (w.drew.alloc (.cells ((cur.toList.take (elems.length * esz)).toArray ++ news.toArray ++ Builtin.zeroCells z.cells (grownCap w (elems.length + ys.length) cap e - (elems.length + ys.length))) e)) [(g, 0 * esz)] ([(g, 0 * esz)] ++ [(w.heap.size, 0 * esz)]) :=
          ⟨hx1, by simp; omega, fun p hp => by
            simp at hp
            rcases hp with rfl | rfl
            · have := hx0.size; simp only; omega
            · simp⟩
        obtain ⟨L', h2, h3⟩ := hgo _ _ (.fork (.slice (some ⟨g, 0, none⟩) elems.length cap) (.slice (some ⟨w.heap.size, 0, none⟩) (elems.length + ys.length) (grownCap w (elems.length + ys.length) cap e)) e esz elems ys) o.dst (.slice (some ⟨w.heap.size, 0, none⟩) (elems.length + ys.length) (grownCap w (elems.length + ys.length) cap e)) (.c (.ex _)) hf hN
          (.forkNew _ _ e esz elems ys _ _ (hob0.step hx0 (fun p _ lim hm => by cases hm) (hx1.frame R)) (fresh_ownX (lo := 0) hz holdlen hln hzo hzy h63 (Nat.zero_le _) (hx1.frame R) (fun off hoff hw => by simp at hoff) hro hrn')) (.c _ _ (.ex _ rfl))
        unfold Oper.wp
        rw [hrun, Oper.upon_value]
        exact ⟨L', _, k _, h2, h3⟩
theorem OpT.appendForkM {α : Type} {x y : Operand} {t e : TypeId} {z : Value} {esz by_ : Nat} {full : Bool} {v : Value} {i : Nat} {xs ys : List α} {f : α → List DC} (ho : o.op = .call { callee := .builtin .append, args := #[x, y], argTypes := #[t, t] }) (hN : ∀ d, o.dst = some d → d < N)
    (ht : P.underlying t = some (.slice e)) (hei : EInfo P e z esz by_) (hz : z.cells.size = esz) (hx : s.ev x = some (.c (.ex v))) (hi : s.tab[i]? = some (.arrX v e esz 0 (xs.map f))) (hy : s.ev y = some (.sl full esz (ys.map f)))
    (hroom : roomy by_ (xs.length + ys.length) = true)
    (k : ∀ v', K (s.upd o.dst (.c (.ex v')) (s.tab.set i (.fork v v' e esz (xs.map f) (ys.map f))))) : OpT P N o s K := by
  obtain ⟨h1, h2⟩ := roomy_iff.1 hroom
  exact OpT.appendFork ho hN ht hei hz hx hi hy (by simpa using h1) (by simpa using h2) k
end
/-- The old header again, of what was appended to. -/
theorem Turn.unfork {s : St} (i : Nat) {v v1 : Value} {e : TypeId} {esz : Nat} {elems ys : List (List DC)} (hi : s.tab[i]? = some (.fork v v1 e esz elems ys)) : Turn s ⟨s.slots, s.tab.set i (.arrX v e esz 0 elems)⟩ := fun N F L a w hr => by
  obtain ⟨r, R, hob, hwr, hnd, hlt, hdis, hgo⟩ := hr.touch hi
  cases hob with
  | forkIn _ _ _ _ _ _ _ hc h =>
    obtain ⟨g, m, cap, rfl, rfl, hle⟩ := hc
    have h' : ObR w (r ++ R) (.arrX (.slice (some ⟨g, 0, none⟩) elems.length cap) e esz 0 elems) r := by
      generalize hq : Value.slice (some ⟨g, 0, none⟩) m cap = q at h
      generalize hl : elems ++ ys = l at h
      cases h with
      | arrX0 a =>
        simp only [Value.slice.injEq] at hq
        have : elems = [] := by
          have := congrArg List.length hl
          simp only [List.length_append, List.length_nil] at this
          exact List.eq_nil_of_length_eq_zero (by omega)
        subst this
        rw [hq.2.2]
        exact .arrX0 _ e esz
      | arrX g' cap' cur _ _ _ _ hg hlo hn hm hcs hz hnw hre =>
        simp only [Value.slice.injEq, Option.some.injEq, Addr.mk.injEq] at hq
        obtain ⟨⟨rfl, _⟩, rfl, rfl⟩ := hq
        subst hl
        refine .arrX g cap cur e esz 0 elems hg (Nat.zero_le _) (by rw [List.length_append] at hn; omega) hm hcs (fun x hx => hz x (List.mem_append.2 (.inl hx))) hnw ?_
        have hfl : elems.flatten.length = elems.length * esz := flat_len fun x hx => hz x (List.mem_append.2 (.inl hx))
        have h1 := hre.take (elems.length * esz)
        rw [List.take_take, List.flatten_append, ← hfl, List.take_left, hfl] at h1
        rw [show min (elems.length * esz) ((elems ++ ys).length * esz) = elems.length * esz from Nat.min_eq_left (Nat.mul_le_mul_right _ (by simp))] at h1
        exact h1
    obtain ⟨L', h2, h3⟩ := hgo w r (.arrX (.slice (some ⟨g, 0, none⟩) elems.length cap) e esz 0 elems) none undef .any ⟨Ext.refl _ _, hnd, hlt⟩ (fun d hd => by cases hd) h' (.any _)
    exact ⟨L', h2, h3⟩
  | forkNew _ _ _ _ _ _ r1 r2 h1 h2 =>
    have hx : Ext (r1 ++ r2) w r1 w := ⟨rfl, rfl, rfl, Nat.le_refl _, fun _ _ _ => rfl, fun _ _ _ _ => rfl, fun b off hb hw => Wr.append.2 (.inl hw), fun b l hb hl => ⟨l, List.mem_append.2 (.inl hl)⟩⟩
    have hs : ∀ b off, Wr (r1 ++ R) b off → Wr ((r1 ++ r2) ++ R) b off := fun b off hw => by
      rcases Wr.append.1 hw with hw | hw
      · exact Wr.append.2 (.inl (Wr.append.2 (.inl hw)))
      · exact Wr.append.2 (.inr hw)
    have h1' : ObR w (r1 ++ R) (.arrX v e esz 0 elems) r1 := by
      cases h1 with
      | arrX0 a => exact .arrX0 a e esz
      | arrX g cap cur _ _ _ _ hg hlo hn hm hcs hz hnw hre => exact .arrX g cap cur e esz 0 elems hg hlo hn hm hcs hz (fun off ho hw => hnw off ho (hs _ _ hw)) (hre.less hs)
    obtain ⟨L', h2, h3⟩ := hgo w r1 (.arrX v e esz 0 elems) none undef .any ⟨hx, by rw [List.map_append, List.nodup_append] at hnd; exact hnd.1, fun p hp => hlt p (List.mem_append.2 (.inl hp))⟩ (fun d hd => by cases hd) h1' (.any _)
    exact ⟨L', h2, h3⟩
section
variable {P : Program} {N : Nat} {s : St} {o : Oper} {K : St → Prop}
theorem OpT.pre {s' : St} (h : Turn s s') (k : OpT P N o s' K) : OpT P N o s K := by
  intro F L a w hr
  obtain ⟨L', h1, h2⟩ := h N F L a w hr
  refine upon_mono (k F L' a w h1) ?_ (fun _ _ _ h => h)
  rintro a' w' ⟨L2, t, kt, hr', hx⟩
  exact ⟨L2, t, kt, hr', h2.trans hx⟩
theorem OpT.appendUnforkM {α : Type} {x y : Operand} {t e : TypeId} {z : Value} {esz by_ : Nat} {full : Bool} {v v1 : Value} {i : Nat} {xs ys : List α} {zs : List (List DC)} {f : α → List DC} (ho : o.op = .call { callee := .builtin .append, args := #[x, y], argTypes := #[t, t] }) (hN : ∀ d, o.dst = some d → d < N)
    (ht : P.underlying t = some (.slice e)) (hei : EInfo P e z esz by_) (hz : z.cells.size = esz) (hx : s.ev x = some (.c (.ex v))) (hi : s.tab[i]? = some (.fork v v1 e esz (xs.map f) zs)) (hy : s.ev y = some (.sl full esz (ys.map f)))
    (hroom : roomy by_ (xs.length + ys.length) = true)
    (k : ∀ v', K (s.upd o.dst (.c (.ex v')) (s.tab.set i (.arrX v' e esz 0 ((xs ++ ys).map f))))) : OpT P N o s K := by
  have hlt : i < s.tab.length := (List.getElem?_eq_some_iff.1 hi).1
  have ev : ∀ (z : Operand), St.ev ⟨s.slots, s.tab.set i (.arrX v e esz 0 (xs.map f))⟩ z = s.ev z := fun z => by cases z <;> rfl
  have hg : (s.tab.set i (.arrX v e esz 0 (xs.map f)))[i]? = some (.arrX v e esz 0 (xs.map f)) := by simp [hlt]
  refine OpT.pre (Turn.unfork i hi) (OpT.appendXM (s := ⟨s.slots, s.tab.set i (.arrX v e esz 0 (xs.map f))⟩) (i := i) (lo := 0) (v := v) (xs := xs) (ys := ys) (f := f) ho hN ht hei hz ((ev x).trans hx) hg ((ev y).trans hy) hroom (fun v' => ?_))
  have hset : ((s.tab.set i (.arrX v e esz 0 (xs.map f))).set i (.arrX v' e esz 0 ((xs ++ ys).map f))) = s.tab.set i (.arrX v' e esz 0 ((xs ++ ys).map f)) := List.set_set ..
  have e2 : ∀ (T tab' : List Ob) (u : AV), St.upd ⟨s.slots, T⟩ o.dst u tab' = s.upd o.dst u tab' := fun T tab' u => by
    simp only [St.upd, St.putO]
    cases o.dst <;> rfl
  rw [e2]
  have := k v'
  rw [← hset] at this
  exact this
end
end Go.Rv
