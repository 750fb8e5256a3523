/- A LOGIC OF ABSTRACT STATES OVER THE MODEL, part D: owned memory, one object at a time; variables' blocks. -/
import Derived.Test.YtbepeoipaiahgaaRvC
namespace Go.Rv

theorem HeapR.get {w : World} {M : Reg} {tab : List Ob} {L : Reg} (h : HeapR w M tab L) : ∀ {i : Nat} {o : Ob}, tab[i]? = some o → ∃ r1 r2, ObR w M o r1 ∧ HeapR w M (tab.eraseIdx i) r2 ∧ L.Perm (r1 ++ r2) := by
  induction h with
  | nil => intro i o hi; simp at hi
  | cons o r t rs h k ih =>
    intro i o' hi
    cases i with
    | zero =>
      simp at hi; subst hi
      exact ⟨r, rs, h, by simpa using k, List.Perm.refl _⟩
    | succ i =>
      obtain ⟨r1, r2, h1, h2, hp⟩ := ih (by simpa using hi)
      refine ⟨r1, r ++ r2, h1, by simpa using HeapR.cons o r _ _ h h2, ?_⟩
      refine (List.Perm.append_left r hp).trans ?_
      rw [← List.append_assoc, ← List.append_assoc]
      exact List.Perm.append_right r2 List.perm_append_comm
theorem HeapR.set' {w : World} {M : Reg} {o' : Ob} {r1 : Reg} (ho : ObR w M o' r1) : ∀ {tab : List Ob} {i : Nat} {r2 : Reg}, HeapR w M (tab.eraseIdx i) r2 → i < tab.length → ∃ L', HeapR w M (tab.set i o') L' ∧ L'.Perm (r1 ++ r2) := by
  intro tab
  induction tab with
  | nil => intro i r2 _ hi; simp at hi
  | cons o t ih =>
    intro i r2 h hi
    cases i with
    | zero => exact ⟨r1 ++ r2, by simpa using HeapR.cons o' r1 _ _ ho (by simpa using h), List.Perm.refl _⟩
    | succ i =>
      simp only [List.eraseIdx_cons_succ] at h
      cases h with
      | cons _ r _ rs h1 h2 =>
        obtain ⟨L', h3, hp⟩ := ih h2 (by simpa using hi)
        refine ⟨r ++ L', by simpa using HeapR.cons o r _ _ h1 h3, ?_⟩
        refine (List.Perm.append_left r hp).trans ?_
        rw [← List.append_assoc, ← List.append_assoc]
        exact List.Perm.append_right rs List.perm_append_comm

theorem perm_same {L K F : Reg} (h : L.Perm K) : Reg.same (L ++ F) (K ++ F) := fun p => by simp [List.mem_append, h.mem_iff]

theorem fst_mem {r : Reg} {b : Nat} (h : b ∈ r.map (·.1)) : ∃ lim, (b, lim) ∈ r := by
  obtain ⟨p, hp, rfl⟩ := List.mem_map.1 h
  exact ⟨p.2, hp⟩

/-- What a step on one object must show to go on. -/
structure Fits (w w' : World) (r r' : Reg) : Prop where
  ext : Ext r w r' w'
  nodup : (r'.map (·.1)).Nodup
  lt : ∀ p ∈ r', p.1 < w'.heap.size

theorem Rel.touch {w : World} {N : Nat} {F L : Reg} {s : St} {a : Act} {i : Nat} {o : Ob} (hr : Rel w N F L s a) (hi : s.tab[i]? = some o) :
    ∃ r R, ObR w (r ++ R) o r ∧ (∀ b off, Wr (r ++ R) b off ↔ Wr (L ++ F) b off) ∧ (r.map (·.1)).Nodup ∧ (∀ p ∈ r, p.1 < w.heap.size) ∧ (∀ p ∈ r, ∀ lim, (p.1, lim) ∉ R) ∧
      ∀ (w' : World) (r' : Reg) (o' : Ob) (dst : Option Nat) (v : Value) (x : AV), Fits w w' r r' → (∀ d, dst = some d → d < N) → ObR w' (r' ++ R) o' r' → AvR w' (r' ++ R) v x →
        ∃ L', Rel w' N F L' (s.upd dst x (s.tab.set i o')) (a.put dst v) ∧ Ext L w L' w' := by
  obtain ⟨r, r2, ho, hrest, hp⟩ := hr.heap.get hi
  have hsame : Reg.same (L ++ F) (r ++ (r2 ++ F)) := by rw [← List.append_assoc]; exact perm_same hp
  have hnd : ((r ++ (r2 ++ F)).map (·.1)).Nodup := by
    rw [← List.append_assoc]
    exact ((List.Perm.append_right F hp).map _).nodup_iff.1 hr.nodup
  rw [List.map_append, List.nodup_append] at hnd
  have hdis : ∀ p ∈ r, ∀ lim, (p.1, lim) ∉ r2 ++ F := fun p hp' lim hm => hnd.2.2 p.1 (List.mem_map_of_mem hp') p.1 (List.mem_map.2 ⟨(p.1, lim), hm, rfl⟩) rfl
  have hlt : ∀ p ∈ r ++ (r2 ++ F), p.1 < w.heap.size := fun p hp' => hr.lt p ((hsame p).2 hp')
  refine ⟨r, r2 ++ F, ho.congr fun b off => (hsame.wr).symm, fun b off => hsame.wr.symm, hnd.1, fun p hp' => hlt p (List.mem_append.2 (.inl hp')), hdis, ?_⟩
  intro w' r' o' dst v x hf hN ho' hv
  have hil : i < s.tab.length := (List.getElem?_eq_some_iff.1 hi).1
  have hext : Ext (r ++ (r2 ++ F)) w (r' ++ (r2 ++ F)) w' := hf.ext.frame _
  have hrest' : HeapR w' (r' ++ (r2 ++ F)) (s.tab.eraseIdx i) r2 := by
    refine (hrest.congr fun b off => hsame.wr.symm).step hf.ext (fun p hp' lim hm => hdis (p.1, lim) hm p.2 (List.mem_append.2 (.inl hp'))) hext
  obtain ⟨L', hh, hp'⟩ := HeapR.set' ho' hrest' hil
  have hsame' : Reg.same (L' ++ F) (r' ++ (r2 ++ F)) := by rw [← List.append_assoc]; exact perm_same hp'
  have hxL : Ext L w L' w' := (hf.ext.frame r2).congr (fun p => (hp.mem_iff).symm) (fun p => (hp'.mem_iff).symm)
  refine ⟨L', hr.next hxL hN ?_ (hh.congr fun b off => hsame'.wr) ?_ ?_, hxL⟩
  · exact hv.less fun b off h => hsame'.wr.1 h
  · have : ((r' ++ (r2 ++ F)).map (·.1)).Nodup := by
      rw [List.map_append, List.nodup_append]
      refine ⟨hf.nodup, hnd.2.1, fun b hb c hc hbc => ?_⟩
      subst hbc
      obtain ⟨l1, h1⟩ := fst_mem hb
      obtain ⟨l2, h2⟩ := fst_mem hc
      have hbs : b < w.heap.size := hlt (b, l2) (List.mem_append.2 (.inr h2))
      obtain ⟨l3, h3⟩ := hf.ext.blocks b l1 hbs h1
      exact hdis (b, l3) h3 l2 h2
    rw [← List.append_assoc] at this
    exact ((List.Perm.append_right F hp').map _).nodup_iff.2 this
  · intro p hm
    rcases List.mem_append.1 ((hp'.mem_iff).1 hm) with h | h
    · exact hf.lt p h
    · exact Nat.lt_of_lt_of_le (hlt p (List.mem_append.2 (.inr (List.mem_append.2 (.inl h))))) hf.ext.size

/-- A new object in new memory. -/
theorem Rel.add {w w' : World} {N : Nat} {F L : Reg} {s : St} {a : Act} {r : Reg} {o : Ob} {dst : Option Nat} {v : Value} {x : AV} (hr : Rel w N F L s a) (hf : Fits w w' [] r) (hN : ∀ d, dst = some d → d < N)
    (ho : ∀ M, (∀ b off, w.heap.size ≤ b → Wr M b off → Wr r b off) → Ext (L ++ F) w M w' → ObR w' M o r) (hv : ∀ M, (∀ b off, w.heap.size ≤ b → Wr M b off → Wr r b off) → Ext (L ++ F) w M w' → AvR w' M v x) :
    ∃ L', Rel w' N F L' (s.upd dst x (o :: s.tab)) (a.put dst v) ∧ Ext L w L' w' := by
  have hx : Ext L w (r ++ L) w' := hf.ext.frame L
  have hxF : Ext (L ++ F) w ((r ++ L) ++ F) w' := hx.frame F
  have hnew : ∀ b off, w.heap.size ≤ b → Wr ((r ++ L) ++ F) b off → Wr r b off := by
    intro b off hb hw
    rw [List.append_assoc] at hw
    rcases Wr.append.1 hw with h | ⟨lim, h, _⟩
    · exact h
    · exact absurd (hr.lt (b, lim) h) (Nat.not_lt.2 hb)
  refine ⟨r ++ L, hr.next hx hN (hv _ hnew hxF) (.cons o r _ _ (ho _ hnew hxF) ?_) ?_ ?_, hx⟩
  · exact hr.heap.step hf.ext (fun p _ lim hm => by cases hm) hxF
  · rw [List.append_assoc, List.map_append, List.nodup_append]
    refine ⟨hf.nodup, hr.nodup, fun b hb c hc hbc => ?_⟩
    subst hbc
    obtain ⟨l1, h1⟩ := fst_mem hb
    obtain ⟨l2, h2⟩ := fst_mem hc
    obtain ⟨l3, h3⟩ := hf.ext.blocks b l1 (hr.lt (b, l2) h2) h1
    cases h3
  · intro p hp
    rcases List.mem_append.1 hp with h | h
    · exact hf.lt p h
    · exact Nat.lt_of_lt_of_le (hr.lt p (List.mem_append.2 (.inl h))) hf.ext.size

theorem Ext.alloc (w : World) (o : Obj) (lim : Nat) : Ext [] w [(w.heap.size, lim)] (w.alloc o) where
  os := rfl
  tape := rfl
  output := rfl
  size := by simp
  block _ hb _ := heap_alloc_old w o hb
  cell b off hb _ := World.cell?_alloc_lt w o ⟨b, off, none⟩ hb
  mono b off hb hw := by
    obtain ⟨l, hl, _⟩ := hw
    simp at hl
    omega
  blocks b l hb hl := by simp at hl; omega
theorem Ext.alloc0 (w : World) (o : Obj) : Ext [] w [] (w.alloc o) where
  os := rfl
  tape := rfl
  output := rfl
  size := by simp
  block _ hb _ := heap_alloc_old w o hb
  cell b off hb _ := World.cell?_alloc_lt w o ⟨b, off, none⟩ hb
  mono b off hb hw := hw
  blocks b l hb hl := by cases hl
theorem Ext.drew (L : Reg) (w : World) : Ext L w L w.drew := ⟨rfl, rfl, rfl, Nat.le_refl _, fun _ _ _ => rfl, fun _ _ _ _ => rfl, fun _ _ _ h => h, fun _ l _ h => ⟨l, h⟩⟩
theorem Fits.alloc (w : World) (o : Obj) (lim : Nat) : Fits w (w.alloc o) [] [(w.heap.size, lim)] := ⟨Ext.alloc w o lim, by simp, fun p hp => by simp at hp; subst hp; simp⟩

/-- Less memory is owned. -/
theorem Rel.dropO {w : World} {N : Nat} {F L : Reg} {s : St} {a : Act} (i : Nat) (hr : Rel w N F L s a) : ∃ L', Rel w N F L' { s with tab := s.tab.eraseIdx i } a ∧ Ext L w L' w := by
  cases hi : s.tab[i]? with
  | none =>
    have : s.tab.eraseIdx i = s.tab := List.eraseIdx_of_length_le (by simpa using hi)
    refine ⟨L, ?_, Ext.refl _ _⟩
    rw [this]; exact hr
  | some o =>
    obtain ⟨r1, r2, ho, h2, hp⟩ := hr.heap.get hi
    have hsub : ∀ b off, Wr (r2 ++ F) b off → Wr (L ++ F) b off := by
      intro b off h
      rcases Wr.append.1 h with ⟨l, hl, hle⟩ | h
      · exact Wr.append.2 (.inl ⟨l, (hp.mem_iff).2 (List.mem_append.2 (.inr hl)), hle⟩)
      · exact Wr.append.2 (.inr h)
    have hx : Ext L w r2 w := ⟨rfl, rfl, rfl, Nat.le_refl _, fun _ _ _ => rfl, fun _ _ _ _ => rfl,
      fun b off _ ⟨l, hl, hle⟩ => ⟨l, (hp.mem_iff).2 (List.mem_append.2 (.inr hl)), hle⟩, fun b l _ hl => ⟨l, (hp.mem_iff).2 (List.mem_append.2 (.inr hl))⟩⟩
    have hnd : ((r1 ++ (r2 ++ F)).map (·.1)).Nodup := by
      rw [← List.append_assoc]
      exact ((List.Perm.append_right F hp).map _).nodup_iff.1 hr.nodup
    rw [List.map_append, List.nodup_append] at hnd
    refine ⟨r2, ⟨hr.defers, hr.size, fun t v hv => (hr.slot t v hv).less hsub, ?_, hnd.2.1, fun p hp' => ?_⟩, hx⟩
    · exact h2.step (Ext.refl [] w) (fun p _ lim hm => by cases hm) (hx.frame F)
    · refine hr.lt p ?_
      rcases List.mem_append.1 hp' with h | h
      · exact List.mem_append.2 (.inl ((hp.mem_iff).2 (List.mem_append.2 (.inr h))))
      · exact List.mem_append.2 (.inr h)

section
variable {P : Program} {N : Nat} {s : St} {o : Oper} {K : St → Prop} {Q : Exit → St → Prop}
theorem T.drop {c : Code} (i : Nat) (h : T P N c { s with tab := s.tab.eraseIdx i } Q) : T P N c s Q := by
  intro F L a w hr
  obtain ⟨L', hr', hx⟩ := hr.dropO i
  exact wp_mono (h F L' a w hr') fun e a' w' ⟨L2, s2, q, r, x⟩ => ⟨L2, s2, q, r, hx.trans x⟩
theorem TL.drop {c : Code} (i : Nat) (h : TL P N c { s with tab := s.tab.eraseIdx i } Q) : TL P N c s Q := by
  intro F L a w hr b k cs
  obtain ⟨L', hr', hx⟩ := hr.dropO i
  obtain ⟨e, a', w', ⟨L2, s2, q, r, x⟩, harr⟩ := h F L' a w hr' b k cs
  exact ⟨e, a', w', ⟨L2, s2, q, r, hx.trans x⟩, harr⟩
theorem TO.drop {ops : Array Oper} {l : List Nat} (i : Nat) (h : TO P N ops l { s with tab := s.tab.eraseIdx i } Q) : TO P N ops l s Q := by
  intro F L a w hr
  obtain ⟨L', hr', hx⟩ := hr.dropO i
  exact wpOps_mono (fun e a' w' ⟨L2, s2, q, r, x⟩ => ⟨L2, s2, q, r, hx.trans x⟩) _ _ _ (h F L' a w hr')

/-- A change of what is told, the world as it is. -/
theorem TO.turn {ops : Array Oper} {l : List Nat} {s' : St} (hs : ∀ F L a w, Rel w N F L s a → ∃ L', Rel w N F L' s' a ∧ Ext L w L' w) (h : TO P N ops l s' Q) : TO P N ops l s Q := by
  intro F L a w hr
  obtain ⟨L', hr', hx⟩ := hs F L a w hr
  exact wpOps_mono (fun e a' w' ⟨L2, s2, q, r, x⟩ => ⟨L2, s2, q, r, hx.trans x⟩) _ _ _ (h F L' a w hr')
theorem T.turn {c : Code} {s' : St} (hs : ∀ F L a w, Rel w N F L s a → ∃ L', Rel w N F L' s' a ∧ Ext L w L' w) (h : T P N c s' Q) : T P N c s Q := by
  intro F L a w hr
  obtain ⟨L', hr', hx⟩ := hs F L a w hr
  exact wp_mono (h F L' a w hr') fun e a' w' ⟨L2, s2, q, r, x⟩ => ⟨L2, s2, q, r, hx.trans x⟩

/-- A bool in a slot is one of two. -/
theorem TO.split {ops : Array Oper} {l : List Nat} {d : Nat} {b : Bool} (hd : s.slots.lookup d = some (.bool b)) (ht : b = true → TO P N ops l (s.put d (.bool true)) Q) (hf : b = false → TO P N ops l (s.put d (.bool false)) Q) : TO P N ops l s Q := by
  cases b with
  | true =>
    refine TO.forget (s' := s.put d (.bool true)) (fun t v hv => ?_) rfl (ht rfl)
    simp only [St.put, List.lookup_cons] at hv
    split at hv
    · rename_i h; simp at h; subst h; rw [hd]; exact hv
    · exact hv
  | false =>
    refine TO.forget (s' := s.put d (.bool false)) (fun t v hv => ?_) rfl (hf rfl)
    simp only [St.put, List.lookup_cons] at hv
    split at hv
    · rename_i h; simp at h; subst h; rw [hd]; exact hv
    · exact hv

theorem CellsR.of_rep {w : World} {M : Reg} : ∀ {vs : List Value} {ds : List DC}, RepL w M vs ds → CellsR w M vs (ds.map OC.d) [] := by
  intro vs
  induction vs with
  | nil => intro ds h; cases ds with | nil => exact .nil | cons d ds => exact absurd h.1 (by simp)
  | cons v vs ih =>
    intro ds h
    cases ds with
    | nil => exact absurd h.1 (by simp)
    | cons d ds => exact .cons v (.d d) [] vs _ [] (.d v d h.uncons.1) (ih h.uncons.2)
theorem CellsR.length {w : World} {M : Reg} {vs : List Value} {cs : List OC} {r : Reg} (h : CellsR w M vs cs r) : vs.length = cs.length := by
  induction h with
  | nil => rfl
  | cons v c r vs cs rs h t ih => simp [ih]

/-- A new variable's block. -/
theorem Rel.box {w : World} {F L : Reg} {a : Act} {cells : Array Value} {l : List DC} {e : TypeId} {dst : Option Nat} (hr : Rel w N F L s a) (hN : ∀ d, dst = some d → d < N) (hl : RepL w (L ++ F) cells.toList l) :
    ∃ L', Rel (w.alloc (.cells cells e)) N F L' (s.upd dst (.ptr w.heap.size 0) (.box w.heap.size e (l.map OC.d) :: s.tab)) (a.put dst (.pointer (some ⟨w.heap.size, 0, none⟩))) ∧ Ext L w L' (w.alloc (.cells cells e)) :=
  hr.add (Fits.alloc w _ 0) hN (fun _ _ hx => .box _ e cells _ [] (heap_alloc_new w _) (CellsR.of_rep (hl.step hx))) (fun _ _ _ => .c _ _ (.ex _ rfl))

theorem AvR.cell {w : World} {M : Reg} {v : Value} {d : DC} (h : AvR w M v (.c d)) : RepC w M v d := by
  cases h
  assumption
theorem OpT.box {e : TypeId} {x : Operand} {d : DC} (ho : o.op = .box e x) (hN : ∀ d, o.dst = some d → d < N) (hx : s.ev x = some (.c d)) (k : ∀ b, K (s.upd o.dst (.ptr b 0) (.box b e [OC.d d] :: s.tab))) : OpT P N o s K := by
  intro F L a w hr
  have h := hr.ev hx
  obtain ⟨v, hv⟩ : ∃ v, a.eval x = v := ⟨_, rfl⟩
  rw [hv] at h
  have hrep := h.cell
  have hcells : v.cells = #[v] := by
    have := hrep.one
    cases v <;> first | rfl | (simp [Value.oneCell'] at this)
  obtain ⟨L', h2, h3⟩ := Rel.box (N := N) (s := s) (a := a) (dst := o.dst) (cells := #[v]) (l := [d]) (e := e) hr hN (RepL.cons hrep RepL.nil)
  have hrun : (execOp a.eval o).run P w = .ok (.value (.pointer (some ⟨w.heap.size, 0, none⟩))) (w.alloc (.cells #[v] e)) := by
    simp [execOp, ho, hv, Instr.box, newVar, newRow, hcells]
  unfold Oper.wp
  rw [hrun, Oper.upon_value]
  exact ⟨L', _, k w.heap.size, h2, h3⟩
theorem OpT.boxAgg {e : TypeId} {x : Operand} {l : List DC} (ho : o.op = .box e x) (hN : ∀ d, o.dst = some d → d < N) (hx : s.ev x = some (.agg l)) (k : ∀ b, K (s.upd o.dst (.ptr b 0) (.box b e (l.map OC.d) :: s.tab))) : OpT P N o s K := by
  intro F L a w hr
  have h := hr.ev hx
  generalize hq : a.eval x = q at h
  cases h with
  | agg vs _ h =>
    obtain ⟨L', h2, h3⟩ := Rel.box (N := N) (s := s) (a := a) (dst := o.dst) (cells := vs) (l := l) (e := e) hr hN h
    have hrun : (execOp a.eval o).run P w = .ok (.value (.pointer (some ⟨w.heap.size, 0, none⟩))) (w.alloc (.cells vs e)) := by
      simp [execOp, ho, hq, Instr.box, newVar, newRow, Value.cells]
    unfold Oper.wp
    rw [hrun, Oper.upon_value]
    exact ⟨L', _, k w.heap.size, h2, h3⟩
theorem RepL.zeros {w : World} {M : Reg} : ∀ {vs : List Value}, (∀ v ∈ vs, v.oneCell' = true) → RepL w M vs (vs.map DC.ex) := by
  intro vs
  induction vs with
  | nil => intro _; exact RepL.nil
  | cons v vs ih => intro h; exact RepL.cons (.ex v (h v (by simp))) (ih fun u hu => h u (by simp [hu]))
theorem OpT.alloc {e : TypeId} {z : Value} {sz by_ : Nat} (ho : o.op = .alloc e) (hN : ∀ d, o.dst = some d → d < N) (hei : EInfo P e z sz by_) (hz : ∀ v ∈ z.cells.toList, v.oneCell' = true)
    (k : ∀ b, K (s.upd o.dst (.ptr b 0) (.box b e (z.cells.toList.map fun v => OC.d (.ex v)) :: s.tab))) : OpT P N o s K := by
  intro F L a w hr
  obtain ⟨L', h2, h3⟩ := Rel.box (N := N) (s := s) (a := a) (dst := o.dst) (cells := z.cells) (l := z.cells.toList.map DC.ex) (e := e) hr hN (RepL.zeros hz)
  have hrun : (execOp a.eval o).run P w = .ok (.value (.pointer (some ⟨w.heap.size, 0, none⟩))) (w.alloc (.cells z.cells e)) := by
    simp [execOp, ho, Instr.alloc, newVar, newRow, hei.zeroValue]
  unfold Oper.wp
  rw [hrun, Oper.upon_value]
  refine ⟨L', _, k w.heap.size, ?_, h3⟩
  simpa [List.map_map, Function.comp_def] using h2

/-- A datum at a place among owned cells. -/
theorem CellsR.getD {w : World} {M : Reg} {vs : List Value} {cs : List OC} {r : Reg} (h : CellsR w M vs cs r) : ∀ {i : Nat} {c : DC}, cs[i]? = some (.d c) → ∃ v, vs[i]? = some v ∧ RepC w M v c := by
  induction h with
  | nil => intro i c h; simp at h
  | cons v c r vs cs rs h t ih =>
    intro i c' hc
    cases i with
    | zero =>
      simp at hc; subst hc
      cases h with | d _ h => exact ⟨v, rfl, h⟩
    | succ i => exact ih (by simpa using hc)
theorem CellsR.getDs {w : World} {M : Reg} {vs : List Value} {cs : List OC} {r : Reg} (h : CellsR w M vs cs r) {off : Nat} {l : List DC} (hl : (cs.drop off).take l.length = l.map OC.d) : RepL w M ((vs.drop off).take l.length) l := by
  have hlen : l.length ≤ cs.length - off := by
    have := congrArg List.length hl; simp at this; omega
  refine ⟨by have := h.length; simp; omega, fun i v c hv hc => ?_⟩
  have hi : i < l.length := (List.getElem?_eq_some_iff.1 hc).1
  have h1 : ((cs.drop off).take l.length)[i]? = some (.d c) := by rw [hl]; simp [hc]
  simp only [List.getElem?_take, hi, if_true, List.getElem?_drop] at h1 hv
  obtain ⟨u, hu, hrep⟩ := h.getD h1
  rw [hu] at hv
  cases hv
  exact hrep

theorem OpT.loadBox {t : TypeId} {dt : TypeDesc} {x : Operand} {b off i : Nat} {e : TypeId} {cells : List OC} {d : DC} (ho : o.op = .load t x) (hN : ∀ d, o.dst = some d → d < N) (ht : P.underlying t = some dt) (hfl : TypeDesc.flat dt = true)
    (hx : s.ev x = some (.ptr b off)) (hi : s.tab[i]? = some (.box b e cells)) (hd : cells[off]? = some (.d d)) (k : K (s.putO o.dst (.c d))) : OpT P N o s K :=
  OpT.still _ hN (fun F L a w hr => by
    obtain ⟨r1, r2, h1, -, -⟩ := hr.heap.get hi
    cases h1 with
    | box _ _ cs _ r hb h =>
      obtain ⟨v, hv, hrep⟩ := h.getD hd
      have hcell : w.cell? ⟨b, off, none⟩ = some v := by rw [cell_of_row w b off cs e _ hb]; simpa using hv
      exact ⟨v, by simp [execOp, ho, hr.exact hx, Instr.loadAt, Instr.sureAddr, loadVar, run_isAgg ht, hfl, hcell], .c _ _ hrep⟩) k
theorem OpT.loadBoxAgg {t : TypeId} {dt : TypeDesc} {x : Operand} {b off i : Nat} {e : TypeId} {cells : List OC} {l : List DC} {z : Value} {sz by_ : Nat} (ho : o.op = .load t x) (hN : ∀ d, o.dst = some d → d < N) (ht : P.underlying t = some dt) (hfl : TypeDesc.flat dt = false)
    (hei : EInfo P t z sz by_) (hx : s.ev x = some (.ptr b off)) (hi : s.tab[i]? = some (.box b e cells)) (hl : l.length = sz) (hd : (cells.drop off).take sz = l.map OC.d) (k : K (s.putO o.dst (.agg l))) : OpT P N o s K :=
  OpT.still _ hN (fun F L a w hr => by
    obtain ⟨r1, r2, h1, -, -⟩ := hr.heap.get hi
    cases h1 with
    | box _ _ cs _ r hb h =>
      subst hl
      have hrep := h.getDs hd
      have hlen : l.length ≤ (cs.toList.drop off).length := by have := hrep.1; simp at this ⊢; omega
      have hld := run_loadCells_at (P := P) (w := w) (b := b) (off := off) (vs := cs.toList.drop off) l.length (fun i v hv => by
        rw [cell_of_row w b (off + i) cs e _ hb]; simpa using hv) hlen
      refine ⟨.agg ((cs.toList.drop off).take l.length).toArray, ?_, .agg _ _ (by simpa using hrep)⟩
      simp [execOp, ho, hr.exact hx, Instr.loadAt, Instr.sureAddr, loadVar, run_isAgg ht, hfl, hei.sizeOf, hld]) k

theorem CellsR.setDs {w : World} {M : Reg} : ∀ {us : List Value} {ds : List DC} {vs : List Value} {cs : List OC} {r : Reg} {off : Nat}, CellsR w M vs cs r → RepL w M us ds → off + us.length ≤ vs.length →
    ∃ r', CellsR w M (vs.take off ++ us ++ vs.drop (off + us.length)) (cs.take off ++ ds.map OC.d ++ cs.drop (off + ds.length)) r' ∧ r'.Sublist r := by
  intro us ds vs
  induction vs with
  | nil =>
    intro cs r off h hu hl
    have : us = [] := List.eq_nil_of_length_eq_zero (by have h1 : off + us.length ≤ 0 := hl; omega)
    subst this
    have : ds = [] := List.eq_nil_of_length_eq_zero (by have := hu.1; simpa using this.symm)
    subst this
    cases h
    exact ⟨[], by simpa using CellsR.nil, by simp⟩
  | cons v vs ih =>
    intro cs r off h hu hl
    cases h with
    | cons _ c r _ cs rs h t =>
      cases off with
      | zero =>
        have happ : ∀ {us : List Value} {ds : List DC} {xs : List Value} {ys : List OC} {r : Reg}, RepL w M us ds → CellsR w M xs ys r → CellsR w M (us ++ xs) (ds.map OC.d ++ ys) r := by
          intro us
          induction us with
          | nil => intro ds xs ys r hu hx; cases ds with | nil => simpa using hx | cons d ds => exact absurd hu.1 (by simp)
          | cons u us ihu =>
            intro ds xs ys r hu hx
            cases ds with
            | nil => exact absurd hu.1 (by simp)
            | cons d ds => exact .cons u (.d d) [] _ _ r (.d u d hu.uncons.1) (ihu hu.uncons.2 hx)
        have hdrop : ∀ {xs : List Value} {ys : List OC} {r : Reg}, CellsR w M xs ys r → ∀ n, ∃ r', CellsR w M (xs.drop n) (ys.drop n) r' ∧ r'.Sublist r := by
          intro xs ys r hx
          induction hx with
          | nil => intro n; exact ⟨[], by simpa using CellsR.nil, by simp⟩
          | cons v c r vs cs rs h t ih =>
            intro n
            cases n with
            | zero => exact ⟨r ++ rs, .cons v c r vs cs rs h t, List.Sublist.refl _⟩
            | succ n =>
              obtain ⟨r', h1, h2⟩ := ih n
              exact ⟨r', h1, h2.trans (List.sublist_append_right r rs)⟩
        obtain ⟨r', h1, h2⟩ := hdrop (CellsR.cons v c r vs cs rs h t) us.length
        refine ⟨r', ?_, h2⟩
        have := happ hu h1
        simpa [hu.1] using this
      | succ off =>
        obtain ⟨r', h1, h2⟩ := ih (off := off) t hu (by simp only [List.length_cons] at hl; omega)
        refine ⟨r ++ r', ?_, h2.append_left r⟩
        have := CellsR.cons v c r _ _ r' h h1
        simpa [Nat.succ_add, Nat.add_right_comm] using this

theorem storeCells_ext {w : World} {b : Nat} {e : TypeId} {cs cs' : Array Value} {r r' : Reg} (_hb : w.heap[b]? = some (.cells cs e (0, 0))) (hsub : r'.Sublist r) :
    Ext ((b, 0) :: r) w ((b, 0) :: r') (w.setRow b cs') where
  os := rfl
  tape := rfl
  output := rfl
  size := by simp
  block k hk hn := setRow_other w b k cs' (fun h => hn 0 (by simp [h]))
  cell k off hk hn := cell_setRow_other w b cs' ⟨k, off, none⟩ (fun h => hn ⟨0, by simp at h; simp [h], Nat.zero_le _⟩)
  mono k off hk hw := by
    obtain ⟨l, hl, hle⟩ := hw
    rcases List.mem_cons.1 hl with h | h
    · exact ⟨l, by simp [h], hle⟩
    · exact ⟨l, List.mem_cons_of_mem _ (hsub.subset h), hle⟩
  blocks k l hk hl := by
    rcases List.mem_cons.1 hl with h | h
    · exact ⟨l, by simp [h]⟩
    · exact ⟨l, List.mem_cons_of_mem _ (hsub.subset h)⟩

theorem Rel.storeBox {w : World} {F L : Reg} {a : Act} {b off i : Nat} {e : TypeId} {cells : List OC} {us : List Value} {ds : List DC} (hr : Rel w N F L s a) (hi : s.tab[i]? = some (.box b e cells)) (hu : RepL w (L ++ F) us ds) (hl : off + ds.length ≤ cells.length) :
    ∃ cs : Array Value, w.heap[b]? = some (.cells cs e (0, 0)) ∧ off + us.length ≤ cs.size ∧
      ∃ L', Rel (w.setRow b (cs.toList.take off ++ us ++ cs.toList.drop (off + us.length)).toArray) N F L' { s with tab := s.tab.set i (.box b e (cells.take off ++ ds.map OC.d ++ cells.drop (off + ds.length))) } a ∧
        Ext L w L' (w.setRow b (cs.toList.take off ++ us ++ cs.toList.drop (off + us.length)).toArray) := by
  obtain ⟨r, R, ho, hwr, hnd, hlt, hdis, hgo⟩ := hr.touch hi
  cases ho with
  | box _ _ cs _ r hb h =>
    have hlen := h.length
    simp only [Array.length_toList] at hlen
    refine ⟨cs, hb, by rw [hu.1, hlen]; exact hl, ?_⟩
    obtain ⟨r', h1, hsub⟩ := CellsR.setDs (off := off) h (hu.congr hwr) (by simp only [Array.length_toList]; rw [hu.1, hlen]; exact hl)
    have hx := storeCells_ext (cs' := (cs.toList.take off ++ us ++ cs.toList.drop (off + us.length)).toArray) hb hsub
    have hf : Fits w (w.setRow b (cs.toList.take off ++ us ++ cs.toList.drop (off + us.length)).toArray) ((b, 0) :: r) ((b, 0) :: r') := by
      refine ⟨hx, ?_, ?_⟩
      · exact List.Nodup.sublist ((hsub.cons_cons (b, 0)).map _) hnd
      · intro p hp
        simp only [setRow_size]
        exact hlt p ((hsub.cons_cons (b, 0)).subset hp)
    have hob : ObR (w.setRow b (cs.toList.take off ++ us ++ cs.toList.drop (off + us.length)).toArray) (((b, 0) :: r') ++ R) (.box b e (cells.take off ++ ds.map OC.d ++ cells.drop (off + ds.length))) ((b, 0) :: r') := by
      refine .box b e _ _ r' (setRow_heap w b cs _ e _ hb) ?_
      -- what is owned through the cells lies elsewhere
      have hx2 : Ext [(b, 0)] w [(b, 0)] (w.setRow b (cs.toList.take off ++ us ++ cs.toList.drop (off + us.length)).toArray) := storeCells_ext (r := []) (r' := []) hb (List.Sublist.refl _)
      have := h1.step hx2 (fun p hp lim hm => by
        simp at hm
        have h3 : b ∉ r.map (·.1) := by rw [List.map_cons, List.nodup_cons] at hnd; exact hnd.1
        exact h3 (by
          have := List.mem_map_of_mem (f := (·.1)) (hsub.subset hp)
          rw [hm.1] at this
          exact this)) (hx.frame R)
      simpa using this
    obtain ⟨L', h2, h3⟩ := hgo _ _ _ none undef .any hf (fun d hd => by cases hd) hob (.any _)
    exact ⟨L', by simpa [St.upd, St.putO, Act.put] using h2, h3⟩

theorem OpT.storeBox {t : TypeId} {x y : Operand} {b off i : Nat} {e : TypeId} {cells : List OC} {d : DC} {z : Value} {by_ : Nat} (ho : o.op = .store t x y) (hdst : o.dst = none) (hei : EInfo P t z 1 by_)
    (hx : s.ev x = some (.ptr b off)) (hy : s.ev y = some (.c d)) (hi : s.tab[i]? = some (.box b e cells)) (hl : off < cells.length) (k : K { s with tab := s.tab.set i (.box b e (cells.take off ++ [OC.d d] ++ cells.drop (off + 1))) }) : OpT P N o s K := by
  intro F L a w hr
  have h := hr.ev hy
  generalize hq : a.eval y = q at h
  cases h with
  | c _ _ h =>
    obtain ⟨cs, hb, hfit, L', h2, h3⟩ := hr.storeBox (off := off) (us := [q]) (ds := [d]) hi (RepL.cons h RepL.nil) (by simp only [List.length_singleton]; omega)
    have hst := run_storeCells_at P b off e [q] 0 cs w hb (by simpa using hfit) (by simpa using h.one)
    have hcells : q.cells = #[q] := by
      have := h.one
      cases q <;> first | rfl | (simp [Value.oneCell'] at this)
    have hrun : (execOp a.eval o).run P w = .ok .skip (w.setRow b (cs.toList.take off ++ [q] ++ cs.toList.drop (off + [q].length)).toArray) := by
      simp only [Nat.add_zero] at hst
      simp [execOp, ho, hr.exact hx, hq, Instr.storeAt, Instr.sureAddr, storeVar, hei.sizeOf, hcells]
      simp at hst
      simp [hst]
    unfold Oper.wp
    rw [hrun, Oper.upon_skip, hdst]
    exact ⟨L', _, k, by simpa [Act.put] using h2, h3⟩
theorem OpT.storeBoxAgg {t : TypeId} {x y : Operand} {b off i : Nat} {e : TypeId} {cells : List OC} {l : List DC} {z : Value} {sz by_ : Nat} (ho : o.op = .store t x y) (hdst : o.dst = none) (hei : EInfo P t z sz by_)
    (hx : s.ev x = some (.ptr b off)) (hy : s.ev y = some (.agg l)) (hls : l.length = sz) (hi : s.tab[i]? = some (.box b e cells)) (hl : off + sz ≤ cells.length) (k : K { s with tab := s.tab.set i (.box b e (cells.take off ++ l.map OC.d ++ cells.drop (off + l.length))) }) : OpT P N o s K := by
  intro F L a w hr
  have h := hr.ev hy
  generalize hq : a.eval y = q at h
  cases h with
  | agg vs _ h =>
    obtain ⟨cs, hb, hfit, L', h2, h3⟩ := hr.storeBox (off := off) (us := vs.toList) (ds := l) hi h (by omega)
    have hst := run_storeCells_at P b off e vs.toList 0 cs w hb (by simpa using hfit) h.one
    have hvs : vs.size = sz := by have := h.1; simp at this; omega
    have hrun : (execOp a.eval o).run P w = .ok .skip (w.setRow b (cs.toList.take off ++ vs.toList ++ cs.toList.drop (off + vs.toList.length)).toArray) := by
      simp only [Nat.add_zero] at hst
      simp [execOp, ho, hr.exact hx, hq, Instr.storeAt, Instr.sureAddr, storeVar, hei.sizeOf, Value.cells, hvs]
      simp [hvs] at hst
      simp [hst]
    unfold Oper.wp
    rw [hrun, Oper.upon_skip, hdst]
    exact ⟨L', _, k, h2, h3⟩
end

end Go.Rv
