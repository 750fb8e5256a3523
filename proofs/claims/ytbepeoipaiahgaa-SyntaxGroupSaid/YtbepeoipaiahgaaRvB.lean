/- A LOGIC OF ABSTRACT STATES OVER THE MODEL, part B: owned memory stays where something else is written; states; the judgement, and its rules for control. -/
import Derived.Test.YtbepeoipaiahgaaRvA
namespace Go.Rv

theorem OwnR.step {w w' : World} {M M' K K' : Reg} {v : Value} {e : TypeId} {esz : Nat} {elems : List (List DC)} {r : Reg} (h : OwnR w M v e esz elems r) (x : Ext K w K' w')
    (hd : ∀ p ∈ r, ∀ lim, (p.1, lim) ∉ K) (y : Ext M w M' w') : OwnR w' M' v e esz elems r := by
  cases h with
  | nil => exact .nil _ _ _
  | full _ _ _ _ h => exact .full _ _ _ _ (h.step y)
  | some g cap cur e esz elems hg hn hm hcs hz hnw hr =>
    have hlt := lt_of_block hg
    refine .some g cap cur e esz elems ?_ hn hm hcs hz (fun off ho hw => hnw off ho (y.mono _ _ hlt hw)) (hr.step y)
    rw [x.block g hlt (hd _ (List.mem_singleton.2 rfl))]
    exact hg
theorem CellR.step {w w' : World} {M M' K K' : Reg} {v : Value} {c : OC} {r : Reg} (h : CellR w M v c r) (x : Ext K w K' w')
    (hd : ∀ p ∈ r, ∀ lim, (p.1, lim) ∉ K) (y : Ext M w M' w') : CellR w' M' v c r := by
  cases h with
  | d c h => exact .d v c (h.step y)
  | own e esz elems r h => exact .own v e esz elems r (h.step x hd y)
theorem CellsR.step {w w' : World} {M M' K K' : Reg} {vs : List Value} {cs : List OC} {r : Reg} (h : CellsR w M vs cs r) (x : Ext K w K' w')
    (hd : ∀ p ∈ r, ∀ lim, (p.1, lim) ∉ K) (y : Ext M w M' w') : CellsR w' M' vs cs r := by
  induction h with
  | nil => exact .nil
  | cons v c r vs cs rs h t ih =>
    exact .cons v c r vs cs rs (h.step x (fun p hp => hd p (List.mem_append.2 (.inl hp))) y) (ih fun p hp => hd p (List.mem_append.2 (.inr hp)))
theorem ObR.step {w w' : World} {M M' K K' : Reg} {o : Ob} {r : Reg} (h : ObR w M o r) (x : Ext K w K' w')
    (hd : ∀ p ∈ r, ∀ lim, (p.1, lim) ∉ K) (y : Ext M w M' w') : ObR w' M' o r := by
  induction h with
  | box b e cs cells r hb h =>
    refine .box b e cs cells r ?_ (h.step x (fun p hp => hd p (List.mem_cons_of_mem _ hp)) y)
    rw [x.block b (lt_of_block hb) (hd (b, 0) (List.mem_cons_self ..))]; exact hb
  | arrX0 a e esz => exact .arrX0 a e esz
  | arrX g cap cur e esz lo elems hg hlo hn hm hcs hz hnw hr =>
    have hlt := lt_of_block hg
    refine .arrX g cap cur e esz lo elems ?_ hlo hn hm hcs hz (fun off ho hw => hnw off ho (y.mono _ _ hlt hw)) (hr.step y)
    rw [x.block g hlt (hd _ (List.mem_singleton.2 rfl))]; exact hg
  | arrA v e esz elems r h => exact .arrA v e esz elems r (h.step x hd y)
  | ro g vs cells h hc =>
    refine .ro g vs cells (h.step y) (fun i v hi => ?_)
    obtain ⟨h1, h2⟩ := hc i v hi
    have hb := cell_lt h1
    exact ⟨(y.cell _ _ hb h2).trans h1, fun hw' => h2 (y.mono _ _ hb hw')⟩
  | forkIn v v1 e esz elems ys r hc h ih => exact .forkIn v v1 e esz elems ys r hc (ih hd)
  | forkNew v v1 e esz elems ys r1 r2 h1 h2 ih1 ih2 => exact .forkNew v v1 e esz elems ys r1 r2 (ih1 fun p hp => hd p (List.mem_append.2 (.inl hp))) (ih2 fun p hp => hd p (List.mem_append.2 (.inr hp)))
theorem HeapR.step {w w' : World} {M M' K K' : Reg} {t : List Ob} {r : Reg} (h : HeapR w M t r) (x : Ext K w K' w')
    (hd : ∀ p ∈ r, ∀ lim, (p.1, lim) ∉ K) (y : Ext M w M' w') : HeapR w' M' t r := by
  induction h with
  | nil => exact .nil
  | cons o r t rs h k ih => exact .cons o r t rs (h.step x (fun p hp => hd p (List.mem_append.2 (.inl hp))) y) (ih fun p hp => hd p (List.mem_append.2 (.inr hp)))

/- The same where the reach is told by another list of the same members. -/
theorem RepL.congr {w : World} {M M' : Reg} {vs : List Value} {ds : List DC} (h : RepL w M vs ds) (hs : ∀ b off, Wr M' b off ↔ Wr M b off) : RepL w M' vs ds := h.less fun b o => (hs b o).1
theorem OwnR.congr {w : World} {M M' : Reg} {v : Value} {e : TypeId} {esz : Nat} {elems : List (List DC)} {r : Reg} (h : OwnR w M v e esz elems r) (hs : ∀ b off, Wr M' b off ↔ Wr M b off) : OwnR w M' v e esz elems r := by
  cases h with
  | nil => exact .nil _ _ _
  | full _ _ _ _ h => exact .full _ _ _ _ (h.less fun b o => (hs b o).1)
  | some g cap cur e esz elems hg hn hm hcs hz hnw hr => exact .some g cap cur e esz elems hg hn hm hcs hz (fun off ho hw => hnw off ho ((hs _ _).1 hw)) (hr.congr hs)
theorem CellR.congr {w : World} {M M' : Reg} {v : Value} {c : OC} {r : Reg} (h : CellR w M v c r) (hs : ∀ b off, Wr M' b off ↔ Wr M b off) : CellR w M' v c r := by
  cases h with
  | d c h => exact .d v c (h.less fun b o => (hs b o).1)
  | own e esz elems r h => exact .own v e esz elems r (h.congr hs)
theorem CellsR.congr {w : World} {M M' : Reg} {vs : List Value} {cs : List OC} {r : Reg} (h : CellsR w M vs cs r) (hs : ∀ b off, Wr M' b off ↔ Wr M b off) : CellsR w M' vs cs r := by
  induction h with
  | nil => exact .nil
  | cons v c r vs cs rs h t ih => exact .cons v c r vs cs rs (h.congr hs) ih
theorem ObR.congr {w : World} {M M' : Reg} {o : Ob} {r : Reg} (h : ObR w M o r) (hs : ∀ b off, Wr M' b off ↔ Wr M b off) : ObR w M' o r := by
  induction h with
  | box b e cs cells r hb h => exact .box b e cs cells r hb (h.congr hs)
  | arrX0 a e esz => exact .arrX0 a e esz
  | arrX g cap cur e esz lo elems hg hlo hn hm hcs hz hnw hr => exact .arrX g cap cur e esz lo elems hg hlo hn hm hcs hz (fun off ho hw => hnw off ho ((hs _ _).1 hw)) (hr.congr hs)
  | arrA v e esz elems r h => exact .arrA v e esz elems r (h.congr hs)
  | ro g vs cells h hc => exact .ro g vs cells (h.congr hs) (fun i v hi => ⟨(hc i v hi).1, fun h' => (hc i v hi).2 ((hs _ _).1 h')⟩)
  | forkIn v v1 e esz elems ys r hc h ih => exact .forkIn v v1 e esz elems ys r hc ih
  | forkNew v v1 e esz elems ys r1 r2 h1 h2 ih1 ih2 => exact .forkNew v v1 e esz elems ys r1 r2 ih1 ih2
theorem HeapR.congr {w : World} {M M' : Reg} {t : List Ob} {r : Reg} (h : HeapR w M t r) (hs : ∀ b off, Wr M' b off ↔ Wr M b off) : HeapR w M' t r := by
  induction h with
  | nil => exact .nil
  | cons o r t rs h k ih => exact .cons o r t rs (h.congr hs) ih

/-- A state: what slots hold (the first row of a slot counts), and what memory is owned. -/
structure St where
  slots : List (Nat × AV)
  tab : List Ob

structure Rel (w : World) (N : Nat) (F L : Reg) (s : St) (a : Act) : Prop where
  defers : a.defers = []
  size : a.tmps.size = N
  slot : ∀ t v, s.slots.lookup t = some v → AvR w (L ++ F) (a.tmps.getD t undef) v
  heap : HeapR w (L ++ F) s.tab L
  nodup : ((L ++ F).map (·.1)).Nodup
  lt : ∀ p ∈ L ++ F, p.1 < w.heap.size

def constAV : Value → AV
  | .agg _ => .any
  | .tuple _ => .any
  | v => .c (.ex v)
theorem constAV_rel (w : World) (M : Reg) (v : Value) : AvR w M v (constAV v) := by
  cases v <;> first | exact .any _ | exact .c _ _ (.ex _ rfl)

def St.ev (s : St) : Operand → Option AV
  | .tmp t => s.slots.lookup t
  | .const v => some (constAV v)
  | .global g => some (.c (.ex (.pointer (some ⟨g, 0, none⟩))))
  | .func f => some (.c (.ex (.func (.func f) #[] #[])))
theorem Rel.ev {w : World} {N : Nat} {F L : Reg} {s : St} {a : Act} (h : Rel w N F L s a) {x : Operand} {v : AV} (hx : s.ev x = some v) : AvR w (L ++ F) (a.eval x) v := by
  cases x with
  | tmp t => exact h.slot t v hx
  | const c => simp only [St.ev, Option.some.injEq] at hx; subst hx; exact constAV_rel _ _ _
  | global g => simp only [St.ev, Option.some.injEq] at hx; subst hx; exact .c _ _ (.ex _ rfl)
  | func f => simp only [St.ev, Option.some.injEq] at hx; subst hx; exact .c _ _ (.ex _ rfl)

def St.put (s : St) (d : Nat) (v : AV) : St := { s with slots := (d, v) :: s.slots }
def St.putO (s : St) : Option Nat → AV → St
  | some d, v => s.put d v
  | none, _ => s

def St.upd (s : St) (o : Option Nat) (v : AV) (tab : List Ob) : St := ⟨(s.putO o v).slots, tab⟩

theorem getD_set_ne (xs : Array Value) (d t : Nat) (v u : Value) (h : t ≠ d) : (xs.setIfInBounds d v).getD t u = xs.getD t u := by
  simp only [Array.getD_eq_getD_getElem?, Array.getElem?_setIfInBounds]
  rw [if_neg (fun e => h e.symm)]
theorem getD_set_self (xs : Array Value) (d : Nat) (v u : Value) (h : d < xs.size) : (xs.setIfInBounds d v).getD d u = v := by
  simp [Array.getD_eq_getD_getElem?, h]

/-- The world goes on, owned memory as told, and a slot is set. -/
theorem Rel.next {w w' : World} {N : Nat} {F L L' : Reg} {s : St} {tab : List Ob} {a : Act} {o : Option Nat} {v : Value} {x : AV} (h : Rel w N F L s a) (e : Ext L w L' w')
    (hN : ∀ d, o = some d → d < N) (hv : AvR w' (L' ++ F) v x) (hh : HeapR w' (L' ++ F) tab L') (hnd : ((L' ++ F).map (·.1)).Nodup) (hlt : ∀ p ∈ L', p.1 < w'.heap.size) :
    Rel w' N F L' (s.upd o x tab) (a.put o v) where
  defers := by cases o <;> exact h.defers
  size := by
    cases o with
    | none => exact h.size
    | some d => simpa [Act.put] using h.size
  slot t u hu := by
    cases o with
    | none => exact (h.slot t u hu).step (e.frame F)
    | some d =>
      have hd := hN d rfl
      simp only [St.upd, St.putO, St.put, List.lookup_cons] at hu
      by_cases htd : t = d
      · subst htd
        simp at hu
        subst hu
        simp only [Act.put]
        rw [getD_set_self _ _ _ _ (by rw [h.size]; exact hd)]
        exact hv
      · have hb : (t == d) = false := by simp [htd]
        rw [hb] at hu
        simp only [Act.put]
        rw [getD_set_ne _ _ _ _ _ htd]
        exact (h.slot t u hu).step (e.frame F)
  heap := hh
  nodup := hnd
  lt p hp := by
    rcases List.mem_append.1 hp with hp | hp
    · exact hlt p hp
    · exact Nat.lt_of_lt_of_le (h.lt p (List.mem_append.2 (.inr hp))) e.size

/-- A slot alone is set. -/
theorem Rel.put {w : World} {N : Nat} {F L : Reg} {s : St} {a : Act} {o : Option Nat} {v : Value} {x : AV} (h : Rel w N F L s a)
    (hN : ∀ d, o = some d → d < N) (hv : AvR w (L ++ F) v x) : Rel w N F L (s.putO o x) (a.put o v) := by
  have := h.next (tab := s.tab) (Ext.refl L w) hN hv h.heap h.nodup (fun p hp => h.lt p (List.mem_append.2 (.inl hp)))
  cases o <;> exact this

/-- THE JUDGEMENT: from any frame and world that the state tells of, the code comes to an exit and a state of which Q holds. -/
def T (P : Program) (N : Nat) (c : Code) (s : St) (Q : Exit → St → Prop) : Prop :=
  ∀ F L a w, Rel w N F L s a → c.wp P (fun e a' w' => ∃ L' s', Q e s' ∧ Rel w' N F L' s' a' ∧ Ext L w L' w') a w

section
variable {P : Program} {N : Nat} {s : St} {Q : Exit → St → Prop}

theorem T.mono {c : Code} {Q' : Exit → St → Prop} (h : T P N c s Q) (hq : ∀ e s, Q e s → Q' e s) : T P N c s Q' :=
  fun F L a w hr => wp_mono (h F L a w hr) fun _ _ _ ⟨L', s', q, r, x⟩ => ⟨L', s', hq _ _ q, r, x⟩

/-- Less is told. -/
theorem T.forget {c : Code} {s' : St} (hs : ∀ t v, s'.slots.lookup t = some v → s.slots.lookup t = some v) (ht : s'.tab = s.tab) (h : T P N c s' Q) : T P N c s Q :=
  fun F L a w hr => h F L a w ⟨hr.defers, hr.size, fun t v hv => hr.slot t v (hs t v hv), ht ▸ hr.heap, hr.nodup, hr.lt⟩

def thenS (next : St → Prop) (Q : Exit → St → Prop) : Exit → St → Prop
  | .normal, s => next s
  | e, s => Q e s
theorem T.seq {x y : Code} (h : T P N x s (thenS (fun s' => T P N y s' Q) Q)) : T P N (.seq x y) s Q := by
  intro F L a w hr
  refine wp_seq (wp_mono (h F L a w hr) ?_)
  rintro e a' w' ⟨L', s', q, r, x⟩
  cases e with
  | normal => exact wp_mono (q F L' a' w' r) fun _ _ _ ⟨L2, s2, q2, r2, x2⟩ => ⟨L2, s2, q2, r2, x.trans x2⟩
  | exit id => exact ⟨L', s', q, r, x⟩
  | goto l => exact ⟨L', s', q, r, x⟩
  | ret => exact ⟨L', s', q, r, x⟩
  | panic ch => exact ⟨L', s', q, r, x⟩
  | outgrown => exact ⟨L', s', q, r, x⟩
theorem T.skip (h : Q .normal s) : T P N .skip s Q := fun _ L _ w hr => wp_skip ⟨L, s, h, hr, Ext.refl _ w⟩
theorem T.ret (h : Q .ret s) : T P N .ret s Q := fun _ L _ w hr => wp_ret ⟨L, s, h, hr, Ext.refl _ w⟩
theorem T.exit {id : Nat} (h : Q (.exit id) s) : T P N (.exit id) s Q := fun _ L _ w hr => wp_exit ⟨L, s, h, hr, Ext.refl _ w⟩

theorem RepC.exact {w : World} {M : Reg} {v x : Value} (h : RepC w M v (.ex x)) : v = x ∧ x.oneCell' = true := by
  cases h
  exact ⟨rfl, by assumption⟩
theorem AvR.exact {w : World} {M : Reg} {v x : Value} (h : AvR w M v (.c (.ex x))) : v = x ∧ x.oneCell' = true := by
  cases h
  rename_i h
  exact h.exact
theorem evBool {w : World} {F L : Reg} {a : Act} {x : Operand} {b : Bool} (hr : Rel w N F L s a) (hx : s.ev x = some (.c (.ex (.bool b)))) : a.eval x = .bool b := by
  exact (hr.ev hx).exact.1
theorem T.cond {c : Operand} {x y : Code} {b : Bool} (hc : s.ev c = some (.c (.ex (.bool b)))) (ht : b = true → T P N x s Q) (hf : b = false → T P N y s Q) : T P N (.cond c x y) s Q := by
  intro F L a w hr
  refine wp_cond_split (evBool hr hc) (fun h => ht h F L a w hr) (fun h => hf h F L a w hr)

def inBlockS (id : Nat) (Q : Exit → St → Prop) : Exit → St → Prop
  | .exit id', s => if id' = id then Q .normal s else Q (.exit id') s
  | e, s => Q e s
theorem T.block {id : Nat} {c : Code} (h : T P N c s (inBlockS id Q)) : T P N (.block id c) s Q := by
  intro F L a w hr
  refine wp_block (wp_mono (h F L a w hr) ?_)
  rintro e a' w' ⟨L', s', q, r, x⟩
  cases e with
  | exit id' =>
    simp only [inBlockS] at q
    simp only [Exit.inBlock]
    split
    · rename_i hid; rw [if_pos hid] at q; exact ⟨L', s', q, r, x⟩
    · rename_i hid; rw [if_neg hid] at q; exact ⟨L', s', q, r, x⟩
  | normal => exact ⟨L', s', q, r, x⟩
  | goto l => exact ⟨L', s', q, r, x⟩
  | ret => exact ⟨L', s', q, r, x⟩
  | panic ch => exact ⟨L', s', q, r, x⟩
  | outgrown => exact ⟨L', s', q, r, x⟩

/-- A loop at its head. -/
def TL (P : Program) (N : Nat) (c : Code) (s : St) (Q : Exit → St → Prop) : Prop :=
  ∀ F L a w, Rel w N F L s a → ∀ (b : Frame) (k : List Item) (cs : List Frame),
    ∃ e a' w', (∃ L' s', Q e s' ∧ Rel w' N F L' s' a' ∧ Ext L w L' w') ∧ Arrives P (lone (b.at a (.code c :: .inLoop c :: k)) cs w) b k cs e a' w'
theorem TL.forget {c : Code} {s' : St} (hs : ∀ t v, s'.slots.lookup t = some v → s.slots.lookup t = some v) (ht : s'.tab = s.tab) (h : TL P N c s' Q) : TL P N c s Q :=
  fun F L a w hr => h F L a w ⟨hr.defers, hr.size, fun t v hv => hr.slot t v (hs t v hv), ht ▸ hr.heap, hr.nodup, hr.lt⟩
theorem T.loop {c : Code} (h : TL P N c s Q) : T P N (.loop c) s Q := by
  intro F L a w hr b k cs
  obtain ⟨e, a', w', hq, harr⟩ := h F L a w hr b k cs
  exact ⟨e, a', w', hq, .of_steps (.one step_loop) harr⟩
theorem TL.round {c : Code} (h : T P N c s (thenS (fun s' => TL P N c s' Q) Q)) : TL P N c s Q := by
  intro F L a w hr b k cs
  obtain ⟨e, a1, w1, ⟨L1, s1, q, r, x⟩, harr⟩ := h F L a w hr b (.inLoop c :: k) cs
  cases e with
  | normal =>
    obtain ⟨e2, a2, w2, ⟨L2, s2, q2, r2, x2⟩, harr2⟩ := q F L1 a1 w1 r b k cs
    exact ⟨e2, a2, w2, ⟨L2, s2, q2, r2, x.trans x2⟩, .of_steps (Steps.trans harr (.one step_inLoop)) harr2⟩
  | exit id => exact ⟨_, a1, w1, ⟨L1, s1, q, r, x⟩, .pass (x := .inLoop c) rfl (fun _ _ => .inl (by simp)) harr⟩
  | goto l => exact ⟨_, a1, w1, ⟨L1, s1, q, r, x⟩, .pass (x := .inLoop c) rfl (fun _ _ => .inl (by simp)) harr⟩
  | ret => exact ⟨_, a1, w1, ⟨L1, s1, q, r, x⟩, .pass (x := .inLoop c) rfl (fun _ _ => .inl (by simp)) harr⟩
  | panic ch => exact ⟨_, a1, w1, ⟨L1, s1, q, r, x⟩, .pass (x := .inLoop c) rfl (fun _ _ => .inl (by simp)) harr⟩
  | outgrown => exact ⟨_, a1, w1, ⟨L1, s1, q, r, x⟩, .pass (x := .inLoop c) rfl (fun _ _ => .inl (by simp)) harr⟩

/-- One operation. -/
def OpT (P : Program) (N : Nat) (o : Oper) (s : St) (K : St → Prop) : Prop :=
  ∀ F L a w, Rel w N F L s a → o.wp P a w (fun a' w' => ∃ L' s', K s' ∧ Rel w' N F L' s' a' ∧ Ext L w L' w') (fun _ _ _ => False)
theorem upon_mono {o : Oper} {a : Act} {n n' : Act → World → Prop} {q q' : Exit → Act → World → Prop} {x : Result Next} (h : o.upon P a n q x) (hn : ∀ a w, n a w → n' a w) (hq : ∀ e a w, q e a w → q' e a w) : o.upon P a n' q' x := by
  unfold Oper.upon at h ⊢
  split
  · exact hn _ _ h
  · exact hn _ _ h
  · exact hn _ _ h
  · refine Calls.mono h fun e w' he => ?_
    cases e with
    | returned v => exact hn _ _ he
    | panicked ch => exact hq _ _ _ he
    | outgrown => obtain ⟨a0, w0, h0⟩ := he; exact ⟨a0, w0, hq _ _ _ h0⟩
  · exact Rows.mono h fun v w' hv => hn _ _ hv
  · exact hq _ _ _ h
  · rename_i h1 h2 h3 h4 h5 h6
    split at h
    · exact (h1 _ _ rfl).elim
    · exact (h2 _ rfl).elim
    · exact (h3 _ _ rfl).elim
    · exact (h4 _ _ _ rfl).elim
    · exact (h5 _ _ _ rfl).elim
    · exact (h6 _ _ rfl).elim
    · exact h

/-- A region's operations, those that are left. -/
def TO (P : Program) (N : Nat) (ops : Array Oper) (l : List Nat) (s : St) (Q : Exit → St → Prop) : Prop :=
  ∀ F L a w, Rel w N F L s a → wpOps P ops (fun e a' w' => ∃ L' s', Q e s' ∧ Rel w' N F L' s' a' ∧ Ext L w L' w') l a w
theorem T.region {id : Nat} {ops : Array Oper} (h : TO P N ops (List.range ops.size) s Q) : T P N (.region id ops false) s Q := fun F L a w hr => wp_region (h F L a w hr)
theorem TO.nil {ops : Array Oper} (h : Q .normal s) : TO P N ops [] s Q := fun _ L _ w hr => ⟨L, s, h, hr, Ext.refl _ w⟩
theorem TO.forget {ops : Array Oper} {l : List Nat} {s' : St} (hs : ∀ t v, s'.slots.lookup t = some v → s.slots.lookup t = some v) (ht : s'.tab = s.tab) (h : TO P N ops l s' Q) : TO P N ops l s Q :=
  fun F L a w hr => h F L a w ⟨hr.defers, hr.size, fun t v hv => hr.slot t v (hs t v hv), ht ▸ hr.heap, hr.nodup, hr.lt⟩

/-- Is an operation wanted? -/
inductive Wanted (ops : Array Oper) (s : St) (o : Oper) : Bool → Prop
  | free (h : o.guard = none) : Wanted ops s o true
  | guard (j : Nat) (x : Bool) (d : Nat) (b : Bool) (h : o.guard = some (j, x)) (hd : (ops[j]?).bind (·.dst) = some d) (hs : s.slots.lookup d = some (.c (.ex (.bool b)))) : Wanted ops s o (b == x)
theorem Wanted.eq {ops : Array Oper} {o : Oper} {b : Bool} {w : World} {F L : Reg} {a : Act} (h : Wanted ops s o b) (hr : Rel w N F L s a) : Region.wanted o (yielded ops a.tmps) = b := by
  cases h with
  | free h => simp [Region.wanted, h]
  | guard j x d b h hd hs =>
    have hv := evBool (x := .tmp d) hr hs
    simp only [Act.eval] at hv
    have hlt : d < a.tmps.size := by
      rcases Nat.lt_or_ge d a.tmps.size with h' | h'
      · exact h'
      · rw [Array.getD_eq_getD_getElem?, Array.getElem?_eq_none h'] at hv
        exact absurd hv (by simp [undef])
    have hg : a.tmps[d]? = some (.bool b) := by
      rw [Array.getD_eq_getD_getElem?] at hv
      rw [Array.getElem?_eq_getElem hlt] at hv ⊢
      simpa using hv
    simp [Region.wanted, h, yielded, hd, hg]
theorem wpOps_mono {ops : Array Oper} {q q' : Exit → Act → World → Prop} (hq : ∀ e a w, q e a w → q' e a w) : ∀ (l : List Nat) (a : Act) (w : World), wpOps P ops q l a w → wpOps P ops q' l a w := by
  intro l
  induction l with
  | nil => exact fun a w h => hq _ _ _ h
  | cons i rest ih =>
    intro a w h
    simp only [wpOps] at h ⊢
    cases ho : ops[i]? with
    | none => simp only [ho] at h ⊢; exact ih a w h
    | some o =>
      simp only [ho] at h ⊢
      split
      · rename_i hw
        rw [if_pos hw] at h
        rcases h with h | ⟨h, a0, w0, h0⟩
        · exact .inl (upon_mono h ih hq)
        · exact .inr ⟨h, a0, w0, hq _ _ _ h0⟩
      · rename_i hw
        rw [if_neg hw] at h
        exact ih _ _ h
theorem TO.step {ops : Array Oper} {i : Nat} {rest : List Nat} {o : Oper} (ho : ops[i]? = some o) (hw : Wanted ops s o true) (h : OpT P N o s (fun s' => TO P N ops rest s' Q)) : TO P N ops (i :: rest) s Q := by
  intro F L a w hr
  simp only [wpOps, ho, hw.eq hr, if_true]
  refine .inl (upon_mono (h F L a w hr) ?_ (fun _ _ _ h => h.elim))
  rintro a' w' ⟨L', s', k, r, x⟩
  have := k F L' a' w' r
  exact wpOps_mono (fun e a2 w2 ⟨L2, s2, q2, r2, x2⟩ => ⟨L2, s2, q2, r2, x.trans x2⟩) _ _ _ this
theorem TO.pass {ops : Array Oper} {i : Nat} {rest : List Nat} {o : Oper} (ho : ops[i]? = some o) (hw : Wanted ops s o false) (hN : ∀ d, o.dst = some d → d < N) (h : TO P N ops rest (s.putO o.dst .any) Q) : TO P N ops (i :: rest) s Q := by
  intro F L a w hr
  simp only [wpOps, ho, hw.eq hr, if_false, Bool.false_eq_true]
  exact h F L _ w (hr.put hN (.any _))
end

end Go.Rv
