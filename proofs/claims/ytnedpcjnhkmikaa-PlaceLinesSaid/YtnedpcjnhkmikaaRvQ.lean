/- A LOGIC OF ABSTRACT STATES OVER THE MODEL, part Q: structs of numbers compared; new memory at a place of the table that was kept for it; bytes of a literal that are converted. -/
import Derived.Test.YtnedpcjnhkmikaaRvO
import Derived.Laws.StructEq
namespace Go.Rv

def intFields (P : Program) : Nat → List Field → Bool
  | _, [] => true
  | n, f :: fs => (f.name != "_") && f.offset == n && (match P.underlying f.type with | some (.int _) => true | _ => false) && intFields P (n + 1) fs
section
variable {P : Program} {N : Nat} {s : St} {o : Oper} {K : St → Prop}
theorem run_eqFields_ints {w : World} {d : Nat} (X Y : List Value) : ∀ (fs : List Field) (n : Nat) (ks : List IntKind) (us ys : List Int), intFields P n fs = true → us.length = fs.length → ys.length = fs.length → ks.length = fs.length →
    (∀ i k a, ks[i]? = some k → us[i]? = some a → X[n + i]? = some (.int k a)) → (∀ i k b, ks[i]? = some k → ys[i]? = some b → Y[n + i]? = some (.int k b)) →
    (Op.eqFields (d + 1) X.toArray Y.toArray fs).run P w = .ok (us == ys) w := by
  intro fs
  induction fs with
  | nil =>
    intro n ks us ys _ ha hb _ _ _
    have h1 : us = [] := List.eq_nil_of_length_eq_zero ha
    have h2 : ys = [] := List.eq_nil_of_length_eq_zero hb
    subst h1; subst h2
    simp [Op.eqFields]
  | cons f fs ih =>
    intro n ks us ys hf ha hb hk hx hy
    cases us with
    | nil => simp at ha
    | cons a us =>
      cases ys with
      | nil => simp at hb
      | cons b ys =>
        cases ks with
        | nil => simp at hk
        | cons k ks =>
          simp only [intFields, Bool.and_eq_true, bne_iff_ne, ne_eq, beq_iff_eq] at hf
          obtain ⟨⟨⟨h1, h2⟩, h3⟩, h4⟩ := hf
          have hu : ∃ k', P.underlying f.type = some (.int k') := by
            cases hq : P.underlying f.type with
            | none => rw [hq] at h3; cases h3
            | some t => cases t <;> first | (rw [hq] at h3; cases h3; done) | exact ⟨_, rfl⟩
          obtain ⟨k', hu⟩ := hu
          have hxa := hx 0 k a rfl rfl
          have hyb := hy 0 k b rfl rfl
          rw [Nat.add_zero] at hxa hyb
          have p1 : (part f.type X.toArray f.offset).run P w = .ok (.int k a) w := by simp [part, run_isAgg hu, TypeDesc.flat, h2, hxa]
          have p2 : (part f.type Y.toArray f.offset).run P w = .ok (.int k b) w := by simp [part, run_isAgg hu, TypeDesc.flat, h2, hyb]
          have ih' := ih (n + 1) ks us ys h4 (by simpa using ha) (by simpa using hb) (by simpa using hk) (fun i k a hk ha => by rw [show n + 1 + i = n + (i + 1) by omega]; exact hx (i + 1) k a (by simpa using hk) (by simpa using ha)) (fun i k b hk hb => by rw [show n + 1 + i = n + (i + 1) by omega]; exact hy (i + 1) k b (by simpa using hk) (by simpa using hb))
          simp only [Op.eqFields, if_pos h1, Sem.run_bind, p1, p2, Result.andThen_ok, run_equalIn_int w d f.type k k' a b hu]
          rw [List.cons_beq_cons]
          by_cases hab : a = b
          · simp only [hab, beq_self_eq_true, Bool.not_true, Bool.false_eq_true, if_false, ih', Bool.true_and]
          · have : (a == b) = false := by simp [hab]
            simp only [this, Bool.not_false, if_true, Sem.run_pure, Bool.false_and]
theorem run_equal_structInts {w : World} {t : TypeId} {fs : Array Field} (ht : P.underlying t = some (.struct fs)) (hp : P.stoodInHeld t = false) (hf : intFields P 0 fs.toList = true) (X Y : List Value) (ks : List IntKind) (us ys : List Int) (hX : X = List.zipWith Value.int ks us) (hY : Y = List.zipWith Value.int ks ys) (ha : us.length = fs.size) (hb : ys.length = fs.size) (hk : ks.length = fs.size) :
    (Op.equal t (.agg X.toArray) (.agg Y.toArray)).run P w = .ok (us == ys) w := by
  have hfs : P.fieldsOf t = fs := by simp [Program.fieldsOf, ht]
  have := run_equalIn_agg (P := P) w 9999 t X.toArray Y.toArray (by rw [hfs]; exact ht) hp
  unfold Op.equal Op.maxDepth
  rw [this, hfs]
  refine run_eqFields_ints (d := 9998) X Y fs.toList 0 ks us ys hf (by simpa using ha) (by simpa using hb) (by simpa using hk) (fun i k a h1 h2 => ?_) (fun i k b h1 h2 => ?_)
  · rw [Nat.zero_add, hX, List.getElem?_zipWith, h1, h2]
  · rw [Nat.zero_add, hY, List.getElem?_zipWith, h1, h2]
theorem OpT.structEql {t t' : TypeId} {fs : Array Field} {x y : Operand} {ks : List IntKind} {us ys : List Int} {l l' : List DC} (ho : o.op = .binOp .eql t x y t') (hN : ∀ d, o.dst = some d → d < N) (ht : P.underlying t = some (.struct fs)) (hp : P.stoodInHeld t = false) (hf : intFields P 0 fs.toList = true)
    (hg : P.eqGuardType P.depth t = false) (hx : s.ev x = some (.agg l)) (hy : s.ev y = some (.agg l')) (hl : l = (List.zipWith Value.int ks us).map DC.ex) (hl' : l' = (List.zipWith Value.int ks ys).map DC.ex) (ha : us.length = fs.size) (hb : ys.length = fs.size) (hk : ks.length = fs.size) (k' : K (s.putO o.dst (.bool (us == ys)))) : OpT P N o s K :=
  OpT.still _ hN (fun F L a' w hrel => by
    have h1 := hrel.ev hx
    have h2 := hrel.ev hy
    generalize hq1 : a'.eval x = q1 at h1
    generalize hq2 : a'.eval y = q2 at h2
    cases h1 with
    | agg vs _ h1 =>
      cases h2 with
      | agg ws _ h2 =>
        have e1 : vs = (List.zipWith Value.int ks us).toArray := by rw [← h1.ints _ hl]
        have e2 : ws = (List.zipWith Value.int ks ys).toArray := by rw [← h2.ints _ hl']
        subst e1; subst e2
        refine ⟨.bool (us == ys), ?_, .c _ _ (.ex _ rfl)⟩
        have hb' : ∀ u v, binOp .eql t (.agg u) (.agg v) = (do pure (.bool (← Op.equal t (.agg u) (.agg v)))) := fun _ _ => rfl
        simp only [execOp, ho, hq1, hq2, Sem.run_bind, run_eqGuard_agg _ _ _ _ _ _ _ hg, Result.andThen_ok, hb', run_equal_structInts ht hp hf _ _ ks us ys rfl rfl ha hb hk]
        rfl) k'
theorem OpT.structNeq {t t' : TypeId} {fs : Array Field} {x y : Operand} {ks : List IntKind} {us ys : List Int} {l l' : List DC} (ho : o.op = .binOp .neq t x y t') (hN : ∀ d, o.dst = some d → d < N) (ht : P.underlying t = some (.struct fs)) (hp : P.stoodInHeld t = false) (hf : intFields P 0 fs.toList = true)
    (hg : P.eqGuardType P.depth t = false) (hx : s.ev x = some (.agg l)) (hy : s.ev y = some (.agg l')) (hl : l = (List.zipWith Value.int ks us).map DC.ex) (hl' : l' = (List.zipWith Value.int ks ys).map DC.ex) (ha : us.length = fs.size) (hb : ys.length = fs.size) (hk : ks.length = fs.size) (k' : K (s.putO o.dst (.bool (!(us == ys))))) : OpT P N o s K :=
  OpT.still _ hN (fun F L a' w hrel => by
    have h1 := hrel.ev hx
    have h2 := hrel.ev hy
    generalize hq1 : a'.eval x = q1 at h1
    generalize hq2 : a'.eval y = q2 at h2
    cases h1 with
    | agg vs _ h1 =>
      cases h2 with
      | agg ws _ h2 =>
        have e1 : vs = (List.zipWith Value.int ks us).toArray := by rw [← h1.ints _ hl]
        have e2 : ws = (List.zipWith Value.int ks ys).toArray := by rw [← h2.ints _ hl']
        subst e1; subst e2
        refine ⟨.bool (!(us == ys)), ?_, .c _ _ (.ex _ rfl)⟩
        have hb' : ∀ u v, binOp .neq t (.agg u) (.agg v) = (do pure (.bool (!(← Op.equal t (.agg u) (.agg v))))) := fun _ _ => rfl
        simp only [execOp, ho, hq1, hq2, Sem.run_bind, run_eqGuard_agg _ _ _ _ _ _ _ hg, Result.andThen_ok, hb', run_equal_structInts ht hp hf _ _ ks us ys rfl rfl ha hb hk]
        rfl) k'

/-- What an operation leaves, told anew. -/
theorem OpT.after {K' : St → Prop} (h : OpT P N o s K') (hk : ∀ t, K' t → ∃ t', Turn t t' ∧ K t') : OpT P N o s K := by
  intro F L a w hr
  refine upon_mono (h F L a w hr) ?_ (fun _ _ _ h => h)
  rintro a' w' ⟨L', s', k, hr', hx⟩
  obtain ⟨t', ht, kt⟩ := hk s' k
  obtain ⟨L2, h2, h3⟩ := ht N F L' a' w' hr'
  exact ⟨L2, t', kt, h2, hx.trans h3⟩
theorem set_perm {α : Type} : ∀ {t : List α} {i : Nat} {x : α}, i < t.length → (x :: t.eraseIdx i).Perm (t.set i x) := by
  intro t
  induction t with
  | nil => intro i x h; simp at h
  | cons y t ih =>
    intro i x h
    cases i with
    | zero => simp
    | succ i =>
      simp only [List.eraseIdx_cons_succ, List.set_cons_succ]
      exact (List.Perm.swap _ _ _).trans ((ih (by simpa using h)).cons y)
/-- A new object takes a place that was kept for it. -/
theorem Turn.into {sl : List (Nat × AV)} {tab : List Ob} {x : Ob} (i : Nat) (hi : i < tab.length) : Turn ⟨sl, x :: tab⟩ ⟨sl, tab.set i x⟩ :=
  (Turn.dropO (s := ⟨sl, x :: tab⟩) (i + 1)).trans (Turn.perm (s := ⟨sl, x :: tab.eraseIdx i⟩) (set_perm hi))
theorem Turn.keepPlace {s : St} : Turn s ⟨s.slots, .ro 0 [] :: s.tab⟩ := fun N F L a w hr =>
  ⟨L, ⟨hr.defers, hr.size, hr.slot, by have := HeapR.cons _ _ _ _ (ObR.ro (w := w) (M := L ++ F) 0 [] [] .nil (fun i v hv => by simp at hv)) hr.heap; simpa using this, hr.nodup, hr.lt⟩, Ext.refl _ _⟩
theorem OpT.allocAt {e : TypeId} {z : Value} {sz by_ : Nat} (i : Nat) (ho : o.op = .alloc e) (hN : ∀ d, o.dst = some d → d < N) (hei : EInfo P e z sz by_) (hz : z.cells.toList.all Value.oneCell' = true) (hi : s.tab[i]? = some (.ro 0 []))
    (k : ∀ b, K (s.upd o.dst (.ptr b 0) (s.tab.set i (.box b e (z.cells.toList.map fun v => OC.d (.ex v)))))) : OpT P N o s K :=
  OpT.after (K' := fun t => ∃ b, t = s.upd o.dst (.ptr b 0) (.box b e (z.cells.toList.map fun v => OC.d (.ex v)) :: s.tab)) (OpT.alloc' ho hN hei hz (fun b => ⟨b, rfl⟩)) (fun t ⟨b, ht⟩ => ⟨_, by subst ht; exact Turn.into i (List.getElem?_eq_some_iff.1 hi).1, k b⟩)
theorem OpT.appendNewAt {α : Type} {x y : Operand} {t e : TypeId} {z : Value} {esz by_ : Nat} {full : Bool} {xs ys : List α} {f : α → List DC} (i : Nat) (ho : o.op = .call { callee := .builtin .append, args := #[x, y], argTypes := #[t, t] }) (hN : ∀ d, o.dst = some d → d < N)
    (ht : P.underlying t = some (.slice e)) (hei : EInfo P e z esz by_) (hz : z.cells.size = esz) (hx : s.ev x = some (.sl true esz (xs.map f))) (hy : s.ev y = some (.sl full esz (ys.map f)))
    (hne : 0 < ys.length ∨ xs = []) (hroom : roomy by_ (xs.length + ys.length) = true) (hi : s.tab[i]? = some (.ro 0 []))
    (k : ∀ v, K (s.upd o.dst (.c (.ex v)) (s.tab.set i (.arrA v e esz ((xs ++ ys).map f))))) : OpT P N o s K :=
  OpT.after (K' := fun t => ∃ v, t = s.upd o.dst (.c (.ex v)) (.arrA v e esz ((xs ++ ys).map f) :: s.tab)) (OpT.appendNewM ho hN ht hei hz hx hy hne hroom (fun v => ⟨v, rfl⟩)) (fun t ⟨v, ht⟩ => ⟨_, by subst ht; exact Turn.into i (List.getElem?_eq_some_iff.1 hi).1, k v⟩)

/-- A slice literal whose array is owned behind its elements. -/
theorem OpT.buildSliceA {t e : TypeId} {len : Nat} {ps : Array (Nat × Operand)} {z : Value} {esz by_ : Nat} {pd : List (Nat × List DC)} {elems : List (List DC)} (ho : o.op = .buildSlice t len ps) (hN : ∀ d, o.dst = some d → d < N)
    (ht : P.underlying t = some (.slice e)) (hei : EInfo P e z esz by_) (hsm : len * esz ≤ 2 ^ 24) (hz : z.cells.size = esz) (hz1 : ∀ v ∈ z.cells.toList, v.oneCell' = true) (hp : s.parts ps.toList = some pd)
    (hf : fillD (fun i => some (i * esz, esz)) ((List.range (len * esz)).map fun q => .ex (z.cells.getD (q % esz) undef)) pd = some elems.flatten) (hel : elems.length = len) (hee : ∀ x ∈ elems, x.length = esz) (hlen : len ≤ maxLen)
    (k : ∀ v, K (s.upd o.dst (.c (.ex v)) (.arrA v e esz elems :: s.tab))) : OpT P N o s K := by
  intro F L a w hr
  obtain ⟨h1, h2⟩ := hr.parts hp
  have hq0 : ∀ q, q < len * esz → q % esz < z.cells.size := fun q hq => by
    rw [hz]
    rcases Nat.eq_zero_or_pos esz with h | h
    · subst h; simp at hq
    · exact Nat.mod_lt _ h
  have hrz : RepL w (L ++ F) ((Array.range (len * esz)).map (z.cells[· % z.cells.size]!)).toList ((List.range (len * esz)).map fun q => .ex (z.cells.getD (q % esz) undef)) := by
    refine ⟨by simp, fun q v d hv hd => ?_⟩
    have hq : q < len * esz := by have := (List.getElem?_eq_some_iff.1 hd).1; simpa using this
    have hq2 := hq0 q hq
    simp [hq] at hv hd
    subst hd
    rw [hz] at hv
    have hq3 : z.cells[q % esz]? = some z.cells[q % esz] := by simp [hq2]
    simp only [getElem!_def, hq3] at hv
    simp only [Array.getElem?_eq_getElem hq2, Option.getD_some]
    subst hv
    exact .ex _ (hz1 _ (by simp))
  obtain ⟨cs', h3, h4⟩ := fill_rep h1 h2 hrz hf
  have hcs : cs'.size = len * esz := by have := h4.1; rw [flat_len hee, hel] at this; simpa using this
  have hrun : (execOp a.eval o).run P w = .ok (.value (.slice (some ⟨w.heap.size, 0, none⟩) len len)) (w.alloc (.cells cs' e)) := by
    have h24 : ¬ (len * esz > 16777216) := by omega
    have hpa : (Array.map (fun x : Nat × Operand => (x.fst, a.eval x.snd)) ps).toList = ps.toList.map fun (i, x) => (i, a.eval x) := by rw [Array.toList_map]
    by_cases hzero : len * esz = 0
    · have h3' : Instr.fill (fun i => some (i * esz, esz)) #[] (ps.toList.map fun (i, x) => (i, a.eval x)) = some cs' := by
        rw [hzero, Array.range_zero', Array.map_empty] at h3
        exact h3
      simp only [execOp, ho, Instr.buildSlice, Sem.run_bind, run_underlying ht, Result.andThen_ok, hei.sizeOf, hzero, if_true, Sem.run_pure, hpa]
      simp [newRow, h3', Array.range_zero']
    · simp only [execOp, ho, Instr.buildSlice, Sem.run_bind, run_underlying ht, Result.andThen_ok, hei.sizeOf, hzero, if_false, Sem.run_pure, hpa]
      simp [newRow, h3, h24, hei.zeroValue]
  unfold Oper.wp
  rw [hrun, Oper.upon_value]
  have hlen' : elems.length ≤ len := by omega
  obtain ⟨L', h5, h6⟩ := hr.add (w' := w.alloc (.cells cs' e)) (r := [(w.heap.size, elems.length * esz)]) (dst := o.dst) (v := .slice (some ⟨w.heap.size, 0, none⟩) len len) (x := .c (.ex (.slice (some ⟨w.heap.size, 0, none⟩) len len)))
    (o := .arrA (.slice (some ⟨w.heap.size, 0, none⟩) len len) e esz elems) (Fits.alloc w _ _) hN (fun M hnew hxM => by
      refine .arrA _ e esz _ _ ?_
      have key := OwnR.some (w := w.alloc (.cells cs' e)) (M := M) w.heap.size len cs' e esz elems (heap_alloc_new w _) (by omega) hlen (by rw [hcs]) hee (fun off hoff hw => by
        obtain ⟨lim, hl, hle⟩ := hnew _ off (Nat.le_refl _) hw
        simp at hl
        omega) (by
        have : cs'.toList.take (elems.length * esz) = cs'.toList := List.take_of_length_le (by simp [hcs, hel])
        rw [this]
        exact h4.step hxM)
      rw [hel] at key
      rw [hel]
      exact key) (fun M _ _ => .c _ _ (.ex _ rfl))
  exact ⟨L', _, k _, h5, h6⟩
theorem freeze_cell (w : World) (a : Addr) (n : Nat) (b : Addr) : (w.freeze a n).cell? b = w.cell? b := by
  unfold World.freeze
  split
  · rfl
  · simp only [World.cell?, Array.getElem?_modify]
    by_cases h : a.block = b.block
    · rw [if_pos h]
      cases hq : w.heap[b.block]? with
      | none => rfl
      | some q => cases q <;> rfl
    · rw [if_neg h]
theorem Ext.freeze (w : World) (g off n lim : Nat) : Ext [(g, lim)] w [] (w.freeze ⟨g, off, none⟩ n) where
  os := by unfold World.freeze; split <;> rfl
  tape := by unfold World.freeze; split <;> rfl
  output := by unfold World.freeze; split <;> rfl
  size := by
    unfold World.freeze
    split
    · exact Nat.le_refl _
    · simp
  block k hk hn := by
    unfold World.freeze
    split
    · rfl
    · simp only [Array.getElem?_modify]
      rw [if_neg (fun h => hn lim (by have h' : g = k := h; simp [h']))]
  cell k off' hk hn := freeze_cell _ _ _ _
  mono k off' hk hw := absurd hw Wr.nil
  blocks k l hk hl := by cases hl
/-- A literal's bytes, converted: they are not written from now on. -/
theorem OpT.convSame' {src e : TypeId} {x : Operand} {v : Value} {i esz : Nat} {elems : List (List DC)} (ho : o.op = .convert src src x) (hN : ∀ d, o.dst = some d → d < N) (hs : P.underlying src = some (.slice e)) (he : P.underlying e = some (.int .u8))
    (hx : s.ev x = some (.c (.ex v))) (hi : s.tab[i]? = some (.arrA v e esz elems)) (hne : 0 < elems.length) (k : K (s.upd o.dst (.sl false esz elems) (s.tab.set i (.ro 0 [])))) : OpT P N o s K := by
  intro F L a w hr
  have hv := hr.exact hx
  obtain ⟨r, R, hob, hwr, hnd, hlt, hdis, hgo⟩ := hr.touch hi
  cases hob with
  | arrA _ _ _ _ _ hown =>
  have hview := hown.view
  cases hown with
  | nil b => simp at hne
  | some g cap cur _ _ _ hg hn hm hcs hz hnw hre =>
    have hx1 := Ext.freeze w g cur.size 1 (elems.length * esz)
    have hrun : (execOp a.eval o).run P w = .ok (.value (.slice (some ⟨g, 0, none⟩) elems.length cap)) (w.freeze ⟨g, cur.size, none⟩ 1) := by
      have hsh : w.shape? g = some (e, cur.size) := by simp [World.shape?, hg]
      simp [execOp, ho, hv, convert, run_underlying hs, run_underlying he, markStringish, hsh]
    obtain ⟨L', h2, h3⟩ := hgo (w.freeze ⟨g, cur.size, none⟩ 1) [] (.ro 0 []) o.dst (.slice (some ⟨g, 0, none⟩) elems.length cap) (.sl false esz elems) ⟨hx1, by simp, fun p hp => by cases hp⟩ hN (.ro 0 [] [] .nil (fun i v hv => by simp at hv))
      (.c _ _ (hview.step (hx1.frame R)))
    unfold Oper.wp
    rw [hrun, Oper.upon_value]
    exact ⟨L', _, k, h2, h3⟩
theorem OpT.convSame {α : Type} {src e : TypeId} {x : Operand} {v : Value} {i esz : Nat} {xs : List α} {f : α → List DC} (ho : o.op = .convert src src x) (hN : ∀ d, o.dst = some d → d < N) (hs : P.underlying src = some (.slice e)) (he : P.underlying e = some (.int .u8))
    (hx : s.ev x = some (.c (.ex v))) (hi : s.tab[i]? = some (.arrA v e esz (xs.map f))) (hne : 0 < xs.length) (k : K (s.upd o.dst (.sl false esz (xs.map f)) (s.tab.set i (.ro 0 [])))) : OpT P N o s K :=
  OpT.convSame' ho hN hs he hx hi (by simpa using hne) k
end
end Go.Rv
