/- A LOGIC OF ABSTRACT STATES OVER THE MODEL, part E: slices and arrays: built, made, appended to, cut, turned to strings. -/
import Derived.Test.YtbepeoipaiahgaaRvD
namespace Go.Rv

theorem flat_get {α : Type} {k : Nat} : ∀ {es : List (List α)}, (∀ e ∈ es, e.length = k) → ∀ {i j : Nat}, j < k → es.flatten[i * k + j]? = (es[i]?).bind (·[j]?) := by
  intro es
  induction es with
  | nil => intro _ i j _; simp
  | cons e es ih =>
    intro h i j hj
    have he : e.length = k := h e (by simp)
    cases i with
    | zero =>
      simp only [Nat.zero_mul, Nat.zero_add, List.flatten_cons]
      rw [List.getElem?_append_left (by omega)]
      simp
    | succ i =>
      simp only [List.flatten_cons]
      rw [List.getElem?_append_right (by rw [he, Nat.succ_mul]; omega)]
      have : (i + 1) * k + j - e.length = i * k + j := by rw [he, Nat.succ_mul]; omega
      rw [this, ih (fun x hx => h x (by simp [hx])) hj]
      simp
theorem flat_len {α : Type} {k : Nat} : ∀ {es : List (List α)}, (∀ e ∈ es, e.length = k) → es.flatten.length = es.length * k := by
  intro es
  induction es with
  | nil => intro _; simp
  | cons e es ih =>
    intro h
    rw [List.flatten_cons, List.length_append, ih (fun x hx => h x (by simp [hx])), h e (by simp), List.length_cons, Nat.succ_mul]
    omega

/-- A slice of cells that lie in a row. -/
theorem RepC.ofFlat {w : World} {M : Reg} {b off cap : Nat} {full : Bool} {esz : Nat} {elems : List (List DC)} {vs : List Value} (hv : RepL w M vs elems.flatten)
    (hc : ∀ (q : Nat) (v : Value), vs[q]? = some v → w.cell? ⟨b, off + q, none⟩ = some v ∧ ¬ Wr M b (off + q)) (hn : elems.length ≤ cap) (hm : cap ≤ maxLen) (hf : full = true → cap = elems.length) (hz : ∀ e ∈ elems, e.length = esz) :
    RepC w M (.slice (some ⟨b, off, none⟩) elems.length cap) (.sl full esz elems) := by
  have key : ∀ i j d, (elems[i]?).bind (·[j]?) = some d → ∃ u, vs[i * esz + j]? = some u ∧ RepC w M u d := by
    intro i j d hd
    have hj : j < esz := by
      cases hi : elems[i]? with
      | none => simp [hi] at hd
      | some e =>
        simp [hi] at hd
        have := (List.getElem?_eq_some_iff.1 hd).1
        rw [hz e (List.mem_of_getElem? hi)] at this
        exact this
    have h1 : elems.flatten[i * esz + j]? = some d := by rw [flat_get hz hj]; exact hd
    have hlt : i * esz + j < vs.length := by rw [hv.1]; exact (List.getElem?_eq_some_iff.1 h1).1
    exact ⟨vs[i * esz + j], by simp [hlt], hv.2 _ _ d (by simp [hlt]) h1⟩
  refine .sl _ b off cap full esz elems (fun i j => vs.getD (i * esz + j) undef) (.inl rfl) hn hm hf hz (fun i j d hd => ?_) (fun i j d hd => ?_)
  · obtain ⟨u, hu, _⟩ := key i j d hd
    have := hc _ u hu
    simp only [List.getD, hu, Option.getD_some]
    simpa [Nat.add_assoc] using this
  · obtain ⟨u, hu, hr⟩ := key i j d hd
    simp only [List.getD, hu, Option.getD_some]
    exact hr
/-- The cells of a slice. -/
theorem RepC.flat {w : World} {M : Reg} {v : Value} {full : Bool} {esz : Nat} {elems : List (List DC)} (h : RepC w M v (.sl full esz elems)) :
    ∃ (a : Option Addr) (b off cap : Nat) (vs : List Value), v = .slice a elems.length cap ∧ (a = some ⟨b, off, none⟩ ∨ (elems = [] ∧ cap = 0)) ∧ elems.length ≤ cap ∧ cap ≤ maxLen ∧ (full = true → cap = elems.length) ∧ (∀ e ∈ elems, e.length = esz) ∧
      RepL w M vs elems.flatten ∧ ∀ (q : Nat) (u : Value), vs[q]? = some u → w.cell? ⟨b, off + q, none⟩ = some u ∧ ¬ Wr M b (off + q) := by
  cases h with
  | sl a b off cap full esz elems vs ha hc hm hf hz hw hr =>
    have hdec : ∀ q, q < elems.length * esz → ∃ i j d, q = i * esz + j ∧ i = q / esz ∧ j = q % esz ∧ elems.flatten[q]? = some d ∧ (elems[i]?).bind (·[j]?) = some d := by
      intro q hq
      have he : 0 < esz := by rcases Nat.eq_zero_or_pos esz with h | h; (subst h; simp at hq); exact h
      have hq' : q = q / esz * esz + q % esz := by rw [Nat.mul_comm]; exact (Nat.div_add_mod q esz).symm
      have hj : q % esz < esz := Nat.mod_lt _ he
      have hlt : q < elems.flatten.length := by rw [flat_len hz]; exact hq
      refine ⟨q / esz, q % esz, elems.flatten[q], hq', rfl, rfl, List.getElem?_eq_getElem hlt, ?_⟩
      rw [← flat_get hz hj, ← hq']
      exact List.getElem?_eq_getElem hlt
    refine ⟨a, b, off, cap, (List.range (elems.length * esz)).map fun q => vs (q / esz) (q % esz), rfl, ha, hc, hm, hf, hz, ⟨by simp [flat_len hz], fun q u d hu hd => ?_⟩, fun q u hu => ?_⟩
    · have hq : q < elems.length * esz := by have := (List.getElem?_eq_some_iff.1 hu).1; simpa using this
      obtain ⟨i, j, d', h1, h2, h3, h4, h5⟩ := hdec q hq
      simp [hq] at hu
      rw [h4] at hd
      have hd := Option.some.inj hd
      subst hd
      subst hu
      rw [← h2, ← h3]
      exact hr i j d' h5
    · have hq : q < elems.length * esz := by have := (List.getElem?_eq_some_iff.1 hu).1; simpa using this
      obtain ⟨i, j, d', h1, h2, h3, h4, h5⟩ := hdec q hq
      simp [hq] at hu
      subst hu
      rw [← h2, ← h3, h1]
      have := hw i j d' h5
      simpa [Nat.add_assoc] using this

/- A struct, an array, a slice of parts. -/
def fillD (place : Nat → Option (Nat × Nat)) (cells : List DC) : List (Nat × List DC) → Option (List DC)
  | [] => some cells
  | (i, v) :: rest =>
    match place i with
    | none => none
    | some (off, size) => if v.length ≠ size || off + v.length > cells.length then none else fillD place (cells.take off ++ v ++ cells.drop (off + v.length)) rest
theorem foldl_set (off : Nat) : ∀ (vs : List Value) (cs : Array Value) (k : Nat), off + k + vs.length ≤ cs.size →
    ((vs.zipIdx k).foldl (fun cs (c, j) => cs.setIfInBounds (off + j) c) cs).toList = cs.toList.take (off + k) ++ vs ++ cs.toList.drop (off + k + vs.length) := by
  intro vs
  induction vs with
  | nil => intro cs k _; simp
  | cons v vs ih =>
    intro cs k h
    simp only [List.length_cons] at h
    simp only [List.zipIdx_cons, List.foldl_cons]
    rw [ih _ (k + 1) (by simp; omega)]
    apply List.ext_getElem?
    intro q
    simp only [Array.toList_setIfInBounds, List.getElem?_append, List.length_take, List.length_set, Array.length_toList, List.length_append, List.length_cons, List.getElem?_take, List.getElem?_set, List.getElem?_drop]
    by_cases h1 : q < off + k
    · simp [h1, show q < off + (k + 1) by omega, show min (off + (k + 1)) cs.size = off + (k + 1) by omega, show min (off + k) cs.size = off + k by omega, show off + k ≠ q by omega, show q < off + (k + 1) + vs.length by omega, show q < off + k + (vs.length + 1) by omega]
    · by_cases h2 : q = off + k
      · subst h2
        simp [show min (off + (k + 1)) cs.size = off + (k + 1) by omega, show min (off + k) cs.size = off + k by omega, show off + k < off + (k + 1) by omega, show off + k < cs.size by omega]
        omega
      · by_cases h3 : q < off + k + (vs.length + 1)
        · have e1 : q - (off + k) = (q - (off + (k + 1))) + 1 := by omega
          simp [h1, show ¬ q < off + (k + 1) by omega, show min (off + (k + 1)) cs.size = off + (k + 1) by omega, show min (off + k) cs.size = off + k by omega, h3, show q < off + (k + 1) + vs.length by omega, e1]
        · simp [show min (off + (k + 1)) cs.size = off + (k + 1) by omega, show min (off + k) cs.size = off + k by omega, h3, show ¬ q < off + (k + 1) + vs.length by omega]
          rw [if_neg (by omega)]
          congr 1
          omega
theorem fill_rep {w : World} {M : Reg} {place : Nat → Option (Nat × Nat)} : ∀ {pd : List (Nat × List DC)} {pv : List (Nat × Value)} {cs : Array Value} {cd cd' : List DC}, pv.map (·.1) = pd.map (·.1) → (∀ (k : Nat) (x : Nat × Value) (y : Nat × List DC), pv[k]? = some x → pd[k]? = some y → RepL w M x.2.cells.toList y.2) →
    RepL w M cs.toList cd → fillD place cd pd = some cd' → ∃ cs', Instr.fill place cs pv = some cs' ∧ RepL w M cs'.toList cd' := by
  intro pd
  induction pd with
  | nil =>
    intro pv cs cd cd' hm _ hr hf
    cases pv with
    | nil => simp only [fillD, Option.some.injEq] at hf; subst hf; exact ⟨cs, rfl, hr⟩
    | cons x pv => simp at hm
  | cons y pd ih =>
    intro pv cs cd cd' hm hp hr hf
    cases pv with
    | nil => simp at hm
    | cons x pv =>
      obtain ⟨i, dv⟩ := y
      obtain ⟨i', v⟩ := x
      simp only [List.map_cons, List.cons.injEq] at hm
      obtain ⟨rfl, hm⟩ := hm
      have h0 := hp 0 (i', v) (i', dv) rfl rfl
      simp only [fillD] at hf
      simp only [Instr.fill]
      cases hpl : place i' with
      | none => simp [hpl] at hf
      | some os =>
        obtain ⟨off, size⟩ := os
        simp only [hpl] at hf ⊢
        have hlen : v.cells.size = dv.length := by simpa using h0.1
        have hcl : cs.size = cd.length := by simpa using hr.1
        by_cases hbad : (dv.length ≠ size || off + dv.length > cd.length) = true
        · rw [if_pos hbad] at hf; cases hf
        · rw [if_neg hbad] at hf
          have hbad' : ¬ (v.cells.size ≠ size || off + v.cells.size > cs.size) = true := by rw [hlen, hcl]; exact hbad
          rw [if_neg hbad']
          simp at hbad
          have hset : (Array.foldl (fun cs (x : Value × Nat) => cs.setIfInBounds (off + x.2) x.1) cs v.cells.zipIdx).toList = cs.toList.take off ++ v.cells.toList ++ cs.toList.drop (off + v.cells.toList.length) := by
            rw [← Array.foldl_toList, Array.toList_zipIdx]
            have := foldl_set off v.cells.toList cs 0 (by simp; omega)
            simpa using this
          refine ih (pv := pv) hm (fun k x y hx hy => hp (k + 1) x y (by simpa using hx) (by simpa using hy)) ?_ hf
          rw [hset]
          have h5 : v.cells.toList.length = dv.length := h0.1
          rw [h5]
          exact ((hr.take off).append h0).append (hr.drop (off + dv.length))
def AV.cells : AV → Option (List DC)
  | .c d => some [d]
  | .agg l => some l
  | _ => none
theorem AvR.cells {w : World} {M : Reg} {v : Value} {x : AV} {l : List DC} (h : AvR w M v x) (hx : x.cells = some l) : RepL w M v.cells.toList l := by
  cases h with
  | c v d h =>
    simp only [AV.cells, Option.some.injEq] at hx
    subst hx
    have hcells : v.cells = #[v] := by
      have := h.one
      cases v <;> first | rfl | (simp [Value.oneCell'] at this)
    rw [hcells]
    exact RepL.cons h RepL.nil
  | agg vs l h =>
    simp only [AV.cells, Option.some.injEq] at hx
    subst hx
    exact h
  | any => simp [AV.cells] at hx
  | ref => simp [AV.cells] at hx
  | el => simp [AV.cells] at hx
  | tup => simp [AV.cells] at hx
  | sub => simp [AV.cells] at hx
/-- The parts of a literal, as data. -/
def St.parts (s : St) : List (Nat × Operand) → Option (List (Nat × List DC))
  | [] => some []
  | (i, x) :: r =>
    match s.ev x with
    | some v => match v.cells, s.parts r with
      | some l, some ls => some ((i, l) :: ls)
      | _, _ => none
    | none => none
theorem St.upd_tab (s : St) (d : Option Nat) (x : AV) : s.upd d x s.tab = s.putO d x := by cases d <;> rfl
section
variable {P : Program} {N : Nat} {s : St} {o : Oper} {K : St → Prop} {Q : Exit → St → Prop}
theorem Rel.parts {w : World} {F L : Reg} {a : Act} (hr : Rel w N F L s a) : ∀ {ps : List (Nat × Operand)} {pd : List (Nat × List DC)}, s.parts ps = some pd → (ps.map fun (i, x) => (i, a.eval x)).map (·.1) = pd.map (·.1) ∧
    ∀ (k : Nat) (x : Nat × Value) (y : Nat × List DC), (ps.map fun (i, x) => (i, a.eval x))[k]? = some x → pd[k]? = some y → RepL w (L ++ F) x.2.cells.toList y.2 := by
  intro ps
  induction ps with
  | nil => intro pd h; simp only [St.parts, Option.some.injEq] at h; subst h; exact ⟨rfl, fun k x y hx => by simp at hx⟩
  | cons p ps ih =>
    intro pd h
    obtain ⟨i, x⟩ := p
    simp only [St.parts] at h
    cases hx : s.ev x with
    | none => simp [hx] at h
    | some v =>
      cases hv : v.cells with
      | none => simp [hx, hv] at h
      | some l =>
        cases hp : s.parts ps with
        | none => simp [hx, hv, hp] at h
        | some ls =>
          simp only [hx, hv, hp, Option.some.injEq] at h
          subst h
          obtain ⟨h1, h2⟩ := ih hp
          refine ⟨by simpa using h1, fun k y z hy hz => ?_⟩
          cases k with
          | zero => simp at hy hz; subst hy; subst hz; exact (hr.ev hx).cells hv
          | succ k => exact h2 k y z (by simpa using hy) (by simpa using hz)

theorem OpT.build {t : TypeId} {ps : Array (Nat × Operand)} {place : Nat → Option (Nat × Nat)} {z : Array Value} {pd : List (Nat × List DC)} {l : List DC} (ho : o.op = .build t ps) (hN : ∀ d, o.dst = some d → d < N)
    (hb : ∀ q, P.built t q = Instr.fill place z q) (hz : ∀ v ∈ z.toList, v.oneCell' = true) (hp : s.parts ps.toList = some pd) (hf : fillD place (z.toList.map DC.ex) pd = some l) (k : K (s.putO o.dst (.agg l))) : OpT P N o s K :=
  OpT.still _ hN (fun F L a w hr => by
    obtain ⟨h1, h2⟩ := hr.parts hp
    obtain ⟨cs', h3, h4⟩ := fill_rep (cs := z) h1 h2 (RepL.zeros hz) hf
    refine ⟨.agg cs', ?_, .agg _ _ h4⟩
    have hbu : P.built t (ps.map fun (i, x) => (i, a.eval x)).toList = some cs' := by rw [hb, Array.toList_map]; exact h3
    simp only [execOp, ho, Sem.run_bind, run_build w t _ cs' hbu, Result.andThen_ok]
    rfl) k

theorem OpT.buildSlice {t e : TypeId} {len : Nat} {ps : Array (Nat × Operand)} {z : Value} {esz by_ : Nat} {pd : List (Nat × List DC)} {elems : List (List DC)} (ho : o.op = .buildSlice t len ps) (hN : ∀ d, o.dst = some d → d < N)
    (ht : P.underlying t = some (.slice e)) (hei : EInfo P e z esz by_) (hsm : len * esz ≤ 2 ^ 24) (hz : z.cells.size = esz) (hz1 : ∀ v ∈ z.cells.toList, v.oneCell' = true) (hp : s.parts ps.toList = some pd)
    (hf : fillD (fun i => some (i * esz, esz)) ((List.range (len * esz)).map fun q => .ex (z.cells.getD (q % esz) undef)) pd = some elems.flatten) (hel : elems.length = len) (hee : ∀ x ∈ elems, x.length = esz) (hlen : len ≤ maxLen)
    (k : K (s.putO o.dst (.sl true esz elems))) : OpT P N o s K := by
  intro F L a w hr
  obtain ⟨h1, h2⟩ := hr.parts hp
  have hq0 : ∀ q, q < len * esz → q % esz < z.cells.size := fun q hq => by
    rw [hz]
    rcases Nat.eq_zero_or_pos esz with h | h
    · subst h; simp at hq
    · exact Nat.mod_lt _ h
  have hrz : RepL w (L ++ F) ((Array.range (len * esz)).map (z.cells[· % z.cells.size]!)).toList ((List.range (len * esz)).map fun q => .ex (z.cells.getD (q % esz) undef)) := by
    refine ⟨by simp, fun q v d hv hd => ?_⟩
    have hq : q < len * esz := by have := (List.getElem?_eq_some_iff.1 hd).1; simpa using this
    have hq2 := hq0 q hq
    simp [hq] at hv hd
    subst hd
    rw [hz] at hv
    have hq3 : z.cells[q % esz]? = some z.cells[q % esz] := by simp [hq2]
    simp only [getElem!_def, hq3] at hv
    simp only [Array.getElem?_eq_getElem hq2, Option.getD_some]
    subst hv
    exact .ex _ (hz1 _ (by simp))
  obtain ⟨cs', h3, h4⟩ := fill_rep h1 h2 hrz hf
  have hcs : cs'.size = len * esz := by have := h4.1; rw [flat_len hee, hel] at this; simpa using this
  have hx := (Ext.alloc0 w (.cells cs' e)).frame L
  have hxF := hx.frame F
  simp only [List.nil_append] at hx hxF
  have hrun : (execOp a.eval o).run P w = .ok (.value (.slice (some ⟨w.heap.size, 0, none⟩) len len)) (w.alloc (.cells cs' e)) := by
    have h24 : ¬ (len * esz > 16777216) := by omega
    have hpa : (Array.map (fun x : Nat × Operand => (x.fst, a.eval x.snd)) ps).toList = ps.toList.map fun (i, x) => (i, a.eval x) := by rw [Array.toList_map]
    by_cases hzero : len * esz = 0
    · have h3' : Instr.fill (fun i => some (i * esz, esz)) #[] (ps.toList.map fun (i, x) => (i, a.eval x)) = some cs' := by
        rw [hzero, Array.range_zero', Array.map_empty] at h3
        exact h3
      simp only [execOp, ho, Instr.buildSlice, Sem.run_bind, run_underlying ht, Result.andThen_ok, hei.sizeOf, hzero, if_true, Sem.run_pure, hpa]
      simp [newRow, h3', Array.range_zero']
    · simp only [execOp, ho, Instr.buildSlice, Sem.run_bind, run_underlying ht, Result.andThen_ok, hei.sizeOf, hzero, if_false, Sem.run_pure, hpa]
      simp [newRow, h3, h24, hei.zeroValue]
  unfold Oper.wp
  rw [hrun, Oper.upon_value]
  refine ⟨L, _, k, St.upd_tab s o.dst _ ▸ hr.next (tab := s.tab) hx hN (.c _ _ ?_) (hr.heap.step (Ext.alloc0 w (.cells cs' e)) (fun p _ lim hm => by cases hm) hxF) hr.nodup (fun p hp => by have := hr.lt p (List.mem_append.2 (.inl hp)); simp; omega), hx⟩
  have hc : ∀ (q : Nat) (v : Value), cs'.toList[q]? = some v → (w.alloc (.cells cs' e)).cell? ⟨w.heap.size, 0 + q, none⟩ = some v ∧ ¬ Wr (L ++ F) w.heap.size (0 + q) := by
    intro q v hv
    refine ⟨by rw [Nat.zero_add, World.cell?_alloc_new]; simpa using hv, fun ⟨lim, hl, _⟩ => ?_⟩
    have := hr.lt _ hl
    simp at this
  have := RepC.ofFlat (full := true) (h4.step hxF) hc (cap := len) (by omega) hlen (fun _ => hel.symm) hee
  rw [hel] at this
  exact this

end

end Go.Rv
