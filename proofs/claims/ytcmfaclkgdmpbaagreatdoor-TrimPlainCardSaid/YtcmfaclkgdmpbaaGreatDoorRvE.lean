/- A LOGIC OF ABSTRACT STATES OVER THE MODEL, part A: what a value stands for, what may be written, how worlds follow each other. -/
import Derived.WalkKit
namespace Go.Rv
theorem Qjj (k : Nat) (h : 0 < k) : ∃ q, k = q + 1 := ⟨k - 1, by omega⟩
theorem Qft : type_of% @List.length_singleton := @List.length_singleton
theorem Qfu : type_of% @List.length_append := @List.length_append
theorem Qfv : type_of% @decide_eq_false := @decide_eq_false
theorem Qfw : type_of% @List.length_map := @List.length_map
theorem Qfx : type_of% @List.append_assoc := @List.append_assoc
theorem Qfy : type_of% @List.getElem_mem := @List.getElem_mem
theorem Qfz : type_of% @List.mem_append := @List.mem_append
theorem Qf0 : type_of% @decide_eq_true := @decide_eq_true
theorem Qf1 : type_of% @Int.toNat_natCast := @Int.toNat_natCast
theorem Qf2 : type_of% @List.drop_eq_getElem_cons := @List.drop_eq_getElem_cons
theorem Qf3 : type_of% @List.mem_singleton := @List.mem_singleton
theorem Qf4 : type_of% @Prod.mk.injEq := @Prod.mk.injEq
theorem Qf5 : type_of% @List.mem_cons_of_mem := @List.mem_cons_of_mem
theorem Qf6 : type_of% @Nat.le_refl := @Nat.le_refl
theorem Qf7 : type_of% @Nat.zero_le := @Nat.zero_le
theorem Qf8 : type_of% @List.nil_append := @List.nil_append
theorem Qf9 : type_of% @List.drop_eq_nil_of_le := @List.drop_eq_nil_of_le
theorem Qga : type_of% @List.mem_cons_self := @List.mem_cons_self
theorem Qgb : type_of% @Int.natCast_zero := @Int.natCast_zero
theorem Qgc : type_of% @List.length_cons := @List.length_cons
theorem Qgd : type_of% @beq_eq_false_iff_ne := @beq_eq_false_iff_ne
theorem Qge : type_of% @List.map_cons := @List.map_cons
theorem Qgf : type_of% @List.mem_map := @List.mem_map
theorem Qgg : type_of% @List.append_nil := @List.append_nil
theorem Qgh : type_of% @List.flatten_cons := @List.flatten_cons
theorem Qgi : type_of% @List.length_range := @List.length_range
theorem Qgj : type_of% @List.eq_nil_of_length_eq_zero := @List.eq_nil_of_length_eq_zero
theorem Qgk : type_of% @Option.some.injEq := @Option.some.injEq
theorem Qgl : type_of% @List.drop_zero := @List.drop_zero
theorem Qgm : type_of% @List.Perm.append_right := @List.Perm.append_right
theorem Qgn : type_of% @List.length_take := @List.length_take
theorem Qgo : type_of% @List.mem_range := @List.mem_range
theorem Qgp : type_of% @List.getElem_of_mem := @List.getElem_of_mem
theorem Qgq : type_of% @Nat.zero_add := @Nat.zero_add
theorem Qgr : type_of% @List.all_eq_true := @List.all_eq_true
theorem Qgs : type_of% @Bool.true_and := @Bool.true_and
theorem Qgt : type_of% @List.getElem_map := @List.getElem_map
theorem Qgu : type_of% @List.length_nil := @List.length_nil
theorem Qgv : type_of% @Bool.and_eq_true := @Bool.and_eq_true
theorem Qgw : type_of% @List.singleton_append := @List.singleton_append
theorem Qgx : type_of% @List.foldl_cons := @List.foldl_cons
theorem Qgy : type_of% @Nat.mul_le_mul_right := @Nat.mul_le_mul_right
theorem Qgz : type_of% @List.length_set := @List.length_set
theorem Qg0 : type_of% @List.length_replicate := @List.length_replicate
theorem Qg1 : type_of% @List.mem_cons := @List.mem_cons
theorem Qg2 : type_of% @Bool.not_false := @Bool.not_false
theorem Qg3 : type_of% @beq_self_eq_true := @beq_self_eq_true
theorem Qg4 : type_of% @List.mem_map_of_mem := @List.mem_map_of_mem
theorem Qg5 : type_of% @List.map_append := @List.map_append
theorem Qg6 : type_of% @Array.length_toList := @Array.length_toList
theorem Qg7 : type_of% @Bool.not_true := @Bool.not_true
theorem Qg8 : type_of% @List.take_of_length_le := @List.take_of_length_le
theorem Qg9 : type_of% @List.idxOf_lt_length_iff := @List.idxOf_lt_length_iff
theorem Qha : type_of% @Nat.sub_zero := @Nat.sub_zero
theorem Qhb : type_of% @List.lookup_cons := @List.lookup_cons
theorem Qhc : type_of% @decide_eq_true_eq := @decide_eq_true_eq
theorem Qhd : type_of% @Option.getD_some := @Option.getD_some
theorem Qhe : type_of% @beq_iff_eq := @beq_iff_eq
theorem Qhf : type_of% @Nat.lt_of_lt_of_le := @Nat.lt_of_lt_of_le
theorem Qhg : type_of% @List.replicate_succ := @List.replicate_succ
theorem Qhh : type_of% @List.Perm.append_left := @List.Perm.append_left
theorem Qhi : type_of% @Nat.mul_one := @Nat.mul_one
theorem Qhj : type_of% @Nat.not_lt_zero := @Nat.not_lt_zero
theorem Qhk : type_of% @List.any_eq_true := @List.any_eq_true
theorem Qhl : type_of% @List.take_append_of_le_length := @List.take_append_of_le_length
theorem Qhm : type_of% @List.getElem_append_left := @List.getElem_append_left
theorem Qhn : type_of% @List.eq_of_mem_replicate := @List.eq_of_mem_replicate
theorem Qho : type_of% @List.perm_append_comm := @List.perm_append_comm
theorem Qhp : type_of% @Nat.succ_mul := @Nat.succ_mul
theorem Qhq : type_of% @List.getElem_idxOf := @List.getElem_idxOf
theorem Qhr : type_of% @List.length_eq_zero_iff := @List.length_eq_zero_iff
theorem Qhs : type_of% @Option.map_some := @Option.map_some
theorem Qht : type_of% @Nat.add_zero := @Nat.add_zero
theorem Qhu : type_of% @List.map_nil := @List.map_nil
theorem Qhv : type_of% @List.cons_append := @List.cons_append
theorem Qhw : type_of% @List.filter_cons := @List.filter_cons
theorem Qhx : type_of% @List.filter_eq_nil_iff := @List.filter_eq_nil_iff
theorem Qhy : type_of% @List.nodup_append := @List.nodup_append
theorem Qhz : type_of% @Array.toList_append := @Array.toList_append
theorem Qh0 : type_of% @List.map_eq_nil_iff := @List.map_eq_nil_iff
theorem Qh1 : type_of% @Bool.false_or := @Bool.false_or
theorem Qh2 : type_of% @List.contains_cons := @List.contains_cons
theorem Qh3 : type_of% @List.map_replicate := @List.map_replicate
theorem Qh4 : type_of% @List.pairwise_singleton := @List.pairwise_singleton
theorem Qh5 : type_of% @Nat.add_assoc := @Nat.add_assoc
theorem Qh6 : type_of% @Nat.mod_lt := @Nat.mod_lt
theorem Qh7 : type_of% @List.size_toArray := @List.size_toArray
theorem Qh8 : type_of% @Bool.eq_iff_iff := @Bool.eq_iff_iff
theorem Qh9 : type_of% @Nat.add_mul := @Nat.add_mul
theorem Qia : type_of% @List.mem_filter := @List.mem_filter
theorem Qib : type_of% @Option.map_none := @Option.map_none
theorem Qic : type_of% @List.flatten_append := @List.flatten_append
theorem Qid : type_of% @List.getElem_replicate := @List.getElem_replicate
theorem Qie : type_of% @List.length_drop := @List.length_drop
theorem Qif : type_of% @Nat.le_of_ble_eq_true := @Nat.le_of_ble_eq_true
theorem Qig : type_of% @List.getElem_range := @List.getElem_range
theorem Qih : type_of% @List.contains_iff_mem := @List.contains_iff_mem
theorem Qii : type_of% @List.getElem_set_self := @List.getElem_set_self
theorem Qij : type_of% @List.pairwise_iff_getElem := @List.pairwise_iff_getElem
theorem Qik : type_of% @Bool.false_and := @Bool.false_and
theorem Qil : type_of% @List.mem_of_mem_take := @List.mem_of_mem_take
theorem Qim : type_of% @List.cons.injEq := @List.cons.injEq
theorem Qin : type_of% @List.nodup_cons := @List.nodup_cons
theorem Qio : type_of% @Bool.or_eq_true := @Bool.or_eq_true
theorem Qip : type_of% @Nat.div_add_mod := @Nat.div_add_mod
theorem Qiq : type_of% @Nat.min_eq_left := @Nat.min_eq_left
theorem Qir : type_of% @Int.toNat_of_nonneg := @Int.toNat_of_nonneg
theorem Qis : type_of% @Option.bind_eq_some_iff := @Option.bind_eq_some_iff
theorem Qit : type_of% @List.not_mem_nil := @List.not_mem_nil
theorem Qiu : type_of% @List.mem_flatten := @List.mem_flatten
theorem Qiv : type_of% @Array.toList_map := @Array.toList_map
theorem Qiw : type_of% @List.nodup_nil := @List.nodup_nil
theorem Qix : type_of% @List.pairwise_lt_range := @List.pairwise_lt_range
theorem Qiy : type_of% @Nat.eq_zero_or_pos := @Nat.eq_zero_or_pos
theorem Qiz : type_of% @List.set_cons_zero := @List.set_cons_zero
theorem Qi0 : type_of% @List.set_cons_succ := @List.set_cons_succ
theorem Qi1 : type_of% @Nat.lt_or_ge := @Nat.lt_or_ge
theorem Qi2 : type_of% @List.take_length_add_append := @List.take_length_add_append
theorem Qi3 : type_of% @List.drop_length_add_append := @List.drop_length_add_append
theorem Qi4 : type_of% @List.idxOf_append := @List.idxOf_append
theorem Qi5 : type_of% @List.pairwise_map := @List.pairwise_map
theorem Qi6 : type_of% @Bool.or_eq_false_iff := @Bool.or_eq_false_iff
theorem Qi7 : type_of% @List.getElem_append_right := @List.getElem_append_right
theorem Qi8 : type_of% @List.take_left := @List.take_left
theorem Qi9 : type_of% @List.ext_getElem := @List.ext_getElem
theorem Qja : type_of% @List.map_congr_left := @List.map_congr_left
theorem Qjb : type_of% @List.length_reverse := @List.length_reverse
theorem Qjc : type_of% @List.map_map := @List.map_map
theorem Qjd : type_of% @Nat.mul_comm := @Nat.mul_comm
theorem Qje : type_of% @List.filter_nil := @List.filter_nil
theorem Qjf : type_of% @List.pairwise_cons := @List.pairwise_cons
theorem Qjg : type_of% @Bool.false_eq_true := @Bool.false_eq_true
theorem Qjh : type_of% @List.set_set := @List.set_set
theorem Qji : type_of% @Nat.zero_mul := @Nat.zero_mul
inductive DC where
 | ex (v : Value)
 | sl (full : Bool) (esz : Nat) (elems : List (List DC))
abbrev Reg := List (Nat × Nat)
def Wr (M : Reg) (b off : Nat) : Prop := ∃ lim, (b, lim) ∈ M ∧ lim ≤ off
theorem Wr.append {M N : Reg} {b off : Nat} : Wr (M ++ N) b off ↔ Wr M b off ∨ Wr N b off := by
 constructor
 ·rintro ⟨l, h, hl⟩
  rcases Qfz.1 h with h | h
  ·exact .inl ⟨l, h, hl⟩
  ·exact .inr ⟨l, h, hl⟩
 ·rintro (⟨l, h, hl⟩ | ⟨l, h, hl⟩)
  ·exact ⟨l, Qfz.2 (.inl h), hl⟩
  ·exact ⟨l, Qfz.2 (.inr h), hl⟩
theorem Wr.nil {b off : Nat} : ¬ Wr [] b off := fun ⟨_, h, _⟩ => by cases h
inductive Fw (w : World) (M : Reg) : Value → DC → Prop
 | ex (v : Value) (h : v.oneCell' = true) : Fw w M v (.ex v)
 | sl (a : Option Addr) (b off cap : Nat) (full : Bool) (esz : Nat) (elems : List (List DC)) (vs : Nat → Nat → Value)
   (ha : a = some ⟨b, off, none⟩ ∨ (elems = [] ∧ cap = 0))
   (hc : elems.length ≤ cap) (hm : cap ≤ maxLen) (hf : full = true → cap = elems.length)
   (hz : ∀ e ∈ elems, e.length = esz)
   (hw : ∀ i j d, (elems[i]?).bind (·[j]?) = some d → w.cell? ⟨b, off + i * esz + j, none⟩ = some (vs i j) ∧ ¬ Wr M b (off + i * esz + j))
   (hr : ∀ i j d, (elems[i]?).bind (·[j]?) = some d → Fw w M (vs i j) d) : Fw w M (.slice a elems.length cap) (.sl full esz elems)
theorem Fw.one {w : World} {M : Reg} {v : Value} {d : DC} (h : Fw w M v d) : v.oneCell' = true := by
 cases h with
 | ex _ h => exact h
 | sl => rfl
structure Ext (L : Reg) (w : World) (L' : Reg) (w' : World) : Prop where
 os : w'.os = w.os
 tape : w'.tape = w.tape
 output : w'.output = w.output
 size : w.heap.size ≤ w'.heap.size
 block : ∀ b, b < w.heap.size → (∀ lim, (b, lim) ∉ L) → w'.heap[b]? = w.heap[b]?
 cell : ∀ b off, b < w.heap.size → ¬ Wr L b off → w'.cell? ⟨b, off, none⟩ = w.cell? ⟨b, off, none⟩
 mono : ∀ b off, b < w.heap.size → Wr L' b off → Wr L b off
 blocks : ∀ b lim, b < w.heap.size → (b, lim) ∈ L' → ∃ lim', (b, lim') ∈ L
theorem Ext.refl (L : Reg) (w : World) : Ext L w L w := ⟨rfl, rfl, rfl, Qf6 _, fun _ _ _ => rfl, fun _ _ _ _ => rfl, fun _ _ _ h => h, fun _ l _ h => ⟨l, h⟩⟩
theorem Ext.trans {L L1 L2 : Reg} {w w1 w2 : World} (h : Ext L w L1 w1) (k : Ext L1 w1 L2 w2) : Ext L w L2 w2 where
 os := k.os.trans h.os
 tape := k.tape.trans h.tape
 output := k.output.trans h.output
 size := Nat.le_trans h.size k.size
 block b hb hn := (k.block b (Qhf hb h.size) (fun l hl => by obtain ⟨l', h'⟩ := h.blocks b l hb hl; exact hn l' h')).trans (h.block b hb hn)
 cell b off hb hn := (k.cell b off (Qhf hb h.size) (fun hl => hn (h.mono b off hb hl))).trans (h.cell b off hb hn)
 mono b off hb hw := h.mono b off hb (k.mono b off (Qhf hb h.size) hw)
 blocks b l hb hl := by obtain ⟨l', h'⟩ := k.blocks b l (Qhf hb h.size) hl; exact h.blocks b l' hb h'
theorem Ext.frame {L L' : Reg} {w w' : World} (h : Ext L w L' w') (F : Reg) : Ext (L ++ F) w (L' ++ F) w' where
 os := h.os
 tape := h.tape
 output := h.output
 size := h.size
 block b hb hn := h.block b hb (fun l hl => hn l (Qfz.2 (.inl hl)))
 cell b off hb hn := h.cell b off hb (fun hl => hn (Wr.append.2 (.inl hl)))
 mono b off hb hw := by
  rcases Wr.append.1 hw with hw | hw
  ·exact Wr.append.2 (.inl (h.mono b off hb hw))
  ·exact Wr.append.2 (.inr hw)
 blocks b l hb hl := by
  rcases Qfz.1 hl with hl | hl
  ·obtain ⟨l', h'⟩ := h.blocks b l hb hl; exact ⟨l', Qfz.2 (.inl h')⟩
  ·exact ⟨l, Qfz.2 (.inr hl)⟩
def Reg.same (M N : Reg) : Prop := ∀ p, p ∈ M ↔ p ∈ N
theorem Reg.same.wr {M N : Reg} (h : Reg.same M N) {b off : Nat} : Wr M b off ↔ Wr N b off := by
 constructor
 ·rintro ⟨l, hl, hle⟩; exact ⟨l, (h _).1 hl, hle⟩
 ·rintro ⟨l, hl, hle⟩; exact ⟨l, (h _).2 hl, hle⟩
theorem Ext.congr {L L' K K' : Reg} {w w' : World} (h : Ext L w L' w') (hl : Reg.same L K) (hk : Reg.same L' K') : Ext K w K' w' where
 os := h.os
 tape := h.tape
 output := h.output
 size := h.size
 block b hb hn := h.block b hb (fun l hl' => hn l ((hl _).1 hl'))
 cell b off hb hn := h.cell b off hb (fun hl' => hn (hl.wr.1 hl'))
 mono b off hb hw := hl.wr.1 (h.mono b off hb (hk.wr.2 hw))
 blocks b l hb hl' := by obtain ⟨l', h'⟩ := h.blocks b l hb ((hk _).2 hl'); exact ⟨l', (hl _).1 h'⟩
theorem cell_lt {w : World} {b off : Nat} {v : Value} (h : w.cell? ⟨b, off, none⟩ = some v) : b < w.heap.size := World.block_lt_of_cell? w ⟨b, off, none⟩ h
theorem Fw.step {M M' : Reg} {w w' : World} {v : Value} {d : DC} (h : Fw w M v d) (e : Ext M w M' w') : Fw w' M' v d := by
 induction h with
 | ex v h => exact .ex v h
 | sl a b off cap full esz elems vs ha hc hm hf hz hw hr ih =>
  refine .sl a b off cap full esz elems vs ha hc hm hf hz (fun i j d hd => ?_) ih
  obtain ⟨h1, h2⟩ := hw i j d hd
  have hb := cell_lt h1
  exact ⟨(e.cell _ _ hb h2).trans h1, fun hw' => h2 (e.mono _ _ hb hw')⟩
theorem Fw.less {M M' : Reg} {w : World} {v : Value} {d : DC} (h : Fw w M v d) (hs : ∀ b off, Wr M' b off → Wr M b off) : Fw w M' v d := by
 induction h with
 | ex v h => exact .ex v h
 | sl a b off cap full esz elems vs ha hc hm hf hz hw hr ih =>
  exact .sl a b off cap full esz elems vs ha hc hm hf hz (fun i j d hd => ⟨(hw i j d hd).1, fun h' => (hw i j d hd).2 (hs _ _ h')⟩) ih
inductive AV where
 | any
 | c (d : DC)
 | agg (l : List DC)
 | ref (l : List DC)
 | el (hv : Value) (esz i q : Nat)
 | tup (l : List AV)
 | sub (hv : Value) (esz l : Nat)
 | pre (hv : Value) (n : Nat)
def SubOf (hv v : Value) (esz l : Nat) : Prop := ∃ a n cap, hv = .slice a n cap ∧ l ≤ n ∧ v = .slice (if cap = l then a else a.map (·.add (l * esz))) (n - l) (cap - l)
def PreOf (hv v : Value) (n : Nat) : Prop := ∃ a m cap, hv = .slice a m cap ∧ n ≤ m ∧ v = .slice a n cap
def V8 (w : World) (M : Reg) (vs : List Value) (ds : List DC) : Prop := vs.length = ds.length ∧ ∀ (i : Nat) (v : Value) (d : DC), vs[i]? = some v → ds[i]? = some d → Fw w M v d
theorem V8.step {M M' : Reg} {w w' : World} {vs : List Value} {ds : List DC} (h : V8 w M vs ds) (e : Ext M w M' w') : V8 w' M' vs ds :=
 ⟨h.1, fun i v d hv hd => (h.2 i v d hv hd).step e⟩
theorem V8.less {M M' : Reg} {w : World} {vs : List Value} {ds : List DC} (h : V8 w M vs ds) (hs : ∀ b off, Wr M' b off → Wr M b off) : V8 w M' vs ds :=
 ⟨h.1, fun i v d hv hd => (h.2 i v d hv hd).less hs⟩
theorem V8.nil {w : World} {M : Reg} : V8 w M [] [] := ⟨rfl, fun i v d hv _ => by simp at hv⟩
theorem V8.cons {w : World} {M : Reg} {v : Value} {d : DC} {vs : List Value} {ds : List DC} (h : Fw w M v d) (k : V8 w M vs ds) : V8 w M (v :: vs) (d :: ds) := by
 refine ⟨by simp [k.1], fun i u c hu hc => ?_⟩
 cases i with
 | zero => simp at hu hc; subst hu; subst hc; exact h
 | succ i => exact k.2 i u c (by simpa using hu) (by simpa using hc)
theorem V8.uncons {w : World} {M : Reg} {v : Value} {d : DC} {vs : List Value} {ds : List DC} (h : V8 w M (v :: vs) (d :: ds)) : Fw w M v d ∧ V8 w M vs ds :=
 ⟨h.2 0 v d (by simp) (by simp), by simpa using h.1, fun i u c hu hc => h.2 (i + 1) u c (by simpa using hu) (by simpa using hc)⟩
theorem V8.append {w : World} {M : Reg} {vs us : List Value} {ds cs : List DC} (h : V8 w M vs ds) (k : V8 w M us cs) : V8 w M (vs ++ us) (ds ++ cs) := by
 refine ⟨by simp [h.1, k.1], fun i u c hu hc => ?_⟩
 by_cases hi : i < vs.length
 ·rw [List.getElem?_append_left hi] at hu
  rw [List.getElem?_append_left (by rw [← h.1]; exact hi)] at hc
  exact h.2 i u c hu hc
 ·rw [List.getElem?_append_right (by omega)] at hu
  rw [List.getElem?_append_right (by have := h.1; omega), ← h.1] at hc
  exact k.2 _ u c hu hc
theorem V8.take {w : World} {M : Reg} {vs : List Value} {ds : List DC} (h : V8 w M vs ds) (n : Nat) : V8 w M (vs.take n) (ds.take n) := by
 refine ⟨by simp [h.1], fun i u c hu hc => ?_⟩
 rw [List.getElem?_take] at hu hc
 split at hu <;> simp_all
 exact h.2 i u c hu hc
theorem V8.drop {w : World} {M : Reg} {vs : List Value} {ds : List DC} (h : V8 w M vs ds) (n : Nat) : V8 w M (vs.drop n) (ds.drop n) := by
 refine ⟨by simp [h.1], fun i u c hu hc => ?_⟩
 rw [List.getElem?_drop] at hu hc
 exact h.2 _ u c hu hc
theorem V8.one {w : World} {M : Reg} {vs : List Value} {ds : List DC} (h : V8 w M vs ds) : ∀ v ∈ vs, v.oneCell' = true := by
 intro v hv
 obtain ⟨i, hi⟩ := List.getElem?_of_mem hv
 have hlt : i < ds.length := by
  have := (List.getElem?_eq_some_iff.1 hi).1
  rw [← h.1]; exact this
 exact (h.2 i v ds[i] hi (by simp [hlt])).one
inductive AvR (w : World) (M : Reg) : Value → AV → Prop
 | any (v) : AvR w M v .any
 | c (v d) (h : Fw w M v d) : AvR w M v (.c d)
 | agg (vs : Array Value) (l) (h : V8 w M vs.toList l) : AvR w M (.agg vs) (.agg l)
 | ref (b off) (vs : List Value) (l) (h : V8 w M vs l) (hc : ∀ (i : Nat) (v : Value), vs[i]? = some v → w.cell? ⟨b, off + i, none⟩ = some v ∧ ¬ Wr M b (off + i)) : AvR w M (.pointer (some ⟨b, off, none⟩)) (.ref l)
 | el (g n cap esz i q) : AvR w M (.pointer (some ⟨g, i * esz + q, none⟩)) (.el (.slice (some ⟨g, 0, none⟩) n cap) esz i q)
 | tup (vs : Array Value) (l) (hl : vs.size = l.length) (h : ∀ (i : Nat) (v : Value) (x : AV), vs[i]? = some v → l[i]? = some x → AvR w M v x) : AvR w M (.tuple vs) (.tup l)
 | sub (v hv : Value) (esz l : Nat) (h : SubOf hv v esz l) : AvR w M v (.sub hv esz l)
 | pre (v hv : Value) (n : Nat) (h : PreOf hv v n) : AvR w M v (.pre hv n)
theorem AvR.step {M M' : Reg} {w w' : World} {v : Value} {d : AV} (h : AvR w M v d) (e : Ext M w M' w') : AvR w' M' v d := by
 induction h with
 | any v => exact .any v
 | c v d h => exact .c v d (h.step e)
 | agg vs l h => exact .agg vs l (h.step e)
 | ref b off vs l h hc =>
  refine .ref b off vs l (h.step e) (fun i v hi => ?_)
  obtain ⟨h1, h2⟩ := hc i v hi
  have hb := cell_lt h1
  exact ⟨(e.cell _ _ hb h2).trans h1, fun hw' => h2 (e.mono _ _ hb hw')⟩
 | el g n cap esz i q => exact .el g n cap esz i q
 | tup vs l hl h ih => exact .tup vs l hl ih
 | sub v hv esz l h => exact .sub v hv esz l h
 | pre v hv n h => exact .pre v hv n h
theorem AvR.less {M M' : Reg} {w : World} {v : Value} {d : AV} (h : AvR w M v d) (hs : ∀ b off, Wr M' b off → Wr M b off) : AvR w M' v d := by
 induction h with
 | any v => exact .any v
 | c v d h => exact .c v d (h.less hs)
 | agg vs l h => exact .agg vs l (h.less hs)
 | ref b off vs l h hc => exact .ref b off vs l (h.less hs) (fun i v hi => ⟨(hc i v hi).1, fun h' => (hc i v hi).2 (hs _ _ h')⟩)
 | el g n cap esz i q => exact .el g n cap esz i q
 | tup vs l hl h ih => exact .tup vs l hl ih
 | sub v hv esz l h => exact .sub v hv esz l h
 | pre v hv n h => exact .pre v hv n h
inductive OC where
 | d (c : DC)
 | own (e : TypeId) (esz : Nat) (elems : List (List DC))
inductive OwnR (w : World) (M : Reg) : Value → TypeId → Nat → List (List DC) → Reg → Prop
 | nil (a e esz) : OwnR w M (.slice a 0 0) e esz [] []
 | full (v : Value) (e : TypeId) (esz : Nat) (elems : List (List DC)) (h : Fw w M v (.sl true esz elems)) : OwnR w M v e esz elems []
 | some (g cap : Nat) (cur : Array Value) (e : TypeId) (esz : Nat) (elems : List (List DC))
   (hg : w.heap[g]? = some (.cells cur e (0, 0))) (hn : elems.length ≤ cap) (hm : cap ≤ maxLen) (hcs : cur.size = cap * esz)
   (hz : ∀ x ∈ elems, x.length = esz)
   (hnw : ∀ off, off < elems.length * esz → ¬ Wr M g off)
   (hr : V8 w M (cur.toList.take (elems.length * esz)) elems.flatten) : OwnR w M (.slice (some ⟨g, 0, none⟩) elems.length cap) e esz elems [(g, elems.length * esz)]
inductive Qfq (w : World) (M : Reg) : Value → OC → Reg → Prop
 | d (v c) (h : Fw w M v c) : Qfq w M v (.d c) []
 | own (v e esz elems r) (h : OwnR w M v e esz elems r) : Qfq w M v (.own e esz elems) r
inductive Xe (w : World) (M : Reg) : List Value → List OC → Reg → Prop
 | nil : Xe w M [] [] []
 | cons (v c r vs cs rs) (h : Qfq w M v c r) (t : Xe w M vs cs rs) : Xe w M (v :: vs) (c :: cs) (r ++ rs)
inductive Ob where
 | box (b : Nat) (e : TypeId) (cells : List OC)
 | arrX (v : Value) (e : TypeId) (esz lo : Nat) (elems : List (List DC))
 | arrA (v : Value) (e : TypeId) (esz : Nat) (elems : List (List DC))
 | ro (g : Nat) (cells : List DC)
 | fork (v v1 : Value) (e : TypeId) (esz : Nat) (elems ys : List (List DC))
 | tab (g : Nat) (cs : Array Value)
 | map (b : Nat) (kvs : List (Value × Value))
 | arrG (v : Value) (e : TypeId) (cells : List OC)
def CutBack (v v1 : Value) (n : Nat) : Prop := ∃ g m cap, v1 = .slice (some ⟨g, 0, none⟩) m cap ∧ v = .slice (some ⟨g, 0, none⟩) n cap ∧ n ≤ m
inductive ObR (w : World) (M : Reg) : Ob → Reg → Prop
 | box (b e cs cells r) (hb : w.heap[b]? = some (.cells cs e (0, 0))) (h : Xe w M cs.toList cells r) : ObR w M (.box b e cells) ((b, 0) :: r)
 | arrX0 (a e esz) : ObR w M (.arrX (.slice a 0 0) e esz 0 []) []
 | arrX (g cap : Nat) (cur : Array Value) (e : TypeId) (esz lo : Nat) (elems : List (List DC))
   (hg : w.heap[g]? = some (.cells cur e (0, 0))) (hlo : lo ≤ elems.length) (hn : elems.length ≤ cap) (hm : cap ≤ maxLen) (hcs : cur.size = cap * esz)
   (hz : ∀ x ∈ elems, x.length = esz)
   (hnw : ∀ off, off < lo * esz → ¬ Wr M g off)
   (hr : V8 w M (cur.toList.take (elems.length * esz)) elems.flatten) : ObR w M (.arrX (.slice (some ⟨g, 0, none⟩) elems.length cap) e esz lo elems) [(g, lo * esz)]
 | arrA (v e esz elems r) (h : OwnR w M v e esz elems r) : ObR w M (.arrA v e esz elems) r
 | ro (g : Nat) (vs : List Value) (cells : List DC) (h : V8 w M vs cells) (hc : ∀ (i : Nat) (v : Value), vs[i]? = some v → w.cell? ⟨g, i, none⟩ = some v ∧ ¬ Wr M g i) : ObR w M (.ro g cells) []
 | forkIn (v v1 : Value) (e : TypeId) (esz : Nat) (elems ys : List (List DC)) (r : Reg) (hc : CutBack v v1 elems.length) (h : ObR w M (.arrX v1 e esz 0 (elems ++ ys)) r) : ObR w M (.fork v v1 e esz elems ys) r
 | forkNew (v v1 : Value) (e : TypeId) (esz : Nat) (elems ys : List (List DC)) (r1 r2 : Reg) (h1 : ObR w M (.arrX v e esz 0 elems) r1) (h2 : ObR w M (.arrX v1 e esz 0 (elems ++ ys)) r2) : ObR w M (.fork v v1 e esz elems ys) (r1 ++ r2)
 | tab (g : Nat) (t : TypeId) (cs : Array Value) (fz : Nat × Nat) (hg : w.heap[g]? = some (.cells cs t fz)) (hn : ∀ off, ¬ Wr M g off) : ObR w M (.tab g cs) []
 | map (b : Nat) (es : Array MapEntry) (clock : Nat) (kvs : List (Value × Value)) (hb : w.heap[b]? = some (.map es clock)) (hk : es.toList.map (fun e => (e.key, e.val)) = kvs) : ObR w M (.map b kvs) [(b, 0)]
 | arrG (g : Nat) (cur : Array Value) (e : TypeId) (cells : List OC) (r : Reg) (hg : w.heap[g]? = some (.cells cur e (0, 0))) (hm : cells.length ≤ maxLen) (h : Xe w M cur.toList cells r) : ObR w M (.arrG (.slice (some ⟨g, 0, none⟩) cells.length cells.length) e cells) ((g, 0) :: r)
inductive X1 (w : World) (M : Reg) : List Ob → Reg → Prop
 | nil : X1 w M [] []
 | cons (o r t rs) (h : ObR w M o r) (k : X1 w M t rs) : X1 w M (o :: t) (r ++ rs)
end Go.Rv
namespace Go.Rv
theorem OwnR.step {w w' : World} {M M' K K' : Reg} {v : Value} {e : TypeId} {esz : Nat} {elems : List (List DC)} {r : Reg} (h : OwnR w M v e esz elems r) (x : Ext K w K' w')
  (hd : ∀ p ∈ r, ∀ lim, (p.1, lim) ∉ K) (y : Ext M w M' w') : OwnR w' M' v e esz elems r := by
 cases h with
 | nil => exact .nil _ _ _
 | full _ _ _ _ h => exact .full _ _ _ _ (h.step y)
 | some g cap cur e esz elems hg hn hm hcs hz hnw hr =>
  have hlt := lt_of_block hg
  refine .some g cap cur e esz elems ?_ hn hm hcs hz (fun off ho hw => hnw off ho (y.mono _ _ hlt hw)) (hr.step y)
  rw [x.block g hlt (hd _ (Qf3.2 rfl))]
  exact hg
theorem Qfq.step {w w' : World} {M M' K K' : Reg} {v : Value} {c : OC} {r : Reg} (h : Qfq w M v c r) (x : Ext K w K' w')
  (hd : ∀ p ∈ r, ∀ lim, (p.1, lim) ∉ K) (y : Ext M w M' w') : Qfq w' M' v c r := by
 cases h with
 | d c h => exact .d v c (h.step y)
 | own e esz elems r h => exact .own v e esz elems r (h.step x hd y)
theorem Xe.step {w w' : World} {M M' K K' : Reg} {vs : List Value} {cs : List OC} {r : Reg} (h : Xe w M vs cs r) (x : Ext K w K' w')
  (hd : ∀ p ∈ r, ∀ lim, (p.1, lim) ∉ K) (y : Ext M w M' w') : Xe w' M' vs cs r := by
 induction h with
 | nil => exact .nil
 | cons v c r vs cs rs h t ih =>
  exact .cons v c r vs cs rs (h.step x (fun p hp => hd p (Qfz.2 (.inl hp))) y) (ih fun p hp => hd p (Qfz.2 (.inr hp)))
theorem ObR.step {w w' : World} {M M' K K' : Reg} {o : Ob} {r : Reg} (h : ObR w M o r) (x : Ext K w K' w')
  (hd : ∀ p ∈ r, ∀ lim, (p.1, lim) ∉ K) (y : Ext M w M' w') : ObR w' M' o r := by
 induction h with
 | box b e cs cells r hb h =>
  refine .box b e cs cells r ?_ (h.step x (fun p hp => hd p (Qf5 _ hp)) y)
  rw [x.block b (lt_of_block hb) (hd (b, 0) (Qga ..))]; exact hb
 | arrX0 a e esz => exact .arrX0 a e esz
 | arrX g cap cur e esz lo elems hg hlo hn hm hcs hz hnw hr =>
  have hlt := lt_of_block hg
  refine .arrX g cap cur e esz lo elems ?_ hlo hn hm hcs hz (fun off ho hw => hnw off ho (y.mono _ _ hlt hw)) (hr.step y)
  rw [x.block g hlt (hd _ (Qf3.2 rfl))]; exact hg
 | arrA v e esz elems r h => exact .arrA v e esz elems r (h.step x hd y)
 | ro g vs cells h hc =>
  refine .ro g vs cells (h.step y) (fun i v hi => ?_)
  obtain ⟨h1, h2⟩ := hc i v hi
  have hb := cell_lt h1
  exact ⟨(y.cell _ _ hb h2).trans h1, fun hw' => h2 (y.mono _ _ hb hw')⟩
 | forkIn v v1 e esz elems ys r hc h ih => exact .forkIn v v1 e esz elems ys r hc (ih hd)
 | forkNew v v1 e esz elems ys r1 r2 h1 h2 ih1 ih2 => exact .forkNew v v1 e esz elems ys r1 r2 (ih1 fun p hp => hd p (Qfz.2 (.inl hp))) (ih2 fun p hp => hd p (Qfz.2 (.inr hp)))
 | tab g t cs fz hg hn =>
  have hlt := lt_of_block hg
  exact .tab g t cs fz ((y.block g hlt (fun lim hl => hn lim ⟨lim, hl, Qf6 _⟩)).trans hg) (fun off hw => hn off (y.mono _ _ hlt hw))
 | map b es clock kvs hb hk => exact .map b es clock kvs ((x.block b (lt_of_block hb) (hd (b, 0) (Qf3.2 rfl))).trans hb) hk
 | arrG g cur e cells r hg hm h =>
  refine .arrG g cur e cells r ?_ hm (h.step x (fun p hp => hd p (Qf5 _ hp)) y)
  rw [x.block g (lt_of_block hg) (hd (g, 0) (Qga ..))]; exact hg
theorem X1.step {w w' : World} {M M' K K' : Reg} {t : List Ob} {r : Reg} (h : X1 w M t r) (x : Ext K w K' w')
  (hd : ∀ p ∈ r, ∀ lim, (p.1, lim) ∉ K) (y : Ext M w M' w') : X1 w' M' t r := by
 induction h with
 | nil => exact .nil
 | cons o r t rs h k ih => exact .cons o r t rs (h.step x (fun p hp => hd p (Qfz.2 (.inl hp))) y) (ih fun p hp => hd p (Qfz.2 (.inr hp)))
theorem V8.congr {w : World} {M M' : Reg} {vs : List Value} {ds : List DC} (h : V8 w M vs ds) (hs : ∀ b off, Wr M' b off ↔ Wr M b off) : V8 w M' vs ds := h.less fun b o => (hs b o).1
theorem OwnR.congr {w : World} {M M' : Reg} {v : Value} {e : TypeId} {esz : Nat} {elems : List (List DC)} {r : Reg} (h : OwnR w M v e esz elems r) (hs : ∀ b off, Wr M' b off ↔ Wr M b off) : OwnR w M' v e esz elems r := by
 cases h with
 | nil => exact .nil _ _ _
 | full _ _ _ _ h => exact .full _ _ _ _ (h.less fun b o => (hs b o).1)
 | some g cap cur e esz elems hg hn hm hcs hz hnw hr => exact .some g cap cur e esz elems hg hn hm hcs hz (fun off ho hw => hnw off ho ((hs _ _).1 hw)) (hr.congr hs)
theorem Qfq.congr {w : World} {M M' : Reg} {v : Value} {c : OC} {r : Reg} (h : Qfq w M v c r) (hs : ∀ b off, Wr M' b off ↔ Wr M b off) : Qfq w M' v c r := by
 cases h with
 | d c h => exact .d v c (h.less fun b o => (hs b o).1)
 | own e esz elems r h => exact .own v e esz elems r (h.congr hs)
theorem Xe.congr {w : World} {M M' : Reg} {vs : List Value} {cs : List OC} {r : Reg} (h : Xe w M vs cs r) (hs : ∀ b off, Wr M' b off ↔ Wr M b off) : Xe w M' vs cs r := by
 induction h with
 | nil => exact .nil
 | cons v c r vs cs rs h t ih => exact .cons v c r vs cs rs (h.congr hs) ih
theorem ObR.congr {w : World} {M M' : Reg} {o : Ob} {r : Reg} (h : ObR w M o r) (hs : ∀ b off, Wr M' b off ↔ Wr M b off) : ObR w M' o r := by
 induction h with
 | box b e cs cells r hb h => exact .box b e cs cells r hb (h.congr hs)
 | arrX0 a e esz => exact .arrX0 a e esz
 | arrX g cap cur e esz lo elems hg hlo hn hm hcs hz hnw hr => exact .arrX g cap cur e esz lo elems hg hlo hn hm hcs hz (fun off ho hw => hnw off ho ((hs _ _).1 hw)) (hr.congr hs)
 | arrA v e esz elems r h => exact .arrA v e esz elems r (h.congr hs)
 | ro g vs cells h hc => exact .ro g vs cells (h.congr hs) (fun i v hi => ⟨(hc i v hi).1, fun h' => (hc i v hi).2 ((hs _ _).1 h')⟩)
 | forkIn v v1 e esz elems ys r hc h ih => exact .forkIn v v1 e esz elems ys r hc ih
 | forkNew v v1 e esz elems ys r1 r2 h1 h2 ih1 ih2 => exact .forkNew v v1 e esz elems ys r1 r2 ih1 ih2
 | tab g t cs fz hg hn => exact .tab g t cs fz hg (fun off hw => hn off ((hs _ _).1 hw))
 | map b es clock kvs hb hk => exact .map b es clock kvs hb hk
 | arrG g cur e cells r hg hm h => exact .arrG g cur e cells r hg hm (h.congr hs)
theorem X1.congr {w : World} {M M' : Reg} {t : List Ob} {r : Reg} (h : X1 w M t r) (hs : ∀ b off, Wr M' b off ↔ Wr M b off) : X1 w M' t r := by
 induction h with
 | nil => exact .nil
 | cons o r t rs h k ih => exact .cons o r t rs (h.congr hs) ih
structure St where
 slots : List (Nat × AV)
 tab : List Ob
structure Rel (w : World) (N : Nat) (F L : Reg) (s : St) (a : Act) : Prop where
 defers : a.defers = []
 size : a.tmps.size = N
 slot : ∀ t v, s.slots.lookup t = some v → AvR w (L ++ F) (a.tmps.getD t undef) v
 heap : X1 w (L ++ F) s.tab L
 nodup : ((L ++ F).map (·.1)).Nodup
 lt : ∀ p ∈ L ++ F, p.1 < w.heap.size
def constAV : Value → AV
 | .agg _ => .any
 | .tuple _ => .any
 | v => .c (.ex v)
theorem constAV_rel (w : World) (M : Reg) (v : Value) : AvR w M v (constAV v) := by
 cases v <;> first | exact .any _ | exact .c _ _ (.ex _ rfl)
def St.ev (s : St) : Operand → Option AV
 | .tmp t => s.slots.lookup t
 | .const v => some (constAV v)
 | .global g => some (.c (.ex (.pointer (some ⟨g, 0, none⟩))))
 | .func f => some (.c (.ex (.func (.func f) #[] #[])))
theorem Rel.ev {w : World} {N : Nat} {F L : Reg} {s : St} {a : Act} (h : Rel w N F L s a) {x : Operand} {v : AV} (hx : s.ev x = some v) : AvR w (L ++ F) (a.eval x) v := by
 cases x with
 | tmp t => exact h.slot t v hx
 | const c => simp only [St.ev, Qgk] at hx; subst hx; exact constAV_rel _ _ _
 | global g => simp only [St.ev, Qgk] at hx; subst hx; exact .c _ _ (.ex _ rfl)
 | func f => simp only [St.ev, Qgk] at hx; subst hx; exact .c _ _ (.ex _ rfl)
def St.put (s : St) (d : Nat) (v : AV) : St := { s with slots := (d, v) :: s.slots }
def St.putO (s : St) : Option Nat → AV → St
 | some d, v => s.put d v
 | none, _ => s
def St.upd (s : St) (o : Option Nat) (v : AV) (tab : List Ob) : St := ⟨(s.putO o v).slots, tab⟩
theorem getD_set_ne (xs : Array Value) (d t : Nat) (v u : Value) (h : t ≠ d) : (xs.setIfInBounds d v).getD t u = xs.getD t u := by
 simp only [Array.getD_eq_getD_getElem?, Array.getElem?_setIfInBounds]
 rw [if_neg (fun e => h e.symm)]
theorem getD_set_self (xs : Array Value) (d : Nat) (v u : Value) (h : d < xs.size) : (xs.setIfInBounds d v).getD d u = v := by
 simp [Array.getD_eq_getD_getElem?, h]
theorem Rel.next {w w' : World} {N : Nat} {F L L' : Reg} {s : St} {tab : List Ob} {a : Act} {o : Option Nat} {v : Value} {x : AV} (h : Rel w N F L s a) (e : Ext L w L' w')
  (hN : ∀ d, o = some d → d < N) (hv : AvR w' (L' ++ F) v x) (hh : X1 w' (L' ++ F) tab L') (hnd : ((L' ++ F).map (·.1)).Nodup) (hlt : ∀ p ∈ L', p.1 < w'.heap.size) :
  Rel w' N F L' (s.upd o x tab) (a.put o v) where
 defers := by cases o <;> exact h.defers
 size := by
  cases o with
  | none => exact h.size
  | some d => simpa [Act.put] using h.size
 slot t u hu := by
  cases o with
  | none => exact (h.slot t u hu).step (e.frame F)
  | some d =>
   have hd := hN d rfl
   simp only [St.upd, St.putO, St.put, Qhb] at hu
   by_cases htd : t = d
   ·subst htd
    simp at hu
    subst hu
    simp only [Act.put]
    rw [getD_set_self _ _ _ _ (by rw [h.size]; exact hd)]
    exact hv
   ·have hb : (t == d) = false := by simp [htd]
    rw [hb] at hu
    simp only [Act.put]
    rw [getD_set_ne _ _ _ _ _ htd]
    exact (h.slot t u hu).step (e.frame F)
 heap := hh
 nodup := hnd
 lt p hp := by
  rcases Qfz.1 hp with hp | hp
  ·exact hlt p hp
  ·exact Qhf (h.lt p (Qfz.2 (.inr hp))) e.size
theorem Rel.put {w : World} {N : Nat} {F L : Reg} {s : St} {a : Act} {o : Option Nat} {v : Value} {x : AV} (h : Rel w N F L s a)
  (hN : ∀ d, o = some d → d < N) (hv : AvR w (L ++ F) v x) : Rel w N F L (s.putO o x) (a.put o v) := by
 have := h.next (tab := s.tab) (Ext.refl L w) hN hv h.heap h.nodup (fun p hp => h.lt p (Qfz.2 (.inl hp)))
 cases o <;> exact this
def T (P : Program) (N : Nat) (c : Code) (s : St) (Q : Exit → St → Prop) : Prop :=
 ∀ F L a w, Rel w N F L s a → c.wp P (fun e a' w' => ∃ L' s', Q e s' ∧ Rel w' N F L' s' a' ∧ Ext L w L' w') a w
section
variable {P : Program} {N : Nat} {s : St} {Q : Exit → St → Prop}
def thenS (next : St → Prop) (Q : Exit → St → Prop) : Exit → St → Prop
 | .normal, s => next s
 | e, s => Q e s
theorem T.seq {x y : Code} (h : T P N x s (thenS (fun s' => T P N y s' Q) Q)) : T P N (.seq x y) s Q := by
 intro F L a w hr
 refine wp_seq (wp_mono (h F L a w hr) ?_)
 rintro e a' w' ⟨L', s', q, r, x⟩
 cases e with
 | normal => exact wp_mono (q F L' a' w' r) fun _ _ _ ⟨L2, s2, q2, r2, x2⟩ => ⟨L2, s2, q2, r2, x.trans x2⟩
 | exit id => exact ⟨L', s', q, r, x⟩
 | goto l => exact ⟨L', s', q, r, x⟩
 | ret => exact ⟨L', s', q, r, x⟩
 | panic ch => exact ⟨L', s', q, r, x⟩
 | outgrown => exact ⟨L', s', q, r, x⟩
theorem T.skip (h : Q .normal s) : T P N .skip s Q := fun _ L _ w hr => wp_skip ⟨L, s, h, hr, Ext.refl _ w⟩
theorem T.ret (h : Q .ret s) : T P N .ret s Q := fun _ L _ w hr => wp_ret ⟨L, s, h, hr, Ext.refl _ w⟩
theorem T.exit {id : Nat} (h : Q (.exit id) s) : T P N (.exit id) s Q := fun _ L _ w hr => wp_exit ⟨L, s, h, hr, Ext.refl _ w⟩
theorem Fw.exact {w : World} {M : Reg} {v x : Value} (h : Fw w M v (.ex x)) : v = x ∧ x.oneCell' = true := by
 cases h
 exact ⟨rfl, by assumption⟩
theorem AvR.exact {w : World} {M : Reg} {v x : Value} (h : AvR w M v (.c (.ex x))) : v = x ∧ x.oneCell' = true := by
 cases h
 rename_i h
 exact h.exact
theorem evBool {w : World} {F L : Reg} {a : Act} {x : Operand} {b : Bool} (hr : Rel w N F L s a) (hx : s.ev x = some (.c (.ex (.bool b)))) : a.eval x = .bool b := by
 exact (hr.ev hx).exact.1
theorem T.cond {c : Operand} {x y : Code} {b : Bool} (hc : s.ev c = some (.c (.ex (.bool b)))) (ht : b = true → T P N x s Q) (hf : b = false → T P N y s Q) : T P N (.cond c x y) s Q := by
 intro F L a w hr
 refine wp_cond_split (evBool hr hc) (fun h => ht h F L a w hr) (fun h => hf h F L a w hr)
def Qz (id : Nat) (Q : Exit → St → Prop) : Exit → St → Prop
 | .exit id', s => if id' = id then Q .normal s else Q (.exit id') s
 | e, s => Q e s
theorem T.block {id : Nat} {c : Code} (h : T P N c s (Qz id Q)) : T P N (.block id c) s Q := by
 intro F L a w hr
 refine wp_block (wp_mono (h F L a w hr) ?_)
 rintro e a' w' ⟨L', s', q, r, x⟩
 cases e with
 | exit id' =>
  simp only [Qz] at q
  simp only [Exit.inBlock]
  split
  ·rename_i hid; rw [if_pos hid] at q; exact ⟨L', s', q, r, x⟩
  ·rename_i hid; rw [if_neg hid] at q; exact ⟨L', s', q, r, x⟩
 | normal => exact ⟨L', s', q, r, x⟩
 | goto l => exact ⟨L', s', q, r, x⟩
 | ret => exact ⟨L', s', q, r, x⟩
 | panic ch => exact ⟨L', s', q, r, x⟩
 | outgrown => exact ⟨L', s', q, r, x⟩
def TL (P : Program) (N : Nat) (c : Code) (s : St) (Q : Exit → St → Prop) : Prop :=
 ∀ F L a w, Rel w N F L s a → ∀ (b : Frame) (k : List Item) (cs : List Frame),
  ∃ e a' w', (∃ L' s', Q e s' ∧ Rel w' N F L' s' a' ∧ Ext L w L' w') ∧ Arrives P (lone (b.at a (.code c :: .inLoop c :: k)) cs w) b k cs e a' w'
theorem T.loop {c : Code} (h : TL P N c s Q) : T P N (.loop c) s Q := by
 intro F L a w hr b k cs
 obtain ⟨e, a', w', hq, harr⟩ := h F L a w hr b k cs
 exact ⟨e, a', w', hq, .of_steps (.one step_loop) harr⟩
theorem Za {c : Code} (h : T P N c s (thenS (fun s' => TL P N c s' Q) Q)) : TL P N c s Q := by
 intro F L a w hr b k cs
 obtain ⟨e, a1, w1, ⟨L1, s1, q, r, x⟩, harr⟩ := h F L a w hr b (.inLoop c :: k) cs
 cases e with
 | normal =>
  obtain ⟨e2, a2, w2, ⟨L2, s2, q2, r2, x2⟩, harr2⟩ := q F L1 a1 w1 r b k cs
  exact ⟨e2, a2, w2, ⟨L2, s2, q2, r2, x.trans x2⟩, .of_steps (Steps.trans harr (.one step_inLoop)) harr2⟩
 | exit id => exact ⟨_, a1, w1, ⟨L1, s1, q, r, x⟩, .pass (x := .inLoop c) rfl (fun _ _ => .inl (by simp)) harr⟩
 | goto l => exact ⟨_, a1, w1, ⟨L1, s1, q, r, x⟩, .pass (x := .inLoop c) rfl (fun _ _ => .inl (by simp)) harr⟩
 | ret => exact ⟨_, a1, w1, ⟨L1, s1, q, r, x⟩, .pass (x := .inLoop c) rfl (fun _ _ => .inl (by simp)) harr⟩
 | panic ch => exact ⟨_, a1, w1, ⟨L1, s1, q, r, x⟩, .pass (x := .inLoop c) rfl (fun _ _ => .inl (by simp)) harr⟩
 | outgrown => exact ⟨_, a1, w1, ⟨L1, s1, q, r, x⟩, .pass (x := .inLoop c) rfl (fun _ _ => .inl (by simp)) harr⟩
def OpT (P : Program) (N : Nat) (o : Oper) (s : St) (K : St → Prop) : Prop :=
 ∀ F L a w, Rel w N F L s a → o.wp P a w (fun a' w' => ∃ L' s', K s' ∧ Rel w' N F L' s' a' ∧ Ext L w L' w') (fun _ _ _ => False)
theorem Ch {o : Oper} {a : Act} {n n' : Act → World → Prop} {q q' : Exit → Act → World → Prop} {x : Result Next} (h : o.upon P a n q x) (hn : ∀ a w, n a w → n' a w) (hq : ∀ e a w, q e a w → q' e a w) : o.upon P a n' q' x := by
 unfold Oper.upon at h ⊢
 split
 ·exact hn _ _ h
 ·exact hn _ _ h
 ·exact hn _ _ h
 ·refine Calls.mono h fun e w' he => ?_
  cases e with
  | returned v => exact hn _ _ he
  | panicked ch => exact hq _ _ _ he
  | outgrown => obtain ⟨a0, w0, h0⟩ := he; exact ⟨a0, w0, hq _ _ _ h0⟩
 ·exact Rows.mono h fun v w' hv => hn _ _ hv
 ·exact hq _ _ _ h
 ·rename_i h1 h2 h3 h4 h5 h6
  split at h
  ·exact (h1 _ _ rfl).elim
  ·exact (h2 _ rfl).elim
  ·exact (h3 _ _ rfl).elim
  ·exact (h4 _ _ _ rfl).elim
  ·exact (h5 _ _ _ rfl).elim
  ·exact (h6 _ _ rfl).elim
  ·exact h
def TO (P : Program) (N : Nat) (ops : Array Oper) (l : List Nat) (s : St) (Q : Exit → St → Prop) : Prop :=
 ∀ F L a w, Rel w N F L s a → wpOps P ops (fun e a' w' => ∃ L' s', Q e s' ∧ Rel w' N F L' s' a' ∧ Ext L w L' w') l a w
theorem T.region {id : Nat} {ops : Array Oper} (h : TO P N ops (List.range ops.size) s Q) : T P N (.region id ops false) s Q := fun F L a w hr => wp_region (h F L a w hr)
theorem TO.nil {ops : Array Oper} (h : Q .normal s) : TO P N ops [] s Q := fun _ L _ w hr => ⟨L, s, h, hr, Ext.refl _ w⟩
inductive Ft (ops : Array Oper) (s : St) (o : Oper) : Bool → Prop
 | free (h : o.guard = none) : Ft ops s o true
 | guard (j : Nat) (x : Bool) (d : Nat) (b : Bool) (h : o.guard = some (j, x)) (hd : (ops[j]?).bind (·.dst) = some d) (hs : s.slots.lookup d = some (.c (.ex (.bool b)))) : Ft ops s o (b == x)
theorem Ft.eq {ops : Array Oper} {o : Oper} {b : Bool} {w : World} {F L : Reg} {a : Act} (h : Ft ops s o b) (hr : Rel w N F L s a) : Region.wanted o (yielded ops a.tmps) = b := by
 cases h with
 | free h => simp [Region.wanted, h]
 | guard j x d b h hd hs =>
  have hv := evBool (x := .tmp d) hr hs
  simp only [Act.eval] at hv
  have hlt : d < a.tmps.size := by
   rcases Qi1 d a.tmps.size with h' | h'
   ·exact h'
   ·rw [Array.getD_eq_getD_getElem?, Array.getElem?_eq_none h'] at hv
    exact absurd hv (by simp [undef])
  have hg : a.tmps[d]? = some (.bool b) := by
   rw [Array.getD_eq_getD_getElem?] at hv
   rw [Array.getElem?_eq_getElem hlt] at hv ⊢
   simpa using hv
  simp [Region.wanted, h, yielded, hd, hg]
theorem wpOps_mono {ops : Array Oper} {q q' : Exit → Act → World → Prop} (hq : ∀ e a w, q e a w → q' e a w) : ∀ (l : List Nat) (a : Act) (w : World), wpOps P ops q l a w → wpOps P ops q' l a w := by
 intro l
 induction l with
 | nil => exact fun a w h => hq _ _ _ h
 | cons i rest ih =>
  intro a w h
  simp only [wpOps] at h ⊢
  cases ho : ops[i]? with
  | none => simp only [ho] at h ⊢; exact ih a w h
  | some o =>
   simp only [ho] at h ⊢
   split
   ·rename_i hw
    rw [if_pos hw] at h
    rcases h with h | ⟨h, a0, w0, h0⟩
    ·exact .inl (Ch h ih hq)
    ·exact .inr ⟨h, a0, w0, hq _ _ _ h0⟩
   ·rename_i hw
    rw [if_neg hw] at h
    exact ih _ _ h
theorem TO.step {ops : Array Oper} {i : Nat} {rest : List Nat} {o : Oper} (ho : ops[i]? = some o) (hw : Ft ops s o true) (h : OpT P N o s (fun s' => TO P N ops rest s' Q)) : TO P N ops (i :: rest) s Q := by
 intro F L a w hr
 simp only [wpOps, ho, hw.eq hr, if_true]
 refine .inl (Ch (h F L a w hr) ?_ (fun _ _ _ h => h.elim))
 rintro a' w' ⟨L', s', k, r, x⟩
 have := k F L' a' w' r
 exact wpOps_mono (fun e a2 w2 ⟨L2, s2, q2, r2, x2⟩ => ⟨L2, s2, q2, r2, x.trans x2⟩) _ _ _ this
end
end Go.Rv
namespace Go.Rv
abbrev AV.int (k : IntKind) (n : Int) : AV := .c (.ex (.int k n))
abbrev AV.bool (b : Bool) : AV := .c (.ex (.bool b))
abbrev AV.str (s : ByteArray) : AV := .c (.ex (.string s))
abbrev AV.sl (full : Bool) (esz : Nat) (elems : List (List DC)) : AV := .c (.sl full esz elems)
abbrev AV.ptr (b off : Nat) : AV := .c (.ex (.pointer (some ⟨b, off, none⟩)))
def bt (s : ByteArray) (i : Int) : Int := ((s.data.toList[i.toNat]?).getD 0).toNat
def Zk (P : Program) (e : TypeId) (z : Value) (sz by_ : Nat) : Prop := ∃ i, P.info? e = some i ∧ i.zero = some z ∧ i.size = sz ∧ i.bytes = by_
theorem Ya {P : Program} {e : TypeId} {z : Value} {sz by_ : Nat} (h : (P.info? e).map (fun i => (i.zero, i.size, i.bytes)) = some (some z, sz, by_)) : Zk P e z sz by_ := by
 cases hi : P.info? e with
 | none => simp [hi] at h
 | some i =>
  simp [hi] at h
  exact ⟨i, hi, h.1, h.2.1, h.2.2⟩
theorem Zk.sizeOf {P : Program} {e : TypeId} {z : Value} {sz by_ : Nat} (h : Zk P e z sz by_) (w : World) : (Go.sizeOf e).run P w = .ok sz w := by
 obtain ⟨i, hi, _, hs, _⟩ := h
 simp [Go.sizeOf, typeInfo, hi, hs]
theorem Zk.zeroValue {P : Program} {e : TypeId} {z : Value} {sz by_ : Nat} (h : Zk P e z sz by_) (w : World) : (Go.zeroValue e).run P w = .ok z w := by
 obtain ⟨i, hi, hz, _, _⟩ := h
 simp [Go.zeroValue, typeInfo, hi, hz]
def TypeDesc.flat : TypeDesc → Bool
 | .struct _ => false
 | .array _ _ => false
 | _ => true
theorem H8 {P : Program} {t : TypeId} {d : TypeDesc} (h : P.underlying t = some d) (w : World) : (Go.isAgg t).run P w = .ok (!TypeDesc.flat d) w := by
 simp only [Go.isAgg, Sem.run_bind, run_underlying h, Result.andThen_ok]
 cases d <;> rfl
section
variable {P : Program} {N : Nat} {s : St} {o : Oper} {K : St → Prop}
theorem Zd (x : AV) (hN : ∀ d, o.dst = some d → d < N)
  (h : ∀ F L a w, Rel w N F L s a → ∃ v, (execOp a.eval o).run P w = .ok (.value v) w ∧ AvR w (L ++ F) v x) (k : K (s.putO o.dst x)) : OpT P N o s K := by
 intro F L a w hr
 obtain ⟨v, hv, hx⟩ := h F L a w hr
 unfold Oper.wp
 rw [hv, Oper.upon_value]
 exact ⟨L, _, k, hr.put hN hx, Ext.refl _ _⟩
theorem OpT.move {x : Operand} {v : AV} (ho : o.op = .move x) (hN : ∀ d, o.dst = some d → d < N) (hx : s.ev x = some v) (k : K (s.putO o.dst v)) : OpT P N o s K :=
 Zd v hN (fun F L a w hr => ⟨a.eval x, by simp [execOp, ho], hr.ev hx⟩) k
theorem OpT.assign {x : Operand} {v : AV} (ho : o.op = .assign x) (hN : ∀ d, o.dst = some d → d < N) (hx : s.ev x = some v) (k : K (s.putO o.dst v)) : OpT P N o s K :=
 Zd v hN (fun F L a w hr => ⟨a.eval x, by simp [execOp, ho], hr.ev hx⟩) k
theorem Rel.exact {w : World} {F L : Reg} {a : Act} {x : Operand} {v : Value} (hr : Rel w N F L s a) (hx : s.ev x = some (.c (.ex v))) : a.eval x = v := (hr.ev hx).exact.1
def arith : BinOp → IntKind → Int → Int → Value
 | .add, k, a, b => .int k (k.wrap (a + b))
 | .sub, k, a, b => .int k (k.wrap (a - b))
 | .mul, k, a, b => .int k (k.wrap (a * b))
 | .and, k, a, b => .int k (bits .and k a b)
 | .or, k, a, b => .int k (bits .or k a b)
 | .xor, k, a, b => .int k (bits .xor k a b)
 | .andNot, k, a, b => .int k (bits .andNot k a b)
 | .eql, _, a, b => .bool (a == b)
 | .neq, _, a, b => .bool (a != b)
 | .lss, _, a, b => .bool (decide (a < b))
 | .leq, _, a, b => .bool (decide (a ≤ b))
 | .gtr, _, a, b => .bool (decide (a > b))
 | .geq, _, a, b => .bool (decide (a ≥ b))
 | _, _, _, _ => .bool false
def Tn : BinOp → Bool
 | .add | .sub | .mul | .and | .or | .xor | .andNot | .eql | .neq | .lss | .leq | .gtr | .geq => true
 | _ => false
theorem binOp_arith (op : BinOp) (t : TypeId) (k : IntKind) (a b : Int) (h : Tn op = true) : binOp op t (.int k a) (.int k b) = pure (arith op k a b) := by
 cases op <;> first | (simp [Tn] at h; done) | simp [arith, Op.intArith, binOp_add, binOp_sub, binOp_mul, binOp_and, binOp_or, binOp_xor, binOp_andNot, binOp_eql, binOp_neq, binOp_lss, binOp_leq, binOp_gtr, binOp_geq, intBits_and, intBits_or, intBits_xor, intBits_andNot]
theorem arith_one (op : BinOp) (k : IntKind) (a b : Int) : (arith op k a b).oneCell' = true := by cases op <;> rfl
theorem Z9 {op : BinOp} {t t' : TypeId} {x y : Operand} {k : IntKind} {a b : Int} (ho : o.op = .binOp op t x y t') (hop : Tn op = true) (hN : ∀ d, o.dst = some d → d < N)
  (hx : s.ev x = some (.int k a)) (hy : s.ev y = some (.int k b)) (k' : K (s.putO o.dst (.c (.ex (arith op k a b))))) : OpT P N o s K :=
 Zd _ hN (fun F L a' w hr => ⟨arith op k a b, by simp [execOp, ho, hr.exact hx, hr.exact hy, eqGuard_at_int, binOp_arith _ _ _ _ _ hop], .c _ _ (.ex _ (arith_one ..))⟩) k'
theorem OpT.quo {t t' : TypeId} {x y : Operand} {k : IntKind} {a b : Int} (ho : o.op = .binOp .quo t x y t') (hN : ∀ d, o.dst = some d → d < N)
  (hx : s.ev x = some (.int k a)) (hy : s.ev y = some (.int k b)) (hb : b ≠ 0) (k' : K (s.putO o.dst (.int k (k.wrap (a.tdiv b))))) : OpT P N o s K :=
 Zd _ hN (fun F L a' w hr => ⟨.int k (k.wrap (a.tdiv b)), by simp [execOp, ho, hr.exact hx, hr.exact hy, eqGuard_at_int, binOp_quo, Op.intDiv, hb], .c _ _ (.ex _ rfl)⟩) k'
theorem OpT.rem {t t' : TypeId} {x y : Operand} {k : IntKind} {a b : Int} (ho : o.op = .binOp .rem t x y t') (hN : ∀ d, o.dst = some d → d < N)
  (hx : s.ev x = some (.int k a)) (hy : s.ev y = some (.int k b)) (hb : b ≠ 0) (k' : K (s.putO o.dst (.int k (a.tmod b)))) : OpT P N o s K :=
 Zd _ hN (fun F L a' w hr => ⟨.int k (a.tmod b), by simp [execOp, ho, hr.exact hx, hr.exact hy, eqGuard_at_int, binOp_rem, Op.intDiv, hb], .c _ _ (.ex _ rfl)⟩) k'
theorem OpT.shl {t t' : TypeId} {x y : Operand} {k k2 : IntKind} {a b : Int} (ho : o.op = .binOp .shl t x y t') (hN : ∀ d, o.dst = some d → d < N)
  (hx : s.ev x = some (.int k a)) (hy : s.ev y = some (.int k2 b)) (hb : 0 ≤ b) (k' : K (s.putO o.dst (.int k (k.wrap (a * 2 ^ min b.toNat k.bits))))) : OpT P N o s K :=
 Zd _ hN (fun F L a' w hr => ⟨.int k (k.wrap (a * 2 ^ min b.toNat k.bits)), by simp [execOp, ho, hr.exact hx, hr.exact hy, eqGuard_at_int, binOp_shl, Op.shift, Int.not_lt.2 hb], .c _ _ (.ex _ rfl)⟩) k'
theorem OpT.shr {t t' : TypeId} {x y : Operand} {k k2 : IntKind} {a b : Int} (ho : o.op = .binOp .shr t x y t') (hN : ∀ d, o.dst = some d → d < N)
  (hx : s.ev x = some (.int k a)) (hy : s.ev y = some (.int k2 b)) (hb : 0 ≤ b) (k' : K (s.putO o.dst (.int k (a.fdiv (2 ^ min b.toNat k.bits))))) : OpT P N o s K :=
 Zd _ hN (fun F L a' w hr => ⟨.int k (a.fdiv (2 ^ min b.toNat k.bits)), by simp [execOp, ho, hr.exact hx, hr.exact hy, eqGuard_at_int, binOp_shr, Op.shift, Int.not_lt.2 hb], .c _ _ (.ex _ rfl)⟩) k'
theorem OpT.str_neq {t t' : TypeId} {x y : Operand} {a b : ByteArray} (ho : o.op = .binOp .neq t x y t') (hN : ∀ d, o.dst = some d → d < N)
  (hx : s.ev x = some (.str a)) (hy : s.ev y = some (.str b)) (k' : K (s.putO o.dst (.bool (!(a.toList == b.toList))))) : OpT P N o s K :=
 Zd _ hN (fun F L a' w hr => ⟨.bool (!(a.toList == b.toList)), by simp [execOp, ho, hr.exact hx, hr.exact hy, eqGuard_at_string, binOp, Op.stringOp], .c _ _ (.ex _ rfl)⟩) k'
theorem Py {t t' : TypeId} {x y : Operand} {a b : ByteArray} (ho : o.op = .binOp .add t x y t') (hN : ∀ d, o.dst = some d → d < N)
  (hx : s.ev x = some (.str a)) (hy : s.ev y = some (.str b)) (hs : a.size + b.size ≤ 9223372036854775807) (k' : K (s.putO o.dst (.str (a ++ b)))) : OpT P N o s K :=
 Zd _ hN (fun F L a' w hr => ⟨.string (a ++ b), by
  have h1 : ¬ ((a.size + b.size : Nat) : Int) > IntKind.i64.max := by simp only [IntKind.max_i64]; omega
  have h2 : binOp .add t (.string a) (.string b) = Op.stringOp .add a b := rfl
  simp only [execOp, ho, hr.exact hx, hr.exact hy, eqGuard_at_string, h2, Op.stringOp, if_neg h1]
  rfl, .c _ _ (.ex _ rfl)⟩) k'
theorem run_equal_bool (w : World) (t : TypeId) (a b : Bool) (ht : P.underlying t = some .bool) : (Op.equal t (.bool a) (.bool b)).run P w = .ok (a == b) w :=
 run_equalIn_bool' (P := P) w 9999 t a b ht
theorem OpT.bool_neq {t t' : TypeId} {x y : Operand} {a b : Bool} (ho : o.op = .binOp .neq t x y t') (hN : ∀ d, o.dst = some d → d < N) (ht : P.underlying t = some .bool)
  (hx : s.ev x = some (.bool a)) (hy : s.ev y = some (.bool b)) (k' : K (s.putO o.dst (.bool (!(a == b))))) : OpT P N o s K :=
 Zd _ hN (fun F L a' w hr => ⟨.bool (!(a == b)), by
  have h2 : binOp .neq t (.bool a) (.bool b) = (do pure (.bool (!(← Op.equal t (.bool a) (.bool b))))) := rfl
  simp [execOp, ho, hr.exact hx, hr.exact hy, eqGuard_at_bool, h2, run_equal_bool w t a b ht], .c _ _ (.ex _ rfl)⟩) k'
theorem OpT.not {t : TypeId} {x : Operand} {a : Bool} (ho : o.op = .unOp .not t x) (hN : ∀ d, o.dst = some d → d < N) (hx : s.ev x = some (.bool a)) (k' : K (s.putO o.dst (.bool (!a)))) : OpT P N o s K :=
 Zd _ hN (fun F L a' w hr => ⟨.bool (!a), by simp [execOp, ho, hr.exact hx, Op.unary], .c _ _ (.ex _ rfl)⟩) k'
theorem Uj {src dst : TypeId} {x : Operand} {k k2 : IntKind} {a : Int} (ho : o.op = .convert src dst x) (hN : ∀ d, o.dst = some d → d < N) {d1 : TypeDesc} (hs : P.underlying src = some d1) (hd : P.underlying dst = some (.int k2))
  (hx : s.ev x = some (.int k a)) (k' : K (s.putO o.dst (.int k2 (k2.wrap a)))) : OpT P N o s K :=
 Zd _ hN (fun F L a' w hr => ⟨.int k2 (k2.wrap a), by
  simp [execOp, ho, hr.exact hx, convert, run_underlying hs, run_underlying hd, Conv.intToInt], .c _ _ (.ex _ rfl)⟩) k'
theorem OpT.pick {c x y : Operand} {b : Bool} {v : AV} (ho : o.op = .pick c x y) (hN : ∀ d, o.dst = some d → d < N) (hc : s.ev c = some (.bool b)) (hv : s.ev (if b then x else y) = some v) (k : K (s.putO o.dst v)) : OpT P N o s K :=
 Zd v hN (fun F L a w hr => ⟨a.eval (if b then x else y), by cases b <;> simp [execOp, ho, hr.exact hc, asBool], hr.ev hv⟩) k
theorem OpT.extract {t : Operand} {i : Nat} {l : List AV} {v : AV} (ho : o.op = .extract t i) (hN : ∀ d, o.dst = some d → d < N) (ht : s.ev t = some (.tup l)) (hi : l[i]? = some v) (k : K (s.putO o.dst v)) : OpT P N o s K :=
 Zd v hN (fun F L a w hr => by
  have h := hr.ev ht
  generalize hq : a.eval t = q at h
  cases h with
  | tup vs _ hl h =>
   have hlt : i < vs.size := by rw [hl]; exact (List.getElem?_eq_some_iff.1 hi).1
   refine ⟨vs[i], ?_, h i _ v (by simp [hlt]) hi⟩
   simp [execOp, ho, hq, Instr.extract, hlt]) k
theorem OpT.indexArr {t e : TypeId} {n : Nat} {x i : Operand} {k : IntKind} {j : Int} {l : List DC} {d : DC} {de : TypeDesc} {z : Value} {by_ : Nat} (ho : o.op = .index t x i) (hN : ∀ d, o.dst = some d → d < N) (ht : P.underlying t = some (.array n e))
  (he : P.underlying e = some de) (hfl : TypeDesc.flat de = true) (hei : Zk P e z 1 by_) (hx : s.ev x = some (.agg l)) (hi : s.ev i = some (.int k j)) (h0 : 0 ≤ j) (h1 : j < n) (hd : l[j.toNat]? = some d) (k' : K (s.putO o.dst (.c d))) : OpT P N o s K :=
 Zd _ hN (fun F L a w hr => by
  have h := hr.ev hx
  generalize hq : a.eval x = q at h
  cases h with
  | agg vs _ h =>
   have hlt : j.toNat < vs.size := by have := (List.getElem?_eq_some_iff.1 hd).1; have := h.1; simp at this; omega
   refine ⟨vs[j.toNat], ?_, .c _ _ (h.2 j.toNat _ d (by simp [hlt]) hd)⟩
   simp [execOp, ho, hq, hr.exact hi, Instr.index, asIntOf, run_underlying ht, h0, h1, hei.sizeOf, part, H8 he, hfl, hlt]) k'
theorem Lg {t : TypeId} {x i : Operand} {k : IntKind} {j : Int} {b : ByteArray} (ho : o.op = .index t x i) (hN : ∀ d, o.dst = some d → d < N) (ht : P.underlying t = some .string)
  (hx : s.ev x = some (.str b)) (hi : s.ev i = some (.int k j)) (h0 : 0 ≤ j) (h1 : j < b.size) (k' : K (s.putO o.dst (.int .u8 (bt b j)))) : OpT P N o s K :=
 Zd _ hN (fun F L a w hr => by
  have hlt : j.toNat < b.size := by omega
  have hlt' : j.toNat < b.data.size := hlt
  refine ⟨.int .u8 (bt b j), ?_, .c _ _ (.ex _ rfl)⟩
  have hg : b[j.toNat]? = some b[j.toNat] := getElem?_pos b j.toNat hlt
  have hb : bt b j = (b[j.toNat].toNat : Int) := by
   simp only [bt, Array.getElem?_toList, Array.getElem?_eq_getElem hlt', Qhd]; rfl
  simp [execOp, ho, hr.exact hx, hr.exact hi, Instr.index, asIntOf, run_underlying ht, h0, hg, hb]) k'
theorem OpT.lenSl {t : TypeId} {e : TypeId} {x : Operand} {full : Bool} {esz : Nat} {elems : List (List DC)} (ho : o.op = .call { callee := .builtin .len, args := #[x], argTypes := #[t] }) (hN : ∀ d, o.dst = some d → d < N) (ht : P.underlying t = some (.slice e))
  (hx : s.ev x = some (.sl full esz elems)) (k' : K (s.putO o.dst (.int .i64 elems.length))) : OpT P N o s K :=
 Zd _ hN (fun F L a w hr => by
  have h := hr.ev hx
  generalize hq : a.eval x = q at h
  cases h with
  | c _ _ h =>
   cases h with
   | sl ad b off cap full esz elems vs ha hc hm hf hz hw hr' =>
    exact ⟨.int .i64 elems.length, by simp [execOp, ho, resolve, hq, invoke, builtin, Builtin.len_, run_underlying ht, goInt], .c _ _ (.ex _ rfl)⟩) k'
theorem O4 {t : TypeId} {x : Operand} {b : ByteArray} (ho : o.op = .call { callee := .builtin .len, args := #[x], argTypes := #[t] }) (hN : ∀ d, o.dst = some d → d < N) (ht : P.underlying t = some .string)
  (hx : s.ev x = some (.str b)) (k' : K (s.putO o.dst (.int .i64 b.size))) : OpT P N o s K :=
 Zd _ hN (fun F L a w hr => ⟨.int .i64 b.size, by simp [execOp, ho, resolve, hr.exact hx, invoke, builtin, Builtin.len_, run_underlying ht, goInt], .c _ _ (.ex _ rfl)⟩) k'
theorem OpT.lenEx {t : TypeId} {e : TypeId} {x : Operand} {ad : Option Addr} {n c : Nat} (ho : o.op = .call { callee := .builtin .len, args := #[x], argTypes := #[t] }) (hN : ∀ d, o.dst = some d → d < N) (ht : P.underlying t = some (.slice e))
  (hx : s.ev x = some (.c (.ex (.slice ad n c)))) (k' : K (s.putO o.dst (.int .i64 n))) : OpT P N o s K :=
 Zd _ hN (fun F L a w hr => ⟨.int .i64 n, by simp [execOp, ho, resolve, hr.exact hx, invoke, builtin, Builtin.len_, run_underlying ht, goInt], .c _ _ (.ex _ rfl)⟩) k'
theorem OpT.min2 {ts : Array TypeId} {x y : Operand} {k : IntKind} {a b : Int} (ho : o.op = .call { callee := .builtin .min, args := #[x, y], argTypes := ts }) (hN : ∀ d, o.dst = some d → d < N)
  (hx : s.ev x = some (.int k a)) (hy : s.ev y = some (.int k b)) (k' : K (s.putO o.dst (.int k (if b < a then b else a)))) : OpT P N o s K :=
 Zd _ hN (fun F L a' w hr => ⟨.int k (if b < a then b else a), by simp [execOp, ho, resolve, hr.exact hx, hr.exact hy, invoke, builtin, Builtin.min_, Builtin.min2], .c _ _ (.ex _ rfl)⟩) k'
theorem OpT.max2 {ts : Array TypeId} {x y : Operand} {k : IntKind} {a b : Int} (ho : o.op = .call { callee := .builtin .max, args := #[x, y], argTypes := ts }) (hN : ∀ d, o.dst = some d → d < N)
  (hx : s.ev x = some (.int k a)) (hy : s.ev y = some (.int k b)) (k' : K (s.putO o.dst (.int k (if b > a then b else a)))) : OpT P N o s K :=
 Zd _ hN (fun F L a' w hr => ⟨.int k (if b > a then b else a), by simp [execOp, ho, resolve, hr.exact hx, hr.exact hy, invoke, builtin, Builtin.max_, Builtin.max2], .c _ _ (.ex _ rfl)⟩) k'
theorem addr_add (b off n : Nat) : (⟨b, off, none⟩ : Addr).add n = ⟨b, off + n, none⟩ := by
 unfold Addr.add
 split
 ·rename_i h; subst h; rfl
 ·rfl
theorem OpT.indexSl {t e : TypeId} {x i : Operand} {k : IntKind} {j : Int} {full : Bool} {esz : Nat} {elems : List (List DC)} {el : List DC} {z : Value} {by_ : Nat} (ho : o.op = .indexAddr t x i) (hN : ∀ d, o.dst = some d → d < N) (ht : P.underlying t = some (.slice e))
  (hei : Zk P e z esz by_) (hx : s.ev x = some (.sl full esz elems)) (hi : s.ev i = some (.int k j)) (h0 : 0 ≤ j) (hd : elems[j.toNat]? = some el) (k' : K (s.putO o.dst (.ref el))) : OpT P N o s K :=
 Zd _ hN (fun F L a w hr => by
  have h := hr.ev hx
  generalize hq : a.eval x = q at h
  cases h with
  | c _ _ h =>
   cases h with
   | sl ad b off cap full esz elems vs ha hc hm hf hz hw hr' =>
    have hlt := (List.getElem?_eq_some_iff.1 hd).1
    have hjl : j < (elems.length : Int) := by omega
    rcases ha with rfl | ⟨rfl, _⟩
    ·refine ⟨.pointer (some ⟨b, off + j.toNat * esz, none⟩), ?_, .ref b (off + j.toNat * esz) ((List.range esz).map fun q => vs j.toNat q) el ?_ ?_⟩
     ·simp [execOp, ho, hq, hr.exact hi, Instr.indexAt, asIntOf, run_underlying ht, h0, hjl, hei.sizeOf, addr_add]
     ·refine ⟨by simp [hz el (List.mem_of_getElem? hd)], fun q v d hv hdq => ?_⟩
      have hq' : q < esz := by
       have := (List.getElem?_eq_some_iff.1 hv).1; simpa using this
      simp [hq'] at hv
      subst hv
      exact hr' j.toNat q d (by simp [hd, hdq])
     ·intro q v hv
      have hq' : q < esz := by
       have := (List.getElem?_eq_some_iff.1 hv).1; simpa using this
      simp [hq'] at hv
      subst hv
      have hl : q < el.length := by rw [hz el (List.mem_of_getElem? hd)]; exact hq'
      have := hw j.toNat q el[q] (by simp [hd, hl])
      simpa [Qh5] using this
    ·simp at hd) k'
theorem V8.ref_drop {w : World} {M : Reg} {b off : Nat} {vs : List Value} {l : List DC} (h : V8 w M vs l) (hc : ∀ (i : Nat) (v : Value), vs[i]? = some v → w.cell? ⟨b, off + i, none⟩ = some v ∧ ¬ Wr M b (off + i)) (n : Nat) :
  AvR w M (.pointer (some ⟨b, off + n, none⟩)) (.ref (l.drop n)) :=
 .ref b (off + n) (vs.drop n) _ (h.drop n) (fun i v hv => by rw [List.getElem?_drop] at hv; have := hc _ v hv; simpa [Qh5] using this)
theorem Wa {t : TypeId} {fs : Array Field} {f : Field} {x : Operand} {i : Nat} {l : List DC} {z : Value} {sz by_ : Nat} (ho : o.op = .fieldAddr t x i) (hN : ∀ d, o.dst = some d → d < N) (ht : P.underlying t = some (.struct fs)) (hf : fs[i]? = some f)
  (hei : Zk P f.type z sz by_) (hsz : sz ≠ 0) (hx : s.ev x = some (.ref l)) (k' : K (s.putO o.dst (.ref (l.drop f.offset)))) : OpT P N o s K :=
 Zd _ hN (fun F L a w hr => by
  have h := hr.ev hx
  generalize hq : a.eval x = q at h
  cases h with
  | ref b off vs _ h hc => exact ⟨_, by simp [execOp, ho, hq, Instr.fieldAt, Instr.sureAddr, run_underlying ht, hf, fieldPlace, hei.sizeOf, hsz, addr_add], h.ref_drop hc _⟩) k'
theorem Uq {t e : TypeId} {n : Nat} {x i : Operand} {k : IntKind} {j : Int} {b off : Nat} {z : Value} {esz by_ : Nat} (ho : o.op = .indexAddr t x i) (hN : ∀ d, o.dst = some d → d < N) (ht : P.underlying t = some (.array n e))
  (hei : Zk P e z esz by_) (hx : s.ev x = some (.ptr b off)) (hi : s.ev i = some (.int k j)) (h0 : 0 ≤ j) (h1 : j < n) (k' : K (s.putO o.dst (.ptr b (off + j.toNat * esz)))) : OpT P N o s K :=
 Zd _ hN (fun F L a w hr => ⟨.pointer (some ⟨b, off + j.toNat * esz, none⟩), by simp [execOp, ho, hr.exact hx, hr.exact hi, Instr.indexAt, asIntOf, Instr.sureAddr, run_underlying ht, h0, h1, hei.sizeOf, addr_add], .c _ _ (.ex _ rfl)⟩) k'
theorem Ur {t : TypeId} {fs : Array Field} {f : Field} {x : Operand} {i : Nat} {b off : Nat} {z : Value} {sz by_ : Nat} (ho : o.op = .fieldAddr t x i) (hN : ∀ d, o.dst = some d → d < N) (ht : P.underlying t = some (.struct fs)) (hf : fs[i]? = some f)
  (hei : Zk P f.type z sz by_) (hsz : sz ≠ 0) (hx : s.ev x = some (.ptr b off)) (k' : K (s.putO o.dst (.ptr b (off + f.offset)))) : OpT P N o s K :=
 Zd _ hN (fun F L a w hr => ⟨.pointer (some ⟨b, off + f.offset, none⟩), by simp [execOp, ho, hr.exact hx, Instr.fieldAt, Instr.sureAddr, run_underlying ht, hf, fieldPlace, hei.sizeOf, hsz, addr_add], .c _ _ (.ex _ rfl)⟩) k'
theorem Kt {P : Program} {w : World} {b off : Nat} {vs : List Value} (n : Nat) (h : ∀ (i : Nat) (v : Value), vs[i]? = some v → w.cell? ⟨b, off + i, none⟩ = some v) (hn : n ≤ vs.length) :
  (loadCells ⟨b, off, none⟩ n).run P w = .ok (vs.take n).toArray w := by
 have := run_loadCells_list (P := P) w ⟨b, off, none⟩ (vs.take n) (fun j v hv => by
  rw [List.getElem?_take] at hv
  split at hv
  ·rw [addr_add]; exact h j v hv
  ·cases hv)
 simpa [Qiq hn] using this
theorem K7 {t : TypeId} {dt : TypeDesc} {x : Operand} {l : List DC} {d : DC} (ho : o.op = .load t x) (hN : ∀ d, o.dst = some d → d < N) (ht : P.underlying t = some dt) (hfl : TypeDesc.flat dt = true)
  (hx : s.ev x = some (.ref l)) (hd : l[0]? = some d) (k' : K (s.putO o.dst (.c d))) : OpT P N o s K :=
 Zd _ hN (fun F L a w hr => by
  have h := hr.ev hx
  generalize hq : a.eval x = q at h
  cases h with
  | ref b off vs _ h hc =>
   have hlt : 0 < vs.length := by have := (List.getElem?_eq_some_iff.1 hd).1; rw [h.1]; exact this
   have h0 : vs[0]? = some vs[0] := by simp [hlt]
   have hcell := (hc 0 _ h0).1
   simp only [Qht] at hcell
   refine ⟨vs[0], ?_, .c _ _ (h.2 0 _ d h0 hd)⟩
   simp [execOp, ho, hq, Instr.loadAt, Instr.sureAddr, loadVar, H8 ht, hfl, hcell]) k'
theorem N3 {t : TypeId} {dt : TypeDesc} {x : Operand} {l : List DC} {z : Value} {sz by_ : Nat} (ho : o.op = .load t x) (hN : ∀ d, o.dst = some d → d < N) (ht : P.underlying t = some dt) (hfl : TypeDesc.flat dt = false) (hei : Zk P t z sz by_)
  (hx : s.ev x = some (.ref l)) (hl : sz ≤ l.length) (k' : K (s.putO o.dst (.agg (l.take sz)))) : OpT P N o s K :=
 Zd _ hN (fun F L a w hr => by
  have h := hr.ev hx
  generalize hq : a.eval x = q at h
  cases h with
  | ref b off vs _ h hc =>
   have hld := Kt (P := P) sz (fun i v hv => (hc i v hv).1) (by rw [h.1]; exact hl)
   refine ⟨.agg (vs.take sz).toArray, ?_, .agg _ _ (by simpa using h.take sz)⟩
   simp [execOp, ho, hq, Instr.loadAt, Instr.sureAddr, loadVar, H8 ht, hfl, hei.sizeOf, hld]) k'
end
end Go.Rv
namespace Go.Rv
theorem X1.get {w : World} {M : Reg} {tab : List Ob} {L : Reg} (h : X1 w M tab L) : ∀ {i : Nat} {o : Ob}, tab[i]? = some o → ∃ r1 r2, ObR w M o r1 ∧ X1 w M (tab.eraseIdx i) r2 ∧ L.Perm (r1 ++ r2) := by
 induction h with
 | nil => intro i o hi; simp at hi
 | cons o r t rs h k ih =>
  intro i o' hi
  cases i with
  | zero =>
   simp at hi; subst hi
   exact ⟨r, rs, h, by simpa using k, List.Perm.refl _⟩
  | succ i =>
   obtain ⟨r1, r2, h1, h2, hp⟩ := ih (by simpa using hi)
   refine ⟨r1, r ++ r2, h1, by simpa using X1.cons o r _ _ h h2, ?_⟩
   refine (Qhh r hp).trans ?_
   rw [← Qfx, ← Qfx]
   exact Qgm r2 Qho
theorem X1.set' {w : World} {M : Reg} {o' : Ob} {r1 : Reg} (ho : ObR w M o' r1) : ∀ {tab : List Ob} {i : Nat} {r2 : Reg}, X1 w M (tab.eraseIdx i) r2 → i < tab.length → ∃ L', X1 w M (tab.set i o') L' ∧ L'.Perm (r1 ++ r2) := by
 intro tab
 induction tab with
 | nil => intro i r2 _ hi; simp at hi
 | cons o t ih =>
  intro i r2 h hi
  cases i with
  | zero => exact ⟨r1 ++ r2, by simpa using X1.cons o' r1 _ _ ho (by simpa using h), List.Perm.refl _⟩
  | succ i =>
   simp only [List.eraseIdx_cons_succ] at h
   cases h with
   | cons _ r _ rs h1 h2 =>
    obtain ⟨L', h3, hp⟩ := ih h2 (by simpa using hi)
    refine ⟨r ++ L', by simpa using X1.cons o r _ _ h1 h3, ?_⟩
    refine (Qhh r hp).trans ?_
    rw [← Qfx, ← Qfx]
    exact Qgm rs Qho
theorem Fm {L K F : Reg} (h : L.Perm K) : Reg.same (L ++ F) (K ++ F) := fun p => by simp [Qfz, h.mem_iff]
theorem fst_mem {r : Reg} {b : Nat} (h : b ∈ r.map (·.1)) : ∃ lim, (b, lim) ∈ r := by
 obtain ⟨p, hp, rfl⟩ := Qgf.1 h
 exact ⟨p.2, hp⟩
structure Fits (w w' : World) (r r' : Reg) : Prop where
 ext : Ext r w r' w'
 nodup : (r'.map (·.1)).Nodup
 lt : ∀ p ∈ r', p.1 < w'.heap.size
theorem Rel.touch {w : World} {N : Nat} {F L : Reg} {s : St} {a : Act} {i : Nat} {o : Ob} (hr : Rel w N F L s a) (hi : s.tab[i]? = some o) :
  ∃ r R, ObR w (r ++ R) o r ∧ (∀ b off, Wr (r ++ R) b off ↔ Wr (L ++ F) b off) ∧ (r.map (·.1)).Nodup ∧ (∀ p ∈ r, p.1 < w.heap.size) ∧ (∀ p ∈ r, ∀ lim, (p.1, lim) ∉ R) ∧
   ∀ (w' : World) (r' : Reg) (o' : Ob) (dst : Option Nat) (v : Value) (x : AV), Fits w w' r r' → (∀ d, dst = some d → d < N) → ObR w' (r' ++ R) o' r' → AvR w' (r' ++ R) v x →
    ∃ L', Rel w' N F L' (s.upd dst x (s.tab.set i o')) (a.put dst v) ∧ Ext L w L' w' := by
 obtain ⟨r, r2, ho, hrest, hp⟩ := hr.heap.get hi
 have hsame : Reg.same (L ++ F) (r ++ (r2 ++ F)) := by rw [← Qfx]; exact Fm hp
 have hnd : ((r ++ (r2 ++ F)).map (·.1)).Nodup := by
  rw [← Qfx]
  exact ((Qgm F hp).map _).nodup_iff.1 hr.nodup
 rw [Qg5, Qhy] at hnd
 have hdis : ∀ p ∈ r, ∀ lim, (p.1, lim) ∉ r2 ++ F := fun p hp' lim hm => hnd.2.2 p.1 (Qg4 hp') p.1 (Qgf.2 ⟨(p.1, lim), hm, rfl⟩) rfl
 have hlt : ∀ p ∈ r ++ (r2 ++ F), p.1 < w.heap.size := fun p hp' => hr.lt p ((hsame p).2 hp')
 refine ⟨r, r2 ++ F, ho.congr fun b off => (hsame.wr).symm, fun b off => hsame.wr.symm, hnd.1, fun p hp' => hlt p (Qfz.2 (.inl hp')), hdis, ?_⟩
 intro w' r' o' dst v x hf hN ho' hv
 have hil : i < s.tab.length := (List.getElem?_eq_some_iff.1 hi).1
 have hext : Ext (r ++ (r2 ++ F)) w (r' ++ (r2 ++ F)) w' := hf.ext.frame _
 have hrest' : X1 w' (r' ++ (r2 ++ F)) (s.tab.eraseIdx i) r2 := by
  refine (hrest.congr fun b off => hsame.wr.symm).step hf.ext (fun p hp' lim hm => hdis (p.1, lim) hm p.2 (Qfz.2 (.inl hp'))) hext
 obtain ⟨L', hh, hp'⟩ := X1.set' ho' hrest' hil
 have hsame' : Reg.same (L' ++ F) (r' ++ (r2 ++ F)) := by rw [← Qfx]; exact Fm hp'
 have hxL : Ext L w L' w' := (hf.ext.frame r2).congr (fun p => (hp.mem_iff).symm) (fun p => (hp'.mem_iff).symm)
 refine ⟨L', hr.next hxL hN ?_ (hh.congr fun b off => hsame'.wr) ?_ ?_, hxL⟩
 ·exact hv.less fun b off h => hsame'.wr.1 h
 ·have : ((r' ++ (r2 ++ F)).map (·.1)).Nodup := by
   rw [Qg5, Qhy]
   refine ⟨hf.nodup, hnd.2.1, fun b hb c hc hbc => ?_⟩
   subst hbc
   obtain ⟨l1, h1⟩ := fst_mem hb
   obtain ⟨l2, h2⟩ := fst_mem hc
   have hbs : b < w.heap.size := hlt (b, l2) (Qfz.2 (.inr h2))
   obtain ⟨l3, h3⟩ := hf.ext.blocks b l1 hbs h1
   exact hdis (b, l3) h3 l2 h2
  rw [← Qfx] at this
  exact ((Qgm F hp').map _).nodup_iff.2 this
 ·intro p hm
  rcases Qfz.1 ((hp'.mem_iff).1 hm) with h | h
  ·exact hf.lt p h
  ·exact Qhf (hlt p (Qfz.2 (.inr (Qfz.2 (.inl h))))) hf.ext.size
theorem Rel.add {w w' : World} {N : Nat} {F L : Reg} {s : St} {a : Act} {r : Reg} {o : Ob} {dst : Option Nat} {v : Value} {x : AV} (hr : Rel w N F L s a) (hf : Fits w w' [] r) (hN : ∀ d, dst = some d → d < N)
  (ho : ∀ M, (∀ b off, w.heap.size ≤ b → Wr M b off → Wr r b off) → Ext (L ++ F) w M w' → ObR w' M o r) (hv : ∀ M, (∀ b off, w.heap.size ≤ b → Wr M b off → Wr r b off) → Ext (L ++ F) w M w' → AvR w' M v x) :
  ∃ L', Rel w' N F L' (s.upd dst x (o :: s.tab)) (a.put dst v) ∧ Ext L w L' w' := by
 have hx : Ext L w (r ++ L) w' := hf.ext.frame L
 have hxF : Ext (L ++ F) w ((r ++ L) ++ F) w' := hx.frame F
 have hnew : ∀ b off, w.heap.size ≤ b → Wr ((r ++ L) ++ F) b off → Wr r b off := by
  intro b off hb hw
  rw [Qfx] at hw
  rcases Wr.append.1 hw with h | ⟨lim, h, _⟩
  ·exact h
  ·exact absurd (hr.lt (b, lim) h) (Nat.not_lt.2 hb)
 refine ⟨r ++ L, hr.next hx hN (hv _ hnew hxF) (.cons o r _ _ (ho _ hnew hxF) ?_) ?_ ?_, hx⟩
 ·exact hr.heap.step hf.ext (fun p _ lim hm => by cases hm) hxF
 ·rw [Qfx, Qg5, Qhy]
  refine ⟨hf.nodup, hr.nodup, fun b hb c hc hbc => ?_⟩
  subst hbc
  obtain ⟨l1, h1⟩ := fst_mem hb
  obtain ⟨l2, h2⟩ := fst_mem hc
  obtain ⟨l3, h3⟩ := hf.ext.blocks b l1 (hr.lt (b, l2) h2) h1
  cases h3
 ·intro p hp
  rcases Qfz.1 hp with h | h
  ·exact hf.lt p h
  ·exact Qhf (hr.lt p (Qfz.2 (.inl h))) hf.ext.size
theorem Ext.alloc (w : World) (o : Obj) (lim : Nat) : Ext [] w [(w.heap.size, lim)] (w.alloc o) where
 os := rfl
 tape := rfl
 output := rfl
 size := by simp
 block _ hb _ := heap_alloc_old w o hb
 cell b off hb _ := World.cell?_alloc_lt w o ⟨b, off, none⟩ hb
 mono b off hb hw := by
  obtain ⟨l, hl, _⟩ := hw
  simp at hl
  omega
 blocks b l hb hl := by simp at hl; omega
theorem Ext.alloc0 (w : World) (o : Obj) : Ext [] w [] (w.alloc o) where
 os := rfl
 tape := rfl
 output := rfl
 size := by simp
 block _ hb _ := heap_alloc_old w o hb
 cell b off hb _ := World.cell?_alloc_lt w o ⟨b, off, none⟩ hb
 mono b off hb hw := hw
 blocks b l hb hl := by cases hl
theorem Ext.drew (L : Reg) (w : World) : Ext L w L w.drew := ⟨rfl, rfl, rfl, Qf6 _, fun _ _ _ => rfl, fun _ _ _ _ => rfl, fun _ _ _ h => h, fun _ l _ h => ⟨l, h⟩⟩
theorem Fits.alloc (w : World) (o : Obj) (lim : Nat) : Fits w (w.alloc o) [] [(w.heap.size, lim)] := ⟨Ext.alloc w o lim, by simp, fun p hp => by simp at hp; subst hp; simp⟩
theorem Rel.dropO {w : World} {N : Nat} {F L : Reg} {s : St} {a : Act} (i : Nat) (hr : Rel w N F L s a) : ∃ L', Rel w N F L' { s with tab := s.tab.eraseIdx i } a ∧ Ext L w L' w := by
 cases hi : s.tab[i]? with
 | none =>
  have : s.tab.eraseIdx i = s.tab := List.eraseIdx_of_length_le (by simpa using hi)
  refine ⟨L, ?_, Ext.refl _ _⟩
  rw [this]; exact hr
 | some o =>
  obtain ⟨r1, r2, ho, h2, hp⟩ := hr.heap.get hi
  have hsub : ∀ b off, Wr (r2 ++ F) b off → Wr (L ++ F) b off := by
   intro b off h
   rcases Wr.append.1 h with ⟨l, hl, hle⟩ | h
   ·exact Wr.append.2 (.inl ⟨l, (hp.mem_iff).2 (Qfz.2 (.inr hl)), hle⟩)
   ·exact Wr.append.2 (.inr h)
  have hx : Ext L w r2 w := ⟨rfl, rfl, rfl, Qf6 _, fun _ _ _ => rfl, fun _ _ _ _ => rfl,
   fun b off _ ⟨l, hl, hle⟩ => ⟨l, (hp.mem_iff).2 (Qfz.2 (.inr hl)), hle⟩, fun b l _ hl => ⟨l, (hp.mem_iff).2 (Qfz.2 (.inr hl))⟩⟩
  have hnd : ((r1 ++ (r2 ++ F)).map (·.1)).Nodup := by
   rw [← Qfx]
   exact ((Qgm F hp).map _).nodup_iff.1 hr.nodup
  rw [Qg5, Qhy] at hnd
  refine ⟨r2, ⟨hr.defers, hr.size, fun t v hv => (hr.slot t v hv).less hsub, ?_, hnd.2.1, fun p hp' => ?_⟩, hx⟩
  ·exact h2.step (Ext.refl [] w) (fun p _ lim hm => by cases hm) (hx.frame F)
  ·refine hr.lt p ?_
   rcases Qfz.1 hp' with h | h
   ·exact Qfz.2 (.inl ((hp.mem_iff).2 (Qfz.2 (.inr h))))
   ·exact Qfz.2 (.inr h)
section
variable {P : Program} {N : Nat} {s : St} {o : Oper} {K : St → Prop} {Q : Exit → St → Prop}
theorem T.drop {c : Code} (i : Nat) (h : T P N c { s with tab := s.tab.eraseIdx i } Q) : T P N c s Q := by
 intro F L a w hr
 obtain ⟨L', hr', hx⟩ := hr.dropO i
 exact wp_mono (h F L' a w hr') fun e a' w' ⟨L2, s2, q, r, x⟩ => ⟨L2, s2, q, r, hx.trans x⟩
theorem TO.turn {ops : Array Oper} {l : List Nat} {s' : St} (hs : ∀ F L a w, Rel w N F L s a → ∃ L', Rel w N F L' s' a ∧ Ext L w L' w) (h : TO P N ops l s' Q) : TO P N ops l s Q := by
 intro F L a w hr
 obtain ⟨L', hr', hx⟩ := hs F L a w hr
 exact wpOps_mono (fun e a' w' ⟨L2, s2, q, r, x⟩ => ⟨L2, s2, q, r, hx.trans x⟩) _ _ _ (h F L' a w hr')
theorem T.turn {c : Code} {s' : St} (hs : ∀ F L a w, Rel w N F L s a → ∃ L', Rel w N F L' s' a ∧ Ext L w L' w) (h : T P N c s' Q) : T P N c s Q := by
 intro F L a w hr
 obtain ⟨L', hr', hx⟩ := hs F L a w hr
 exact wp_mono (h F L' a w hr') fun e a' w' ⟨L2, s2, q, r, x⟩ => ⟨L2, s2, q, r, hx.trans x⟩
theorem Qcy {w : World} {M : Reg} : ∀ {vs : List Value} {ds : List DC}, V8 w M vs ds → Xe w M vs (ds.map OC.d) [] := by
 intro vs
 induction vs with
 | nil => intro ds h; cases ds with | nil => exact .nil | cons d ds => exact absurd h.1 (by simp)
 | cons v vs ih =>
  intro ds h
  cases ds with
  | nil => exact absurd h.1 (by simp)
  | cons d ds => exact .cons v (.d d) [] vs _ [] (.d v d h.uncons.1) (ih h.uncons.2)
theorem Xe.length {w : World} {M : Reg} {vs : List Value} {cs : List OC} {r : Reg} (h : Xe w M vs cs r) : vs.length = cs.length := by
 induction h with
 | nil => rfl
 | cons v c r vs cs rs h t ih => simp [ih]
theorem Rel.box {w : World} {F L : Reg} {a : Act} {cells : Array Value} {l : List DC} {e : TypeId} {dst : Option Nat} (hr : Rel w N F L s a) (hN : ∀ d, dst = some d → d < N) (hl : V8 w (L ++ F) cells.toList l) :
  ∃ L', Rel (w.alloc (.cells cells e)) N F L' (s.upd dst (.ptr w.heap.size 0) (.box w.heap.size e (l.map OC.d) :: s.tab)) (a.put dst (.pointer (some ⟨w.heap.size, 0, none⟩))) ∧ Ext L w L' (w.alloc (.cells cells e)) :=
 hr.add (Fits.alloc w _ 0) hN (fun _ _ hx => .box _ e cells _ [] (heap_alloc_new w _) (Qcy (hl.step hx))) (fun _ _ _ => .c _ _ (.ex _ rfl))
theorem AvR.cell {w : World} {M : Reg} {v : Value} {d : DC} (h : AvR w M v (.c d)) : Fw w M v d := by
 cases h
 assumption
theorem Zw {e : TypeId} {x : Operand} {l : List DC} (ho : o.op = .box e x) (hN : ∀ d, o.dst = some d → d < N) (hx : s.ev x = some (.agg l)) (k : ∀ b, K (s.upd o.dst (.ptr b 0) (.box b e (l.map OC.d) :: s.tab))) : OpT P N o s K := by
 intro F L a w hr
 have h := hr.ev hx
 generalize hq : a.eval x = q at h
 cases h with
 | agg vs _ h =>
  obtain ⟨L', h2, h3⟩ := Rel.box (N := N) (s := s) (a := a) (dst := o.dst) (cells := vs) (l := l) (e := e) hr hN h
  have hrun : (execOp a.eval o).run P w = .ok (.value (.pointer (some ⟨w.heap.size, 0, none⟩))) (w.alloc (.cells vs e)) := by
   simp [execOp, ho, hq, Instr.box, newVar, newRow, Value.cells]
  unfold Oper.wp
  rw [hrun, Oper.upon_value]
  exact ⟨L', _, k w.heap.size, h2, h3⟩
theorem Qdj {w : World} {M : Reg} : ∀ {vs : List Value}, (∀ v ∈ vs, v.oneCell' = true) → V8 w M vs (vs.map DC.ex) := by
 intro vs
 induction vs with
 | nil => intro _; exact V8.nil
 | cons v vs ih => intro h; exact V8.cons (.ex v (h v (by simp))) (ih fun u hu => h u (by simp [hu]))
theorem OpT.alloc {e : TypeId} {z : Value} {sz by_ : Nat} (ho : o.op = .alloc e) (hN : ∀ d, o.dst = some d → d < N) (hei : Zk P e z sz by_) (hz : ∀ v ∈ z.cells.toList, v.oneCell' = true)
  (k : ∀ b, K (s.upd o.dst (.ptr b 0) (.box b e (z.cells.toList.map fun v => OC.d (.ex v)) :: s.tab))) : OpT P N o s K := by
 intro F L a w hr
 obtain ⟨L', h2, h3⟩ := Rel.box (N := N) (s := s) (a := a) (dst := o.dst) (cells := z.cells) (l := z.cells.toList.map DC.ex) (e := e) hr hN (Qdj hz)
 have hrun : (execOp a.eval o).run P w = .ok (.value (.pointer (some ⟨w.heap.size, 0, none⟩))) (w.alloc (.cells z.cells e)) := by
  simp [execOp, ho, Instr.alloc, newVar, newRow, hei.zeroValue]
 unfold Oper.wp
 rw [hrun, Oper.upon_value]
 refine ⟨L', _, k w.heap.size, ?_, h3⟩
 simpa [Qjc, Function.comp_def] using h2
theorem Xe.getD {w : World} {M : Reg} {vs : List Value} {cs : List OC} {r : Reg} (h : Xe w M vs cs r) : ∀ {i : Nat} {c : DC}, cs[i]? = some (.d c) → ∃ v, vs[i]? = some v ∧ Fw w M v c := by
 induction h with
 | nil => intro i c h; simp at h
 | cons v c r vs cs rs h t ih =>
  intro i c' hc
  cases i with
  | zero =>
   simp at hc; subst hc
   cases h with | d _ h => exact ⟨v, rfl, h⟩
  | succ i => exact ih (by simpa using hc)
theorem Xe.getDs {w : World} {M : Reg} {vs : List Value} {cs : List OC} {r : Reg} (h : Xe w M vs cs r) {off : Nat} {l : List DC} (hl : (cs.drop off).take l.length = l.map OC.d) : V8 w M ((vs.drop off).take l.length) l := by
 have hlen : l.length ≤ cs.length - off := by
  have := congrArg List.length hl; simp at this; omega
 refine ⟨by have := h.length; simp; omega, fun i v c hv hc => ?_⟩
 have hi : i < l.length := (List.getElem?_eq_some_iff.1 hc).1
 have h1 : ((cs.drop off).take l.length)[i]? = some (.d c) := by rw [hl]; simp [hc]
 simp only [List.getElem?_take, hi, if_true, List.getElem?_drop] at h1 hv
 obtain ⟨u, hu, hrep⟩ := h.getD h1
 rw [hu] at hv
 cases hv
 exact hrep
theorem Yr {t : TypeId} {dt : TypeDesc} {x : Operand} {b off i : Nat} {e : TypeId} {cells : List OC} {d : DC} (ho : o.op = .load t x) (hN : ∀ d, o.dst = some d → d < N) (ht : P.underlying t = some dt) (hfl : TypeDesc.flat dt = true)
  (hx : s.ev x = some (.ptr b off)) (hi : s.tab[i]? = some (.box b e cells)) (hd : cells[off]? = some (.d d)) (k : K (s.putO o.dst (.c d))) : OpT P N o s K :=
 Zd _ hN (fun F L a w hr => by
  obtain ⟨r1, r2, h1, -, -⟩ := hr.heap.get hi
  cases h1 with
  | box _ _ cs _ r hb h =>
   obtain ⟨v, hv, hrep⟩ := h.getD hd
   have hcell : w.cell? ⟨b, off, none⟩ = some v := by rw [cell_of_row w b off cs e _ hb]; simpa using hv
   exact ⟨v, by simp [execOp, ho, hr.exact hx, Instr.loadAt, Instr.sureAddr, loadVar, H8 ht, hfl, hcell], .c _ _ hrep⟩) k
theorem Fx {t : TypeId} {dt : TypeDesc} {x : Operand} {b off i : Nat} {e : TypeId} {cells : List OC} {l : List DC} {z : Value} {sz by_ : Nat} (ho : o.op = .load t x) (hN : ∀ d, o.dst = some d → d < N) (ht : P.underlying t = some dt) (hfl : TypeDesc.flat dt = false)
  (hei : Zk P t z sz by_) (hx : s.ev x = some (.ptr b off)) (hi : s.tab[i]? = some (.box b e cells)) (hl : l.length = sz) (hd : (cells.drop off).take sz = l.map OC.d) (k : K (s.putO o.dst (.agg l))) : OpT P N o s K :=
 Zd _ hN (fun F L a w hr => by
  obtain ⟨r1, r2, h1, -, -⟩ := hr.heap.get hi
  cases h1 with
  | box _ _ cs _ r hb h =>
   subst hl
   have hrep := h.getDs hd
   have hlen : l.length ≤ (cs.toList.drop off).length := by have := hrep.1; simp at this ⊢; omega
   have hld := Kt (P := P) (w := w) (b := b) (off := off) (vs := cs.toList.drop off) l.length (fun i v hv => by
    rw [cell_of_row w b (off + i) cs e _ hb]; simpa using hv) hlen
   refine ⟨.agg ((cs.toList.drop off).take l.length).toArray, ?_, .agg _ _ (by simpa using hrep)⟩
   simp [execOp, ho, hr.exact hx, Instr.loadAt, Instr.sureAddr, loadVar, H8 ht, hfl, hei.sizeOf, hld]) k
theorem Xe.setDs {w : World} {M : Reg} : ∀ {us : List Value} {ds : List DC} {vs : List Value} {cs : List OC} {r : Reg} {off : Nat}, Xe w M vs cs r → V8 w M us ds → off + us.length ≤ vs.length →
  ∃ r', Xe w M (vs.take off ++ us ++ vs.drop (off + us.length)) (cs.take off ++ ds.map OC.d ++ cs.drop (off + ds.length)) r' ∧ r'.Sublist r := by
 intro us ds vs
 induction vs with
 | nil =>
  intro cs r off h hu hl
  have : us = [] := Qgj (by have h1 : off + us.length ≤ 0 := hl; omega)
  subst this
  have : ds = [] := Qgj (by have := hu.1; simpa using this.symm)
  subst this
  cases h
  exact ⟨[], by simpa using Xe.nil, by simp⟩
 | cons v vs ih =>
  intro cs r off h hu hl
  cases h with
  | cons _ c r _ cs rs h t =>
   cases off with
   | zero =>
    have happ : ∀ {us : List Value} {ds : List DC} {xs : List Value} {ys : List OC} {r : Reg}, V8 w M us ds → Xe w M xs ys r → Xe w M (us ++ xs) (ds.map OC.d ++ ys) r := by
     intro us
     induction us with
     | nil => intro ds xs ys r hu hx; cases ds with | nil => simpa using hx | cons d ds => exact absurd hu.1 (by simp)
     | cons u us ihu =>
      intro ds xs ys r hu hx
      cases ds with
      | nil => exact absurd hu.1 (by simp)
      | cons d ds => exact .cons u (.d d) [] _ _ r (.d u d hu.uncons.1) (ihu hu.uncons.2 hx)
    have hdrop : ∀ {xs : List Value} {ys : List OC} {r : Reg}, Xe w M xs ys r → ∀ n, ∃ r', Xe w M (xs.drop n) (ys.drop n) r' ∧ r'.Sublist r := by
     intro xs ys r hx
     induction hx with
     | nil => intro n; exact ⟨[], by simpa using Xe.nil, by simp⟩
     | cons v c r vs cs rs h t ih =>
      intro n
      cases n with
      | zero => exact ⟨r ++ rs, .cons v c r vs cs rs h t, List.Sublist.refl _⟩
      | succ n =>
       obtain ⟨r', h1, h2⟩ := ih n
       exact ⟨r', h1, h2.trans (List.sublist_append_right r rs)⟩
    obtain ⟨r', h1, h2⟩ := hdrop (Xe.cons v c r vs cs rs h t) us.length
    refine ⟨r', ?_, h2⟩
    have := happ hu h1
    simpa [hu.1] using this
   | succ off =>
    obtain ⟨r', h1, h2⟩ := ih (off := off) t hu (by simp only [Qgc] at hl; omega)
    refine ⟨r ++ r', ?_, h2.append_left r⟩
    have := Xe.cons v c r _ _ r' h h1
    simpa [Nat.succ_add, Nat.add_right_comm] using this
theorem T8 {w : World} {b : Nat} {e : TypeId} {cs cs' : Array Value} {r r' : Reg} (_hb : w.heap[b]? = some (.cells cs e (0, 0))) (hsub : r'.Sublist r) :
  Ext ((b, 0) :: r) w ((b, 0) :: r') (w.setRow b cs') where
 os := rfl
 tape := rfl
 output := rfl
 size := by simp
 block k hk hn := setRow_other w b k cs' (fun h => hn 0 (by simp [h]))
 cell k off hk hn := cell_setRow_other w b cs' ⟨k, off, none⟩ (fun h => hn ⟨0, by simp at h; simp [h], Qf7 _⟩)
 mono k off hk hw := by
  obtain ⟨l, hl, hle⟩ := hw
  rcases Qg1.1 hl with h | h
  ·exact ⟨l, by simp [h], hle⟩
  ·exact ⟨l, Qf5 _ (hsub.subset h), hle⟩
 blocks k l hk hl := by
  rcases Qg1.1 hl with h | h
  ·exact ⟨l, by simp [h]⟩
  ·exact ⟨l, Qf5 _ (hsub.subset h)⟩
theorem Rel.storeBox {w : World} {F L : Reg} {a : Act} {b off i : Nat} {e : TypeId} {cells : List OC} {us : List Value} {ds : List DC} (hr : Rel w N F L s a) (hi : s.tab[i]? = some (.box b e cells)) (hu : V8 w (L ++ F) us ds) (hl : off + ds.length ≤ cells.length) :
  ∃ cs : Array Value, w.heap[b]? = some (.cells cs e (0, 0)) ∧ off + us.length ≤ cs.size ∧
   ∃ L', Rel (w.setRow b (cs.toList.take off ++ us ++ cs.toList.drop (off + us.length)).toArray) N F L' { s with tab := s.tab.set i (.box b e (cells.take off ++ ds.map OC.d ++ cells.drop (off + ds.length))) } a ∧
    Ext L w L' (w.setRow b (cs.toList.take off ++ us ++ cs.toList.drop (off + us.length)).toArray) := by
 obtain ⟨r, R, ho, hwr, hnd, hlt, hdis, hgo⟩ := hr.touch hi
 cases ho with
 | box _ _ cs _ r hb h =>
  have hlen := h.length
  simp only [Qg6] at hlen
  refine ⟨cs, hb, by rw [hu.1, hlen]; exact hl, ?_⟩
  obtain ⟨r', h1, hsub⟩ := Xe.setDs (off := off) h (hu.congr hwr) (by simp only [Qg6]; rw [hu.1, hlen]; exact hl)
  have hx := T8 (cs' := (cs.toList.take off ++ us ++ cs.toList.drop (off + us.length)).toArray) hb hsub
  have hf : Fits w (w.setRow b (cs.toList.take off ++ us ++ cs.toList.drop (off + us.length)).toArray) ((b, 0) :: r) ((b, 0) :: r') := by
   refine ⟨hx, ?_, ?_⟩
   ·exact List.Nodup.sublist ((hsub.cons_cons (b, 0)).map _) hnd
   ·intro p hp
    simp only [setRow_size]
    exact hlt p ((hsub.cons_cons (b, 0)).subset hp)
  have hob : ObR (w.setRow b (cs.toList.take off ++ us ++ cs.toList.drop (off + us.length)).toArray) (((b, 0) :: r') ++ R) (.box b e (cells.take off ++ ds.map OC.d ++ cells.drop (off + ds.length))) ((b, 0) :: r') := by
   refine .box b e _ _ r' (setRow_heap w b cs _ e _ hb) ?_
   -- what is owned through the cells lies elsewhere
   have hx2 : Ext [(b, 0)] w [(b, 0)] (w.setRow b (cs.toList.take off ++ us ++ cs.toList.drop (off + us.length)).toArray) := T8 (r := []) (r' := []) hb (List.Sublist.refl _)
   have := h1.step hx2 (fun p hp lim hm => by
    simp at hm
    have h3 : b ∉ r.map (·.1) := by rw [Qge, Qin] at hnd; exact hnd.1
    exact h3 (by
     have := Qg4 (f := (·.1)) (hsub.subset hp)
     rw [hm.1] at this
     exact this)) (hx.frame R)
   simpa using this
  obtain ⟨L', h2, h3⟩ := hgo _ _ _ none undef .any hf (fun d hd => by cases hd) hob (.any _)
  exact ⟨L', by simpa [St.upd, St.putO, Act.put] using h2, h3⟩
theorem OpT.storeBox {t : TypeId} {x y : Operand} {b off i : Nat} {e : TypeId} {cells : List OC} {d : DC} {z : Value} {by_ : Nat} (ho : o.op = .store t x y) (hdst : o.dst = none) (hei : Zk P t z 1 by_)
  (hx : s.ev x = some (.ptr b off)) (hy : s.ev y = some (.c d)) (hi : s.tab[i]? = some (.box b e cells)) (hl : off < cells.length) (k : K { s with tab := s.tab.set i (.box b e (cells.take off ++ [OC.d d] ++ cells.drop (off + 1))) }) : OpT P N o s K := by
 intro F L a w hr
 have h := hr.ev hy
 generalize hq : a.eval y = q at h
 cases h with
 | c _ _ h =>
  obtain ⟨cs, hb, hfit, L', h2, h3⟩ := hr.storeBox (off := off) (us := [q]) (ds := [d]) hi (V8.cons h V8.nil) (by simp only [Qft]; omega)
  have hst := run_storeCells_at P b off e [q] 0 cs w hb (by simpa using hfit) (by simpa using h.one)
  have hcells : q.cells = #[q] := by
   have := h.one
   cases q <;> first | rfl | (simp [Value.oneCell'] at this)
  have hrun : (execOp a.eval o).run P w = .ok .skip (w.setRow b (cs.toList.take off ++ [q] ++ cs.toList.drop (off + [q].length)).toArray) := by
   simp only [Qht] at hst
   simp [execOp, ho, hr.exact hx, hq, Instr.storeAt, Instr.sureAddr, storeVar, hei.sizeOf, hcells]
   simp at hst
   simp [hst]
  unfold Oper.wp
  rw [hrun, Oper.upon_skip, hdst]
  exact ⟨L', _, k, by simpa [Act.put] using h2, h3⟩
theorem Qfl {t : TypeId} {x y : Operand} {b off i : Nat} {e : TypeId} {cells : List OC} {l : List DC} {z : Value} {sz by_ : Nat} (ho : o.op = .store t x y) (hdst : o.dst = none) (hei : Zk P t z sz by_)
  (hx : s.ev x = some (.ptr b off)) (hy : s.ev y = some (.agg l)) (hls : l.length = sz) (hi : s.tab[i]? = some (.box b e cells)) (hl : off + sz ≤ cells.length) (k : K { s with tab := s.tab.set i (.box b e (cells.take off ++ l.map OC.d ++ cells.drop (off + l.length))) }) : OpT P N o s K := by
 intro F L a w hr
 have h := hr.ev hy
 generalize hq : a.eval y = q at h
 cases h with
 | agg vs _ h =>
  obtain ⟨cs, hb, hfit, L', h2, h3⟩ := hr.storeBox (off := off) (us := vs.toList) (ds := l) hi h (by omega)
  have hst := run_storeCells_at P b off e vs.toList 0 cs w hb (by simpa using hfit) h.one
  have hvs : vs.size = sz := by have := h.1; simp at this; omega
  have hrun : (execOp a.eval o).run P w = .ok .skip (w.setRow b (cs.toList.take off ++ vs.toList ++ cs.toList.drop (off + vs.toList.length)).toArray) := by
   simp only [Qht] at hst
   simp [execOp, ho, hr.exact hx, hq, Instr.storeAt, Instr.sureAddr, storeVar, hei.sizeOf, Value.cells, hvs]
   simp [hvs] at hst
   simp [hst]
  unfold Oper.wp
  rw [hrun, Oper.upon_skip, hdst]
  exact ⟨L', _, k, h2, h3⟩
end
end Go.Rv
namespace Go.Rv
theorem Ts {α : Type} {k : Nat} : ∀ {es : List (List α)}, (∀ e ∈ es, e.length = k) → ∀ {i j : Nat}, j < k → es.flatten[i * k + j]? = (es[i]?).bind (·[j]?) := by
 intro es
 induction es with
 | nil => intro _ i j _; simp
 | cons e es ih =>
  intro h i j hj
  have he : e.length = k := h e (by simp)
  cases i with
  | zero =>
   simp only [Qji, Qgq, Qgh]
   rw [List.getElem?_append_left (by omega)]
   simp
  | succ i =>
   simp only [Qgh]
   rw [List.getElem?_append_right (by rw [he, Qhp]; omega)]
   have : (i + 1) * k + j - e.length = i * k + j := by rw [he, Qhp]; omega
   rw [this, ih (fun x hx => h x (by simp [hx])) hj]
   simp
theorem Eg {α : Type} {k : Nat} : ∀ {es : List (List α)}, (∀ e ∈ es, e.length = k) → es.flatten.length = es.length * k := by
 intro es
 induction es with
 | nil => intro _; simp
 | cons e es ih =>
  intro h
  rw [Qgh, Qfu, ih (fun x hx => h x (by simp [hx])), h e (by simp), Qgc, Qhp]
  omega
theorem Fv {w : World} {M : Reg} {b off cap : Nat} {full : Bool} {esz : Nat} {elems : List (List DC)} {vs : List Value} (hv : V8 w M vs elems.flatten)
  (hc : ∀ (q : Nat) (v : Value), vs[q]? = some v → w.cell? ⟨b, off + q, none⟩ = some v ∧ ¬ Wr M b (off + q)) (hn : elems.length ≤ cap) (hm : cap ≤ maxLen) (hf : full = true → cap = elems.length) (hz : ∀ e ∈ elems, e.length = esz) :
  Fw w M (.slice (some ⟨b, off, none⟩) elems.length cap) (.sl full esz elems) := by
 have key : ∀ i j d, (elems[i]?).bind (·[j]?) = some d → ∃ u, vs[i * esz + j]? = some u ∧ Fw w M u d := by
  intro i j d hd
  have hj : j < esz := by
   cases hi : elems[i]? with
   | none => simp [hi] at hd
   | some e =>
    simp [hi] at hd
    have := (List.getElem?_eq_some_iff.1 hd).1
    rw [hz e (List.mem_of_getElem? hi)] at this
    exact this
  have h1 : elems.flatten[i * esz + j]? = some d := by rw [Ts hz hj]; exact hd
  have hlt : i * esz + j < vs.length := by rw [hv.1]; exact (List.getElem?_eq_some_iff.1 h1).1
  exact ⟨vs[i * esz + j], by simp [hlt], hv.2 _ _ d (by simp [hlt]) h1⟩
 refine .sl _ b off cap full esz elems (fun i j => vs.getD (i * esz + j) undef) (.inl rfl) hn hm hf hz (fun i j d hd => ?_) (fun i j d hd => ?_)
 ·obtain ⟨u, hu, _⟩ := key i j d hd
  have := hc _ u hu
  simp only [List.getD, hu, Qhd]
  simpa [Qh5] using this
 ·obtain ⟨u, hu, hr⟩ := key i j d hd
  simp only [List.getD, hu, Qhd]
  exact hr
theorem Fw.flat {w : World} {M : Reg} {v : Value} {full : Bool} {esz : Nat} {elems : List (List DC)} (h : Fw w M v (.sl full esz elems)) :
  ∃ (a : Option Addr) (b off cap : Nat) (vs : List Value), v = .slice a elems.length cap ∧ (a = some ⟨b, off, none⟩ ∨ (elems = [] ∧ cap = 0)) ∧ elems.length ≤ cap ∧ cap ≤ maxLen ∧ (full = true → cap = elems.length) ∧ (∀ e ∈ elems, e.length = esz) ∧
   V8 w M vs elems.flatten ∧ ∀ (q : Nat) (u : Value), vs[q]? = some u → w.cell? ⟨b, off + q, none⟩ = some u ∧ ¬ Wr M b (off + q) := by
 cases h with
 | sl a b off cap full esz elems vs ha hc hm hf hz hw hr =>
  have hdec : ∀ q, q < elems.length * esz → ∃ i j d, q = i * esz + j ∧ i = q / esz ∧ j = q % esz ∧ elems.flatten[q]? = some d ∧ (elems[i]?).bind (·[j]?) = some d := by
   intro q hq
   have he : 0 < esz := by rcases Qiy esz with h | h; (subst h; simp at hq); exact h
   have hq' : q = q / esz * esz + q % esz := by rw [Qjd]; exact (Qip q esz).symm
   have hj : q % esz < esz := Qh6 _ he
   have hlt : q < elems.flatten.length := by rw [Eg hz]; exact hq
   refine ⟨q / esz, q % esz, elems.flatten[q], hq', rfl, rfl, List.getElem?_eq_getElem hlt, ?_⟩
   rw [← Ts hz hj, ← hq']
   exact List.getElem?_eq_getElem hlt
  refine ⟨a, b, off, cap, (List.range (elems.length * esz)).map fun q => vs (q / esz) (q % esz), rfl, ha, hc, hm, hf, hz, ⟨by simp [Eg hz], fun q u d hu hd => ?_⟩, fun q u hu => ?_⟩
  ·have hq : q < elems.length * esz := by have := (List.getElem?_eq_some_iff.1 hu).1; simpa using this
   obtain ⟨i, j, d', h1, h2, h3, h4, h5⟩ := hdec q hq
   simp [hq] at hu
   rw [h4] at hd
   have hd := Option.some.inj hd
   subst hd
   subst hu
   rw [← h2, ← h3]
   exact hr i j d' h5
  ·have hq : q < elems.length * esz := by have := (List.getElem?_eq_some_iff.1 hu).1; simpa using this
   obtain ⟨i, j, d', h1, h2, h3, h4, h5⟩ := hdec q hq
   simp [hq] at hu
   subst hu
   rw [← h2, ← h3, h1]
   have := hw i j d' h5
   simpa [Qh5] using this
def fillD (place : Nat → Option (Nat × Nat)) (cells : List DC) : List (Nat × List DC) → Option (List DC)
 | [] => some cells
 | (i, v) :: rest =>
  match place i with
  | none => none
  | some (off, size) => if v.length ≠ size || off + v.length > cells.length then none else fillD place (cells.take off ++ v ++ cells.drop (off + v.length)) rest
theorem foldl_set (off : Nat) : ∀ (vs : List Value) (cs : Array Value) (k : Nat), off + k + vs.length ≤ cs.size →
  ((vs.zipIdx k).foldl (fun cs (c, j) => cs.setIfInBounds (off + j) c) cs).toList = cs.toList.take (off + k) ++ vs ++ cs.toList.drop (off + k + vs.length) := by
 intro vs
 induction vs with
 | nil => intro cs k _; simp
 | cons v vs ih =>
  intro cs k h
  simp only [Qgc] at h
  simp only [List.zipIdx_cons, Qgx]
  rw [ih _ (k + 1) (by simp; omega)]
  apply List.ext_getElem?
  intro q
  simp only [Array.toList_setIfInBounds, List.getElem?_append, Qgn, Qgz, Qg6, Qfu, Qgc, List.getElem?_take, List.getElem?_set, List.getElem?_drop]
  by_cases h1 : q < off + k
  ·simp [h1, show q < off + (k + 1) by omega, show min (off + (k + 1)) cs.size = off + (k + 1) by omega, show min (off + k) cs.size = off + k by omega, show off + k ≠ q by omega, show q < off + (k + 1) + vs.length by omega, show q < off + k + (vs.length + 1) by omega]
  ·by_cases h2 : q = off + k
   ·subst h2
    simp [show min (off + (k + 1)) cs.size = off + (k + 1) by omega, show min (off + k) cs.size = off + k by omega, show off + k < off + (k + 1) by omega, show off + k < cs.size by omega]
    omega
   ·by_cases h3 : q < off + k + (vs.length + 1)
    ·have e1 : q - (off + k) = (q - (off + (k + 1))) + 1 := by omega
     simp [h1, show ¬ q < off + (k + 1) by omega, show min (off + (k + 1)) cs.size = off + (k + 1) by omega, show min (off + k) cs.size = off + k by omega, h3, show q < off + (k + 1) + vs.length by omega, e1]
    ·simp [show min (off + (k + 1)) cs.size = off + (k + 1) by omega, show min (off + k) cs.size = off + k by omega, h3, show ¬ q < off + (k + 1) + vs.length by omega]
     rw [if_neg (by omega)]
     congr 1
     omega
theorem fill_rep {w : World} {M : Reg} {place : Nat → Option (Nat × Nat)} : ∀ {pd : List (Nat × List DC)} {pv : List (Nat × Value)} {cs : Array Value} {cd cd' : List DC}, pv.map (·.1) = pd.map (·.1) → (∀ (k : Nat) (x : Nat × Value) (y : Nat × List DC), pv[k]? = some x → pd[k]? = some y → V8 w M x.2.cells.toList y.2) →
  V8 w M cs.toList cd → fillD place cd pd = some cd' → ∃ cs', Instr.fill place cs pv = some cs' ∧ V8 w M cs'.toList cd' := by
 intro pd
 induction pd with
 | nil =>
  intro pv cs cd cd' hm _ hr hf
  cases pv with
  | nil => simp only [fillD, Qgk] at hf; subst hf; exact ⟨cs, rfl, hr⟩
  | cons x pv => simp at hm
 | cons y pd ih =>
  intro pv cs cd cd' hm hp hr hf
  cases pv with
  | nil => simp at hm
  | cons x pv =>
   obtain ⟨i, dv⟩ := y
   obtain ⟨i', v⟩ := x
   simp only [Qge, Qim] at hm
   obtain ⟨rfl, hm⟩ := hm
   have h0 := hp 0 (i', v) (i', dv) rfl rfl
   simp only [fillD] at hf
   simp only [Instr.fill]
   cases hpl : place i' with
   | none => simp [hpl] at hf
   | some os =>
    obtain ⟨off, size⟩ := os
    simp only [hpl] at hf ⊢
    have hlen : v.cells.size = dv.length := by simpa using h0.1
    have hcl : cs.size = cd.length := by simpa using hr.1
    by_cases hbad : (dv.length ≠ size || off + dv.length > cd.length) = true
    ·rw [if_pos hbad] at hf; cases hf
    ·rw [if_neg hbad] at hf
     have hbad' : ¬ (v.cells.size ≠ size || off + v.cells.size > cs.size) = true := by rw [hlen, hcl]; exact hbad
     rw [if_neg hbad']
     simp at hbad
     have hset : (Array.foldl (fun cs (x : Value × Nat) => cs.setIfInBounds (off + x.2) x.1) cs v.cells.zipIdx).toList = cs.toList.take off ++ v.cells.toList ++ cs.toList.drop (off + v.cells.toList.length) := by
      rw [← Array.foldl_toList, Array.toList_zipIdx]
      have := foldl_set off v.cells.toList cs 0 (by simp; omega)
      simpa using this
     refine ih (pv := pv) hm (fun k x y hx hy => hp (k + 1) x y (by simpa using hx) (by simpa using hy)) ?_ hf
     rw [hset]
     have h5 : v.cells.toList.length = dv.length := h0.1
     rw [h5]
     exact ((hr.take off).append h0).append (hr.drop (off + dv.length))
def AV.cells : AV → Option (List DC)
 | .c d => some [d]
 | .agg l => some l
 | _ => none
theorem AvR.cells {w : World} {M : Reg} {v : Value} {x : AV} {l : List DC} (h : AvR w M v x) (hx : x.cells = some l) : V8 w M v.cells.toList l := by
 cases h with
 | c v d h =>
  simp only [AV.cells, Qgk] at hx
  subst hx
  have hcells : v.cells = #[v] := by
   have := h.one
   cases v <;> first | rfl | (simp [Value.oneCell'] at this)
  rw [hcells]
  exact V8.cons h V8.nil
 | agg vs l h =>
  simp only [AV.cells, Qgk] at hx
  subst hx
  exact h
 | any => simp [AV.cells] at hx
 | ref => simp [AV.cells] at hx
 | el => simp [AV.cells] at hx
 | tup => simp [AV.cells] at hx
 | sub => simp [AV.cells] at hx
 | pre => simp [AV.cells] at hx
def St.parts (s : St) : List (Nat × Operand) → Option (List (Nat × List DC))
 | [] => some []
 | (i, x) :: r =>
  match s.ev x with
  | some v => match v.cells, s.parts r with
   | some l, some ls => some ((i, l) :: ls)
   | _, _ => none
  | none => none
theorem St.upd_tab (s : St) (d : Option Nat) (x : AV) : s.upd d x s.tab = s.putO d x := by cases d <;> rfl
section
variable {P : Program} {N : Nat} {s : St} {o : Oper} {K : St → Prop} {Q : Exit → St → Prop}
theorem Rel.parts {w : World} {F L : Reg} {a : Act} (hr : Rel w N F L s a) : ∀ {ps : List (Nat × Operand)} {pd : List (Nat × List DC)}, s.parts ps = some pd → (ps.map fun (i, x) => (i, a.eval x)).map (·.1) = pd.map (·.1) ∧
  ∀ (k : Nat) (x : Nat × Value) (y : Nat × List DC), (ps.map fun (i, x) => (i, a.eval x))[k]? = some x → pd[k]? = some y → V8 w (L ++ F) x.2.cells.toList y.2 := by
 intro ps
 induction ps with
 | nil => intro pd h; simp only [St.parts, Qgk] at h; subst h; exact ⟨rfl, fun k x y hx => by simp at hx⟩
 | cons p ps ih =>
  intro pd h
  obtain ⟨i, x⟩ := p
  simp only [St.parts] at h
  cases hx : s.ev x with
  | none => simp [hx] at h
  | some v =>
   cases hv : v.cells with
   | none => simp [hx, hv] at h
   | some l =>
    cases hp : s.parts ps with
    | none => simp [hx, hv, hp] at h
    | some ls =>
     simp only [hx, hv, hp, Qgk] at h
     subst h
     obtain ⟨h1, h2⟩ := ih hp
     refine ⟨by simpa using h1, fun k y z hy hz => ?_⟩
     cases k with
     | zero => simp at hy hz; subst hy; subst hz; exact (hr.ev hx).cells hv
     | succ k => exact h2 k y z (by simpa using hy) (by simpa using hz)
theorem OpT.build {t : TypeId} {ps : Array (Nat × Operand)} {place : Nat → Option (Nat × Nat)} {z : Array Value} {pd : List (Nat × List DC)} {l : List DC} (ho : o.op = .build t ps) (hN : ∀ d, o.dst = some d → d < N)
  (hb : ∀ q, P.built t q = Instr.fill place z q) (hz : ∀ v ∈ z.toList, v.oneCell' = true) (hp : s.parts ps.toList = some pd) (hf : fillD place (z.toList.map DC.ex) pd = some l) (k : K (s.putO o.dst (.agg l))) : OpT P N o s K :=
 Zd _ hN (fun F L a w hr => by
  obtain ⟨h1, h2⟩ := hr.parts hp
  obtain ⟨cs', h3, h4⟩ := fill_rep (cs := z) h1 h2 (Qdj hz) hf
  refine ⟨.agg cs', ?_, .agg _ _ h4⟩
  have hbu : P.built t (ps.map fun (i, x) => (i, a.eval x)).toList = some cs' := by rw [hb, Qiv]; exact h3
  simp only [execOp, ho, Sem.run_bind, run_build w t _ cs' hbu, Result.andThen_ok]
  rfl) k
theorem OpT.buildSlice {t e : TypeId} {len : Nat} {ps : Array (Nat × Operand)} {z : Value} {esz by_ : Nat} {pd : List (Nat × List DC)} {elems : List (List DC)} (ho : o.op = .buildSlice t len ps) (hN : ∀ d, o.dst = some d → d < N)
  (ht : P.underlying t = some (.slice e)) (hei : Zk P e z esz by_) (hsm : len * esz ≤ 2 ^ 24) (hz : z.cells.size = esz) (hz1 : ∀ v ∈ z.cells.toList, v.oneCell' = true) (hp : s.parts ps.toList = some pd)
  (hf : fillD (fun i => some (i * esz, esz)) ((List.range (len * esz)).map fun q => .ex (z.cells.getD (q % esz) undef)) pd = some elems.flatten) (hel : elems.length = len) (hee : ∀ x ∈ elems, x.length = esz) (hlen : len ≤ maxLen)
  (k : K (s.putO o.dst (.sl true esz elems))) : OpT P N o s K := by
 intro F L a w hr
 obtain ⟨h1, h2⟩ := hr.parts hp
 have hq0 : ∀ q, q < len * esz → q % esz < z.cells.size := fun q hq => by
  rw [hz]
  rcases Qiy esz with h | h
  ·subst h; simp at hq
  ·exact Qh6 _ h
 have hrz : V8 w (L ++ F) ((Array.range (len * esz)).map (z.cells[· % z.cells.size]!)).toList ((List.range (len * esz)).map fun q => .ex (z.cells.getD (q % esz) undef)) := by
  refine ⟨by simp, fun q v d hv hd => ?_⟩
  have hq : q < len * esz := by have := (List.getElem?_eq_some_iff.1 hd).1; simpa using this
  have hq2 := hq0 q hq
  simp [hq] at hv hd
  subst hd
  rw [hz] at hv
  have hq3 : z.cells[q % esz]? = some z.cells[q % esz] := by simp [hq2]
  simp only [getElem!_def, hq3] at hv
  simp only [Array.getElem?_eq_getElem hq2, Qhd]
  subst hv
  exact .ex _ (hz1 _ (by simp))
 obtain ⟨cs', h3, h4⟩ := fill_rep h1 h2 hrz hf
 have hcs : cs'.size = len * esz := by have := h4.1; rw [Eg hee, hel] at this; simpa using this
 have hx := (Ext.alloc0 w (.cells cs' e)).frame L
 have hxF := hx.frame F
 simp only [Qf8] at hx hxF
 have hrun : (execOp a.eval o).run P w = .ok (.value (.slice (some ⟨w.heap.size, 0, none⟩) len len)) (w.alloc (.cells cs' e)) := by
  have h24 : ¬ (len * esz > 16777216) := by omega
  have hpa : (Array.map (fun x : Nat × Operand => (x.fst, a.eval x.snd)) ps).toList = ps.toList.map fun (i, x) => (i, a.eval x) := by rw [Qiv]
  by_cases hzero : len * esz = 0
  ·have h3' : Instr.fill (fun i => some (i * esz, esz)) #[] (ps.toList.map fun (i, x) => (i, a.eval x)) = some cs' := by
    rw [hzero, Array.range_zero', Array.map_empty] at h3
    exact h3
   simp only [execOp, ho, Instr.buildSlice, Sem.run_bind, run_underlying ht, Result.andThen_ok, hei.sizeOf, hzero, if_true, Sem.run_pure, hpa]
   simp [newRow, h3', Array.range_zero']
  ·simp only [execOp, ho, Instr.buildSlice, Sem.run_bind, run_underlying ht, Result.andThen_ok, hei.sizeOf, hzero, if_false, Sem.run_pure, hpa]
   simp [newRow, h3, h24, hei.zeroValue]
 unfold Oper.wp
 rw [hrun, Oper.upon_value]
 refine ⟨L, _, k, St.upd_tab s o.dst _ ▸ hr.next (tab := s.tab) hx hN (.c _ _ ?_) (hr.heap.step (Ext.alloc0 w (.cells cs' e)) (fun p _ lim hm => by cases hm) hxF) hr.nodup (fun p hp => by have := hr.lt p (Qfz.2 (.inl hp)); simp; omega), hx⟩
 have hc : ∀ (q : Nat) (v : Value), cs'.toList[q]? = some v → (w.alloc (.cells cs' e)).cell? ⟨w.heap.size, 0 + q, none⟩ = some v ∧ ¬ Wr (L ++ F) w.heap.size (0 + q) := by
  intro q v hv
  refine ⟨by rw [Qgq, World.cell?_alloc_new]; simpa using hv, fun ⟨lim, hl, _⟩ => ?_⟩
  have := hr.lt _ hl
  simp at this
 have := Fv (full := true) (h4.step hxF) hc (cap := len) (by omega) hlen (fun _ => hel.symm) hee
 rw [hel] at this
 exact this
theorem cut_rep {w : World} {M : Reg} {full' : Bool} {esz : Nat} {elems : List (List DC)} {a : Option Addr} {b off cap : Nat} {vs : List Value} (ha : a = some ⟨b, off, none⟩ ∨ (elems = [] ∧ cap = 0)) (hc : elems.length ≤ cap) (hm : cap ≤ maxLen) (hz : ∀ e ∈ elems, e.length = esz)
  (hr : V8 w M vs elems.flatten) (hw : ∀ (q : Nat) (u : Value), vs[q]? = some u → w.cell? ⟨b, off + q, none⟩ = some u ∧ ¬ Wr M b (off + q)) (l h m : Nat) (hlh : l ≤ h) (hhn : h ≤ elems.length) (hhm : h ≤ m) (hmc : m ≤ cap) (hf : full' = true → m = h) :
  Fw w M (.slice (if m = l then a else a.map (·.add (l * esz))) (h - l) (m - l)) (.sl full' esz ((elems.take h).drop l)) := by
 have hlen : ((elems.take h).drop l).length = h - l := by simp; omega
 have hz' : ∀ e ∈ (elems.take h).drop l, e.length = esz := fun e he => hz e (Qil (List.mem_of_mem_drop he))
 rw [← hlen]
 have hflat : ((elems.take h).drop l).flatten = (elems.flatten.take (h * esz)).drop (l * esz) := by
  have gen : ∀ (es : List (List DC)), (∀ e ∈ es, e.length = esz) → ∀ n, (es.drop n).flatten = es.flatten.drop (n * esz) ∧ (es.take n).flatten = es.flatten.take (n * esz) := by
   intro es
   induction es with
   | nil => intro _ n; simp
   | cons e es ih =>
    intro he n
    cases n with
    | zero => simp
    | succ n =>
     have h1 := ih (fun x hx => he x (by simp [hx])) n
     have h2 : e.length = esz := he e (by simp)
     simp only [List.drop_succ_cons, List.take_succ_cons, Qgh, h1.1, h1.2]
     constructor
     ·have e1 : e.drop ((n + 1) * esz) = [] := Qf9 (by rw [h2, Qhp]; omega)
      have e2 : (n + 1) * esz - e.length = n * esz := by rw [h2, Qhp]; omega
      rw [List.drop_append, e1, e2, Qf8]
     ·have e1 : e.take ((n + 1) * esz) = e := Qg8 (by rw [h2, Qhp]; omega)
      have e2 : (n + 1) * esz - e.length = n * esz := by rw [h2, Qhp]; omega
      rw [List.take_append, e1, e2]
  rw [(gen _ (fun e he => hz e (Qil he)) l).1, (gen _ hz h).2]
 rcases ha with rfl | ⟨rfl, rfl⟩
 ·by_cases hml : m = l
  ·subst hml
   have he : (elems.take h).drop m = [] := Qf9 (by simp; omega)
   rw [if_pos rfl, he]
   have : Fw w M (.slice (some ⟨b, off, none⟩) ([] : List (List DC)).length (m - m)) (.sl full' esz []) :=
    Fv (vs := []) V8.nil (fun q v hq => by simp at hq) (by simp) (by omega) (fun _ => by simp) (fun e he => by simp at he)
   simpa using this
  ·rw [if_neg hml]
   simp only [Qhs, addr_add]
   refine Fv (vs := (vs.take (h * esz)).drop (l * esz)) (by rw [hflat]; exact (hr.take _).drop _) (fun q v hv => ?_) (by omega) (by omega) (fun hfu => by have := hf hfu; omega) hz'
   rw [List.getElem?_drop, List.getElem?_take] at hv
   split at hv
   ·have := hw _ v hv; simpa [Qh5] using this
   ·cases hv
 ·simp only [Qgu] at hhn
  have : h = 0 := by omega
  subst this
  have : l = 0 := by omega
  subst this
  have : m = 0 := by omega
  subst this
  simp only [if_true, List.take_nil, List.drop_nil, Qgu, Nat.sub_self]
  exact .sl a 0 0 0 full' esz [] (fun _ _ => undef) (.inr ⟨rfl, rfl⟩) (by simp) (by simp) (fun _ => by simp) (fun e he => by simp at he) (fun i j d hd => by simp at hd) (fun i j d hd => by simp at hd)
end
end Go.Rv
