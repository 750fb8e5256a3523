/- A LOGIC OF ABSTRACT STATES OVER THE MODEL, part A: what a value stands for, what may be written, how worlds follow each other. -/
import Derived.WalkKit
namespace Go.Rv

/-- A cell as data: a value itself, or a slice by its elements (each a list of cells). 'full': its room is its length. -/
inductive DC where
  | ex (v : Value)
  | sl (full : Bool) (esz : Nat) (elems : List (List DC))

/-- Blocks that may be written, each from a place on. -/
abbrev Reg := List (Nat × Nat)
def Wr (M : Reg) (b off : Nat) : Prop := ∃ lim, (b, lim) ∈ M ∧ lim ≤ off

theorem Wr.append {M N : Reg} {b off : Nat} : Wr (M ++ N) b off ↔ Wr M b off ∨ Wr N b off := by
  constructor
  · rintro ⟨l, h, hl⟩
    rcases List.mem_append.1 h with h | h
    · exact .inl ⟨l, h, hl⟩
    · exact .inr ⟨l, h, hl⟩
  · rintro (⟨l, h, hl⟩ | ⟨l, h, hl⟩)
    · exact ⟨l, List.mem_append.2 (.inl h), hl⟩
    · exact ⟨l, List.mem_append.2 (.inr h), hl⟩
theorem Wr.nil {b off : Nat} : ¬ Wr [] b off := fun ⟨_, h, _⟩ => by cases h

/-- In world w the value stands for the datum, and what it leads to may not be written. -/
inductive RepC (w : World) (M : Reg) : Value → DC → Prop
  | ex (v : Value) (h : v.oneCell' = true) : RepC w M v (.ex v)
  | sl (a : Option Addr) (b off cap : Nat) (full : Bool) (esz : Nat) (elems : List (List DC)) (vs : Nat → Nat → Value)
      (ha : a = some ⟨b, off, none⟩ ∨ (elems = [] ∧ cap = 0))
      (hc : elems.length ≤ cap) (hm : cap ≤ maxLen) (hf : full = true → cap = elems.length)
      (hz : ∀ e ∈ elems, e.length = esz)
      (hw : ∀ i j d, (elems[i]?).bind (·[j]?) = some d → w.cell? ⟨b, off + i * esz + j, none⟩ = some (vs i j) ∧ ¬ Wr M b (off + i * esz + j))
      (hr : ∀ i j d, (elems[i]?).bind (·[j]?) = some d → RepC w M (vs i j) d) : RepC w M (.slice a elems.length cap) (.sl full esz elems)

theorem RepC.one {w : World} {M : Reg} {v : Value} {d : DC} (h : RepC w M v d) : v.oneCell' = true := by
  cases h with
  | ex _ h => exact h
  | sl => rfl

/-- From world w, where L may be written, to world w', where L' may be. -/
structure Ext (L : Reg) (w : World) (L' : Reg) (w' : World) : Prop where
  os : w'.os = w.os
  tape : w'.tape = w.tape
  output : w'.output = w.output
  size : w.heap.size ≤ w'.heap.size
  block : ∀ b, b < w.heap.size → (∀ lim, (b, lim) ∉ L) → w'.heap[b]? = w.heap[b]?
  cell : ∀ b off, b < w.heap.size → ¬ Wr L b off → w'.cell? ⟨b, off, none⟩ = w.cell? ⟨b, off, none⟩
  mono : ∀ b off, b < w.heap.size → Wr L' b off → Wr L b off
  blocks : ∀ b lim, b < w.heap.size → (b, lim) ∈ L' → ∃ lim', (b, lim') ∈ L

theorem Ext.refl (L : Reg) (w : World) : Ext L w L w := ⟨rfl, rfl, rfl, Nat.le_refl _, fun _ _ _ => rfl, fun _ _ _ _ => rfl, fun _ _ _ h => h, fun _ l _ h => ⟨l, h⟩⟩
theorem Ext.trans {L L1 L2 : Reg} {w w1 w2 : World} (h : Ext L w L1 w1) (k : Ext L1 w1 L2 w2) : Ext L w L2 w2 where
  os := k.os.trans h.os
  tape := k.tape.trans h.tape
  output := k.output.trans h.output
  size := Nat.le_trans h.size k.size
  block b hb hn := (k.block b (Nat.lt_of_lt_of_le hb h.size) (fun l hl => by obtain ⟨l', h'⟩ := h.blocks b l hb hl; exact hn l' h')).trans (h.block b hb hn)
  cell b off hb hn := (k.cell b off (Nat.lt_of_lt_of_le hb h.size) (fun hl => hn (h.mono b off hb hl))).trans (h.cell b off hb hn)
  mono b off hb hw := h.mono b off hb (k.mono b off (Nat.lt_of_lt_of_le hb h.size) hw)
  blocks b l hb hl := by obtain ⟨l', h'⟩ := k.blocks b l (Nat.lt_of_lt_of_le hb h.size) hl; exact h.blocks b l' hb h'

/-- What is written besides stays out of it. -/
theorem Ext.frame {L L' : Reg} {w w' : World} (h : Ext L w L' w') (F : Reg) : Ext (L ++ F) w (L' ++ F) w' where
  os := h.os
  tape := h.tape
  output := h.output
  size := h.size
  block b hb hn := h.block b hb (fun l hl => hn l (List.mem_append.2 (.inl hl)))
  cell b off hb hn := h.cell b off hb (fun hl => hn (Wr.append.2 (.inl hl)))
  mono b off hb hw := by
    rcases Wr.append.1 hw with hw | hw
    · exact Wr.append.2 (.inl (h.mono b off hb hw))
    · exact Wr.append.2 (.inr hw)
  blocks b l hb hl := by
    rcases List.mem_append.1 hl with hl | hl
    · obtain ⟨l', h'⟩ := h.blocks b l hb hl; exact ⟨l', List.mem_append.2 (.inl h')⟩
    · exact ⟨l, List.mem_append.2 (.inr hl)⟩

/-- Two regions of one reach. -/
def Reg.same (M N : Reg) : Prop := ∀ p, p ∈ M ↔ p ∈ N
theorem Reg.same.wr {M N : Reg} (h : Reg.same M N) {b off : Nat} : Wr M b off ↔ Wr N b off := by
  constructor
  · rintro ⟨l, hl, hle⟩; exact ⟨l, (h _).1 hl, hle⟩
  · rintro ⟨l, hl, hle⟩; exact ⟨l, (h _).2 hl, hle⟩
theorem Ext.congr {L L' K K' : Reg} {w w' : World} (h : Ext L w L' w') (hl : Reg.same L K) (hk : Reg.same L' K') : Ext K w K' w' where
  os := h.os
  tape := h.tape
  output := h.output
  size := h.size
  block b hb hn := h.block b hb (fun l hl' => hn l ((hl _).1 hl'))
  cell b off hb hn := h.cell b off hb (fun hl' => hn (hl.wr.1 hl'))
  mono b off hb hw := hl.wr.1 (h.mono b off hb (hk.wr.2 hw))
  blocks b l hb hl' := by obtain ⟨l', h'⟩ := h.blocks b l hb ((hk _).2 hl'); exact ⟨l', (hl _).1 h'⟩

theorem cell_lt {w : World} {b off : Nat} {v : Value} (h : w.cell? ⟨b, off, none⟩ = some v) : b < w.heap.size := World.block_lt_of_cell? w ⟨b, off, none⟩ h

/-- A datum stays. -/
theorem RepC.step {M M' : Reg} {w w' : World} {v : Value} {d : DC} (h : RepC w M v d) (e : Ext M w M' w') : RepC w' M' v d := by
  induction h with
  | ex v h => exact .ex v h
  | sl a b off cap full esz elems vs ha hc hm hf hz hw hr ih =>
    refine .sl a b off cap full esz elems vs ha hc hm hf hz (fun i j d hd => ?_) ih
    obtain ⟨h1, h2⟩ := hw i j d hd
    have hb := cell_lt h1
    exact ⟨(e.cell _ _ hb h2).trans h1, fun hw' => h2 (e.mono _ _ hb hw')⟩
/-- A datum stays where less may be written. -/
theorem RepC.less {M M' : Reg} {w : World} {v : Value} {d : DC} (h : RepC w M v d) (hs : ∀ b off, Wr M' b off → Wr M b off) : RepC w M' v d := by
  induction h with
  | ex v h => exact .ex v h
  | sl a b off cap full esz elems vs ha hc hm hf hz hw hr ih =>
    exact .sl a b off cap full esz elems vs ha hc hm hf hz (fun i j d hd => ⟨(hw i j d hd).1, fun h' => (hw i j d hd).2 (hs _ _ h')⟩) ih

/-- What a slot holds: anything; a cell; a struct or an array by its cells; the address of cells that may not be written; the address of an element's part in a slice of known header; some results. -/
inductive AV where
  | any
  | c (d : DC)
  | agg (l : List DC)
  | ref (l : List DC)
  | el (hv : Value) (esz i q : Nat)
  | tup (l : List AV)
  | sub (hv : Value) (esz l : Nat)

/-- A slice cut from a place on, by its header. -/
def SubOf (hv v : Value) (esz l : Nat) : Prop := ∃ a n cap, hv = .slice a n cap ∧ l ≤ n ∧ v = .slice (if cap = l then a else a.map (·.add (l * esz))) (n - l) (cap - l)

/-- Cells, one by one. -/
def RepL (w : World) (M : Reg) (vs : List Value) (ds : List DC) : Prop := vs.length = ds.length ∧ ∀ (i : Nat) (v : Value) (d : DC), vs[i]? = some v → ds[i]? = some d → RepC w M v d

theorem RepL.step {M M' : Reg} {w w' : World} {vs : List Value} {ds : List DC} (h : RepL w M vs ds) (e : Ext M w M' w') : RepL w' M' vs ds :=
  ⟨h.1, fun i v d hv hd => (h.2 i v d hv hd).step e⟩
theorem RepL.less {M M' : Reg} {w : World} {vs : List Value} {ds : List DC} (h : RepL w M vs ds) (hs : ∀ b off, Wr M' b off → Wr M b off) : RepL w M' vs ds :=
  ⟨h.1, fun i v d hv hd => (h.2 i v d hv hd).less hs⟩
theorem RepL.nil {w : World} {M : Reg} : RepL w M [] [] := ⟨rfl, fun i v d hv _ => by simp at hv⟩
theorem RepL.cons {w : World} {M : Reg} {v : Value} {d : DC} {vs : List Value} {ds : List DC} (h : RepC w M v d) (k : RepL w M vs ds) : RepL w M (v :: vs) (d :: ds) := by
  refine ⟨by simp [k.1], fun i u c hu hc => ?_⟩
  cases i with
  | zero => simp at hu hc; subst hu; subst hc; exact h
  | succ i => exact k.2 i u c (by simpa using hu) (by simpa using hc)
theorem RepL.uncons {w : World} {M : Reg} {v : Value} {d : DC} {vs : List Value} {ds : List DC} (h : RepL w M (v :: vs) (d :: ds)) : RepC w M v d ∧ RepL w M vs ds :=
  ⟨h.2 0 v d (by simp) (by simp), by simpa using h.1, fun i u c hu hc => h.2 (i + 1) u c (by simpa using hu) (by simpa using hc)⟩
theorem RepL.append {w : World} {M : Reg} {vs us : List Value} {ds cs : List DC} (h : RepL w M vs ds) (k : RepL w M us cs) : RepL w M (vs ++ us) (ds ++ cs) := by
  refine ⟨by simp [h.1, k.1], fun i u c hu hc => ?_⟩
  by_cases hi : i < vs.length
  · rw [List.getElem?_append_left hi] at hu
    rw [List.getElem?_append_left (by rw [← h.1]; exact hi)] at hc
    exact h.2 i u c hu hc
  · rw [List.getElem?_append_right (by omega)] at hu
    rw [List.getElem?_append_right (by have := h.1; omega), ← h.1] at hc
    exact k.2 _ u c hu hc
theorem RepL.take {w : World} {M : Reg} {vs : List Value} {ds : List DC} (h : RepL w M vs ds) (n : Nat) : RepL w M (vs.take n) (ds.take n) := by
  refine ⟨by simp [h.1], fun i u c hu hc => ?_⟩
  rw [List.getElem?_take] at hu hc
  split at hu <;> simp_all
  exact h.2 i u c hu hc
theorem RepL.drop {w : World} {M : Reg} {vs : List Value} {ds : List DC} (h : RepL w M vs ds) (n : Nat) : RepL w M (vs.drop n) (ds.drop n) := by
  refine ⟨by simp [h.1], fun i u c hu hc => ?_⟩
  rw [List.getElem?_drop] at hu hc
  exact h.2 _ u c hu hc
theorem RepL.one {w : World} {M : Reg} {vs : List Value} {ds : List DC} (h : RepL w M vs ds) : ∀ v ∈ vs, v.oneCell' = true := by
  intro v hv
  obtain ⟨i, hi⟩ := List.getElem?_of_mem hv
  have hlt : i < ds.length := by
    have := (List.getElem?_eq_some_iff.1 hi).1
    rw [← h.1]; exact this
  exact (h.2 i v ds[i] hi (by simp [hlt])).one

inductive AvR (w : World) (M : Reg) : Value → AV → Prop
  | any (v) : AvR w M v .any
  | c (v d) (h : RepC w M v d) : AvR w M v (.c d)
  | agg (vs : Array Value) (l) (h : RepL w M vs.toList l) : AvR w M (.agg vs) (.agg l)
  | ref (b off) (vs : List Value) (l) (h : RepL w M vs l) (hc : ∀ (i : Nat) (v : Value), vs[i]? = some v → w.cell? ⟨b, off + i, none⟩ = some v ∧ ¬ Wr M b (off + i)) : AvR w M (.pointer (some ⟨b, off, none⟩)) (.ref l)
  | el (g n cap esz i q) : AvR w M (.pointer (some ⟨g, i * esz + q, none⟩)) (.el (.slice (some ⟨g, 0, none⟩) n cap) esz i q)
  | tup (vs : Array Value) (l) (hl : vs.size = l.length) (h : ∀ (i : Nat) (v : Value) (x : AV), vs[i]? = some v → l[i]? = some x → AvR w M v x) : AvR w M (.tuple vs) (.tup l)
  | sub (v hv : Value) (esz l : Nat) (h : SubOf hv v esz l) : AvR w M v (.sub hv esz l)

theorem AvR.step {M M' : Reg} {w w' : World} {v : Value} {d : AV} (h : AvR w M v d) (e : Ext M w M' w') : AvR w' M' v d := by
  induction h with
  | any v => exact .any v
  | c v d h => exact .c v d (h.step e)
  | agg vs l h => exact .agg vs l (h.step e)
  | ref b off vs l h hc =>
    refine .ref b off vs l (h.step e) (fun i v hi => ?_)
    obtain ⟨h1, h2⟩ := hc i v hi
    have hb := cell_lt h1
    exact ⟨(e.cell _ _ hb h2).trans h1, fun hw' => h2 (e.mono _ _ hb hw')⟩
  | el g n cap esz i q => exact .el g n cap esz i q
  | tup vs l hl h ih => exact .tup vs l hl ih
  | sub v hv esz l h => exact .sub v hv esz l h
theorem AvR.less {M M' : Reg} {w : World} {v : Value} {d : AV} (h : AvR w M v d) (hs : ∀ b off, Wr M' b off → Wr M b off) : AvR w M' v d := by
  induction h with
  | any v => exact .any v
  | c v d h => exact .c v d (h.less hs)
  | agg vs l h => exact .agg vs l (h.less hs)
  | ref b off vs l h hc => exact .ref b off vs l (h.less hs) (fun i v hi => ⟨(hc i v hi).1, fun h' => (hc i v hi).2 (hs _ _ h')⟩)
  | el g n cap esz i q => exact .el g n cap esz i q
  | tup vs l hl h ih => exact .tup vs l hl ih
  | sub v hv esz l h => exact .sub v hv esz l h

/-- A cell of memory that is owned: a datum, or a slice whose array is owned, behind its elements. -/
inductive OC where
  | d (c : DC)
  | own (e : TypeId) (esz : Nat) (elems : List (List DC))

/-- A slice whose array is owned behind its elements, these not. -/
inductive OwnR (w : World) (M : Reg) : Value → TypeId → Nat → List (List DC) → Reg → Prop
  | nil (a e esz) : OwnR w M (.slice a 0 0) e esz [] []
  | full (v : Value) (e : TypeId) (esz : Nat) (elems : List (List DC)) (h : RepC w M v (.sl true esz elems)) : OwnR w M v e esz elems []
  | some (g cap : Nat) (cur : Array Value) (e : TypeId) (esz : Nat) (elems : List (List DC))
      (hg : w.heap[g]? = some (.cells cur e (0, 0))) (hn : elems.length ≤ cap) (hm : cap ≤ maxLen) (hcs : cur.size = cap * esz)
      (hz : ∀ x ∈ elems, x.length = esz)
      (hnw : ∀ off, off < elems.length * esz → ¬ Wr M g off)
      (hr : RepL w M (cur.toList.take (elems.length * esz)) elems.flatten) : OwnR w M (.slice (some ⟨g, 0, none⟩) elems.length cap) e esz elems [(g, elems.length * esz)]

inductive CellR (w : World) (M : Reg) : Value → OC → Reg → Prop
  | d (v c) (h : RepC w M v c) : CellR w M v (.d c) []
  | own (v e esz elems r) (h : OwnR w M v e esz elems r) : CellR w M v (.own e esz elems) r

/-- Cells of memory that is owned, one by one, and what is owned through them. -/
inductive CellsR (w : World) (M : Reg) : List Value → List OC → Reg → Prop
  | nil : CellsR w M [] [] []
  | cons (v c r vs cs rs) (h : CellR w M v c r) (t : CellsR w M vs cs rs) : CellsR w M (v :: vs) (c :: cs) (r ++ rs)

/-- Memory: a variable's block, owned; a slice's array, owned from an element on; a slice's array, owned behind its elements; a block that nobody writes; an array and what was appended to it, while the old header may still be wanted. -/
inductive Ob where
  | box (b : Nat) (e : TypeId) (cells : List OC)
  | arrX (v : Value) (e : TypeId) (esz lo : Nat) (elems : List (List DC))
  | arrA (v : Value) (e : TypeId) (esz : Nat) (elems : List (List DC))
  | ro (g : Nat) (cells : List DC)
  | fork (v v1 : Value) (e : TypeId) (esz : Nat) (elems ys : List (List DC))

/-- A slice cut back to so many of its elements. -/
def CutBack (v v1 : Value) (n : Nat) : Prop := ∃ g m cap, v1 = .slice (some ⟨g, 0, none⟩) m cap ∧ v = .slice (some ⟨g, 0, none⟩) n cap ∧ n ≤ m

inductive ObR (w : World) (M : Reg) : Ob → Reg → Prop
  | box (b e cs cells r) (hb : w.heap[b]? = some (.cells cs e (0, 0))) (h : CellsR w M cs.toList cells r) : ObR w M (.box b e cells) ((b, 0) :: r)
  | arrX0 (a e esz) : ObR w M (.arrX (.slice a 0 0) e esz 0 []) []
  | arrX (g cap : Nat) (cur : Array Value) (e : TypeId) (esz lo : Nat) (elems : List (List DC))
      (hg : w.heap[g]? = some (.cells cur e (0, 0))) (hlo : lo ≤ elems.length) (hn : elems.length ≤ cap) (hm : cap ≤ maxLen) (hcs : cur.size = cap * esz)
      (hz : ∀ x ∈ elems, x.length = esz)
      (hnw : ∀ off, off < lo * esz → ¬ Wr M g off)
      (hr : RepL w M (cur.toList.take (elems.length * esz)) elems.flatten) : ObR w M (.arrX (.slice (some ⟨g, 0, none⟩) elems.length cap) e esz lo elems) [(g, lo * esz)]
  | arrA (v e esz elems r) (h : OwnR w M v e esz elems r) : ObR w M (.arrA v e esz elems) r
  | ro (g : Nat) (vs : List Value) (cells : List DC) (h : RepL w M vs cells) (hc : ∀ (i : Nat) (v : Value), vs[i]? = some v → w.cell? ⟨g, i, none⟩ = some v ∧ ¬ Wr M g i) : ObR w M (.ro g cells) []
  | forkIn (v v1 : Value) (e : TypeId) (esz : Nat) (elems ys : List (List DC)) (r : Reg) (hc : CutBack v v1 elems.length) (h : ObR w M (.arrX v1 e esz 0 (elems ++ ys)) r) : ObR w M (.fork v v1 e esz elems ys) r
  | forkNew (v v1 : Value) (e : TypeId) (esz : Nat) (elems ys : List (List DC)) (r1 r2 : Reg) (h1 : ObR w M (.arrX v e esz 0 elems) r1) (h2 : ObR w M (.arrX v1 e esz 0 (elems ++ ys)) r2) : ObR w M (.fork v v1 e esz elems ys) (r1 ++ r2)

inductive HeapR (w : World) (M : Reg) : List Ob → Reg → Prop
  | nil : HeapR w M [] []
  | cons (o r t rs) (h : ObR w M o r) (k : HeapR w M t rs) : HeapR w M (o :: t) (r ++ rs)

end Go.Rv
