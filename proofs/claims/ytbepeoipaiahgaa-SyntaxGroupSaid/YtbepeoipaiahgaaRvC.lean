/- A LOGIC OF ABSTRACT STATES OVER THE MODEL, part C: operations that make no memory and write none. -/
import Derived.Test.YtbepeoipaiahgaaRvB
namespace Go.Rv

abbrev AV.int (k : IntKind) (n : Int) : AV := .c (.ex (.int k n))
abbrev AV.bool (b : Bool) : AV := .c (.ex (.bool b))
abbrev AV.str (s : ByteArray) : AV := .c (.ex (.string s))
abbrev AV.sl (full : Bool) (esz : Nat) (elems : List (List DC)) : AV := .c (.sl full esz elems)
abbrev AV.ptr (b off : Nat) : AV := .c (.ex (.pointer (some ⟨b, off, none⟩)))

/-- The byte of a string at a place. -/
def bt (s : ByteArray) (i : Int) : Int := ((s.data.toList[i.toNat]?).getD 0).toNat

/-- A type's row: the zero value, how many cells, how many bytes. -/
def EInfo (P : Program) (e : TypeId) (z : Value) (sz by_ : Nat) : Prop := ∃ i, P.info? e = some i ∧ i.zero = some z ∧ i.size = sz ∧ i.bytes = by_
theorem EInfo.mk' {P : Program} {e : TypeId} {z : Value} {sz by_ : Nat} (h : (P.info? e).map (fun i => (i.zero, i.size, i.bytes)) = some (some z, sz, by_)) : EInfo P e z sz by_ := by
  cases hi : P.info? e with
  | none => simp [hi] at h
  | some i =>
    simp [hi] at h
    exact ⟨i, hi, h.1, h.2.1, h.2.2⟩
theorem EInfo.sizeOf {P : Program} {e : TypeId} {z : Value} {sz by_ : Nat} (h : EInfo P e z sz by_) (w : World) : (Go.sizeOf e).run P w = .ok sz w := by
  obtain ⟨i, hi, _, hs, _⟩ := h
  simp [Go.sizeOf, typeInfo, hi, hs]
theorem EInfo.zeroValue {P : Program} {e : TypeId} {z : Value} {sz by_ : Nat} (h : EInfo P e z sz by_) (w : World) : (Go.zeroValue e).run P w = .ok z w := by
  obtain ⟨i, hi, hz, _, _⟩ := h
  simp [Go.zeroValue, typeInfo, hi, hz]
def TypeDesc.flat : TypeDesc → Bool
  | .struct _ => false
  | .array _ _ => false
  | _ => true
theorem run_isAgg {P : Program} {t : TypeId} {d : TypeDesc} (h : P.underlying t = some d) (w : World) : (Go.isAgg t).run P w = .ok (!TypeDesc.flat d) w := by
  simp only [Go.isAgg, Sem.run_bind, run_underlying h, Result.andThen_ok]
  cases d <;> rfl

section
variable {P : Program} {N : Nat} {s : St} {o : Oper} {K : St → Prop}

theorem OpT.still (x : AV) (hN : ∀ d, o.dst = some d → d < N)
    (h : ∀ F L a w, Rel w N F L s a → ∃ v, (execOp a.eval o).run P w = .ok (.value v) w ∧ AvR w (L ++ F) v x) (k : K (s.putO o.dst x)) : OpT P N o s K := by
  intro F L a w hr
  obtain ⟨v, hv, hx⟩ := h F L a w hr
  unfold Oper.wp
  rw [hv, Oper.upon_value]
  exact ⟨L, _, k, hr.put hN hx, Ext.refl _ _⟩

theorem OpT.move {x : Operand} {v : AV} (ho : o.op = .move x) (hN : ∀ d, o.dst = some d → d < N) (hx : s.ev x = some v) (k : K (s.putO o.dst v)) : OpT P N o s K :=
  OpT.still v hN (fun F L a w hr => ⟨a.eval x, by simp [execOp, ho], hr.ev hx⟩) k
theorem OpT.assign {x : Operand} {v : AV} (ho : o.op = .assign x) (hN : ∀ d, o.dst = some d → d < N) (hx : s.ev x = some v) (k : K (s.putO o.dst v)) : OpT P N o s K :=
  OpT.still v hN (fun F L a w hr => ⟨a.eval x, by simp [execOp, ho], hr.ev hx⟩) k

theorem Rel.exact {w : World} {F L : Reg} {a : Act} {x : Operand} {v : Value} (hr : Rel w N F L s a) (hx : s.ev x = some (.c (.ex v))) : a.eval x = v := (hr.ev hx).exact.1

def arith : BinOp → IntKind → Int → Int → Value
  | .add, k, a, b => .int k (k.wrap (a + b))
  | .sub, k, a, b => .int k (k.wrap (a - b))
  | .mul, k, a, b => .int k (k.wrap (a * b))
  | .and, k, a, b => .int k (bits .and k a b)
  | .or, k, a, b => .int k (bits .or k a b)
  | .xor, k, a, b => .int k (bits .xor k a b)
  | .andNot, k, a, b => .int k (bits .andNot k a b)
  | .eql, _, a, b => .bool (a == b)
  | .neq, _, a, b => .bool (a != b)
  | .lss, _, a, b => .bool (decide (a < b))
  | .leq, _, a, b => .bool (decide (a ≤ b))
  | .gtr, _, a, b => .bool (decide (a > b))
  | .geq, _, a, b => .bool (decide (a ≥ b))
  | _, _, _, _ => .bool false
def plainBin : BinOp → Bool
  | .add | .sub | .mul | .and | .or | .xor | .andNot | .eql | .neq | .lss | .leq | .gtr | .geq => true
  | _ => false
theorem binOp_arith (op : BinOp) (t : TypeId) (k : IntKind) (a b : Int) (h : plainBin op = true) : binOp op t (.int k a) (.int k b) = pure (arith op k a b) := by
  cases op <;> first | (simp [plainBin] at h; done) | simp [arith, Op.intArith, binOp_add, binOp_sub, binOp_mul, binOp_and, binOp_or, binOp_xor, binOp_andNot, binOp_eql, binOp_neq, binOp_lss, binOp_leq, binOp_gtr, binOp_geq, intBits_and, intBits_or, intBits_xor, intBits_andNot]
theorem arith_one (op : BinOp) (k : IntKind) (a b : Int) : (arith op k a b).oneCell' = true := by cases op <;> rfl
theorem OpT.int2 {op : BinOp} {t t' : TypeId} {x y : Operand} {k : IntKind} {a b : Int} (ho : o.op = .binOp op t x y t') (hop : plainBin op = true) (hN : ∀ d, o.dst = some d → d < N)
    (hx : s.ev x = some (.int k a)) (hy : s.ev y = some (.int k b)) (k' : K (s.putO o.dst (.c (.ex (arith op k a b))))) : OpT P N o s K :=
  OpT.still _ hN (fun F L a' w hr => ⟨arith op k a b, by simp [execOp, ho, hr.exact hx, hr.exact hy, eqGuard_at_int, binOp_arith _ _ _ _ _ hop], .c _ _ (.ex _ (arith_one ..))⟩) k'
theorem OpT.quo {t t' : TypeId} {x y : Operand} {k : IntKind} {a b : Int} (ho : o.op = .binOp .quo t x y t') (hN : ∀ d, o.dst = some d → d < N)
    (hx : s.ev x = some (.int k a)) (hy : s.ev y = some (.int k b)) (hb : b ≠ 0) (k' : K (s.putO o.dst (.int k (k.wrap (a.tdiv b))))) : OpT P N o s K :=
  OpT.still _ hN (fun F L a' w hr => ⟨.int k (k.wrap (a.tdiv b)), by simp [execOp, ho, hr.exact hx, hr.exact hy, eqGuard_at_int, binOp_quo, Op.intDiv, hb], .c _ _ (.ex _ rfl)⟩) k'
theorem OpT.rem {t t' : TypeId} {x y : Operand} {k : IntKind} {a b : Int} (ho : o.op = .binOp .rem t x y t') (hN : ∀ d, o.dst = some d → d < N)
    (hx : s.ev x = some (.int k a)) (hy : s.ev y = some (.int k b)) (hb : b ≠ 0) (k' : K (s.putO o.dst (.int k (a.tmod b)))) : OpT P N o s K :=
  OpT.still _ hN (fun F L a' w hr => ⟨.int k (a.tmod b), by simp [execOp, ho, hr.exact hx, hr.exact hy, eqGuard_at_int, binOp_rem, Op.intDiv, hb], .c _ _ (.ex _ rfl)⟩) k'
theorem OpT.shl {t t' : TypeId} {x y : Operand} {k k2 : IntKind} {a b : Int} (ho : o.op = .binOp .shl t x y t') (hN : ∀ d, o.dst = some d → d < N)
    (hx : s.ev x = some (.int k a)) (hy : s.ev y = some (.int k2 b)) (hb : 0 ≤ b) (k' : K (s.putO o.dst (.int k (k.wrap (a * 2 ^ min b.toNat k.bits))))) : OpT P N o s K :=
  OpT.still _ hN (fun F L a' w hr => ⟨.int k (k.wrap (a * 2 ^ min b.toNat k.bits)), by simp [execOp, ho, hr.exact hx, hr.exact hy, eqGuard_at_int, binOp_shl, Op.shift, Int.not_lt.2 hb], .c _ _ (.ex _ rfl)⟩) k'
theorem OpT.shr {t t' : TypeId} {x y : Operand} {k k2 : IntKind} {a b : Int} (ho : o.op = .binOp .shr t x y t') (hN : ∀ d, o.dst = some d → d < N)
    (hx : s.ev x = some (.int k a)) (hy : s.ev y = some (.int k2 b)) (hb : 0 ≤ b) (k' : K (s.putO o.dst (.int k (a.fdiv (2 ^ min b.toNat k.bits))))) : OpT P N o s K :=
  OpT.still _ hN (fun F L a' w hr => ⟨.int k (a.fdiv (2 ^ min b.toNat k.bits)), by simp [execOp, ho, hr.exact hx, hr.exact hy, eqGuard_at_int, binOp_shr, Op.shift, Int.not_lt.2 hb], .c _ _ (.ex _ rfl)⟩) k'

theorem OpT.str_neq {t t' : TypeId} {x y : Operand} {a b : ByteArray} (ho : o.op = .binOp .neq t x y t') (hN : ∀ d, o.dst = some d → d < N)
    (hx : s.ev x = some (.str a)) (hy : s.ev y = some (.str b)) (k' : K (s.putO o.dst (.bool (!(a.toList == b.toList))))) : OpT P N o s K :=
  OpT.still _ hN (fun F L a' w hr => ⟨.bool (!(a.toList == b.toList)), by simp [execOp, ho, hr.exact hx, hr.exact hy, eqGuard_at_string, binOp, Op.stringOp], .c _ _ (.ex _ rfl)⟩) k'
theorem OpT.str_add {t t' : TypeId} {x y : Operand} {a b : ByteArray} (ho : o.op = .binOp .add t x y t') (hN : ∀ d, o.dst = some d → d < N)
    (hx : s.ev x = some (.str a)) (hy : s.ev y = some (.str b)) (hs : a.size + b.size ≤ 9223372036854775807) (k' : K (s.putO o.dst (.str (a ++ b)))) : OpT P N o s K :=
  OpT.still _ hN (fun F L a' w hr => ⟨.string (a ++ b), by
    have h1 : ¬ ((a.size + b.size : Nat) : Int) > IntKind.i64.max := by simp only [IntKind.max_i64]; omega
    have h2 : binOp .add t (.string a) (.string b) = Op.stringOp .add a b := rfl
    simp only [execOp, ho, hr.exact hx, hr.exact hy, eqGuard_at_string, h2, Op.stringOp, if_neg h1]
    rfl, .c _ _ (.ex _ rfl)⟩) k'
theorem OpT.not {t : TypeId} {x : Operand} {a : Bool} (ho : o.op = .unOp .not t x) (hN : ∀ d, o.dst = some d → d < N) (hx : s.ev x = some (.bool a)) (k' : K (s.putO o.dst (.bool (!a)))) : OpT P N o s K :=
  OpT.still _ hN (fun F L a' w hr => ⟨.bool (!a), by simp [execOp, ho, hr.exact hx, Op.unary], .c _ _ (.ex _ rfl)⟩) k'
theorem OpT.neg {t : TypeId} {x : Operand} {k : IntKind} {a : Int} (ho : o.op = .unOp .neg t x) (hN : ∀ d, o.dst = some d → d < N) (hx : s.ev x = some (.int k a)) (k' : K (s.putO o.dst (.int k (k.wrap (0 - a))))) : OpT P N o s K :=
  OpT.still _ hN (fun F L a' w hr => ⟨.int k (k.wrap (0 - a)), by simp [execOp, ho, hr.exact hx, Op.unary, Op.intArith], .c _ _ (.ex _ rfl)⟩) k'
theorem OpT.compl {t : TypeId} {x : Operand} {k : IntKind} {a : Int} (ho : o.op = .unOp .xor t x) (hN : ∀ d, o.dst = some d → d < N) (hx : s.ev x = some (.int k a)) (k' : K (s.putO o.dst (.int k (bits .xor k (if k.signed then -1 else k.max) a)))) : OpT P N o s K :=
  OpT.still _ hN (fun F L a' w hr => ⟨.int k (bits .xor k (if k.signed then -1 else k.max) a), by simp [execOp, ho, hr.exact hx, Op.unary, intBits_xor], .c _ _ (.ex _ rfl)⟩) k'

theorem OpT.convInt {src dst : TypeId} {x : Operand} {k k2 : IntKind} {a : Int} (ho : o.op = .convert src dst x) (hN : ∀ d, o.dst = some d → d < N) {d1 : TypeDesc} (hs : P.underlying src = some d1) (hd : P.underlying dst = some (.int k2))
    (hx : s.ev x = some (.int k a)) (k' : K (s.putO o.dst (.int k2 (k2.wrap a)))) : OpT P N o s K :=
  OpT.still _ hN (fun F L a' w hr => ⟨.int k2 (k2.wrap a), by
    simp [execOp, ho, hr.exact hx, convert, run_underlying hs, run_underlying hd, Conv.intToInt], .c _ _ (.ex _ rfl)⟩) k'

theorem OpT.pick {c x y : Operand} {b : Bool} {v : AV} (ho : o.op = .pick c x y) (hN : ∀ d, o.dst = some d → d < N) (hc : s.ev c = some (.bool b)) (hv : s.ev (if b then x else y) = some v) (k : K (s.putO o.dst v)) : OpT P N o s K :=
  OpT.still v hN (fun F L a w hr => ⟨a.eval (if b then x else y), by cases b <;> simp [execOp, ho, hr.exact hc, asBool], hr.ev hv⟩) k

theorem OpT.extract {t : Operand} {i : Nat} {l : List AV} {v : AV} (ho : o.op = .extract t i) (hN : ∀ d, o.dst = some d → d < N) (ht : s.ev t = some (.tup l)) (hi : l[i]? = some v) (k : K (s.putO o.dst v)) : OpT P N o s K :=
  OpT.still v hN (fun F L a w hr => by
    have h := hr.ev ht
    generalize hq : a.eval t = q at h
    cases h with
    | tup vs _ hl h =>
      have hlt : i < vs.size := by rw [hl]; exact (List.getElem?_eq_some_iff.1 hi).1
      refine ⟨vs[i], ?_, h i _ v (by simp [hlt]) hi⟩
      simp [execOp, ho, hq, Instr.extract, hlt]) k

theorem OpT.indexArr {t e : TypeId} {n : Nat} {x i : Operand} {k : IntKind} {j : Int} {l : List DC} {d : DC} {de : TypeDesc} {z : Value} {by_ : Nat} (ho : o.op = .index t x i) (hN : ∀ d, o.dst = some d → d < N) (ht : P.underlying t = some (.array n e))
    (he : P.underlying e = some de) (hfl : TypeDesc.flat de = true) (hei : EInfo P e z 1 by_) (hx : s.ev x = some (.agg l)) (hi : s.ev i = some (.int k j)) (h0 : 0 ≤ j) (h1 : j < n) (hd : l[j.toNat]? = some d) (k' : K (s.putO o.dst (.c d))) : OpT P N o s K :=
  OpT.still _ hN (fun F L a w hr => by
    have h := hr.ev hx
    generalize hq : a.eval x = q at h
    cases h with
    | agg vs _ h =>
      have hlt : j.toNat < vs.size := by have := (List.getElem?_eq_some_iff.1 hd).1; have := h.1; simp at this; omega
      refine ⟨vs[j.toNat], ?_, .c _ _ (h.2 j.toNat _ d (by simp [hlt]) hd)⟩
      simp [execOp, ho, hq, hr.exact hi, Instr.index, asIntOf, run_underlying ht, h0, h1, hei.sizeOf, part, run_isAgg he, hfl, hlt]) k'

theorem OpT.indexStr {t : TypeId} {x i : Operand} {k : IntKind} {j : Int} {b : ByteArray} (ho : o.op = .index t x i) (hN : ∀ d, o.dst = some d → d < N) (ht : P.underlying t = some .string)
    (hx : s.ev x = some (.str b)) (hi : s.ev i = some (.int k j)) (h0 : 0 ≤ j) (h1 : j < b.size) (k' : K (s.putO o.dst (.int .u8 (bt b j)))) : OpT P N o s K :=
  OpT.still _ hN (fun F L a w hr => by
    have hlt : j.toNat < b.size := by omega
    have hlt' : j.toNat < b.data.size := hlt
    refine ⟨.int .u8 (bt b j), ?_, .c _ _ (.ex _ rfl)⟩
    have hg : b[j.toNat]? = some b[j.toNat] := getElem?_pos b j.toNat hlt
    have hb : bt b j = (b[j.toNat].toNat : Int) := by
      simp only [bt, Array.getElem?_toList, Array.getElem?_eq_getElem hlt', Option.getD_some]; rfl
    simp [execOp, ho, hr.exact hx, hr.exact hi, Instr.index, asIntOf, run_underlying ht, h0, hg, hb]) k'

theorem OpT.field {t : TypeId} {fs : Array Field} {f : Field} {x : Operand} {i : Nat} {l : List DC} {d : DC} {df : TypeDesc} (ho : o.op = .field t x i) (hN : ∀ d, o.dst = some d → d < N) (ht : P.underlying t = some (.struct fs)) (hf : fs[i]? = some f)
    (hu : P.underlying f.type = some df) (hfl : TypeDesc.flat df = true) (hx : s.ev x = some (.agg l)) (hd : l[f.offset]? = some d) (k' : K (s.putO o.dst (.c d))) : OpT P N o s K :=
  OpT.still _ hN (fun F L a w hr => by
    have h := hr.ev hx
    generalize hq : a.eval x = q at h
    cases h with
    | agg vs _ h =>
      have hlt : f.offset < vs.size := by have := (List.getElem?_eq_some_iff.1 hd).1; have := h.1; simp at this; omega
      refine ⟨vs[f.offset], ?_, .c _ _ (h.2 f.offset _ d (by simp [hlt]) hd)⟩
      simp [execOp, ho, hq, Instr.field, run_underlying ht, hf, asAgg, part, run_isAgg hu, hfl, hlt]) k'
theorem OpT.lenSl {t : TypeId} {e : TypeId} {x : Operand} {full : Bool} {esz : Nat} {elems : List (List DC)} (ho : o.op = .call { callee := .builtin .len, args := #[x], argTypes := #[t] }) (hN : ∀ d, o.dst = some d → d < N) (ht : P.underlying t = some (.slice e))
    (hx : s.ev x = some (.sl full esz elems)) (k' : K (s.putO o.dst (.int .i64 elems.length))) : OpT P N o s K :=
  OpT.still _ hN (fun F L a w hr => by
    have h := hr.ev hx
    generalize hq : a.eval x = q at h
    cases h with
    | c _ _ h =>
      cases h with
      | sl ad b off cap full esz elems vs ha hc hm hf hz hw hr' =>
        exact ⟨.int .i64 elems.length, by simp [execOp, ho, resolve, hq, invoke, builtin, Builtin.len_, run_underlying ht, goInt], .c _ _ (.ex _ rfl)⟩) k'
theorem OpT.lenStr {t : TypeId} {x : Operand} {b : ByteArray} (ho : o.op = .call { callee := .builtin .len, args := #[x], argTypes := #[t] }) (hN : ∀ d, o.dst = some d → d < N) (ht : P.underlying t = some .string)
    (hx : s.ev x = some (.str b)) (k' : K (s.putO o.dst (.int .i64 b.size))) : OpT P N o s K :=
  OpT.still _ hN (fun F L a w hr => ⟨.int .i64 b.size, by simp [execOp, ho, resolve, hr.exact hx, invoke, builtin, Builtin.len_, run_underlying ht, goInt], .c _ _ (.ex _ rfl)⟩) k'
theorem OpT.min2 {ts : Array TypeId} {x y : Operand} {k : IntKind} {a b : Int} (ho : o.op = .call { callee := .builtin .min, args := #[x, y], argTypes := ts }) (hN : ∀ d, o.dst = some d → d < N)
    (hx : s.ev x = some (.int k a)) (hy : s.ev y = some (.int k b)) (k' : K (s.putO o.dst (.int k (if b < a then b else a)))) : OpT P N o s K :=
  OpT.still _ hN (fun F L a' w hr => ⟨.int k (if b < a then b else a), by simp [execOp, ho, resolve, hr.exact hx, hr.exact hy, invoke, builtin, Builtin.min_, Builtin.min2], .c _ _ (.ex _ rfl)⟩) k'
theorem OpT.max2 {ts : Array TypeId} {x y : Operand} {k : IntKind} {a b : Int} (ho : o.op = .call { callee := .builtin .max, args := #[x, y], argTypes := ts }) (hN : ∀ d, o.dst = some d → d < N)
    (hx : s.ev x = some (.int k a)) (hy : s.ev y = some (.int k b)) (k' : K (s.putO o.dst (.int k (if b > a then b else a)))) : OpT P N o s K :=
  OpT.still _ hN (fun F L a' w hr => ⟨.int k (if b > a then b else a), by simp [execOp, ho, resolve, hr.exact hx, hr.exact hy, invoke, builtin, Builtin.max_, Builtin.max2], .c _ _ (.ex _ rfl)⟩) k'

theorem addr_add (b off n : Nat) : (⟨b, off, none⟩ : Addr).add n = ⟨b, off + n, none⟩ := by
  unfold Addr.add
  split
  · rename_i h; subst h; rfl
  · rfl

/-- The address of an element of a slice that may not be written. -/
theorem OpT.indexSl {t e : TypeId} {x i : Operand} {k : IntKind} {j : Int} {full : Bool} {esz : Nat} {elems : List (List DC)} {el : List DC} {z : Value} {by_ : Nat} (ho : o.op = .indexAddr t x i) (hN : ∀ d, o.dst = some d → d < N) (ht : P.underlying t = some (.slice e))
    (hei : EInfo P e z esz by_) (hx : s.ev x = some (.sl full esz elems)) (hi : s.ev i = some (.int k j)) (h0 : 0 ≤ j) (hd : elems[j.toNat]? = some el) (k' : K (s.putO o.dst (.ref el))) : OpT P N o s K :=
  OpT.still _ hN (fun F L a w hr => by
    have h := hr.ev hx
    generalize hq : a.eval x = q at h
    cases h with
    | c _ _ h =>
      cases h with
      | sl ad b off cap full esz elems vs ha hc hm hf hz hw hr' =>
        have hlt := (List.getElem?_eq_some_iff.1 hd).1
        have hjl : j < (elems.length : Int) := by omega
        rcases ha with rfl | ⟨rfl, _⟩
        · refine ⟨.pointer (some ⟨b, off + j.toNat * esz, none⟩), ?_, .ref b (off + j.toNat * esz) ((List.range esz).map fun q => vs j.toNat q) el ?_ ?_⟩
          · simp [execOp, ho, hq, hr.exact hi, Instr.indexAt, asIntOf, run_underlying ht, h0, hjl, hei.sizeOf, addr_add]
          · refine ⟨by simp [hz el (List.mem_of_getElem? hd)], fun q v d hv hdq => ?_⟩
            have hq' : q < esz := by
              have := (List.getElem?_eq_some_iff.1 hv).1; simpa using this
            simp [hq'] at hv
            subst hv
            exact hr' j.toNat q d (by simp [hd, hdq])
          · intro q v hv
            have hq' : q < esz := by
              have := (List.getElem?_eq_some_iff.1 hv).1; simpa using this
            simp [hq'] at hv
            subst hv
            have hl : q < el.length := by rw [hz el (List.mem_of_getElem? hd)]; exact hq'
            have := hw j.toNat q el[q] (by simp [hd, hl])
            simpa [Nat.add_assoc] using this
        · simp at hd) k'
/-- The address of a part of a variable's block. -/
theorem OpT.indexPtr {t e : TypeId} {n : Nat} {x i : Operand} {k : IntKind} {j : Int} {b off : Nat} {z : Value} {esz by_ : Nat} (ho : o.op = .indexAddr t x i) (hN : ∀ d, o.dst = some d → d < N) (ht : P.underlying t = some (.array n e))
    (hei : EInfo P e z esz by_) (hx : s.ev x = some (.ptr b off)) (hi : s.ev i = some (.int k j)) (h0 : 0 ≤ j) (h1 : j < n) (k' : K (s.putO o.dst (.ptr b (off + j.toNat * esz)))) : OpT P N o s K :=
  OpT.still _ hN (fun F L a w hr => ⟨.pointer (some ⟨b, off + j.toNat * esz, none⟩), by simp [execOp, ho, hr.exact hx, hr.exact hi, Instr.indexAt, asIntOf, Instr.sureAddr, run_underlying ht, h0, h1, hei.sizeOf, addr_add], .c _ _ (.ex _ rfl)⟩) k'
theorem OpT.fieldPtr {t : TypeId} {fs : Array Field} {f : Field} {x : Operand} {i : Nat} {b off : Nat} {z : Value} {sz by_ : Nat} (ho : o.op = .fieldAddr t x i) (hN : ∀ d, o.dst = some d → d < N) (ht : P.underlying t = some (.struct fs)) (hf : fs[i]? = some f)
    (hei : EInfo P f.type z sz by_) (hsz : sz ≠ 0) (hx : s.ev x = some (.ptr b off)) (k' : K (s.putO o.dst (.ptr b (off + f.offset)))) : OpT P N o s K :=
  OpT.still _ hN (fun F L a w hr => ⟨.pointer (some ⟨b, off + f.offset, none⟩), by simp [execOp, ho, hr.exact hx, Instr.fieldAt, Instr.sureAddr, run_underlying ht, hf, fieldPlace, hei.sizeOf, hsz, addr_add], .c _ _ (.ex _ rfl)⟩) k'

theorem run_loadCells_at {P : Program} {w : World} {b off : Nat} {vs : List Value} (n : Nat) (h : ∀ (i : Nat) (v : Value), vs[i]? = some v → w.cell? ⟨b, off + i, none⟩ = some v) (hn : n ≤ vs.length) :
    (loadCells ⟨b, off, none⟩ n).run P w = .ok (vs.take n).toArray w := by
  have := run_loadCells_list (P := P) w ⟨b, off, none⟩ (vs.take n) (fun j v hv => by
    rw [List.getElem?_take] at hv
    split at hv
    · rw [addr_add]; exact h j v hv
    · cases hv)
  simpa [Nat.min_eq_left hn] using this
theorem OpT.loadRef {t : TypeId} {dt : TypeDesc} {x : Operand} {l : List DC} {d : DC} (ho : o.op = .load t x) (hN : ∀ d, o.dst = some d → d < N) (ht : P.underlying t = some dt) (hfl : TypeDesc.flat dt = true)
    (hx : s.ev x = some (.ref l)) (hd : l[0]? = some d) (k' : K (s.putO o.dst (.c d))) : OpT P N o s K :=
  OpT.still _ hN (fun F L a w hr => by
    have h := hr.ev hx
    generalize hq : a.eval x = q at h
    cases h with
    | ref b off vs _ h hc =>
      have hlt : 0 < vs.length := by have := (List.getElem?_eq_some_iff.1 hd).1; rw [h.1]; exact this
      have h0 : vs[0]? = some vs[0] := by simp [hlt]
      have hcell := (hc 0 _ h0).1
      simp only [Nat.add_zero] at hcell
      refine ⟨vs[0], ?_, .c _ _ (h.2 0 _ d h0 hd)⟩
      simp [execOp, ho, hq, Instr.loadAt, Instr.sureAddr, loadVar, run_isAgg ht, hfl, hcell]) k'
theorem OpT.loadRefAgg {t : TypeId} {dt : TypeDesc} {x : Operand} {l : List DC} {z : Value} {sz by_ : Nat} (ho : o.op = .load t x) (hN : ∀ d, o.dst = some d → d < N) (ht : P.underlying t = some dt) (hfl : TypeDesc.flat dt = false) (hei : EInfo P t z sz by_)
    (hx : s.ev x = some (.ref l)) (hl : sz ≤ l.length) (k' : K (s.putO o.dst (.agg (l.take sz)))) : OpT P N o s K :=
  OpT.still _ hN (fun F L a w hr => by
    have h := hr.ev hx
    generalize hq : a.eval x = q at h
    cases h with
    | ref b off vs _ h hc =>
      have hld := run_loadCells_at (P := P) sz (fun i v hv => (hc i v hv).1) (by rw [h.1]; exact hl)
      refine ⟨.agg (vs.take sz).toArray, ?_, .agg _ _ (by simpa using h.take sz)⟩
      simp [execOp, ho, hq, Instr.loadAt, Instr.sureAddr, loadVar, run_isAgg ht, hfl, hei.sizeOf, hld]) k'
end

end Go.Rv
