/- A LOGIC OF ABSTRACT STATES OVER THE MODEL, part J: rules over typed data, in the forms in which a program types them. -/
import Derived.Test.YtcmfaclkgdmpbaaGreatDoorRvI
import Derived.Test.YtcmfaclkgdmpbaaGreatDoorRvG
import Derived.ChangeKeysEq
namespace Go.Rv
section
variable {P : Program} {N : Nat} {s : St} {o : Oper} {K : St → Prop} {ops : Array Oper}
theorem Ft.on {j : Nat} {x : Bool} {d : Nat} {b : Bool} (h : o.guard = some (j, x)) (hd : (ops[j]?).bind (·.dst) = some d) (hs : s.slots.lookup d = some (.c (.ex (.bool b)))) (hb : b = x) : Ft ops s o true := by
 subst hb
 have := Ft.guard (ops := ops) (s := s) (o := o) j b d b h hd hs
 rwa [Qg3] at this
theorem Ft.off {j : Nat} {x : Bool} {d : Nat} {b : Bool} (h : o.guard = some (j, x)) (hd : (ops[j]?).bind (·.dst) = some d) (hs : s.slots.lookup d = some (.c (.ex (.bool b)))) (hb : b = !x) : Ft ops s o false := by
 subst hb
 have := Ft.guard (ops := ops) (s := s) (o := o) j x d (!x) h hd hs
 have hx : ((!x) == x) = false := by cases x <;> rfl
 rwa [hx] at this
theorem Qcv {c x y : Operand} {b : Bool} {v : AV} (ho : o.op = .pick c x y) (hN : ∀ d, o.dst = some d → d < N) (hc : s.ev c = some (.bool b)) (hb : b = true) (hv : s.ev x = some v) (k : K (s.putO o.dst v)) : OpT P N o s K := by
 subst hb; exact OpT.pick ho hN hc hv k
theorem Qcw {c x y : Operand} {b : Bool} {v : AV} (ho : o.op = .pick c x y) (hN : ∀ d, o.dst = some d → d < N) (hc : s.ev c = some (.bool b)) (hb : b = false) (hv : s.ev y = some v) (k : K (s.putO o.dst v)) : OpT P N o s K := by
 subst hb; exact OpT.pick ho hN hc hv k
theorem Qt {c : Operand} {x y : Code} {b : Bool} {Q : Exit → St → Prop} (hc : s.ev c = some (.bool b)) (hb : b = true) (h : T P N x s Q) : T P N (.cond c x y) s Q :=
 T.cond hc (fun _ => h) (fun h' => by rw [hb] at h'; cases h')
theorem Qo {c : Operand} {x y : Code} {b : Bool} {Q : Exit → St → Prop} (hc : s.ev c = some (.bool b)) (hb : b = false) (h : T P N y s Q) : T P N (.cond c x y) s Q :=
 T.cond hc (fun h' => by rw [hb] at h'; cases h') (fun _ => h)
theorem bind_some {α β : Type} {x : Option α} {f : α → Option β} {r : β} (h : x.bind f = some r) : ∃ v, x = some v ∧ f v = some r := Qis.1 h
theorem Qh {α : Type} {b : Bool} {x y : Option α} {r : α} (h : (bif b then x else y) = some r) : (b = true ∧ x = some r) ∨ (b = false ∧ y = some r) := by
 cases b
 ·exact .inr ⟨rfl, h⟩
 ·exact .inl ⟨rfl, h⟩
def Xl {α : Type} (l : List α) (i : Int) : Option α := if 0 ≤ i then l[i.toNat]? else none
theorem Zv {α : Type} {l : List α} {i : Int} {v : α} (h : Xl l i = some v) : 0 ≤ i ∧ l[i.toNat]? = some v := by
 unfold Xl at h
 split at h
 ·exact ⟨by assumption, h⟩
 ·cases h
theorem getMap {α : Type} {l : List α} {i : Nat} {v : α} (f : α → List DC) (h : l[i]? = some v) : (l.map f)[i]? = some (f v) := by simp [h]
theorem Vm {α : Type} {t : TypeId} {e : TypeId} {x : Operand} {full : Bool} {esz : Nat} {xs : List α} {f : α → List DC} (ho : o.op = .call { callee := .builtin .len, args := #[x], argTypes := #[t] }) (hN : ∀ d, o.dst = some d → d < N) (ht : P.underlying t = some (.slice e))
  (hx : s.ev x = some (.sl full esz (xs.map f))) (k' : K (s.putO o.dst (.int .i64 xs.length))) : OpT P N o s K :=
 OpT.lenSl ho hN ht hx (by rw [Qfw]; exact k')
theorem OwnR.len {w : World} {M : Reg} {v : Value} {e : TypeId} {esz : Nat} {elems : List (List DC)} {r : Reg} (h : OwnR w M v e esz elems r) : ∃ a c, v = .slice a elems.length c := by
 cases h with
 | nil a => exact ⟨a, 0, rfl⟩
 | full _ _ _ _ h => cases h; exact ⟨_, _, rfl⟩
 | some g cap => exact ⟨_, cap, rfl⟩
theorem Hc {α : Type} {t : TypeId} {e e' : TypeId} {x : Operand} {v : Value} {i esz : Nat} {xs : List α} {f : α → List DC} (ho : o.op = .call { callee := .builtin .len, args := #[x], argTypes := #[t] }) (hN : ∀ d, o.dst = some d → d < N) (ht : P.underlying t = some (.slice e))
  (hx : s.ev x = some (.c (.ex v))) (hi : s.tab[i]? = some (.arrA v e' esz (xs.map f))) (k' : K (s.putO o.dst (.int .i64 xs.length))) : OpT P N o s K :=
 Zd _ hN (fun F L a w hr => by
  obtain ⟨r1, r2, h1, h2, hp⟩ := hr.heap.get hi
  cases h1 with
  | arrA _ _ _ _ _ h1 =>
   obtain ⟨ad, c, rfl⟩ := h1.len
   refine ⟨.int .i64 xs.length, ?_, .c _ _ (.ex _ rfl)⟩
   simp [execOp, ho, resolve, hr.exact hx, invoke, builtin, Builtin.len_, run_underlying ht, goInt]) k'
theorem Lh {α : Type} {t e : TypeId} {x i : Operand} {k : IntKind} {j : Int} {full : Bool} {esz : Nat} {xs : List α} {f : α → List DC} {v : α} {z : Value} {by_ : Nat} (ho : o.op = .indexAddr t x i) (hN : ∀ d, o.dst = some d → d < N) (ht : P.underlying t = some (.slice e))
  (hei : Zk P e z esz by_) (hx : s.ev x = some (.sl full esz (xs.map f))) (hi : s.ev i = some (.int k j)) (hd : Xl xs j = some v) (k' : K (s.putO o.dst (.ref (f v)))) : OpT P N o s K :=
 OpT.indexSl ho hN ht hei hx hi (Zv hd).1 (getMap f (Zv hd).2) k'
theorem V3 {t : TypeId} {x y : Operand} {b off i : Nat} {e : TypeId} {cells cells' : List OC} {d : DC} {z : Value} {by_ : Nat} (ho : o.op = .store t x y) (hdst : o.dst = none) (hei : Zk P t z 1 by_)
  (hx : s.ev x = some (.ptr b off)) (hy : s.ev y = some (.c d)) (hi : s.tab[i]? = some (.box b e cells)) (hl : off < cells.length) (hc : cells.take off ++ [OC.d d] ++ cells.drop (off + 1) = cells') (k : K { s with tab := s.tab.set i (.box b e cells') }) : OpT P N o s K := by
 subst hc; exact OpT.storeBox ho hdst hei hx hy hi hl k
theorem Qv {t : TypeId} {x y : Operand} {b off i : Nat} {e : TypeId} {cells cells' : List OC} {l : List DC} {z : Value} {sz by_ : Nat} (ho : o.op = .store t x y) (hdst : o.dst = none) (hei : Zk P t z sz by_)
  (hx : s.ev x = some (.ptr b off)) (hy : s.ev y = some (.agg l)) (hls : l.length = sz) (hi : s.tab[i]? = some (.box b e cells)) (hl : off + sz ≤ cells.length) (hc : cells.take off ++ l.map OC.d ++ cells.drop (off + l.length) = cells') (k : K { s with tab := s.tab.set i (.box b e cells') }) : OpT P N o s K := by
 subst hc; exact Qfl ho hdst hei hx hy hls hi hl k
theorem Zg {e : TypeId} {z : Value} {sz by_ : Nat} (ho : o.op = .alloc e) (hN : ∀ d, o.dst = some d → d < N) (hei : Zk P e z sz by_) (hz : z.cells.toList.all Value.oneCell' = true)
  (k : ∀ b, K (s.upd o.dst (.ptr b 0) (.box b e (z.cells.toList.map fun v => OC.d (.ex v)) :: s.tab))) : OpT P N o s K :=
 OpT.alloc ho hN hei (fun v hv => Qgr.1 hz v hv) k
def roomy (by_ n : Nat) : Bool := decide (n ≤ maxLen) && decide (n * by_ ≤ 140737488355328)
theorem Zl {by_ n : Nat} : roomy by_ n = true ↔ n ≤ maxLen ∧ n * by_ ≤ 140737488355328 := by simp [roomy]
theorem N4 {α : Type} {x y : Operand} {t e : TypeId} {z : Value} {esz by_ : Nat} {full : Bool} {xs ys : List α} {f : α → List DC} (ho : o.op = .call { callee := .builtin .append, args := #[x, y], argTypes := #[t, t] }) (hN : ∀ d, o.dst = some d → d < N)
  (ht : P.underlying t = some (.slice e)) (hei : Zk P e z esz by_) (hz : z.cells.size = esz) (hx : s.ev x = some (.sl true esz (xs.map f))) (hy : s.ev y = some (.sl full esz (ys.map f)))
  (hne : 0 < ys.length ∨ xs = []) (hroom : roomy by_ (xs.length + ys.length) = true)
  (k : ∀ v, K (s.upd o.dst (.c (.ex v)) (.arrA v e esz ((xs ++ ys).map f) :: s.tab))) : OpT P N o s K := by
 obtain ⟨h1, h2⟩ := Zl.1 hroom
 refine OpT.appendNew ho hN ht hei hz hx hy ?_ (by simpa using h1) (by simpa using h2) (fun v => by rw [← Qg5]; exact k v)
 rcases hne with h | h
 ·exact .inl (by simpa using h)
 ·exact .inr (by simp [h])
theorem Zj {α : Type} {x y : Operand} {t e : TypeId} {z : Value} {esz by_ : Nat} {full : Bool} {v : Value} {i : Nat} {xs ys : List α} {f : α → List DC} (ho : o.op = .call { callee := .builtin .append, args := #[x, y], argTypes := #[t, t] }) (hN : ∀ d, o.dst = some d → d < N)
  (ht : P.underlying t = some (.slice e)) (hei : Zk P e z esz by_) (hz : z.cells.size = esz) (hx : s.ev x = some (.c (.ex v))) (hi : s.tab[i]? = some (.arrA v e esz (xs.map f))) (hy : s.ev y = some (.sl full esz (ys.map f)))
  (hroom : roomy by_ (xs.length + ys.length) = true)
  (k : ∀ v', K (s.upd o.dst (.c (.ex v')) (s.tab.set i (.arrA v' e esz ((xs ++ ys).map f))))) : OpT P N o s K := by
 obtain ⟨h1, h2⟩ := Zl.1 hroom
 exact OpT.appendA ho hN ht hei hz hx hi hy (by simpa using h1) (by simpa using h2) (fun v => by rw [← Qg5]; exact k v)
end
theorem Qcn {P : Program} {t e : TypeId} {n : Nat} {z ze : Value} {sz by_ esz bye : Nat} (ht : P.underlying t = some (.array n e)) (hi : Zk P t z sz by_) (he : Zk P e ze esz bye) (q : List (Nat × Value)) : P.built t q = Instr.fill (fun i => some (i * esz, esz)) z.cells q := by
 obtain ⟨i, h1, h2, h3, h4⟩ := hi
 obtain ⟨i', h1', h2', h3', h4'⟩ := he
 simp [Program.built, h1, ht, h2, h1', h3']
theorem Zp {P : Program} {t : TypeId} {fs : Array Field} {z : Value} {sz by_ : Nat} {pl : List (Nat × Nat)} (ht : P.underlying t = some (.struct fs)) (hi : Zk P t z sz by_) (he : fs.toList.mapM (fun f => (P.info? f.type).map fun i => (f.offset, i.size)) = some pl) (q : List (Nat × Value)) : P.built t q = Instr.fill (pl.toArray[·]?) z.cells q := by
 obtain ⟨i, h1, h2, h3, h4⟩ := hi
 simp [Program.built, h1, ht, h2, he]
theorem Y2 {s : St} (e : TypeId) (esz : Nat) : Zx s ⟨s.slots, .arrA (.slice none 0 0) e esz [] :: s.tab⟩ := fun N F L a w hr =>
 ⟨L, ⟨hr.defers, hr.size, hr.slot, by have := X1.cons _ _ _ _ (ObR.arrA _ _ _ _ _ (OwnR.nil (w := w) (M := L ++ F) none e esz)) hr.heap; simpa using this, hr.nodup, hr.lt⟩, Ext.refl _ _⟩
theorem Rel.avr {w : World} {N : Nat} {F L : Reg} {s : St} {a : Act} {d : Nat} {x : AV} (hr : Rel w N F L s a) (hd : s.slots.lookup d = some x) : AvR w (L ++ F) (a.tmps.getD d undef) x := hr.slot d x hd
theorem Em {s : St} (d : Nat) (full : Bool) (esz : Nat) (hd : s.slots.lookup d = some (.c (.ex (.slice none 0 0)))) : Zx s ⟨(d, .sl full esz []) :: s.slots, s.tab⟩ :=
 Zx.slot d _ fun N F L a w hr => by
  have h := (hr.avr hd).exact.1
  rw [h]
  exact .c _ _ (.empty none)
theorem eraseIdx_perm {α : Type} : ∀ {t : List α} {i : Nat} {o : α}, t[i]? = some o → t.Perm (o :: t.eraseIdx i) := by
 intro t
 induction t with
 | nil => intro i o h; simp at h
 | cons x t ih =>
  intro i o h
  cases i with
  | zero => simp at h; subst h; exact .refl _
  | succ i =>
   simp only [List.getElem?_cons_succ] at h
   simp only [List.eraseIdx_cons_succ]
   exact ((ih h).cons x).trans (.swap _ _ _)
inductive Pick : List Ob → List Ob → Prop
 | nil (t) : Pick t []
 | cons (i : Nat) {t t' : List Ob} {o : Ob} (h : t[i]? = some o) (k : Pick (t.eraseIdx i) t') : Pick t (o :: t')
theorem Cg : ∀ {u : List Ob} {s : St} {t : List Ob}, s.tab = t ++ u → Zx s ⟨s.slots, t⟩ := by
 intro u
 induction u with
 | nil =>
  intro s t h
  rw [Qgg] at h
  subst h
  exact Zx.refl s
 | cons x u ih =>
  intro s t h
  refine (Zx.dropO (s := s) t.length).trans ?_
  have hh : s.tab.eraseIdx t.length = t ++ u := by
   rw [h, List.eraseIdx_append_of_length_le (Qf6 _)]
   simp
  rw [hh]
  exact ih (s := ⟨s.slots, t ++ u⟩) rfl
theorem Pick.perm : ∀ {t t' : List Ob}, Pick t t' → ∃ u, t.Perm (t' ++ u) := by
 intro t t' h
 induction h with
 | nil t => exact ⟨t, .refl _⟩
 | cons i h k ih =>
  obtain ⟨u, hu⟩ := ih
  exact ⟨u, (eraseIdx_perm h).trans (hu.cons _)⟩
theorem Zx.re {s s' : St} (hs : Sub s.slots s'.slots) (hp : Pick s.tab s'.tab) : Zx s s' := by
 obtain ⟨u, hu⟩ := hp.perm
 have h1 : Zx s ⟨s.slots, s'.tab ++ u⟩ := Zx.perm hu
 have h2 : Zx ⟨s.slots, s'.tab ++ u⟩ ⟨s.slots, s'.tab⟩ := Cg rfl
 exact (h1.trans h2).trans (Zx.sub hs)
structure X2 where
 a0 : Int
 a1 : Int
 deriving DecidableEq
structure Zh where
 a0 : Int
 a1 : Int
 a2 : Int
 a3 : Int
 deriving DecidableEq
def X2.get (a : X2) (i : Int) : Int := if i = 0 then a.a0 else a.a1
def Zh.get (a : Zh) (i : Int) : Int := if i = 0 then a.a0 else if i = 1 then a.a1 else if i = 2 then a.a2 else a.a3
def Zh.set (a : Zh) (i v : Int) : Zh := if i = 0 then { a with a0 := v } else if i = 1 then { a with a1 := v } else if i = 2 then { a with a2 := v } else { a with a3 := v }
def Zh.same (a b : Zh) : Bool := a.a0 == b.a0 && (a.a1 == b.a1 && (a.a2 == b.a2 && a.a3 == b.a3))
abbrev X2.dc (k : IntKind) (a : X2) : List DC := [.ex (.int k a.a0), .ex (.int k a.a1)]
abbrev Zh.dc (k : IntKind) (a : Zh) : List DC := [.ex (.int k a.a0), .ex (.int k a.a1), .ex (.int k a.a2), .ex (.int k a.a3)]
abbrev X2.oc (k : IntKind) (a : X2) : List OC := [.d (.ex (.int k a.a0)), .d (.ex (.int k a.a1))]
abbrev Zh.oc (k : IntKind) (a : Zh) : List OC := [.d (.ex (.int k a.a0)), .d (.ex (.int k a.a1)), .d (.ex (.int k a.a2)), .d (.ex (.int k a.a3))]
theorem four {j : Int} (h0 : 0 ≤ j) (h1 : j < 4) : j = 0 ∨ j = 1 ∨ j = 2 ∨ j = 3 := by omega
theorem two {j : Int} (h0 : 0 ≤ j) (h1 : j < 2) : j = 0 ∨ j = 1 := by omega
theorem F0 {k : IntKind} {a : X2} {pre post : List OC} {j : Int} (h0 : 0 ≤ j) (h1 : j < 2) : (pre ++ (a.oc k ++ post))[pre.length + j.toNat * 1]? = some (.d (.ex (.int k (a.get j)))) := by
 rw [List.getElem?_append_right (by omega)]
 rcases two h0 h1 with rfl | rfl <;> simp [X2.get]
theorem Qfs {k : IntKind} {a : Zh} {pre post : List OC} {j : Int} (h0 : 0 ≤ j) (h1 : j < 4) : (pre ++ (a.oc k ++ post))[pre.length + j.toNat * 1]? = some (.d (.ex (.int k (a.get j)))) := by
 rw [List.getElem?_append_right (by omega)]
 rcases four h0 h1 with rfl | rfl | rfl | rfl <;> simp [Zh.get]
theorem Qfr {k : IntKind} {a : Zh} {pre post : List OC} {j v : Int} (h0 : 0 ≤ j) (h1 : j < 4) :
  (pre ++ (a.oc k ++ post)).take (pre.length + j.toNat * 1) ++ [OC.d (.ex (.int k v))] ++ (pre ++ (a.oc k ++ post)).drop (pre.length + j.toNat * 1 + 1) = pre ++ ((a.set j v).oc k ++ post) := by
 rw [Qh5, Qi2, Qi3]
 rcases four h0 h1 with rfl | rfl | rfl | rfl <;> simp [Zh.set]
theorem Zh.oc_lt {k : IntKind} {a : Zh} {pre post : List OC} {j : Int} (h0 : 0 ≤ j) (h1 : j < 4) : pre.length + j.toNat * 1 < (pre ++ (a.oc k ++ post)).length := by
 simp; omega
section
variable {P : Program} {N : Nat} {s : St} {o : Oper} {K : St → Prop}
theorem V8.ints {w : World} {M : Reg} {vs : Array Value} {l : List DC} (h : V8 w M vs.toList l) (zs : List Value) (hl : l = zs.map DC.ex) : vs.toList = zs := by
 subst hl
 obtain ⟨h1, h2⟩ := h
 apply List.ext_getElem?
 intro i
 by_cases hi : i < zs.length
 ·have hi' : i < vs.toList.length := by rw [h1]; simpa using hi
  have := (h2 i _ (.ex zs[i]) (List.getElem?_eq_getElem hi') (by simp [hi])).exact.1
  rw [List.getElem?_eq_getElem hi', this, List.getElem?_eq_getElem hi]
 ·rw [List.getElem?_eq_none (by rw [h1]; simpa using hi), List.getElem?_eq_none (by omega)]
theorem Qd7 {w : World} {e : TypeId} {k k' : IntKind} {d c : Nat} (he : P.underlying e = some (.int k')) (hc : c = 1) : ∀ (is : List Nat) (xs ys : List Int) (n : Nat), is = List.range' n (xs.length - n) → xs.length = ys.length → n ≤ xs.length →
  (Op.eqItems (d + 1) e c (xs.map (Value.int k)).toArray (ys.map (Value.int k)).toArray is).run P w = .ok ((xs.drop n) == (ys.drop n)) w := by
 subst hc
 intro is
 induction is with
 | nil =>
  intro xs ys n hi hl hn
  have hz : xs.length - n = 0 := by
   have := congrArg List.length hi; simpa using this.symm
  have h1 : xs.drop n = [] := by simp; omega
  have h2 : ys.drop n = [] := by simp; omega
  simp [Op.eqItems, h1, h2]
 | cons i is ih =>
  intro xs ys n hi hl hn
  have hlt : n < xs.length := by
   rcases Qi1 n xs.length with h | h
   ·exact h
   ·rw [show xs.length - n = 0 by omega] at hi; simp at hi
  rw [show xs.length - n = (xs.length - (n + 1)) + 1 by omega, List.range'_succ] at hi
  simp only [Qim] at hi
  obtain ⟨rfl, his⟩ := hi
  have hlt' : i < ys.length := by omega
  have e1 : xs.drop i = xs[i] :: xs.drop (i + 1) := Qf2 hlt
  have e2 : ys.drop i = ys[i] :: ys.drop (i + 1) := Qf2 hlt'
  have p1 : (part e (xs.map (Value.int k)).toArray (i * 1)).run P w = .ok (.int k xs[i]) w := by simp [part, H8 he, TypeDesc.flat, hlt]
  have p2 : (part e (ys.map (Value.int k)).toArray (i * 1)).run P w = .ok (.int k ys[i]) w := by simp [part, H8 he, TypeDesc.flat, hlt']
  simp only [Op.eqItems, Sem.run_bind, p1, p2, Result.andThen_ok, run_equalIn_int w d e k k' _ _ he]
  rw [e1, e2, List.cons_beq_cons]
  by_cases hx : xs[i] = ys[i]
  ·simp only [hx, Qg3, Qg7, Qjg, if_false]
   rw [ih xs ys (i + 1) his hl hlt, Qgs]
  ·have : (xs[i] == ys[i]) = false := by simp [hx]
   simp only [this, Qg2, if_true, Sem.run_pure, Qik]
theorem T9 {w : World} {t e : TypeId} {n : Nat} {k k' : IntKind} {z : Value} {by_ : Nat} (ht : P.underlying t = some (.array n e)) (he : P.underlying e = some (.int k')) (hei : Zk P e z 1 by_) (xs ys : List Int) (hx : xs.length = n) (hy : ys.length = n) :
  (Op.equal t (.agg (xs.map (Value.int k)).toArray) (.agg (ys.map (Value.int k)).toArray)).run P w = .ok (xs == ys) w := by
 obtain ⟨i, h1, h2, h3, h4⟩ := hei
 have hcell : P.cellsOf e = 1 := by simp [Program.cellsOf, h1, h3]
 have := run_equalIn_array (P := P) w 9999 (xs.map (Value.int k)).toArray (ys.map (Value.int k)).toArray ht h1
 unfold Op.equal Op.maxDepth
 rw [this, Qd7 (P := P) (d := 9998) he hcell _ xs ys 0 (by simp [hx, List.range_eq_range']) (by omega) (by omega)]
 simp
theorem OpT.intsEql {t t' e : TypeId} {x y : Operand} {k k' : IntKind} {n by_ : Nat} {z : Value} {xs ys : List Int} {l l' : List DC} {r : Bool} (ho : o.op = .binOp .eql t x y t') (hN : ∀ d, o.dst = some d → d < N) (ht : P.underlying t = some (.array n e)) (he : P.underlying e = some (.int k')) (hei : Zk P e z 1 by_)
  (hg : P.eqGuardType P.depth t = false) (hx : s.ev x = some (.agg l)) (hy : s.ev y = some (.agg l')) (hl : l = (xs.map (Value.int k)).map DC.ex) (hl' : l' = (ys.map (Value.int k)).map DC.ex) (hxn : xs.length = n) (hyn : ys.length = n) (hr : (xs == ys) = r) (k' : K (s.putO o.dst (.bool r))) : OpT P N o s K :=
 Zd _ hN (fun F L a' w hrel => by
  have h1 := hrel.ev hx
  have h2 := hrel.ev hy
  generalize hq1 : a'.eval x = q1 at h1
  generalize hq2 : a'.eval y = q2 at h2
  cases h1 with
  | agg vs _ h1 =>
   cases h2 with
   | agg us _ h2 =>
    have e1 : vs = (xs.map (Value.int k)).toArray := by rw [← h1.ints _ hl]
    have e2 : us = (ys.map (Value.int k)).toArray := by rw [← h2.ints _ hl']
    subst e1; subst e2; subst hr
    refine ⟨.bool (xs == ys), ?_, .c _ _ (.ex _ rfl)⟩
    have hb : ∀ u v, binOp .eql t (.agg u) (.agg v) = (do pure (.bool (← Op.equal t (.agg u) (.agg v)))) := fun _ _ => rfl
    simp only [execOp, ho, hq1, hq2, Sem.run_bind, run_eqGuard_agg _ _ _ _ _ _ _ hg, Result.andThen_ok, hb, T9 ht he hei xs ys hxn hyn]
    rfl) k'
theorem OpT.intsNeq {t t' e : TypeId} {x y : Operand} {k k' : IntKind} {n by_ : Nat} {z : Value} {xs ys : List Int} {l l' : List DC} {r : Bool} (ho : o.op = .binOp .neq t x y t') (hN : ∀ d, o.dst = some d → d < N) (ht : P.underlying t = some (.array n e)) (he : P.underlying e = some (.int k')) (hei : Zk P e z 1 by_)
  (hg : P.eqGuardType P.depth t = false) (hx : s.ev x = some (.agg l)) (hy : s.ev y = some (.agg l')) (hl : l = (xs.map (Value.int k)).map DC.ex) (hl' : l' = (ys.map (Value.int k)).map DC.ex) (hxn : xs.length = n) (hyn : ys.length = n) (hr : (xs == ys) = r) (k' : K (s.putO o.dst (.bool (!r)))) : OpT P N o s K :=
 Zd _ hN (fun F L a' w hrel => by
  have h1 := hrel.ev hx
  have h2 := hrel.ev hy
  generalize hq1 : a'.eval x = q1 at h1
  generalize hq2 : a'.eval y = q2 at h2
  cases h1 with
  | agg vs _ h1 =>
   cases h2 with
   | agg us _ h2 =>
    have e1 : vs = (xs.map (Value.int k)).toArray := by rw [← h1.ints _ hl]
    have e2 : us = (ys.map (Value.int k)).toArray := by rw [← h2.ints _ hl']
    subst e1; subst e2; subst hr
    refine ⟨.bool (!(xs == ys)), ?_, .c _ _ (.ex _ rfl)⟩
    have hb : ∀ u v, binOp .neq t (.agg u) (.agg v) = (do pure (.bool (!(← Op.equal t (.agg u) (.agg v))))) := fun _ _ => rfl
    simp only [execOp, ho, hq1, hq2, Sem.run_bind, run_eqGuard_agg _ _ _ _ _ _ _ hg, Result.andThen_ok, hb, T9 ht he hei xs ys hxn hyn]
    rfl) k'
theorem Qdy (a b : Zh) : ([a.a0, a.a1, a.a2, a.a3] == [b.a0, b.a1, b.a2, b.a3]) = a.same b := by simp [Zh.same]
end
theorem Jl {s : St} : s.parts [] = some [] := rfl
theorem Y1 {s : St} {i : Nat} {x : Operand} {l : List (Nat × Operand)} {v : AV} {c : List DC} {ls : List (Nat × List DC)} (h : s.ev x = some v) (hc : v.cells = some c) (k : s.parts l = some ls) : s.parts ((i, x) :: l) = some ((i, c) :: ls) := by simp [St.parts, h, hc, k]
end Go.Rv
