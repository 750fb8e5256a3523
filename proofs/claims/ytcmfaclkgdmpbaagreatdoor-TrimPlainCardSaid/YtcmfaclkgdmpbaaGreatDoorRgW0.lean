/- Each function computes what its plain text says: printed by a program of ours. -/
import Derived.Test.YtcmfaclkgdmpbaaGreatDoorRgP
import Derived.Test.YtcmfaclkgdmpbaaGreatDoorProg
import Derived.KernelRfl
namespace Go.Rv
open Go.Proofs
set_option maxRecDepth 100000
set_option maxHeartbeats 4000000
set_option linter.unusedVariables false
abbrev wI (x : Int) : Int := IntKind.i64.wrap x
abbrev u0 : (Nat → Value) × Nat := (fun _ => undef, 0)

noncomputable abbrev tp := Tryz.prog
abbrev ES := Exit → St → Prop
abbrev ca (l : List Nat) (f : Func) := Code.at l (codeOf f)
abbrev fT (n : Nat) (l : List Nat) (f : Func) (q : ES) : ES := thenS (fun s' => T tp n (ca l f) s' q) q
abbrev fL (n : Nat) (l : List Nat) (f : Func) (q : ES) : ES := thenS (fun s' => TL tp n (ca l f) s' q) q
abbrev mI (l : List Int) := l.map (cI .i64)
abbrev mU (l : List Int) := l.map (cI .u8)
abbrev mA (l : List X2) := l.map (X2.dc .i64)
section
variable {P : Program} {N : Nat} {s : St} {Q : Exit → St → Prop} {ops : Array Oper}
theorem pf {o : Oper} {l : List Oper} {j g d : Nat} {x b : Bool} (e : (o.guard, (ops[j]?).bind (·.dst), s.slots.lookup g, o.dst, Nat.blt d N) = (some (j, x), some g, some (.c (.ex (.bool b))), some d, true)) (hb : b = !x) (h : TL' P N ops l (s.putO o.dst (.tup [])) Q) : TL' P N ops (o :: l) s Q := by
 simp only [Qf4] at e
 exact TL'.pU (.off _ _ _ _ e.1 e.2.1 e.2.2.1 hb) (dl e.2.2.2.1 e.2.2.2.2) h
theorem sn {o : Oper} {l : List Oper} {j g : Nat} {b x : Bool} (e : (o.guard, (ops[j]?).bind (·.dst), s.slots.lookup g) = (some (j, x), some g, some (.c (.ex (.bool b))))) (hb : b = x) (h : OpT P N o s (fun s' => TL' P N ops l s' Q)) : TL' P N ops (o :: l) s Q := by
 simp only [Qf4] at e
 exact TL'.step (.on e.1 e.2.1 e.2.2 hb) h
theorem sf {a b : List (Nat × AV)} (h : (b.map fun p => a.lookup p.1) = b.map fun p => some p.2) : Sub a b := by
 intro t v ht
 have key : ∀ b : List (Nat × AV), ((b.map fun p => a.lookup p.1) = b.map fun p => some p.2) → b.lookup t = some v → a.lookup t = some v := by
  intro b
  induction b with
  | nil => intro _ h; simp at h
  | cons p b ih =>
   intro h hl
   simp only [Qge, Qim] at h
   obtain ⟨q, u⟩ := p
   rw [Qhb] at hl
   split at hl
   · rename_i he
     simp only [Qhe] at he
     subst he
     rw [h.1, hl]
   · exact ih h.2 hl
 exact key b h ht
theorem tr {s s' : St} (h : (s'.slots.map fun p => s.slots.lookup p.1) = s'.slots.map fun p => some p.2) (hp : Pk s.tab s'.tab) : Zx s s' := Zx.rp (sf h) hp
theorem pt {t r : List Ob} (h : t.take r.length = r) : Pk t r := by
 induction r generalizing t with
 | nil => exact .n _
 | cons o r ih =>
  cases t with
  | nil => simp at h
  | cons p t =>
   simp only [Qgc, List.take_succ_cons, Qim] at h
   obtain ⟨rfl, h⟩ := h
   exact .c .z (ih h)
theorem tq {s s' : St} (h : (s'.slots.map fun p => s.slots.lookup p.1) = s'.slots.map fun p => some p.2) (hp : s.tab.take s'.tab.length = s'.tab) : Zx s s' := Zx.rp (sf h) (pt hp)
theorem oF {i : Nat} {o : Oper} {K : St → Prop} (ho : ops[i]? = some o) (hg : o.guard = none) (h : OpT P N o s K) : One P N ops i s K := One.step ho (.free hg) h
theorem oN {i j g : Nat} {o : Oper} {K : St → Prop} {b x : Bool} (ho : ops[i]? = some o) (hg : o.guard = some (j, x)) (hj : (ops[j]?).bind (·.dst) = some g) (hs : s.slots.lookup g = some (.c (.ex (.bool b)))) (hb : b = x) (h : OpT P N o s K) : One P N ops i s K := One.step ho (.on hg hj hs hb) h
theorem dS {id i : Nat} {t : St} {pre : List Ct} {c : Ct} (hok : Ct.ok P N ops i c) (h1 : c.need.map (fun p => t.slots.lookup p.1) = c.need.map (fun p => some p.2)) (h2 : c.objs.map (fun p => t.tab[p.1]?) = c.objs.map (fun p => some p.2)) (h : DG P N ops id Q s (i + 1) (c :: pre) (c.go t)) : DG P N ops id Q s i pre t := DG.step hok (Zr h1 h2) h
theorem dC {id i : Nat} {t : (Nat → Gh) → St} {pre : (Nat → Gh) → List Ct} {Ds : List (List Nat)} {c : Ct} (hok : ∀ u, c.met u → One P N ops i u (fun u' => ∃ _ : Gh, u' = c.go u)) (h1 : ∀ γ, c.need.map (fun p => (t γ).slots.lookup p.1) = c.need.map (fun p => some p.2)) (h2 : ∀ γ, c.objs.map (fun p => (t γ).tab[p.1]?) = c.objs.map (fun p => some p.2)) (h : DGG P N ops id Q s (i + 1) (fun γ => c :: pre γ) ([] :: Ds) (fun γ => c.go (t γ))) : DGG P N ops id Q s i pre Ds t := DGG.step (c := fun _ => c) [] (fun _ _ _ => rfl) (fun _ => hok) (fun γ => Zr (h1 γ) (h2 γ)) h
theorem dO {id i j d g : Nat} {t : St} {pre : List Ct} {o : Oper} {x b : Bool} (hb : b = !x) (ho : ops[i]? = some o) (e : (o.guard, (ops[j]?).bind (·.dst), o.dst, Nat.blt d N, t.slots.lookup g) = (some (j, x), some g, some d, true, some (.c (.ex (.bool b)))))
    (h : DG P N ops id Q s (i + 1) (⟨some d, .tup [], [(g, .c (.ex (.bool b)))], [], []⟩ :: pre) (Ct.go ⟨some d, .tup [], [(g, .c (.ex (.bool b)))], [], []⟩ t)) : DG P N ops id Q s i pre t := by
 simp only [Qf4] at e
 exact DG.off hb ho e.1 e.2.1 e.2.2.1 e.2.2.2.1 e.2.2.2.2 h
end
section
variable {P : Program} {N : Nat} {s : St} {Q : Exit → St → Prop} {ops : Array Oper} {o : Oper} {l : List Oper}
theorem zn {α : Type} {r : α} {C : Prop} (h : (none : Option α) = some r) : C := by cases h
theorem oI {op : BinOp} {t t' : TypeId} {x y : Operand} {k : IntKind} {a b : Int} {d : Nat} (e : (o.guard, o.op, Tn op, o.dst, Nat.blt d N, s.ev x, s.ev y) = (none, .binOp op t x y t', true, some d, true, some (.int k a), some (.int k b))) (h : TL' P N ops l (s.putO o.dst (.c (.ex (arith op k a b)))) Q) : TL' P N ops (o :: l) s Q := by
 simp only [Qf4] at e
 exact sp e.1 (Z9 e.2.1 e.2.2.1 (dl e.2.2.2.1 e.2.2.2.2.1) e.2.2.2.2.2.1 e.2.2.2.2.2.2 h)
theorem oP {t ty : TypeId} {fs : Array Field} {f : Field} {x : Operand} {i b off sz by_ d : Nat} {z : Value} (ht : P.underlying t = some (.struct fs)) (hei : Zk P ty z sz by_) (e : (o.guard, o.op, fs[i]?, f.type, sz == 0, o.dst, Nat.blt d N, s.ev x) = (none, .fieldAddr t x i, some f, ty, false, some d, true, some (.ptr b off))) (h : TL' P N ops l (s.putO o.dst (.ptr b (off + f.offset))) Q) : TL' P N ops (o :: l) s Q := by
 simp only [Qf4] at e
 obtain ⟨e1, e2, e3, rfl, e5, e6, e7, e8⟩ := e
 exact sp e1 (Ur e2 (dl e6 e7) ht e3 hei (by simpa using e5) e8 h)
theorem oL (i : Nat) {t : TypeId} {dt : TypeDesc} {x : Operand} {b off ty d : Nat} {cells : List OC} {v : DC} (ht : P.underlying t = some dt) (e : (o.guard, o.op, TypeDesc.flat dt, o.dst, Nat.blt d N, s.ev x, s.tab[i]?, cells[off]?) = (none, .load t x, true, some d, true, some (.ptr b off), some (.box b ty cells), some (.d v))) (h : TL' P N ops l (s.putO o.dst (.c v)) Q) : TL' P N ops (o :: l) s Q := by
 simp only [Qf4] at e
 exact sp e.1 (Yr e.2.1 (dl e.2.2.2.1 e.2.2.2.2.1) ht e.2.2.1 e.2.2.2.2.2.1 e.2.2.2.2.2.2.1 e.2.2.2.2.2.2.2 h)
theorem oR {t : TypeId} {dt : TypeDesc} {x : Operand} {d : Nat} {m : List DC} {v : DC} (ht : P.underlying t = some dt) (e : (o.guard, o.op, TypeDesc.flat dt, o.dst, Nat.blt d N, s.ev x, m[0]?) = (none, .load t x, true, some d, true, some (.ref m), some v)) (h : TL' P N ops l (s.putO o.dst (.c v)) Q) : TL' P N ops (o :: l) s Q := by
 simp only [Qf4] at e
 exact sp e.1 (K7 e.2.1 (dl e.2.2.2.1 e.2.2.2.2.1) ht e.2.2.1 e.2.2.2.2.2.1 e.2.2.2.2.2.2 h)
theorem oU {α : Type} (xs : List α) (f : α → List DC) {t e : TypeId} {x : Operand} {full : Bool} {esz d : Nat} (ht : P.underlying t = some (.slice e)) (e : (o.guard, o.op, o.dst, Nat.blt d N, s.ev x) = (none, .call { callee := .builtin .len, args := #[x], argTypes := #[t] }, some d, true, some (.sl full esz (xs.map f)))) (h : TL' P N ops l (s.putO o.dst (.int .i64 xs.length)) Q) : TL' P N ops (o :: l) s Q := by
 simp only [Qf4] at e
 exact sp e.1 (Vm e.2.1 (dl e.2.2.1 e.2.2.2.1) ht e.2.2.2.2 h)
theorem oK {x : Operand} {v : Value} {d : Nat} (e : (o.guard, o.op, o.dst, Nat.blt d N, s.ev x, nilOk v) = (none, .nilCheck x, some d, true, some (.c (.ex v)), true)) (h : TL' P N ops l (s.putO o.dst (.c (.ex v))) Q) : TL' P N ops (o :: l) s Q := by
 simp only [Qf4] at e
 exact sp e.1 (OpT.nilCheck e.2.1 (dl e.2.2.1 e.2.2.2.1) e.2.2.2.2.1 e.2.2.2.2.2 h)
theorem oT {t : TypeId} {x : Operand} {a : Bool} {d : Nat} (e : (o.guard, o.op, o.dst, Nat.blt d N, s.ev x) = (none, .unOp .not t x, some d, true, some (.bool a))) (h : TL' P N ops l (s.putO o.dst (.bool (!a))) Q) : TL' P N ops (o :: l) s Q := by
 simp only [Qf4] at e
 exact sp e.1 (OpT.not e.2.1 (dl e.2.2.1 e.2.2.2.1) e.2.2.2.2 h)
theorem oE {x : Operand} {i d : Nat} {m : List AV} {v : AV} (e : (o.guard, o.op, o.dst, Nat.blt d N, s.ev x, m[i]?) = (none, .extract x i, some d, true, some (.tup m), some v)) (h : TL' P N ops l (s.putO o.dst v) Q) : TL' P N ops (o :: l) s Q := by
 simp only [Qf4] at e
 exact sp e.1 (OpT.extract e.2.1 (dl e.2.2.1 e.2.2.2.1) e.2.2.2.2.1 e.2.2.2.2.2 h)
theorem oY {c x y : Operand} {b : Bool} {v : AV} {d : Nat} (hb : b = true) (e : (o.guard, o.op, o.dst, Nat.blt d N, s.ev c, s.ev x) = (none, .pick c x y, some d, true, some (.bool b), some v)) (h : TL' P N ops l (s.putO o.dst v) Q) : TL' P N ops (o :: l) s Q := by
 simp only [Qf4] at e
 exact sp e.1 (Qcv e.2.1 (dl e.2.2.1 e.2.2.2.1) e.2.2.2.2.1 hb e.2.2.2.2.2 h)
theorem oZ {c x y : Operand} {b : Bool} {v : AV} {d : Nat} (hb : b = false) (e : (o.guard, o.op, o.dst, Nat.blt d N, s.ev c, s.ev y) = (none, .pick c x y, some d, true, some (.bool b), some v)) (h : TL' P N ops l (s.putO o.dst v) Q) : TL' P N ops (o :: l) s Q := by
 simp only [Qf4] at e
 exact sp e.1 (Qcw e.2.1 (dl e.2.2.1 e.2.2.2.1) e.2.2.2.2.1 hb e.2.2.2.2.2 h)
theorem oA (i : Nat) (m : List DC) {t : TypeId} {dt : TypeDesc} {x : Operand} {b off ty d sz by_ : Nat} {cells : List OC} {z : Value} (ht : P.underlying t = some dt) (hei : Zk P t z sz by_) (e : (o.guard, o.op, TypeDesc.flat dt, o.dst, Nat.blt d N, s.ev x, s.tab[i]?, m.length, (cells.drop off).take sz) = (none, .load t x, false, some d, true, some (.ptr b off), some (.box b ty cells), sz, m.map OC.d)) (h : TL' P N ops l (s.putO o.dst (.agg m)) Q) : TL' P N ops (o :: l) s Q := by
 simp only [Qf4] at e
 exact sp e.1 (Fx e.2.1 (dl e.2.2.2.1 e.2.2.2.2.1) ht e.2.2.1 hei e.2.2.2.2.2.1 e.2.2.2.2.2.2.1 e.2.2.2.2.2.2.2.1 e.2.2.2.2.2.2.2.2 h)
theorem oX {α : Type} (xs : List α) (f : α → List DC) {v : α} {t e : TypeId} {x i : Operand} {k : IntKind} {j : Int} {full : Bool} {esz by_ d : Nat} {z : Value} (ht : P.underlying t = some (.slice e)) (hei : Zk P e z esz by_) (hd : Xl xs j = some v) (e : (o.guard, o.op, o.dst, Nat.blt d N, s.ev x, s.ev i) = (none, .indexAddr t x i, some d, true, some (.sl full esz (xs.map f)), some (.int k j))) (h : TL' P N ops l (s.putO o.dst (.ref (f v))) Q) : TL' P N ops (o :: l) s Q := by
 simp only [Qf4] at e
 exact sp e.1 (Lh e.2.1 (dl e.2.2.1 e.2.2.2.1) ht hei e.2.2.2.2.1 e.2.2.2.2.2 hd h)
theorem fd {fn : Func} {R : AV → List Ob → Prop} {t : Nat} {v : AV} (e : (fn.results.toList, s.slots.lookup t) = ([.tmp t], some v)) (hR : R (tupAV [v]) []) : Fin P fn R s := by
 simp only [Qf4] at e
 exact Fin.done (by rw [e.1]; exact .cons _ _ _ _ (.tmp t _ e.2) .nil) hR
inductive Gd (ops : Array Oper) (t : St) (o : Oper) : List (Nat × AV) → Prop
 | f (h : o.guard = none) : Gd ops t o []
 | n {j g : Nat} {x b : Bool} (hb : b = x) (e : (o.guard, (ops[j]?).bind (·.dst), t.slots.lookup g) = (some (j, x), some g, some (.c (.ex (.bool b))))) : Gd ops t o [(g, .c (.ex (.bool b)))]
theorem Gd.wanted {t u : St} {gn : List (Nat × AV)} (G : Gd ops t o gn) (h : ∀ p ∈ gn, u.slots.lookup p.1 = some p.2) : Ft ops u o true := by
 cases G with
 | f h' => exact .free h'
 | n hb e =>
  simp only [Qf4] at e
  exact .on e.1 e.2.1 (h _ (.head _)) hb
theorem Gd.at {t : St} {gn : List (Nat × AV)} (G : Gd ops t o gn) : ∀ p ∈ gn, t.slots.lookup p.1 = some p.2 := by
 cases G with
 | f _ => intro p hp; cases hp
 | n _ e =>
  intro p hp
  simp only [Qf4] at e
  rcases Qf3.1 hp with rfl
  exact e.2.2
abbrev nd (x : Operand) (v : AV) (r : List (Nat × AV)) : List (Nat × AV) := match x with
 | .tmp a => (a, v) :: r
 | _ => r
theorem H0 {t : St} {x : Operand} {v : AV} {r : List (Nat × AV)} (hx : t.ev x = some v) (hr : ∀ p ∈ r, t.slots.lookup p.1 = some p.2) : ∀ p ∈ nd x v r, t.slots.lookup p.1 = some p.2 := by
 intro p hp
 cases x with
 | tmp a =>
  rcases Qg1.1 hp with rfl | hp
  · exact hx
  · exact hr p hp
 | const c => exact hr p hp
 | global g => exact hr p hp
 | func g => exact hr p hp
theorem Hz {t u : St} {x : Operand} {v : AV} {r : List (Nat × AV)} (hx : t.ev x = some v) (h : ∀ p ∈ nd x v r, u.slots.lookup p.1 = some p.2) : u.ev x = some v ∧ ∀ p ∈ r, u.slots.lookup p.1 = some p.2 := by
 cases x with
 | tmp a => exact ⟨h _ (.head _), fun p hp => h p (.tail _ hp)⟩
 | const c => exact ⟨hx, h⟩
 | global g => exact ⟨hx, h⟩
 | func g => exact ⟨hx, h⟩
theorem dgen {id i d : Nat} {t : St} {pre : List Ct} {v : AV} {n gn : List (Nat × AV)} {ob : List (Nat × Ob)} (ho : ops[i]? = some o) (G : Gd ops t o gn) (hd : o.dst = some d) (h1 : ∀ p ∈ n, t.slots.lookup p.1 = some p.2) (h2 : ∀ p ∈ ob, t.tab[p.1]? = some p.2)
  (rule : ∀ u : St, (∀ p ∈ n, u.slots.lookup p.1 = some p.2) → (∀ p ∈ ob, u.tab[p.1]? = some p.2) → (∀ p ∈ gn, u.slots.lookup p.1 = some p.2) ∧ ∀ K : St → Prop, K (u.putO o.dst v) → OpT P N o u K)
  (h : DG P N ops id Q s (i + 1) (⟨some d, v, n, ob, []⟩ :: pre) (Ct.go ⟨some d, v, n, ob, []⟩ t)) : DG P N ops id Q s i pre t :=
 DG.step (c := ⟨some d, v, n, ob, []⟩) (fun u hm => by
  obtain ⟨g, r⟩ := rule u hm.slots hm.objs
  exact One.step ho (G.wanted g) (r _ (by rw [hd]; rfl))) ⟨h1, h2⟩ h
theorem ggen {id i d : Nat} {t : (Nat → Gh) → St} {pre : (Nat → Gh) → List Ct} {Ds : List (List Nat)} {v : AV} {n gn : List (Nat × AV)} {ob : List (Nat × Ob)} (ho : ops[i]? = some o) (G : ∀ γ, Gd ops (t γ) o gn) (hd : o.dst = some d) (h1 : ∀ γ, ∀ p ∈ n, (t γ).slots.lookup p.1 = some p.2) (h2 : ∀ γ, ∀ p ∈ ob, (t γ).tab[p.1]? = some p.2)
  (rule : ∀ u : St, (∀ p ∈ n, u.slots.lookup p.1 = some p.2) → (∀ p ∈ ob, u.tab[p.1]? = some p.2) → (∀ p ∈ gn, u.slots.lookup p.1 = some p.2) ∧ ∀ K : St → Prop, K (u.putO o.dst v) → OpT P N o u K)
  (h : DGG P N ops id Q s (i + 1) (fun γ => ⟨some d, v, n, ob, []⟩ :: pre γ) ([] :: Ds) (fun γ => Ct.go ⟨some d, v, n, ob, []⟩ (t γ))) : DGG P N ops id Q s i pre Ds t :=
 DGG.step (c := fun _ => ⟨some d, v, n, ob, []⟩) [] (fun _ _ _ => rfl) (fun γ u hm => by
  obtain ⟨g, r⟩ := rule u hm.slots hm.objs
  exact One.step ho ((G γ).wanted g) (r _ ⟨(fun _ => undef, 0), by rw [hd]; rfl⟩)) (fun γ => ⟨h1 γ, h2 γ⟩) h
theorem dI {op : BinOp} {t1 t2 : TypeId} {x y : Operand} {k : IntKind} {a b : Int} {id i d : Nat} {t : St} {pre : List Ct} {gn : List (Nat × AV)} (ho : ops[i]? = some o) (G : Gd ops t o gn)  (e : (o.op, Tn op, o.dst, Nat.blt d N, t.ev x, t.ev y) = (.binOp op t1 x y t2, true, some d, true, some (.int k a), some (.int k b))) (h : DG P N ops id Q s (i + 1) (⟨some d, .c (.ex (arith op k a b)), nd x (.int k a) (nd y (.int k b) (gn)), [], []⟩ :: pre) (Ct.go ⟨some d, .c (.ex (arith op k a b)), nd x (.int k a) (nd y (.int k b) (gn)), [], []⟩ t)) : DG P N ops id Q s i pre t := by
 simp only [Qf4] at e
 obtain ⟨eo, e0, ed, eb, qx, qy⟩ := e
 have eN := dl ed eb
 exact dgen ho G ed (H0 qx (H0 qy (G.at))) (fun p hp => by cases hp) (fun u hn hb => by
  obtain ⟨ux, hn⟩ := Hz qx hn
  obtain ⟨uy, hn⟩ := Hz qy hn
  exact ⟨hn, fun K k => Z9 eo e0 eN ux uy k⟩) h
theorem gI {op : BinOp} {t1 t2 : TypeId} {x y : Operand} {k : IntKind} {a b : Int} {id i d : Nat} {t : (Nat → Gh) → St} {pre : (Nat → Gh) → List Ct} {Ds : List (List Nat)} {gn : List (Nat × AV)} (ho : ops[i]? = some o) (G : ∀ γ, Gd ops (t γ) o gn)  (e : ∀ γ, (o.op, Tn op, o.dst, Nat.blt d N, (t γ).ev x, (t γ).ev y) = (.binOp op t1 x y t2, true, some d, true, some (.int k a), some (.int k b))) (h : DGG P N ops id Q s (i + 1) (fun γ => ⟨some d, .c (.ex (arith op k a b)), nd x (.int k a) (nd y (.int k b) (gn)), [], []⟩ :: pre γ) ([] :: Ds) (fun γ => Ct.go ⟨some d, .c (.ex (arith op k a b)), nd x (.int k a) (nd y (.int k b) (gn)), [], []⟩ (t γ))) : DGG P N ops id Q s i pre Ds t := by
 have e2 := e (fun _ => (fun _ => undef, 0))
 simp only [Qf4] at e e2
 obtain ⟨eo, e0, ed, eb, qx, qy⟩ := e2
 have eN := dl ed eb
 exact ggen ho G ed (fun γ => by obtain ⟨eo, e0, ed, eb, qx, qy⟩ := e γ; exact H0 qx (H0 qy ((G γ).at))) (fun γ => by obtain ⟨eo, e0, ed, eb, qx, qy⟩ := e γ; exact fun p hp => by cases hp) (fun u hn hb => by
  obtain ⟨ux, hn⟩ := Hz qx hn
  obtain ⟨uy, hn⟩ := Hz qy hn
  exact ⟨hn, fun K k => Z9 eo e0 eN ux uy k⟩) h
theorem dM {x : Operand} {v : AV} {id i d : Nat} {t : St} {pre : List Ct} {gn : List (Nat × AV)} (ho : ops[i]? = some o) (G : Gd ops t o gn)  (e : (o.op, o.dst, Nat.blt d N, t.ev x) = (.move x, some d, true, some (v))) (h : DG P N ops id Q s (i + 1) (⟨some d, v, nd x (v) (gn), [], []⟩ :: pre) (Ct.go ⟨some d, v, nd x (v) (gn), [], []⟩ t)) : DG P N ops id Q s i pre t := by
 simp only [Qf4] at e
 obtain ⟨eo, ed, eb, qx⟩ := e
 have eN := dl ed eb
 exact dgen ho G ed (H0 qx (G.at)) (fun p hp => by cases hp) (fun u hn hb => by
  obtain ⟨ux, hn⟩ := Hz qx hn
  exact ⟨hn, fun K k => OpT.move eo eN ux k⟩) h
theorem gM {x : Operand} {v : AV} {id i d : Nat} {t : (Nat → Gh) → St} {pre : (Nat → Gh) → List Ct} {Ds : List (List Nat)} {gn : List (Nat × AV)} (ho : ops[i]? = some o) (G : ∀ γ, Gd ops (t γ) o gn)  (e : ∀ γ, (o.op, o.dst, Nat.blt d N, (t γ).ev x) = (.move x, some d, true, some (v))) (h : DGG P N ops id Q s (i + 1) (fun γ => ⟨some d, v, nd x (v) (gn), [], []⟩ :: pre γ) ([] :: Ds) (fun γ => Ct.go ⟨some d, v, nd x (v) (gn), [], []⟩ (t γ))) : DGG P N ops id Q s i pre Ds t := by
 have e2 := e (fun _ => (fun _ => undef, 0))
 simp only [Qf4] at e e2
 obtain ⟨eo, ed, eb, qx⟩ := e2
 have eN := dl ed eb
 exact ggen ho G ed (fun γ => by obtain ⟨eo, ed, eb, qx⟩ := e γ; exact H0 qx ((G γ).at)) (fun γ => by obtain ⟨eo, ed, eb, qx⟩ := e γ; exact fun p hp => by cases hp) (fun u hn hb => by
  obtain ⟨ux, hn⟩ := Hz qx hn
  exact ⟨hn, fun K k => OpT.move eo eN ux k⟩) h
theorem dP {t1 ty : TypeId} {fs : Array Field} {f : Field} {x : Operand} {ix b off sz by_ : Nat} {z : Value} {id i d : Nat} {t : St} {pre : List Ct} {gn : List (Nat × AV)} (ho : ops[i]? = some o) (G : Gd ops t o gn) (ht : P.underlying t1 = some (.struct fs)) (hei : Zk P ty z sz by_) (e : (o.op, fs[ix]?, f.type, sz == 0, o.dst, Nat.blt d N, t.ev x) = (.fieldAddr t1 x ix, some f, ty, false, some d, true, some (.ptr b off))) (h : DG P N ops id Q s (i + 1) (⟨some d, .ptr b (off + f.offset), nd x (.ptr b off) (gn), [], []⟩ :: pre) (Ct.go ⟨some d, .ptr b (off + f.offset), nd x (.ptr b off) (gn), [], []⟩ t)) : DG P N ops id Q s i pre t := by
 simp only [Qf4] at e
 obtain ⟨eo, e0, rfl, e1, ed, eb, qx⟩ := e
 have eN := dl ed eb
 exact dgen ho G ed (H0 qx (G.at)) (fun p hp => by cases hp) (fun u hn hb => by
  obtain ⟨ux, hn⟩ := Hz qx hn
  exact ⟨hn, fun K k => Ur eo eN ht e0 hei (by simpa using e1) ux k⟩) h
theorem gP {t1 ty : TypeId} {fs : Array Field} {f : Field} {x : Operand} {ix b off sz by_ : Nat} {z : Value} {id i d : Nat} {t : (Nat → Gh) → St} {pre : (Nat → Gh) → List Ct} {Ds : List (List Nat)} {gn : List (Nat × AV)} (ho : ops[i]? = some o) (G : ∀ γ, Gd ops (t γ) o gn) (ht : P.underlying t1 = some (.struct fs)) (hei : Zk P ty z sz by_) (e : ∀ γ, (o.op, fs[ix]?, f.type, sz == 0, o.dst, Nat.blt d N, (t γ).ev x) = (.fieldAddr t1 x ix, some f, ty, false, some d, true, some (.ptr b off))) (h : DGG P N ops id Q s (i + 1) (fun γ => ⟨some d, .ptr b (off + f.offset), nd x (.ptr b off) (gn), [], []⟩ :: pre γ) ([] :: Ds) (fun γ => Ct.go ⟨some d, .ptr b (off + f.offset), nd x (.ptr b off) (gn), [], []⟩ (t γ))) : DGG P N ops id Q s i pre Ds t := by
 have e2 := e (fun _ => (fun _ => undef, 0))
 simp only [Qf4] at e e2
 obtain ⟨eo, e0, rfl, e1, ed, eb, qx⟩ := e2
 have eN := dl ed eb
 exact ggen ho G ed (fun γ => by obtain ⟨eo, e0, _, e1, ed, eb, qx⟩ := e γ; exact H0 qx ((G γ).at)) (fun γ => by obtain ⟨eo, e0, _, e1, ed, eb, qx⟩ := e γ; exact fun p hp => by cases hp) (fun u hn hb => by
  obtain ⟨ux, hn⟩ := Hz qx hn
  exact ⟨hn, fun K k => Ur eo eN ht e0 hei (by simpa using e1) ux k⟩) h
theorem dL (q : Nat) {t1 : TypeId} {dt : TypeDesc} {x : Operand} {b off ty : Nat} {cells : List OC} {v : DC} {id i d : Nat} {t : St} {pre : List Ct} {gn : List (Nat × AV)} (ho : ops[i]? = some o) (G : Gd ops t o gn) (ht : P.underlying t1 = some dt) (e : (o.op, TypeDesc.flat dt, o.dst, Nat.blt d N, t.ev x, t.tab[q]?, cells[off]?) = (.load t1 x, true, some d, true, some (.ptr b off), some (.box b ty cells), some (.d v))) (h : DG P N ops id Q s (i + 1) (⟨some d, .c v, nd x (.ptr b off) (gn), [(q, .box b ty cells)], []⟩ :: pre) (Ct.go ⟨some d, .c v, nd x (.ptr b off) (gn), [(q, .box b ty cells)], []⟩ t)) : DG P N ops id Q s i pre t := by
 simp only [Qf4] at e
 obtain ⟨eo, e0, ed, eb, qx, eb0, ec0⟩ := e
 have eN := dl ed eb
 exact dgen ho G ed (H0 qx (G.at)) (fun p hp => by rcases Qf3.1 hp with rfl; exact eb0) (fun u hn hb => by
  obtain ⟨ux, hn⟩ := Hz qx hn
  exact ⟨hn, fun K k => Yr eo eN ht e0 ux (hb _ (.head _)) ec0 k⟩) h
theorem gL (q : Nat) {t1 : TypeId} {dt : TypeDesc} {x : Operand} {b off ty : Nat} {cells : List OC} {v : DC} {id i d : Nat} {t : (Nat → Gh) → St} {pre : (Nat → Gh) → List Ct} {Ds : List (List Nat)} {gn : List (Nat × AV)} (ho : ops[i]? = some o) (G : ∀ γ, Gd ops (t γ) o gn) (ht : P.underlying t1 = some dt) (e : ∀ γ, (o.op, TypeDesc.flat dt, o.dst, Nat.blt d N, (t γ).ev x, (t γ).tab[q]?, cells[off]?) = (.load t1 x, true, some d, true, some (.ptr b off), some (.box b ty cells), some (.d v))) (h : DGG P N ops id Q s (i + 1) (fun γ => ⟨some d, .c v, nd x (.ptr b off) (gn), [(q, .box b ty cells)], []⟩ :: pre γ) ([] :: Ds) (fun γ => Ct.go ⟨some d, .c v, nd x (.ptr b off) (gn), [(q, .box b ty cells)], []⟩ (t γ))) : DGG P N ops id Q s i pre Ds t := by
 have e2 := e (fun _ => (fun _ => undef, 0))
 simp only [Qf4] at e e2
 obtain ⟨eo, e0, ed, eb, qx, eb0, ec0⟩ := e2
 have eN := dl ed eb
 exact ggen ho G ed (fun γ => by obtain ⟨eo, e0, ed, eb, qx, eb0, ec0⟩ := e γ; exact H0 qx ((G γ).at)) (fun γ => by obtain ⟨eo, e0, ed, eb, qx, eb0, ec0⟩ := e γ; exact fun p hp => by rcases Qf3.1 hp with rfl; exact eb0) (fun u hn hb => by
  obtain ⟨ux, hn⟩ := Hz qx hn
  exact ⟨hn, fun K k => Yr eo eN ht e0 ux (hb _ (.head _)) ec0 k⟩) h
theorem dW (q : Nat) (m : List DC) {t1 : TypeId} {dt : TypeDesc} {x : Operand} {b off ty sz by_ : Nat} {cells : List OC} {z : Value} {id i d : Nat} {t : St} {pre : List Ct} {gn : List (Nat × AV)} (ho : ops[i]? = some o) (G : Gd ops t o gn) (ht : P.underlying t1 = some dt) (hei : Zk P t1 z sz by_) (e : (o.op, TypeDesc.flat dt, o.dst, Nat.blt d N, t.ev x, t.tab[q]?, m.length, (cells.drop off).take sz) = (.load t1 x, false, some d, true, some (.ptr b off), some (.box b ty cells), sz, m.map OC.d)) (h : DG P N ops id Q s (i + 1) (⟨some d, .agg m, nd x (.ptr b off) (gn), [(q, .box b ty cells)], []⟩ :: pre) (Ct.go ⟨some d, .agg m, nd x (.ptr b off) (gn), [(q, .box b ty cells)], []⟩ t)) : DG P N ops id Q s i pre t := by
 simp only [Qf4] at e
 obtain ⟨eo, e0, ed, eb, qx, eb0, ec0, ec1⟩ := e
 have eN := dl ed eb
 exact dgen ho G ed (H0 qx (G.at)) (fun p hp => by rcases Qf3.1 hp with rfl; exact eb0) (fun u hn hb => by
  obtain ⟨ux, hn⟩ := Hz qx hn
  exact ⟨hn, fun K k => Fx eo eN ht e0 hei ux (hb _ (.head _)) ec0 ec1 k⟩) h
theorem gW (q : Nat) (m : List DC) {t1 : TypeId} {dt : TypeDesc} {x : Operand} {b off ty sz by_ : Nat} {cells : List OC} {z : Value} {id i d : Nat} {t : (Nat → Gh) → St} {pre : (Nat → Gh) → List Ct} {Ds : List (List Nat)} {gn : List (Nat × AV)} (ho : ops[i]? = some o) (G : ∀ γ, Gd ops (t γ) o gn) (ht : P.underlying t1 = some dt) (hei : Zk P t1 z sz by_) (e : ∀ γ, (o.op, TypeDesc.flat dt, o.dst, Nat.blt d N, (t γ).ev x, (t γ).tab[q]?, m.length, (cells.drop off).take sz) = (.load t1 x, false, some d, true, some (.ptr b off), some (.box b ty cells), sz, m.map OC.d)) (h : DGG P N ops id Q s (i + 1) (fun γ => ⟨some d, .agg m, nd x (.ptr b off) (gn), [(q, .box b ty cells)], []⟩ :: pre γ) ([] :: Ds) (fun γ => Ct.go ⟨some d, .agg m, nd x (.ptr b off) (gn), [(q, .box b ty cells)], []⟩ (t γ))) : DGG P N ops id Q s i pre Ds t := by
 have e2 := e (fun _ => (fun _ => undef, 0))
 simp only [Qf4] at e e2
 obtain ⟨eo, e0, ed, eb, qx, eb0, ec0, ec1⟩ := e2
 have eN := dl ed eb
 exact ggen ho G ed (fun γ => by obtain ⟨eo, e0, ed, eb, qx, eb0, ec0, ec1⟩ := e γ; exact H0 qx ((G γ).at)) (fun γ => by obtain ⟨eo, e0, ed, eb, qx, eb0, ec0, ec1⟩ := e γ; exact fun p hp => by rcases Qf3.1 hp with rfl; exact eb0) (fun u hn hb => by
  obtain ⟨ux, hn⟩ := Hz qx hn
  exact ⟨hn, fun K k => Fx eo eN ht e0 hei ux (hb _ (.head _)) ec0 ec1 k⟩) h
theorem dR {t1 : TypeId} {dt : TypeDesc} {x : Operand} {m : List DC} {v : DC} {id i d : Nat} {t : St} {pre : List Ct} {gn : List (Nat × AV)} (ho : ops[i]? = some o) (G : Gd ops t o gn) (ht : P.underlying t1 = some dt) (e : (o.op, TypeDesc.flat dt, o.dst, Nat.blt d N, t.ev x, m[0]?) = (.load t1 x, true, some d, true, some (.ref m), some v)) (h : DG P N ops id Q s (i + 1) (⟨some d, .c v, nd x (.ref m) (gn), [], []⟩ :: pre) (Ct.go ⟨some d, .c v, nd x (.ref m) (gn), [], []⟩ t)) : DG P N ops id Q s i pre t := by
 simp only [Qf4] at e
 obtain ⟨eo, e0, ed, eb, qx, ez0⟩ := e
 have eN := dl ed eb
 exact dgen ho G ed (H0 qx (G.at)) (fun p hp => by cases hp) (fun u hn hb => by
  obtain ⟨ux, hn⟩ := Hz qx hn
  exact ⟨hn, fun K k => K7 eo eN ht e0 ux ez0 k⟩) h
theorem gR {t1 : TypeId} {dt : TypeDesc} {x : Operand} {m : List DC} {v : DC} {id i d : Nat} {t : (Nat → Gh) → St} {pre : (Nat → Gh) → List Ct} {Ds : List (List Nat)} {gn : List (Nat × AV)} (ho : ops[i]? = some o) (G : ∀ γ, Gd ops (t γ) o gn) (ht : P.underlying t1 = some dt) (e : ∀ γ, (o.op, TypeDesc.flat dt, o.dst, Nat.blt d N, (t γ).ev x, m[0]?) = (.load t1 x, true, some d, true, some (.ref m), some v)) (h : DGG P N ops id Q s (i + 1) (fun γ => ⟨some d, .c v, nd x (.ref m) (gn), [], []⟩ :: pre γ) ([] :: Ds) (fun γ => Ct.go ⟨some d, .c v, nd x (.ref m) (gn), [], []⟩ (t γ))) : DGG P N ops id Q s i pre Ds t := by
 have e2 := e (fun _ => (fun _ => undef, 0))
 simp only [Qf4] at e e2
 obtain ⟨eo, e0, ed, eb, qx, ez0⟩ := e2
 have eN := dl ed eb
 exact ggen ho G ed (fun γ => by obtain ⟨eo, e0, ed, eb, qx, ez0⟩ := e γ; exact H0 qx ((G γ).at)) (fun γ => by obtain ⟨eo, e0, ed, eb, qx, ez0⟩ := e γ; exact fun p hp => by cases hp) (fun u hn hb => by
  obtain ⟨ux, hn⟩ := Hz qx hn
  exact ⟨hn, fun K k => K7 eo eN ht e0 ux ez0 k⟩) h
theorem dQ {t1 ty : TypeId} {fs : Array Field} {f : Field} {x : Operand} {ix sz by_ : Nat} {m : List DC} {z : Value} {id i d : Nat} {t : St} {pre : List Ct} {gn : List (Nat × AV)} (ho : ops[i]? = some o) (G : Gd ops t o gn) (ht : P.underlying t1 = some (.struct fs)) (hei : Zk P ty z sz by_) (e : (o.op, fs[ix]?, f.type, sz == 0, o.dst, Nat.blt d N, t.ev x) = (.fieldAddr t1 x ix, some f, ty, false, some d, true, some (.ref m))) (h : DG P N ops id Q s (i + 1) (⟨some d, .ref (m.drop f.offset), nd x (.ref m) (gn), [], []⟩ :: pre) (Ct.go ⟨some d, .ref (m.drop f.offset), nd x (.ref m) (gn), [], []⟩ t)) : DG P N ops id Q s i pre t := by
 simp only [Qf4] at e
 obtain ⟨eo, e0, rfl, e1, ed, eb, qx⟩ := e
 have eN := dl ed eb
 exact dgen ho G ed (H0 qx (G.at)) (fun p hp => by cases hp) (fun u hn hb => by
  obtain ⟨ux, hn⟩ := Hz qx hn
  exact ⟨hn, fun K k => Wa eo eN ht e0 hei (by simpa using e1) ux k⟩) h
theorem gQ {t1 ty : TypeId} {fs : Array Field} {f : Field} {x : Operand} {ix sz by_ : Nat} {m : List DC} {z : Value} {id i d : Nat} {t : (Nat → Gh) → St} {pre : (Nat → Gh) → List Ct} {Ds : List (List Nat)} {gn : List (Nat × AV)} (ho : ops[i]? = some o) (G : ∀ γ, Gd ops (t γ) o gn) (ht : P.underlying t1 = some (.struct fs)) (hei : Zk P ty z sz by_) (e : ∀ γ, (o.op, fs[ix]?, f.type, sz == 0, o.dst, Nat.blt d N, (t γ).ev x) = (.fieldAddr t1 x ix, some f, ty, false, some d, true, some (.ref m))) (h : DGG P N ops id Q s (i + 1) (fun γ => ⟨some d, .ref (m.drop f.offset), nd x (.ref m) (gn), [], []⟩ :: pre γ) ([] :: Ds) (fun γ => Ct.go ⟨some d, .ref (m.drop f.offset), nd x (.ref m) (gn), [], []⟩ (t γ))) : DGG P N ops id Q s i pre Ds t := by
 have e2 := e (fun _ => (fun _ => undef, 0))
 simp only [Qf4] at e e2
 obtain ⟨eo, e0, rfl, e1, ed, eb, qx⟩ := e2
 have eN := dl ed eb
 exact ggen ho G ed (fun γ => by obtain ⟨eo, e0, _, e1, ed, eb, qx⟩ := e γ; exact H0 qx ((G γ).at)) (fun γ => by obtain ⟨eo, e0, _, e1, ed, eb, qx⟩ := e γ; exact fun p hp => by cases hp) (fun u hn hb => by
  obtain ⟨ux, hn⟩ := Hz qx hn
  exact ⟨hn, fun K k => Wa eo eN ht e0 hei (by simpa using e1) ux k⟩) h
theorem dX {α : Type} (xs : List α) (f : α → List DC) {v : α} {t1 ty : TypeId} {x y : Operand} {kk : IntKind} {j : Int} {full : Bool} {esz by_ : Nat} {z : Value} {id i d : Nat} {t : St} {pre : List Ct} {gn : List (Nat × AV)} (ho : ops[i]? = some o) (G : Gd ops t o gn) (ht : P.underlying t1 = some (.slice ty)) (hei : Zk P ty z esz by_) (hg : Xl xs j = some v) (e : (o.op, o.dst, Nat.blt d N, t.ev x, t.ev y) = (.indexAddr t1 x y, some d, true, some (.sl full esz (xs.map f)), some (.int kk j))) (h : DG P N ops id Q s (i + 1) (⟨some d, .ref (f v), nd x (.sl full esz (xs.map f)) (nd y (.int kk j) (gn)), [], []⟩ :: pre) (Ct.go ⟨some d, .ref (f v), nd x (.sl full esz (xs.map f)) (nd y (.int kk j) (gn)), [], []⟩ t)) : DG P N ops id Q s i pre t := by
 simp only [Qf4] at e
 obtain ⟨eo, ed, eb, qx, qy⟩ := e
 have eN := dl ed eb
 exact dgen ho G ed (H0 qx (H0 qy (G.at))) (fun p hp => by cases hp) (fun u hn hb => by
  obtain ⟨ux, hn⟩ := Hz qx hn
  obtain ⟨uy, hn⟩ := Hz qy hn
  exact ⟨hn, fun K k => Lh eo eN ht hei ux uy hg k⟩) h
theorem gX {α : Type} (xs : List α) (f : α → List DC) {v : α} {t1 ty : TypeId} {x y : Operand} {kk : IntKind} {j : Int} {full : Bool} {esz by_ : Nat} {z : Value} {id i d : Nat} {t : (Nat → Gh) → St} {pre : (Nat → Gh) → List Ct} {Ds : List (List Nat)} {gn : List (Nat × AV)} (ho : ops[i]? = some o) (G : ∀ γ, Gd ops (t γ) o gn) (ht : P.underlying t1 = some (.slice ty)) (hei : Zk P ty z esz by_) (hg : Xl xs j = some v) (e : ∀ γ, (o.op, o.dst, Nat.blt d N, (t γ).ev x, (t γ).ev y) = (.indexAddr t1 x y, some d, true, some (.sl full esz (xs.map f)), some (.int kk j))) (h : DGG P N ops id Q s (i + 1) (fun γ => ⟨some d, .ref (f v), nd x (.sl full esz (xs.map f)) (nd y (.int kk j) (gn)), [], []⟩ :: pre γ) ([] :: Ds) (fun γ => Ct.go ⟨some d, .ref (f v), nd x (.sl full esz (xs.map f)) (nd y (.int kk j) (gn)), [], []⟩ (t γ))) : DGG P N ops id Q s i pre Ds t := by
 have e2 := e (fun _ => (fun _ => undef, 0))
 simp only [Qf4] at e e2
 obtain ⟨eo, ed, eb, qx, qy⟩ := e2
 have eN := dl ed eb
 exact ggen ho G ed (fun γ => by obtain ⟨eo, ed, eb, qx, qy⟩ := e γ; exact H0 qx (H0 qy ((G γ).at))) (fun γ => by obtain ⟨eo, ed, eb, qx, qy⟩ := e γ; exact fun p hp => by cases hp) (fun u hn hb => by
  obtain ⟨ux, hn⟩ := Hz qx hn
  obtain ⟨uy, hn⟩ := Hz qy hn
  exact ⟨hn, fun K k => Lh eo eN ht hei ux uy hg k⟩) h
theorem dN {α : Type} (xs : List α) (f : α → List DC) {t1 ty : TypeId} {x : Operand} {full : Bool} {esz : Nat} {id i d : Nat} {t : St} {pre : List Ct} {gn : List (Nat × AV)} (ho : ops[i]? = some o) (G : Gd ops t o gn) (ht : P.underlying t1 = some (.slice ty)) (e : (o.op, o.dst, Nat.blt d N, t.ev x) = (.call { callee := .builtin .len, args := #[x], argTypes := #[t1] }, some d, true, some (.sl full esz (xs.map f)))) (h : DG P N ops id Q s (i + 1) (⟨some d, .int .i64 xs.length, nd x (.sl full esz (xs.map f)) (gn), [], []⟩ :: pre) (Ct.go ⟨some d, .int .i64 xs.length, nd x (.sl full esz (xs.map f)) (gn), [], []⟩ t)) : DG P N ops id Q s i pre t := by
 simp only [Qf4] at e
 obtain ⟨eo, ed, eb, qx⟩ := e
 have eN := dl ed eb
 exact dgen ho G ed (H0 qx (G.at)) (fun p hp => by cases hp) (fun u hn hb => by
  obtain ⟨ux, hn⟩ := Hz qx hn
  exact ⟨hn, fun K k => Vm eo eN ht ux k⟩) h
theorem gN {α : Type} (xs : List α) (f : α → List DC) {t1 ty : TypeId} {x : Operand} {full : Bool} {esz : Nat} {id i d : Nat} {t : (Nat → Gh) → St} {pre : (Nat → Gh) → List Ct} {Ds : List (List Nat)} {gn : List (Nat × AV)} (ho : ops[i]? = some o) (G : ∀ γ, Gd ops (t γ) o gn) (ht : P.underlying t1 = some (.slice ty)) (e : ∀ γ, (o.op, o.dst, Nat.blt d N, (t γ).ev x) = (.call { callee := .builtin .len, args := #[x], argTypes := #[t1] }, some d, true, some (.sl full esz (xs.map f)))) (h : DGG P N ops id Q s (i + 1) (fun γ => ⟨some d, .int .i64 xs.length, nd x (.sl full esz (xs.map f)) (gn), [], []⟩ :: pre γ) ([] :: Ds) (fun γ => Ct.go ⟨some d, .int .i64 xs.length, nd x (.sl full esz (xs.map f)) (gn), [], []⟩ (t γ))) : DGG P N ops id Q s i pre Ds t := by
 have e2 := e (fun _ => (fun _ => undef, 0))
 simp only [Qf4] at e e2
 obtain ⟨eo, ed, eb, qx⟩ := e2
 have eN := dl ed eb
 exact ggen ho G ed (fun γ => by obtain ⟨eo, ed, eb, qx⟩ := e γ; exact H0 qx ((G γ).at)) (fun γ => by obtain ⟨eo, ed, eb, qx⟩ := e γ; exact fun p hp => by cases hp) (fun u hn hb => by
  obtain ⟨ux, hn⟩ := Hz qx hn
  exact ⟨hn, fun K k => Vm eo eN ht ux k⟩) h
theorem dK {x : Operand} {v : Value} {id i d : Nat} {t : St} {pre : List Ct} {gn : List (Nat × AV)} (ho : ops[i]? = some o) (G : Gd ops t o gn)  (e : (o.op, o.dst, Nat.blt d N, t.ev x, nilOk v) = (.nilCheck x, some d, true, some (.c (.ex v)), true)) (h : DG P N ops id Q s (i + 1) (⟨some d, .c (.ex v), nd x (.c (.ex v)) (gn), [], []⟩ :: pre) (Ct.go ⟨some d, .c (.ex v), nd x (.c (.ex v)) (gn), [], []⟩ t)) : DG P N ops id Q s i pre t := by
 simp only [Qf4] at e
 obtain ⟨eo, ed, eb, qx, ez0⟩ := e
 have eN := dl ed eb
 exact dgen ho G ed (H0 qx (G.at)) (fun p hp => by cases hp) (fun u hn hb => by
  obtain ⟨ux, hn⟩ := Hz qx hn
  exact ⟨hn, fun K k => OpT.nilCheck eo eN ux ez0 k⟩) h
theorem gK {x : Operand} {v : Value} {id i d : Nat} {t : (Nat → Gh) → St} {pre : (Nat → Gh) → List Ct} {Ds : List (List Nat)} {gn : List (Nat × AV)} (ho : ops[i]? = some o) (G : ∀ γ, Gd ops (t γ) o gn)  (e : ∀ γ, (o.op, o.dst, Nat.blt d N, (t γ).ev x, nilOk v) = (.nilCheck x, some d, true, some (.c (.ex v)), true)) (h : DGG P N ops id Q s (i + 1) (fun γ => ⟨some d, .c (.ex v), nd x (.c (.ex v)) (gn), [], []⟩ :: pre γ) ([] :: Ds) (fun γ => Ct.go ⟨some d, .c (.ex v), nd x (.c (.ex v)) (gn), [], []⟩ (t γ))) : DGG P N ops id Q s i pre Ds t := by
 have e2 := e (fun _ => (fun _ => undef, 0))
 simp only [Qf4] at e e2
 obtain ⟨eo, ed, eb, qx, ez0⟩ := e2
 have eN := dl ed eb
 exact ggen ho G ed (fun γ => by obtain ⟨eo, ed, eb, qx, ez0⟩ := e γ; exact H0 qx ((G γ).at)) (fun γ => by obtain ⟨eo, ed, eb, qx, ez0⟩ := e γ; exact fun p hp => by cases hp) (fun u hn hb => by
  obtain ⟨ux, hn⟩ := Hz qx hn
  exact ⟨hn, fun K k => OpT.nilCheck eo eN ux ez0 k⟩) h
theorem dY {c x y : Operand} {b : Bool} {v : AV} {id i d : Nat} {t : St} {pre : List Ct} {gn : List (Nat × AV)} (ho : ops[i]? = some o) (G : Gd ops t o gn) (hp : b = true) (e : (o.op, o.dst, Nat.blt d N, t.ev c, t.ev x) = (.pick c x y, some d, true, some (.bool b), some (v))) (h : DG P N ops id Q s (i + 1) (⟨some d, v, nd c (.bool b) (nd x (v) (gn)), [], []⟩ :: pre) (Ct.go ⟨some d, v, nd c (.bool b) (nd x (v) (gn)), [], []⟩ t)) : DG P N ops id Q s i pre t := by
 simp only [Qf4] at e
 obtain ⟨eo, ed, eb, qc, qx⟩ := e
 have eN := dl ed eb
 exact dgen ho G ed (H0 qc (H0 qx (G.at))) (fun p hp => by cases hp) (fun u hn hb => by
  obtain ⟨uc, hn⟩ := Hz qc hn
  obtain ⟨ux, hn⟩ := Hz qx hn
  exact ⟨hn, fun K k => Qcv eo eN uc hp ux k⟩) h
theorem gY {c x y : Operand} {b : Bool} {v : AV} {id i d : Nat} {t : (Nat → Gh) → St} {pre : (Nat → Gh) → List Ct} {Ds : List (List Nat)} {gn : List (Nat × AV)} (ho : ops[i]? = some o) (G : ∀ γ, Gd ops (t γ) o gn) (hp : b = true) (e : ∀ γ, (o.op, o.dst, Nat.blt d N, (t γ).ev c, (t γ).ev x) = (.pick c x y, some d, true, some (.bool b), some (v))) (h : DGG P N ops id Q s (i + 1) (fun γ => ⟨some d, v, nd c (.bool b) (nd x (v) (gn)), [], []⟩ :: pre γ) ([] :: Ds) (fun γ => Ct.go ⟨some d, v, nd c (.bool b) (nd x (v) (gn)), [], []⟩ (t γ))) : DGG P N ops id Q s i pre Ds t := by
 have e2 := e (fun _ => (fun _ => undef, 0))
 simp only [Qf4] at e e2
 obtain ⟨eo, ed, eb, qc, qx⟩ := e2
 have eN := dl ed eb
 exact ggen ho G ed (fun γ => by obtain ⟨eo, ed, eb, qc, qx⟩ := e γ; exact H0 qc (H0 qx ((G γ).at))) (fun γ => by obtain ⟨eo, ed, eb, qc, qx⟩ := e γ; exact fun p hp => by cases hp) (fun u hn hb => by
  obtain ⟨uc, hn⟩ := Hz qc hn
  obtain ⟨ux, hn⟩ := Hz qx hn
  exact ⟨hn, fun K k => Qcv eo eN uc hp ux k⟩) h
theorem dZ {c x y : Operand} {b : Bool} {v : AV} {id i d : Nat} {t : St} {pre : List Ct} {gn : List (Nat × AV)} (ho : ops[i]? = some o) (G : Gd ops t o gn) (hp : b = false) (e : (o.op, o.dst, Nat.blt d N, t.ev c, t.ev y) = (.pick c x y, some d, true, some (.bool b), some (v))) (h : DG P N ops id Q s (i + 1) (⟨some d, v, nd c (.bool b) (nd y (v) (gn)), [], []⟩ :: pre) (Ct.go ⟨some d, v, nd c (.bool b) (nd y (v) (gn)), [], []⟩ t)) : DG P N ops id Q s i pre t := by
 simp only [Qf4] at e
 obtain ⟨eo, ed, eb, qc, qy⟩ := e
 have eN := dl ed eb
 exact dgen ho G ed (H0 qc (H0 qy (G.at))) (fun p hp => by cases hp) (fun u hn hb => by
  obtain ⟨uc, hn⟩ := Hz qc hn
  obtain ⟨uy, hn⟩ := Hz qy hn
  exact ⟨hn, fun K k => Qcw eo eN uc hp uy k⟩) h
theorem gZ {c x y : Operand} {b : Bool} {v : AV} {id i d : Nat} {t : (Nat → Gh) → St} {pre : (Nat → Gh) → List Ct} {Ds : List (List Nat)} {gn : List (Nat × AV)} (ho : ops[i]? = some o) (G : ∀ γ, Gd ops (t γ) o gn) (hp : b = false) (e : ∀ γ, (o.op, o.dst, Nat.blt d N, (t γ).ev c, (t γ).ev y) = (.pick c x y, some d, true, some (.bool b), some (v))) (h : DGG P N ops id Q s (i + 1) (fun γ => ⟨some d, v, nd c (.bool b) (nd y (v) (gn)), [], []⟩ :: pre γ) ([] :: Ds) (fun γ => Ct.go ⟨some d, v, nd c (.bool b) (nd y (v) (gn)), [], []⟩ (t γ))) : DGG P N ops id Q s i pre Ds t := by
 have e2 := e (fun _ => (fun _ => undef, 0))
 simp only [Qf4] at e e2
 obtain ⟨eo, ed, eb, qc, qy⟩ := e2
 have eN := dl ed eb
 exact ggen ho G ed (fun γ => by obtain ⟨eo, ed, eb, qc, qy⟩ := e γ; exact H0 qc (H0 qy ((G γ).at))) (fun γ => by obtain ⟨eo, ed, eb, qc, qy⟩ := e γ; exact fun p hp => by cases hp) (fun u hn hb => by
  obtain ⟨uc, hn⟩ := Hz qc hn
  obtain ⟨uy, hn⟩ := Hz qy hn
  exact ⟨hn, fun K k => Qcw eo eN uc hp uy k⟩) h
theorem dF {id i : Nat} {t : St} {pre : List Ct} (ms : List Nat) (hmix : P.follows .mixedOrders = true) (hlen : i = ops.size) (hk : (Ta ops && (Pq ops ms && Px ms pre.reverse)) = true) (hq : ∀ u, Zx u t → Q .normal u) : DG P N ops id Q s i pre t := by
 simp only [Qgv] at hk
 exact DG.fin hmix hlen hk.1 hk.2.1 hk.2.2 (fun _ _ h => h) rfl hq
theorem gF {id i : Nat} {t : (Nat → Gh) → St} {pre : (Nat → Gh) → List Ct} {Ds : List (List Nat)} (ms : List Nat) (hmix : P.follows .mixedOrders = true) (hlen : i = ops.size) (hk : (Ta ops && (Pq ops ms && depsOk ms Ds.reverse)) = true) (ha : ∀ γ, Px ms (pre γ).reverse = true) (hq : ∀ γ u, Zx u (t γ) → Q .normal u) : DGG P N ops id Q s i pre Ds t := by
 simp only [Qgv] at hk
 exact DGG.fin hmix hlen hk.1 hk.2.1 hk.2.2 ha (fun _ _ _ h => h) (fun _ => rfl) hq
theorem dG {id i j d g : Nat} {t : St} {pre : List Ct} {x : Bool} (ho : ops[i]? = some o) (e : (o.guard, (ops[j]?).bind (·.dst), o.dst, Nat.blt d N, t.slots.lookup g) = (some (j, x), some g, some d, true, some (.tup []))) (h : DG P N ops id Q s (i + 1) (⟨some d, .tup [], [(g, .tup [])], [], []⟩ :: pre) (Ct.go ⟨some d, .tup [], [(g, .tup [])], [], []⟩ t)) : DG P N ops id Q s i pre t := by
 simp only [Qf4] at e
 exact DG.gone ho e.1 e.2.1 e.2.2.1 e.2.2.2.1 e.2.2.2.2 h
theorem dV {id i d a : Nat} {t : St} {pre : List Ct} {v : AV} (ho : ops[i]? = some o) (e : (o.guard, o.op, o.dst, Nat.blt d N, t.slots.lookup a) = (none, .move (.tmp a), some d, true, some v)) (h : DG P N ops id Q s (i + 1) (⟨some d, v, [(a, v)], [], []⟩ :: pre) (Ct.go ⟨some d, v, [(a, v)], [], []⟩ t)) : DG P N ops id Q s i pre t := by
 simp only [Qf4] at e
 exact DG.mv ho e.1 e.2.1 e.2.2.1 e.2.2.2.1 e.2.2.2.2 h
theorem CI {f : FuncId} {fn : Func} {avs : List AV} {tab : List Ob} {R : AV → List Ob → Prop} (n : Nat) (hf : P.funcs[f]? = some fn) (e : (fn.body.isSome, Nat.ble avs.length fn.ntmps, fn.ntmps) = (true, true, n)) (h : T P n (Code.at [] (codeOf fn)) ⟨Cb 0 avs, tab⟩ (Jz P fn R)) : Qek P f avs tab R := by
 simp only [Qf4] at e
 obtain ⟨e1, e2, rfl⟩ := e
 obtain ⟨c, hc⟩ := Option.isSome_iff_exists.1 e1
 refine Qek.intro hf hc (Qif e2) ?_
 have : Code.at [] (codeOf fn) = c := by rw [codeOf, hc]; rfl
 rw [this] at h
 exact h
theorem nL (h : Q .normal s) : TL' P N ops [] s Q := TL'.nil h
theorem sR {c : Code} {id : Nat} {d : Bool} {Q' : Exit → St → Prop} (h : T P N (.region id ops d) s (thenS (fun s' => T P N c s' Q') Q')) : T P N (.seq (.region id ops d) c) s Q' := T.seq h
theorem args_of {s : St} : ∀ {xs : List Operand} {avs : List AV}, s.evs xs = some avs → Zs s xs avs := by
 intro xs
 induction xs with
 | nil => intro avs h; simp only [St.evs, Qgk] at h; subst h; exact Zs.nil
 | cons y ys ih =>
  intro avs h
  simp only [St.evs] at h
  cases hy : s.ev y with
  | none => simp [hy] at h
  | some v =>
   cases hys : s.evs ys with
   | none => simp [hy, hys] at h
   | some l =>
    simp only [hy, hys, Qgk] at h
    subst h
    exact Zs.cons hy (ih hys)
theorem oH {f : FuncId} {fn : Func} {args : Array Operand} {ts : Array TypeId} {avs : List AV} {x : AV} {d : Nat} (hf : P.funcs[f]? = some fn) (hc : CallP P f avs x) (e : (o.guard, o.op, fn.body.isSome, fn.name == "runtime.NumGoroutine", o.dst, Nat.blt d N, s.evs args.toList) = (none, .call { callee := .value (.func f), args, argTypes := ts }, true, false, some d, true, some avs)) (h : TL' P N ops l (s.putO o.dst x) Q) : TL' P N ops (o :: l) s Q := by
 simp only [Qf4] at e
 obtain ⟨e1, e2, e3, e4, e5, e6, e7⟩ := e
 exact sp e1 (Jh e2 (dl e5 e6) hf e3 e4 (args_of e7) hc h)
theorem oJ {t : TypeId} {dt : TypeDesc} {x : Operand} {m : List DC} {z : Value} {sz by_ d : Nat} (ht : P.underlying t = some dt) (hei : Zk P t z sz by_) (e : (o.guard, o.op, TypeDesc.flat dt, o.dst, Nat.blt d N, s.ev x, Nat.ble sz m.length) = (none, .load t x, false, some d, true, some (.ref m), true)) (h : TL' P N ops l (s.putO o.dst (.agg (m.take sz))) Q) : TL' P N ops (o :: l) s Q := by
 simp only [Qf4] at e
 obtain ⟨e1, e2, e3, e4, e5, e6, e7⟩ := e
 exact sp e1 (N3 e2 (dl e4 e5) ht e3 hei e6 (Qif e7) h)
abbrev nds : List Operand → List AV → List (Nat × AV) → List (Nat × AV)
 | x :: xs, v :: vs, r => nd x v (nds xs vs r)
 | _, _, r => r
theorem evs_hd {t : St} {y : Operand} {ys : List Operand} {avs : List AV} (h : t.evs (y :: ys) = some avs) : ∃ v l, avs = v :: l ∧ t.ev y = some v ∧ t.evs ys = some l := by
 simp only [St.evs] at h
 cases hy : t.ev y with
 | none => simp [hy] at h
 | some v =>
  cases hys : t.evs ys with
  | none => simp [hy, hys] at h
  | some l =>
   simp only [hy, hys, Qgk] at h
   exact ⟨v, l, h.symm, rfl, rfl⟩
theorem nds_at {t : St} {r : List (Nat × AV)} (hr : ∀ p ∈ r, t.slots.lookup p.1 = some p.2) : ∀ {xs : List Operand} {vs : List AV}, t.evs xs = some vs → ∀ p ∈ nds xs vs r, t.slots.lookup p.1 = some p.2 := by
 intro xs
 induction xs with
 | nil => intro vs h; simp only [St.evs, Qgk] at h; subst h; exact hr
 | cons y ys ih =>
  intro vs h
  obtain ⟨v, l, rfl, h1, h2⟩ := evs_hd h
  exact H0 h1 (ih h2)
theorem nds_ev {t u : St} {r : List (Nat × AV)} : ∀ {xs : List Operand} {vs : List AV}, t.evs xs = some vs → (∀ p ∈ nds xs vs r, u.slots.lookup p.1 = some p.2) → u.evs xs = some vs ∧ ∀ p ∈ r, u.slots.lookup p.1 = some p.2 := by
 intro xs
 induction xs with
 | nil => intro vs h; simp only [St.evs, Qgk] at h; subst h; exact fun h => ⟨rfl, h⟩
 | cons y ys ih =>
  intro vs h hu
  obtain ⟨v, l, rfl, h1, h2⟩ := evs_hd h
  obtain ⟨a, b⟩ := Hz h1 hu
  obtain ⟨c, d⟩ := ih h2 b
  exact ⟨by simp only [St.evs, a, c], d⟩
theorem dH {f : FuncId} {fn : Func} {args : Array Operand} {ts : Array TypeId} {avs : List AV} {x : AV} {id i d : Nat} {t : St} {pre : List Ct} {gn : List (Nat × AV)} (hf : P.funcs[f]? = some fn) (hc : CallP P f avs x) (ho : ops[i]? = some o) (G : Gd ops t o gn) (e : (o.op, fn.body.isSome, fn.name == "runtime.NumGoroutine", o.dst, Nat.blt d N, t.evs args.toList) = (.call { callee := .value (.func f), args, argTypes := ts }, true, false, some d, true, some avs)) (h : DG P N ops id Q s (i + 1) (⟨some d, x, nds args.toList avs gn, [], []⟩ :: pre) (Ct.go ⟨some d, x, nds args.toList avs gn, [], []⟩ t)) : DG P N ops id Q s i pre t := by
 simp only [Qf4] at e
 obtain ⟨e2, e3, e4, e5, e6, e7⟩ := e
 exact dgen ho G e5 (nds_at G.at e7) (fun p hp => by cases hp) (fun u hn hb => by
  obtain ⟨ua, hn⟩ := nds_ev e7 hn
  exact ⟨hn, fun K k => Jh e2 (dl e5 e6) hf e3 e4 (args_of ua) hc k⟩) h
theorem dA {x : Operand} {v : AV} {id i d : Nat} {t : St} {pre : List Ct} {gn : List (Nat × AV)} (ho : ops[i]? = some o) (G : Gd ops t o gn)  (e : (o.op, o.dst, Nat.blt d N, t.ev x) = (.assign x, some d, true, some (v))) (h : DG P N ops id Q s (i + 1) (⟨some d, v, nd x (v) (gn), [], []⟩ :: pre) (Ct.go ⟨some d, v, nd x (v) (gn), [], []⟩ t)) : DG P N ops id Q s i pre t := by
 simp only [Qf4] at e
 obtain ⟨eo, ed, eb, qx⟩ := e
 have eN := dl ed eb
 exact dgen ho G ed (H0 qx (G.at)) (fun p hp => by cases hp) (fun u hn hb => by
  obtain ⟨ux, hn⟩ := Hz qx hn
  exact ⟨hn, fun K k => OpT.assign eo eN ux k⟩) h
theorem gA {x : Operand} {v : AV} {id i d : Nat} {t : (Nat → Gh) → St} {pre : (Nat → Gh) → List Ct} {Ds : List (List Nat)} {gn : List (Nat × AV)} (ho : ops[i]? = some o) (G : ∀ γ, Gd ops (t γ) o gn)  (e : ∀ γ, (o.op, o.dst, Nat.blt d N, (t γ).ev x) = (.assign x, some d, true, some (v))) (h : DGG P N ops id Q s (i + 1) (fun γ => ⟨some d, v, nd x (v) (gn), [], []⟩ :: pre γ) ([] :: Ds) (fun γ => Ct.go ⟨some d, v, nd x (v) (gn), [], []⟩ (t γ))) : DGG P N ops id Q s i pre Ds t := by
 have e2 := e (fun _ => (fun _ => undef, 0))
 simp only [Qf4] at e e2
 obtain ⟨eo, ed, eb, qx⟩ := e2
 have eN := dl ed eb
 exact ggen ho G ed (fun γ => by obtain ⟨eo, ed, eb, qx⟩ := e γ; exact H0 qx ((G γ).at)) (fun γ => fun p hp => by cases hp) (fun u hn hb => by
  obtain ⟨ux, hn⟩ := Hz qx hn
  exact ⟨hn, fun K k => OpT.assign eo eN ux k⟩) h
theorem dT {t1 : TypeId} {x : Operand} {a : Bool} {id i d : Nat} {t : St} {pre : List Ct} {gn : List (Nat × AV)} (ho : ops[i]? = some o) (G : Gd ops t o gn)  (e : (o.op, o.dst, Nat.blt d N, t.ev x) = (.unOp .not t1 x, some d, true, some (.bool a))) (h : DG P N ops id Q s (i + 1) (⟨some d, .bool (!a), nd x (.bool a) (gn), [], []⟩ :: pre) (Ct.go ⟨some d, .bool (!a), nd x (.bool a) (gn), [], []⟩ t)) : DG P N ops id Q s i pre t := by
 simp only [Qf4] at e
 obtain ⟨eo, ed, eb, qx⟩ := e
 have eN := dl ed eb
 exact dgen ho G ed (H0 qx (G.at)) (fun p hp => by cases hp) (fun u hn hb => by
  obtain ⟨ux, hn⟩ := Hz qx hn
  exact ⟨hn, fun K k => OpT.not eo eN ux k⟩) h
theorem gT {t1 : TypeId} {x : Operand} {a : Bool} {id i d : Nat} {t : (Nat → Gh) → St} {pre : (Nat → Gh) → List Ct} {Ds : List (List Nat)} {gn : List (Nat × AV)} (ho : ops[i]? = some o) (G : ∀ γ, Gd ops (t γ) o gn)  (e : ∀ γ, (o.op, o.dst, Nat.blt d N, (t γ).ev x) = (.unOp .not t1 x, some d, true, some (.bool a))) (h : DGG P N ops id Q s (i + 1) (fun γ => ⟨some d, .bool (!a), nd x (.bool a) (gn), [], []⟩ :: pre γ) ([] :: Ds) (fun γ => Ct.go ⟨some d, .bool (!a), nd x (.bool a) (gn), [], []⟩ (t γ))) : DGG P N ops id Q s i pre Ds t := by
 have e2 := e (fun _ => (fun _ => undef, 0))
 simp only [Qf4] at e e2
 obtain ⟨eo, ed, eb, qx⟩ := e2
 have eN := dl ed eb
 exact ggen ho G ed (fun γ => by obtain ⟨eo, ed, eb, qx⟩ := e γ; exact H0 qx ((G γ).at)) (fun γ => fun p hp => by cases hp) (fun u hn hb => by
  obtain ⟨ux, hn⟩ := Hz qx hn
  exact ⟨hn, fun K k => OpT.not eo eN ux k⟩) h
theorem dJ {t1 : TypeId} {dt : TypeDesc} {x : Operand} {m : List DC} {z : Value} {sz by_ : Nat} {id i d : Nat} {t : St} {pre : List Ct} {gn : List (Nat × AV)} (ho : ops[i]? = some o) (G : Gd ops t o gn) (ht : P.underlying t1 = some dt) (hei : Zk P t1 z sz by_) (e : (o.op, TypeDesc.flat dt, o.dst, Nat.blt d N, t.ev x, Nat.ble sz m.length) = (.load t1 x, false, some d, true, some (.ref m), true)) (h : DG P N ops id Q s (i + 1) (⟨some d, .agg (m.take sz), nd x (.ref m) (gn), [], []⟩ :: pre) (Ct.go ⟨some d, .agg (m.take sz), nd x (.ref m) (gn), [], []⟩ t)) : DG P N ops id Q s i pre t := by
 simp only [Qf4] at e
 obtain ⟨eo, e0, ed, eb, qx, ez0⟩ := e
 have eN := dl ed eb
 exact dgen ho G ed (H0 qx (G.at)) (fun p hp => by cases hp) (fun u hn hb => by
  obtain ⟨ux, hn⟩ := Hz qx hn
  exact ⟨hn, fun K k => N3 eo eN ht e0 hei ux (Qif ez0) k⟩) h
theorem gJ {t1 : TypeId} {dt : TypeDesc} {x : Operand} {m : List DC} {z : Value} {sz by_ : Nat} {id i d : Nat} {t : (Nat → Gh) → St} {pre : (Nat → Gh) → List Ct} {Ds : List (List Nat)} {gn : List (Nat × AV)} (ho : ops[i]? = some o) (G : ∀ γ, Gd ops (t γ) o gn) (ht : P.underlying t1 = some dt) (hei : Zk P t1 z sz by_) (e : ∀ γ, (o.op, TypeDesc.flat dt, o.dst, Nat.blt d N, (t γ).ev x, Nat.ble sz m.length) = (.load t1 x, false, some d, true, some (.ref m), true)) (h : DGG P N ops id Q s (i + 1) (fun γ => ⟨some d, .agg (m.take sz), nd x (.ref m) (gn), [], []⟩ :: pre γ) ([] :: Ds) (fun γ => Ct.go ⟨some d, .agg (m.take sz), nd x (.ref m) (gn), [], []⟩ (t γ))) : DGG P N ops id Q s i pre Ds t := by
 have e2 := e (fun _ => (fun _ => undef, 0))
 simp only [Qf4] at e e2
 obtain ⟨eo, e0, ed, eb, qx, ez0⟩ := e2
 have eN := dl ed eb
 exact ggen ho G ed (fun γ => by obtain ⟨eo, e0, ed, eb, qx, ez0⟩ := e γ; exact H0 qx ((G γ).at)) (fun γ => fun p hp => by cases hp) (fun u hn hb => by
  obtain ⟨ux, hn⟩ := Hz qx hn
  exact ⟨hn, fun K k => N3 eo eN ht e0 hei ux (Qif ez0) k⟩) h
end
noncomputable abbrev ff10 := Tryz.f10
noncomputable abbrev ff101 := Tryz.f101
noncomputable abbrev ff102 := Tryz.f102
noncomputable abbrev ff103 := Tryz.f103
noncomputable abbrev ff105 := Tryz.f105
noncomputable abbrev ff106 := Tryz.f106
noncomputable abbrev ff107 := Tryz.f107
noncomputable abbrev ff111 := Tryz.f111
noncomputable abbrev ff112 := Tryz.f112
noncomputable abbrev ff113 := Tryz.f113
noncomputable abbrev ff114 := Tryz.f114
noncomputable abbrev ff115 := Tryz.f115
noncomputable abbrev ff117 := Tryz.f117
noncomputable abbrev ff118 := Tryz.f118
noncomputable abbrev ff12 := Tryz.f12
noncomputable abbrev ff120 := Tryz.f120
noncomputable abbrev ff121 := Tryz.f121
noncomputable abbrev ff131 := Tryz.f131
noncomputable abbrev ff132 := Tryz.f132
noncomputable abbrev ff133 := Tryz.f133
noncomputable abbrev ff14 := Tryz.f14
noncomputable abbrev ff142 := Tryz.f142
noncomputable abbrev ff147 := Tryz.f147
noncomputable abbrev ff148 := Tryz.f148
noncomputable abbrev ff149 := Tryz.f149
noncomputable abbrev ff17 := Tryz.f17
noncomputable abbrev ff20 := Tryz.f20
noncomputable abbrev ff24 := Tryz.f24
noncomputable abbrev ff25 := Tryz.f25
noncomputable abbrev ff26 := Tryz.f26
noncomputable abbrev ff27 := Tryz.f27
noncomputable abbrev ff28 := Tryz.f28
noncomputable abbrev ff31 := Tryz.f31
noncomputable abbrev ff32 := Tryz.f32
noncomputable abbrev ff33 := Tryz.f33
noncomputable abbrev ff34 := Tryz.f34
noncomputable abbrev ff35 := Tryz.f35
noncomputable abbrev ff36 := Tryz.f36
noncomputable abbrev ff37 := Tryz.f37
noncomputable abbrev ff40 := Tryz.f40
noncomputable abbrev ff44 := Tryz.f44
noncomputable abbrev ff45 := Tryz.f45
noncomputable abbrev ff46 := Tryz.f46
noncomputable abbrev ff47 := Tryz.f47
noncomputable abbrev ff48 := Tryz.f48
noncomputable abbrev ff52 := Tryz.f52
noncomputable abbrev ff53 := Tryz.f53
noncomputable abbrev ff54 := Tryz.f54
noncomputable abbrev ff55 := Tryz.f55
noncomputable abbrev Qbt := Tryz.f56
noncomputable abbrev ff57 := Tryz.f57
noncomputable abbrev ff58 := Tryz.f58
noncomputable abbrev ff59 := Tryz.f59
noncomputable abbrev ff60 := Tryz.f60
noncomputable abbrev ff62 := Tryz.f62
noncomputable abbrev ff63 := Tryz.f63
noncomputable abbrev ff64 := Tryz.f64
noncomputable abbrev ff65 := Tryz.f65
noncomputable abbrev ff66 := Tryz.f66
noncomputable abbrev ff67 := Tryz.f67
noncomputable abbrev ff70 := Tryz.f70
noncomputable abbrev ff71 := Tryz.f71
noncomputable abbrev ff72 := Tryz.f72
noncomputable abbrev ff77 := Tryz.f77
noncomputable abbrev ff78 := Tryz.f78
noncomputable abbrev ff79 := Tryz.f79
noncomputable abbrev ff8 := Tryz.f8
noncomputable abbrev ff80 := Tryz.f80
noncomputable abbrev ff81 := Tryz.f81
noncomputable abbrev ff82 := Tryz.f82
noncomputable abbrev ff83 := Tryz.f83
noncomputable abbrev ff84 := Tryz.f84
noncomputable abbrev ff88 := Tryz.f88
noncomputable abbrev ff89 := Tryz.f89
noncomputable abbrev ff90 := Tryz.f90
noncomputable abbrev ff91 := Tryz.f91
noncomputable abbrev ff92 := Tryz.f92
noncomputable abbrev ff93 := Tryz.f93
noncomputable abbrev ff94 := Tryz.f94
noncomputable abbrev ff95 := Tryz.f95
noncomputable abbrev ff96 := Tryz.f96
noncomputable abbrev ff97 := Tryz.f97
noncomputable abbrev ff98 := Tryz.f98
noncomputable abbrev ff99 := Tryz.f99
abbrev fu10 := Tryz.func10
abbrev fu101 := Tryz.func101
abbrev fu102 := Tryz.func102
abbrev fu103 := Tryz.func103
abbrev fu105 := Tryz.func105
abbrev fu106 := Tryz.func106
abbrev fu107 := Tryz.func107
abbrev fu111 := Tryz.func111
abbrev fu112 := Tryz.func112
abbrev fu113 := Tryz.func113
abbrev fu114 := Tryz.func114
abbrev fu115 := Tryz.func115
abbrev fu117 := Tryz.func117
abbrev fu118 := Tryz.func118
abbrev fu12 := Tryz.func12
abbrev fu120 := Tryz.func120
abbrev fu121 := Tryz.func121
abbrev fu130 := Tryz.func130
abbrev fu131 := Tryz.func131
abbrev fu132 := Tryz.func132
abbrev fu133 := Tryz.func133
abbrev fu14 := Tryz.func14
abbrev fu142 := Tryz.func142
abbrev fu147 := Tryz.func147
abbrev fu148 := Tryz.func148
abbrev fu149 := Tryz.func149
abbrev fu17 := Tryz.func17
abbrev fu20 := Tryz.func20
abbrev fu24 := Tryz.func24
abbrev fu25 := Tryz.func25
abbrev fu26 := Tryz.func26
abbrev fu27 := Tryz.func27
abbrev fu28 := Tryz.func28
abbrev fu31 := Tryz.func31
abbrev fu32 := Tryz.func32
abbrev fu33 := Tryz.func33
abbrev fu34 := Tryz.func34
abbrev fu35 := Tryz.func35
abbrev fu36 := Tryz.func36
abbrev fu37 := Tryz.func37
abbrev fu39 := Tryz.func39
abbrev fu40 := Tryz.func40
abbrev fu44 := Tryz.func44
abbrev fu45 := Tryz.func45
abbrev fu46 := Tryz.func46
abbrev fu47 := Tryz.func47
abbrev fu48 := Tryz.func48
abbrev fu52 := Tryz.func52
abbrev fu53 := Tryz.func53
abbrev fu54 := Tryz.func54
abbrev fu55 := Tryz.func55
abbrev fu56 := Tryz.func56
abbrev fu57 := Tryz.func57
abbrev fu58 := Tryz.func58
abbrev fu59 := Tryz.func59
abbrev fu60 := Tryz.func60
abbrev fu62 := Tryz.func62
abbrev fu63 := Tryz.func63
abbrev fu64 := Tryz.func64
abbrev fu65 := Tryz.func65
abbrev fu66 := Tryz.func66
abbrev fu67 := Tryz.func67
abbrev fu70 := Tryz.func70
abbrev fu71 := Tryz.func71
abbrev fu72 := Tryz.func72
abbrev fu73 := Tryz.func73
abbrev fu77 := Tryz.func77
abbrev fu78 := Tryz.func78
abbrev fu79 := Tryz.func79
abbrev fu8 := Tryz.func8
abbrev fu80 := Tryz.func80
abbrev fu81 := Tryz.func81
abbrev fu82 := Tryz.func82
abbrev fu83 := Tryz.func83
abbrev fu84 := Tryz.func84
abbrev fu88 := Tryz.func88
abbrev fu89 := Tryz.func89
abbrev fu90 := Tryz.func90
abbrev fu91 := Tryz.func91
abbrev fu92 := Tryz.func92
abbrev fu93 := Tryz.func93
abbrev fu94 := Tryz.func94
abbrev fu95 := Tryz.func95
abbrev fu96 := Tryz.func96
abbrev fu97 := Tryz.func97
abbrev fu98 := Tryz.func98
abbrev fu99 := Tryz.func99
abbrev ul59 := Tryz.underlying59
abbrev ul99 := Tryz.underlying99
abbrev ul171 := Tryz.underlying171
abbrev b43x0 (b : Nat) (y0 : List Int) (y1 : Value) : Ob := .box b 43 [.d (.sl false 1 (y0.map (cI .i64))), .d (.ex y1)]
abbrev O1 (b : Nat) (y0 : List Q0) (y1 : Int) (y2 : Value) (y3 : Bool) : Ob := .box b 123 [.d (.sl false 9 (y0.map Qs)), .d (.int .i64 y1), .d (.ex y2), .d (.bool y3)]
abbrev W9 (b : Nat) (y0 : Value) : Ob := .box b 126 [.d (.ex y0)]
abbrev b165x3 (b : Nat) (y0 : Int) (y1 : Int) (y2 : Int) (y3 : Int) (y4 : Int) (y5 : List Int) (y6 : Int) (y7 : Int) (y8 : ByteArray) : Ob := .box b 165 [.d (.int .u8 y0), .d (.int .u64 y1), .d (.int .u64 y2), .d (.int .u64 y3), .d (.int .u64 y4), .d (.sl false 1 (y5.map (cI .i64))), .d (.int .i64 y6), .d (.int .i64 y7), .d (.str y8)]
abbrev Qab (b : Nat) (y0 : Bool) (y1 : List Int) (y2 : List Int) : Ob := .box b 128 [.d (.bool y0), .d (.sl false 1 (y1.map (cI .i64))), .d (.sl false 1 (y2.map (cI .i64)))]
abbrev b24x5 (b : Nat) (y0 : Zn) (y1 : Int) : Ob := .box b 24 ((Zn.oc 256 .u8 y0) ++ (([.d (.int .i64 y1)] : List OC)))
abbrev Jg (b : Nat) (y0 : List Int) (y1 : List Q5) (y2 : Value) (y3 : Zn) (y4 : Int) (y5 : Value) (y6 : Value) (y7 : Int) : Ob := .box b 98 (([.d (.sl false 1 (y0.map (cI .i64))), .d (.sl false 9 (y1.map Qx)), .d (.ex y2)] : List OC) ++ ((Zn.oc 256 .u8 y3) ++ (([.d (.int .i64 y4), .d (.ex y5), .d (.ex y6), .d (.int .i64 y7)] : List OC))))
abbrev Mq (b : Nat) (y0 : List Int) (y1 : List Int) (y2 : List Int) (y3 : List (List Qd)) : Ob := .box b 51 [.d (.sl false 1 (y0.map (cI .i64))), .d (.sl false 1 (y1.map (cI .i64))), .d (.sl false 1 (y2.map (cI .i64))), .d (.sl false 1 (y3.map (cL 2 Ql)))]
abbrev b54x8 (b : Nat) (y0 : Int) (y1 : Value) : Ob := .box b 54 [.d (.int .i64 y0), .d (.ex y1)]
abbrev b28x9 (b : Nat) (y0 : Zn) (y1 : Int) (y2 : Value) (y3 : Value) : Ob := .box b 28 ((Zn.oc 256 .u8 y0) ++ (([.d (.int .i64 y1), .d (.ex y2), .d (.ex y3)] : List OC)))
abbrev Jx (b : Nat) (y0 : Zn) (y1 : Int) (y2 : List X2) (y3 : List Qa) : Ob := .box b 107 ((Zn.oc 256 .u8 y0) ++ (([.d (.int .i64 y1), .d (.sl false 2 (y2.map (X2.dc .i64))), .d (.sl false 4 (y3.map Qf))] : List OC)))
abbrev Qcp (b : Nat) (y0 : Int) (y1 : List Int) : Ob := .box b 54 [.d (.int .i64 y0), .d (.sl false 1 (y1.map (cI .u8)))]
abbrev b28x12 (b : Nat) (y0 : Zn) (y1 : Int) (y2 : List X2) (y3 : List Qa) : Ob := .box b 28 ((Zn.oc 256 .u8 y0) ++ (([.d (.int .i64 y1), .d (.sl false 2 (y2.map (X2.dc .i64))), .d (.sl false 4 (y3.map Qf))] : List OC)))
abbrev O0 (b : Nat) (y0 : Value) : Ob := .box b 74 [.d (.ex y0)]
abbrev Ja (b : Nat) (y0 : Zn) (y1 : Int) (y2 : List X2) (y3 : List Qa) : Ob := .box b 69 ((Zn.oc 256 .u8 y0) ++ (([.d (.int .i64 y1), .d (.sl false 2 (y2.map (X2.dc .i64))), .d (.sl false 4 (y3.map Qf))] : List OC)))
abbrev We (b : Nat) (y0 : Nat) (y1 : Value) : Ob := .box b 134 [.d (.ptr y0 0), .d (.ex y1)]
abbrev b134x16 (b : Nat) (y0 : Value) (y1 : Value) : Ob := .box b 134 [.d (.ex y0), .d (.ex y1)]
theorem dk {o : Oper} {d N : Nat} (e : (o.dst, Nat.blt d N) = (some d, true)) : ∀ d', o.dst = some d' → d' < N := by
  simp only [Qf4] at e
  exact dl e.1 e.2
theorem nb {n m : Nat} (h : Nat.ble n m = true) : n ≤ m := Qif h
theorem mw {P : Program} {N : Nat} {s : St} {Q : ES} {ops : Array Oper} {o : Oper} {l : List Oper} {d : Nat} {x : Operand} {v : AV} (e : (o.op, o.guard, o.dst, Nat.blt d N, s.ev x) = (.move x, none, some d, true, some v)) (h : TL' P N ops l (s.put d v) Q) : TL' P N ops (o :: l) s Q := by
  simp only [Qf4] at e
  exact mv e.2.2.2.2 e.1 e.2.1 e.2.2.1 e.2.2.2.1 h
theorem aw {P : Program} {N : Nat} {s : St} {Q : ES} {ops : Array Oper} {o : Oper} {l : List Oper} {d : Nat} {x : Operand} {v : AV} (e : (o.op, o.guard, o.dst, Nat.blt d N, s.ev x) = (.assign x, none, some d, true, some v)) (h : TL' P N ops l (s.put d v) Q) : TL' P N ops (o :: l) s Q := by
  simp only [Qf4] at e
  exact asg e.2.2.2.2 e.1 e.2.1 e.2.2.1 e.2.2.2.1 h
abbrev ul3 := Tryz.underlying3
abbrev ul4 := Tryz.underlying4
abbrev ul5 := Tryz.underlying5
abbrev ul9 := Tryz.underlying9
abbrev ul22 := Tryz.underlying22
abbrev ul24 := Tryz.underlying24
abbrev ul25 := Tryz.underlying25
abbrev He := Tryz.underlying26
abbrev G4 := Tryz.underlying28
abbrev ul30 := Tryz.underlying30
abbrev ul33 := Tryz.underlying33
abbrev Z5 := Tryz.underlying38
abbrev F1 := Tryz.underlying41
abbrev Qbw := Tryz.underlying43
abbrev Qcz := Tryz.underlying49
abbrev Ke := Tryz.underlying51
abbrev Mt := Tryz.underlying52
abbrev Iw := Tryz.underlying54
abbrev Sg := Tryz.underlying55
abbrev ul61 := Tryz.underlying61
abbrev Qdo := Tryz.underlying63
abbrev Qbv := Tryz.underlying65
abbrev ul69 := Tryz.underlying69
abbrev ul72 := Tryz.underlying72
abbrev ul74 := Tryz.underlying74
abbrev P1 := Tryz.underlying80
abbrev ul87 := Tryz.underlying87
abbrev ul88 := Tryz.underlying88
abbrev P0 := Tryz.underlying98
abbrev ul107 := Tryz.underlying107
abbrev ul111 := Tryz.underlying111
abbrev Mi := Tryz.underlying117
abbrev ul123 := Tryz.underlying123
abbrev ul126 := Tryz.underlying126
abbrev Gz := Tryz.underlying128
abbrev ul132 := Tryz.underlying132
abbrev ul134 := Tryz.underlying134
abbrev ul159 := Tryz.underlying159
abbrev Lj := Tryz.underlying165
abbrev ul193 := Tryz.underlying193
abbrev Sb (b : Nat) (x0 : ByteArray) (x1 : Int) (x2 : Value) (x3 x4 x5 : Int) : Ob := .box b 117 [.d (.str x0), .d (.int .i64 x1), .d (.ex x2), .d (.int .i64 x3), .d (.int .i64 x4), .d (.int .i64 x5)]
abbrev o128 (b : Nat) (x0 : Bool) (x1 x2 : Value) : Ob := .box b 128 [.d (.bool x0), .d (.ex x1), .d (.ex x2)]
theorem Q3 : tp.follows .mixedOrders = true := by kernel_rfl
theorem i3 : Zk tp 3 (.int .i64 0) 1 8 := Ya (by kernel_rfl)
theorem i4 : Zk tp 4 (.bool false) 1 1 := Ya (by kernel_rfl)
theorem i5 : Zk tp 5 (.int .u8 0) 1 1 := Ya (by kernel_rfl)
theorem i9 : Zk tp 9 (.string ⟨#[]⟩) 1 16 := Ya (by kernel_rfl)
theorem i22 : Zk tp 22 (.agg ⟨List.replicate 256 (.int .u8 0)⟩) 256 256 := Ya (by kernel_rfl)
theorem i24 : Zk tp 24 (.agg ⟨List.replicate 256 (.int .u8 0) ++ [.int .i64 0]⟩) 257 264 := Ya (by kernel_rfl)
theorem i25 : Zk tp 25 (.slice none 0 0) 1 24 := Ya (by kernel_rfl)
theorem i26 : Zk tp 26 (.slice none 0 0) 1 24 := Ya (by kernel_rfl)
theorem i28 : Zk tp 28 (.agg ⟨List.replicate 256 (.int .u8 0) ++ [.int .i64 0, .slice none 0 0, .slice none 0 0]⟩) 259 312 := Ya (by kernel_rfl)
theorem i30 : Zk tp 30 (.int .i64 0) 1 8 := Ya (by kernel_rfl)
theorem i38 : Zk tp 38 (.slice none 0 0) 1 24 := Ya (by kernel_rfl)
theorem i41 : Zk tp 41 (.slice none 0 0) 1 24 := Ya (by kernel_rfl)
theorem i43 : Zk tp 43 (.agg #[.slice none 0 0, .slice none 0 0]) 2 48 := Ya (by kernel_rfl)
theorem i49 : Zk tp 49 (.slice none 0 0) 1 24 := Ya (by kernel_rfl)
theorem i51 : Zk tp 51 (.agg #[.slice none 0 0, .slice none 0 0, .slice none 0 0, .slice none 0 0]) 4 96 := Ya (by kernel_rfl)
theorem i52 : Zk tp 52 (.slice none 0 0) 1 24 := Ya (by kernel_rfl)
theorem i54 : Zk tp 54 (.agg #[.int .i64 0, .slice none 0 0]) 2 32 := Ya (by kernel_rfl)
theorem i55 : Zk tp 55 (.slice none 0 0) 1 24 := Ya (by kernel_rfl)
theorem i59 : Zk tp 59 (.agg #[.int .i64 0, .int .i64 0]) 2 16 := Ya (by kernel_rfl)
theorem i61 : Zk tp 61 (.int .u64 0) 1 8 := Ya (by kernel_rfl)
theorem i63 : Zk tp 63 (.agg #[.int .u64 0, .int .u64 0, .int .u64 0, .int .u64 0]) 4 32 := Ya (by kernel_rfl)
theorem i65 : Zk tp 65 (.agg #[.int .u64 0, .int .u64 0, .int .u64 0, .int .u64 0, .int .i64 0, .int .i64 0, .int .i64 0, .bool false, .slice none 0 0]) 9 88 := Ya (by kernel_rfl)
theorem i69 : Zk tp 69 (.agg ⟨List.replicate 256 (.int .u8 0) ++ [.int .i64 0, .slice none 0 0, .slice none 0 0]⟩) 259 312 := Ya (by kernel_rfl)
theorem i74 : Zk tp 74 (.agg #[.slice none 0 0]) 1 24 := Ya (by kernel_rfl)
theorem i80 : Zk tp 80 (.slice none 0 0) 1 24 := Ya (by kernel_rfl)
theorem i98 : Zk tp 98 (.agg ⟨[.slice none 0 0, .slice none 0 0, .slice none 0 0] ++ List.replicate 256 (.int .u8 0) ++ [.int .i64 0, .slice none 0 0, .slice none 0 0, .int .i64 0]⟩) 263 392 := Ya (by kernel_rfl)
theorem i107 : Zk tp 107 (.agg ⟨List.replicate 256 (.int .u8 0) ++ [.int .i64 0, .slice none 0 0, .slice none 0 0]⟩) 259 312 := Ya (by kernel_rfl)
theorem i117 : Zk tp 117 (.agg #[.string ⟨#[]⟩, .int .i64 0, .slice none 0 0, .int .i64 0, .int .i64 0, .int .i64 0]) 6 72 := Ya (by kernel_rfl)
theorem i123 : Zk tp 123 (.agg #[.slice none 0 0, .int .i64 0, .slice none 0 0, .bool false]) 4 64 := Ya (by kernel_rfl)
theorem i126 : Zk tp 126 (.agg #[.slice none 0 0]) 1 24 := Ya (by kernel_rfl)
theorem i128 : Zk tp 128 (.agg #[.bool false, .slice none 0 0, .slice none 0 0]) 3 56 := Ya (by kernel_rfl)
theorem i132 : Zk tp 132 (.pointer none) 1 8 := Ya (by kernel_rfl)
theorem i134 : Zk tp 134 (.agg #[.pointer none, .slice none 0 0]) 2 32 := Ya (by kernel_rfl)
theorem i165 : Zk tp 165 (.agg #[.int .u8 0, .int .u64 0, .int .u64 0, .int .u64 0, .int .u64 0, .slice none 0 0, .int .i64 0, .int .i64 0, .string ⟨#[]⟩]) 9 96 := Ya (by kernel_rfl)
abbrev M0 (f : (List Q0) → Int → (List Int) → Option ((List Int) × Bool)) : Prop := ∀ (x0 : List Q0) (x1 : Int) (x2 : List Int) (flx0 : Bool) (wx2 : Value) (r : (List Int) × Bool), f x0 x1 x2 = some r → Ud tp 103 [.sl flx0 9 (x0.map Qs), .int .i64 x1, .c (.ex wx2)] [.arrA wx2 3 1 (mI x2)] (fun γ => (.tup [.c (.ex (γ 0)), .bool r.2])) (fun γ => [.arrA (γ 0) 3 1 (mI r.1)])
abbrev Jv (f : Qw → Int → Option (Int × Qw)) : Prop := ∀ (x0 : Qw) (x1 : Int) (bx0 : Nat) (wx0c2 : Value) (r : Int × Qw), f x0 x1 = some r → Ud tp 63 [.ptr bx0 0, .int .i64 x1] [(O1 bx0 x0.l x0.most wx0c2 x0.long), .arrA wx0c2 165 9 (x0.out.map Qs)] (fun γ => (.int .i64 r.1)) (fun γ => [(O1 bx0 r.2.l r.2.most (γ 0) r.2.long), .arrA (γ 0) 165 9 (r.2.out.map Qs)])
abbrev V5 (f : Qi → (List Q0) → Int → Int → Option (Qr × Qi)) : Prop := ∀ (x0 : Qi) (x1 : List Q0) (x2 x3 : Int) (bx0 : Nat) (wx0c0 : Value) (flx1 : Bool) (r : Qr × Qi), f x0 x1 x2 x3 = some r → Ud tp 66 [.ptr bx0 0, .sl flx1 9 (x1.map Qs), .int .i64 x2, .int .i64 x3] [(W9 bx0 wx0c0), .arrX wx0c0 65 9 0 (x0.p.map Qx)] (fun γ => (.agg [.bool r.1.null, .sl false 1 (mI r.1.first), .sl false 1 (mI r.1.last)])) (fun γ => [(W9 bx0 (γ 0)), .arrX (γ 0) 65 9 0 (r.2.p.map Qx)])
end Go.Rv
