/- Each function computes what its plain text says: printed by a program of ours. -/
import Derived.Test.YtaipjabggdifoaaRgP
import Derived.Test.YtaipjabggdifoaaProg
import Derived.KernelRfl
namespace Go.Rv
open Go.Proofs
set_option maxRecDepth 100000
set_option maxHeartbeats 4000000
set_option linter.unusedVariables false
abbrev wI (x : Int) : Int := IntKind.i64.wrap x
abbrev u0 : (Nat → Value) × Nat := (fun _ => undef, 0)
noncomputable abbrev tp := Try.prog
abbrev ES := Exit → St → Prop
abbrev ca (l : List Nat) (f : Func) := Code.at l (codeOf f)
abbrev mI (l : List Int) := l.map (cI .i64)
abbrev mU (l : List Int) := l.map (cI .u8)
abbrev mA (l : List Zb) := l.map (Zb.dc .i64)
section
variable {P : Program} {N : Nat} {s : St} {Q : Exit → St → Prop} {ops : Array Oper}
theorem pf {o : Oper} {l : List Oper} {j g d : Nat} {x b : Bool} (e : (o.guard, (ops[j]?).bind (·.dst), s.slots.lookup g, o.dst, Nat.blt d N) = (some (j, x), some g, some (.c (.ex (.bool b))), some d, true)) (hb : b = !x) (h : TL' P N ops l (s.putO o.dst (.tup [])) Q) : TL' P N ops (o :: l) s Q := by
 simp only [Prod.mk.injEq] at e
 exact TL'.pU (.off _ _ _ _ e.1 e.2.1 e.2.2.1 hb) (dl e.2.2.2.1 e.2.2.2.2) h
theorem sn {o : Oper} {l : List Oper} {j g : Nat} {b x : Bool} (e : (o.guard, (ops[j]?).bind (·.dst), s.slots.lookup g) = (some (j, x), some g, some (.c (.ex (.bool b))))) (hb : b = x) (h : OpT P N o s (fun s' => TL' P N ops l s' Q)) : TL' P N ops (o :: l) s Q := by
 simp only [Prod.mk.injEq] at e
 exact TL'.step (.on e.1 e.2.1 e.2.2 hb) h
theorem sf {a b : List (Nat × AV)} (h : (b.map fun p => a.lookup p.1) = b.map fun p => some p.2) : Sub a b := by
 intro t v ht
 have key : ∀ b : List (Nat × AV), ((b.map fun p => a.lookup p.1) = b.map fun p => some p.2) → b.lookup t = some v → a.lookup t = some v := by
  intro b
  induction b with
  | nil => intro _ h; simp at h
  | cons p b ih =>
   intro h hl
   simp only [List.map_cons, List.cons.injEq] at h
   obtain ⟨q, u⟩ := p
   rw [List.lookup_cons] at hl
   split at hl
   · rename_i he
     simp only [beq_iff_eq] at he
     subst he
     rw [h.1, hl]
   · exact ih h.2 hl
 exact key b h ht
theorem tr {s s' : St} (h : (s'.slots.map fun p => s.slots.lookup p.1) = s'.slots.map fun p => some p.2) (hp : Pk s.tab s'.tab) : Zn s s' := Zn.rp (sf h) hp
theorem pt {t r : List Ob} (h : t.take r.length = r) : Pk t r := by
 induction r generalizing t with
 | nil => exact .n _
 | cons o r ih =>
  cases t with
  | nil => simp at h
  | cons p t =>
   simp only [List.length_cons, List.take_succ_cons, List.cons.injEq] at h
   obtain ⟨rfl, h⟩ := h
   exact .c .z (ih h)
theorem tq {s s' : St} (h : (s'.slots.map fun p => s.slots.lookup p.1) = s'.slots.map fun p => some p.2) (hp : s.tab.take s'.tab.length = s'.tab) : Zn s s' := Zn.rp (sf h) (pt hp)
theorem oF {i : Nat} {o : Oper} {K : St → Prop} (ho : ops[i]? = some o) (hg : o.guard = none) (h : OpT P N o s K) : One P N ops i s K := One.step ho (.free hg) h
theorem oN {i j g : Nat} {o : Oper} {K : St → Prop} {b x : Bool} (ho : ops[i]? = some o) (hg : o.guard = some (j, x)) (hj : (ops[j]?).bind (·.dst) = some g) (hs : s.slots.lookup g = some (.c (.ex (.bool b)))) (hb : b = x) (h : OpT P N o s K) : One P N ops i s K := One.step ho (.on hg hj hs hb) h
theorem dS {id i : Nat} {t : St} {pre : List Ct} {c : Ct} (hok : Ct.ok P N ops i c) (h1 : c.need.map (fun p => t.slots.lookup p.1) = c.need.map (fun p => some p.2)) (h2 : c.objs.map (fun p => t.tab[p.1]?) = c.objs.map (fun p => some p.2)) (h : DG P N ops id Q s (i + 1) (c :: pre) (c.go t)) : DG P N ops id Q s i pre t := DG.step hok (Zq h1 h2) h
theorem dC {id i : Nat} {t : (Nat → Gh) → St} {pre : (Nat → Gh) → List Ct} {Ds : List (List Nat)} {c : Ct} (hok : ∀ u, c.met u → One P N ops i u (fun u' => ∃ _ : Gh, u' = c.go u)) (h1 : ∀ γ, c.need.map (fun p => (t γ).slots.lookup p.1) = c.need.map (fun p => some p.2)) (h2 : ∀ γ, c.objs.map (fun p => (t γ).tab[p.1]?) = c.objs.map (fun p => some p.2)) (h : DGG P N ops id Q s (i + 1) (fun γ => c :: pre γ) ([] :: Ds) (fun γ => c.go (t γ))) : DGG P N ops id Q s i pre Ds t := DGG.step (c := fun _ => c) [] (fun _ _ _ => rfl) (fun _ => hok) (fun γ => Zq (h1 γ) (h2 γ)) h
theorem dO {id i j d g : Nat} {t : St} {pre : List Ct} {o : Oper} {x b : Bool} (hb : b = !x) (ho : ops[i]? = some o) (e : (o.guard, (ops[j]?).bind (·.dst), o.dst, Nat.blt d N, t.slots.lookup g) = (some (j, x), some g, some d, true, some (.c (.ex (.bool b)))))
    (h : DG P N ops id Q s (i + 1) (⟨some d, .tup [], [(g, .c (.ex (.bool b)))], [], []⟩ :: pre) (Ct.go ⟨some d, .tup [], [(g, .c (.ex (.bool b)))], [], []⟩ t)) : DG P N ops id Q s i pre t := by
 simp only [Prod.mk.injEq] at e
 exact DG.off hb ho e.1 e.2.1 e.2.2.1 e.2.2.2.1 e.2.2.2.2 h
end
abbrev ul30 := Try.underlying30
abbrev ul99 := Try.underlying99
abbrev On (b : Nat) (y0 : Qx) (y1 : Int) : Ob := .box b 24 ((Qx.oc 256 .u8 y0) ++ (([.d (.int .i64 y1)] : List OC)))
abbrev J5 (b : Nat) (y0 : Qx) (y1 : Int) (y2 : List Zb) (y3 : List aSt) : Ob := .box b 91 ((Qx.oc 256 .u8 y0) ++ (([.d (.int .i64 y1), .d (.sl false 2 (y2.map (Zb.dc .i64))), .d (.sl false 4 (y3.map Q0))] : List OC)))
abbrev Zw (b : Nat) (y0 : List Int) (y1 : List Int) (y2 : List Int) (y3 : List (List aMv)) : Ob := .box b 59 [.d (.sl false 1 (y0.map (cI .i64))), .d (.sl false 1 (y1.map (cI .i64))), .d (.sl false 1 (y2.map (cI .i64))), .d (.sl false 1 (y3.map (cL 2 Qu)))]
abbrev W9 (b : Nat) (y0 : Int) (y1 : List Int) : Ob := .box b 63 [.d (.int .i64 y0), .d (.sl false 1 (y1.map (cI .u8)))]
abbrev Xo (b : Nat) (y0 : Qx) (y1 : Int) (y2 : List Zb) (y3 : List aSt) : Ob := .box b 28 ((Qx.oc 256 .u8 y0) ++ (([.d (.int .i64 y1), .d (.sl false 2 (y2.map (Zb.dc .i64))), .d (.sl false 4 (y3.map Q0))] : List OC)))
abbrev D5 (b : Nat) (y0 : Value) : Ob := .box b 54 [.d (.ex y0)]
abbrev Mh (b : Nat) (y0 : Value) : Ob := .box b 66 [.d (.ex y0)]
abbrev b71x7 (b : Nat) (y0 : List Int) (y1 : List Jy) : Ob := .box b 71 [.d (.sl false 1 (y0.map (cI .i64))), .d (.sl false 9 (y1.map Zk))]
abbrev Yf (b : Nat) (y0 : List Int) (y1 : List Jy) (y2 : Value) (y3 : Qx) (y4 : Int) (y5 : Value) (y6 : Value) (y7 : Int) : Ob := .box b 98 (([.d (.sl false 1 (y0.map (cI .i64))), .d (.sl false 9 (y1.map Zk)), .d (.ex y2)] : List OC) ++ ((Qx.oc 256 .u8 y3) ++ (([.d (.int .i64 y4), .d (.ex y5), .d (.ex y6), .d (.int .i64 y7)] : List OC))))
abbrev b63x9 (b : Nat) (y0 : Int) (y1 : Value) : Ob := .box b 63 [.d (.int .i64 y0), .d (.ex y1)]
abbrev Zc (b : Nat) (y0 : Qx) (y1 : Int) (y2 : Value) (y3 : Value) : Ob := .box b 28 ((Qx.oc 256 .u8 y0) ++ (([.d (.int .i64 y1), .d (.ex y2), .d (.ex y3)] : List OC)))
abbrev Q8 (b : Nat) (y0 : ByteArray) (y1 : Bool) : Ob := .box b 75 [.d (.str y0), .d (.bool y1)]
abbrev Zl (b : Nat) (y0 : Nat) : Ob := .box b 73 [.d (.ptr y0 0)]
abbrev Kv (b : Nat) (y0 : Value) : Ob := .box b 56 [.d (.ex y0)]
abbrev Mp (b : Nat) (y0 : Value) : Ob := .box b 61 [.d (.ex y0)]
abbrev Ge (b : Nat) (y0 : Value) : Ob := .box b 81 [.d (.ex y0)]
abbrev Yt (b : Nat) (y0 : List Int) (y1 : Bool) : Ob := .box b 86 [.d (.sl false 1 (y0.map (cI .u8))), .d (.bool y1)]
abbrev Wu (b : Nat) (y0 : List Int) (y1 : List Int) (y2 : Value) (y3 : Value) : Ob := .box b 59 [.d (.sl false 1 (y0.map (cI .i64))), .d (.sl false 1 (y1.map (cI .i64))), .d (.ex y2), .d (.ex y3)]
theorem dk {o : Oper} {d N : Nat} (e : (o.dst, Nat.blt d N) = (some d, true)) : ∀ d', o.dst = some d' → d' < N := by
  simp only [Prod.mk.injEq] at e
  exact dl e.1 e.2
theorem nb {n m : Nat} (h : Nat.ble n m = true) : n ≤ m := Nat.le_of_ble_eq_true h
theorem mw {P : Program} {N : Nat} {s : St} {Q : ES} {ops : Array Oper} {o : Oper} {l : List Oper} {d : Nat} {x : Operand} {v : AV} (e : (o.op, o.guard, o.dst, Nat.blt d N, s.ev x) = (.move x, none, some d, true, some v)) (h : TL' P N ops l (s.put d v) Q) : TL' P N ops (o :: l) s Q := by
  simp only [Prod.mk.injEq] at e
  exact mv e.2.2.2.2 e.1 e.2.1 e.2.2.1 e.2.2.2.1 h
theorem aw {P : Program} {N : Nat} {s : St} {Q : ES} {ops : Array Oper} {o : Oper} {l : List Oper} {d : Nat} {x : Operand} {v : AV} (e : (o.op, o.guard, o.dst, Nat.blt d N, s.ev x) = (.assign x, none, some d, true, some v)) (h : TL' P N ops l (s.put d v) Q) : TL' P N ops (o :: l) s Q := by
  simp only [Prod.mk.injEq] at e
  exact asg e.2.2.2.2 e.1 e.2.1 e.2.2.1 e.2.2.2.1 h
abbrev ul3 := Try.underlying3
abbrev ul4 := Try.underlying4
abbrev ul5 := Try.underlying5
abbrev ul9 := Try.underlying9
abbrev ul22 := Try.underlying22
abbrev Ig := Try.underlying24
abbrev Mq := Try.underlying25
abbrev X5 := Try.underlying26
abbrev Xe := Try.underlying28
abbrev Xg := Try.underlying29
abbrev ul42 := Try.underlying42
abbrev ul54 := Try.underlying54
abbrev Yd := Try.underlying56
abbrev B0 := Try.underlying57
abbrev Vm := Try.underlying59
abbrev Fq := Try.underlying61
abbrev Kg := Try.underlying63
abbrev ul66 := Try.underlying66
abbrev Sk := Try.underlying69
abbrev ul71 := Try.underlying71
abbrev ul73 := Try.underlying73
abbrev ul75 := Try.underlying75
abbrev ul81 := Try.underlying81
abbrev ul86 := Try.underlying86
abbrev ul91 := Try.underlying91
abbrev ul94 := Try.underlying94
abbrev Fg := Try.underlying98
abbrev ul100 := Try.underlying100
abbrev Cw := Try.underlying102
abbrev Ed := Try.underlying104

theorem Q7 : tp.follows .mixedOrders = true := by kernel_rfl
theorem i3 : Zo tp 3 (.int .i64 0) 1 8 := Zv (by kernel_rfl)
theorem i4 : Zo tp 4 (.bool false) 1 1 := Zv (by kernel_rfl)
theorem i5 : Zo tp 5 (.int .u8 0) 1 1 := Zv (by kernel_rfl)
theorem i9 : Zo tp 9 (.string ⟨#[]⟩) 1 16 := Zv (by kernel_rfl)
theorem i22 : Zo tp 22 (.agg #[.int .u8 0, .int .u8 0, .int .u8 0, .int .u8 0, .int .u8 0, .int .u8 0, .int .u8 0, .int .u8 0, .int .u8 0, .int .u8 0, .int .u8 0, .int .u8 0, .int .u8 0, .int .u8 0, .int .u8 0, .int .u8 0, .int .u8 0, .int .u8 0, .int .u8 0, .int .u8 0, .int .u8 0, .int .u8 0, .int .u8 0, .int .u8 0, .int .u8 0, .int .u8 0, .int .u8 0, .int .u8 0, .int .u8 0, .int .u8 0, .int .u8 0, .int .u8 0, .int .u8 0, .int .u8 0, .int .u8 0, .int .u8 0, .int .u8 0, .int .u8 0, .int .u8 0, .int .u8 0, .int .u8 0, .int .u8 0, .int .u8 0, .int .u8 0, .int .u8 0, .int .u8 0, .int .u8 0, .int .u8 0, .int .u8 0, .int .u8 0, .int .u8 0, .int .u8 0, .int .u8 0, .int .u8 0, .int .u8 0, .int .u8 0, .int .u8 0, .int .u8 0, .int .u8 0, .int .u8 0, .int .u8 0, .int .u8 0, .int .u8 0, .int .u8 0, .int .u8 0, .int .u8 0, .int .u8 0, .int .u8 0, .int .u8 0, .int .u8 0, .int .u8 0, .int .u8 0, .int .u8 0, .int .u8 0, .int .u8 0, .int .u8 0, .int .u8 0, .int .u8 0, .int .u8 0, .int .u8 0, .int .u8 0, .int .u8 0, .int .u8 0, .int .u8 0, .int .u8 0, .int .u8 0, .int .u8 0, .int .u8 0, .int .u8 0, .int .u8 0, .int .u8 0, .int .u8 0, .int .u8 0, .int .u8 0, .int .u8 0, .int .u8 0, .int .u8 0, .int .u8 0, .int .u8 0, .int .u8 0, .int .u8 0, .int .u8 0, .int .u8 0, .int .u8 0, .int .u8 0, .int .u8 0, .int .u8 0, .int .u8 0, .int .u8 0, .int .u8 0, .int .u8 0, .int .u8 0, .int .u8 0, .int .u8 0, .int .u8 0, .int .u8 0, .int .u8 0, .int .u8 0, .int .u8 0, .int .u8 0, .int .u8 0, .int .u8 0, .int .u8 0, .int .u8 0, .int .u8 0, .int .u8 0, .int .u8 0, .int .u8 0, .int .u8 0, .int .u8 0, .int .u8 0, .int .u8 0, .int .u8 0, .int .u8 0, .int .u8 0, .int .u8 0, .int .u8 0, .int .u8 0, .int .u8 0, .int .u8 0, .int .u8 0, .int .u8 0, .int .u8 0, .int .u8 0, .int .u8 0, .int .u8 0, .int .u8 0, .int .u8 0, .int .u8 0, .int .u8 0, .int .u8 0, .int .u8 0, .int .u8 0, .int .u8 0, .int .u8 0, .int .u8 0, .int .u8 0, .int .u8 0, .int .u8 0, .int .u8 0, .int .u8 0, .int .u8 0, .int .u8 0, .int .u8 0, .int .u8 0, .int .u8 0, .int .u8 0, .int .u8 0, .int .u8 0, .int .u8 0, .int .u8 0, .int .u8 0, .int .u8 0, .int .u8 0, .int .u8 0, .int .u8 0, .int .u8 0, .int .u8 0, .int .u8 0, .int .u8 0, .int .u8 0, .int .u8 0, .int .u8 0, .int .u8 0, .int .u8 0, .int .u8 0, .int .u8 0, .int .u8 0, .int .u8 0, .int .u8 0, .int .u8 0, .int .u8 0, .int .u8 0, .int .u8 0, .int .u8 0, .int .u8 0, .int .u8 0, .int .u8 0, .int .u8 0, .int .u8 0, .int .u8 0, .int .u8 0, .int .u8 0, .int .u8 0, .int .u8 0, .int .u8 0, .int .u8 0, .int .u8 0, .int .u8 0, .int .u8 0, .int .u8 0, .int .u8 0, .int .u8 0, .int .u8 0, .int .u8 0, .int .u8 0, .int .u8 0, .int .u8 0, .int .u8 0, .int .u8 0, .int .u8 0, .int .u8 0, .int .u8 0, .int .u8 0, .int .u8 0, .int .u8 0, .int .u8 0, .int .u8 0, .int .u8 0, .int .u8 0, .int .u8 0, .int .u8 0, .int .u8 0, .int .u8 0, .int .u8 0, .int .u8 0, .int .u8 0, .int .u8 0, .int .u8 0, .int .u8 0, .int .u8 0, .int .u8 0, .int .u8 0, .int .u8 0, .int .u8 0, .int .u8 0, .int .u8 0, .int .u8 0, .int .u8 0, .int .u8 0, .int .u8 0, .int .u8 0, .int .u8 0, .int .u8 0, .int .u8 0, .int .u8 0]) 256 256 := Zv (by kernel_rfl)
theorem i24 : Zo tp 24 (.agg #[.int .u8 0, .int .u8 0, .int .u8 0, .int .u8 0, .int .u8 0, .int .u8 0, .int .u8 0, .int .u8 0, .int .u8 0, .int .u8 0, .int .u8 0, .int .u8 0, .int .u8 0, .int .u8 0, .int .u8 0, .int .u8 0, .int .u8 0, .int .u8 0, .int .u8 0, .int .u8 0, .int .u8 0, .int .u8 0, .int .u8 0, .int .u8 0, .int .u8 0, .int .u8 0, .int .u8 0, .int .u8 0, .int .u8 0, .int .u8 0, .int .u8 0, .int .u8 0, .int .u8 0, .int .u8 0, .int .u8 0, .int .u8 0, .int .u8 0, .int .u8 0, .int .u8 0, .int .u8 0, .int .u8 0, .int .u8 0, .int .u8 0, .int .u8 0, .int .u8 0, .int .u8 0, .int .u8 0, .int .u8 0, .int .u8 0, .int .u8 0, .int .u8 0, .int .u8 0, .int .u8 0, .int .u8 0, .int .u8 0, .int .u8 0, .int .u8 0, .int .u8 0, .int .u8 0, .int .u8 0, .int .u8 0, .int .u8 0, .int .u8 0, .int .u8 0, .int .u8 0, .int .u8 0, .int .u8 0, .int .u8 0, .int .u8 0, .int .u8 0, .int .u8 0, .int .u8 0, .int .u8 0, .int .u8 0, .int .u8 0, .int .u8 0, .int .u8 0, .int .u8 0, .int .u8 0, .int .u8 0, .int .u8 0, .int .u8 0, .int .u8 0, .int .u8 0, .int .u8 0, .int .u8 0, .int .u8 0, .int .u8 0, .int .u8 0, .int .u8 0, .int .u8 0, .int .u8 0, .int .u8 0, .int .u8 0, .int .u8 0, .int .u8 0, .int .u8 0, .int .u8 0, .int .u8 0, .int .u8 0, .int .u8 0, .int .u8 0, .int .u8 0, .int .u8 0, .int .u8 0, .int .u8 0, .int .u8 0, .int .u8 0, .int .u8 0, .int .u8 0, .int .u8 0, .int .u8 0, .int .u8 0, .int .u8 0, .int .u8 0, .int .u8 0, .int .u8 0, .int .u8 0, .int .u8 0, .int .u8 0, .int .u8 0, .int .u8 0, .int .u8 0, .int .u8 0, .int .u8 0, .int .u8 0, .int .u8 0, .int .u8 0, .int .u8 0, .int .u8 0, .int .u8 0, .int .u8 0, .int .u8 0, .int .u8 0, .int .u8 0, .int .u8 0, .int .u8 0, .int .u8 0, .int .u8 0, .int .u8 0, .int .u8 0, .int .u8 0, .int .u8 0, .int .u8 0, .int .u8 0, .int .u8 0, .int .u8 0, .int .u8 0, .int .u8 0, .int .u8 0, .int .u8 0, .int .u8 0, .int .u8 0, .int .u8 0, .int .u8 0, .int .u8 0, .int .u8 0, .int .u8 0, .int .u8 0, .int .u8 0, .int .u8 0, .int .u8 0, .int .u8 0, .int .u8 0, .int .u8 0, .int .u8 0, .int .u8 0, .int .u8 0, .int .u8 0, .int .u8 0, .int .u8 0, .int .u8 0, .int .u8 0, .int .u8 0, .int .u8 0, .int .u8 0, .int .u8 0, .int .u8 0, .int .u8 0, .int .u8 0, .int .u8 0, .int .u8 0, .int .u8 0, .int .u8 0, .int .u8 0, .int .u8 0, .int .u8 0, .int .u8 0, .int .u8 0, .int .u8 0, .int .u8 0, .int .u8 0, .int .u8 0, .int .u8 0, .int .u8 0, .int .u8 0, .int .u8 0, .int .u8 0, .int .u8 0, .int .u8 0, .int .u8 0, .int .u8 0, .int .u8 0, .int .u8 0, .int .u8 0, .int .u8 0, .int .u8 0, .int .u8 0, .int .u8 0, .int .u8 0, .int .u8 0, .int .u8 0, .int .u8 0, .int .u8 0, .int .u8 0, .int .u8 0, .int .u8 0, .int .u8 0, .int .u8 0, .int .u8 0, .int .u8 0, .int .u8 0, .int .u8 0, .int .u8 0, .int .u8 0, .int .u8 0, .int .u8 0, .int .u8 0, .int .u8 0, .int .u8 0, .int .u8 0, .int .u8 0, .int .u8 0, .int .u8 0, .int .u8 0, .int .u8 0, .int .u8 0, .int .u8 0, .int .u8 0, .int .u8 0, .int .u8 0, .int .u8 0, .int .u8 0, .int .u8 0, .int .u8 0, .int .u8 0, .int .u8 0, .int .u8 0, .int .u8 0, .int .u8 0, .int .u8 0, .int .u8 0, .int .u8 0, .int .u8 0, .int .u8 0, .int .u8 0, .int .i64 0]) 257 264 := Zv (by kernel_rfl)
theorem i25 : Zo tp 25 (.slice none 0 0) 1 24 := Zv (by kernel_rfl)
theorem i26 : Zo tp 26 (.slice none 0 0) 1 24 := Zv (by kernel_rfl)
theorem i28 : Zo tp 28 (.agg #[.int .u8 0, .int .u8 0, .int .u8 0, .int .u8 0, .int .u8 0, .int .u8 0, .int .u8 0, .int .u8 0, .int .u8 0, .int .u8 0, .int .u8 0, .int .u8 0, .int .u8 0, .int .u8 0, .int .u8 0, .int .u8 0, .int .u8 0, .int .u8 0, .int .u8 0, .int .u8 0, .int .u8 0, .int .u8 0, .int .u8 0, .int .u8 0, .int .u8 0, .int .u8 0, .int .u8 0, .int .u8 0, .int .u8 0, .int .u8 0, .int .u8 0, .int .u8 0, .int .u8 0, .int .u8 0, .int .u8 0, .int .u8 0, .int .u8 0, .int .u8 0, .int .u8 0, .int .u8 0, .int .u8 0, .int .u8 0, .int .u8 0, .int .u8 0, .int .u8 0, .int .u8 0, .int .u8 0, .int .u8 0, .int .u8 0, .int .u8 0, .int .u8 0, .int .u8 0, .int .u8 0, .int .u8 0, .int .u8 0, .int .u8 0, .int .u8 0, .int .u8 0, .int .u8 0, .int .u8 0, .int .u8 0, .int .u8 0, .int .u8 0, .int .u8 0, .int .u8 0, .int .u8 0, .int .u8 0, .int .u8 0, .int .u8 0, .int .u8 0, .int .u8 0, .int .u8 0, .int .u8 0, .int .u8 0, .int .u8 0, .int .u8 0, .int .u8 0, .int .u8 0, .int .u8 0, .int .u8 0, .int .u8 0, .int .u8 0, .int .u8 0, .int .u8 0, .int .u8 0, .int .u8 0, .int .u8 0, .int .u8 0, .int .u8 0, .int .u8 0, .int .u8 0, .int .u8 0, .int .u8 0, .int .u8 0, .int .u8 0, .int .u8 0, .int .u8 0, .int .u8 0, .int .u8 0, .int .u8 0, .int .u8 0, .int .u8 0, .int .u8 0, .int .u8 0, .int .u8 0, .int .u8 0, .int .u8 0, .int .u8 0, .int .u8 0, .int .u8 0, .int .u8 0, .int .u8 0, .int .u8 0, .int .u8 0, .int .u8 0, .int .u8 0, .int .u8 0, .int .u8 0, .int .u8 0, .int .u8 0, .int .u8 0, .int .u8 0, .int .u8 0, .int .u8 0, .int .u8 0, .int .u8 0, .int .u8 0, .int .u8 0, .int .u8 0, .int .u8 0, .int .u8 0, .int .u8 0, .int .u8 0, .int .u8 0, .int .u8 0, .int .u8 0, .int .u8 0, .int .u8 0, .int .u8 0, .int .u8 0, .int .u8 0, .int .u8 0, .int .u8 0, .int .u8 0, .int .u8 0, .int .u8 0, .int .u8 0, .int .u8 0, .int .u8 0, .int .u8 0, .int .u8 0, .int .u8 0, .int .u8 0, .int .u8 0, .int .u8 0, .int .u8 0, .int .u8 0, .int .u8 0, .int .u8 0, .int .u8 0, .int .u8 0, .int .u8 0, .int .u8 0, .int .u8 0, .int .u8 0, .int .u8 0, .int .u8 0, .int .u8 0, .int .u8 0, .int .u8 0, .int .u8 0, .int .u8 0, .int .u8 0, .int .u8 0, .int .u8 0, .int .u8 0, .int .u8 0, .int .u8 0, .int .u8 0, .int .u8 0, .int .u8 0, .int .u8 0, .int .u8 0, .int .u8 0, .int .u8 0, .int .u8 0, .int .u8 0, .int .u8 0, .int .u8 0, .int .u8 0, .int .u8 0, .int .u8 0, .int .u8 0, .int .u8 0, .int .u8 0, .int .u8 0, .int .u8 0, .int .u8 0, .int .u8 0, .int .u8 0, .int .u8 0, .int .u8 0, .int .u8 0, .int .u8 0, .int .u8 0, .int .u8 0, .int .u8 0, .int .u8 0, .int .u8 0, .int .u8 0, .int .u8 0, .int .u8 0, .int .u8 0, .int .u8 0, .int .u8 0, .int .u8 0, .int .u8 0, .int .u8 0, .int .u8 0, .int .u8 0, .int .u8 0, .int .u8 0, .int .u8 0, .int .u8 0, .int .u8 0, .int .u8 0, .int .u8 0, .int .u8 0, .int .u8 0, .int .u8 0, .int .u8 0, .int .u8 0, .int .u8 0, .int .u8 0, .int .u8 0, .int .u8 0, .int .u8 0, .int .u8 0, .int .u8 0, .int .u8 0, .int .u8 0, .int .u8 0, .int .u8 0, .int .u8 0, .int .u8 0, .int .u8 0, .int .u8 0, .int .u8 0, .int .u8 0, .int .u8 0, .int .u8 0, .int .u8 0, .int .u8 0, .int .u8 0, .int .u8 0, .int .u8 0, .int .i64 0, .slice none 0 0, .slice none 0 0]) 259 312 := Zv (by kernel_rfl)
theorem i29 : Zo tp 29 (.slice none 0 0) 1 24 := Zv (by kernel_rfl)
theorem i30 : Zo tp 30 (.int .i64 0) 1 8 := Zv (by kernel_rfl)
theorem i42 : Zo tp 42 (.agg #[.int .i64 0, .int .i64 0]) 2 16 := Zv (by kernel_rfl)
theorem i54 : Zo tp 54 (.agg #[.slice none 0 0]) 1 24 := Zv (by kernel_rfl)
theorem i56 : Zo tp 56 (.slice none 0 0) 1 24 := Zv (by kernel_rfl)
theorem i57 : Zo tp 57 (.slice none 0 0) 1 24 := Zv (by kernel_rfl)
theorem i59 : Zo tp 59 (.agg #[.slice none 0 0, .slice none 0 0, .slice none 0 0, .slice none 0 0]) 4 96 := Zv (by kernel_rfl)
theorem i61 : Zo tp 61 (.slice none 0 0) 1 24 := Zv (by kernel_rfl)
theorem i63 : Zo tp 63 (.agg #[.int .i64 0, .slice none 0 0]) 2 32 := Zv (by kernel_rfl)
theorem i66 : Zo tp 66 (.agg #[.slice none 0 0]) 1 24 := Zv (by kernel_rfl)
theorem i69 : Zo tp 69 (.slice none 0 0) 1 24 := Zv (by kernel_rfl)
theorem i71 : Zo tp 71 (.agg #[.slice none 0 0, .slice none 0 0]) 2 48 := Zv (by kernel_rfl)
theorem i73 : Zo tp 73 (.pointer none) 1 8 := Zv (by kernel_rfl)
theorem i75 : Zo tp 75 (.agg #[.string ⟨#[]⟩, .bool false]) 2 24 := Zv (by kernel_rfl)
theorem i81 : Zo tp 81 (.pointer none) 1 8 := Zv (by kernel_rfl)
theorem i86 : Zo tp 86 (.agg #[.slice none 0 0, .bool false]) 2 32 := Zv (by kernel_rfl)
theorem i91 : Zo tp 91 (.agg #[.int .u8 0, .int .u8 0, .int .u8 0, .int .u8 0, .int .u8 0, .int .u8 0, .int .u8 0, .int .u8 0, .int .u8 0, .int .u8 0, .int .u8 0, .int .u8 0, .int .u8 0, .int .u8 0, .int .u8 0, .int .u8 0, .int .u8 0, .int .u8 0, .int .u8 0, .int .u8 0, .int .u8 0, .int .u8 0, .int .u8 0, .int .u8 0, .int .u8 0, .int .u8 0, .int .u8 0, .int .u8 0, .int .u8 0, .int .u8 0, .int .u8 0, .int .u8 0, .int .u8 0, .int .u8 0, .int .u8 0, .int .u8 0, .int .u8 0, .int .u8 0, .int .u8 0, .int .u8 0, .int .u8 0, .int .u8 0, .int .u8 0, .int .u8 0, .int .u8 0, .int .u8 0, .int .u8 0, .int .u8 0, .int .u8 0, .int .u8 0, .int .u8 0, .int .u8 0, .int .u8 0, .int .u8 0, .int .u8 0, .int .u8 0, .int .u8 0, .int .u8 0, .int .u8 0, .int .u8 0, .int .u8 0, .int .u8 0, .int .u8 0, .int .u8 0, .int .u8 0, .int .u8 0, .int .u8 0, .int .u8 0, .int .u8 0, .int .u8 0, .int .u8 0, .int .u8 0, .int .u8 0, .int .u8 0, .int .u8 0, .int .u8 0, .int .u8 0, .int .u8 0, .int .u8 0, .int .u8 0, .int .u8 0, .int .u8 0, .int .u8 0, .int .u8 0, .int .u8 0, .int .u8 0, .int .u8 0, .int .u8 0, .int .u8 0, .int .u8 0, .int .u8 0, .int .u8 0, .int .u8 0, .int .u8 0, .int .u8 0, .int .u8 0, .int .u8 0, .int .u8 0, .int .u8 0, .int .u8 0, .int .u8 0, .int .u8 0, .int .u8 0, .int .u8 0, .int .u8 0, .int .u8 0, .int .u8 0, .int .u8 0, .int .u8 0, .int .u8 0, .int .u8 0, .int .u8 0, .int .u8 0, .int .u8 0, .int .u8 0, .int .u8 0, .int .u8 0, .int .u8 0, .int .u8 0, .int .u8 0, .int .u8 0, .int .u8 0, .int .u8 0, .int .u8 0, .int .u8 0, .int .u8 0, .int .u8 0, .int .u8 0, .int .u8 0, .int .u8 0, .int .u8 0, .int .u8 0, .int .u8 0, .int .u8 0, .int .u8 0, .int .u8 0, .int .u8 0, .int .u8 0, .int .u8 0, .int .u8 0, .int .u8 0, .int .u8 0, .int .u8 0, .int .u8 0, .int .u8 0, .int .u8 0, .int .u8 0, .int .u8 0, .int .u8 0, .int .u8 0, .int .u8 0, .int .u8 0, .int .u8 0, .int .u8 0, .int .u8 0, .int .u8 0, .int .u8 0, .int .u8 0, .int .u8 0, .int .u8 0, .int .u8 0, .int .u8 0, .int .u8 0, .int .u8 0, .int .u8 0, .int .u8 0, .int .u8 0, .int .u8 0, .int .u8 0, .int .u8 0, .int .u8 0, .int .u8 0, .int .u8 0, .int .u8 0, .int .u8 0, .int .u8 0, .int .u8 0, .int .u8 0, .int .u8 0, .int .u8 0, .int .u8 0, .int .u8 0, .int .u8 0, .int .u8 0, .int .u8 0, .int .u8 0, .int .u8 0, .int .u8 0, .int .u8 0, .int .u8 0, .int .u8 0, .int .u8 0, .int .u8 0, .int .u8 0, .int .u8 0, .int .u8 0, .int .u8 0, .int .u8 0, .int .u8 0, .int .u8 0, .int .u8 0, .int .u8 0, .int .u8 0, .int .u8 0, .int .u8 0, .int .u8 0, .int .u8 0, .int .u8 0, .int .u8 0, .int .u8 0, .int .u8 0, .int .u8 0, .int .u8 0, .int .u8 0, .int .u8 0, .int .u8 0, .int .u8 0, .int .u8 0, .int .u8 0, .int .u8 0, .int .u8 0, .int .u8 0, .int .u8 0, .int .u8 0, .int .u8 0, .int .u8 0, .int .u8 0, .int .u8 0, .int .u8 0, .int .u8 0, .int .u8 0, .int .u8 0, .int .u8 0, .int .u8 0, .int .u8 0, .int .u8 0, .int .u8 0, .int .u8 0, .int .u8 0, .int .u8 0, .int .u8 0, .int .u8 0, .int .u8 0, .int .u8 0, .int .u8 0, .int .u8 0, .int .u8 0, .int .u8 0, .int .u8 0, .int .u8 0, .int .u8 0, .int .u8 0, .int .u8 0, .int .u8 0, .int .u8 0, .int .u8 0, .int .i64 0, .slice none 0 0, .slice none 0 0]) 259 312 := Zv (by kernel_rfl)
theorem i98 : Zo tp 98 (.agg #[.slice none 0 0, .slice none 0 0, .slice none 0 0, .int .u8 0, .int .u8 0, .int .u8 0, .int .u8 0, .int .u8 0, .int .u8 0, .int .u8 0, .int .u8 0, .int .u8 0, .int .u8 0, .int .u8 0, .int .u8 0, .int .u8 0, .int .u8 0, .int .u8 0, .int .u8 0, .int .u8 0, .int .u8 0, .int .u8 0, .int .u8 0, .int .u8 0, .int .u8 0, .int .u8 0, .int .u8 0, .int .u8 0, .int .u8 0, .int .u8 0, .int .u8 0, .int .u8 0, .int .u8 0, .int .u8 0, .int .u8 0, .int .u8 0, .int .u8 0, .int .u8 0, .int .u8 0, .int .u8 0, .int .u8 0, .int .u8 0, .int .u8 0, .int .u8 0, .int .u8 0, .int .u8 0, .int .u8 0, .int .u8 0, .int .u8 0, .int .u8 0, .int .u8 0, .int .u8 0, .int .u8 0, .int .u8 0, .int .u8 0, .int .u8 0, .int .u8 0, .int .u8 0, .int .u8 0, .int .u8 0, .int .u8 0, .int .u8 0, .int .u8 0, .int .u8 0, .int .u8 0, .int .u8 0, .int .u8 0, .int .u8 0, .int .u8 0, .int .u8 0, .int .u8 0, .int .u8 0, .int .u8 0, .int .u8 0, .int .u8 0, .int .u8 0, .int .u8 0, .int .u8 0, .int .u8 0, .int .u8 0, .int .u8 0, .int .u8 0, .int .u8 0, .int .u8 0, .int .u8 0, .int .u8 0, .int .u8 0, .int .u8 0, .int .u8 0, .int .u8 0, .int .u8 0, .int .u8 0, .int .u8 0, .int .u8 0, .int .u8 0, .int .u8 0, .int .u8 0, .int .u8 0, .int .u8 0, .int .u8 0, .int .u8 0, .int .u8 0, .int .u8 0, .int .u8 0, .int .u8 0, .int .u8 0, .int .u8 0, .int .u8 0, .int .u8 0, .int .u8 0, .int .u8 0, .int .u8 0, .int .u8 0, .int .u8 0, .int .u8 0, .int .u8 0, .int .u8 0, .int .u8 0, .int .u8 0, .int .u8 0, .int .u8 0, .int .u8 0, .int .u8 0, .int .u8 0, .int .u8 0, .int .u8 0, .int .u8 0, .int .u8 0, .int .u8 0, .int .u8 0, .int .u8 0, .int .u8 0, .int .u8 0, .int .u8 0, .int .u8 0, .int .u8 0, .int .u8 0, .int .u8 0, .int .u8 0, .int .u8 0, .int .u8 0, .int .u8 0, .int .u8 0, .int .u8 0, .int .u8 0, .int .u8 0, .int .u8 0, .int .u8 0, .int .u8 0, .int .u8 0, .int .u8 0, .int .u8 0, .int .u8 0, .int .u8 0, .int .u8 0, .int .u8 0, .int .u8 0, .int .u8 0, .int .u8 0, .int .u8 0, .int .u8 0, .int .u8 0, .int .u8 0, .int .u8 0, .int .u8 0, .int .u8 0, .int .u8 0, .int .u8 0, .int .u8 0, .int .u8 0, .int .u8 0, .int .u8 0, .int .u8 0, .int .u8 0, .int .u8 0, .int .u8 0, .int .u8 0, .int .u8 0, .int .u8 0, .int .u8 0, .int .u8 0, .int .u8 0, .int .u8 0, .int .u8 0, .int .u8 0, .int .u8 0, .int .u8 0, .int .u8 0, .int .u8 0, .int .u8 0, .int .u8 0, .int .u8 0, .int .u8 0, .int .u8 0, .int .u8 0, .int .u8 0, .int .u8 0, .int .u8 0, .int .u8 0, .int .u8 0, .int .u8 0, .int .u8 0, .int .u8 0, .int .u8 0, .int .u8 0, .int .u8 0, .int .u8 0, .int .u8 0, .int .u8 0, .int .u8 0, .int .u8 0, .int .u8 0, .int .u8 0, .int .u8 0, .int .u8 0, .int .u8 0, .int .u8 0, .int .u8 0, .int .u8 0, .int .u8 0, .int .u8 0, .int .u8 0, .int .u8 0, .int .u8 0, .int .u8 0, .int .u8 0, .int .u8 0, .int .u8 0, .int .u8 0, .int .u8 0, .int .u8 0, .int .u8 0, .int .u8 0, .int .u8 0, .int .u8 0, .int .u8 0, .int .u8 0, .int .u8 0, .int .u8 0, .int .u8 0, .int .u8 0, .int .u8 0, .int .u8 0, .int .u8 0, .int .u8 0, .int .u8 0, .int .u8 0, .int .u8 0, .int .u8 0, .int .u8 0, .int .u8 0, .int .u8 0, .int .u8 0, .int .u8 0, .int .u8 0, .int .u8 0, .int .u8 0, .int .u8 0, .int .u8 0, .int .i64 0, .slice none 0 0, .slice none 0 0, .int .i64 0]) 263 392 := Zv (by kernel_rfl)
theorem i100 : Zo tp 100 (.int .u64 0) 1 8 := Zv (by kernel_rfl)
theorem i102 : Zo tp 102 (.agg #[.int .u64 0, .int .u64 0, .int .u64 0, .int .u64 0]) 4 32 := Zv (by kernel_rfl)
theorem i104 : Zo tp 104 (.agg #[.int .u64 0, .int .u64 0, .int .u64 0, .int .u64 0, .int .i64 0, .int .i64 0, .int .i64 0, .bool false, .slice none 0 0]) 9 88 := Zv (by kernel_rfl)
end Go.Rv
