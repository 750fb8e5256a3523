/- A LOGIC OF ABSTRACT STATES OVER THE MODEL, part X: a region whose order is drawn, told operation by operation. -/
import Derived.Test.YtcmfaclkgdmpbaaGreatDoorRvV
namespace Go.Rv
abbrev DC.int (k : IntKind) (n : Int) : DC := .ex (.int k n)
abbrev DC.bool (b : Bool) : DC := .ex (.bool b)
abbrev DC.str (s : ByteArray) : DC := .ex (.string s)
abbrev DC.ptr (b off : Nat) : DC := .ex (.pointer (some ⟨b, off, none⟩))
section
variable {P : Program} {N : Nat} {ops : Array Oper}
theorem Certs.snoc {i : Nat} {t t' : St} {cs : List Ct} (h : Certs P N ops i t cs t') : ∀ {c : Ct}, Ct.ok P N ops (i + cs.length) c → c.met t' → Certs P N ops i t (cs ++ [c]) (c.go t') := by
 induction h with
 | nil i t => exact fun hok hm => .cons hok hm (.nil _ _)
 | cons hok hm h ih =>
  intro c hok' hm'
  refine .cons hok hm (ih ?_ hm')
  rw [Qgc] at hok'
  have e : ∀ (i n : Nat), i + (n + 1) = i + 1 + n := fun i n => by omega
  rw [e] at hok'
  exact hok'
theorem Qae.snoc {i : Nat} {t t' : (Nat → Gh) → St} {cs : (Nat → Gh) → List Ct} {Ds : List (List Nat)} (h : Qae P N ops i t cs Ds t') : ∀ {c : (Nat → Gh) → Ct} (D : List Nat), (∀ γ γ', (∀ k ∈ D, γ k = γ' k) → c γ = c γ') →
  (∀ γ u, (c γ).met u → One P N ops (i + Ds.length) u (fun u' => ∃ g, u' = (c (setG γ (i + Ds.length) g)).go u)) → (∀ γ, (c γ).met (t' γ)) → Qae P N ops i t (fun γ => cs γ ++ [c γ]) (Ds ++ [D]) (fun γ => (c γ).go (t' γ)) := by
 induction h with
 | nil i t => exact fun D hD hok hm => .cons D hD hok hm (.nil _ _)
 | cons D hD hok hm h ih =>
  intro c D' hD' hok' hm'
  rename_i i t t' c0 cs Ds
  have e : ∀ (i n : Nat), i + (n + 1) = i + 1 + n := fun i n => by omega
  rw [Qgc, e] at hok'
  exact .cons D hD hok hm (ih D' hD' hok' hm')
def DG (P : Program) (N : Nat) (ops : Array Oper) (id : Nat) (Q : Exit → St → Prop) (s : St) (i : Nat) (pre : List Ct) (t : St) : Prop := Certs P N ops 0 s pre.reverse t ∧ pre.length = i → T P N (.region id ops true) s Q
theorem Xk {id : Nat} {Q : Exit → St → Prop} {s : St} (h : DG P N ops id Q s 0 [] s) : T P N (.region id ops true) s Q := h ⟨.nil 0 s, rfl⟩
theorem DG.step {id i : Nat} {Q : Exit → St → Prop} {s t : St} {pre : List Ct} {c : Ct} (hok : Ct.ok P N ops i c) (hm : c.met t) (h : DG P N ops id Q s (i + 1) (c :: pre) (c.go t)) : DG P N ops id Q s i pre t := by
 rintro ⟨h1, h2⟩
 refine h ⟨?_, by simp [h2]⟩
 rw [List.reverse_cons]
 exact h1.snoc (by rw [Qgq, Qjb, h2]; exact hok) hm
theorem DG.fin {id i : Nat} {Q : Exit → St → Prop} {s t s1 : St} {pre : List Ct} {ms : List Nat} (hmix : P.follows .mixedOrders = true) (hlen : i = ops.size) (hed : Ta ops = true) (hm : Pq ops ms = true) (ha : Px ms pre.reverse = true)
  (hs : Sub t.slots s1.slots) (ht : t.tab = s1.tab) (hq : ∀ u, Zx u s1 → Q .normal u) : DG P N ops id Q s i pre t := by
 rintro ⟨h1, h2⟩
 exact T.draw hmix h1 (by rw [Qjb, h2, hlen]) hed hm ha hs ht hq
def DGG (P : Program) (N : Nat) (ops : Array Oper) (id : Nat) (Q : Exit → St → Prop) (s : St) (i : Nat) (pre : (Nat → Gh) → List Ct) (Ds : List (List Nat)) (t : (Nat → Gh) → St) : Prop :=
 Qae P N ops 0 (fun _ => s) (fun γ => (pre γ).reverse) Ds.reverse t ∧ Ds.length = i → T P N (.region id ops true) s Q
theorem Us {id : Nat} {Q : Exit → St → Prop} {s : St} (h : DGG P N ops id Q s 0 (fun _ => []) [] (fun _ => s)) : T P N (.region id ops true) s Q := h ⟨.nil 0 _, rfl⟩
theorem DGG.step {id i : Nat} {Q : Exit → St → Prop} {s : St} {t : (Nat → Gh) → St} {pre : (Nat → Gh) → List Ct} {Ds : List (List Nat)} {c : (Nat → Gh) → Ct} (D : List Nat) (hD : ∀ γ γ', (∀ k ∈ D, γ k = γ' k) → c γ = c γ')
  (hok : ∀ γ u, (c γ).met u → One P N ops i u (fun u' => ∃ g, u' = (c (setG γ i g)).go u)) (hm : ∀ γ, (c γ).met (t γ)) (h : DGG P N ops id Q s (i + 1) (fun γ => c γ :: pre γ) (D :: Ds) (fun γ => (c γ).go (t γ))) : DGG P N ops id Q s i pre Ds t := by
 rintro ⟨h1, h2⟩
 refine h ⟨?_, by simp [h2]⟩
 have := h1.snoc (c := c) D hD (by rw [Qgq, Qjb, h2]; exact hok) hm
 simpa only [List.reverse_cons] using this
theorem DGG.fin {id i : Nat} {Q : Exit → St → Prop} {s : St} {t s1 : (Nat → Gh) → St} {pre : (Nat → Gh) → List Ct} {Ds : List (List Nat)} {ms : List Nat} (hmix : P.follows .mixedOrders = true) (hlen : i = ops.size) (hed : Ta ops = true) (hm : Pq ops ms = true) (hds : depsOk ms Ds.reverse = true) (ha : ∀ γ, Px ms (pre γ).reverse = true)
  (hs : ∀ γ, Sub (t γ).slots (s1 γ).slots) (ht : ∀ γ, (t γ).tab = (s1 γ).tab) (hq : ∀ γ u, Zx u (s1 γ) → Q .normal u) : DGG P N ops id Q s i pre Ds t := by
 rintro ⟨h1, h2⟩
 exact T.drawG hmix h1 (by rw [Qjb, h2, hlen]) hed hm hds ha hs ht hq
theorem DG.off {id i j d g : Nat} {Q : Exit → St → Prop} {s t : St} {pre : List Ct} {o : Oper} {x b : Bool} (hb : b = !x) (ho : ops[i]? = some o) (hg : o.guard = some (j, x)) (hj : (ops[j]?).bind (·.dst) = some g) (hd : o.dst = some d) (hN : Nat.blt d N = true) (hs : t.slots.lookup g = some (.c (.ex (.bool b))))
  (h : DG P N ops id Q s (i + 1) (⟨some d, .tup [], [(g, .c (.ex (.bool b)))], [], []⟩ :: pre) (Ct.go ⟨some d, .tup [], [(g, .c (.ex (.bool b)))], [], []⟩ t)) : DG P N ops id Q s i pre t :=
 DG.step (fun u hm => One.pU ho (.off j x g b hg hj (hm.slots _ (.head _)) hb) (fun d' h' => by rw [hd] at h'; cases h'; simpa using hN) (by rw [hd]; rfl)) ⟨fun p hp => by simp at hp; subst hp; exact hs, fun p hp => by cases hp⟩ h
theorem DG.gone {id i j d g : Nat} {Q : Exit → St → Prop} {s t : St} {pre : List Ct} {o : Oper} {x : Bool} (ho : ops[i]? = some o) (hg : o.guard = some (j, x)) (hj : (ops[j]?).bind (·.dst) = some g) (hd : o.dst = some d) (hN : Nat.blt d N = true) (hs : t.slots.lookup g = some (.tup []))
  (h : DG P N ops id Q s (i + 1) (⟨some d, .tup [], [(g, .tup [])], [], []⟩ :: pre) (Ct.go ⟨some d, .tup [], [(g, .tup [])], [], []⟩ t)) : DG P N ops id Q s i pre t :=
 DG.step (fun u hm => One.pU ho (.gone j x g hg hj (hm.slots _ (.head _))) (fun d' h' => by rw [hd] at h'; cases h'; simpa using hN) (by rw [hd]; rfl)) ⟨fun p hp => by simp at hp; subst hp; exact hs, fun p hp => by cases hp⟩ h
theorem DG.mv {id i d a : Nat} {Q : Exit → St → Prop} {s t : St} {pre : List Ct} {o : Oper} {v : AV} (ho : ops[i]? = some o) (hg : o.guard = none) (hop : o.op = .move (.tmp a)) (hd : o.dst = some d) (hN : Nat.blt d N = true) (hs : t.slots.lookup a = some v)
  (h : DG P N ops id Q s (i + 1) (⟨some d, v, [(a, v)], [], []⟩ :: pre) (Ct.go ⟨some d, v, [(a, v)], [], []⟩ t)) : DG P N ops id Q s i pre t :=
 DG.step (fun u hm => One.step ho (.free hg) (OpT.move hop (fun d' h' => by rw [hd] at h'; cases h'; simpa using hN) (show u.ev (.tmp a) = some v from hm.slots (a, v) (.head _)) (by rw [hd]; rfl))) ⟨fun p hp => by simp at hp; subst hp; exact hs, fun p hp => by cases hp⟩ h
theorem DGG.off {id i j d g : Nat} {Q : Exit → St → Prop} {s : St} {t : (Nat → Gh) → St} {pre : (Nat → Gh) → List Ct} {Ds : List (List Nat)} {o : Oper} {x b : Bool} (hb : b = !x) (ho : ops[i]? = some o) (hg : o.guard = some (j, x)) (hj : (ops[j]?).bind (·.dst) = some g) (hd : o.dst = some d) (hN : Nat.blt d N = true) (hs : ∀ γ, (t γ).slots.lookup g = some (.c (.ex (.bool b))))
  (h : DGG P N ops id Q s (i + 1) (fun γ => ⟨some d, .tup [], [(g, .c (.ex (.bool b)))], [], []⟩ :: pre γ) ([] :: Ds) (fun γ => Ct.go ⟨some d, .tup [], [(g, .c (.ex (.bool b)))], [], []⟩ (t γ))) : DGG P N ops id Q s i pre Ds t :=
 DGG.step (c := fun _ => ⟨some d, .tup [], [(g, .c (.ex (.bool b)))], [], []⟩) [] (fun _ _ _ => rfl) (fun γ u hm => One.pU ho (.off j x g b hg hj (hm.slots _ (.head _)) hb) (fun d' h' => by rw [hd] at h'; cases h'; simpa using hN) (by rw [hd]; exact ⟨γ 0, rfl⟩)) (fun γ => ⟨fun p hp => by simp at hp; subst hp; exact hs γ, fun p hp => by cases hp⟩) h
theorem DGG.gone {id i j d g : Nat} {Q : Exit → St → Prop} {s : St} {t : (Nat → Gh) → St} {pre : (Nat → Gh) → List Ct} {Ds : List (List Nat)} {o : Oper} {x : Bool} (ho : ops[i]? = some o) (hg : o.guard = some (j, x)) (hj : (ops[j]?).bind (·.dst) = some g) (hd : o.dst = some d) (hN : Nat.blt d N = true) (hs : ∀ γ, (t γ).slots.lookup g = some (.tup []))
  (h : DGG P N ops id Q s (i + 1) (fun γ => ⟨some d, .tup [], [(g, .tup [])], [], []⟩ :: pre γ) ([] :: Ds) (fun γ => Ct.go ⟨some d, .tup [], [(g, .tup [])], [], []⟩ (t γ))) : DGG P N ops id Q s i pre Ds t :=
 DGG.step (c := fun _ => ⟨some d, .tup [], [(g, .tup [])], [], []⟩) [] (fun _ _ _ => rfl) (fun γ u hm => One.pU ho (.gone j x g hg hj (hm.slots _ (.head _))) (fun d' h' => by rw [hd] at h'; cases h'; simpa using hN) (by rw [hd]; exact ⟨γ 0, rfl⟩)) (fun γ => ⟨fun p hp => by simp at hp; subst hp; exact hs γ, fun p hp => by cases hp⟩) h
theorem Ct.met.s0 {a : Option Nat} {v x : AV} {p0 : Nat} {l : List (Nat × AV)} {ob up : List (Nat × Ob)} {t : St} (h : Ct.met ⟨a, v, (p0, x) :: l, ob, up⟩ t) : t.slots.lookup p0 = some x := h.slots (p0, x) (.head _)
theorem Ct.met.s1 {a : Option Nat} {v x : AV} {p0 : Nat} {q0 : Nat × AV} {l : List (Nat × AV)} {ob up : List (Nat × Ob)} {t : St} (h : Ct.met ⟨a, v, q0 :: (p0, x) :: l, ob, up⟩ t) : t.slots.lookup p0 = some x := h.slots (p0, x) (.tail _ (.head _))
theorem Ct.met.s2 {a : Option Nat} {v x : AV} {p0 : Nat} {q0 q1 : Nat × AV} {l : List (Nat × AV)} {ob up : List (Nat × Ob)} {t : St} (h : Ct.met ⟨a, v, q0 :: q1 :: (p0, x) :: l, ob, up⟩ t) : t.slots.lookup p0 = some x := h.slots (p0, x) (.tail _ (.tail _ (.head _)))
theorem Ct.met.s3 {a : Option Nat} {v x : AV} {p0 : Nat} {q0 q1 q2 : Nat × AV} {l : List (Nat × AV)} {ob up : List (Nat × Ob)} {t : St} (h : Ct.met ⟨a, v, q0 :: q1 :: q2 :: (p0, x) :: l, ob, up⟩ t) : t.slots.lookup p0 = some x := h.slots (p0, x) (.tail _ (.tail _ (.tail _ (.head _))))
theorem Ct.met.o0 {a : Option Nat} {v : AV} {x : Ob} {p0 : Nat} {l : List (Nat × AV)} {ob up : List (Nat × Ob)} {t : St} (h : Ct.met ⟨a, v, l, (p0, x) :: ob, up⟩ t) : t.tab[p0]? = some x := h.objs (p0, x) (.head _)
theorem Ct.met.o1 {a : Option Nat} {v : AV} {x : Ob} {p0 : Nat} {q0 : Nat × Ob} {l : List (Nat × AV)} {ob up : List (Nat × Ob)} {t : St} (h : Ct.met ⟨a, v, l, q0 :: (p0, x) :: ob, up⟩ t) : t.tab[p0]? = some x := h.objs (p0, x) (.tail _ (.head _))
theorem Ct.met.o2 {a : Option Nat} {v : AV} {x : Ob} {p0 : Nat} {q0 q1 : Nat × Ob} {l : List (Nat × AV)} {ob up : List (Nat × Ob)} {t : St} (h : Ct.met ⟨a, v, l, q0 :: q1 :: (p0, x) :: ob, up⟩ t) : t.tab[p0]? = some x := h.objs (p0, x) (.tail _ (.tail _ (.head _)))
end
theorem dl {o : Oper} {d N : Nat} (h : o.dst = some d) (hd : Nat.blt d N = true) : ∀ d', o.dst = some d' → d' < N := dlt h (by simpa using hd)
section
variable {P : Program} {N : Nat} {s : St} {Q : Exit → St → Prop} {ops : Array Oper}
theorem mv {o : Oper} {l : List Oper} {d : Nat} {x : Operand} {v : AV} (hx : s.ev x = some v) (ho : o.op = .move x) (hg : o.guard = none) (hd : o.dst = some d) (hN : Nat.blt d N = true) (h : TL' P N ops l (s.put d v) Q) : TL' P N ops (o :: l) s Q :=
 TL'.step (.free hg) (OpT.move ho (dl hd hN) hx (by rw [hd]; exact h))
theorem asg {o : Oper} {l : List Oper} {d : Nat} {x : Operand} {v : AV} (hx : s.ev x = some v) (ho : o.op = .assign x) (hg : o.guard = none) (hd : o.dst = some d) (hN : Nat.blt d N = true) (h : TL' P N ops l (s.put d v) Q) : TL' P N ops (o :: l) s Q :=
 TL'.step (.free hg) (OpT.assign ho (dl hd hN) hx (by rw [hd]; exact h))
theorem sp {o : Oper} {l : List Oper} (hg : o.guard = none) (h : OpT P N o s (fun s' => TL' P N ops l s' Q)) : TL' P N ops (o :: l) s Q := TL'.step (.free hg) h
end
end Go.Rv
