/- A LOGIC OF ABSTRACT STATES OVER THE MODEL, part Y: states told anew with what is not known ahead; elements of many cells, loaded. -/
import Derived.Test.YtcmfaclkgdmpbaaGreatDoorRvX
namespace Go.Rv
theorem J0 {sl : List (Nat × AV)} {tab : List Ob} (d i : Nat) {v : Value} {e : TypeId} {esz : Nat} {elems : List (List DC)} (hi : tab[i]? = some (.arrA v e esz elems)) : Zx ⟨(d, .c (.ex v)) :: sl, tab⟩ ⟨(d, .sl false esz elems) :: sl, tab⟩ :=
 (Zx.view (s := ⟨(d, .c (.ex v)) :: sl, tab⟩) d i (by simp) hi).trans (Fu (s := ⟨(d, .sl false esz elems) :: (d, .c (.ex v)) :: sl, tab⟩) _ (fun t u h => by
  simp only [Qhb] at h ⊢
  cases he : (t == d) with
  | true => rw [he] at h; exact h
  | false => rw [he] at h; exact h))
theorem Zy {sl : List (Nat × AV)} {tab : List Ob} (d : Nat) {l l' : List DC} (hw : Qct tab l l') : Zx ⟨(d, .agg l) :: sl, tab⟩ ⟨(d, .agg l') :: sl, tab⟩ :=
 (Zx.weakSlot (s := ⟨(d, .agg l) :: sl, tab⟩) d (by simp) hw).trans (Fu (s := ⟨(d, .agg l') :: (d, .agg l) :: sl, tab⟩) _ (fun t u h => by
  simp only [Qhb] at h ⊢
  cases he : (t == d) with
  | true => rw [he] at h; exact h
  | false => rw [he] at h; exact h))
def TurnG (s : St) (s' : Value → St) : Prop := ∀ (N : Nat) (F L : Reg) (a : Act) (w : World), Rel w N F L s a → ∃ v L', Rel w N F L' (s' v) a ∧ Ext L w L' w
section
variable {P : Program} {N : Nat} {s : St} {s' : Value → St} {Q : Exit → St → Prop} {ops : Array Oper}
theorem TL.by_turnG {c : Code} (hs : TurnG s s') (h : ∀ v, TL P N c (s' v) Q) : TL P N c s Q := fun F L a w hr b k cs => by
 obtain ⟨v, L', h1, x1⟩ := hs N F L a w hr
 obtain ⟨e, a', w', ⟨L2, s2, q2, r2, x2⟩, h3⟩ := h v F L' a w h1 b k cs
 exact ⟨e, a', w', ⟨L2, s2, q2, r2, x1.trans x2⟩, h3⟩
theorem TurnG.ownFull (d : Nat) (e : TypeId) {esz : Nat} {elems : List (List DC)} (hd : s.slots.lookup d = some (.sl true esz elems)) : TurnG s (fun v => ⟨(d, .c (.ex v)) :: s.slots, .arrA v e esz elems :: s.tab⟩) := fun N F L a w hr => by
 have h := hr.avr hd
 refine ⟨a.tmps.getD d undef, L, ⟨hr.defers, hr.size, fun t v hv => ?_, ?_, hr.nodup, hr.lt⟩, Ext.refl _ _⟩
 ·simp only [Qhb] at hv
  split at hv
  ·rename_i he
   simp at he hv
   subst he; subst hv
   have hone : (a.tmps.getD t undef).oneCell' = true := by
    generalize a.tmps.getD t undef = q at h
    cases h with
    | c _ _ h => exact h.one
   rw [Array.getD_eq_getD_getElem?] at hone ⊢
   exact .c _ _ (.ex _ hone)
  ·exact hr.slot t v hv
 ·generalize a.tmps.getD d undef = q at h ⊢
  cases h with
  | c _ _ h =>
   have := X1.cons _ _ _ _ (ObR.arrA _ e _ _ _ (OwnR.full _ e _ _ h)) hr.heap
   simpa using this
end
section
variable {P : Program} {N : Nat} {s : St} {o : Oper} {K : St → Prop}
theorem OpT.loadXAgg {t : TypeId} {dt : TypeDesc} {x : Operand} {v : Value} {i j q lo esz sz by_ : Nat} {e : TypeId} {elems : List (List DC)} {old l : List DC} {z : Value} (ho : o.op = .load t x) (hN : ∀ d, o.dst = some d → d < N) (ht : P.underlying t = some dt) (hfl : TypeDesc.flat dt = false)
  (hei : Zk P t z sz by_) (hx : s.ev x = some (.el v esz j q)) (hi : s.tab[i]? = some (.arrX v e esz lo elems)) (hj : elems[j]? = some old) (hls : l.length = sz) (hl : (old.drop q).take sz = l) (k : K (s.putO o.dst (.agg l))) : OpT P N o s K :=
 Zd _ hN (fun F L a w hr => by
  have hv := hr.ev hx
  generalize hq : a.eval x = p at hv
  obtain ⟨r1, r2, h1, -, -⟩ := hr.heap.get hi
  cases h1 with
  | arrX0 a => simp at hj
  | arrX g cap cur _ _ _ _ hg hlo hn hm hcs hz hnw hre =>
   cases hv
   have hjl := (List.getElem?_eq_some_iff.1 hj).1
   have hol : old.length = esz := hz old (List.mem_of_getElem? hj)
   subst hls
   have hlen : l.length ≤ old.length - q := by
    have := congrArg List.length hl
    simp only [Qgn, Qie] at this
    omega
   have hfl2 : (elems.flatten.drop (j * esz + q)).take l.length = l := by
    refine Eq.trans ?_ hl
    apply List.ext_getElem?
    intro m
    rw [List.getElem?_take, List.getElem?_take]
    by_cases hm' : m < l.length
    ·rw [if_pos hm', if_pos hm', List.getElem?_drop, List.getElem?_drop, Qh5, Ts hz (by omega), hj]
     rfl
    ·rw [if_neg hm', if_neg hm']
   have hrep := (hre.drop (j * esz + q)).take l.length
   rw [hfl2] at hrep
   have hld := Kt (P := P) (w := w) (b := g) (off := j * esz + q) (vs := (cur.toList.take (elems.length * esz)).drop (j * esz + q)) l.length (fun i v hv => by
    rw [cell_of_row w g _ cur e _ hg]
    rw [List.getElem?_drop, List.getElem?_take] at hv
    split at hv
    ·simpa using hv
    ·cases hv) (by have := hrep.1; simp only [Qgn] at this ⊢; omega)
   refine ⟨.agg (((cur.toList.take (elems.length * esz)).drop (j * esz + q)).take l.length).toArray, ?_, .agg _ _ (by simpa using hrep)⟩
   simp [execOp, ho, hq, Instr.loadAt, Instr.sureAddr, loadVar, H8 ht, hfl, hei.sizeOf, hld]) k
theorem Qcx {α : Type} {t : TypeId} {dt : TypeDesc} {x : Operand} {v : Value} {i j q lo esz sz by_ : Nat} {e : TypeId} {xs : List α} {f : α → List DC} {old : α} {l : List DC} {z : Value} (ho : o.op = .load t x) (hN : ∀ d, o.dst = some d → d < N) (ht : P.underlying t = some dt) (hfl : TypeDesc.flat dt = false)
  (hei : Zk P t z sz by_) (hx : s.ev x = some (.el v esz j q)) (hi : s.tab[i]? = some (.arrX v e esz lo (xs.map f))) (hj : xs[j]? = some old) (hls : l.length = sz) (hl : ((f old).drop q).take sz = l) (k : K (s.putO o.dst (.agg l))) : OpT P N o s K :=
 OpT.loadXAgg ho hN ht hfl hei hx hi (getMap f hj) hls hl k
end
inductive Nm {α : Type} : List α → List α → Prop
 | n : Nm [] []
 | c {a : α} {l l' : List α} (k : Nm l l') : Nm (a :: l) (a :: l')
theorem Nm.eq {α : Type} {l l' : List α} (h : Nm l l') : l = l' := by
 induction h with
 | n => rfl
 | c k ih => rw [ih]
theorem nm {P : Program} {N : Nat} {s : St} {Q : Exit → St → Prop} {ops : Array Oper} {l : List Oper} {t : List Ob} (ht : Nm s.tab t) (h : TL' P N ops l ⟨s.slots, t⟩ Q) : TL' P N ops l s Q := by
 have e : s = ⟨s.slots, t⟩ := by rw [← ht.eq]
 rw [e]
 exact h
inductive Tk : List Ob → Ob → List Ob → Prop
 | z {o : Ob} {l : List Ob} : Tk (o :: l) o l
 | s {a o : Ob} {l l' : List Ob} (k : Tk l o l') : Tk (a :: l) o (a :: l')
theorem Tk.perm {l l' : List Ob} {o : Ob} (h : Tk l o l') : l.Perm (o :: l') := by
 induction h with
 | z => exact .refl _
 | s k ih => exact (ih.cons _).trans (.swap _ _ _)
inductive Pk : List Ob → List Ob → Prop
 | n (t) : Pk t []
 | c {t u r : List Ob} {o : Ob} (h : Tk t o u) (k : Pk u r) : Pk t (o :: r)
theorem Pk.perm {t r : List Ob} (h : Pk t r) : ∃ u, t.Perm (r ++ u) := by
 induction h with
 | n t => exact ⟨t, .refl _⟩
 | c h k ih =>
  obtain ⟨u, hu⟩ := ih
  exact ⟨u, h.perm.trans (hu.cons _)⟩
theorem Zx.rp {s s' : St} (hs : Sub s.slots s'.slots) (hp : Pk s.tab s'.tab) : Zx s s' := by
 obtain ⟨u, hu⟩ := hp.perm
 have h1 : Zx s ⟨s.slots, s'.tab ++ u⟩ := Zx.perm hu
 have h2 : Zx ⟨s.slots, s'.tab ++ u⟩ ⟨s.slots, s'.tab⟩ := Cg rfl
 exact (h1.trans h2).trans (Zx.sub hs)
end Go.Rv
