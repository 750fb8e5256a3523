/- A LOGIC OF ABSTRACT STATES OVER THE MODEL, part Y: states told anew with what is not known ahead; elements of many cells, loaded. -/
import Derived.Test.YtaipjabggdifoaaRvX
namespace Go.Rv
theorem G4 {sl : List (Nat × AV)} {tab : List Ob} (d i : Nat) {v : Value} {e : TypeId} {esz : Nat} {elems : List (List DC)} (hi : tab[i]? = some (.arrA v e esz elems)) : Zn ⟨(d, .c (.ex v)) :: sl, tab⟩ ⟨(d, .sl false esz elems) :: sl, tab⟩ :=
 (Zn.view (s := ⟨(d, .c (.ex v)) :: sl, tab⟩) d i (by simp) hi).trans (G5 (s := ⟨(d, .sl false esz elems) :: (d, .c (.ex v)) :: sl, tab⟩) _ (fun t u h => by
  simp only [List.lookup_cons] at h ⊢
  cases he : (t == d) with
  | true => rw [he] at h; exact h
  | false => rw [he] at h; exact h))
theorem Y9 {sl : List (Nat × AV)} {tab : List Ob} (d : Nat) {l l' : List DC} (hw : R1 tab l l') : Zn ⟨(d, .agg l) :: sl, tab⟩ ⟨(d, .agg l') :: sl, tab⟩ :=
 (C6 (s := ⟨(d, .agg l) :: sl, tab⟩) d (by simp) hw).trans (G5 (s := ⟨(d, .agg l') :: (d, .agg l) :: sl, tab⟩) _ (fun t u h => by
  simp only [List.lookup_cons] at h ⊢
  cases he : (t == d) with
  | true => rw [he] at h; exact h
  | false => rw [he] at h; exact h))
section
variable {P : Program} {N : Nat} {s : St} {s' : Value → St} {Q : Exit → St → Prop} {ops : Array Oper}
end
section
variable {P : Program} {N : Nat} {s : St} {o : Oper} {K : St → Prop}
theorem OpT.loadXAgg {t : TypeId} {dt : TypeDesc} {x : Operand} {v : Value} {i j q lo esz sz by_ : Nat} {e : TypeId} {elems : List (List DC)} {old l : List DC} {z : Value} (ho : o.op = .load t x) (hN : ∀ d, o.dst = some d → d < N) (ht : P.underlying t = some dt) (hfl : TypeDesc.flat dt = false)
  (hei : Zl P t z sz by_) (hx : s.ev x = some (.el v esz j q)) (hi : s.tab[i]? = some (.arrX v e esz lo elems)) (hj : elems[j]? = some old) (hls : l.length = sz) (hl : (old.drop q).take sz = l) (k : K (s.putO o.dst (.agg l))) : OpT P N o s K :=
 Q9 _ hN (fun F L a w hr => by
  have hv := hr.ev hx
  generalize hq : a.eval x = p at hv
  obtain ⟨r1, r2, h1, -, -⟩ := hr.heap.get hi
  cases h1 with
  | arrX0 a => simp at hj
  | arrX g cap cur _ _ _ _ hg hlo hn hm hcs hz hnw hre =>
   cases hv
   have hjl := (List.getElem?_eq_some_iff.1 hj).1
   have hol : old.length = esz := hz old (List.mem_of_getElem? hj)
   subst hls
   have hlen : l.length ≤ old.length - q := by
    have := congrArg List.length hl
    simp only [List.length_take, List.length_drop] at this
    omega
   have hfl2 : (elems.flatten.drop (j * esz + q)).take l.length = l := by
    refine Eq.trans ?_ hl
    apply List.ext_getElem?
    intro m
    rw [List.getElem?_take, List.getElem?_take]
    by_cases hm' : m < l.length
    ·rw [if_pos hm', if_pos hm', List.getElem?_drop, List.getElem?_drop, Nat.add_assoc, C1 hz (by omega), hj]
     rfl
    ·rw [if_neg hm', if_neg hm']
   have hrep := (hre.drop (j * esz + q)).take l.length
   rw [hfl2] at hrep
   have hld := Jd (P := P) (w := w) (b := g) (off := j * esz + q) (vs := (cur.toList.take (elems.length * esz)).drop (j * esz + q)) l.length (fun i v hv => by
    rw [cell_of_row w g _ cur e _ hg]
    rw [List.getElem?_drop, List.getElem?_take] at hv
    split at hv
    ·simpa using hv
    ·cases hv) (by have := hrep.1; simp only [List.length_take] at this ⊢; omega)
   refine ⟨.agg (((cur.toList.take (elems.length * esz)).drop (j * esz + q)).take l.length).toArray, ?_, .agg _ _ (by simpa using hrep)⟩
   simp [execOp, ho, hq, Instr.loadAt, Instr.sureAddr, loadVar, X2 ht, hfl, hei.sizeOf, hld]) k
theorem N5 {α : Type} {t : TypeId} {dt : TypeDesc} {x : Operand} {v : Value} {i j q lo esz sz by_ : Nat} {e : TypeId} {xs : List α} {f : α → List DC} {old : α} {l : List DC} {z : Value} (ho : o.op = .load t x) (hN : ∀ d, o.dst = some d → d < N) (ht : P.underlying t = some dt) (hfl : TypeDesc.flat dt = false)
  (hei : Zl P t z sz by_) (hx : s.ev x = some (.el v esz j q)) (hi : s.tab[i]? = some (.arrX v e esz lo (xs.map f))) (hj : xs[j]? = some old) (hls : l.length = sz) (hl : ((f old).drop q).take sz = l) (k : K (s.putO o.dst (.agg l))) : OpT P N o s K :=
 OpT.loadXAgg ho hN ht hfl hei hx hi (Mc f hj) hls hl k
end
/- Objects laid out: what a chain of changes has left, list by list. -/
inductive Nm {α : Type} : List α → List α → Prop
 | n : Nm [] []
 | c {a : α} {l l' : List α} (k : Nm l l') : Nm (a :: l) (a :: l')
theorem Nm.eq {α : Type} {l l' : List α} (h : Nm l l') : l = l' := by
 induction h with
 | n => rfl
 | c k ih => rw [ih]
theorem nm {P : Program} {N : Nat} {s : St} {Q : Exit → St → Prop} {ops : Array Oper} {l : List Oper} {t : List Ob} (ht : Nm s.tab t) (h : TL' P N ops l ⟨s.slots, t⟩ Q) : TL' P N ops l s Q := by
 have e : s = ⟨s.slots, t⟩ := by rw [← ht.eq]
 rw [e]
 exact h
inductive Tk : List Ob → Ob → List Ob → Prop
 | z {o : Ob} {l : List Ob} : Tk (o :: l) o l
 | s {a o : Ob} {l l' : List Ob} (k : Tk l o l') : Tk (a :: l) o (a :: l')
theorem Tk.perm {l l' : List Ob} {o : Ob} (h : Tk l o l') : l.Perm (o :: l') := by
 induction h with
 | z => exact .refl _
 | s k ih => exact (ih.cons _).trans (.swap _ _ _)
inductive Pk : List Ob → List Ob → Prop
 | n (t) : Pk t []
 | c {t u r : List Ob} {o : Ob} (h : Tk t o u) (k : Pk u r) : Pk t (o :: r)
theorem Pk.perm {t r : List Ob} (h : Pk t r) : ∃ u, t.Perm (r ++ u) := by
 induction h with
 | n t => exact ⟨t, .refl _⟩
 | c h k ih =>
  obtain ⟨u, hu⟩ := ih
  exact ⟨u, h.perm.trans (hu.cons _)⟩
theorem Zn.rp {s s' : St} (hs : Sub s.slots s'.slots) (hp : Pk s.tab s'.tab) : Zn s s' := by
 obtain ⟨u, hu⟩ := hp.perm
 have h1 : Zn s ⟨s.slots, s'.tab ++ u⟩ := Zn.perm hu
 have h2 : Zn ⟨s.slots, s'.tab ++ u⟩ ⟨s.slots, s'.tab⟩ := Bk rfl
 exact (h1.trans h2).trans (Zn.sub hs)
end Go.Rv
