/- A LOGIC OF ABSTRACT STATES OVER THE MODEL, part M: slices whose elements are written: append, elements' addresses, loads and stores through them, and how they come to be read only. -/
import Derived.Test.YtbepeoipaiahgaaRvK
import Derived.Test.YtbepeoipaiahgaaRvL
namespace Go.Rv

section
variable {P : Program} {N : Nat} {s : St} {o : Oper} {K : St → Prop}

end

/- An operation that is passed leaves nothing; and one that asks for what was passed is passed. -/
theorem AvR.none' {w : World} {M : Reg} : AvR w M undef (.tup []) := .tup #[] [] rfl (fun i v x h => by simp at h)
theorem Rel.gone {w : World} {N : Nat} {F L : Reg} {s : St} {a : Act} {d : Nat} (hr : Rel w N F L s a) (hs : s.slots.lookup d = some (.tup [])) : a.tmps.getD d undef = .tuple #[] := by
  have h := hr.slot d _ hs
  generalize a.tmps.getD d undef = q at h
  cases h with
  | tup vs _ hl _ =>
    have : vs = #[] := by simpa using hl
    rw [this]
section
variable {P : Program} {N : Nat} {s : St} {o : Oper} {K : St → Prop} {ops : Array Oper} {Q : Exit → St → Prop}
theorem wanted_gone {j : Nat} {x : Bool} {d : Nat} {w : World} {F L : Reg} {a : Act} (hr : Rel w N F L s a) (h : o.guard = some (j, x)) (hd : (ops[j]?).bind (·.dst) = some d) (hs : s.slots.lookup d = some (.tup [])) : Region.wanted o (yielded ops a.tmps) = false := by
  have hv := hr.gone hs
  have hg : yielded ops a.tmps j = none := by
    simp only [yielded, hd]
    rw [Array.getD_eq_getD_getElem?] at hv
    simp only [Option.bind_some]
    cases hq : a.tmps[d]? with
    | none => rfl
    | some v => rw [hq] at hv; simp at hv; subst hv; rfl
  simp [Region.wanted, h, hg]
/-- Not wanted: by a condition's value, or since the condition was passed itself. -/
inductive Unwanted (ops : Array Oper) (s : St) (o : Oper) : Prop
  | off (j : Nat) (x : Bool) (d : Nat) (b : Bool) (h : o.guard = some (j, x)) (hd : (ops[j]?).bind (·.dst) = some d) (hs : s.slots.lookup d = some (.c (.ex (.bool b)))) (hb : b = !x)
  | gone (j : Nat) (x : Bool) (d : Nat) (h : o.guard = some (j, x)) (hd : (ops[j]?).bind (·.dst) = some d) (hs : s.slots.lookup d = some (.tup []))
theorem Unwanted.eq {w : World} {F L : Reg} {a : Act} (h : Unwanted ops s o) (hr : Rel w N F L s a) : Region.wanted o (yielded ops a.tmps) = false := by
  cases h with
  | off j x d b h hd hs hb => exact (Wanted.off h hd hs hb).eq hr
  | gone j x d h hd hs => exact wanted_gone hr h hd hs
theorem TO.passU {i : Nat} {rest : List Nat} (ho : ops[i]? = some o) (hw : Unwanted ops s o) (hN : ∀ d, o.dst = some d → d < N) (h : TO P N ops rest (s.putO o.dst (.tup [])) Q) : TO P N ops (i :: rest) s Q := by
  intro F L a w hr
  simp only [wpOps, ho, hw.eq hr, if_false, Bool.false_eq_true]
  exact h F L _ w (hr.put hN AvR.none')
theorem TL'.passU {l : List Oper} (hw : Unwanted ops s o) (hN : ∀ d, o.dst = some d → d < N) (h : TL' P N ops l (s.putO o.dst (.tup [])) Q) : TL' P N ops (o :: l) s Q := by
  intro js hj
  cases js with
  | nil => simp at hj
  | cons j js =>
    simp only [List.map_cons, List.cons.injEq] at hj
    exact TO.passU hj.1 hw hN (h js hj.2)
theorem One.passU {i : Nat} (ho : ops[i]? = some o) (hw : Unwanted ops s o) (hN : ∀ d, o.dst = some d → d < N) (h : K (s.putO o.dst (.tup []))) : One P N ops i s K := by
  intro F L a w hr
  simp only [wpOp, ho, hw.eq hr, Bool.false_eq_true, if_false]
  exact ⟨L, _, h, hr.put hN AvR.none', Ext.refl _ _⟩
end

/- Little things. -/
theorem all1 {l : List Value} (h : l.all Value.oneCell' = true) : ∀ v ∈ l, v.oneCell' = true := List.all_eq_true.1 h
theorem lenAll {l : List (List DC)} {n : Nat} (h : l.all (fun x => x.length == n) = true) : ∀ x ∈ l, x.length = n := fun x hx => by simpa using List.all_eq_true.1 h x hx
theorem Fin.doneK {P : Program} {fn : Func} {R : AV → List Ob → Prop} {s : St} {xs : List AV} {G : List Ob} (h : ResL P s fn.results.toList xs) (hp : Pick s.tab G) (hR : R (tupAV xs) G) : Fin P fn R s := fun N F L a w hr => by
  obtain ⟨v, h1, h2⟩ := h.results hr
  obtain ⟨L', h3, h4⟩ := Turn.re (s := s) (s' := ⟨[], G⟩) (Sub.nil _) hp N F L a w hr
  exact ⟨v, _, G, L', h1, hR, h2.step (h4.frame F), h3.heap, h3.nodup, h3.lt, h4⟩

/-- Memory that nobody writes, lent to a call. -/
inductive Ros (s : St) : List Ob → Prop
  | nil : Ros s []
  | cons (i : Nat) {g : Nat} {cells : List DC} {G : List Ob} (h : s.tab[i]? = some (.ro g cells)) (k : Ros s G) : Ros s (.ro g cells :: G)
theorem Ros.heap {s : St} {G : List Ob} (h : Ros s G) {w : World} {N : Nat} {F L : Reg} {a : Act} (hr : Rel w N F L s a) : HeapR w (L ++ F) (G ++ s.tab) L := by
  induction h with
  | nil => exact hr.heap
  | cons i h k ih =>
    obtain ⟨r1, r2, h1, h2, hp⟩ := hr.heap.get h
    have e : r1 = [] := by cases h1; rfl
    subst e
    have := HeapR.cons _ _ _ _ h1 ih
    simpa using this
section
variable {P : Program} {N : Nat} {s : St} {o : Oper} {K : St → Prop}
end

end Go.Rv
