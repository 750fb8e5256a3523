/- A LOGIC OF ABSTRACT STATES OVER THE MODEL, part BW: owned memory that is lent to a call; an array that was appended to, whose old header is still wanted. -/
import Derived.Test.YtbepeoipaiahgaaRvP
namespace Go.Rv
/-- An owned array, read by one who may not write it. -/
theorem ObR.peek {w : World} {M R r : Reg} {v : Value} {e : TypeId} {esz lo : Nat} {elems : List (List DC)} (h : ObR w M (.arrX v e esz lo elems) r) (hdis : ∀ p ∈ r, ∀ lim, (p.1, lim) ∉ R) (hs : ∀ b off, Wr R b off → Wr M b off) : RepC w R v (.sl false esz elems) := by
  cases h with
  | arrX0 a => exact .empty a
  | arrX g cap cur _ _ _ _ hg hlo hn hm hcs hz hnw hr =>
    have key := OwnR.view (OwnR.some (w := w) (M := R) g cap cur e esz elems hg hn hm hcs hz (fun off _ hw => by
      obtain ⟨l, hl, _⟩ := hw
      exact hdis (g, lo * esz) (by simp) l hl) (hr.less hs))
    exact key
/-- The arguments of a call to which an owned object is lent. -/
def ArgsB (s : St) (ob : Ob) (xs : List Operand) (avs : List AV) : Prop := ∀ (w : World) (N : Nat) (F L : Reg) (a : Act) (r R : Reg), Rel w N F L s a → ObR w (r ++ R) ob r → (∀ p ∈ r, ∀ lim, (p.1, lim) ∉ R) → (∀ b off, Wr R b off → Wr (L ++ F) b off) →
  (xs.map a.eval).length = avs.length ∧ ∀ (i : Nat) (v : Value) (x : AV), (xs.map a.eval)[i]? = some v → avs[i]? = some x → AvR w R v x
theorem ArgsB.nil {s : St} {ob : Ob} : ArgsB s ob [] [] := fun w N F L a r R _ _ _ _ => ⟨rfl, fun i v x h => by simp at h⟩
theorem ArgsB.more {s : St} {ob : Ob} {x : Operand} {l : List Operand} {y : AV} {ys : List AV} (h : ∀ (w : World) (N : Nat) (F L : Reg) (a : Act) (r R : Reg), Rel w N F L s a → ObR w (r ++ R) ob r → (∀ p ∈ r, ∀ lim, (p.1, lim) ∉ R) → (∀ b off, Wr R b off → Wr (L ++ F) b off) → AvR w R (a.eval x) y) (k : ArgsB s ob l ys) : ArgsB s ob (x :: l) (y :: ys) := fun w N F L a r R hr ho hd hs => by
  obtain ⟨h1, h2⟩ := k w N F L a r R hr ho hd hs
  refine ⟨by simp at h1 ⊢; exact h1, fun i v z hv hz => ?_⟩
  cases i with
  | zero => simp at hv hz; subst hv; subst hz; exact h w N F L a r R hr ho hd hs
  | succ i => exact h2 i v z (by simpa using hv) (by simpa using hz)
theorem ArgsB.cons {s : St} {ob : Ob} {x : Operand} {l : List Operand} {y : AV} {ys : List AV} (h : s.ev x = some y) (k : ArgsB s ob l ys) : ArgsB s ob (x :: l) (y :: ys) :=
  ArgsB.more (fun _ _ _ _ _ _ _ hr _ _ hs => (hr.ev h).less hs) k
/-- A result that leads nowhere. -/
inductive Plain : AV → Prop
  | ex (v : Value) : Plain (.c (.ex v))
  | agg (l : List Value) {l' : List DC} (h : l' = l.map DC.ex) : Plain (.agg l')
theorem Plain.lift {x : AV} (h : Plain x) {w : World} {M M' : Reg} {v : Value} (hv : AvR w M v x) : AvR w M' v x := by
  cases h with
  | ex v0 =>
    cases hv with
    | c _ _ hc =>
      cases hc with
      | ex _ h1 => exact .c _ _ (.ex _ h1)
  | agg l hl =>
    subst hl
    cases hv with
    | agg vs _ hr =>
      refine .agg vs _ ⟨hr.1, fun i u d hu hd => ?_⟩
      have h1 := hr.2 i u d hu hd
      rw [List.getElem?_map] at hd
      obtain ⟨z, _, rfl⟩ := Option.map_eq_some_iff.1 hd
      cases h1 with
      | ex _ h2 => exact .ex _ h2
section
variable {P : Program} {N : Nat} {s : St} {o : Oper} {K : St → Prop}
/-- A call to which an owned object is lent, and whose result is plain. -/
theorem OpT.callLent {f : FuncId} {fn : Func} {args : Array Operand} {ts : Array TypeId} {avs : List AV} {x : AV} {i : Nat} {ob : Ob} (ho : o.op = .call { callee := .value (.func f), args, argTypes := ts }) (hN : ∀ d, o.dst = some d → d < N)
    (hf : P.funcs[f]? = some fn) (hb : fn.body.isSome = true) (hname : (fn.name == "runtime.NumGoroutine") = false) (hi : s.tab[i]? = some ob) (hargs : ArgsB s ob args.toList avs) (hc : CallP P f avs x) (hp : Plain x)
    (k : K (s.putO o.dst x)) : OpT P N o s K := by
  intro F L a w hr
  unfold Oper.wp
  rw [run_callOp ho hf hb hname, Oper.upon_enter]
  obtain ⟨r, r2, hob, hrest, hperm⟩ := hr.heap.get hi
  have hsame : Reg.same (L ++ F) (r ++ (r2 ++ F)) := by rw [← List.append_assoc]; exact perm_same hperm
  have hnd : ((r ++ (r2 ++ F)).map (·.1)).Nodup := by rw [← List.append_assoc]; exact ((List.Perm.append_right F hperm).map _).nodup_iff.1 hr.nodup
  have hlt : ∀ p ∈ r ++ (r2 ++ F), p.1 < w.heap.size := fun p hp => hr.lt p ((hsame p).2 hp)
  have hnd2 : ((r2 ++ F).map (·.1)).Nodup := by rw [List.map_append, List.nodup_append] at hnd; exact hnd.2.1
  have hdis : ∀ p ∈ r, ∀ lim, (p.1, lim) ∉ r2 ++ F := fun p hp' lim hm => by
    rw [List.map_append, List.nodup_append] at hnd
    exact hnd.2.2 p.1 (List.mem_map_of_mem hp') p.1 (List.mem_map.2 ⟨(p.1, lim), hm, rfl⟩) rfl
  obtain ⟨h1, h2⟩ := hargs w N F L a r (r2 ++ F) hr (hob.congr fun b off => hsame.wr.symm) hdis (fun b off hw => hsame.wr.2 (Wr.append.2 (.inr hw)))
  have hcall := hc (r2 ++ F) [] w (args.toList.map a.eval) h1 (fun i v x hv hx => by rw [List.nil_append]; exact h2 i v x hv hx) .nil (by rw [List.nil_append]; exact hnd2) (fun p hp => by rw [List.nil_append] at hp; exact hlt p (List.mem_append.2 (.inr hp)))
  have harr : (args.toList.map a.eval).toArray = args.map a.eval := by rw [← Array.toList_map]
  rw [harr] at hcall
  refine hcall.mono ?_
  rintro e w' ⟨v, y, tab', L', rfl, ⟨hy, ht⟩, hv, hh', _, _, hx⟩
  subst hy; subst ht
  cases hh'
  have hxL : Ext L w L w' := by simpa using hx.frame L
  have hkeep : HeapR w' (L ++ F) s.tab L := hr.heap.step hx (fun p _ lim hm => by cases hm) (by simpa using hx.frame (L ++ F))
  have hrel := hr.next (tab := s.tab) hxL hN (hp.lift hv) hkeep hr.nodup (fun p hp' => Nat.lt_of_lt_of_le (hr.lt p (List.mem_append.2 (.inl hp'))) hx.size)
  rw [St.upd_tab] at hrel
  exact ⟨L, _, k, hrel, hxL⟩
end
section
variable {P : Program} {N : Nat} {s : St} {o : Oper} {K : St → Prop}
theorem OpT.pre {s' : St} (h : Turn s s') (k : OpT P N o s' K) : OpT P N o s K := by
  intro F L a w hr
  obtain ⟨L', h1, h2⟩ := h N F L a w hr
  refine upon_mono (k F L' a w h1) ?_ (fun _ _ _ h => h)
  rintro a' w' ⟨L2, t, kt, hr', hx⟩
  exact ⟨L2, t, kt, hr', h2.trans hx⟩
end
end Go.Rv
