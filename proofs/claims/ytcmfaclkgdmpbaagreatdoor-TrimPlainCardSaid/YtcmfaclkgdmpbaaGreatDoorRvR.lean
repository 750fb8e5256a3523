/- A LOGIC OF ABSTRACT STATES OVER THE MODEL, part R: calls whose arguments are told otherwise than the slots are: a slice whose array is owned handed over as one that nobody writes. -/
import Derived.Test.YtcmfaclkgdmpbaaGreatDoorRvQ
namespace Go.Rv
def Zs (s : St) (xs : List Operand) (avs : List AV) : Prop := ∀ (w : World) (N : Nat) (F L : Reg) (a : Act), Rel w N F L s a → (xs.map a.eval).length = avs.length ∧ ∀ (i : Nat) (v : Value) (x : AV), (xs.map a.eval)[i]? = some v → avs[i]? = some x → AvR w (L ++ F) v x
theorem Zs.nil {s : St} : Zs s [] [] := fun w N F L a hr => ⟨rfl, fun i v x h => by simp at h⟩
theorem Zs.more {s : St} {x : Operand} {l : List Operand} {y : AV} {ys : List AV} (h : ∀ (w : World) (N : Nat) (F L : Reg) (a : Act), Rel w N F L s a → AvR w (L ++ F) (a.eval x) y) (k : Zs s l ys) : Zs s (x :: l) (y :: ys) := fun w N F L a hr => by
 obtain ⟨h1, h2⟩ := k w N F L a hr
 refine ⟨by simp at h1 ⊢; exact h1, fun i v z hv hz => ?_⟩
 cases i with
 | zero => simp at hv hz; subst hv; subst hz; exact h w N F L a hr
 | succ i => exact h2 i v z (by simpa using hv) (by simpa using hz)
theorem Zs.cons {s : St} {x : Operand} {l : List Operand} {y : AV} {ys : List AV} (h : s.ev x = some y) (k : Zs s l ys) : Zs s (x :: l) (y :: ys) := Zs.more (fun _ _ _ _ _ hr => hr.ev h) k
theorem Zs.view {s : St} {x : Operand} {l : List Operand} {v : Value} {e : TypeId} {esz i : Nat} {elems : List (List DC)} {ys : List AV} (h : s.ev x = some (.c (.ex v))) (hi : s.tab[i]? = some (.arrA v e esz elems)) (k : Zs s l ys) : Zs s (x :: l) (.sl false esz elems :: ys) :=
 Zs.more (fun w N F L a hr => by
  rw [hr.exact h]
  obtain ⟨r1, r2, h1, h2, hp⟩ := hr.heap.get hi
  cases h1 with
  | arrA _ _ _ _ _ hown => exact .c _ _ hown.view) k
section
variable {P : Program} {N : Nat} {s : St} {o : Oper} {K : St → Prop}
theorem Qfn {f : FuncId} {fn : Func} {args : Array Operand} {ts : Array TypeId} {avs : List AV} {sub rest : List Ob} {R : AV → List Ob → Prop} (ho : o.op = .call { callee := .value (.func f), args, argTypes := ts }) (hN : ∀ d, o.dst = some d → d < N)
  (hf : P.funcs[f]? = some fn) (hb : fn.body.isSome = true) (hname : (fn.name == "runtime.NumGoroutine") = false) (hargs : Zs s args.toList avs) (hp : s.tab.Perm (sub ++ rest)) (hc : Qek P f avs sub R)
  (k : ∀ x tab', R x tab' → K (s.upd o.dst x (tab' ++ rest))) : OpT P N o s K := by
 intro F L a w hr
 unfold Oper.wp
 rw [run_callOp ho hf hb hname, Oper.upon_enter]
 obtain ⟨h1, h2⟩ := hargs w N F L a hr
 obtain ⟨L0, hh, hpL⟩ := hr.heap.perm hp
 obtain ⟨L1, L2, hh1, hh2, rfl⟩ := hh.split
 have hsame : Reg.same (L ++ F) (L1 ++ (L2 ++ F)) := by rw [← Qfx]; exact Fm hpL
 have hnd : ((L1 ++ (L2 ++ F)).map (·.1)).Nodup := by rw [← Qfx]; exact ((Qgm F hpL).map _).nodup_iff.1 hr.nodup
 have hlt : ∀ p ∈ L1 ++ (L2 ++ F), p.1 < w.heap.size := fun p hp => hr.lt p ((hsame p).2 hp)
 have hcall := hc (L2 ++ F) L1 w (args.toList.map a.eval) h1 (fun i v x hv hx => (h2 i v x hv hx).less fun b off => hsame.wr.2) (hh1.congr fun b off => hsame.wr.symm) hnd hlt
 have harr : (args.toList.map a.eval).toArray = args.map a.eval := by rw [← Qiv]
 rw [harr] at hcall
 refine hcall.mono ?_
 rintro e w' ⟨v, x, tab', L', rfl, hR, hv, hh', hnd', hlt', hx⟩
 have hrest : X1 w' (L' ++ (L2 ++ F)) rest L2 := by
  refine (hh2.congr fun b off => hsame.wr.symm).step hx (fun p hp' lim hm => ?_) (hx.frame _)
  rw [Qg5, Qhy] at hnd
  exact hnd.2.2 p.1 (Qgf.2 ⟨(p.1, lim), hm, rfl⟩) p.1 (Qg4 (Qfz.2 (.inl hp'))) rfl
 have hxL : Ext L w (L' ++ L2) w' := (hx.frame L2).congr (fun p => hpL.mem_iff.symm) (fun _ => Iff.rfl)
 refine ⟨L' ++ L2, _, k x tab' hR, hr.next hxL hN (by rw [Qfx]; exact hv) (by rw [Qfx]; exact hh'.join hrest) (by rw [Qfx]; exact hnd') (fun p hp' => ?_), hxL⟩
 rcases Qfz.1 hp' with h | h
 ·exact hlt' p (Qfz.2 (.inl h))
 ·exact hlt' p (Qfz.2 (.inr (Qfz.2 (.inl h))))
theorem Jh {f : FuncId} {fn : Func} {args : Array Operand} {ts : Array TypeId} {avs : List AV} {x : AV} (ho : o.op = .call { callee := .value (.func f), args, argTypes := ts }) (hN : ∀ d, o.dst = some d → d < N)
  (hf : P.funcs[f]? = some fn) (hb : fn.body.isSome = true) (hname : (fn.name == "runtime.NumGoroutine") = false) (hargs : Zs s args.toList avs) (hc : CallP P f avs x)
  (k : K (s.putO o.dst x)) : OpT P N o s K :=
 Qfn (sub := []) (rest := s.tab) ho hN hf hb hname hargs (List.Perm.refl _) hc (fun y t ⟨h1, h2⟩ => by subst h1; subst h2; rw [Qf8, St.upd_tab]; exact k)
end
end Go.Rv
