/- A LOGIC OF ABSTRACT STATES OVER THE MODEL, part V: slices that are nil; a slice's array, owned whole, cut; zeros appended. -/
import Derived.Test.YtocjhbbldeankaaDoorRvU
import Derived.Lib.AppendZeros
namespace Go.Rv
theorem RepL.reps {w : World} {M : Reg} {l : List Value} (h : ∀ v ∈ l, v.oneCell' = true) : ∀ m, RepL w M (List.replicate m l).flatten (List.replicate m (l.map DC.ex)).flatten := by
 intro m
 induction m with
 | zero => simpa using RepL.nil
 | succ m ih =>
  rw [List.replicate_succ, List.replicate_succ, List.flatten_cons, List.flatten_cons]
  exact (RepL.zeros h).append ih
section
variable {P : Program} {N : Nat} {s : St} {o : Oper} {K : St → Prop}
theorem OpT.sliceX {α : Type} {t e e' : TypeId} {x : Operand} {high : Option Operand} {v : Value} {i esz h : Nat} {xs : List α} {f : α → List DC} {z : Value} {sz by_ : Nat} (ho : o.op = .slice t x none high none) (hN : ∀ d, o.dst = some d → d < N) (ht : P.underlying t = some (.slice e))
  (hei : EInfo P e z sz by_) (hx : s.ev x = some (.c (.ex v))) (hi : s.tab[i]? = some (.arrX v e' esz 0 (xs.map f))) (hh : Bd s high xs.length h) (h2 : h ≤ xs.length)
  (k : ∀ v', K (s.upd o.dst (.c (.ex v')) (s.tab.set i (.arrX v' e' esz 0 ((xs.take h).map f))))) : OpT P N o s K := by
 intro F L a w hr
 have hv := hr.exact hx
 obtain ⟨r, R, hob, hwr, hnd, hlt, hdis, hgo⟩ := hr.touch hi
 have hlen : (xs.map f).length = xs.length := List.length_map _
 have key : ∀ (ad : Option Addr) (n c : Nat), v = .slice ad n c → n = xs.length → xs.length ≤ c → (execOp a.eval o).run P w = .ok (.value (.slice (if c = 0 then ad else ad.map (·.add (0 * sz))) (h - 0) (c - 0))) w := by
  intro ad n c hvv hn hc
  subst hn
  have hrun := run_bounds2 (P := P) (isS := true) (n := xs.length) (c := c) (Bd.none (s := s) 0) hh hr (Nat.zero_le _) (by omega)
  simp only [execOp, ho, hv, hvv, Instr.sliceAt, Sem.run_bind, run_underlying ht, Result.andThen_ok, Instr.slice, Option.map_none, hei.sizeOf]
  rw [Option.map_none] at hrun
  rw [hrun]
  rfl
 generalize hys : xs.map f = ys at hob
 cases hob with
 | arrX0 ad =>
  have hx0 : xs = [] := by simpa using hys
  subst hx0
  have h0 : h = 0 := by simpa using h2
  subst h0
  have hrun := key ad 0 0 rfl rfl (Nat.le_refl _)
  simp only [if_true, Nat.sub_zero] at hrun
  obtain ⟨L', h3, h4⟩ := hgo w [] (.arrX (.slice ad 0 0) e' esz 0 []) o.dst (.slice ad 0 0) (.c (.ex (.slice ad 0 0))) ⟨Ext.refl _ _, hnd, hlt⟩ hN (.arrX0 ad e' esz) (.c _ _ (.ex _ rfl))
  unfold Oper.wp
  rw [hrun, Oper.upon_value]
  exact ⟨L', _, k (.slice ad 0 0), h3, h4⟩
 | arrX g cap cur _ _ _ _ hg hlo hn hm hcs hz hnw hro =>
  subst hys
  have hrun := key (some ⟨g, 0, none⟩) _ cap rfl hlen (by omega)
  have e1 : (if cap = 0 then (some ⟨g, 0, none⟩ : Option Addr) else (some ⟨g, 0, none⟩ : Option Addr).map (·.add (0 * sz))) = some ⟨g, 0, none⟩ := by
   split
   ·rfl
   ·simp [Addr.add]
  rw [e1, Nat.sub_zero, Nat.sub_zero] at hrun
  have hl2 : ((xs.take h).map f).length = h := by simp; omega
  have hflat : ((xs.take h).map f).flatten = ((xs.map f).flatten).take (h * esz) := by
   rw [List.map_take]
   have gen : ∀ (es : List (List DC)), (∀ e ∈ es, e.length = esz) → ∀ n, (es.take n).flatten = es.flatten.take (n * esz) := by
    intro es
    induction es with
    | nil => intro _ n; simp
    | cons e es ih =>
     intro he n
     cases n with
     | zero => simp
     | succ n =>
      have h1 := ih (fun x hx => he x (by simp [hx])) n
      have h2 : e.length = esz := he e (by simp)
      simp only [List.take_succ_cons, List.flatten_cons, h1]
      have e1 : e.take ((n + 1) * esz) = e := List.take_of_length_le (by rw [h2, Nat.succ_mul]; omega)
      have e2 : (n + 1) * esz - e.length = n * esz := by rw [h2, Nat.succ_mul]; omega
      rw [List.take_append, e1, e2]
   exact gen _ hz h
  have hob' : ObR w ([(g, 0 * esz)] ++ R) (.arrX (.slice (some ⟨g, 0, none⟩) h cap) e' esz 0 ((xs.take h).map f)) [(g, 0 * esz)] := by
   have := ObR.arrX (w := w) (M := [(g, 0 * esz)] ++ R) g cap cur e' esz 0 ((xs.take h).map f) hg (Nat.zero_le _) (by rw [hl2]; omega) hm hcs (fun y hy => by
    rw [List.map_take] at hy
    exact hz y (List.mem_of_mem_take hy)) (fun off ho => by omega) (by
    rw [hl2, hflat]
    have := hro.take (h * esz)
    rw [List.take_take, Nat.min_eq_left (Nat.mul_le_mul_right _ (by omega))] at this
    exact this)
   rwa [hl2] at this
  obtain ⟨L', h3, h4⟩ := hgo w [(g, 0 * esz)] (.arrX (.slice (some ⟨g, 0, none⟩) h cap) e' esz 0 ((xs.take h).map f)) o.dst (.slice (some ⟨g, 0, none⟩) h cap) (.c (.ex (.slice (some ⟨g, 0, none⟩) h cap))) ⟨Ext.refl _ _, hnd, hlt⟩ hN hob' (.c _ _ (.ex _ rfl))
  unfold Oper.wp
  rw [hrun, Oper.upon_value]
  exact ⟨L', _, k _, h3, h4⟩
end
end Go.Rv
