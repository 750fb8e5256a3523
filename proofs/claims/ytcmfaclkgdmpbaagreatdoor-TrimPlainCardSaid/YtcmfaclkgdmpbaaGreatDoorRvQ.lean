/- A LOGIC OF ABSTRACT STATES OVER THE MODEL, part Q: structs of numbers compared; new memory at a place of the table that was kept for it; bytes of a literal that are converted. -/
import Derived.Test.YtcmfaclkgdmpbaaGreatDoorRvO
import Derived.Laws.StructEq
namespace Go.Rv
section
variable {P : Program} {N : Nat} {s : St} {o : Oper} {K : St → Prop}
theorem OpT.after {K' : St → Prop} (h : OpT P N o s K') (hk : ∀ t, K' t → ∃ t', Zx t t' ∧ K t') : OpT P N o s K := by
 intro F L a w hr
 refine Ch (h F L a w hr) ?_ (fun _ _ _ h => h)
 rintro a' w' ⟨L', s', k, hr', hx⟩
 obtain ⟨t', ht, kt⟩ := hk s' k
 obtain ⟨L2, h2, h3⟩ := ht N F L' a' w' hr'
 exact ⟨L2, t', kt, h2, hx.trans h3⟩
theorem set_perm {α : Type} : ∀ {t : List α} {i : Nat} {x : α}, i < t.length → (x :: t.eraseIdx i).Perm (t.set i x) := by
 intro t
 induction t with
 | nil => intro i x h; simp at h
 | cons y t ih =>
  intro i x h
  cases i with
  | zero => simp
  | succ i =>
   simp only [List.eraseIdx_cons_succ, Qi0]
   exact (List.Perm.swap _ _ _).trans ((ih (by simpa using h)).cons y)
theorem Zx.into {sl : List (Nat × AV)} {tab : List Ob} {x : Ob} (i : Nat) (hi : i < tab.length) : Zx ⟨sl, x :: tab⟩ ⟨sl, tab.set i x⟩ :=
 (Zx.dropO (s := ⟨sl, x :: tab⟩) (i + 1)).trans (Zx.perm (s := ⟨sl, x :: tab.eraseIdx i⟩) (set_perm hi))
theorem Yk {s : St} : Zx s ⟨s.slots, .ro 0 [] :: s.tab⟩ := fun N F L a w hr =>
 ⟨L, ⟨hr.defers, hr.size, hr.slot, by have := X1.cons _ _ _ _ (ObR.ro (w := w) (M := L ++ F) 0 [] [] .nil (fun i v hv => by simp at hv)) hr.heap; simpa using this, hr.nodup, hr.lt⟩, Ext.refl _ _⟩
theorem Qfo {e : TypeId} {z : Value} {sz by_ : Nat} (i : Nat) (ho : o.op = .alloc e) (hN : ∀ d, o.dst = some d → d < N) (hei : Zk P e z sz by_) (hz : z.cells.toList.all Value.oneCell' = true) (hi : s.tab[i]? = some (.ro 0 []))
  (k : ∀ b, K (s.upd o.dst (.ptr b 0) (s.tab.set i (.box b e (z.cells.toList.map fun v => OC.d (.ex v)))))) : OpT P N o s K :=
 OpT.after (K' := fun t => ∃ b, t = s.upd o.dst (.ptr b 0) (.box b e (z.cells.toList.map fun v => OC.d (.ex v)) :: s.tab)) (Zg ho hN hei hz (fun b => ⟨b, rfl⟩)) (fun t ⟨b, ht⟩ => ⟨_, by subst ht; exact Zx.into i (List.getElem?_eq_some_iff.1 hi).1, k b⟩)
theorem Fy {t e : TypeId} {len : Nat} {ps : Array (Nat × Operand)} {z : Value} {esz by_ : Nat} {pd : List (Nat × List DC)} {elems : List (List DC)} (ho : o.op = .buildSlice t len ps) (hN : ∀ d, o.dst = some d → d < N)
  (ht : P.underlying t = some (.slice e)) (hei : Zk P e z esz by_) (hsm : len * esz ≤ 2 ^ 24) (hz : z.cells.size = esz) (hz1 : ∀ v ∈ z.cells.toList, v.oneCell' = true) (hp : s.parts ps.toList = some pd)
  (hf : fillD (fun i => some (i * esz, esz)) ((List.range (len * esz)).map fun q => .ex (z.cells.getD (q % esz) undef)) pd = some elems.flatten) (hel : elems.length = len) (hee : ∀ x ∈ elems, x.length = esz) (hlen : len ≤ maxLen)
  (k : ∀ b : Nat, K (s.upd o.dst (.c (.ex (.slice (some ⟨b, 0, none⟩) len len))) (.arrX (.slice (some ⟨b, 0, none⟩) len len) e esz 0 elems :: s.tab))) : OpT P N o s K := by
 intro F L a w hr
 obtain ⟨h1, h2⟩ := hr.parts hp
 have hq0 : ∀ q, q < len * esz → q % esz < z.cells.size := fun q hq => by
  rw [hz]
  rcases Qiy esz with h | h
  ·subst h; simp at hq
  ·exact Qh6 _ h
 have hrz : V8 w (L ++ F) ((Array.range (len * esz)).map (z.cells[· % z.cells.size]!)).toList ((List.range (len * esz)).map fun q => .ex (z.cells.getD (q % esz) undef)) := by
  refine ⟨by simp, fun q v d hv hd => ?_⟩
  have hq : q < len * esz := by have := (List.getElem?_eq_some_iff.1 hd).1; simpa using this
  have hq2 := hq0 q hq
  simp [hq] at hv hd
  subst hd
  rw [hz] at hv
  have hq3 : z.cells[q % esz]? = some z.cells[q % esz] := by simp [hq2]
  simp only [getElem!_def, hq3] at hv
  simp only [Array.getElem?_eq_getElem hq2, Qhd]
  subst hv
  exact .ex _ (hz1 _ (by simp))
 obtain ⟨cs', h3, h4⟩ := fill_rep h1 h2 hrz hf
 have hcs : cs'.size = len * esz := by have := h4.1; rw [Eg hee, hel] at this; simpa using this
 have hrun : (execOp a.eval o).run P w = .ok (.value (.slice (some ⟨w.heap.size, 0, none⟩) len len)) (w.alloc (.cells cs' e)) := by
  have h24 : ¬ (len * esz > 16777216) := by omega
  have hpa : (Array.map (fun x : Nat × Operand => (x.fst, a.eval x.snd)) ps).toList = ps.toList.map fun (i, x) => (i, a.eval x) := by rw [Qiv]
  by_cases hzero : len * esz = 0
  ·have h3' : Instr.fill (fun i => some (i * esz, esz)) #[] (ps.toList.map fun (i, x) => (i, a.eval x)) = some cs' := by
    rw [hzero, Array.range_zero', Array.map_empty] at h3
    exact h3
   simp only [execOp, ho, Instr.buildSlice, Sem.run_bind, run_underlying ht, Result.andThen_ok, hei.sizeOf, hzero, if_true, Sem.run_pure, hpa]
   simp [newRow, h3', Array.range_zero']
  ·simp only [execOp, ho, Instr.buildSlice, Sem.run_bind, run_underlying ht, Result.andThen_ok, hei.sizeOf, hzero, if_false, Sem.run_pure, hpa]
   simp [newRow, h3, h24, hei.zeroValue]
 unfold Oper.wp
 rw [hrun, Oper.upon_value]
 obtain ⟨L', h5, h6⟩ := hr.add (w' := w.alloc (.cells cs' e)) (r := [(w.heap.size, 0 * esz)]) (dst := o.dst) (v := .slice (some ⟨w.heap.size, 0, none⟩) len len) (x := .c (.ex (.slice (some ⟨w.heap.size, 0, none⟩) len len)))
  (o := .arrX (.slice (some ⟨w.heap.size, 0, none⟩) len len) e esz 0 elems) (Fits.alloc w _ _) hN (fun M hnew hxM => by
   have key := ObR.arrX (w := w.alloc (.cells cs' e)) (M := M) w.heap.size len cs' e esz 0 elems (heap_alloc_new w _) (Qf7 _) (by omega) hlen (by rw [hcs]) hee (fun off hoff hw => by omega) (by
    have : cs'.toList.take (elems.length * esz) = cs'.toList := Qg8 (by simp [hcs, hel])
    rw [this]
    exact h4.step hxM)
   rw [hel] at key
   exact key) (fun M _ _ => .c _ _ (.ex _ rfl))
 exact ⟨L', _, k _, h5, h6⟩
theorem freeze_cell (w : World) (a : Addr) (n : Nat) (b : Addr) : (w.freeze a n).cell? b = w.cell? b := by
 unfold World.freeze
 split
 ·rfl
 ·simp only [World.cell?, Array.getElem?_modify]
  by_cases h : a.block = b.block
  ·rw [if_pos h]
   cases hq : w.heap[b.block]? with
   | none => rfl
   | some q => cases q <;> rfl
  ·rw [if_neg h]
theorem Ext.freeze (w : World) (g off n lim : Nat) : Ext [(g, lim)] w [] (w.freeze ⟨g, off, none⟩ n) where
 os := by unfold World.freeze; split <;> rfl
 tape := by unfold World.freeze; split <;> rfl
 output := by unfold World.freeze; split <;> rfl
 size := by
  unfold World.freeze
  split
  ·exact Qf6 _
  ·simp
 block k hk hn := by
  unfold World.freeze
  split
  ·rfl
  ·simp only [Array.getElem?_modify]
   rw [if_neg (fun h => hn lim (by have h' : g = k := h; simp [h']))]
 cell k off' hk hn := freeze_cell _ _ _ _
 mono k off' hk hw := absurd hw Wr.nil
 blocks k l hk hl := by cases hl
end
end Go.Rv
