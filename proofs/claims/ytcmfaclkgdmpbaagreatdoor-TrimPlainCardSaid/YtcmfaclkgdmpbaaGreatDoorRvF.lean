/- A LOGIC OF ABSTRACT STATES OVER THE MODEL, part F: what is told may be turned; functions' contracts, calls. -/
import Derived.Test.YtcmfaclkgdmpbaaGreatDoorRvG
namespace Go.Rv
theorem X1.perm {w : World} {M : Reg} {t t' : List Ob} (hp : t.Perm t') : ∀ {L : Reg}, X1 w M t L → ∃ L', X1 w M t' L' ∧ L.Perm L' := by
 induction hp with
 | nil => intro L h; exact ⟨L, h, List.Perm.refl _⟩
 | cons x _ ih =>
  intro L h
  cases h with
  | cons _ r _ rs h1 h2 =>
   obtain ⟨L', h3, h4⟩ := ih h2
   exact ⟨r ++ L', .cons x r _ L' h1 h3, Qhh r h4⟩
 | swap x y l =>
  intro L h
  cases h with
  | cons _ r _ rs h1 h2 =>
   cases h2 with
   | cons _ r2 _ rs2 h3 h4 =>
    refine ⟨r2 ++ (r ++ rs2), .cons x r2 _ _ h3 (.cons y r _ _ h1 h4), ?_⟩
    rw [← Qfx, ← Qfx]
    exact Qgm rs2 Qho
 | trans _ _ ih1 ih2 =>
  intro L h
  obtain ⟨L1, h1, h2⟩ := ih1 h
  obtain ⟨L2, h3, h4⟩ := ih2 h1
  exact ⟨L2, h3, h2.trans h4⟩
theorem X1.split {w : World} {M : Reg} : ∀ {t t' : List Ob} {L : Reg}, X1 w M (t ++ t') L → ∃ L1 L2, X1 w M t L1 ∧ X1 w M t' L2 ∧ L = L1 ++ L2 := by
 intro t
 induction t with
 | nil => intro t' L h; exact ⟨[], L, .nil, h, rfl⟩
 | cons o t ih =>
  intro t' L h
  cases h with
  | cons _ r _ rs h1 h2 =>
   obtain ⟨L1, L2, h3, h4, rfl⟩ := ih h2
   exact ⟨r ++ L1, L2, .cons o r _ L1 h1 h3, h4, by simp⟩
theorem X1.join {w : World} {M : Reg} {t t' : List Ob} {L L' : Reg} (h : X1 w M t L) (k : X1 w M t' L') : X1 w M (t ++ t') (L ++ L') := by
 induction h with
 | nil => exact k
 | cons o r t rs h1 _ ih => simpa using X1.cons o r _ _ h1 ih
def Zx (s s' : St) : Prop := ∀ (N : Nat) (F L : Reg) (a : Act) (w : World), Rel w N F L s a → ∃ L', Rel w N F L' s' a ∧ Ext L w L' w
theorem Zx.refl (s : St) : Zx s s := fun _ _ L _ _ h => ⟨L, h, Ext.refl _ _⟩
theorem Zx.trans {s s1 s2 : St} (h : Zx s s1) (k : Zx s1 s2) : Zx s s2 := fun N F L a w hr => by
 obtain ⟨L1, h1, x1⟩ := h N F L a w hr
 obtain ⟨L2, h2, x2⟩ := k N F L1 a w h1
 exact ⟨L2, h2, x1.trans x2⟩
theorem Fu {s : St} (sl : List (Nat × AV)) (hs : ∀ t v, sl.lookup t = some v → s.slots.lookup t = some v) : Zx s ⟨sl, s.tab⟩ :=
 fun _ _ L _ _ hr => ⟨L, ⟨hr.defers, hr.size, fun t v hv => hr.slot t v (hs t v hv), hr.heap, hr.nodup, hr.lt⟩, Ext.refl _ _⟩
theorem Zx.dropO {s : St} (i : Nat) : Zx s ⟨s.slots, s.tab.eraseIdx i⟩ := fun _ _ _ _ _ hr => hr.dropO i
theorem Zx.dropAll {s : St} : Zx s ⟨s.slots, []⟩ := by
 obtain ⟨sl, tab⟩ := s
 induction tab with
 | nil => exact Zx.refl _
 | cons o t ih => exact (Zx.dropO (s := ⟨sl, o :: t⟩) 0).trans ih
theorem Zx.perm {s : St} {tab : List Ob} (hp : s.tab.Perm tab) : Zx s ⟨s.slots, tab⟩ := fun N F L a w hr => by
 obtain ⟨L', h1, h2⟩ := hr.heap.perm hp
 have hs := Fm (F := F) h2
 exact ⟨L', ⟨hr.defers, hr.size, fun t v hv => (hr.slot t v hv).less fun b o => (hs.wr).2, h1.congr fun b o => hs.wr.symm, ((Qgm F h2).map _).nodup_iff.1 hr.nodup, fun p hp => hr.lt p ((hs p).2 hp)⟩,
  (Ext.refl L w).congr (fun _ => Iff.rfl) (fun p => h2.mem_iff)⟩
theorem Zx.slot {s : St} (d : Nat) (x : AV) (h : ∀ (N : Nat) (F L : Reg) (a : Act) (w : World), Rel w N F L s a → AvR w (L ++ F) (a.tmps.getD d undef) x) : Zx s ⟨(d, x) :: s.slots, s.tab⟩ :=
 fun N F L a w hr => ⟨L, ⟨hr.defers, hr.size, fun t v hv => by
  simp only [Qhb] at hv
  split at hv
  ·rename_i he; simp at he hv; subst he; subst hv; exact h N F L a w hr
  ·exact hr.slot t v hv, hr.heap, hr.nodup, hr.lt⟩, Ext.refl _ _⟩
theorem Fw.empty {w : World} {M : Reg} {full : Bool} {esz : Nat} (a : Option Addr) : Fw w M (.slice a 0 0) (.sl full esz []) :=
 Fw.sl (w := w) (M := M) a 0 0 0 full esz [] (fun _ _ => undef) (.inr ⟨rfl, rfl⟩) (by simp) (by simp) (fun _ => by simp) (fun e he => by simp at he) (fun i j d hd => by simp at hd) (fun i j d hd => by simp at hd)
theorem Fw.unfull {w : World} {M : Reg} {v : Value} {full : Bool} {esz : Nat} {elems : List (List DC)} (h : Fw w M v (.sl full esz elems)) : Fw w M v (.sl false esz elems) := by
 cases h with
 | sl a b off cap full esz elems vs ha hc hm hf hz hw hr => exact .sl a b off cap false esz elems vs ha hc hm (fun h => by cases h) hz hw hr
theorem OwnR.view {w : World} {M : Reg} {v : Value} {e : TypeId} {esz : Nat} {elems : List (List DC)} {r : Reg} (h : OwnR w M v e esz elems r) : Fw w M v (.sl false esz elems) := by
 cases h with
 | nil a => exact Fw.empty a
 | full _ _ _ _ h => exact h.unfull
 | some g cap cur _ _ _ hg hn hm hcs hz hnw hr =>
  refine Fv (off := 0) hr (fun q v hv => ?_) hn hm (fun h => by cases h) hz
  rw [List.getElem?_take] at hv
  split at hv
  ·rename_i hq
   rw [Qgq, cell_of_row w g q cur e _ hg]
   exact ⟨by simpa using hv, hnw q hq⟩
  ·cases hv
theorem Zx.view {s : St} (d i : Nat) {v : Value} {e : TypeId} {esz : Nat} {elems : List (List DC)} (hd : s.slots.lookup d = some (.c (.ex v))) (hi : s.tab[i]? = some (.arrA v e esz elems)) : Zx s ⟨(d, .sl false esz elems) :: s.slots, s.tab⟩ :=
 Zx.slot d _ fun N F L a w hr => by
  obtain ⟨r1, r2, h1, -, -⟩ := hr.heap.get hi
  have hv := hr.exact (x := .tmp d) hd
  simp only [Act.eval] at hv
  rw [hv]
  cases h1 with
  | arrA _ _ _ _ _ h => exact .c _ _ h.view
section
variable {P : Program} {N : Nat} {s s' : St} {Q : Exit → St → Prop}
theorem TO.by_turn {ops : Array Oper} {l : List Nat} (hs : Zx s s') (h : TO P N ops l s' Q) : TO P N ops l s Q := TO.turn (fun F L a w hr => hs N F L a w hr) h
theorem Qm {c : Code} (hs : Zx s s') (h : T P N c s' Q) : T P N c s Q := T.turn (fun F L a w hr => hs N F L a w hr) h
theorem Qg {c : Code} (hs : Zx s s') (h : TL P N c s' Q) : TL P N c s Q := by
 intro F L a w hr b k cs
 obtain ⟨L', hr', hx⟩ := hs N F L a w hr
 obtain ⟨e, a', w', ⟨L2, s2, q, r, x⟩, harr⟩ := h F L' a w hr' b k cs
 exact ⟨e, a', w', ⟨L2, s2, q, r, hx.trans x⟩, harr⟩
end
def Qek (P : Program) (f : FuncId) (avs : List AV) (tab : List Ob) (R : AV → List Ob → Prop) : Prop :=
 ∀ (F L : Reg) (w : World) (vs : List Value), vs.length = avs.length → (∀ (i : Nat) (v : Value) (x : AV), vs[i]? = some v → avs[i]? = some x → AvR w (L ++ F) v x) → X1 w (L ++ F) tab L → ((L ++ F).map (·.1)).Nodup → (∀ p ∈ L ++ F, p.1 < w.heap.size) →
  Calls P f vs.toArray w fun e w' => ∃ v x tab' L', e = .returned v ∧ R x tab' ∧ AvR w' (L' ++ F) v x ∧ X1 w' (L' ++ F) tab' L' ∧ ((L' ++ F).map (·.1)).Nodup ∧ (∀ p ∈ L' ++ F, p.1 < w'.heap.size) ∧ Ext L w L' w'
theorem Qek.mono {P : Program} {f : FuncId} {avs : List AV} {tab : List Ob} {R R' : AV → List Ob → Prop} (h : Qek P f avs tab R) (hr : ∀ x t, R x t → R' x t) : Qek P f avs tab R' :=
 fun F L w vs h1 h2 h3 h4 h5 => Calls.mono (h F L w vs h1 h2 h3 h4 h5) fun _ _ ⟨v, x, t, L', he, hR, rest⟩ => ⟨v, x, t, L', he, hr _ _ hR, rest⟩
def Pure1 (x : AV) : AV → List Ob → Prop := fun y t => y = x ∧ t = []
abbrev CallP (P : Program) (f : FuncId) (avs : List AV) (x : AV) : Prop := Qek P f avs [] (Pure1 x)
inductive ResV (P : Program) (s : St) : ResultVar → AV → Prop
 | tmp (t x) (h : s.slots.lookup t = some x) : ResV P s (.tmp t) x
 | cell (t : Nat) (ty : TypeId) (b off i : Nat) (e : TypeId) (cells : List OC) (d : DC) (dt : TypeDesc) (ht : s.slots.lookup t = some (.ptr b off)) (hi : s.tab[i]? = some (.box b e cells)) (hd : cells[off]? = some (.d d)) (hu : P.underlying ty = some dt) (hfl : TypeDesc.flat dt = true) : ResV P s (.cell t ty) (.c d)
 | cellAgg (t : Nat) (ty : TypeId) (b off i : Nat) (e : TypeId) (cells : List OC) (l : List DC) (dt : TypeDesc) (z : Value) (sz by_ : Nat) (ht : s.slots.lookup t = some (.ptr b off)) (hi : s.tab[i]? = some (.box b e cells)) (hl : l.length = sz) (hd : (cells.drop off).take sz = l.map OC.d) (hu : P.underlying ty = some dt) (hfl : TypeDesc.flat dt = false) (hei : Zk P ty z sz by_) : ResV P s (.cell t ty) (.agg l)
inductive ResL (P : Program) (s : St) : List ResultVar → List AV → Prop
 | nil : ResL P s [] []
 | cons (r x rs xs) (h : ResV P s r x) (t : ResL P s rs xs) : ResL P s (r :: rs) (x :: xs)
def resRun (tmps : Array Value) : ResultVar → Sem Value
 | .tmp t => pure (tmps.getD t undef)
 | .cell a t => do loadVar t (← asAddr (tmps.getD a undef))
theorem results_eq (fn : Func) (tmps : Array Value) : results fn tmps = (do let vs ← fn.results.mapM (resRun tmps); pure (if h : vs.size = 1 then vs[0] else .tuple vs)) := rfl
theorem ResV.run {P : Program} {s : St} {r : ResultVar} {x : AV} (h : ResV P s r x) {w : World} {N : Nat} {F L : Reg} {a : Act} (hr : Rel w N F L s a) : ∃ v, (resRun a.tmps r).run P w = .ok v w ∧ AvR w (L ++ F) v x := by
 cases h with
 | tmp t _ h => exact ⟨_, rfl, hr.slot t x h⟩
 | cell t ty b off i e cells d dt ht hi hd hu hfl =>
  obtain ⟨r1, r2, h1, -, -⟩ := hr.heap.get hi
  cases h1 with
  | box _ _ cs _ r hb h =>
   obtain ⟨v, hv, hrep⟩ := h.getD hd
   have hcell : w.cell? ⟨b, off, none⟩ = some v := by rw [cell_of_row w b off cs e _ hb]; simpa using hv
   have hp := hr.exact (x := .tmp t) ht
   simp only [Act.eval] at hp
   exact ⟨v, by simp only [resRun, hp]; simp [asAddr, loadVar, H8 hu, hfl, hcell], .c _ _ hrep⟩
 | cellAgg t ty b off i e cells l dt z sz by_ ht hi hl hd hu hfl hei =>
  obtain ⟨r1, r2, h1, -, -⟩ := hr.heap.get hi
  cases h1 with
  | box _ _ cs _ r hb h =>
   subst hl
   have hrep := h.getDs hd
   have hlen : l.length ≤ (cs.toList.drop off).length := by have := hrep.1; simp at this ⊢; omega
   have hld := Kt (P := P) (w := w) (b := b) (off := off) (vs := cs.toList.drop off) l.length (fun i v hv => by
    rw [cell_of_row w b (off + i) cs e _ hb]; simpa using hv) hlen
   have hp := hr.exact (x := .tmp t) ht
   simp only [Act.eval] at hp
   exact ⟨.agg ((cs.toList.drop off).take l.length).toArray, by simp only [resRun, hp]; simp [asAddr, loadVar, H8 hu, hfl, hei.sizeOf, hld], .agg _ _ (by simpa using hrep)⟩
theorem ResL.run {P : Program} {s : St} {w : World} {N : Nat} {F L : Reg} {a : Act} (hr : Rel w N F L s a) : ∀ {rs : List ResultVar} {xs : List AV}, ResL P s rs xs → ∃ vs : List Value, (rs.mapM (resRun a.tmps)).run P w = .ok vs w ∧ vs.length = xs.length ∧ ∀ (i : Nat) (v : Value) (x : AV), vs[i]? = some v → xs[i]? = some x → AvR w (L ++ F) v x := by
 intro rs
 induction rs with
 | nil => intro xs h; cases h; exact ⟨[], by simp, rfl, fun i v x hv => by simp at hv⟩
 | cons r rs ih =>
  intro xs h
  cases h with
  | cons _ x _ xs h t =>
   obtain ⟨v, h1, h2⟩ := h.run hr
   obtain ⟨vs, h3, h4, h5⟩ := ih t
   refine ⟨v :: vs, by simp [List.mapM_cons, h1, h3], by simp [h4], fun i u y hu hy => ?_⟩
   cases i with
   | zero => simp at hu hy; subst hu; subst hy; exact h2
   | succ i => exact h5 i u y (by simpa using hu) (by simpa using hy)
def tupAV : List AV → AV
 | [x] => x
 | l => .tup l
theorem ResL.results {P : Program} {s : St} {fn : Func} {xs : List AV} (h : ResL P s fn.results.toList xs) {w : World} {N : Nat} {F L : Reg} {a : Act} (hr : Rel w N F L s a) : ∃ v, (results fn a.tmps).run P w = .ok v w ∧ AvR w (L ++ F) v (tupAV xs) := by
 obtain ⟨vs, h1, h2, h3⟩ := h.run hr
 refine ⟨_, by rw [results_eq]; simp [Array.mapM_eq_mapM_toList, h1]; rfl, ?_⟩
 split
 ·rename_i hs
  match vs, xs, h2, hs with
  | [v], [x], _, _ => exact h3 0 v x rfl rfl
 ·rename_i hs
  have : tupAV xs = .tup xs := by
   match xs with
   | [] => rfl
   | [x] => simp at h2 hs; omega
   | _ :: _ :: _ => rfl
  rw [this]
  exact .tup _ _ (by simpa using h2) (fun i v x hv hx => h3 i v x (by simpa using hv) hx)
def Fin (P : Program) (fn : Func) (R : AV → List Ob → Prop) (s : St) : Prop :=
 ∀ (N : Nat) (F L : Reg) (a : Act) (w : World), Rel w N F L s a → ∃ v x tab' L', (results fn a.tmps).run P w = .ok v w ∧ R x tab' ∧ AvR w (L' ++ F) v x ∧ X1 w (L' ++ F) tab' L' ∧ ((L' ++ F).map (·.1)).Nodup ∧ (∀ p ∈ L' ++ F, p.1 < w.heap.size) ∧ Ext L w L' w
theorem Xj {P : Program} {fn : Func} {R : AV → List Ob → Prop} {s s' : St} (h : Zx s s') (k : Fin P fn R s') : Fin P fn R s := fun N F L a w hr => by
 obtain ⟨L1, h1, x1⟩ := h N F L a w hr
 obtain ⟨v, x, t, L2, h2, h3, h4, h5, h6, h7, h8⟩ := k N F L1 a w h1
 exact ⟨v, x, t, L2, h2, h3, h4, h5, h6, h7, x1.trans h8⟩
theorem Fin.done {P : Program} {fn : Func} {R : AV → List Ob → Prop} {s : St} {xs : List AV} (h : ResL P s fn.results.toList xs) (hR : R (tupAV xs) []) : Fin P fn R s := fun N F L a w hr => by
 obtain ⟨v, h1, h2⟩ := h.results hr
 obtain ⟨L', h3, h4⟩ := Zx.dropAll N F L a w hr
 refine ⟨v, _, [], L', h1, hR, h2.less fun b off hw => ?_, h3.heap, h3.nodup, h3.lt, h4⟩
 rcases Wr.append.1 hw with h | h
 ·have hb : b < w.heap.size := by obtain ⟨l, hl, _⟩ := h; exact h3.lt (b, l) (Qfz.2 (.inl hl))
  exact Wr.append.2 (.inl (h4.mono b off hb h))
 ·exact Wr.append.2 (.inr h)
def Cb : Nat → List AV → List (Nat × AV)
 | _, [] => []
 | i, x :: l => (i, x) :: Cb (i + 1) l
theorem Qc8 : ∀ (l : List AV) (i t : Nat) (v : AV), (Cb i l).lookup t = some v → i ≤ t ∧ l[t - i]? = some v := by
 intro l
 induction l with
 | nil => intro i t v h; simp [Cb] at h
 | cons x l ih =>
  intro i t v h
  simp only [Cb, Qhb] at h
  split at h
  ·rename_i he; simp at he h; subst he; subst h; simp
  ·obtain ⟨h1, h2⟩ := ih (i + 1) t v h
   refine ⟨by omega, ?_⟩
   have : t - i = (t - (i + 1)) + 1 := by omega
   rw [this]
   simpa using h2
def Jz (P : Program) (fn : Func) (R : AV → List Ob → Prop) : Exit → St → Prop
 | .normal, s => Fin P fn R s
 | .ret, s => Fin P fn R s
 | _, _ => False
theorem Qek.intro {P : Program} {f : FuncId} {fn : Func} {c : Code} {avs : List AV} {tab : List Ob} {R : AV → List Ob → Prop} (hf : P.funcs[f]? = some fn) (hb : fn.body = some c) (hN : avs.length ≤ fn.ntmps)
  (h : T P fn.ntmps c ⟨Cb 0 avs, tab⟩ (Jz P fn R)) : Qek P f avs tab R := by
 intro F L w vs hl hv hh hnd hlt
 refine calls_of_wp hf hb ?_
 have hsz : vs.toArray.size = avs.length := by simpa using hl
 have hr : Rel w fn.ntmps F L ⟨Cb 0 avs, tab⟩ { tmps := vs.toArray ++ Array.replicate (fn.ntmps - vs.toArray.size) undef, defers := [] } := by
  refine ⟨rfl, by simp; omega, fun t v ht => ?_, hh, hnd, hlt⟩
  obtain ⟨_, h2⟩ := Qc8 avs 0 t v ht
  simp only [Qha] at h2
  have ht' : t < vs.length := by rw [hl]; exact (List.getElem?_eq_some_iff.1 h2).1
  have : (vs.toArray ++ Array.replicate (fn.ntmps - vs.toArray.size) undef).getD t undef = vs[t] := by
   rw [Array.getD_eq_getD_getElem?, Array.getElem?_append_left (by simpa using ht')]
   simp [ht']
  rw [this]
  exact hv t _ v (by simp [ht']) h2
 refine wp_mono (h F L _ w hr) ?_
 rintro e a' w' ⟨L', s', q, hr', x⟩
 have fin : Fin P fn R s' → a'.defers = [] ∧ ∃ v, (results fn a'.tmps).run P w' = .ok v w' ∧ ∃ v2 x tab' L', Ending.returned v = .returned v2 ∧ R x tab' ∧ AvR w' (L' ++ F) v2 x ∧ X1 w' (L' ++ F) tab' L' ∧ ((L' ++ F).map (·.1)).Nodup ∧ (∀ p ∈ L' ++ F, p.1 < w'.heap.size) ∧ Ext L w L' w' := by
  intro hfin
  obtain ⟨v, y, t, L2, h2, h3, h4, h5, h6, h7, h8⟩ := hfin _ F L' a' w' hr'
  exact ⟨hr'.defers, v, h2, v, y, t, L2, rfl, h3, h4, h5, h6, h7, x.trans h8⟩
 cases e with
 | normal => exact fin q
 | ret => exact fin q
 | exit id => exact q.elim
 | goto l => exact q.elim
 | panic ch => exact q.elim
 | outgrown => exact q.elim
section
variable {P : Program} {N : Nat} {s : St} {o : Oper} {K : St → Prop}
def St.evs (s : St) : List Operand → Option (List AV)
 | [] => some []
 | x :: r => match s.ev x, s.evs r with
  | some v, some l => some (v :: l)
  | _, _ => none
theorem Rel.evs {w : World} {F L : Reg} {a : Act} (hr : Rel w N F L s a) : ∀ {xs : List Operand} {avs : List AV}, s.evs xs = some avs → (xs.map a.eval).length = avs.length ∧ ∀ (i : Nat) (v : Value) (x : AV), (xs.map a.eval)[i]? = some v → avs[i]? = some x → AvR w (L ++ F) v x := by
 intro xs
 induction xs with
 | nil => intro avs h; simp only [St.evs, Qgk] at h; subst h; exact ⟨rfl, fun i v x hv => by simp at hv⟩
 | cons y ys ih =>
  intro avs h
  simp only [St.evs] at h
  cases hy : s.ev y with
  | none => simp [hy] at h
  | some v =>
   cases hys : s.evs ys with
   | none => simp [hy, hys] at h
   | some l =>
    simp only [hy, hys, Qgk] at h
    subst h
    obtain ⟨h1, h2⟩ := ih hys
    refine ⟨by simpa using h1, fun i u x hu hx => ?_⟩
    cases i with
    | zero => simp at hu hx; subst hu; subst hx; exact hr.ev hy
    | succ i => exact h2 i u x (by simpa using hu) (by simpa using hx)
theorem run_callOp {w : World} {a : Act} {f : FuncId} {fn : Func} {args : Array Operand} {ts : Array TypeId} (ho : o.op = .call { callee := .value (.func f), args, argTypes := ts }) (hf : P.funcs[f]? = some fn) (hb : fn.body.isSome = true) (hname : (fn.name == "runtime.NumGoroutine") = false) :
  (execOp a.eval o).run P w = .ok (.enter f (args.map a.eval)) w := by
 have h1 : (callFunc f (#[] ++ args.map a.eval ++ #[])).run P w = .ok (.enter f (args.map a.eval)) w := by
  have h2 : fn.name ≠ "runtime.NumGoroutine" := by simpa using hname
  have h3 : fn.body ≠ none := fun h => by rw [h] at hb; cases hb
  simp [callFunc, hf, h2, h3]
 simp only [execOp, ho, resolve, Act.eval, Deferred.ofValue, Sem.run_bind, Sem.run_pure, Result.andThen_ok, invoke]
 exact h1
end
end Go.Rv
