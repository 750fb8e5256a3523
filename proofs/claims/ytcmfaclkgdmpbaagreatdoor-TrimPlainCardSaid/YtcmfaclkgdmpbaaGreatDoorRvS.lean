/- A LOGIC OF ABSTRACT STATES OVER THE MODEL, part S: calls that change memory that is handed to them; functions with captured variables. -/
import Derived.Test.YtcmfaclkgdmpbaaGreatDoorRvR
namespace Go.Rv
def gl (l : List Value) : Nat → Value := fun i => l.getD i undef
def Ud (P : Program) (f : FuncId) (avs : List AV) (sub : List Ob) (Y : (Nat → Value) → AV) (T : (Nat → Value) → List Ob) : Prop :=
 Qek P f avs sub (fun y t => ∃ γ, y = Y γ ∧ t = T γ)
def setAll : List Nat → List Ob → List Ob → List Ob
 | i :: is, o :: os, tab => setAll is os (tab.set i o)
 | _, _, tab => tab
inductive AtO (tab : List Ob) : List Nat → List Ob → Prop
 | nil : AtO tab [] []
 | cons {i : Nat} {o : Ob} {is : List Nat} {os : List Ob} (h : tab[i]? = some o) (hn : is.contains i = false) (k : AtO tab is os) : AtO tab (i :: is) (o :: os)
def E3 (is : List Nat) : Nat → List Ob → List Ob
 | _, [] => []
 | n, x :: t => bif is.contains n then E3 is (n + 1) t else x :: E3 is (n + 1) t
theorem restO_nil : ∀ (t : List Ob) (n : Nat), E3 [] n t = t := by
 intro t
 induction t with
 | nil => intro n; rfl
 | cons x t ih => intro n; simp [E3, ih]
theorem restO_more {is : List Nat} {i : Nat} (hi : ∀ n, n < i → True) : ∀ (t : List Ob) (n : Nat), i < n → E3 (i :: is) n t = E3 is n t := by
 intro t
 induction t with
 | nil => intro n _; rfl
 | cons x t ih =>
  intro n hn
  have h1 : (i :: is).contains n = is.contains n := by
   rw [Qh2]
   have : (n == i) = false := by simp; omega
   rw [this, Qh1]
  simp only [E3, h1, ih (n + 1) (by omega)]
theorem restO_pull {is : List Nat} {i : Nat} {o : Ob} (hi : is.contains i = false) : ∀ (t : List Ob) (n : Nat), n ≤ i → t[i - n]? = some o → (E3 is n t).Perm (o :: E3 (i :: is) n t) := by
 intro t
 induction t with
 | nil => intro n _ h; simp at h
 | cons x t ih =>
  intro n hn h
  by_cases he : i = n
  ·subst he
   simp at h
   subst h
   have h1 : (i :: is).contains i = true := by simp
   simp only [E3, hi, h1, cond_false, cond_true]
   rw [restO_more (fun _ _ => trivial) t (i + 1) (by omega)]
  ·have h2 : i - n = (i - (n + 1)) + 1 := by omega
   rw [h2, List.getElem?_cons_succ] at h
   have h3 := ih (n + 1) (by omega) h
   have h1 : (i :: is).contains n = is.contains n := by
    rw [Qh2]
    have : (n == i) = false := by simp; omega
    rw [this, Qh1]
   simp only [E3, h1]
   cases is.contains n with
   | true => exact h3
   | false => exact (h3.cons x).trans (.swap _ _ _)
theorem restO_set {is : List Nat} {i : Nat} {o : Ob} (hi : is.contains i = true) : ∀ (t : List Ob) (n : Nat), n ≤ i → E3 is n (t.set (i - n) o) = E3 is n t := by
 intro t
 induction t with
 | nil => intro n _; rfl
 | cons x t ih =>
  intro n hn
  by_cases he : i = n
  ·subst he
   simp only [Nat.sub_self, Qiz, E3, hi, cond_true]
  ·have h2 : i - n = (i - (n + 1)) + 1 := by omega
   rw [h2, Qi0]
   simp only [E3, ih (n + 1) (by omega)]
theorem AtO.perm {tab : List Ob} {is : List Nat} {os : List Ob} (h : AtO tab is os) : tab.Perm (os ++ E3 is 0 tab) := by
 induction h with
 | nil => rw [restO_nil]; exact .refl _
 | cons h hn k ih =>
  refine ih.trans ?_
  have := restO_pull hn tab 0 (Qf7 _) (by simpa using h)
  refine ((List.Perm.refl _).append this).trans ?_
  exact List.perm_middle
theorem setAll_get : ∀ (is : List Nat) (os : List Ob) (tab : List Ob) (i : Nat), is.contains i = false → (setAll is os tab)[i]? = tab[i]? := by
 intro is
 induction is with
 | nil => intro os tab i _; cases os <;> rfl
 | cons j is ih =>
  intro os tab i hi
  rw [Qh2, Qi6] at hi
  cases os with
  | nil => rfl
  | cons o os =>
   simp only [setAll]
   rw [ih os _ i hi.2]
   have : i ≠ j := by simpa using hi.1
   exact List.getElem?_set_ne (fun h => this h.symm)
theorem restO_setAll {js : List Nat} : ∀ (is : List Nat) (os : List Ob) (tab : List Ob), (∀ k ∈ is, js.contains k = true) → E3 js 0 (setAll is os tab) = E3 js 0 tab := by
 intro is
 induction is with
 | nil => intro os tab _; cases os <;> rfl
 | cons j is ih =>
  intro os tab h
  cases os with
  | nil => rfl
  | cons o os =>
   simp only [setAll]
   rw [ih os _ (fun k hk => h k (by simp [hk]))]
   have := restO_set (o := o) (h j (by simp)) tab 0 (Qf7 _)
   simpa using this
theorem AtO.set {tab : List Ob} {is : List Nat} {os : List Ob} {i : Nat} {o : Ob} (h : AtO tab is os) (hi : is.contains i = false) : AtO (tab.set i o) is os := by
 induction h with
 | nil => exact .nil
 | cons h hn k ih =>
  rename_i j _ js _
  rw [Qh2, Qi6] at hi
  have : i ≠ j := by simpa using hi.1
  exact .cons (by rw [List.getElem?_set_ne this]; exact h) hn (ih hi.2)
theorem AtO.setAll : ∀ {is : List Nat} {os os' : List Ob} {tab : List Ob}, AtO tab is os → os'.length = os.length → AtO (setAll is os' tab) is os' := by
 intro is
 induction is with
 | nil =>
  intro os os' tab h hl
  cases h
  have : os' = [] := Qgj (by simpa using hl)
  subst this
  exact .nil
 | cons i is ih =>
  intro os os' tab h hl
  cases h with
  | cons h hn k =>
   cases os' with
   | nil => simp at hl
   | cons o' os' =>
    simp only [Rv.setAll]
    have h1 := ih (os' := os') (k.set (o := o') hn) (by simpa using hl)
    refine .cons ?_ hn h1
    rw [setAll_get _ _ _ _ hn]
    have hlt : i < tab.length := (List.getElem?_eq_some_iff.1 h).1
    simp [hlt]
theorem AtO.perm_set {tab : List Ob} {is : List Nat} {os os' : List Ob} (h : AtO tab is os) (hl : os'.length = os.length) : (os' ++ E3 is 0 tab).Perm (Rv.setAll is os' tab) := by
 have h1 := (h.setAll hl).perm
 rw [restO_setAll is os' tab (fun k hk => by simpa using hk)] at h1
 exact h1.symm
section
variable {P : Program} {N : Nat} {s : St} {o : Oper} {K : St → Prop}
theorem Q6 {f : FuncId} {fn : Func} {args : Array Operand} {ts : Array TypeId} {avs : List AV} {is : List Nat} {sub ph : List Ob} {Y : (Nat → Value) → AV} {T : (Nat → Value) → List Ob}
  (ho : o.op = .call { callee := .value (.func f), args, argTypes := ts }) (hN : ∀ d, o.dst = some d → d < N)
  (hf : P.funcs[f]? = some fn) (hb : fn.body.isSome = true) (hname : (fn.name == "runtime.NumGoroutine") = false) (hargs : Zs s args.toList avs) (hc : Ud P f avs sub Y T) (hat : AtO s.tab is (sub ++ ph)) (hT : ∀ γ, (T γ).length = (sub ++ ph).length)
  (k : ∀ γ, K (s.upd o.dst (Y γ) (setAll is (T γ) s.tab))) : OpT P N o s K := by
 have hp : s.tab.Perm (sub ++ (ph ++ E3 is 0 s.tab)) := by rw [← Qfx]; exact hat.perm
 refine OpT.after (K' := fun t => ∃ γ, t = s.upd o.dst (Y γ) (T γ ++ (ph ++ E3 is 0 s.tab))) (Qfn ho hN hf hb hname hargs hp hc (fun y t ⟨γ, h1, h2⟩ => ⟨γ, by rw [h1, h2]⟩)) ?_
 rintro t ⟨γ, rfl⟩
 refine ⟨_, ?_, k γ⟩
 have e : ∀ tab, s.upd o.dst (Y γ) tab = ⟨(s.putO o.dst (Y γ)).slots, tab⟩ := fun tab => rfl
 rw [e, e]
 have p1 : (T γ ++ (ph ++ E3 is 0 s.tab)).Perm ((T γ ++ E3 is 0 s.tab) ++ ph) := by
  rw [Qfx]
  exact (List.Perm.refl _).append Qho
 refine (Zx.perm (s := ⟨(s.putO o.dst (Y γ)).slots, _⟩) p1).trans ?_
 refine (Cg (u := ph) (s := ⟨(s.putO o.dst (Y γ)).slots, _⟩) rfl).trans ?_
 exact Zx.perm (s := ⟨(s.putO o.dst (Y γ)).slots, _⟩) (hat.perm_set (hT γ))
theorem Ud.of_callR {f : FuncId} {avs : List AV} {G : List Ob} {x : AV} (h : Z1 P f avs G x) : Ud P f avs G (fun _ => x) (fun _ => G) := Qek.mono h (fun _ _ ⟨h1, h2⟩ => ⟨fun _ => undef, h1, h2⟩)
theorem OpT.makeFunc {f : FuncId} {caps : Array Operand} {vs : List Value} (ho : o.op = .makeFunc (.func f) #[] caps) (hN : ∀ d, o.dst = some d → d < N) (hv : s.evs caps.toList = some (vs.map fun v => AV.c (.ex v)))
  (k : K (s.putO o.dst (.c (.ex (.func (.func f) #[] vs.toArray))))) : OpT P N o s K :=
 Zd _ hN (fun F L a w hr => by
  refine ⟨.func (.func f) #[] vs.toArray, ?_, .c _ _ (.ex _ rfl)⟩
  obtain ⟨h1, h2⟩ := hr.evs hv
  have : caps.map a.eval = vs.toArray := by
   apply Array.toList_inj.1
   rw [Qiv]
   apply List.ext_getElem?
   intro i
   rcases Qi1 i (caps.toList.map a.eval).length with hi | hi
   ·have hi' : i < (vs.map fun v => AV.c (.ex v)).length := by rw [← h1]; exact hi
    have hi2 : i < vs.length := by simpa using hi'
    have := h2 i _ (AV.c (DC.ex vs[i])) (List.getElem?_eq_getElem hi) (by simp [hi2])
    rw [List.getElem?_eq_getElem hi, this.exact.1]
    simp [hi2]
   ·rw [List.getElem?_eq_none hi, List.getElem?_eq_none (by simp at h1 hi ⊢; omega)]
  simp [execOp, ho, Instr.makeFunc, this]) k
theorem I4 {f : FuncId} {y : Operand} {args : Array Operand} {ts : Array TypeId} {vs : List Value} (ho : o.op = .call { callee := .value y, args, argTypes := ts }) (hy : s.ev y = some (.c (.ex (.func (.func f) #[] vs.toArray)))) (hN : ∀ d, o.dst = some d → d < N)
  {fn : Func} (hf : P.funcs[f]? = some fn) (hb : fn.body.isSome = true) (hname : (fn.name == "runtime.NumGoroutine") = false) (h : OpT P N { o with op := .call { callee := .value (.func f), args := args ++ (vs.map Operand.const).toArray, argTypes := ts } } s K) : OpT P N o s K := by
 intro F L a w hr
 have := h F L a w hr
 unfold Oper.wp at this ⊢
 have e1 : (execOp a.eval { o with op := .call { callee := .value (.func f), args := args ++ (vs.map Operand.const).toArray, argTypes := ts } }).run P w = .ok (.enter f ((args ++ (vs.map Operand.const).toArray).map a.eval)) w := run_callOp rfl hf hb hname
 have e2 : (execOp a.eval o).run P w = .ok (.enter f ((args ++ (vs.map Operand.const).toArray).map a.eval)) w := by
  have hv := hr.exact hy
  rw [← e1]
  have hc : (vs.map Operand.const).map a.eval = vs := by
   rw [Qjc]
   exact (Qja (fun v _ => rfl)).trans (List.map_id vs)
  have he : (args ++ (vs.map Operand.const).toArray).map a.eval = args.map a.eval ++ vs.toArray := by
   apply Array.toList_inj.1; simp only [Qiv, Qhz, Qg5, hc]
  simp only [execOp, ho, resolve, Deferred.ofValue, hv]
  show (callFunc f (#[] ++ args.map a.eval ++ vs.toArray)).run P w = (callFunc f (#[] ++ (args ++ (vs.map Operand.const).toArray).map a.eval ++ #[])).run P w
  rw [he]
  simp
 rw [e1] at this
 rw [e2]
 exact this
def nilOk : Value → Bool
 | .pointer (some _) => true
 | .func (.func _) _ _ => true
 | _ => false
theorem OpT.nilCheck {x : Operand} {v : Value} (ho : o.op = .nilCheck x) (hN : ∀ d, o.dst = some d → d < N) (hx : s.ev x = some (.c (.ex v))) (hv : nilOk v = true) (k : K (s.putO o.dst (.c (.ex v)))) : OpT P N o s K :=
 Zd _ hN (fun F L a w hr => by
  refine ⟨v, ?_, .c _ _ (.ex _ (hr.ev hx).exact.2)⟩
  have := hr.exact hx
  cases v with
  | pointer p => cases p with
   | none => simp [nilOk] at hv
   | some p => simp [execOp, ho, this]
  | func fn a c => cases fn <;> first | (simp [execOp, ho, this]; done) | (simp [nilOk] at hv)
  | _ => simp [nilOk] at hv) k
theorem Zi {t t' : St} (h : OpT P N o s (fun u => u = t)) (ht : Zx t t') (k : K t') : OpT P N o s K :=
 OpT.after h (fun u hu => ⟨t', by subst hu; exact ht, k⟩)
theorem K9 {f : FuncId} {fn : Func} {args : Array Operand} {ts : Array TypeId} {avs : List AV} {G : List Ob} {x : AV} (ho : o.op = .call { callee := .value (.func f), args, argTypes := ts }) (hN : ∀ d, o.dst = some d → d < N)
  (hf : P.funcs[f]? = some fn) (hb : fn.body.isSome = true) (hname : (fn.name == "runtime.NumGoroutine") = false) (hargs : Zs s args.toList avs) (hg : Ros s G) (hc : Z1 P f avs G x)
  (k : K (s.putO o.dst x)) : OpT P N o s K := by
 intro F L a w hr
 have hr1 : Rel w N F L ⟨s.slots, G ++ s.tab⟩ a := ⟨hr.defers, hr.size, hr.slot, hg.heap hr, hr.nodup, hr.lt⟩
 have hG : ∀ {w : World} {M r : Reg}, X1 w M G r → r = [] := by
  intro w M r h
  clear hc hr1
  induction hg generalizing r with
  | nil => cases h; rfl
  | cons i hi _ ih =>
   cases h with
   | cons _ _ _ _ ho hk =>
    have e1 := ih hk
    subst e1
    cases ho
    rfl
  | tab i hi _ ih =>
   cases h with
   | cons _ _ _ _ ho hk =>
    have e1 := ih hk
    subst e1
    cases ho
    rfl
 have hev : Zs ⟨s.slots, G ++ s.tab⟩ args.toList avs := by
  intro w' N' F' L' a' hr'
  obtain ⟨L1, L2, h1, h2, rfl⟩ := hr'.heap.split
  have e1 := hG h1
  subst e1
  exact hargs w' N' F' L2 a' ⟨hr'.defers, hr'.size, hr'.slot, h2, hr'.nodup, hr'.lt⟩
 refine Ch (Qfn (s := ⟨s.slots, G ++ s.tab⟩) (sub := G) (rest := s.tab) (K := fun t => t = (⟨s.slots, G ++ s.tab⟩ : St).upd o.dst x (G ++ s.tab)) ho hN hf hb hname hev (List.Perm.refl _) hc (fun y t ⟨h1, h2⟩ => by subst h1; subst h2; rfl) F L a w hr1) ?_ (fun _ _ _ h => h)
 rintro a' w' ⟨L', s', rfl, hr', hx⟩
 have h2 : Zx ((⟨s.slots, G ++ s.tab⟩ : St).upd o.dst x (G ++ s.tab)) (s.putO o.dst x) := by
  have e : ((⟨s.slots, G ++ s.tab⟩ : St).upd o.dst x (G ++ s.tab)) = ⟨(s.putO o.dst x).slots, G ++ s.tab⟩ := by cases o.dst <;> rfl
  rw [e]
  have hp : Zx ⟨(s.putO o.dst x).slots, G ++ s.tab⟩ ⟨(s.putO o.dst x).slots, s.tab ++ G⟩ := Zx.perm (s := ⟨(s.putO o.dst x).slots, G ++ s.tab⟩) Qho
  refine hp.trans ?_
  have := Cg (u := G) (s := ⟨(s.putO o.dst x).slots, s.tab ++ G⟩) (t := s.tab) rfl
  have e2 : (⟨(s.putO o.dst x).slots, s.tab⟩ : St) = s.putO o.dst x := by cases o.dst <;> rfl
  rw [e2] at this
  exact this
 obtain ⟨L2, h3, h4⟩ := h2 N F L' a' w' hr'
 exact ⟨L2, _, k, h3, hx.trans h4⟩
end
abbrev Tp (_ : Nat) : Value := .slice none 0 0
inductive WeakC (tab : List Ob) : DC → DC → Prop
 | same (c : DC) : WeakC tab c c
 | full (f : Bool) (esz : Nat) (elems : List (List DC)) : WeakC tab (.sl f esz elems) (.sl false esz elems)
 | nil (f : Bool) (esz : Nat) : WeakC tab (.ex (.slice none 0 0)) (.sl f esz [])
 | view (i : Nat) {v : Value} {e : TypeId} {esz : Nat} {elems : List (List DC)} (h : tab[i]? = some (.arrA v e esz elems)) : WeakC tab (.ex v) (.sl false esz elems)
inductive Qct (tab : List Ob) : List DC → List DC → Prop
 | refl (l : List DC) : Qct tab l l
 | cons {c d : DC} {l m : List DC} (h : WeakC tab c d) (k : Qct tab l m) : Qct tab (c :: l) (d :: m)
 | app (x : List DC) {l m : List DC} (k : Qct tab l m) : Qct tab (x ++ l) (x ++ m)
theorem WeakC.rep {tab : List Ob} {c d : DC} (h : WeakC tab c d) {w : World} {M L : Reg} (hh : X1 w M tab L) {v : Value} (hv : Fw w M v c) : Fw w M v d := by
 cases h with
 | same => exact hv
 | full f esz elems => exact hv.unfull
 | nil f esz => rw [hv.exact.1]; exact .empty none
 | view i h =>
  rw [hv.exact.1]
  obtain ⟨r1, r2, h1, -, -⟩ := hh.get h
  cases h1 with
  | arrA _ _ _ _ _ hown => exact hown.view
theorem V8.split {w : World} {M : Reg} {x y : List DC} {vs : List Value} (h : V8 w M vs (x ++ y)) : ∃ us ts, vs = us ++ ts ∧ V8 w M us x ∧ V8 w M ts y := by
 refine ⟨vs.take x.length, vs.drop x.length, (List.take_append_drop _ _).symm, ?_, ?_⟩
 ·have := h.take x.length
  rwa [Qi8] at this
 ·have := h.drop x.length
  rwa [List.drop_left] at this
theorem Qct.rep {tab : List Ob} {l m : List DC} (h : Qct tab l m) {w : World} {M L : Reg} (hh : X1 w M tab L) : ∀ {vs : List Value}, V8 w M vs l → V8 w M vs m := by
 induction h with
 | refl l => exact fun h => h
 | cons h k ih =>
  intro vs hv
  cases vs with
  | nil => exact absurd hv.1 (by simp)
  | cons v vs => exact V8.cons (h.rep hh hv.uncons.1) (ih hv.uncons.2)
 | app x k ih =>
  intro vs hv
  obtain ⟨us, ts, rfl, h1, h2⟩ := hv.split
  exact h1.append (ih h2)
theorem Zx.weakSlot {s : St} (d : Nat) {l l' : List DC} (hd : s.slots.lookup d = some (.agg l)) (hw : Qct s.tab l l') : Zx s ⟨(d, .agg l') :: s.slots, s.tab⟩ :=
 Zx.slot d _ fun N F L a w hr => by
  have h := hr.avr hd
  generalize a.tmps.getD d undef = q at h
  cases h with
  | agg vs _ h => exact .agg vs _ (hw.rep hr.heap h)
theorem Xe.plain {w : World} {M : Reg} : ∀ {l : List DC} {vs : List Value} {r : Reg}, Xe w M vs (l.map OC.d) r → r = [] ∧ V8 w M vs l := by
 intro l
 induction l with
 | nil => intro vs r h; cases h; exact ⟨rfl, .nil⟩
 | cons c l ih =>
  intro vs r h
  cases h with
  | cons v _ r _ _ rs h t =>
   obtain ⟨e, h2⟩ := ih t
   subst e
   cases h with
   | d _ h => exact ⟨rfl, V8.cons h h2⟩
theorem Jb {s : St} (i : Nat) {b : Nat} {e : TypeId} {l l' : List DC} (hi : s.tab[i]? = some (.box b e (l.map OC.d))) (hw : Qct s.tab l l') : Zx s ⟨s.slots, s.tab.set i (.box b e (l'.map OC.d))⟩ := fun N F L a w hr => by
 obtain ⟨r, R, ho, hwr, hnd, hlt, hdis, hgo⟩ := hr.touch hi
 cases ho with
 | box _ _ cs _ r hb h =>
  obtain ⟨e1, h1⟩ := h.plain
  subst e1
  have h2 : V8 w (L ++ F) cs.toList l := h1.less fun b off => (hwr b off).2
  have h3 := (hw.rep hr.heap h2).less fun b off => (hwr b off).1
  obtain ⟨L', h4, h5⟩ := hgo w [(b, 0)] (.box b e (l'.map OC.d)) none undef .any ⟨Ext.refl _ _, hnd, hlt⟩ (fun d hd => by cases hd) (.box b e cs _ [] hb (Qcy h3)) (.any _)
  exact ⟨L', by simpa [St.upd, St.putO, Act.put] using h4, h5⟩
end Go.Rv
