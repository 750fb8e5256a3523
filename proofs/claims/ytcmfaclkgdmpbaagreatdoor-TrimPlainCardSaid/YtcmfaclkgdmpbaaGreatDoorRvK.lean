/- A LOGIC OF ABSTRACT STATES OVER THE MODEL, part K: a region whose order is drawn, and in which new memory is made: what is not known ahead (a slice's header, a block's number) is a value that stands for the operation. -/
import Derived.Test.YtcmfaclkgdmpbaaGreatDoorRvJ
namespace Go.Rv
abbrev Gh := (Nat → Value) × Nat
def setG (γ : Nat → Gh) (i : Nat) (g : Gh) : Nat → Gh := fun k => if k = i then g else γ k
theorem setG_ne {γ : Nat → Gh} {i k : Nat} {g : Gh} (h : k ≠ i) : setG γ i g k = γ k := by simp [setG, h]
inductive Qae (P : Program) (N : Nat) (ops : Array Oper) : Nat → ((Nat → Gh) → St) → ((Nat → Gh) → List Ct) → List (List Nat) → ((Nat → Gh) → St) → Prop
 | nil (i : Nat) (t : (Nat → Gh) → St) : Qae P N ops i t (fun _ => []) [] t
 | cons {i : Nat} {t t' : (Nat → Gh) → St} {c : (Nat → Gh) → Ct} {cs : (Nat → Gh) → List Ct} {Ds : List (List Nat)} (D : List Nat) (hD : ∀ γ γ', (∀ k ∈ D, γ k = γ' k) → c γ = c γ')
   (hok : ∀ γ u, (c γ).met u → One P N ops i u (fun u' => ∃ g, u' = (c (setG γ i g)).go u)) (hm : ∀ γ, (c γ).met (t γ)) (h : Qae P N ops (i + 1) (fun γ => (c γ).go (t γ)) cs Ds t') : Qae P N ops i t (fun γ => c γ :: cs γ) (D :: Ds) t'
def depsOk (ms : List Nat) (Ds : List (List Nat)) : Bool := (List.range Ds.length).all fun j => (Ds.getD j []).all fun k => k == j || (decide (k < j) && (ms.getD j 0).testBit k)
section
variable {P : Program} {N : Nat} {ops : Array Oper}
theorem Qae.all {i : Nat} {t t' : (Nat → Gh) → St} {cs : (Nat → Gh) → List Ct} {Ds : List (List Nat)} (h : Qae P N ops i t cs Ds t') :
  (∀ γ, t' γ = Kl (fun _ => true) (tag i (cs γ)) (t γ)) ∧ (∀ γ, (cs γ).length = Ds.length) ∧
  (∀ γ j c, (cs γ)[j]? = some c → c.met (Kl (fun k => decide (k < i + j)) (tag i (cs γ)) (t γ)) ∧ ∀ u, c.met u → One P N ops (i + j) u (fun u' => ∃ g c', (cs (setG γ (i + j) g))[j]? = some c' ∧ u' = c'.go u)) ∧
  (∀ γ γ' j, (∀ k ∈ Ds.getD j [], γ k = γ' k) → (cs γ)[j]? = (cs γ')[j]?) := by
 induction h with
 | nil i t => exact ⟨fun _ => rfl, fun _ => rfl, fun γ j c h => by simp at h, fun γ γ' j _ => rfl⟩
 | cons D hD hok hm h ih =>
  rename_i i t t' c cs Ds
  obtain ⟨ih1, ih2, ih3, ih4⟩ := ih
  refine ⟨fun γ => by simpa [tag, Kl] using ih1 γ, fun γ => by simp [ih2 γ], fun γ j c' hj => ?_, fun γ γ' j hd => ?_⟩
  ·cases j with
   | zero =>
    simp at hj; subst hj
    refine ⟨?_, fun u hu => ?_⟩
    ·have : Kl (fun k => decide (k < i + 0)) (tag i (c γ :: cs γ)) (t γ) = t γ := by
      have gen : ∀ (l : List (Nat × Ct)) (t : St), (∀ p ∈ l, i ≤ p.1) → Kl (fun k => decide (k < i + 0)) l t = t := by
       intro l
       induction l with
       | nil => intro t _; rfl
       | cons p l ihl =>
        intro t hp
        obtain ⟨k, c2⟩ := p
        have := hp (k, c2) (by simp)
        simp only [Kl, Qht]
        rw [if_neg (by simp; omega)]
        exact ihl t (fun q hq => hp q (by simp [hq]))
      exact gen _ _ (fun p hp => ((Dq _ _ _).1 hp).1)
     rw [this]; exact hm γ
    ·intro F L a w hr
     refine Ti ?_ (fun _ _ _ h => h) (hok γ u hu F L a w hr)
     rintro a' w' ⟨L', s', ⟨g, hg⟩, hr', hx⟩
     exact ⟨L', s', ⟨g, _, by simp, hg⟩, hr', hx⟩
   | succ j =>
    obtain ⟨h1, h2⟩ := ih3 γ j c' (by simpa using hj)
    have e : i + (j + 1) = i + 1 + j := by omega
    rw [e]
    refine ⟨?_, fun u hu => ?_⟩
    ·simp only [tag, Kl]
     rw [if_pos (by simp; omega)]
     exact h1
    ·intro F L a w hr
     refine Ti ?_ (fun _ _ _ h => h) (h2 u hu F L a w hr)
     rintro a' w' ⟨L', s', ⟨g, c'', hc, hg⟩, hr', hx⟩
     exact ⟨L', s', ⟨g, c'', by simpa using hc, hg⟩, hr', hx⟩
  ·cases j with
   | zero => simp; exact hD γ γ' (by simpa using hd)
   | succ j => simpa using ih4 γ γ' j (by simpa using hd)
theorem runC_fam (S : Nat → Bool) : ∀ (cs cs' : List Ct) (i : Nat) (t : St), cs.length = cs'.length → (∀ k, S (i + k) = true → cs[k]? = cs'[k]?) → Kl S (tag i cs) t = Kl S (tag i cs') t := by
 intro cs
 induction cs with
 | nil => intro cs' i t hl h; cases cs' with | nil => rfl | cons _ _ => simp at hl
 | cons c cs ih =>
  intro cs' i t hl h
  cases cs' with
  | nil => simp at hl
  | cons c' cs' =>
   have hr : ∀ t, Kl S (tag (i + 1) cs) t = Kl S (tag (i + 1) cs') t := fun t => ih cs' (i + 1) t (by simpa using hl) (fun k hk => by
    have := h (k + 1) (by rw [show i + (k + 1) = i + 1 + k by omega]; exact hk)
    simpa using this)
   simp only [tag, Kl]
   cases hS : S i with
   | false => simp only [Qjg, if_false]; exact hr t
   | true =>
    have := h 0 (by simpa using hS)
    simp at this
    subst this
    simp only [if_true]
    exact hr _
theorem drawStep {ms : List Nat} {cs : List Ct} {s u : St} {c : Ct} {i : Nat} {listed : Array Bool} (hm : Pq ops ms = true) (ha : Px ms cs = true) (hlen : cs.length = ops.size) (hc : Closed ops listed) (his : i < ops.size) (hi' : i < listed.size)
  (hpre' : ∀ o, ops[i]? = some o → ∀ e ∈ o.after, Region.binds .any e = true → listed.getD e.on false = true) (hif : listed.getD i false = false) (hci : cs[i]? = some c)
  (hu : u.like (Kl (fun k => listed.getD k false) (tag 0 cs) s)) :
  (c.met (Kl (fun k => decide (k < i)) (tag 0 cs) s) → c.met u) ∧ (c.go u).like (Kl (fun k => (listed.setIfInBounds i true).getD k false) (tag 0 cs) s) := by
 have hother : ∀ k, k ≠ i → (listed.setIfInBounds i true).getD k false = listed.getD k false := fun k hk => _root_.Go.getD_set_ne false (fun h => hk h.symm)
 -- of those that meet it the ones ahead are listed, the ones behind are not
 have ahead : ∀ k ck, cs[k]? = some ck → k < i → listed.getD k false = false → ck.meets c = false := by
  intro k ck hk hki hkl
  refine Pw ha hki hk hci ?_
  cases hb : (ms.getD i 0).testBit k with
  | false => rfl
  | true => rw [Cw hm hc i hpre' k hki his hb] at hkl; cases hkl
 have behind : ∀ k ck, cs[k]? = some ck → i < k → listed.getD k false = true → c.meets ck = false := by
  intro k ck hk hik hkl
  refine Pw ha hik hci hk ?_
  cases hb : (ms.getD k 0).testBit i with
  | false => rfl
  | true =>
   have := Cw hm hc k (fun o' ho' e he hb => hc k o' ho' hkl e he hb) i hik (by rw [← hlen]; exact (List.getElem?_eq_some_iff.1 hk).1) hb
   rw [this] at hif; cases hif
 have agree : ∀ (p : Nat × Ct), p ∈ tag 0 cs → (∀ hk : p.1 ≠ i, (p.1 < i → p.2.meets c = true) ∧ (i < p.1 → c.meets p.2 = true)) → listed.getD p.1 false = decide (p.1 < i) := by
  intro p hp hmt
  have hk := ((Dq cs 0 p).1 hp).2
  simp only [Qha] at hk
  by_cases hpi : p.1 = i
  ·rw [hpi, hif]; simp
  ·obtain ⟨h1, h2⟩ := hmt hpi
   by_cases hlt : p.1 < i
   ·simp only [hlt, decide_true]
    cases hb : listed.getD p.1 false with
    | true => rfl
    | false => rw [ahead p.1 p.2 hk hlt hb] at h1; exact absurd (h1 hlt) (by simp)
   ·simp only [hlt, decide_false]
    cases hb : listed.getD p.1 false with
    | false => rfl
    | true => rw [behind p.1 p.2 hk (by omega) hb] at h2; exact absurd (h2 (by omega)) (by simp)
 have meets_of : ∀ {a b : Ct}, (∃ d, a.dst = some d ∧ ((∃ p ∈ b.need, p.1 = d) ∨ b.dst = some d)) ∨ (∃ d, b.dst = some d ∧ ∃ p ∈ a.need, p.1 = d) ∨ (∃ p ∈ a.upd, (∃ q ∈ b.objs, q.1 = p.1) ∨ ∃ q ∈ b.upd, q.1 = p.1) ∨ (∃ p ∈ b.upd, ∃ q ∈ a.objs, q.1 = p.1) → a.meets b = true := by
  intro a b h
  cases hb : a.meets b with
  | true => rfl
  | false =>
   exfalso
   obtain ⟨m1, m2, m3, m4⟩ := Qe7 hb
   rcases h with ⟨d, hd, ⟨p, hp, he⟩ | he⟩ | ⟨d, hd, p, hp, he⟩ | ⟨p, hp, ⟨q, hq, he⟩ | ⟨q, hq, he⟩⟩ | ⟨p, hp, q, hq, he⟩
   ·exact (m1 d hd).1 p hp he
   ·exact (m1 d hd).2 he
   ·exact m2 d hd p hp he
   ·exact (m3 p hp).1 q hq he
   ·exact (m3 p hp).2 q hq he
   ·exact m4 p hp q hq he
 have slotAt : ∀ d, (∃ p ∈ c.need, p.1 = d) ∨ c.dst = some d → (Kl (fun k => listed.getD k false) (tag 0 cs) s).slots.lookup d = (Kl (fun k => decide (k < i)) (tag 0 cs) s).slots.lookup d := by
  intro d hd
  refine B0 _ _ d _ _ _ rfl (fun p hp hpd => agree p hp (fun _ => ⟨fun _ => meets_of (.inl ⟨d, hpd, hd⟩), fun _ => ?_⟩))
  rcases hd with hd | hd
  ·exact meets_of (.inr (.inl ⟨d, hpd, hd⟩))
  ·exact meets_of (.inl ⟨d, hd, .inr hpd⟩)
 have tabAt : ∀ q : Nat, (∃ p ∈ c.objs, p.1 = q) ∨ (∃ p ∈ c.upd, p.1 = q) → (Kl (fun k => listed.getD k false) (tag 0 cs) s).tab[q]? = (Kl (fun k => decide (k < i)) (tag 0 cs) s).tab[q]? := by
  intro q hd
  refine Tm _ _ q _ _ _ rfl (fun p hp hpd => agree p hp (fun _ => ?_))
  obtain ⟨x, hx, hxq⟩ := hpd
  rcases hd with ⟨y, hy, hyq⟩ | ⟨y, hy, hyq⟩
  ·exact ⟨fun _ => meets_of (.inr (.inr (.inl ⟨x, hx, .inl ⟨y, hy, by omega⟩⟩))), fun _ => meets_of (.inr (.inr (.inr ⟨x, hx, y, hy, by omega⟩)))⟩
  ·exact ⟨fun _ => meets_of (.inr (.inr (.inl ⟨x, hx, .inr ⟨y, hy, by omega⟩⟩))), fun _ => meets_of (.inr (.inr (.inl ⟨y, hy, .inr ⟨x, hx, by omega⟩⟩)))⟩
 refine ⟨fun hmet => ⟨fun p hp => ?_, fun p hp => ?_⟩, ?_⟩
 ·rw [hu.1, slotAt p.1 (.inl ⟨p, hp, rfl⟩)]
  exact hmet.slots p hp
 ·rw [hu.2, tabAt p.1 (.inl ⟨p, hp, rfl⟩)]
  exact hmet.objs p hp
 have hS : ∀ (p : Nat × Ct), p ∈ tag 0 cs → (∀ hk : p.1 ≠ i, (p.1 < i → p.2.meets c = true) ∧ (i < p.1 → c.meets p.2 = true)) → (listed.setIfInBounds i true).getD p.1 false = decide (p.1 < 0 + i + 1) := by
  intro p hp hmt
  by_cases hpi : p.1 = i
  ·rw [hpi, Cf hi', Qf0 (show i < 0 + i + 1 by omega)]
  ·rw [hother p.1 hpi, agree p hp hmt]
   by_cases h : p.1 < i
   ·rw [Qf0 h, Qf0 (show p.1 < 0 + i + 1 by omega)]
   ·rw [Qfv h, Qfv (show ¬ p.1 < 0 + i + 1 by omega)]
 have hsucc := runC_succ cs 0 i s c hci
 simp only [Qgq] at hsucc hS
 refine ⟨fun d => ?_, fun q => ?_⟩
 ·rw [Fo]
  by_cases hd : c.dst = some d
  ·rw [if_pos hd]
   have e1 : (Kl (fun k => (listed.setIfInBounds i true).getD k false) (tag 0 cs) s).slots.lookup d = (Kl (fun k => decide (k < i + 1)) (tag 0 cs) s).slots.lookup d :=
    B0 _ _ d _ _ _ rfl (fun p hp hpd => hS p hp (fun _ => ⟨fun _ => meets_of (.inl ⟨d, hpd, .inr hd⟩), fun _ => meets_of (.inl ⟨d, hd, .inr hpd⟩)⟩))
   rw [e1, hsucc, Fo, if_pos hd]
  ·rw [if_neg hd, hu.1]
   refine (B0 _ _ d _ _ _ rfl (fun p hp hpd => ?_))
   have hpi : p.1 ≠ i := fun h => by
    have hk := ((Dq cs 0 p).1 hp).2
    simp only [Qha, h] at hk
    rw [hci] at hk
    cases hk
    exact hd hpd
   rw [hother p.1 hpi]
 ·by_cases hq' : ∃ p ∈ c.upd, p.1 = q
  ·have e1 : (Kl (fun k => (listed.setIfInBounds i true).getD k false) (tag 0 cs) s).tab[q]? = (Kl (fun k => decide (k < i + 1)) (tag 0 cs) s).tab[q]? :=
    Tm _ _ q _ _ _ rfl (fun p hp hpd => hS p hp (fun _ => by
     obtain ⟨x, hx, hxq⟩ := hpd
     obtain ⟨y, hy, hyq⟩ := hq'
     exact ⟨fun _ => meets_of (.inr (.inr (.inl ⟨x, hx, .inr ⟨y, hy, by omega⟩⟩))), fun _ => meets_of (.inr (.inr (.inl ⟨y, hy, .inr ⟨x, hx, by omega⟩⟩)))⟩))
   rw [e1, hsucc]
   refine Fp _ _ _ _ ?_
   rw [hu.2, tabAt q (.inr hq')]
  ·have e2 : (c.go u).tab[q]? = u.tab[q]? := Ps _ _ _ (fun p hp he => hq' ⟨p, hp, he⟩)
   rw [e2, hu.2]
   refine (Tm _ _ q _ _ _ rfl (fun p hp hpd => ?_))
   have hpi : p.1 ≠ i := fun h => by
    have hk := ((Dq cs 0 p).1 hp).2
    simp only [Qha, h] at hk
    rw [hci] at hk
    cases hk
    exact hq' hpd
   rw [hother p.1 hpi]
theorem T.drawG {id : Nat} {s : St} {t s1 : (Nat → Gh) → St} {cs : (Nat → Gh) → List Ct} {ms : List Nat} {Ds : List (List Nat)} {Q : Exit → St → Prop} (hmix : P.follows .mixedOrders = true) (hcs : Qae P N ops 0 (fun _ => s) cs Ds t) (hlen : Ds.length = ops.size) (hed : Ta ops = true) (hm : Pq ops ms = true) (hds : depsOk ms Ds = true) (ha : ∀ γ, Px ms (cs γ) = true)
  (hs : ∀ γ, Sub (t γ).slots (s1 γ).slots) (ht : ∀ γ, (t γ).tab = (s1 γ).tab) (hq : ∀ γ u, Zx u (s1 γ) → Q .normal u) : T P N (.region id ops true) s Q := by
 obtain ⟨hfin, hcl, hall, hdep⟩ := hcs.all
 have hlen' : ∀ γ, (cs γ).length = ops.size := fun γ => (hcl γ).trans hlen
 have hord : ∀ j o, ops[j]? = some o → ∀ e ∈ o.after, Region.binds .any e = true → e.on < j := by
  intro j o ho e he hb
  simp only [Ta, Qgr, Qgo] at hed
  have := hed j (Array.getElem?_eq_some_iff.1 ho).1
  rw [ho] at this
  simp only [Qhs, Qhd, Qgr] at this
  have := this e (by simpa using he)
  rw [hb] at this
  simpa using this
 have hdrew : ∀ {F L : Reg} {a : Act} {w : World}, Rel w N F L s a → Rel w.drew N F L s a := fun {F L a w} hr => by
  have := hr.next (w' := w.drew) (o := none) (v := undef) (x := .any) (tab := s.tab) (Ext.drew L w) (fun d hd => by cases hd) (.any _) (hr.heap.step (Ext.drew [] w) (fun p _ l hm => by cases hm) (Ext.drew _ w)) hr.nodup (fun p hp => hr.lt p (Qfz.2 (.inl hp)))
  simpa [St.upd, St.putO, Act.put] using this
 intro F L a w hr
 refine wp_mono (wp_region_any (Q := fun e a' w' => ∃ L' s', Q e s' ∧ Rel w' N F L' s' a' ∧ Ext L w.drew L' w') hmix (TA.sound ops.size _ s ?_ F L a w.drew (hdrew hr))) (fun e a' w' ⟨L', s', q, r, x⟩ => ⟨L', s', q, r, (Ext.drew L w).trans x⟩)
 have least : ∀ (listed : Array Bool), listed.size = ops.size → Region.ready .any ops listed = [] → ∀ k, k < ops.size → listed.getD k false = true := by
  intro listed hsz hn k
  induction k using Nat.strongRecOn with
  | _ k ih =>
   intro hk
   cases hb : listed.getD k false with
   | true => rfl
   | false =>
    exfalso
    have hmem : k ∈ Region.ready .any ops listed := by
     rw [mem_ready]
     refine ⟨?_, ops[k], by simp [hk], fun e he hbi => ?_⟩
     ·have hk' : k < listed.size := by omega
      rw [Array.getD_eq_getD_getElem?, Array.getElem?_eq_getElem hk'] at hb ⊢
      simpa using hb
     ·have hlt := hord k ops[k] (by simp [hk]) e he hbi
      exact ih e.on hlt (by omega)
    rw [hn] at hmem
    cases hmem
 have finish : ∀ (γ : Nat → Gh) (listed : Array Bool) (u : St), u.like (Kl (fun k => listed.getD k false) (tag 0 (cs γ)) s) → (∀ k, k < ops.size → listed.getD k false = true) → Q .normal u := by
  intro γ listed u hu hl
  have hall' : Kl (fun k => listed.getD k false) (tag 0 (cs γ)) s = t γ := by
   rw [hfin γ]
   refine runC_congr _ _ _ _ (fun p hp => ?_)
   have := ((Dq (cs γ) 0 p).1 hp).2
   simp only [Qha] at this
   exact hl p.1 (by rw [← hlen' γ]; exact (List.getElem?_eq_some_iff.1 this).1)
  rw [hall'] at hu
  refine hq γ u ?_
  have h1 : Zx u ⟨(s1 γ).slots, u.tab⟩ := Fu (s1 γ).slots (fun d v hv => by rw [hu.1 d]; exact hs γ d v hv)
  rw [hu.tab, ht γ] at h1
  exact h1
 have key : ∀ (fuel : Nat) (listed : Array Bool) (u : St) (γ : Nat → Gh), listed.size = ops.size → Closed ops listed → u.like (Kl (fun k => listed.getD k false) (tag 0 (cs γ)) s) → ((List.range ops.size).countP (fun k => !listed.getD k false) = fuel) → TA P N ops Q fuel listed u := by
  intro fuel
  induction fuel with
  | zero =>
   intro listed u γ hsz hc hu hn
   have hl : ∀ k, k < ops.size → listed.getD k false = true := by
    intro k hk
    have := List.countP_eq_zero.1 hn k (by simpa using hk)
    simpa using this
   refine ⟨?_, finish γ listed u hu hl⟩
   cases hr : Region.ready .any ops listed with
   | nil => rfl
   | cons j js =>
    have hj : j ∈ Region.ready .any ops listed := by rw [hr]; simp
    obtain ⟨h0, o, ho, _⟩ := mem_ready.1 hj
    have hjs := (Array.getElem?_eq_some_iff.1 ho).1
    have h1 := hl j hjs
    have hj' : j < listed.size := by omega
    rw [Array.getD_eq_getD_getElem?, Array.getElem?_eq_getElem hj'] at h0 h1
    simp at h0 h1
    rw [h0] at h1
    cases h1
  | succ fuel ih =>
   intro listed u γ hsz hc hu hn
   refine ⟨fun hr => finish γ listed u hu (least listed hsz hr), fun i hi => ?_⟩
   obtain ⟨h0, o, ho, hpre⟩ := mem_ready.1 hi
   have his := (Array.getElem?_eq_some_iff.1 ho).1
   have hi' : i < listed.size := by omega
   have hif : listed.getD i false = false := by
    rw [Array.getD_eq_getD_getElem?, Array.getElem?_eq_getElem hi'] at h0 ⊢
    simpa using h0
   have hpre' : ∀ o, ops[i]? = some o → ∀ e ∈ o.after, Region.binds .any e = true → listed.getD e.on false = true := fun o' ho' e he hb => by
    rw [ho] at ho'; cases ho'; exact hpre e he hb
   have hlt : i < (cs γ).length := by rw [hlen']; exact his
   obtain ⟨hmet, hok⟩ := hall γ i _ (List.getElem?_eq_getElem hlt)
   simp only [Qgq] at hok hmet
   have hmetu := (drawStep hm (ha γ) (hlen' γ) hc his hi' hpre' hif (List.getElem?_eq_getElem hlt) hu).1 hmet
   intro F L a w hr
   refine Ti ?_ (fun _ _ _ h => h) (hok u hmetu F L a w hr)
   rintro a' w' ⟨L', s', ⟨g, c', hc', rfl⟩, hr', hx⟩
   refine ⟨L', _, ?_, hr', hx⟩
   have hother : ∀ k, k ≠ i → (listed.setIfInBounds i true).getD k false = listed.getD k false := fun k hk => _root_.Go.getD_set_ne false (fun h => hk h.symm)
   have hu' : u.like (Kl (fun k => listed.getD k false) (tag 0 (cs (setG γ i g))) s) := by
    have : Kl (fun k => listed.getD k false) (tag 0 (cs γ)) s = Kl (fun k => listed.getD k false) (tag 0 (cs (setG γ i g))) s := by
     refine runC_fam _ _ _ 0 s (by rw [hlen', hlen']) (fun k hk => ?_)
     rw [Qgq] at hk
     rcases Qi1 k Ds.length with hkl | hkl
     ·refine hdep γ (setG γ i g) k (fun q hq => (setG_ne (fun hqi => ?_)).symm)
      subst hqi
      simp only [depsOk, Qgr, Qgo] at hds
      have := hds k hkl q hq
      simp only [Qio, Qhe] at this
      rcases this with rfl | hb
      ·rw [hk] at hif; cases hif
      ·simp only [Qgv, Qhc] at hb
       obtain ⟨hqk, hb⟩ := hb
       have := Cw hm hc k (fun o' ho' e he hb' => hc k o' ho' hk e he hb') q hqk (by rw [← hlen]; exact hkl) hb
       rw [this] at hif; cases hif
     ·rw [List.getElem?_eq_none (by rw [hcl]; exact hkl), List.getElem?_eq_none (by rw [hcl]; exact hkl)]
    rw [← this]; exact hu
   refine ih (listed.setIfInBounds i true) (c'.go u) (setG γ i g) (by simpa using hsz) ?_ ?_ ?_
   ·intro j oj hoj hj e he hb
    by_cases hji : j = i
    ·subst hji
     exact getD_set_true (hpre' oj hoj e he hb)
    ·rw [hother j hji] at hj
     exact getD_set_true (hc j oj hoj hj e he hb)
   ·exact (drawStep hm (ha _) (hlen' _) hc his hi' hpre' hif hc' hu').2
   ·have := count_set (n := ops.size) (i := i) (S := fun k => !listed.getD k false) (S' := fun k => !(listed.setIfInBounds i true).getD k false) his (by simp only [hif]; rfl) (by simp only [Cf hi']; rfl) (fun k hk => by simp only [hother k hk])
    omega
 have hrep : ∀ k, (Array.replicate ops.size false).getD k false = false := fun k => by
  rw [Array.getD_eq_getD_getElem?, Array.getElem?_replicate]
  split <;> rfl
 refine key _ _ s (fun _ => (fun _ => undef, 0)) (by simp) (fun j o _ hl => by rw [hrep j] at hl; cases hl) ?_ ?_
 ·have gen : ∀ (l : List (Nat × Ct)) (t : St), Kl (fun k => (Array.replicate ops.size false).getD k false) l t = t := by
   intro l
   induction l with
   | nil => intro t; rfl
   | cons p l ih =>
    intro t
    obtain ⟨k, c⟩ := p
    simp only [Kl]
    rw [if_neg (by rw [hrep k]; simp)]
    exact ih t
  rw [gen _ s]
  exact ⟨fun _ => rfl, fun _ => rfl⟩
 ·have : (List.range ops.size).countP (fun k => !(Array.replicate ops.size false).getD k false) = (List.range ops.size).length := List.countP_eq_length.2 (fun k _ => by simp only [hrep k]; rfl)
  rw [this, Qgi]
end
end Go.Rv
