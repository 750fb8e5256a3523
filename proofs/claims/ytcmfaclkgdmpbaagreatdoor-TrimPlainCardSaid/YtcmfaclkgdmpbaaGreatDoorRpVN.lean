/- Places that are held, plainly: what the reference answers of them. -/
import Derived.Test.YtcmfaclkgdmpbaaGreatDoorRpVI
namespace Go.Rv
def hq (h : Yl) : Nat := h.P.toNat
structure HOk (g : Qp) (h : Yl) : Prop where
 p0 : h.P = (hq h : Int)
 p1 : hq h < g.P.length
 ne : 1 ≤ h.N.length
 lo : ∀ n ∈ h.N, 1 ≤ n ∧ n ≤ (plP g (hq h)).Hi
 pw : h.N.Pairwise (· < ·)
structure COk (g : Qp) (c : Yg) : Prop where
 held : ∀ h ∈ c.L, HOk g h
 rise : (c.L.map hq).Pairwise (· < ·)
 beg : c.Begin = true → c.L = []
theorem GQ.at {g : Qp} (h : GQ g) {q : Nat} (hq : q < g.P.length) : 1 ≤ (plP g q).Lo ∧ (plP g q).Lo ≤ (plP g q).Hi ∧ (plP g q).Hi ≤ 4096 ∧ 0 ≤ (plP g q).Rule ∧ (plP g q).Rule < 512 ∧ (plP g q).Next.length ≤ 512 := by
 rw [Qcb hq]
 obtain ⟨p1, p2, p3, p4, p5, p6⟩ := posB_of (h.pos _ (Qfy hq))
 refine ⟨p1, p2, p3, p4, p5, ?_⟩
 have := h.n
 rcases Oh _ (-1) (by omega) p6 with h | h
 ·omega
 ·rw [h]; exact Qf7 _
def lastN (h : Yl) : Int := h.N.getD (h.N.length - 1) 0
def ripeH (g : Qp) (h : Yl) : Bool := decide ((plP g (hq h)).Lo ≤ lastN h)
def entH (g : Qp) (q : Nat) (h : Yl) : Bool := ripeH g h && (plP g (hq h)).Next.contains (q : Int)
def entC (g : Qp) (c : Yg) (q : Nat) : Bool := if c.Begin = true then g.First.contains (q : Int) else c.L.any (entH g q)
def stayN (g : Qp) (q : Nat) (N : List Int) : List Int := (N.filter fun n => decide (n < (plP g q).Hi)).map (· + 1)
def Tx (g : Qp) (q : Nat) (L : List Yl) : List Int := L.flatMap fun h => if hq h = q then stayN g q h.N else []
end Go.Rv
namespace Go.Rv
def newN (g : Qp) (c : Yg) (q : Nat) : List Int := (if entC g c q = true then [1] else []) ++ Tx g q c.L
def heldF (g : Qp) (c : Yg) (b q : Nat) : Option Yl := if (Qcj g q b && decide (newN g c q ≠ [])) = true then some ⟨(q : Int), newN g c q⟩ else none
def Qas (g : Qp) (c : Yg) (b : Nat) : List Yl := (List.range g.P.length).filterMap (heldF g c b)
theorem So {g : Qp} {q : Nat} : ∀ {L : List Yl}, (∀ h ∈ L, hq h ≠ q) → Tx g q L = []
 | [], _ => rfl
 | h :: L, hn => by
  rw [Tx, List.flatMap_cons, if_neg (hn h Qga), Qf8]
  exact So fun x hx => hn x (Qf5 _ hx)
theorem Qen {g : Qp} {q : Nat} : ∀ {L : List Yl}, (L.map hq).Pairwise (· < ·) → ∀ h ∈ L, hq h = q → Tx g q L = stayN g q h.N
 | x :: L, hp, h, hm, he => by
  rw [Qge, Qjf] at hp
  rw [Tx, List.flatMap_cons]
  rcases Qg1.1 hm with rfl | hm
  ·rw [if_pos he]
   have : Tx g q L = [] := So fun y hy => by
    have := hp.1 _ (Qg4 hy)
    omega
   rw [Tx] at this
   rw [this, Qgg]
  ·have := hp.1 _ (Qg4 hm)
   rw [if_neg (by omega), Qf8]
   exact Qen hp.2 h hm he
def Cn (g : Qp) (r : Int) (h : Yl) : Int := if ((plP g (hq h)).Last && ripeH g h && (decide (r < 0) || decide ((plP g (hq h)).Rule < r))) = true then (plP g (hq h)).Rule else r
def ruleC (g : Qp) (L : List Yl) : Int := L.foldl (Cn g) (-1)
end Go.Rv
namespace Go.Rv
def headN (h : Yl) : Int := h.N.getD 0 0
def dgH (g : Qp) (h : Yl) : Nat := if lastN h < (plP g (hq h)).Lo then 0 else if headN h < (plP g (hq h)).Hi then 2 else 1
def Qaa (g : Qp) : List Yl → Nat
 | [] => 0
 | h :: t => if (plP g (hq h)).Hi < 2 then Qaa g t else dgH g h + 3 * Qaa g t
def cnN (g : Qp) : List Yl → Nat
 | [] => 0
 | h :: t => if (plP g (hq h)).Hi < 2 then cnN g t else cnN g t + 1
theorem dgH_lt (g : Qp) (h : Yl) : dgH g h ≤ 2 := by
 rw [dgH]
 split
 ·omega
 ·split <;> omega
theorem codH_lt (g : Qp) : ∀ L : List Yl, Qaa g L < 3 ^ cnN g L
 | [] => by rw [Qaa, cnN]; decide
 | h :: t => by
  have h1 := codH_lt g t
  have h2 := dgH_lt g h
  rw [Qaa, cnN]
  split
  ·exact h1
  ·rw [Nat.pow_succ]; omega
theorem num_of {g : Qp} {h : Yl} (hh : HOk g h) : ((plP g (hq h)).Hi < 2 ∧ (Hd g.P 0).getD (hq h) 0 = -1) ∨ (¬ (plP g (hq h)).Hi < 2 ∧ 0 ≤ (Hd g.P 0).getD (hq h) 0) := by
 rw [Qcb hh.p1]
 rcases Qcd g.P 0 (hq h) hh.p1 with ⟨h1, h2⟩ | ⟨h1, j, h2, _⟩
 ·exact .inl ⟨by omega, h2⟩
 ·exact .inr ⟨by omega, by omega⟩
theorem regL_cons {num : List Int} {q : Nat} {l : List Nat} : Nf num (q :: l) = if 0 ≤ num.getD q 0 then num.getD q 0 :: Nf num l else Nf num l := by
 by_cases h : 0 ≤ num.getD q 0
 ·rw [if_pos h, Nf, Qhw, Qf0 h, if_pos rfl, Qge]; rfl
 ·rw [if_neg h, Nf, Qhw, Qfv h, if_neg (by decide)]; rfl
theorem cn_reg {g : Qp} : ∀ (L : List Yl), (∀ h ∈ L, HOk g h) → (Nf (Hd g.P 0) (L.map hq)).length = cnN g L
 | [], _ => rfl
 | h :: t, hL => by
  have ih := cn_reg t fun x hx => hL x (Qf5 _ hx)
  rw [Qge, regL_cons, cnN]
  rcases num_of (hL h Qga) with ⟨h1, h2⟩ | ⟨h1, h2⟩
  ·rw [if_pos h1, if_neg (by omega), ih]
  ·rw [if_neg h1, if_pos h2, Qgc, ih]
theorem digF_no : ∀ (R : List Int) (n : Int) (c : Nat), n ∉ R → digF R n c = -1
 | [], _, _, _ => rfl
 | r :: R, n, c, h => by
  rw [digF, if_neg (fun e => h (by rw [e]; exact Qga)), digF_no R n (c / 3) fun h' => h (Qf5 _ h')]
theorem dig_of {g : Qp} : ∀ (L : List Yl), (∀ h ∈ L, HOk g h) → (L.map hq).Pairwise (· < ·) → ∀ h ∈ L, ¬ (plP g (hq h)).Hi < 2 → digF (Nf (Hd g.P 0) (L.map hq)) ((Hd g.P 0).getD (hq h) 0) (Qaa g L) = (dgH g h : Int)
 | x :: L, hL, hp, h, hm, hc => by
  rw [Qge, Qjf] at hp
  have hL' : ∀ y ∈ L, HOk g y := fun y hy => hL y (Qf5 _ hy)
  rw [Qge, regL_cons, Qaa]
  rcases num_of (hL x Qga) with ⟨h1, h2⟩ | ⟨h1, h2⟩
  ·rw [if_pos h1, if_neg (by omega)]
   rcases Qg1.1 hm with rfl | hm
   ·exact absurd h1 hc
   ·exact dig_of L hL' hp.2 h hm hc
  ·have hd := dgH_lt g x
   rw [if_neg h1, if_pos h2, digF]
   rcases Qg1.1 hm with rfl | hm
   ·rw [if_pos rfl]; omega
   ·have hlt := hp.1 _ (Qg4 hm)
    have hn : 0 ≤ (Hd g.P 0).getD (hq h) 0 := by
     rcases num_of (hL' h hm) with h3 | h3
     ·exact absurd h3.1 hc
     ·exact h3.2
    have := Qcc g.P 0 (hq x) (hq h) hlt (hL' h hm).p1 h2 hn
    rw [if_neg (by omega), show (dgH g x + 3 * Qaa g L) / 3 = Qaa g L by omega]
    exact dig_of L hL' hp.2 h hm hc
theorem HOk.head {g : Qp} {h : Yl} (hh : HOk g h) : headN h ∈ h.N ∧ lastN h ∈ h.N ∧ (∀ n ∈ h.N, headN h ≤ n) := by
 have hne := hh.ne
 have e1 : headN h = h.N[0] := Q2 hne
 have e2 : lastN h = h.N[h.N.length - 1] := Q2 (by omega)
 refine ⟨by rw [e1]; exact Qfy _, by rw [e2]; exact Qfy _, fun n hn => ?_⟩
 obtain ⟨i, hi, rfl⟩ := Qgp hn
 rw [e1]
 by_cases e : i = 0
 ·subst e; exact Int.le_refl _
 ·have := Qij.1 hh.pw 0 i hne hi (by omega)
  omega
theorem dig_un {g : Qp} {L : List Yl} (hL : ∀ h ∈ L, HOk g h) {h : Yl} (hm : h ∈ L) (h1 : (plP g (hq h)).Hi < 2) : digF (Nf (Hd g.P 0) (L.map hq)) ((Hd g.P 0).getD (hq h) 0) (Qaa g L) = -1 := by
 rcases num_of (hL h hm) with h2 | h2
 ·rw [h2.2]
  refine digF_no _ _ _ fun hx => ?_
  obtain ⟨q, _, h3, h4⟩ := regL_mem.1 hx
  omega
 ·exact absurd h1 h2.1
theorem ripe_eq {g : Qp} (hg : GQ g) {L : List Yl} (hL : ∀ h ∈ L, HOk g h) (hp : (L.map hq).Pairwise (· < ·)) {h : Yl} (hm : h ∈ L) : ripeF (Hd g.P 0) (Nf (Hd g.P 0) (L.map hq)) (Qaa g L) (hq h) = ripeH g h := by
 have hh := hL h hm
 obtain ⟨a1, a2, a3⟩ := hh.head
 obtain ⟨p1, p2, _⟩ := hg.at hh.p1
 rw [ripeF, ripeH]
 by_cases hc : (plP g (hq h)).Hi < 2
 ·have := hh.lo _ a2
  rw [dig_un hL hm hc, Qf0 (by omega)]; rfl
 ·rw [dig_of L hL hp h hm hc, dgH]
  by_cases h1 : lastN h < (plP g (hq h)).Lo
  ·rw [if_pos h1, Qfv (by omega)]; rfl
  ·rw [if_neg h1, Qf0 (by omega)]
   split <;> rfl
theorem stay_eq {g : Qp} (hg : GQ g) {L : List Yl} (hL : ∀ h ∈ L, HOk g h) (hp : (L.map hq).Pairwise (· < ·)) (q : Nat) : Qd3 (Hd g.P 0) (L.map hq) (Nf (Hd g.P 0) (L.map hq)) (Qaa g L) q = decide (Tx g q L ≠ []) := by
 rw [Qd3]
 by_cases hm : q ∈ L.map hq
 ·obtain ⟨h, hm', rfl⟩ := Qgf.1 hm
  have hh := hL h hm'
  obtain ⟨a1, a2, a3⟩ := hh.head
  obtain ⟨p1, p2, _⟩ := hg.at hh.p1
  have l1 := hh.lo _ a1
  have l2 := hh.lo _ a2
  have a4 := a3 _ a2
  have hne : Tx g (hq h) L ≠ [] ↔ headN h < (plP g (hq h)).Hi := by
   rw [Qen hp h hm' rfl, stayN, Ne, Qh0, Qhx]
   constructor
   ·intro hx
    refine Int.not_le.1 fun hle => hx fun n hn => ?_
    have := a3 n hn
    rw [Qhc]; omega
   ·intro hx hy
    exact hy _ a1 (Qf0 hx)
  rw [Qf0 hm, Qgs]
  by_cases hc : (plP g (hq h)).Hi < 2
  ·rw [dig_un hL hm' hc, Qfv (fun hx => by have := hne.1 hx; omega)]; rfl
  ·rw [dig_of L hL hp h hm' hc, dgH]
   by_cases h1 : lastN h < (plP g (hq h)).Lo
   ·rw [if_pos h1, Qf0 (hne.2 (by omega))]; rfl
   ·rw [if_neg h1]
    by_cases h2 : headN h < (plP g (hq h)).Hi
    ·rw [if_pos h2, Qf0 (hne.2 h2)]; rfl
    ·rw [if_neg h2, Qfv (fun hx => h2 (hne.1 hx))]; rfl
 ·rw [Qfv hm, Qik, Qfv]
  rw [Classical.not_not]
  exact So fun h hh e => hm (by rw [← e]; exact Qg4 hh)
theorem rule_eq {g : Qp} (hg : GQ g) {L : List Yl} (hL : ∀ h ∈ L, HOk g h) (hp : (L.map hq).Pairwise (· < ·)) : ruleF g (Hd g.P 0) (L.map hq) (Nf (Hd g.P 0) (L.map hq)) (Qaa g L) = ruleC g L := by
 rw [ruleF, ruleC, List.foldl_map]
 have : ∀ (M : List Yl) (r : Int), (∀ h ∈ M, h ∈ L) → M.foldl (fun r h => Iz g (Hd g.P 0) (Nf (Hd g.P 0) (L.map hq)) (Qaa g L) r (hq h)) r = M.foldl (Cn g) r := by
  intro M
  induction M with
  | nil => intro r _; rfl
  | cons h t ih =>
   intro r hM
   rw [Qgx, Qgx, ih _ fun x hx => hM x (Qf5 _ hx), Iz, Cn, ripe_eq hg hL hp (hM h Qga)]
 exact this L (-1) fun _ h => h
end Go.Rv
namespace Go.Rv
theorem ent_eq {g : Qp} (hg : GQ g) {c : Yg} (hc : COk g c) {i : Nat} (hb : c.Begin = (i == 0)) (q : Nat) : entF g (Hd g.P 0) (i == 0) (c.L.map hq) (Nf (Hd g.P 0) (c.L.map hq)) (Qaa g c.L) q = entC g c q := by
 rw [entF, entC, hb]
 by_cases h : (i == 0) = true
 ·rw [if_pos h, if_pos h]
 ·rw [if_neg h, if_neg h, Qh8, Qhk, Qhk]
  constructor
  ·rintro ⟨p, hp, h2⟩
   obtain ⟨x, hx, rfl⟩ := Qgf.1 hp
   rw [ripe_eq hg hc.held hc.rise hx] at h2
   exact ⟨x, hx, h2⟩
  ·rintro ⟨x, hx, h2⟩
   refine ⟨hq x, Qg4 hx, ?_⟩
   rw [ripe_eq hg hc.held hc.rise hx]
   exact h2
theorem new_iff (g : Qp) (c : Yg) (q : Nat) : decide (newN g c q ≠ []) = (entC g c q || decide (Tx g q c.L ≠ [])) := by
 rw [newN]
 cases entC g c q with
 | true => rw [if_pos rfl, Bool.true_or]; exact Qf0 (by simp)
 | false => rw [if_neg (by decide), Qf8, Qh1]
theorem map_filter {p : Nat → Bool} {f : Nat → Option Yl} : ∀ l : List Nat, (∀ q ∈ l, (p q = true → ∃ h, f q = some h ∧ hq h = q) ∧ (p q = false → f q = none)) → (l.filterMap f).map hq = l.filter p
 | [], _ => rfl
 | q :: l, h => by
  have ih := map_filter l fun x hx => h x (Qf5 _ hx)
  obtain ⟨h1, h2⟩ := h q Qga
  cases hp : p q with
  | true =>
   obtain ⟨x, e1, e2⟩ := h1 hp
   rw [List.filterMap_cons_some e1, Qge, ih, e2, List.filter_cons_of_pos hp]
  | false => rw [List.filterMap_cons_none (h2 hp), ih, List.filter_cons_of_neg (by rw [hp]; decide)]
theorem newN_ok {g : Qp} (hg : GQ g) {c : Yg} (hc : COk g c) {q : Nat} (hq' : q < g.P.length) : (newN g c q).Pairwise (· < ·) ∧ ∀ n ∈ newN g c q, 1 ≤ n ∧ n ≤ (plP g q).Hi := by
 obtain ⟨p1, p2, _⟩ := hg.at hq'
 have hs : (Tx g q c.L).Pairwise (· < ·) ∧ ∀ n ∈ Tx g q c.L, 2 ≤ n ∧ n ≤ (plP g q).Hi := by
  by_cases h : ∃ h ∈ c.L, hq h = q
  ·obtain ⟨h, h1, h2⟩ := h
   have hh := hc.held h h1
   rw [Qen hc.rise h h1 h2, stayN]
   refine ⟨?_, fun n hn => ?_⟩
   ·rw [Qi5]
    exact (List.Pairwise.filter _ hh.pw).imp fun h => by omega
   ·obtain ⟨m, hm, rfl⟩ := Qgf.1 hn
    obtain ⟨h3, h4⟩ := Qia.1 hm
    have := hh.lo m h3
    have := of_decide_eq_true h4
    omega
  ·rw [So fun x hx e => h ⟨x, hx, e⟩]
   exact ⟨List.Pairwise.nil, fun n hn => nomatch hn⟩
 rw [newN]
 by_cases he : entC g c q = true
 ·rw [if_pos he]
  refine ⟨List.pairwise_append.2 ⟨Qh4 _ _, hs.1, fun x hx y hy => ?_⟩, fun n hn => ?_⟩
  ·have := Qf3.1 hx
   have := hs.2 y hy
   omega
  ·rcases Qfz.1 hn with h | h
   ·have := Qf3.1 h; omega
   ·have := hs.2 n h; omega
 ·rw [if_neg he, Qf8]
  exact ⟨hs.1, fun n hn => by have := hs.2 n hn; omega⟩
theorem held_of {g : Qp} {c : Yg} {b : Nat} {h : Yl} (hm : h ∈ Qas g c b) : ∃ q, q < g.P.length ∧ newN g c q ≠ [] ∧ h = ⟨(q : Int), newN g c q⟩ := by
 obtain ⟨q, hq1, hq2⟩ := List.mem_filterMap.1 hm
 rw [heldF] at hq2
 by_cases e : (Qcj g q b && decide (newN g c q ≠ [])) = true
 ·rw [if_pos e] at hq2
  exact ⟨q, Qgo.1 hq1, of_decide_eq_true (Bool.and_eq_true_iff.1 e).2, (Option.some.inj hq2).symm⟩
 ·rw [if_neg e] at hq2; cases hq2
theorem Qem (g : Qp) (c : Yg) (b : Nat) : (Qas g c b).map hq = (List.range g.P.length).filter fun q => Qcj g q b && (entC g c q || decide (Tx g q c.L ≠ [])) := by
 refine map_filter _ fun q _ => ⟨fun h => ?_, fun h => ?_⟩
 ·rw [← new_iff] at h
  exact ⟨⟨(q : Int), newN g c q⟩, by rw [heldF, if_pos h], Qf1 q⟩
 ·rw [← new_iff] at h
  rw [heldF, h, if_neg (by decide)]
theorem step_ok {g : Qp} (hg : GQ g) {c : Yg} (hc : COk g c) (b : Nat) : COk g ⟨false, Qas g c b⟩ := by
 refine ⟨fun h hm => ?_, ?_, fun h => nomatch h⟩
 ·obtain ⟨q, h1, h2, rfl⟩ := held_of hm
  obtain ⟨n1, n2⟩ := newN_ok hg hc h1
  have e : hq ⟨(q : Int), newN g c q⟩ = q := Qf1 q
  exact ⟨by rw [e], by rw [e]; exact h1, List.length_pos_iff.2 h2, by rw [e]; exact n2, n1⟩
 ·show ((Qas g c b).map hq).Pairwise _
  rw [Qem]
  exact List.Pairwise.filter _ Qix
structure HasS (g : Qp) (S : List Qa) (i : Nat) (c : Yg) : Prop where
 ok : COk g c
 lt : i < S.length
 l : Lof S i = c.L.map hq
 b : c.Begin = (i == 0)
theorem cod_pow {n : Nat} (h : n ≤ 3) : Qdd n = 3 ^ n := by
 have : n = 0 ∨ n = 1 ∨ n = 2 ∨ n = 3 := by omega
 rcases this with rfl | rfl | rfl | rfl <;> decide
theorem HasS.reg {g : Qp} {a : Qn} {F : List Nat} (h : Fz g a F) {i : Nat} {c : Yg} (ht : HasS g a.States i c) : (stA a.States i).R = Nf (Hd g.P 0) (c.L.map hq) ∧ cnN g c.L ≤ 3 ∧ Qaa g c.L < Qdd (stA a.States i).R.length := by
 have hst := h.si.st i ht.lt
 have e : (stA a.States i).R = Nf (Hd g.P 0) (c.L.map hq) := by rw [hst.r, ht.l]
 have hr := hst.r3
 have hn := cn_reg c.L ht.ok.held
 have hlt := codH_lt g c.L
 rw [e, hn] at hr
 refine ⟨e, hr, ?_⟩
 rw [e, hn, cod_pow hr]; exact hlt
theorem HasS.rule {g : Qp} {a : Qn} {F : List Nat} (hg : GQ g) (h : Fz g a F) {i : Nat} {c : Yg} (ht : HasS g a.States i c) : (stA a.States i).Rule.length = Qdd (stA a.States i).R.length ∧ Xl (stA a.States i).Rule (Qaa g c.L : Int) = some (ruleC g c.L) := by
 obtain ⟨e, _, h2⟩ := ht.reg h
 have hc := (h.si.done i ht.lt).rule
 have hl : (stA a.States i).Rule.length = Qdd (stA a.States i).R.length := by rw [hc, Qfw, Qgi]
 refine ⟨hl, ?_⟩
 rw [Ze (by omega)]
 simp only [hc, Qgt, Qig]
 rw [e, ht.l, rule_eq hg ht.ok.held ht.ok.rise]
theorem HasS.step {g : Qp} {a : Qn} {F : List Nat} (hg : GQ g) (h : Fz g a F) {i : Nat} {c : Yg} (ht : HasS g a.States i c) {b : Nat} (hb : b < 256) : ∃ k, k < F.length ∧ a.Split.Of.f b = (k : Int) ∧ (((((stA a.States i).Next.getD (Qaa g c.L) []).getD k ⟨0, []⟩).To = -1 ∧ Qas g c b = []) ∨ (1 ≤ (((stA a.States i).Next.getD (Qaa g c.L) []).getD k ⟨0, []⟩).To ∧ HasS g a.States (((stA a.States i).Next.getD (Qaa g c.L) []).getD k ⟨0, []⟩).To.toNat ⟨false, Qas g c b⟩)) := by
 obtain ⟨k, h1, h2, h3, _⟩ := h.sp.cls b hb
 obtain ⟨e, _, hlt⟩ := ht.reg h
 have hgo : goT g (Hd g.P 0) F a.States i (Qaa g c.L) k = (Qas g c b).map hq := by
  rw [goT, goL, Qem]
  refine List.filter_congr fun q hq' => ?_
  have hql := Qgo.1 hq'
  have hh : Qcj g q (F.getD k 0) = Qcj g q b := by
   rw [Qcj, Qcj, Qcb hql]
   exact alkB_iff.1 h3 _ (Qg4 (Qfy hql))
  rw [goesB, hh, e, ht.l, ent_eq hg ht.ok ht.b, stay_eq hg ht.ok.held ht.ok.rise]
 refine ⟨k, h1, h2, ?_⟩
 rcases (h.si.done i ht.lt).mv (Qaa g c.L) hlt k h1 with ⟨g1, g2⟩ | ⟨g1, g2, g3, g4, _⟩
 ·rw [g2]
  rw [hgo, Qh0] at g1
  exact .inl ⟨rfl, g1⟩
 ·refine .inr ⟨g2, step_ok hg ht.ok b, by omega, ?_, ?_⟩
  ·rw [Lof, g4, Tj, hgo]
  ·exact (Qgd.2 (by omega)).symm
theorem HasS.zero {g : Qp} {a : Qn} {F : List Nat} (h : Fz g a F) : HasS g a.States 0 ⟨true, []⟩ :=
 ⟨⟨(fun _ hx => nomatch hx), List.Pairwise.nil, fun _ => rfl⟩, h.si.n1, (h.si.st 0 h.si.n1).z rfl, rfl⟩
theorem dead_step (g : Qp) (b : Nat) : Qas g ⟨false, []⟩ b = [] := by
 have h := Qem g ⟨false, []⟩ b
 have e : ((List.range g.P.length).filter fun q => Qcj g q b && (entC g ⟨false, []⟩ q || decide (Tx g q [] ≠ []))) = [] := by
  rw [Qhx]
  intro q _
  rw [entC, if_neg (by decide), List.any_nil, Tx, List.flatMap_nil, Qh1]
  simp
 rw [e, Qh0] at h
 exact h
end Go.Rv
