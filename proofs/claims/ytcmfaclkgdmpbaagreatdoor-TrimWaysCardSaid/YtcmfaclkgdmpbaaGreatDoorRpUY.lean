/- TrimWays, plainly: the search for a text that tells two states apart. -/
import Derived.Test.YtcmfaclkgdmpbaaGreatDoorRpUV
namespace Go.Rv
def fewW (a : Qm) : Qm := if (a.States.length : Int) > 60 then noA else a
theorem fewW_eq (K : Nat) (a : Qm) : Lj K a = some (fewW a) := by
 rw [Lj, fewW]
 by_cases h : (a.States.length : Int) > 60
 ·rw [Qgu h, if_pos h, cT]; rfl
 ·rw [Qgr h, if_neg h, cF]
theorem fewW_okay {a : Qm} (h : Okay a) : Okay (fewW a) := by
 rw [fewW]
 split
 ·exact ⟨fun i _ => ⟨by simp [noA], by simp [noA]⟩, by simp [noA], by simp [noA], fun s hs => by cases hs⟩
 ·exact h
def pairQ (a b : Qc) : Zs := ⟨a.To, b.To⟩
def prs (r s : List Qc) : List Zs := List.zipWith pairQ r s
theorem ways_l5 (K : Nat) (go1 : Bool → Int → Int → Bool → Zg → Int → (List Zs) → (List Qa) → (List (Zs × Bool)) → (List Zs) → Option Bool) (x7 : Bool) (x11 x12 : Int) (x15 x68 x69 : Bool) (x81 x83 : Int) (x84 : Bool) (x93 : Int) (x94 : Bool) (x114 : List (List Qc)) (x115 : Int) (x116 : Bool)
  (y1 : Zg) (y2 : Int) (y3 : List Zs) (y4 : List Qa) (y13 : List (Zs × Bool)) (a b c d e f : List Int) {r1 r2 : List Qc} (hl : r1.length = r2.length) (h256 : r1.length ≤ 256) : ∀ (q k j : Nat) (T : List Zs), r1.length - j = q → q < k → T.length + q ≤ 100000000 →
  Yf K go1 k x7 x11 x12 x15 x68 x69 x81 x83 x84 x93 x94 x114 x115 x116 (r1.length : Int) (j : Int) y1 y2 y3 y4 y13 T a b c [r1] d e f [r2] = go1 x7 x11 x12 x15 y1 y2 y3 y4 y13 (T ++ prs (r1.drop j) (r2.drop j)) := by
 have g1 : Yw [r1] (0 : Int) = some r1 := rfl
 have g2 : Yw [r2] (0 : Int) = some r2 := rfl
 intro q
 induction q with
 | zero =>
  intro k j T hq hk hT
  obtain ⟨k, rfl⟩ := Qjp k (by omega)
  rw [Yf]
  dsimp only
  rw [Qgr (by omega), cF, prs, Qi5 (by omega : r1.length ≤ j), List.zipWith_nil_left, Qhc]
 | succ q ih =>
  intro k j T hq hk hT
  obtain ⟨k, rfl⟩ := Qjp k (by omega)
  have h1 : j < r1.length := by omega
  have h2 : j < r2.length := by omega
  rw [Yf]
  dsimp only
  rw [Qgu (by omega), cT, g1, bS, Ze h1, bS, g2, bS, Ze h2, bS, Yp (Z3.2 ⟨by simp only [maxLen, Qgy, Qg9]; omega, by simp only [Qgy, Qg9]; omega⟩), Pm (n := j) (by omega),
   ih k (j + 1) _ (by omega) (by omega) (by simp only [Qgl, Qgy, Qg9]; omega), Qgj]
  congr 2
  rw [prs, prs, Qgt h1, Qgt h2, List.zipWith_cons_cons]
  rfl
theorem ways_l5z (K : Nat) (go1 : Bool → Int → Int → Bool → Zg → Int → (List Zs) → (List Qa) → (List (Zs × Bool)) → (List Zs) → Option Bool) (x7 : Bool) (x11 x12 : Int) (x15 x68 x69 : Bool) (x81 x83 : Int) (x84 : Bool) (x93 : Int) (x94 : Bool) (x114 : List (List Qc)) (x115 : Int) (x116 : Bool)
  (y1 : Zg) (y2 : Int) (y3 : List Zs) (y4 : List Qa) (y13 : List (Zs × Bool)) (a b c d e f : List Int) {r1 r2 : List Qc} (hl : r1.length = r2.length) (h256 : r1.length ≤ 256) {k : Nat} {T : List Zs} (hk : 256 < k) (hT : T.length ≤ 90000000) :
  Yf K go1 k x7 x11 x12 x15 x68 x69 x81 x83 x84 x93 x94 x114 x115 x116 (r1.length : Int) (0 : Int) y1 y2 y3 y4 y13 T a b c [r1] d e f [r2] = go1 x7 x11 x12 x15 y1 y2 y3 y4 y13 (T ++ prs r1 r2) :=
 ways_l5 K go1 x7 x11 x12 x15 x68 x69 x81 x83 x84 x93 x94 x114 x115 x116 y1 y2 y3 y4 y13 a b c d e f hl h256 r1.length k 0 T rfl (by omega) (by omega)
structure Flat (S : List Qa) (c : Nat) : Prop where
 n2 : S.length ≤ 256
 c2 : c ≤ 256
 nx : ∀ i, i < S.length → (stA S i).Next = [mvs S i] ∧ (mvs S i).length = c
 rl : ∀ i, i < S.length → ∃ r, (stA S i).Rule = [r]
 rr : ∀ i, i < S.length → (stA S i).R = []
 mv : ∀ i, i < S.length → ∀ m ∈ mvs S i, (m.To = -1 ∧ m.Ops = []) ∨ (1 ≤ m.To ∧ m.To < S.length ∧ m.Ops = [])
theorem one_of {α : Type} {l : List α} (h : l.length = 1) : ∃ x, l = [x] := by
 match l, h with
 | [x], _ => exact ⟨x, rfl⟩
theorem flat_of {a : Qm} (h : RQ a) (hc : a.Counts.length = 0) : Flat a.States a.Split.Many.toNat := by
 have hR : ∀ i, i < a.States.length → (stA a.States i).R = [] := fun i hi => by
  have g := (h.st _ (Qgm hi)).r
  rw [Ww hi]
  rw [hc] at g
  cases hr : (a.States[i]).R with
  | nil => rfl
  | cons x xs =>
   rw [hr] at g
   simp [Tp, Ow] at g
   omega
 have hm := h.many
 have hcode : ∀ i, i < a.States.length → X8 ((stA a.States i).R.length : Int) = 1 := fun i hi => by rw [hR i hi]; rfl
 refine ⟨h.n2, by omega, fun i hi => ?_, fun i hi => ?_, hR, fun i hi m hm => ?_⟩
 ·have g := h.st _ (Qgm hi)
  have e := g.nl
  have e2 := hcode i hi
  rw [Ww hi] at e2
  rw [e2] at e
  obtain ⟨r, hr⟩ := one_of (l := (a.States[i]).Next) (by omega)
  have hrow := g.row r (by rw [hr]; exact Qgo.2 rfl)
  have e3 : mvs a.States i = r := by rw [mvs, Ww hi, hr]; simp
  rw [e3, Ww hi]
  exact ⟨hr, by omega⟩
 ·have g := h.st _ (Qgm hi)
  have e := g.rl
  have e2 := hcode i hi
  rw [Ww hi] at e2 ⊢
  rw [e2] at e
  exact one_of (by omega)
 ·have g := h.st _ (Qgm hi)
  rw [mvs, Ww hi, Qir] at hm
  obtain ⟨r, hr, hm⟩ := hm
  rcases g.mv r hr m hm with h1 | ⟨h1, h2, h3, _⟩
  ·exact .inl h1
  ·rw [hR _ (by omega)] at h3
   exact .inr ⟨h1, h2, Qg2 h3⟩
theorem look_seen (t : Zs) : ∀ D : List Zs, (D.map fun u => (u, true)).lookup t = if t ∈ D then some true else none
 | [] => rfl
 | u :: D => by
  rw [Qhb, Qhn, look_seen t D]
  by_cases h : t = u
  ·subst h; simp
  ·have : (t == u) = false := Qg6.2 h
   rw [this]
   simp [h]
structure WInv (S : List Qa) (i k : Int) (D todo : List Zs) : Prop where
 dn : D.Nodup
 dv : ∀ t ∈ D, 1 ≤ t.a0 ∧ t.a0 < S.length ∧ 1 ≤ t.a1 ∧ t.a1 < S.length ∧ t.a0 ≠ t.a1 ∧ (stA S t.a0.toNat).Rule = (stA S t.a1.toNat).Rule
 cl : ∀ t ∈ D, ∀ u ∈ prs (mvs S t.a0.toNat) (mvs S t.a1.toNat), u ∈ D ∨ u ∈ todo ∨ u.a0 = u.a1
 tv : ∀ t ∈ todo, (t.a0 = -1 ∨ (1 ≤ t.a0 ∧ t.a0 < S.length)) ∧ (t.a1 = -1 ∨ (1 ≤ t.a1 ∧ t.a1 < S.length))
 st : (⟨i, k⟩ : Zs) ∈ D ∨ (⟨i, k⟩ : Zs) ∈ todo
theorem seen_few {S : List Qa} (hn : S.length ≤ 256) {D : List Zs} (hd : D.Nodup) (hv : ∀ t ∈ D, 1 ≤ t.a0 ∧ t.a0 < S.length ∧ 1 ≤ t.a1 ∧ t.a1 < S.length) : D.length ≤ 65536 := by
 have h1 : (D.map fun t => t.a0.toNat * 256 + t.a1.toNat).Nodup := by
  refine List.pairwise_map.2 (hd.imp_of_mem fun {x y} hx hy hne => fun e => hne ?_)
  have gx := hv x hx
  have gy := hv y hy
  obtain ⟨x0, x1⟩ := x
  obtain ⟨y0, y1⟩ := y
  dsimp only at *
  rw [Zs.mk.injEq]
  omega
 have h2 := Tf _ (List.range 65536) h1 fun x hx => by
  obtain ⟨t, ht, rfl⟩ := Qhe.1 hx
  have g := hv t ht
  rw [Qh8]
  omega
 rw [Qgn, Qhi] at h2
 exact h2
theorem prs_mem {r s : List Qc} (hl : r.length = s.length) {j : Nat} (h1 : j < r.length) (h2 : j < s.length) : pairQ r[j] s[j] ∈ prs r s := by
 rw [prs, List.mem_iff_getElem]
 exact ⟨j, by rw [List.length_zipWith]; omega, by rw [List.getElem_zipWith]⟩
theorem prs_of {r s : List Qc} {u : Zs} (h : u ∈ prs r s) : ∃ m ∈ r, ∃ n ∈ s, u = pairQ m n := by
 rw [prs, List.mem_iff_getElem] at h
 obtain ⟨j, hj, rfl⟩ := h
 rw [List.length_zipWith] at hj
 rw [List.getElem_zipWith]
 exact ⟨_, Qgm _, _, Qgm _, rfl⟩
theorem ways_end {S : List Qa} {c : Nat} (hF : Flat S c) (hT : toOk S) (hown : ∀ x y, x < S.length → y < S.length → eqL (X0 S) x y → x = y) {i k : Int} {D : List Zs} (h : WInv S i k D []) : False := by
 have hE := (Jc hT).big (fun x y => x < S.length ∧ y < S.length ∧ (x = y ∨ (⟨(x : Int), (y : Int)⟩ : Zs) ∈ D)) fun x y ⟨hx, hy, hxy⟩ => ⟨hx, hy, by
  rcases hxy with rfl | hxy
  ·by_cases h0 : x = 0
   ·exact .inl ⟨h0, h0⟩
   ·refine .inr ⟨by omega, by omega, rfl, rfl, rfl, fun j h1 _ => ?_⟩
    rcases hF.mv x hx _ (Qgm h1) with ⟨g, _⟩ | ⟨g1, g2, _⟩
    ·exact .inl ⟨by omega, by omega⟩
    ·exact .inr ⟨by omega, by omega, rfl, by omega, by omega, .inl rfl⟩
  ·obtain ⟨d1, d2, d3, d4, d5, d6⟩ := h.dv _ hxy
   have hcl := h.cl _ hxy
   dsimp only at d1 d2 d3 d4 d5 d6 hcl
   rw [Qgp, Qgp] at d6 hcl
   have lx := (hF.nx x hx).2
   have ly := (hF.nx y hy).2
   refine .inr ⟨by omega, by omega, by rw [hF.rr x hx, hF.rr y hy], d6, by omega, fun j h1 h2 => ?_⟩
   have hu := hcl _ (prs_mem (by omega) h1 h2)
   rcases hF.mv x hx _ (Qgm h1) with ⟨g1, g2⟩ | ⟨g1, g2, g3⟩ <;> rcases hF.mv y hy _ (Qgm h2) with ⟨k1, k2⟩ | ⟨k1, k2, k3⟩
   ·exact .inl ⟨by omega, by omega⟩
   ·exfalso
    rcases hu with hu | hu | hu
    ·have := (h.dv _ hu).1; rw [pairQ] at this; dsimp only at this; omega
    ·cases hu
    ·rw [pairQ] at hu; dsimp only at hu; omega
   ·exfalso
    rcases hu with hu | hu | hu
    ·have := (h.dv _ hu).2.2.1; rw [pairQ] at this; dsimp only at this; omega
    ·cases hu
    ·rw [pairQ] at hu; dsimp only at hu; omega
   ·refine .inr ⟨by omega, by omega, by rw [g3, k3], by omega, by omega, ?_⟩
    rcases hu with hu | hu | hu
    ·refine .inr ?_
     rw [Qhw (by omega), Qhw (by omega)]
     exact hu
    ·cases hu
    ·rw [pairQ] at hu; dsimp only at hu
     exact .inl (by omega)⟩
 rcases h.st with h1 | h1
 ·obtain ⟨d1, d2, d3, d4, d5, _⟩ := h.dv _ h1
  dsimp only at d1 d2 d3 d4 d5
  have := hown i.toNat k.toNat (by omega) (by omega) (hE _ _ ⟨by omega, by omega, .inr (by rw [Qhw (by omega), Qhw (by omega)]; exact h1)⟩)
  omega
 ·cases h1
theorem ways_apart (K f : Nat) (i k : Int) (hik : i ≠ k) (y1 : Zg) (y2 : Int) (y3 : List Zs) (y4 : List Qa) (y13 : List (Zs × Bool)) (T : List Zs) : Q9 K (f + 1) true i k true y1 y2 y3 y4 y13 T = some true := by
 have e : (true == (i != k)) = true := by simp [hik]
 rw [Q9]
 dsimp only
 rw [Qh2, cF, Xo, Yu, cT, e]
 cases decide ((T.length : Int) > 0) <;> rfl
theorem ways_l1 (K : Nat) (hK : 300 ≤ K) {S : List Qa} {c : Nat} (hF : Flat S c) (hT : toOk S) (hown : ∀ x y, x < S.length → y < S.length → eqL (X0 S) x y → x = y) {i k : Int} (hik : i ≠ k) (y1 : Zg) (y2 : Int) (y3 : List Zs) :
  ∀ (q f : Nat) (D todo : List Zs), 257 * (65536 - D.length) + todo.length ≤ q → q + 1 < f → q ≤ 20000000 → WInv S i k D todo → Q9 K f true i k false y1 y2 y3 S (D.map fun u => (u, true)) todo = some true := by
 intro q
 induction q with
 | zero =>
  intro f D todo hq hf hb h
  match todo, hq, h with
  | [], _, h => exact (ways_end hF hT hown h).elim
  | t :: l, hq, _ => simp at hq
 | succ q ih =>
  intro f D todo hq hf hb h
  match todo, hq, h with
  | [], _, h => exact (ways_end hF hT hown h).elim
  | t :: l, hq, h =>
   obtain ⟨f, rfl⟩ := Qjp f (by omega)
   have e : (true == (i != k)) = true := by simp [hik]
   rw [Qgy] at hq
   have hlen : (((t :: l).length : Nat) : Int) > 0 := by rw [Qgy]; omega
   have g0 : Yw (t :: l) (0 : Int) = some t := rfl
   rw [Q9]
   dsimp only
   rw [Qgu hlen, cT, Qhm, cT, g0, bS, Yp (by rw [Qgy]; omega), look_seen, Qjh, Qhj]
   by_cases hm : t ∈ D
   ·rw [if_pos hm, Qhv, cT, Yv]
    refine ih f D l (by omega) (by omega) (by omega) ⟨h.dn, h.dv, fun u hu v hv => ?_, fun u hu => h.tv u (Qgz _ hu), ?_⟩
    ·rcases h.cl u hu v hv with g | g | g
     ·exact .inl g
     ·rcases Qhl.1 g with rfl | g
      ·exact .inl hm
      ·exact .inr (.inl g)
     ·exact .inr (.inr g)
    ·rcases h.st with g | g
     ·exact .inl g
     ·rcases Qhl.1 g with g | g
      ·rw [g]; exact .inl hm
      ·exact .inr g
   ·rw [if_neg hm, Option.getD_none, cF]
    have t0 : Zs.get t (0 : Int) = t.a0 := rfl
    have t1 : Zs.get t (1 : Int) = t.a1 := rfl
    rw [t0, t1]
    by_cases he : t.a0 = t.a1
    ·rw [Qio.2 he, cT, Yv]
     refine ih f D l (by omega) (by omega) (by omega) ⟨h.dn, h.dv, fun u hu v hv => ?_, fun u hu => h.tv u (Qgz _ hu), ?_⟩
     ·rcases h.cl u hu v hv with g | g | g
      ·exact .inl g
      ·rcases Qhl.1 g with rfl | g
       ·exact .inr (.inr he)
       ·exact .inr (.inl g)
      ·exact .inr (.inr g)
     ·rcases h.st with g | g
      ·exact .inl g
      ·rcases Qhl.1 g with g | g
       ·rw [← g] at he; exact absurd he hik
       ·exact .inr g
    ·rw [Qg6.2 he, cF, Yp rfl]
     have hj3 : Xp K true i k = some true := by rw [Xp, Yu, cT, e]
     obtain ⟨v0, v1⟩ := h.tv t Qg4
     by_cases h0 : t.a0 < 0
     ·rw [Qgu h0, cT, hj3]
     ·rw [Qgr h0, cF]
      by_cases h1 : t.a1 < 0
      ·rw [Qgu h1, cT, hj3]
      ·rw [Qgr h1, cF]
       have b0 : 1 ≤ t.a0 ∧ t.a0 < S.length := by rcases v0 with g | g; (omega); exact g
       have b1 : 1 ≤ t.a1 ∧ t.a1 < S.length := by rcases v1 with g | g; (omega); exact g
       have hx : t.a0.toNat < S.length := by omega
       have hy : t.a1.toNat < S.length := by omega
       obtain ⟨nx, cx⟩ := hF.nx _ hx
       obtain ⟨ny, cy⟩ := hF.nx _ hy
       obtain ⟨rx, ex⟩ := hF.rl _ hx
       obtain ⟨ry, ey⟩ := hF.rl _ hy
       have gx : Yw S t.a0 = some (stA S t.a0.toNat) := by
        have := geti_get (l := S) (i := t.a0.toNat) sE hx
        rw [Qhw (by omega)] at this
        exact this
       have gy : Yw S t.a1 = some (stA S t.a1.toNat) := by
        have := geti_get (l := S) (i := t.a1.toNat) sE hy
        rw [Qhw (by omega)] at this
        exact this
       have one : ∀ {α : Type} (x : α), ((([x] : List α).length : Int) != (1 : Int)) = false := fun x => rfl
       have get1 : ∀ {α : Type} (x : α), Yw [x] (0 : Int) = some x := fun x => rfl
       have hc2 := hF.c2
       rw [gx, bS, gy, bS, nx, one, cF, ny, one, cF, ex, get1, bS, ey, get1, bS, get1, bS,
        ways_l5z (hl := by omega) (h256 := by omega) (hk := by omega) (hT := by omega)]
       by_cases hr : rx = ry
       ·rw [bne_eq_false_iff_eq.2 hr]
        have hd : (D ++ [t]).Nodup := by
         rw [Qib]
         exact ⟨h.dn, by simp, fun a ha b hb e => hm (by rw [Qgo] at hb; rw [← hb, ← e]; exact ha)⟩
        have hv : ∀ u ∈ D ++ [t], 1 ≤ u.a0 ∧ u.a0 < S.length ∧ 1 ≤ u.a1 ∧ u.a1 < S.length ∧ u.a0 ≠ u.a1 ∧ (stA S u.a0.toNat).Rule = (stA S u.a1.toNat).Rule := fun u hu => by
         rcases Qgk.1 hu with hu | hu
         ·exact h.dv u hu
         ·rw [Qgo.1 hu]
          exact ⟨b0.1, b0.2, b1.1, b1.2, he, by rw [ex, ey, hr]⟩
        have hfew := seen_few hF.n2 hd fun u hu => ⟨(hv u hu).1, (hv u hu).2.1, (hv u hu).2.2.1, (hv u hu).2.2.2.1⟩
        have hlp : (prs (mvs S t.a0.toNat) (mvs S t.a1.toNat)).length = c := by rw [prs, List.length_zipWith]; omega
        have hDl : (D ++ [t]).length = D.length + 1 := by rw [Qgl]; rfl
        have hTl : (l ++ prs (mvs S t.a0.toNat) (mvs S t.a1.toNat)).length = l.length + c := by rw [Qgl, hlp]
        have key := ih f (D ++ [t]) (l ++ prs (mvs S t.a0.toNat) (mvs S t.a1.toNat)) (by omega) (by omega) (by omega) ⟨hd, hv, fun u hu v hv => ?_, fun u hu => ?_, ?_⟩
        ·rw [Qhr] at key
         exact key
        ·rcases Qgk.1 hu with hu | hu
         ·rcases h.cl u hu v hv with g | g | g
          ·exact .inl (Qgk.2 (.inl g))
          ·rcases Qhl.1 g with rfl | g
           ·exact .inl (Qgk.2 (.inr (Qgo.2 rfl)))
           ·exact .inr (.inl (Qgk.2 (.inl g)))
          ·exact .inr (.inr g)
         ·rw [Qgo.1 hu] at hv
          exact .inr (.inl (Qgk.2 (.inr hv)))
        ·rcases Qgk.1 hu with hu | hu
         ·exact h.tv u (Qgz _ hu)
         ·obtain ⟨m, hm, n, hn, rfl⟩ := prs_of hu
          rw [pairQ]
          dsimp only
          refine ⟨?_, ?_⟩
          ·rcases hF.mv _ hx m hm with g | g
           ·exact .inl g.1
           ·exact .inr ⟨g.1, g.2.1⟩
          ·rcases hF.mv _ hy n hn with g | g
           ·exact .inl g.1
           ·exact .inr ⟨g.1, g.2.1⟩
        ·rcases h.st with g | g
         ·exact .inl (Qgk.2 (.inl g))
         ·rcases Qhl.1 g with g | g
          ·rw [g]; exact .inl (Qgk.2 (.inr (Qgo.2 rfl)))
          ·exact .inr (Qgk.2 (.inl g))
       ·rw [bne_iff_ne.2 hr]
        obtain ⟨f, rfl⟩ := Qjp f (by omega)
        exact ways_apart K f i k hik y1 y2 y3 S _ _
theorem ways_self (K f : Nat) (i : Int) (y1 : Zg) (y2 : Int) (y3 : List Zs) (y4 : List Qa) : Q9 K (f + 2) true i i false y1 y2 y3 y4 [] [⟨i, i⟩] = some true := by
 have g0 : Yw [(⟨i, i⟩ : Zs)] (0 : Int) = some ⟨i, i⟩ := rfl
 have t0 : Zs.get (⟨i, i⟩ : Zs) (0 : Int) = i := rfl
 have t1 : Zs.get (⟨i, i⟩ : Zs) (1 : Int) = i := rfl
 have e : (false == (i != i)) = true := by simp
 rw [Q9]
 dsimp only
 rw [Qgu (by rw [Qgy, Qg9]; decide), cT, Qhm, cT, g0, bS, Yp (by rw [Qgy, Qg9]; decide), List.lookup_nil, Option.getD_none, cF, t0, t1, Qis, cT, Yv, Qjh, List.drop_nil, Q9]
 dsimp only
 rw [Qgr (by rw [Qg9]; decide), cF, Xo, Yu, cT, e]
theorem ways_ix {x : Int} {n : Nat} (h0 : 0 ≤ x) (h1 : x < 256) (hn : 3 ≤ n) (hn2 : n ≤ 256) : ∃ j : Int, 1 ≤ j ∧ j < n ∧ IntKind.i64.wrap ((1 : Int) + (Int.tmod (IntKind.i64.wrap x) (IntKind.i64.wrap ((n : Int) - (1 : Int))))) = j := by
 rw [w64 (n := x) (by omega) (by omega), w64 (n := (n : Int) - 1) (by omega) (by omega), Int.tmod_eq_emod_of_nonneg h0]
 have g1 := Int.emod_nonneg x (show (n : Int) - 1 ≠ 0 by omega)
 have g2 := Int.emod_lt_of_pos x (show (0 : Int) < (n : Int) - 1 by omega)
 rw [w64 (by omega) (by omega)]
 exact ⟨_, by omega, by omega, rfl⟩
theorem Ways_plain (a : Qm) (x y : Int) (ha : Okay a) (hx : 0 ≤ x ∧ x < 256) (hy : 0 ≤ y ∧ y < 256) : ∃ K, Xz K a x y = some true := by
 refine ⟨needK (fewW a) + 20000000, ?_⟩
 obtain ⟨hB, hK⟩ := big_need (fewW a) (Nat.le_add_right (needK (fewW a)) 20000000)
 have hK2 : 20000000 + 400 ≤ needK (fewW a) + 20000000 := by
  have := (big_need (fewW a) (Qgv _)).2
  omega
 have hg := good_or (fewW_okay ha) hB
 generalize needK (fewW a) + 20000000 = K at *
 rw [Xz, shown_at (by omega), bS, fewW_eq, bS]
 generalize fewW a = z at *
 rcases hg with ⟨hz, h1, h2⟩ | ⟨_, h1, h2⟩
 ·obtain ⟨l, hl, e⟩ := of_ok hz hK
  have hp : Pl (trimA z l) := ⟨hz.1.trim l, hz.2⟩
  have e3 : ((0 : Int) != 0) = false := rfl
  rw [e, bS]
  dsimp only
  rw [e3, cF]
  by_cases hc : (trimA z l).Counts.length = 0
  ·rw [Qgr (by omega), cF]
   by_cases h3 : (trimA z l).States.length < 3
   ·rw [Qgu (by omega), cT]; rfl
   ·have hn2 := hp.1.n2
    have h0 := hz.1.n1
    rw [Qgr (by omega), cF, hp.ref (by omega), bS, Qh2, cF, Yp (by rw [w64 (by omega) (by omega)]; omega)]
    obtain ⟨i, i1, i2, ei⟩ := ways_ix (n := (trimA z l).States.length) hx.1 hx.2 (by omega) hn2
    obtain ⟨k, k1, k2, ek⟩ := ways_ix (n := (trimA z l).States.length) hy.1 hy.2 (by omega) hn2
    rw [ei, ek]
    by_cases hik : i = k
    ·subst hik
     obtain ⟨f, rfl⟩ : ∃ q, K = q + 2 := ⟨K - 2, by omega⟩
     exact ways_self _ f i _ _ _ _
    ·have hb : (z.Counts.length == 0) = true := Qio.2 hc
     have hst : (trimA z l).States = B9 z.States l true := by rw [← hb]; rfl
     refine ways_l1 K (by omega) (flat_of hp.1 hc) hp.1.toOk (fun x y hx hy he => ?_) hik _ _ _ (257 * 65536 + 1) K [] [⟨i, k⟩] (by simp) (by omega) (by omega) ⟨Qiw, fun t ht => (by cases ht), fun t ht => (by cases ht), fun t ht => ?_, .inr (Qgo.2 rfl)⟩
     ·rw [hst] at hx hy he
      exact trim_own hz.1.toOk (by omega) hl (by rw [← hst]; exact hp.1.toOk) hx hy he
     ·rw [Qgo.1 ht]
      exact ⟨.inr ⟨i1, i2⟩, .inr ⟨k1, k2⟩⟩
  ·rw [Qgu (by omega), cT]; rfl
 ·rw [of_bad h1, bS]
  dsimp only
  rw [show ((1 : Int) != 0) = true from rfl, cT]
  rfl
end Go.Rv
