/- Tables are read, plainly: the reference's readers. -/
/- Tables are read, plainly: the reference's readers of what states do. -/
/- Tables are read, plainly: Decode of the reference. -/
import Derived.Test.YtaipjabggdifoaaRpTH
namespace Go.Rv
abbrev rby (r : r4r) : List Int := r.b
abbrev rbd (r : r4r) : Bool := r.bad
abbrev RT {β : Type} (w : β → List Int) (v : β → Prop) (s : r4r) (x : β) (s' : r4r) : Prop := E9 rby rbd w v False s x s'
def isB (r : r4r) : Prop := Xz r.b
theorem E1 (s s' : r4r) (h : isB s) (ht : rby s' <:+ rby s) : isB s' := fun x hx => h x (ht.subset hx)
theorem E9.isB {β : Type} {w : β → List Int} {v : β → Prop} {s s' : r4r} {x : β} (h : RT w v s x s') (hs : Go.Rv.isB s) : Go.Rv.isB s' := E1 s s' hs h.tail
theorem tm128 {c : Int} (h : 0 ≤ c) : Int.tmod c 128 = c % 128 := Int.tmod_eq_emod_of_nonneg h
theorem numR (K : Nat) (hK : 5 ≤ K) (s : r4r) (hs : isB s) : ∃ v s', Ma K s = some (v, s') ∧ inN v ∧ RT U1 inN s v s' := by
 obtain ⟨k, rfl⟩ : ∃ k, K = k + 5 := ⟨K - 5, by omega⟩
 have bad : Qag s.b = none → inN (0 : Int) ∧ RT U1 inN s (0 : Int) ⟨s.b, true⟩ := fun h => ⟨by decide, List.suffix_refl _, fun _ => rfl, fun h _ => h.elim, fun z r hz hy _ => by
  have := Bv hz r
  rw [← hy, show Qag (rby s) = none from h] at this
  cases this⟩
 have good : ∀ v l, Qag s.b = some (v, l) → inN v ∧ RT U1 inN s v ⟨l, s.bad⟩ := fun v l h => by
  obtain ⟨h1, h2⟩ := numQ_in hs h
  exact ⟨h1, h2, fun h => h, fun h _ => h.elim, fun z r hz hy hd => by
   have := Bv hz r
   rw [← hy, show Qag (rby s) = some (v, l) from h] at this
   cases this
   exact ⟨rfl, rfl, hd⟩⟩
 have i1 : IntKind.i64.wrap ((0 : Int) + 1) = 1 := by decide
 have i2 : IntKind.i64.wrap ((1 : Int) + 1) = 2 := by decide
 have i3 : IntKind.i64.wrap ((2 : Int) + 1) = 3 := by decide
 have w1 : IntKind.i64.wrap ((1 : Int) * 128) = 128 := by decide
 have w2 : IntKind.i64.wrap ((128 : Int) * 128) = 16384 := by decide
 have w3 : IntKind.i64.wrap ((16384 : Int) * 128) = 2097152 := by decide
 obtain ⟨b, bd⟩ := s
 simp only [isB] at hs
 rw [Ma, H9]
 dsimp only
 rw [show decide ((0 : Int) < 3) = true from rfl, cT]
 match b, hs, bad, good with
 | [], hs, bad, good =>
  rw [show decide ((0 : Int) < (([] : List Int).length : Int)) = false from rfl, cF]
  exact ⟨_, _, rfl, bad rfl⟩
 | c0 :: l1, hs, bad, good =>
  have b0 := hs c0 (by simp)
  have e0 : IntKind.i64.wrap ((0 : Int) + IntKind.i64.wrap (IntKind.i64.wrap (Int.tmod c0 128) * 1)) = c0 % 128 := by
   rw [tm128 b0.1, w64 (n := c0 % 128) (by omega) (by omega), Int.mul_one, w64 (n := c0 % 128) (by omega) (by omega), w64 (by omega) (by omega)]
   omega
  rw [decide_eq_true (show (0 : Int) < ((c0 :: l1).length : Int) by rw [List.length_cons]; omega), cT, show X4 (c0 :: l1) (0 : Int) = some c0 from rfl, bS, e0, i1, w1]
  by_cases d0 : c0 < 128
  ·rw [decide_eq_true d0, cT, Z1 ⟨by decide, by rw [show Int.toNat (1 : Int) = 1 from rfl, List.length_cons]; omega, Nat.le_refl _⟩, List.take_length]
   have e : c0 % 128 = c0 := by omega
   rw [e]
   exact ⟨_, _, rfl, good c0 l1 (by simp only [Qag, if_pos d0])⟩
  ·rw [decide_eq_false d0, cF, H9]
   dsimp only
   rw [show decide ((1 : Int) < 3) = true from rfl, cT]
   match l1, hs, bad, good with
   | [], hs, bad, good =>
    rw [show decide ((1 : Int) < (([c0] : List Int).length : Int)) = false from rfl, cF]
    exact ⟨_, _, rfl, bad (by simp only [Qag, if_neg d0])⟩
   | c1 :: l2, hs, bad, good =>
    have b1 := hs c1 (by simp)
    have e1 : IntKind.i64.wrap (c0 % 128 + IntKind.i64.wrap (IntKind.i64.wrap (Int.tmod c1 128) * 128)) = c0 % 128 + 128 * (c1 % 128) := by
     rw [tm128 b1.1, w64 (n := c1 % 128) (by omega) (by omega), w64 (n := c1 % 128 * 128) (by omega) (by omega), w64 (by omega) (by omega)]
     omega
    rw [decide_eq_true (show (1 : Int) < ((c0 :: c1 :: l2).length : Int) by rw [List.length_cons, List.length_cons]; omega), cT, show X4 (c0 :: c1 :: l2) (1 : Int) = some c1 from rfl, bS, e1, i2, w2]
    by_cases d1 : c1 < 128
    ·rw [decide_eq_true d1, cT, Z1 ⟨by decide, by rw [show Int.toNat (2 : Int) = 2 from rfl, List.length_cons, List.length_cons]; omega, Nat.le_refl _⟩, List.take_length]
     have e : c0 % 128 + 128 * (c1 % 128) = c0 - 128 + 128 * c1 := by omega
     rw [e]
     exact ⟨_, _, rfl, good _ l2 (by simp only [Qag, if_neg d0, if_pos d1])⟩
    ·rw [decide_eq_false d1, cF, H9]
     dsimp only
     rw [show decide ((2 : Int) < 3) = true from rfl, cT]
     match l2, hs, bad, good with
     | [], hs, bad, good =>
      rw [show decide ((2 : Int) < (([c0, c1] : List Int).length : Int)) = false from rfl, cF]
      exact ⟨_, _, rfl, bad (by simp only [Qag, if_neg d0, if_neg d1])⟩
     | c2 :: l3, hs, bad, good =>
      have b2 := hs c2 (by simp)
      have e2 : IntKind.i64.wrap (c0 % 128 + 128 * (c1 % 128) + IntKind.i64.wrap (IntKind.i64.wrap (Int.tmod c2 128) * 16384)) = c0 % 128 + 128 * (c1 % 128) + 16384 * (c2 % 128) := by
       rw [tm128 b2.1, w64 (n := c2 % 128) (by omega) (by omega), w64 (n := c2 % 128 * 16384) (by omega) (by omega), w64 (by omega) (by omega)]
       omega
      rw [decide_eq_true (show (2 : Int) < ((c0 :: c1 :: c2 :: l3).length : Int) by rw [List.length_cons, List.length_cons, List.length_cons]; omega), cT, show X4 (c0 :: c1 :: c2 :: l3) (2 : Int) = some c2 from rfl, bS, e2, i3, w3]
      by_cases d2 : c2 < 128
      ·rw [decide_eq_true d2, cT, Z1 ⟨by decide, by rw [show Int.toNat (3 : Int) = 3 from rfl, List.length_cons, List.length_cons, List.length_cons]; omega, Nat.le_refl _⟩, List.take_length]
       have e : c0 % 128 + 128 * (c1 % 128) + 16384 * (c2 % 128) = c0 - 128 + 128 * (c1 - 128) + 16384 * c2 := by omega
       rw [e]
       exact ⟨_, _, rfl, good _ l3 (by simp only [Qag, if_neg d0, if_neg d1, if_pos d2])⟩
      ·rw [decide_eq_false d2, cF, H9]
       dsimp only
       rw [show decide ((3 : Int) < 3) = false from rfl, cF]
       exact ⟨_, _, rfl, bad (by simp only [Qag, if_neg d0, if_neg d1, if_neg d2])⟩
theorem someR_more (K : Nat) (s : r4r) {n : Nat} (h : s.b.length < n) : Kh K s (n : Int) = some ([], ⟨s.b, true⟩) := by
 rw [Kh, decide_eq_true (by omega), cT]
theorem someR_ok (K : Nat) (s : r4r) {n : Nat} (h : n ≤ s.b.length) (hn : n ≤ LIM) : Kh K s (n : Int) = some (s.b.take n, ⟨s.b.drop n, s.bad⟩) := by
 rw [Kh, decide_eq_false (by omega), cF, Int.toNat_natCast, Z1 ⟨by omega, by omega, h⟩, Z1 (rm (by rw [List.length_nil, List.drop_zero, List.length_take]; omega)), Z1 ⟨by omega, h, Nat.le_refl _⟩, List.take_length, List.drop_zero, List.nil_append]
theorem listR (K : Nat) (hK : BIG ≤ K) (s : r4r) (hs : isB s) : ∃ l s', Nx K s = some (l, s') ∧ (l.length ≤ 2097152 ∧ ∀ x ∈ l, inN x) ∧ RT L9 (fun l => l.length < 2097152 ∧ ∀ x ∈ l, inN x) s l s' := by
 simp only [BIG] at hK
 obtain ⟨n, r1, e1, hn, t1⟩ := numR K (by omega) s hs
 obtain ⟨hn1, hn2⟩ := Ng hn
 obtain ⟨xs, r2, e2, hl, _, ho, _, t2⟩ := Iy (y := rby) (d := rbd) (snd := False) (w := U1) (v := fun _ => inN) (ok := fun _ => inN) (P := isB) rbd (fun _ h => h) E1 n.toNat (fun k i s acc => Uw K k n (i : Int) s.b s.bad acc) (fun s acc => some (acc, s))
  (fun s acc k i hs hi ha _ hd => by
   obtain ⟨v, s', e, hv, t⟩ := numR K (by omega) s hs
   refine ⟨v, s', t, hv, ?_⟩
   show Uw K (k + 1) n (i : Int) s.b s.bad acc = Uw K k n ((i + 1 : Nat) : Int) s'.b s'.bad (acc ++ [v])
   rw [Uw]
   dsimp only
   rw [decide_eq_true (by omega), cT, show s.bad = false from hd, Bool.not_false, cT, show (⟨s.b, false⟩ : r4r) = s by rw [← show s.bad = false from hd], e, bS, Z1 (rmN (by decide) (by simp only [List.length_singleton, LIM]; omega)), Kz (n := i) (by omega)])
  (fun s acc k i _ _ h => by
   show Uw K (k + 1) n (i : Int) s.b s.bad acc = _
   rw [Uw]
   dsimp only
   by_cases hi : n.toNat ≤ i
   ·rw [decide_eq_false (by omega), cF]; rfl
   ·have hb : s.bad = true := h.resolve_left hi
    rw [decide_eq_true (by omega), cT, hb, Bool.not_true, cF, ← hb]; rfl)
  n.toNat K 0 r1 [] (by omega) (by omega) (by omega) rfl (fun j x hx => by simp at hx) (t1.isB hs)
 rw [List.nil_append] at e2 hl ho
 refine ⟨xs, r2, ?_, ⟨by omega, fun x hx => by obtain ⟨j, hj⟩ := List.getElem?_of_mem hx; exact ho j x hj⟩, (t1.seq (v2 := fun n l => l.length = n.toNat - 0 ∧ ∀ x ∈ l, inN x) t2.all).map Prod.snd ?_ ?_⟩
 ·rw [Nx, e1, bS]
  exact e2
 ·rintro ⟨m, l⟩ ⟨h1, h2, h3⟩
  obtain ⟨g1, g2⟩ := Ng h1
  simp only at h1 h2 h3
  refine ⟨⟨by show l.length < 2097152; omega, h3⟩, ?_⟩
  show L9 l = U1 m ++ l.flatMap U1
  rw [L9, show ((l.length : Nat) : Int) = m by omega]
 ·intro z hz
  exact ⟨((z.length : Int), z), rfl, ⟨by omega, by have := hz.1; omega⟩, by simp, hz.2⟩
end Go.Rv
namespace Go.Rv
abbrev RGo := Int → Int → List Int → Bool → List (Bool × aSt) → List Int → List Int → List Int → List (List aMv) → List Int → List Int → List Int → List (List aMv) → Option (aSt × r4r)
theorem moveR (K : Nat) (hK : BIG ≤ K) (ps : List (List Int × List Int)) (hp : ps.length ≤ 2097152 ∧ ∀ p ∈ ps, lrOk p) (x1 : List (Bool × aSt)) (hx : hasR ps x1) (go0 : RGo) (N : Nat) (hN : N ≤ 256) (i : Int) (x28 x29 : Bool) (L R rules : List Int) (nexts : List (List aMv)) (s : r4r) (hs : isB s) (hd : s.bad = false) (k c : Nat) (hc : c < N) (ms : List aMv) (hms : ms.length = c) :
  ∃ m s', RT Hm (mvV ps) s m s' ∧ mvO m ∧ Y6 K go0 (k + 1) (N : Int) i (c : Int) x28 x29 s.b s.bad x1 [] [] [] [] L R rules nexts ms = Y6 K go0 k (N : Int) i ((c + 1 : Nat) : Int) x28 x29 s'.b s'.bad x1 [] [] [] [] L R rules nexts (ms ++ [m]) := by
 simp only [BIG] at hK
 obtain ⟨v, r1, e1, hv, t1⟩ := numR K (by omega) s hs
 have hv' := hv
 obtain ⟨h0, h1⟩ := hv'
 have hlen : x1.length = ps.length := by
  have := congrArg List.length hx
  simpa using this
 have ew : IntKind.i64.wrap (v - 1) = v - 1 := w64 (by omega) (by omega)
 have emW : ∀ z : aMv, -1 ≤ z.To → z.To < 2097151 → Hm z = U1 (z.To + 1) ++ z.Ops := fun z h1 h2 => by rw [Hm, w64 (by omega) (by omega)]
 have known : ∀ z q, mvV ps z → rby s = Hm z ++ q → s.bad = false → v = z.To + 1 ∧ rby r1 = z.Ops ++ q ∧ r1.bad = false := fun z q hz hy hd => by
  have hh := hz.2.2.1
  rw [emW z hz.1 hh, List.append_assoc] at hy
  have hz1 := hz.1
  obtain ⟨e2, e3, e4⟩ := t1.comp (z.To + 1) _ ⟨by omega, by omega⟩ hy hd
  exact ⟨e2, e3, e4⟩
 have hroom : ∀ m : aMv, roomy 32 (ms.length + [m].length) = true := fun m => rmN (by decide) (by simp only [List.length_singleton, LIM]; omega)
 rw [Y6]
 dsimp only
 rw [decide_eq_true (by omega), cT, hd, Bool.not_false, cT, show (⟨s.b, false⟩ : r4r) = s by rw [← hd], e1, bS]
 dsimp only
 rw [ew]
 by_cases c1 : (ps.length : Int) ≤ v - 1
 ·refine ⟨⟨v - 1, []⟩, ⟨r1.b, true⟩, ⟨t1.tail, fun _ => rfl, fun h _ => h.elim, fun z q hz hy hd => ?_⟩, ⟨by show -1 ≤ v - 1; omega, by show v - 1 < _; omega, by simp, fun x hx => by cases hx⟩, ?_⟩
  ·have hzt := hz.2.1
   obtain ⟨e2, _, _⟩ := known z q hz hy hd
   omega
  ·rw [decide_eq_true (by omega), cT, Um, decide_eq_true (by omega), cT, Bool.not_true, cF, Wm, Ul, Z1 (hroom _), Kz (n := c) (by omega)]
 ·rw [decide_eq_false (by omega), cF]
  by_cases c2 : 0 ≤ v - 1
  ·have hlt : (v - 1).toNat < x1.length := by omega
   have hlt2 : (v - 1).toNat < ps.length := by omega
   have hg : X4 x1 (v - 1) = some x1[(v - 1).toNat] := by
    have := Zf hlt
    rwa [show (((v - 1).toNat : Nat) : Int) = v - 1 by omega] at this
   have hR : x1[(v - 1).toNat].2.R = ps[(v - 1).toNat].2 := by
    have h1 : (x1.map fun v => v.2.R)[(v - 1).toNat]? = (ps.map Prod.snd)[(v - 1).toNat]? := by rw [hx]
    rw [List.getElem?_map, List.getElem?_map, List.getElem?_eq_getElem hlt, List.getElem?_eq_getElem hlt2] at h1
    exact Option.some.inj h1
   have hRl := (hp.2 _ (List.getElem_mem hlt2)).2.1
   have hgR : gR ps (v - 1) = ps[(v - 1).toNat].2.length := by
    rw [gR, if_neg (by omega), List.getElem?_eq_getElem hlt2]; rfl
   cases hb : r1.bad with
   | true =>
    refine ⟨⟨v - 1, []⟩, r1, ⟨t1.tail, t1.bad, fun h _ => h.elim, fun z q hz hy hd => ?_⟩, ⟨by show -1 ≤ v - 1; omega, by show v - 1 < _; omega, by simp, fun x hx => by cases hx⟩, ?_⟩
    ·have := (known z q hz hy hd).2.2
     rw [hb] at this; cases this
    ·rw [Um, decide_eq_true (by omega), cT, Bool.not_true, cF, Wm, Ul, Z1 (hroom _), Kz (n := c) (by omega), hb]
   | false =>
    have e0 : (⟨r1.b, false⟩ : r4r) = r1 := by rw [← hb]
    generalize hn : ps[(v - 1).toNat].2.length = n at *
    by_cases c3 : r1.b.length < n
    ·refine ⟨⟨v - 1, []⟩, ⟨r1.b, true⟩, ⟨t1.tail, fun _ => rfl, fun h _ => h.elim, fun z q hz hy hd => ?_⟩, ⟨by show -1 ≤ v - 1; omega, by show v - 1 < _; omega, by simp, fun x hx => by cases hx⟩, ?_⟩
     ·obtain ⟨e2, e3, _⟩ := known z q hz hy hd
      have h3 := hz.2.2.2.1
      rw [show z.To = v - 1 by omega, hgR] at h3
      have := congrArg List.length e3
      rw [List.length_append, show (rby r1).length = r1.b.length from rfl] at this
      omega
     ·rw [Um, decide_eq_true (by omega), cT, Bool.not_false, cT, hg, bS, hR, hn, e0, someR_more K r1 c3, bS]
      dsimp only
      rw [Ul, Z1 (hroom _), Kz (n := c) (by omega)]
    ·have hbl : (r1.b.take n).length = n := by rw [List.length_take]; omega
     have hB := t1.isB hs
     refine ⟨⟨v - 1, r1.b.take n⟩, ⟨r1.b.drop n, r1.bad⟩, ⟨(List.drop_suffix _ _).trans t1.tail, fun h => t1.bad h, fun h _ => h.elim, fun z q hz hy hd => ?_⟩, ⟨by show -1 ≤ v - 1; omega, by show v - 1 < _; omega, by show (r1.b.take n).length ≤ _; omega, fun x hx => hB x (List.mem_of_mem_take hx)⟩, ?_⟩
     ·obtain ⟨e2, e3, e4⟩ := known z q hz hy hd
      have h3 := hz.2.2.2.1
      rw [show z.To = v - 1 by omega, hgR] at h3
      refine ⟨?_, ?_, e4⟩
      ·obtain ⟨zt, zo⟩ := z
       simp only at e2 e3 h3
       rw [show r1.b = zo ++ q from e3, List.take_left' h3]
       congr 1
       omega
      ·show r1.b.drop n = q
       rw [show r1.b = z.Ops ++ q from e3, List.drop_left' h3]
     ·rw [Um, decide_eq_true (by omega), cT, Bool.not_false, cT, hg, bS, hR, hn, e0, someR_ok K r1 (by omega) (by simp only [LIM]; omega), bS]
      dsimp only
      rw [Ul, Z1 (hroom _), Kz (n := c) (by omega)]
  ·have hv0 : v = 0 := by omega
   subst hv0
   refine ⟨⟨0 - 1, []⟩, r1, ⟨t1.tail, t1.bad, fun h _ => h.elim, fun z q hz hy hd => ?_⟩, ⟨by decide, by decide, by simp, fun x hx => by cases hx⟩, ?_⟩
   ·obtain ⟨e2, e3, e4⟩ := known z q hz hy hd
    have e5 : z.To = -1 := by omega
    have h3 := hz.2.2.2.1
    rw [gR, if_pos e5] at h3
    have h4 : z.Ops = [] := List.eq_nil_of_length_eq_zero h3
    obtain ⟨zt, zo⟩ := z
    simp only at e5 h4 e3
    subst e5; subst h4
    exact ⟨rfl, by simpa using e3, e4⟩
   ·rw [Um, decide_eq_false (by omega), cF, Wm, Ul, Z1 (hroom _), Kz (n := c) (by omega)]
theorem movesR (K : Nat) (hK : BIG ≤ K) (ps : List (List Int × List Int)) (hp : ps.length ≤ 2097152 ∧ ∀ p ∈ ps, lrOk p) (x1 : List (Bool × aSt)) (hx : hasR ps x1) (go0 : RGo) (N : Nat) (hN : N ≤ 256) (i : Int) (x28 x29 : Bool) (L R rules : List Int) (nexts : List (List aMv)) (hnx : nexts.length ≤ 1000) (s : r4r) (hs : isB s) :
  ∃ (ms : List aMv) (s' : r4r), Y6 K go0 K (N : Int) i 0 x28 x29 s.b s.bad x1 [] [] [] [] L R rules nexts [] = go0 (N : Int) (IntKind.i64.wrap (i + 1)) s'.b s'.bad x1 [] [] [] [] L R rules (nexts ++ [ms]) ∧ (ms.length ≤ 256 ∧ ∀ m ∈ ms, mvO m) ∧ isB s' ∧ RT (fun l : List aMv => l.flatMap Hm) (fun l => l.length = N - 0 ∧ ∀ m ∈ l, mvV ps m) s ms s' := by
 have hK' := hK
 simp only [BIG] at hK
 obtain ⟨xs, r2, e2, hl, _, ho, hs2, t2⟩ := Iy (y := rby) (d := rbd) (snd := False) (w := Hm) (v := fun _ => mvV ps) (ok := fun _ => mvO) (P := isB) rbd (fun _ h => h) E1 N (fun k c s ms => Y6 K go0 k (N : Int) i (c : Int) x28 x29 s.b s.bad x1 [] [] [] [] L R rules nexts ms) (fun s ms => (ck (roomy 24 (nexts.length + [ms].length) = true)).bind fun _ => go0 (N : Int) (IntKind.i64.wrap (i + 1)) s.b s.bad x1 [] [] [] [] L R rules (nexts ++ [ms]))
  (fun s ms k c hs hc hms _ hd => moveR K hK' ps hp x1 hx go0 N hN i x28 x29 L R rules nexts s hs hd k c hc ms hms)
  (fun s ms k c _ _ h => by
   show Y6 K go0 (k + 1) (N : Int) i (c : Int) x28 x29 s.b s.bad x1 [] [] [] [] L R rules nexts ms = _
   rw [Y6]
   dsimp only
   by_cases hi : N ≤ c
   ·rw [decide_eq_false (by omega), cF]; rfl
   ·have hb : s.bad = true := h.resolve_left hi
    rw [decide_eq_true (by omega), cT, hb, Bool.not_true, cF]; rfl)
  N K 0 s [] (by omega) (by omega) (by omega) rfl (fun j x hx => by simp at hx) hs
 rw [List.nil_append] at e2 hl ho
 refine ⟨xs, r2, ?_, ⟨by omega, fun x hx => by obtain ⟨j, hj⟩ := List.getElem?_of_mem hx; exact ho j x hj⟩, hs2, t2.all⟩
 refine Eq.trans e2 ?_
 rw [Z1 (rmN (by decide) (by simp only [List.length_singleton, LIM]; omega))]
theorem refCodes' (K : Nat) (hK : 5 ≤ K) (n : Nat) : Mx K (n : Int) = some (Ys n) := refCodes K (by omega) n
theorem stateR (K : Nat) (hK : BIG ≤ K) (ps : List (List Int × List Int)) (hp : ps.length ≤ 2097152 ∧ ∀ p ∈ ps, lrOk p) (acc : List aSt) (hok : ∀ j x, acc[j]? = some x → stO ps j x) (hi : acc.length < ps.length) (N : Nat) (hN : N ≤ 256) (s : r4r) (hs : isB s) :
  ∃ x s', I2 K s (D3 ps acc) (acc.length : Int) (N : Int) = some (x, s') ∧ stO ps acc.length x ∧ isB s' ∧ RT Da (stV ps N acc.length) s x s' := by
 have hK' := hK
 simp only [BIG] at hK
 have hp1 : ps[acc.length]? = some ps[acc.length] := List.getElem?_eq_getElem hi
 generalize ps[acc.length] = p at hp1
 have hg : X4 (D3 ps acc) ((acc.length : Nat) : Int) = some (Qa8 p) := by
  have := nowS_get hp1
  obtain ⟨h1, h2⟩ := List.getElem?_eq_some_iff.1 this
  rw [Zf h1, h2]
 obtain ⟨C, hC, hC27⟩ := codesS_nat p.2.length
 obtain ⟨zs, s', e2, hl, _, ho, hs2, t⟩ := Iy (y := rby) (d := rbd) (snd := False) (w := rowW) (v := fun _ => rwV ps N) (ok := fun _ => rwO) (P := isB) rbd (fun _ h => h) E1 C (fun k i s zs => Xv K k (N : Int) (i : Int) s.b s.bad (D3 ps acc) [] [] [] [] p.1 p.2 (zs.map Prod.fst) (zs.map Prod.snd)) (fun s zs => some (⟨p.1, p.2, zs.map Prod.fst, zs.map Prod.snd⟩, s))
  (fun s zs k i hs hi hz _ hd => by
   obtain ⟨v, r1, e1, hv, t1⟩ := numR K (by omega) s hs
   have hv' := hv
   obtain ⟨h0, h1⟩ := hv'
   have ew : IntKind.i64.wrap (v - 1) = v - 1 := w64 (by omega) (by omega)
   obtain ⟨ms, r2, e2, ⟨hl, ho⟩, _, t2⟩ := movesR K hK' ps hp (D3 ps acc) (nowS_R hok) (Xv K k) N hN (i : Int) s.bad (!s.bad) p.1 p.2 (zs.map Prod.fst ++ [v - 1]) (zs.map Prod.snd) (by rw [List.length_map]; omega) r1 (t1.isB hs)
   refine ⟨(v - 1, ms), r2, (t1.seq (v2 := fun _ l => l.length = N - 0 ∧ ∀ m ∈ l, mvV ps m) t2).map (fun p => (p.1 - 1, p.2)) ?_ ?_, ⟨⟨by show -1 ≤ v - 1; omega, by show v - 1 < _; omega⟩, hl, ho⟩, ?_⟩
   ·rintro ⟨u, l⟩ ⟨⟨g1, g2⟩, g3, g4⟩
    simp only at g1 g2 g3 g4
    refine ⟨⟨⟨by show -1 ≤ u - 1; omega, by show u - 1 < _; omega⟩, by show l.length = N; omega, g4⟩, ?_⟩
    show U1 (IntKind.i64.wrap (u - 1 + 1)) ++ l.flatMap Hm = U1 u ++ l.flatMap Hm
    rw [w64 (by omega) (by omega), Int.sub_add_cancel]
   ·rintro ⟨u, l⟩ ⟨⟨g1, g2⟩, g3, g4⟩
    simp only at g1 g2 g3 g4
    exact ⟨(u + 1, l), by show (u + 1 - 1, l) = (u, l); rw [Int.add_sub_cancel], ⟨by show 0 ≤ u + 1; omega, by show u + 1 < _; omega⟩, by show l.length = N - 0; omega, g4⟩
   ·show Xv K (k + 1) (N : Int) (i : Int) s.b s.bad (D3 ps acc) [] [] [] [] p.1 p.2 (zs.map Prod.fst) (zs.map Prod.snd) = Xv K k (N : Int) ((i + 1 : Nat) : Int) r2.b r2.bad (D3 ps acc) [] [] [] [] p.1 p.2 ((zs ++ [(v - 1, ms)]).map Prod.fst) ((zs ++ [(v - 1, ms)]).map Prod.snd)
    rw [Xv]
    dsimp only
    rw [refCodes' K (by omega) p.2.length, bS, hC, decide_eq_true (by omega), cT]
    have hd' : s.bad = false := hd
    rw [hd', Bool.not_false] at e2
    rw [hd', Bool.not_false, cT, show (⟨s.b, false⟩ : r4r) = s by rw [← hd'], e1, bS]
    dsimp only
    rw [ew, Z1 (rmN (by decide) (by simp only [List.length_singleton, List.length_map, LIM]; omega)), e2, Kz (n := i) (by omega), List.map_append, List.map_append]
    rfl)
  (fun s zs k i _ _ h => by
   show Xv K (k + 1) (N : Int) (i : Int) s.b s.bad (D3 ps acc) [] [] [] [] p.1 p.2 (zs.map Prod.fst) (zs.map Prod.snd) = _
   rw [Xv]
   dsimp only
   rw [refCodes' K (by omega) p.2.length, bS, hC]
   by_cases hi : C ≤ i
   ·rw [decide_eq_false (by omega), cF]; rfl
   ·have hb : s.bad = true := h.resolve_left hi
    rw [decide_eq_true (by omega), cT, hb, Bool.not_true, cF, ← hb]; rfl)
  C K 0 s [] (by omega) (by omega) (by omega) rfl (fun j x hx => by simp at hx) hs
 rw [List.nil_append] at e2 hl ho
 refine ⟨_, s', ?_, ⟨p, zs, hp1, rfl, by omega, fun x hx => by obtain ⟨j, hj⟩ := List.getElem?_of_mem hx; exact ho j x hj⟩, hs2, E9.map (w' := Da) (v' := stV ps N acc.length) (fun zs => aSt.mk p.1 p.2 (zs.map Prod.fst) (zs.map Prod.snd)) t.all (fun x hx => ⟨⟨p, x, hp1, rfl, by rw [hC, hx.1, Nat.sub_zero], hx.2⟩, st2W_mk _ _ _⟩) (fun z hz => ?_)⟩
 ·rw [I2, hg, bS, Z1 (show (Qa8 p).1 = false from rfl)]
  exact e2
 ·obtain ⟨p', zs', h1, h2, h3, h4⟩ := hz
  rw [hp1] at h1
  cases h1
  exact ⟨zs', h2.symm, by omega, h4⟩
end Go.Rv
namespace Go.Rv
abbrev zf : Qx := Qx.mk fun _ => 0
theorem restR (K : Nat) (hK : BIG ≤ K) (f : Qx) (N : Nat) (hN : N ≤ 256) (s : r4r) (hs : isB s) :
  ∃ (cs : List Zb) (ps : List (List Int × List Int)) (xs : List aSt) (s' : r4r), Wo K s.b s.bad zf [] [] f (N : Int) [] [] = some (⟨⟨f, (N : Int)⟩, cs, (D3 ps xs).map Prod.snd⟩, s') ∧
   cs.length ≤ 2097152 ∧ (ps.length ≤ 2097152 ∧ ∀ p ∈ ps, lrOk p) ∧ (∀ j x, xs[j]? = some x → stO ps j x) ∧ (s'.bad = false → xs.length = ps.length) ∧
   ∀ z, Yq z → z.Split.Many = N → s.b = U1 (z.Counts.length : Int) ++ (z.Counts.flatMap Tt ++ (U1 (z.States.length : Int) ++ (z.States.flatMap stW ++ z.States.flatMap Da))) → s.bad = false → cs = z.Counts ∧ xs = z.States ∧ ps = lrOf z ∧ s'.bad = false := by
 have hK' := hK
 simp only [BIG] at hK
 obtain ⟨n, s1, e1, hn, t1⟩ := numR K (by omega) s hs
 obtain ⟨hn1, hn2⟩ := Ng hn
 obtain ⟨cs, s2, e2, hl2, _, ho2, hs2, t2⟩ := Iy (y := rby) (d := rbd) (snd := False) (w := Tt) (v := fun _ c => inN c.a0 ∧ inN c.a1) (ok := fun _ c => inN c.a0 ∧ inN c.a1) (P := isB) rbd (fun _ h => h) E1 n.toNat (fun k i s acc => Uv K k n (i : Int) s.b s.bad zf [] [] f (N : Int) acc []) (fun s acc => Lx K s.b s.bad zf [] [] f (N : Int) acc [])
  (fun s acc k i hs hi ha _ hd => by
   obtain ⟨u, r1, g1, hu, q1⟩ := numR K (by omega) s hs
   obtain ⟨v, r2, g2, hv, q2⟩ := numR K (by omega) r1 (q1.isB hs)
   refine ⟨⟨u, v⟩, r2, (q1.seq (v2 := fun _ => inN) q2).map (fun p => Zb.mk p.1 p.2) (fun p hp => ⟨hp, rfl⟩) (fun z hz => ⟨(z.a0, z.a1), rfl, hz⟩), ⟨hu, hv⟩, ?_⟩
   show Uv K (k + 1) n (i : Int) s.b s.bad zf [] [] f (N : Int) acc [] = Uv K k n ((i + 1 : Nat) : Int) r2.b r2.bad zf [] [] f (N : Int) (acc ++ [⟨u, v⟩]) []
   rw [Uv]
   dsimp only
   rw [decide_eq_true (by omega), cT, show s.bad = false from hd, Bool.not_false, cT, show (⟨s.b, false⟩ : r4r) = s by rw [← show s.bad = false from hd], g1, bS, g2, bS, Z1 (rmN (by decide) (by simp only [List.length_singleton, LIM]; omega)), Kz (n := i) (by omega)])
  (fun s acc k i _ _ h => by
   show Uv K (k + 1) n (i : Int) s.b s.bad zf [] [] f (N : Int) acc [] = _
   rw [Uv]
   dsimp only
   by_cases hi : n.toNat ≤ i
   ·rw [decide_eq_false (by omega), cF]
   ·have hb : s.bad = true := h.resolve_left hi
    rw [decide_eq_true (by omega), cT, hb, Bool.not_true, cF])
  n.toNat K 0 s1 [] (by omega) (by omega) (by omega) rfl (fun j x hx => by simp at hx) (t1.isB hs)
 rw [List.nil_append] at e2 hl2 ho2
 obtain ⟨m, s3, e3, hm, t3⟩ := numR K (by omega) s2 hs2
 obtain ⟨hm1, hm2⟩ := Ng hm
 obtain ⟨ps, s4, e4, hl4, _, ho4, hs4, t4⟩ := Iy (y := rby) (d := rbd) (snd := False) (w := lrW) (v := fun _ => lrV) (ok := fun _ => lrOk) (P := isB) rbd (fun _ h => h) E1 m.toNat (fun k i s acc => Uu K k m (i : Int) s.b s.bad zf [] [] f (N : Int) cs (acc.map Qa8)) (fun s acc => Lw K s.b s.bad zf [] [] f (N : Int) cs (acc.map Qa8))
  (fun s acc k i hs hi ha _ hd => by
   obtain ⟨u, r1, g1, hu, q1⟩ := listR K hK' s hs
   obtain ⟨v, r2, g2, hv, q2⟩ := listR K hK' r1 (q1.isB hs)
   refine ⟨(u, v), r2, q1.seq (v2 := fun _ (l : List Int) => l.length < 2097152 ∧ ∀ x ∈ l, inN x) q2, ⟨hu, hv⟩, ?_⟩
   show Uu K (k + 1) m (i : Int) s.b s.bad zf [] [] f (N : Int) cs (acc.map Qa8) = Uu K k m ((i + 1 : Nat) : Int) r2.b r2.bad zf [] [] f (N : Int) cs ((acc ++ [(u, v)]).map Qa8)
   rw [Uu]
   dsimp only
   rw [decide_eq_true (by omega), cT, show s.bad = false from hd, Bool.not_false, cT, show (⟨s.b, false⟩ : r4r) = s by rw [← show s.bad = false from hd], g1, bS, g2, bS, Z1 (rmN (by decide) (by simp only [List.length_singleton, List.length_map, LIM]; omega)), Kz (n := i) (by omega), List.map_append]
   rfl)
  (fun s acc k i _ _ h => by
   show Uu K (k + 1) m (i : Int) s.b s.bad zf [] [] f (N : Int) cs (acc.map Qa8) = _
   rw [Uu]
   dsimp only
   by_cases hi : m.toNat ≤ i
   ·rw [decide_eq_false (by omega), cF]
   ·have hb : s.bad = true := h.resolve_left hi
    rw [decide_eq_true (by omega), cT, hb, Bool.not_true, cF])
  m.toNat K 0 s3 [] (by omega) (by omega) (by omega) rfl (fun j x hx => by simp at hx) (t3.isB hs2)
 rw [List.nil_append] at e4 hl4 ho4
 have hps : ps.length ≤ 2097152 ∧ ∀ p ∈ ps, lrOk p := ⟨by omega, fun p hp => by obtain ⟨j, hj⟩ := List.getElem?_of_mem hp; exact ho4 j p hj⟩
 obtain ⟨xs, s5, e5, hl5, hf5, ho5, hs5, t5⟩ := Iy (y := rby) (d := rbd) (snd := False) (w := Da) (v := stV ps N) (ok := stO ps) (P := isB) rbd (fun _ h => h) E1 ps.length (fun k i s acc => Ut K k (i : Int) s.b s.bad zf [] [] f (N : Int) cs (D3 ps acc)) (fun s acc => some (⟨⟨f, (N : Int)⟩, cs, (D3 ps acc).map Prod.snd⟩, s))
  (fun s acc k i hs hi ha hok hd => by
   subst ha
   obtain ⟨x, s', g1, hx, _, q1⟩ := stateR K hK' ps hps acc hok hi N hN s hs
   refine ⟨x, s', q1, hx, ?_⟩
   have hp1 : ps[acc.length]? = some ps[acc.length] := List.getElem?_eq_getElem hi
   have hg : X4 (D3 ps acc) ((acc.length : Nat) : Int) = some (Qa8 ps[acc.length]) := by
    have := nowS_get hp1
    obtain ⟨h1, h2⟩ := List.getElem?_eq_some_iff.1 this
    rw [Zf h1, h2]
   show Ut K (k + 1) ((acc.length : Nat) : Int) s.b s.bad zf [] [] f (N : Int) cs (D3 ps acc) = Ut K k ((acc.length + 1 : Nat) : Int) s'.b s'.bad zf [] [] f (N : Int) cs (D3 ps (acc ++ [x]))
   have hl := hps.1
   rw [Ut]
   dsimp only
   rw [nowS_len (by omega), decide_eq_true (by omega), cT, show s.bad = false from hd, Bool.not_false, cT, show (⟨s.b, false⟩ : r4r) = s by rw [← show s.bad = false from hd], g1, bS, hg, bS, Kz (n := acc.length) (by omega), Int.toNat_natCast, ← nowS_set hp1]
   rfl)
  (fun s acc k i hi ha h => by
   show Ut K (k + 1) (i : Int) s.b s.bad zf [] [] f (N : Int) cs (D3 ps acc) = _
   rw [Ut]
   dsimp only
   rw [nowS_len (by omega)]
   by_cases hi2 : ps.length ≤ i
   ·rw [decide_eq_false (by omega), cF]; rfl
   ·have hb : s.bad = true := h.resolve_left hi2
    rw [decide_eq_true (by omega), cT, hb, Bool.not_true, cF, ← hb]; rfl)
  ps.length K 0 s4 [] (by omega) (by omega) (by have := hps.1; omega) rfl (fun j x hx => by simp at hx) hs4
 rw [List.nil_append] at e5 hl5 ho5 hf5
 have e0 : D3 ps [] = ps.map Qa8 := by simp [D3]
 refine ⟨cs, ps, xs, s5, ?_, by omega, hps, ho5, fun h => hf5 h, fun z hz hmany hy hd => ?_⟩
 ·rw [Wo, show (⟨s.b, s.bad⟩ : r4r) = s from rfl, e1, bS]
  refine Eq.trans e2 ?_
  rw [Lx, show (⟨s2.b, s2.bad⟩ : r4r) = s2 from rfl, e3, bS]
  refine Eq.trans e4 ?_
  rw [Lw, ← e0]
  exact e5
 ·have hcl := hz.cl
  obtain ⟨b1, b2, b3⟩ := t1.comp (z.Counts.length : Int) _ (show inN (z.Counts.length : Int) from ⟨by omega, by omega⟩) hy hd
  have hsl := hz.sl
  obtain ⟨c1, c2, c3⟩ := t2.all.comp z.Counts _ ⟨by rw [b1]; simp, hz.counts⟩ b2 b3
  obtain ⟨d1, d2, d3⟩ := t3.comp (z.States.length : Int) _ (show inN (z.States.length : Int) from ⟨by omega, by omega⟩) c2 c3
  rw [lrOf_W] at d2
  have hll : (lrOf z).length = z.States.length := List.length_map _
  obtain ⟨f1, f2, f3⟩ := t4.all.comp (lrOf z) _ ⟨by rw [d1, hll]; simp, hz.lrV⟩ d2 d3
  rw [← List.append_nil (z.States.flatMap Da)] at f2
  obtain ⟨g1, _, g3⟩ := t5.comp z.States [] ⟨by rw [f1, hll, Nat.sub_zero], fun j s hs => by rw [f1, Nat.zero_add]; exact hz.stV hmany j s hs⟩ f2 f3
  exact ⟨c1, g1, f1, g3⟩
theorem splitR (K : Nat) (x : List Int) (hx : x.length = 260) (hxb : Xz x) (b : List Int) : ∀ m k i (f : Qx) (N : Nat), 256 - i = m → i ≤ 256 → m < k → (∀ j, j < i → (x[j + 4]? = some (f.f j))) → N ≤ 256 → (i = 0 → N = 0) → (0 < i → 1 ≤ N ∧ (∃ j, j < i ∧ f.f j = (N : Int) - 1) ∧ ∀ j, j < i → f.f j ≤ (N : Int) - 1) →
  ∃ (f' : Qx) (N' : Nat), Js K k x (i : Int) b false zf [] [] f (N : Int) [] [] = Wo K b false zf [] [] f' (N' : Int) [] [] ∧ (∀ j, j < 256 → x[j + 4]? = some (f'.f j)) ∧ N' ≤ 256 ∧ 1 ≤ N' ∧ (∃ j, j < 256 ∧ f'.f j = (N' : Int) - 1) ∧ ∀ j, j < 256 → f'.f j ≤ (N' : Int) - 1 := by
 intro m
 induction m with
 | zero =>
  intro k i f N hm hi hk hf hN h0 h1
  obtain ⟨k, rfl⟩ : ∃ k', k = k' + 1 := ⟨k - 1, by omega⟩
  have hi' : i = 256 := by omega
  subst hi'
  obtain ⟨g1, g2, g3⟩ := h1 (by decide)
  refine ⟨f, N, ?_, hf, hN, g1, g2, g3⟩
  rw [Js]
  dsimp only
  rw [show decide (((256 : Nat) : Int) < 256) = false from rfl, cF]
 | succ m ih =>
  intro k i f N hm hi hk hf hN h0 h1
  obtain ⟨k, rfl⟩ : ∃ k', k = k' + 1 := ⟨k - 1, by omega⟩
  have hlt : i < 256 := by omega
  have h4 : i + 4 < x.length := by omega
  have hb := hxb _ (List.getElem_mem h4)
  have hA1 : 256 - (i + 1) = m := by clear h0 h1; omega
  have hA2 : i + 1 ≤ 256 := by clear h0 h1; omega
  have hA3 : m < k := by clear h0 h1; omega
  have ew : IntKind.i64.wrap ((i : Int) + 4) = ((i + 4 : Nat) : Int) := by rw [w64 (by omega) (by omega)]; omega
  have hck : 0 ≤ (i : Int) ∧ (i : Int) < 256 := ⟨by omega, by omega⟩
  have hdec : decide ((i : Int) < 256) = true := decide_eq_true hck.2
  have hw1 := Kz (n := i) (by omega)
  generalize hv : x[i + 4] = v at hb
  have ew2 : IntKind.i64.wrap (IntKind.i64.wrap v + 1) = v + 1 := by rw [w64 (n := v) (by omega) (by omega), w64 (by omega) (by omega)]
  have hset : ∀ j, (Qx.set f (i : Int) v).f j = if j = i then v else f.f j := fun j => rfl
  have hfs : ∀ j, j < i + 1 → x[j + 4]? = some ((Qx.set f (i : Int) v).f j) := fun j hj => by
   rw [hset]
   split
   ·next he => subst he; rw [List.getElem?_eq_getElem h4, hv]
   ·exact hf j (by clear h0 h1; omega)
  have hmany : ∃ N' : Nat, (if v + 1 > (N : Int) then v + 1 else (N : Int)) = (N' : Int) ∧ N' ≤ 256 ∧ 1 ≤ N' ∧ (∃ j, j < i + 1 ∧ (Qx.set f (i : Int) v).f j = (N' : Int) - 1) ∧ ∀ j, j < i + 1 → (Qx.set f (i : Int) v).f j ≤ (N' : Int) - 1 := by
   by_cases hg : v + 1 > (N : Int)
   ·refine ⟨(v + 1).toNat, by rw [if_pos hg]; omega, by omega, by omega, ⟨i, by omega, by rw [hset, if_pos rfl]; omega⟩, fun j hj => ?_⟩
    rw [hset]
    split
    ·omega
    ·next hne =>
     have := (h1 (by omega)).2.2 j (by omega)
     omega
   ·rcases Nat.eq_zero_or_pos i with hi0 | hi0
    ·have := h0 hi0; omega
    ·obtain ⟨g1, ⟨j0, g2, g3⟩, g4⟩ := h1 hi0
     refine ⟨N, by rw [if_neg hg], hN, g1, ⟨j0, by omega, by rw [hset, if_neg (by omega)]; exact g3⟩, fun j hj => ?_⟩
     rw [hset]
     split
     ·omega
     ·exact g4 j (by omega)
  obtain ⟨N', e1, hN', g1, g2, g3⟩ := hmany
  rw [Js]
  dsimp only
  rw [hdec, cT, Bool.not_false, cT, ew, Zf h4, hv, bS, Z1 hck, ew2, e1, hw1]
  exact ih k (i + 1) (Qx.set f (i : Int) v) N' hA1 hA2 hA3 hfs hN' (fun h => absurd h (Nat.succ_ne_zero i)) (fun _ => ⟨g1, g2, g3⟩)
theorem DecodeR (K : Nat) (hK : BIG ≤ K) (l : List Int) (hl : Xz l) : ∃ r, Dw K l = some r ∧ ((∃ a, r = (a, 0) ∧ Yq a ∧ Qah a ∧ D4 a K ∧ F9 a = l) ∨ (r = (Sl, 6) ∧ ∀ a, Yq a → Qah a → F9 a ≠ l)) := by
 have hKK := hK
 simp only [BIG] at hKK
 have notShort : ∀ z, F9 z = l → 260 ≤ l.length := fun z hz => by
  rw [← hz]
  simp only [F9, Te, List.length_append, List.length_cons, list_len]
  omega
 -- what comes behind the classes of bytes
 have rest : ∀ (f : Qx) (N : Nat), N ≤ 256 → (∀ i, i < 256 → 0 ≤ f.f i ∧ f.f i < 256) → ∀ s : r4r, isB s → (∀ z, Yq z → Qah z → F9 z = l → z.Split.Many = N ∧ Qx.list 256 f = Qx.list 256 z.Split.Of ∧ s.b = U1 (z.Counts.length : Int) ++ (z.Counts.flatMap Tt ++ (U1 (z.States.length : Int) ++ (z.States.flatMap stW ++ z.States.flatMap Da))) ∧ s.bad = false) →
   Nv K ⟨l, false⟩ = Wo K s.b s.bad zf [] [] f (N : Int) [] [] → ∃ r, Dw K l = some r ∧ ((∃ a, r = (a, 0) ∧ Yq a ∧ Qah a ∧ D4 a K ∧ F9 a = l) ∨ (r = (Sl, 6) ∧ ∀ a, Yq a → Qah a → F9 a ≠ l)) := by
  intro f N hN hf s hs hz0 he
  obtain ⟨cs, ps, xs, s', e1, hc, hps, hx2, hfull, comp⟩ := restR K hK f N hN s hs
  rw [Dw, he, e1, bS]
  dsimp only
  cases hb : s'.bad with
  | true =>
   rw [cT]
   refine ⟨_, rfl, .inr ⟨rfl, fun z h1 h2 h3 => ?_⟩⟩
   obtain ⟨q1, q2, q3, q4⟩ := hz0 z h1 h2 h3
   have := (comp z h1 q1 q3 q4).2.2.2
   rw [hb] at this; cases this
  | false =>
   rw [cF]
   have hxl := hfull hb
   have hnow : (D3 ps xs).map Prod.snd = xs := by
    rw [D3, hxl, List.drop_length, List.map_nil, List.append_nil, List.map_map]
    exact (List.map_congr_left (fun x _ => rfl)).trans (List.map_id xs)
   rw [hnow]
   have hst : ∀ s ∈ xs, ∃ j, stO ps j s := fun s hs => by
    obtain ⟨j, hj⟩ := List.getElem?_of_mem hs
    exact ⟨j, hx2 j s hj⟩
   have hokay : Qah ⟨⟨f, (N : Int)⟩, cs, xs⟩ := ⟨hf, by show cs.length ≤ _; omega, by show xs.length ≤ _; have := hps.1; omega, fun s hs => by
    obtain ⟨j, p, zs, h1, rfl, h2, h3⟩ := hst s hs
    obtain ⟨⟨g1, _⟩, g2, _⟩ := hps.2 p (List.mem_of_getElem? h1)
    refine ⟨by show p.1.length ≤ _; omega, by show p.2.length ≤ _; omega, by rw [List.length_map]; omega, by rw [List.length_map]; omega, fun r hr => ?_⟩
    obtain ⟨z, hz, rfl⟩ := List.mem_map.1 hr
    obtain ⟨_, g3, g4⟩ := h3 z hz
    exact ⟨by omega, fun m hm => by have := (g4 m hm).2.2.1; omega⟩⟩
   have hbig : D4 ⟨⟨f, (N : Int)⟩, cs, xs⟩ K := ⟨by omega, by show cs.length < _; omega, by show xs.length < _; have := hps.1; omega, fun s hs => by
    obtain ⟨j, p, zs, h1, rfl, h2, h3⟩ := hst s hs
    obtain ⟨⟨g1, _⟩, g2, _⟩ := hps.2 p (List.mem_of_getElem? h1)
    refine ⟨by show p.1.length < _; omega, by show p.2.length < _; omega, by rw [List.length_map]; omega, fun r hr => ?_⟩
    obtain ⟨z, hz, rfl⟩ := List.mem_map.1 hr
    obtain ⟨_, g3, g4⟩ := h3 z hz
    exact ⟨by omega, fun m hm => by have := (g4 m hm).2.2.1; omega⟩⟩
   have hsame : ∀ z, Yq z → Qah z → F9 z = l → sameS z ⟨⟨f, (N : Int)⟩, cs, xs⟩ := fun z h1 h2 h3 => by
    obtain ⟨q1, q2, q3, q4⟩ := hz0 z h1 h2 h3
    obtain ⟨g1, g2, _, _⟩ := comp z h1 q1 q3 q4
    exact ⟨q2.symm, q1, g1.symm, g2.symm⟩
   rw [(encode_both K _ hokay hbig).2, bS]
   by_cases hr : Fi ⟨⟨f, (N : Int)⟩, cs, xs⟩ = true
   ·have hR := rightS.1 hr
    rw [if_pos hr]
    dsimp only
    rw [bne_self_eq_false, cF, Qa7 (enc_bytes hR hokay) hl]
    by_cases heq : F9 ⟨⟨f, (N : Int)⟩, cs, xs⟩ = l
    ·rw [beq_iff_eq.2 heq, Bool.not_true, cF]
     exact ⟨_, rfl, .inl ⟨_, rfl, hR, hokay, hbig, heq⟩⟩
    ·rw [beq_eq_false_iff_ne.2 heq, Bool.not_false, cT]
     exact ⟨_, rfl, .inr ⟨rfl, fun z h1 h2 h3 => heq (by rw [← h3]; exact (enc_same (hsame z h1 h2 h3)).symm)⟩⟩
   ·rw [if_neg hr]
    exact ⟨_, rfl, .inr ⟨rfl, fun z h1 h2 h3 => hr (rightS.2 (right_same (hsame z h1 h2 h3) h1))⟩⟩
 by_cases hshort : l.length < 260
 ·refine rest zf 0 (by decide) (fun i _ => ⟨show (0 : Int) ≤ 0 by decide, show (0 : Int) < 256 by decide⟩) ⟨l, true⟩ hl (fun z h1 h2 h3 => ?_) ?_
  ·have := notShort z h3; omega
  ·have e : Kh K ⟨l, false⟩ (260 : Int) = some ([], ⟨l, true⟩) := someR_more K ⟨l, false⟩ (n := 260) hshort
   obtain ⟨k, hk⟩ : ∃ k, K = k + 1 := ⟨K - 1, by omega⟩
   rw [Nv, e, bS]
   dsimp only
   generalize hKe : K = K2
   rw [← hKe]
   show Js K K [] 0 l true zf [] [] zf 0 [] [] = _
   conv => lhs; arg 2; rw [hk]
   rw [Js]
   rfl
 ·have e : Kh K ⟨l, false⟩ (260 : Int) = some (l.take 260, ⟨l.drop 260, false⟩) := someR_ok K ⟨l, false⟩ (n := 260) (by show 260 ≤ l.length; omega) (by decide)
  have hxl : (l.take 260).length = 260 := by rw [List.length_take]; omega
  obtain ⟨f, N, e2, h1, h2, h3, ⟨j0, h4, h5⟩, h6⟩ := splitR K (l.take 260) hxl (fun x hx => hl x (List.mem_of_mem_take hx)) (l.drop 260) 256 K 0 zf 0 rfl (by decide) (by omega) (fun j hj => by omega) (by decide) (fun _ => rfl) (fun h => by omega)
  have hlist : Qx.list 256 f = (l.drop 4).take 256 := by
   apply List.ext_getElem?
   intro j
   rcases Nat.lt_or_ge j 256 with hj | hj
   ·have := h1 j hj
    rw [List.getElem?_take, if_pos (by omega)] at this
    rw [Qx.list, List.getElem?_map, List.getElem?_range hj, List.getElem?_take, if_pos hj, List.getElem?_drop, Nat.add_comm 4 j, this]
    rfl
   ·rw [List.getElem?_eq_none (by rw [list_len]; omega), List.getElem?_eq_none (by rw [List.length_take]; omega)]
  refine rest f N h2 (fun i hi => ?_) ⟨l.drop 260, false⟩ (fun x hx => hl x (List.mem_of_mem_drop hx)) (fun z g1 g2 g3 => ?_) ?_
  ·have := h1 i hi
   exact hl _ (List.mem_of_mem_take (List.mem_of_getElem? this))
  ·have hl4 : l.drop 4 = Qx.list 256 z.Split.Of ++ (U1 (z.Counts.length : Int) ++ (z.Counts.flatMap Tt ++ (U1 (z.States.length : Int) ++ (z.States.flatMap stW ++ z.States.flatMap Da)))) := by
    rw [← g3, F9, List.drop_left' (show Te.length = 4 from rfl)]
   have hA : Qx.list 256 f = Qx.list 256 z.Split.Of := by rw [hlist, hl4, List.take_left' (list_len _ _)]
   have hmem : ∀ j, j < 256 → f.f j ∈ Qx.list 256 f := fun j hj => List.mem_map.2 ⟨j, List.mem_range.2 hj, rfl⟩
   refine ⟨many_max g1 g2 (by rw [← hA, ← h5]; exact hmem j0 h4) (fun x hx => ?_), hA, ?_, rfl⟩
   ·rw [← hA] at hx
    obtain ⟨j, hj, rfl⟩ := List.mem_map.1 hx
    exact h6 j (List.mem_range.1 hj)
   ·show l.drop 260 = _
    have : l.drop 260 = (l.drop 4).drop 256 := by rw [List.drop_drop]
    rw [this, hl4, List.drop_left' (list_len _ _)]
  ·rw [Nv, e, bS]
   exact e2
end Go.Rv
