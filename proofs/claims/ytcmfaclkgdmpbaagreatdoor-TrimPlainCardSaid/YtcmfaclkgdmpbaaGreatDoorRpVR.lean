/- TrimPlain, plainly. -/
import Derived.Test.YtcmfaclkgdmpbaaGreatDoorRpVQ
namespace Go.Rv
theorem un_stay {xs : List Nat} {c : Yg} (hc : COk (Ym xs) c) (q : Nat) : Tx (Ym xs) q c.L = [] := by
 by_cases h : ∃ h ∈ c.L, hq h = q
 ·obtain ⟨h, h1, h2⟩ := h
  have hh := hc.held h h1
  have hl := Ce xs
  have hp := hh.p1
  rw [Qen hc.rise h h1 h2, stayN, Qh0, Qhx]
  intro n hn hx
  have h3 := hh.lo n hn
  rw [h2] at h3 hp
  have e : (plP (Ym xs) q).Hi = 1 := by rw [I6 (by omega)]; rfl
  have := of_decide_eq_true hx
  omega
 ·exact So fun x hx e => h ⟨x, hx, e⟩
theorem Qew {xs : List Nat} : ∀ (L : List Yl), (∀ h ∈ L, HOk (Ym xs) h) → Qaa (Ym xs) L = 0
 | [], _ => rfl
 | h :: t, hL => by
  have hp := (hL h Qga).p1
  have hl := Ce xs
  rw [Qaa, if_pos (by rw [I6 (by omega)]; show (1 : Int) < 2; omega)]
  exact Qew t fun x hx => hL x (Qf5 _ hx)
theorem un_ripe {xs : List Nat} {h : Yl} (hh : HOk (Ym xs) h) : ripeH (Ym xs) h = true := by
 have hp := hh.p1
 have hl := Ce xs
 have := hh.lo _ hh.head.2.1
 rw [ripeH, I6 (by omega)]
 exact Qf0 (show (1 : Int) ≤ lastN h by omega)
structure CX (xs : List Nat) (t : Nat) (c : Yg) : Prop where
 ok : COk (Ym xs) c
 b : c.Begin = false
 l : c.L.map hq = XP xs.length t
theorem cx_ent {xs : List Nat} {t : Nat} (ht : t < xs.length) {c : Yg} (h : CX xs t c) (q : Nat) : entC (Ym xs) c q = true ↔ t + 1 < xs.length ∧ (q = t + 1 ∨ q = xs.length + (t + 1)) := by
 rw [entC, h.b, if_neg (by decide), Qhk, ← next_any ht, ← h.l]
 constructor
 ·rintro ⟨x, h1, h2⟩
  exact ⟨hq x, Qg4 h1, (Bool.and_eq_true_iff.1 h2).2⟩
 ·rintro ⟨p, h1, h2⟩
  obtain ⟨x, h3, rfl⟩ := Qgf.1 h1
  exact ⟨x, h3, by rw [entH, un_ripe (h.ok.held x h3), h2]; rfl⟩
def AtW (xs : List Nat) (j : Nat) (c : Yg) : Prop := COk (Ym xs) c ∧ ((j = 0 ∧ c = ⟨true, []⟩) ∨ ∃ t, j = t + 1 ∧ CX xs t c)
theorem Qet {xs : List Nat} {j : Nat} {c : Yg} (h : AtW xs j c) (hj : j < xs.length) (b : Nat) : (Qcj (Ym xs) j b = true ∧ AtW xs (j + 1) ⟨false, Qas (Ym xs) c b⟩) ∨ (Qcj (Ym xs) j b = false ∧ Qas (Ym xs) c b = []) := by
 have hg := Ce xs
 have hm : (Qas (Ym xs) c b).map hq = (List.range (2 * xs.length)).filter fun q => Qcj (Ym xs) q b && entC (Ym xs) c q := by
  rw [Qem, hg]
  refine List.filter_congr fun q _ => ?_
  rw [un_stay h.1, Qfv (by simp), Bool.or_false]
 have hE : ∀ q, q < 2 * xs.length → (entC (Ym xs) c q = true ↔ (q = j ∨ q = xs.length + j)) := fun q _ => by
  rcases h.2 with ⟨rfl, rfl⟩ | ⟨t, rfl, ht⟩
  ·rw [entC, if_pos rfl]; exact first_iff
  ·exact (cx_ent (by omega) ht q).trans ⟨fun h => h.2, fun h => ⟨by omega, h⟩⟩
 rw [filt hj b hE] at hm
 cases hx : Qcj (Ym xs) j b with
 | true =>
  rw [hx, if_pos rfl] at hm
  exact .inl ⟨rfl, by
   have hok : COk (Ym xs) ⟨false, Qas (Ym xs) c b⟩ := by
    refine ⟨fun h' hm' => ?_, ?_, fun h => nomatch h⟩
    ·obtain ⟨q, g1, g2, rfl⟩ := held_of hm'
     have hnew : newN (Ym xs) c q = [1] := by
      rw [newN, un_stay h.1] at g2 ⊢
      cases he : entC (Ym xs) c q with
      | true => rfl
      | false => rw [he] at g2; exact absurd rfl g2
     have e : hq ⟨(q : Int), newN (Ym xs) c q⟩ = q := Qf1 q
     refine ⟨by rw [e], by rw [e]; exact g1, List.length_pos_iff.2 g2, fun n hn => ?_, ?_⟩
     ·rw [hnew] at hn
      rw [e, I6 (by omega), Qf3.1 hn]
      exact ⟨by omega, Int.le_refl _⟩
     ·show (newN (Ym xs) c q).Pairwise _
      rw [hnew]; exact Qh4 _ _
    ·show ((Qas (Ym xs) c b).map hq).Pairwise _
     rw [hm]; exact List.Pairwise.filter _ Qix
   exact ⟨hok, .inr ⟨j, rfl, hok, rfl, hm⟩⟩⟩
 | false =>
  rw [hx, if_neg (by decide), Qh0] at hm
  exact .inr ⟨rfl, hm⟩
theorem fold_no {g : Qp} : ∀ (L : List Yl) (r : Int), (∀ h ∈ L, (plP g (hq h)).Last = false) → L.foldl (Cn g) r = r
 | [], _, _ => rfl
 | h :: t, r, hL => by
  rw [Qgx, Cn, hL h Qga, Qik, Qik, if_neg (by decide)]
  exact fold_no t r fun x hx => hL x (Qf5 _ hx)
theorem fold_zero {g : Qp} : ∀ (L : List Yl) (r : Int), r = 0 ∨ (r = -1 ∧ L ≠ []) → (∀ h ∈ L, (plP g (hq h)).Last = true ∧ ripeH g h = true ∧ (plP g (hq h)).Rule = 0) → L.foldl (Cn g) r = 0
 | [], r, hr, _ => by
  rcases hr with h | h
  ·exact h
  ·exact absurd rfl h.2
 | h :: t, r, hr, hL => by
  obtain ⟨h1, h2, h3⟩ := hL h Qga
  have : Cn g r h = 0 := by
   rw [Cn, h1, h2, h3]
   rcases hr with rfl | ⟨rfl, _⟩ <;> rfl
  rw [Qgx, this]
  exact fold_zero t 0 (.inl rfl) fun x hx => hL x (Qf5 _ hx)
theorem atW_rule {xs : List Nat} {j : Nat} {c : Yg} (h : AtW xs j c) (hj : j ≤ xs.length) (h1 : 1 ≤ xs.length) : ruleC (Ym xs) c.L = if j = xs.length then 0 else -1 := by
 have hg := Ce xs
 rcases h.2 with ⟨rfl, rfl⟩ | ⟨t, rfl, ht⟩
 ·rw [if_neg (by omega)]; rfl
 ·have hlast : ∀ x ∈ c.L, (plP (Ym xs) (hq x)).Last = decide (t + 1 = xs.length) ∧ (plP (Ym xs) (hq x)).Rule = 0 := fun x hx => by
   have hm : hq x ∈ XP xs.length t := by rw [← ht.l]; exact Qg4 hx
   obtain ⟨m1, m2⟩ := XP_mem.1 hm
   have e : idx xs.length (hq x) = t := by rw [idx]; split <;> omega
   rw [I6 m1, posQ]
   dsimp only
   rw [e]
   exact ⟨rfl, rfl⟩
  have hne : c.L ≠ [] := fun e => by
   have : t ∈ XP xs.length t := XP_mem.2 ⟨by omega, .inl rfl⟩
   rw [← ht.l, e] at this
   cases this
  by_cases e : t + 1 = xs.length
  ·rw [if_pos e]
   exact fold_zero c.L (-1) (.inr ⟨rfl, hne⟩) fun x hx => ⟨by rw [(hlast x hx).1]; exact Qf0 e, un_ripe (h.1.held x hx), (hlast x hx).2⟩
  ·rw [if_neg e]
   exact fold_no c.L (-1) fun x hx => by rw [(hlast x hx).1]; exact Qfv e
theorem word_count {xs : List Nat} (hx : ∀ b ∈ xs, b < 256) (hn : xs.length ≤ 20) (h1 : 1 ≤ xs.length) {a : Qn} {F : List Nat} (h : Fz (Ym xs) a F) {l : List Bool} (hl : I5 a.States l) : (Tw a l).States.length = xs.length + 1 := by
 obtain ⟨_, hg, _⟩ := word_ok hx hn h1
 have hrq := h.rq hg
 have hT := hrq.toOk
 have hle : (Tw a l).States.length ≤ xs.length + 1 := Nat.le_trans (trim_le hT h.si.n1 hl) (word_many h1 h.si)
 have hbyte : ∀ j, j < xs.length → xs.getD j 0 < 256 := fun j hj => by rw [Q2 hj]; exact hx _ (Qfy hj)
 -- what may come, comes
 have live : ∀ d j at_ c, xs.length - j = d → j ≤ xs.length → AtW xs j c → SimS (Ym xs) a l at_ c → 0 ≤ at_ := by
  intro d
  induction d with
  | zero =>
   intro j at_ c hd hj hw hs
   have hr := atW_rule hw hj h1
   rw [if_pos (by omega)] at hr
   refine Int.not_lt.1 fun hlt => ?_
   have := hs.neg hg h hl hlt
   omega
  | succ d ih =>
   intro j at_ c hd hj hw hs
   rcases hs.to with e | e
   ·subst e
    have hb := hbyte j (by omega)
    have hs' := hs.dead hg h hl hb
    rcases Qet hw (by omega) (xs.getD j 0) with ⟨_, hw'⟩ | ⟨hx', _⟩
    ·exact ih (j + 1) (-1) _ (by omega) (by omega) hw' hs'
    ·rw [has_at (by omega) hb, Qg3] at hx'
     cases hx'
   ·exact e
 -- no two are one
 have own : ∀ d j j' at_ c c', xs.length - j' = d → j < j' → j' ≤ xs.length → AtW xs j c → AtW xs j' c' → SimS (Ym xs) a l at_ c → SimS (Ym xs) a l at_ c' → False := by
  intro d
  induction d with
  | zero =>
   intro j j' at_ c c' hd hjj hj' hw hw' hs hs'
   have hat := live _ j at_ c rfl (by omega) hw hs
   obtain ⟨s1, e1, _, _, e2, _⟩ := hs.pos hg h hl hat
   obtain ⟨s2, f1, _, _, f2, _⟩ := hs'.pos hg h hl hat
   have hr := atW_rule hw (by omega) h1
   have hr' := atW_rule hw' hj' h1
   rw [if_neg (by omega)] at hr
   rw [if_pos (by omega)] at hr'
   rw [Qew _ hw.1.held, hr] at e2
   rw [Qew _ hw'.1.held, hr', ← Option.some.inj (e1.symm.trans f1), e2] at f2
   exact absurd (Option.some.inj f2) (by decide)
  | succ d ih =>
   intro j j' at_ c c' hd hjj hj' hw hw' hs hs'
   have hat := live _ j at_ c rfl (by omega) hw hs
   obtain ⟨s1, e1, _, _, _, e3⟩ := hs.pos hg h hl hat
   obtain ⟨s2, f1, _, _, _, f3⟩ := hs'.pos hg h hl hat
   have hb := hbyte j' (by omega)
   obtain ⟨r1, m1, a1, a2, a3⟩ := e3 _ hb
   obtain ⟨r2, m2, b1, b2, b3⟩ := f3 _ hb
   rw [Qew _ hw.1.held] at a1
   rw [Qew _ hw'.1.held, ← Option.some.inj (e1.symm.trans f1), a1] at b1
   rw [← Option.some.inj b1, a2] at b2
   rw [← Option.some.inj b2] at b3
   rcases Qet hw' (by omega) (xs.getD j' 0) with ⟨_, hw2'⟩ | ⟨hx', _⟩
   ·have hat2 := live _ (j' + 1) _ _ rfl (by omega) hw2' b3
    rcases Qet hw (by omega) (xs.getD j' 0) with ⟨_, hw2⟩ | ⟨_, hx'⟩
    ·exact ih (j + 1) (j' + 1) _ _ _ (by omega) (by omega) (by omega) hw2 hw2' a3 b3
    ·rw [hx'] at a3
     rcases a3 with ⟨_, e⟩ | ⟨s, g1, _⟩
     ·omega
     ·have gl := g1.l
      have gb := g1.b
      have hs0 : 1 ≤ s := Nat.pos_of_ne_zero fun e => by rw [e] at gb; cases gb
      exact (h.si.st s g1.lt).nz hs0 gl
   ·rw [has_at (by omega) hb, Qg3] at hx'
    cases hx'
 -- there is one after each byte
 have some_at : ∀ j, j ≤ xs.length → ∃ (c : Yg) (y : Nat), AtW xs j c ∧ SimS (Ym xs) a l (y : Int) c ∧ y < (Tw a l).States.length := by
  have bound : ∀ (at_ : Int) c, 0 ≤ at_ → SimS (Ym xs) a l at_ c → at_.toNat < (Tw a l).States.length := fun at_ c h0 hs => by
   obtain ⟨s1, e1, _⟩ := hs.pos hg h hl h0
   rw [Xl] at e1
   refine Nat.not_le.1 fun hle => ?_
   rw [if_pos (by omega), List.getElem?_eq_none hle] at e1
   cases e1
  intro j
  induction j with
  | zero =>
   intro _
   have hz : SimS (Ym xs) a l ((0 : Nat) : Int) ⟨true, []⟩ := .inr ⟨0, HasS.zero h, .inr ⟨0, rfl, stands_zero hT h.si.n1 hl⟩⟩
   exact ⟨⟨true, []⟩, 0, ⟨(HasS.zero h).ok, .inl ⟨rfl, rfl⟩⟩, hz, bound 0 _ (by omega) hz⟩
  | succ j ih =>
   intro hj
   obtain ⟨c, y, hw, hs, _⟩ := ih (by omega)
   obtain ⟨s1, e1, _, _, _, e3⟩ := hs.pos hg h hl (by omega)
   have hb := hbyte j (by omega)
   obtain ⟨r1, m1, a1, a2, a3⟩ := e3 _ hb
   rcases Qet hw (by omega) (xs.getD j 0) with ⟨_, hw2⟩ | ⟨hx', _⟩
   ·have h0 := live _ (j + 1) _ _ rfl hj hw2 a3
    refine ⟨_, m1.To.toNat, hw2, ?_, bound _ _ h0 a3⟩
    rw [Qir h0]; exact a3
   ·rw [has_at (by omega) hb, Qg3] at hx'
    cases hx'
 have hch : ∃ f : Nat → Nat, ∀ j, j ≤ xs.length → ∃ c, AtW xs j c ∧ SimS (Ym xs) a l (f j : Int) c ∧ f j < (Tw a l).States.length := by
  refine ⟨fun j => if hj : j ≤ xs.length then Classical.choose (Classical.choose_spec (some_at j hj)) else 0, fun j hj => ?_⟩
  dsimp only
  rw [dif_pos hj]
  exact ⟨_, Classical.choose_spec (Classical.choose_spec (some_at j hj))⟩
 obtain ⟨f, hf⟩ := hch
 have hge := C4 ((List.range (xs.length + 1)).map f) (List.range (Tw a l).States.length) (by
  rw [List.Nodup, Qi5]
  refine (Qix (n := xs.length + 1)).imp_of_mem ?_
  intro i j hi hj hij e
  obtain ⟨c, c1, c2, _⟩ := hf i (by have := Qgo.1 hi; omega)
  obtain ⟨c', c3, c4, _⟩ := hf j (by have := Qgo.1 hj; omega)
  rw [← e] at c4
  exact own _ i j _ c c' rfl hij (by have := Qgo.1 hj; omega) c1 c3 c2 c4) fun x hx => by
   obtain ⟨j, hj, rfl⟩ := Qgf.1 hx
   obtain ⟨_, _, _, c3⟩ := hf j (by have := Qgo.1 hj; omega)
   exact Qgo.2 c3
 rw [Qfw, Qgi, Qgi] at hge
 omega
theorem Plain_plain (b : List Int) (hb : ∀ x ∈ b, 0 ≤ x ∧ x < 256) : Xt 20000000 b = some true := by
 obtain ⟨n, n1, n2, n3⟩ : ∃ n : Nat, n ≤ 20 ∧ n ≤ b.length ∧ (if (20 : Int) < (b.length : Int) then (20 : Int) else (b.length : Int)) = (n : Int) := by
  by_cases hx : (20 : Int) < (b.length : Int)
  ·exact ⟨20, by omega, by omega, by rw [if_pos hx]; rfl⟩
  ·exact ⟨b.length, by omega, Qf6 _, by rw [if_neg hx]⟩
 have hbs : b.take n = Zm ((b.take n).map Int.toNat) := by
  rw [Zm, Qjc]
  refine ((Qja fun x hx => ?_).trans (List.map_id _)).symm
  have := hb x (Qil hx)
  show ((x.toNat : Nat) : Int) = x
  omega
 have hxs : ∀ y ∈ (b.take n).map Int.toNat, y < 256 := fun y hy => by
  obtain ⟨x, hx, rfl⟩ := Qgf.1 hy
  have := hb x (Qil hx)
  omega
 have hlen : ((b.take n).map Int.toNat).length = n := by rw [Qfw, Qgn]; omega
 rw [Xt, shown_at (by omega), bS, n3, Qf1, Z3 ⟨by omega, by omega, n2⟩, Qgl]
 by_cases h0 : n = 0
 ·rw [h0]; rfl
 ·have hl2 : (b.take n).length = n := by rw [Qgn]; omega
  rw [hl2, Qgd.2 (by omega), cF, hbs]
  generalize hxe : (b.take n).map Int.toNat = xs at *
  subst hlen
  obtain ⟨ho, hg, hK⟩ := word_ok hxs n1 (by omega)
  rw [plain_l0 20000000 (by omega) xs hxs n1]
  obtain ⟨a, e, h1, h2⟩ := of_spec hg ho (K := 20000000) (by omega)
  rw [h1, bS]
  rcases h2 with ⟨_, F, h2⟩ | ⟨rfl, F, h2⟩
  ·exact absurd h2 (fun h => word_good (by omega) n1 h)
  ·obtain ⟨l, l1, l2⟩ := of_ok (h2.good hg) (K := 20000000) (by omega)
   rw [l2, bS, Qg3, cT, cT, word_count hxs n1 (by omega) h2 l1, Bx (n := xs.length) (by omega), Qg3]
end Go.Rv
