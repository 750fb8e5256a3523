/- Tables are read, plainly: Decode of the program. -/
/- Tables are read, plainly: Decode of the program is the other way of Encode. -/
/- Tables are read, plainly: Decode tells the automaton whose bytes they are, if there is one. -/
import Derived.Test.YtaipjabggdifoaaRpTE
namespace Go.Rv
theorem zip_maps {α β : Type} (zs : List (α × β)) : (zs.map Prod.fst).zip (zs.map Prod.snd) = zs := by
 induction zs with
 | nil => rfl
 | cons z zs ih => simp [ih]
theorem maxT (K : Nat) (xs : List Int) (h0 : xs ≠ []) (hK : xs.length < K) (hl : xs.length ≤ 1000000) : ∃ m, J0 K xs = some m ∧ m ∈ xs ∧ ∀ x ∈ xs, x ≤ m := by
 have key : ∀ m k i a, xs.length - i = m → i ≤ xs.length → m < k → a ∈ xs → (∀ x ∈ xs.take i, x ≤ a) → ∃ b, Xh K k xs a (i : Int) = some b ∧ b ∈ xs ∧ ∀ x ∈ xs, x ≤ b := by
  intro m
  induction m with
  | zero =>
   intro k i a hm hi hk ha h
   obtain ⟨k, rfl⟩ : ∃ k', k = k' + 1 := ⟨k - 1, by omega⟩
   have : i = xs.length := by omega
   subst this
   rw [List.take_length] at h
   refine ⟨a, ?_, ha, h⟩
   rw [Xh]
   dsimp only
   rw [Z7 (Nat.le_refl _), cF]
  | succ m ih =>
   intro k i a hm hi hk ha h
   obtain ⟨k, rfl⟩ : ∃ k', k = k' + 1 := ⟨k - 1, by omega⟩
   have hlt : i < xs.length := by omega
   rw [Xh]
   dsimp only
   rw [Xc hlt, cT, Zf hlt, bS, Kz (n := i) (by omega)]
   refine ih k (i + 1) _ (by omega) (by omega) (by omega) ?_ (fun x hx => ?_)
   ·split
    ·exact List.getElem_mem hlt
    ·exact ha
   ·rw [← List.take_append_getElem hlt] at hx
    rcases List.mem_append.1 hx with hx | hx
    ·have := h x hx
     split <;> omega
    ·rw [List.mem_singleton.1 hx]
     split <;> omega
 cases xs with
 | nil => exact absurd rfl h0
 | cons c l =>
  have hg : X4 (c :: l) (0 : Int) = some c := rfl
  rw [J0, decide_eq_false (by rw [List.length_cons]; omega), cF, hg, bS]
  exact key l.length K 1 c (by simp) (by simp) (by rw [List.length_cons] at hK; omega) (by simp) (by simp)
theorem splitT (K : Nat) (hK : BIG ≤ K) (r : tbr) : ∃ (f : Qx) (N : Nat) (r' : tbr), Dj K r = some (⟨f, (N : Int)⟩, r') ∧ (∀ i, i < 256 → 0 ≤ f.f i ∧ f.f i < 256) ∧ (1 ≤ N ∧ N ≤ 256 ∧ ((N : Int) - 1 ∈ Qx.list 256 f) ∧ ∀ x ∈ Qx.list 256 f, x ≤ (N : Int) - 1) ∧ E9 pby pbd (fun l : List Int => l) (fun l => l.length = 256) True r (Qx.list 256 f) r' := by
 simp only [BIG] at hK
 have hsz := Uh r.b
 have hlist : ∀ t : ByteArray, t.size = 256 → Qx.list 256 (Qx.copyS (Qx.mk fun _ => 0) t) = Z3 t := fun t ht => by
  apply List.ext_getElem?
  intro j
  have hbl : (Z3 t).length = 256 := by rw [Uh, ht]
  rcases Nat.lt_or_ge j 256 with hj | hj
  ·rw [Qx.list, List.getElem?_map, List.getElem?_range hj, List.getElem?_eq_getElem (by omega)]
   simp only [Option.map_some, Qx.copyS, ht, if_pos hj]
   rw [bt_I (List.getElem?_eq_getElem (by omega))]
  ·rw [List.getElem?_eq_none (by rw [list_len]; omega), List.getElem?_eq_none (by omega)]
 have fin : ∀ (t : ByteArray) (r1 : tbr), t.size = 256 → Wg K r (256 : Int) = some (t, r1) → ∃ (f : Qx) (N : Nat), Dj K r = some (⟨f, (N : Int)⟩, r1) ∧ (∀ i, i < 256 → 0 ≤ f.f i ∧ f.f i < 256) ∧ (1 ≤ N ∧ N ≤ 256 ∧ ((N : Int) - 1 ∈ Qx.list 256 f) ∧ ∀ x ∈ Qx.list 256 f, x ≤ (N : Int) - 1) ∧ Qx.list 256 f = Z3 t := fun t r1 ht e => by
  have hl := hlist t ht
  obtain ⟨m, e2, hm, hmax⟩ := maxT K (Qx.list 256 (Qx.copyS (Qx.mk fun _ => 0) t)) (fun h => by have := congrArg List.length h; rw [list_len] at this; cases this) (by rw [list_len]; omega) (by rw [list_len]; omega)
  have hb := Gd t m (by rw [← hl]; exact hm)
  have ew : IntKind.i64.wrap (IntKind.i64.wrap m + 1) = ((m.toNat + 1 : Nat) : Int) := by rw [w64 (n := m) (by omega) (by omega), w64 (by omega) (by omega)]; omega
  refine ⟨Qx.copyS (Qx.mk fun _ => 0) t, m.toNat + 1, ?_, fun i hi => ?_, ⟨by omega, by omega, by rw [show ((m.toNat + 1 : Nat) : Int) - 1 = m by omega]; exact hm, fun x hx => by have := hmax x hx; omega⟩, hl⟩
  ·rw [Dj, e, bS]
   dsimp only
   rw [Z1 (by omega), e2, bS, ew]
  ·have h2 : (Qx.list 256 (Qx.copyS (Qx.mk fun _ => 0) t))[i]? = some ((Qx.copyS (Qx.mk fun _ => 0) t).f i) := by
    rw [Qx.list, List.getElem?_map, List.getElem?_range hi]; rfl
   rw [hl] at h2
   exact Gd t _ (List.mem_of_getElem? h2)
 by_cases h : r.b.size < 256
 ·obtain ⟨f, N, e, h1, h2, h3⟩ := fin _ _ (by rw [Qap]; rfl) (Rh K r (n := 256) h (by decide))
  exact ⟨f, N, _, e, h1, h2, List.nil_suffix, fun _ => rfl, fun _ h => (by cases h), fun z q hz hy _ => by
   exfalso
   have := congrArg List.length hy
   rw [List.length_append, hz, show (pby r).length = r.b.size from hsz] at this
   omega⟩
 ·have ht : (r.b.extract 0 256).size = 256 := by
   rw [← Uh, Xp, List.drop_zero, List.length_take, hsz]; omega
  obtain ⟨f, N, e, h1, h2, h3⟩ := fin _ _ ht (some_ok K r (n := 256) (by omega))
  have hb1 : Z3 (r.b.extract 0 256) = (pby r).take 256 := by rw [Xp, List.drop_zero]
  have hb2 : Z3 (r.b.extract 256 r.b.size) = (pby r).drop 256 := by rw [Xp, List.take_of_length_le (by rw [hsz]; exact Nat.le_refl _)]
  rw [hb1] at h3
  refine ⟨f, N, _, e, h1, h2, ?_, fun h => h, fun _ _ => ⟨list_len _ _, ?_⟩, fun z q hz hy hd => ⟨?_, ?_, hd⟩⟩
  ·show Z3 (r.b.extract 256 r.b.size) <:+ pby r
   rw [hb2]; exact List.drop_suffix _ _
  ·show pby r = Qx.list 256 f ++ Z3 (r.b.extract 256 r.b.size)
   rw [hb2, h3, List.take_append_drop]
  ·rw [h3, hy, List.take_left' hz]
  ·show Z3 (r.b.extract 256 r.b.size) = q
   rw [hb2, hy, List.drop_left' hz]
end Go.Rv
namespace Go.Rv
theorem codesS_nat (n : Nat) : ∃ C : Nat, Ys (n : Int) = (C : Int) ∧ C ≤ 27 := by
 refine ⟨(Ys (n : Int)).toNat, ?_, ?_⟩
 ·have : 0 ≤ Ys (n : Int) := by
   simp only [Ys]
   split
   ·omega
   ·split
    ·omega
    ·split
     ·omega
     ·split <;> omega
  omega
 ·have := Qbc (n : Int); omega
def stO (ps : List (List Int × List Int)) (j : Nat) (s : aSt) : Prop := ∃ (p : List Int × List Int) (zs : List (Int × List aMv)), ps[j]? = some p ∧ s = ⟨p.1, p.2, zs.map Prod.fst, zs.map Prod.snd⟩ ∧ zs.length ≤ 27 ∧ ∀ z ∈ zs, rwO z
def stV (ps : List (List Int × List Int)) (N : Nat) (j : Nat) (s : aSt) : Prop := ∃ (p : List Int × List Int) (zs : List (Int × List aMv)), ps[j]? = some p ∧ s = ⟨p.1, p.2, zs.map Prod.fst, zs.map Prod.snd⟩ ∧ (zs.length : Int) = Ys p.2.length ∧ ∀ z ∈ zs, rwV ps N z
theorem st2W_mk (l r : List Int) (zs : List (Int × List aMv)) : Da ⟨l, r, zs.map Prod.fst, zs.map Prod.snd⟩ = zs.flatMap rowW := by
 rw [Da, zip_maps]
def doneS (s : aSt) : Bool × aSt := (true, s)
def D3 (ps : List (List Int × List Int)) (acc : List aSt) : List (Bool × aSt) := acc.map doneS ++ (ps.drop acc.length).map Qa8
theorem nowS_len {ps : List (List Int × List Int)} {acc : List aSt} (h : acc.length ≤ ps.length) : (D3 ps acc).length = ps.length := by
 simp only [D3, List.length_append, List.length_map, List.length_drop]
 omega
theorem nowS_R {ps : List (List Int × List Int)} {acc : List aSt} (ho : ∀ j x, acc[j]? = some x → stO ps j x) : hasR ps (D3 ps acc) := by
 apply List.ext_getElem?
 intro j
 rw [List.getElem?_map, List.getElem?_map]
 rcases Nat.lt_or_ge j acc.length with hj | hj
 ·obtain ⟨p, zs, h1, h2, _⟩ := ho j _ (List.getElem?_eq_getElem hj)
  rw [D3, List.getElem?_append_left (by rw [List.length_map]; exact hj), List.getElem?_map, List.getElem?_eq_getElem hj, h1]
  simp only [Option.map_some, doneS, h2]
 ·rw [D3, List.getElem?_append_right (by rw [List.length_map]; exact hj), List.getElem?_map, List.length_map, List.getElem?_drop, show acc.length + (j - acc.length) = j by omega]
  cases ps[j]? with
  | none => rfl
  | some p => rfl
theorem nowS_get {ps : List (List Int × List Int)} {acc : List aSt} {p : List Int × List Int} (h : ps[acc.length]? = some p) : (D3 ps acc)[acc.length]? = some (Qa8 p) := by
 rw [D3, List.getElem?_append_right (by rw [List.length_map]; exact Nat.le_refl _), List.length_map, Nat.sub_self, List.getElem?_map, List.getElem?_drop, Nat.add_zero, h]
 rfl
theorem nowS_set {ps : List (List Int × List Int)} {acc : List aSt} {p : List Int × List Int} (h : ps[acc.length]? = some p) (s : aSt) : (D3 ps acc).set acc.length (doneS s) = D3 ps (acc ++ [s]) := by
 have hlt := (List.getElem?_eq_some_iff.1 h).1
 rw [D3, D3, List.set_append_right _ _ (by rw [List.length_map]; exact Nat.le_refl _), List.length_map, Nat.sub_self, List.drop_eq_getElem_cons hlt, List.map_cons, List.set_cons_zero, List.map_append, List.length_append, List.length_singleton, List.append_assoc]
 rfl
def finD (K : Nat) (f : Qx) (N : Nat) (cs : List Zb) (s : tbr) (acc : List aSt) : Option (aAu × Int) :=
 bif s.bad then some (⟨⟨Qx.mk fun _ => 0, 0⟩, [], []⟩, 6) else bif (decide ((s.b.size : Int) > 0)) then some (⟨⟨Qx.mk fun _ => 0, 0⟩, [], []⟩, 6) else
  (Gf K ⟨⟨f, (N : Int)⟩, cs, acc⟩).bind fun v => bif !v then some (⟨⟨Qx.mk fun _ => 0, 0⟩, [], []⟩, 6) else some (⟨⟨f, (N : Int)⟩, cs, acc⟩, 0)
theorem allT (K : Nat) (hK : BIG ≤ K) (ps : List (List Int × List Int)) (hp : ps.length ≤ 2097152 ∧ ∀ p ∈ ps, lrOk p) (f : Qx) (N : Nat) (hN : N ≤ 256) (cs : List Zb) (r : tbr) :
  ∃ (xs : List aSt) (r' : tbr), X9 K K (ps.length : Int) 0 (Qx.mk fun _ => 0) r.b r.bad f (N : Int) cs (ps.map Qa8) = finD K f N cs r' xs ∧ xs.length = ps.length ∧ (∀ j x, xs[j]? = some x → stO ps j x) ∧
   E9 pby pbd (fun l : List aSt => l.flatMap Da) (fun l => l.length = ps.length - 0 ∧ ∀ j x, l[j]? = some x → stV ps N (0 + j) x) True r xs r' := by
 have hK' := hK
 simp only [BIG] at hK
 obtain ⟨xs, r2, e2, hl, ho, t2⟩ := rdLoopI (y := pby) (d := pbd) (snd := True) (w := Da) (v := stV ps N) (ok := stO ps) ps.length (fun k i s acc => X9 K k (ps.length : Int) (i : Int) (Qx.mk fun _ => 0) s.b s.bad f (N : Int) cs (D3 ps acc)) (fun s acc => finD K f N cs s acc)
  (fun s acc k i hi ha hok => by
   subst ha
   have hp1 : ps[acc.length]? = some ps[acc.length] := List.getElem?_eq_getElem hi
   generalize ps[acc.length] = p at hp1
   have hlen : (D3 ps acc).length = ps.length := nowS_len (by omega)
   obtain ⟨C, hC, hC27⟩ := codesS_nat p.2.length
   obtain ⟨zs, s', e, ⟨hz, hzo⟩, t⟩ := rowsT K hK' ps hp (D3 ps acc) (nowS_R hok) acc.length (by omega) s C N hC27 hN f cs
   have hg : X4 (D3 ps acc) ((acc.length : Nat) : Int) = some (Qa8 p) := by
    have := nowS_get hp1
    obtain ⟨h1, h2⟩ := List.getElem?_eq_some_iff.1 this
    rw [Zf h1, h2]
   refine ⟨⟨p.1, p.2, zs.map Prod.fst, zs.map Prod.snd⟩, s', E9.map (w' := Da) (v' := stV ps N acc.length) (fun zs => aSt.mk p.1 p.2 (zs.map Prod.fst) (zs.map Prod.snd)) t (fun x hx => ⟨⟨p, x, hp1, rfl, by rw [hC, hx.1, Nat.sub_zero], hx.2⟩, st2W_mk _ _ _⟩) (fun z hz => ?_), ⟨p, zs, hp1, rfl, hz, hzo⟩, ?_⟩
   ·obtain ⟨p', zs', h1, h2, h3, h4⟩ := hz
    rw [hp1] at h1
    cases h1
    exact ⟨zs', h2.symm, by omega, h4⟩
   ·show X9 K (k + 1) (ps.length : Int) ((acc.length : Nat) : Int) (Qx.mk fun _ => 0) s.b s.bad f (N : Int) cs (D3 ps acc) = X9 K k (ps.length : Int) ((acc.length + 1 : Nat) : Int) (Qx.mk fun _ => 0) s'.b s'.bad f (N : Int) cs (D3 ps (acc ++ [⟨p.1, p.2, zs.map Prod.fst, zs.map Prod.snd⟩]))
    rw [X9]
    dsimp only
    rw [decide_eq_true (by omega), cT, hg, bS, Z1 (show (Qa8 p).1 = false from rfl)]
    show (Gg K (p.2.length : Int)).bind _ = _
    rw [autoCodes K (by omega) p.2.length, bS, hC]
    show (H4 K s (C : Int) (D3 ps acc) _ [] [] ⟨f, (N : Int)⟩ cs).bind _ = _
    rw [e, bS, Kz (n := acc.length) (by omega), Int.toNat_natCast, ← nowS_set hp1]
    rfl)
  (fun s acc k ha => by
   show X9 K (k + 1) (ps.length : Int) (ps.length : Int) (Qx.mk fun _ => 0) s.b s.bad f (N : Int) cs (D3 ps acc) = _
   have e : (D3 ps acc).map Prod.snd = acc := by
    rw [D3, ha, List.drop_length, List.map_nil, List.append_nil, List.map_map]
    exact (List.map_congr_left (fun x _ => rfl)).trans (List.map_id acc)
   rw [X9]
   dsimp only
   rw [Z7 (Nat.le_refl _), cF, e]
   rfl)
  ps.length K 0 r [] (by omega) (by omega) (by omega) rfl (fun j x hx => by simp at hx)
 rw [List.nil_append] at e2 hl ho
 refine ⟨xs, r2, ?_, hl, ho, t2⟩
 have e0 : D3 ps [] = ps.map Qa8 := by simp [D3]
 rw [← e0]
 exact e2
theorem splitF_top {f : Qx} : ∀ (m i : Nat) (n many : Int), Hb f m i n many = true → n ≤ many ∧ (∀ j, i ≤ j → j < i + m → f.f j < many) ∧ (n < many → ∃ j, i ≤ j ∧ j < i + m ∧ f.f j = many - 1) := by
 intro m
 induction m with
 | zero =>
  intro i n many h
  simp [Hb] at h
  exact ⟨by omega, fun j h1 h2 => by omega, fun h => by omega⟩
 | succ m ih =>
  intro i n many h
  simp only [Hb] at h
  split at h
  ·cases h
  ·split at h
   ·next h1 h2 =>
    obtain ⟨g1, g2, g3⟩ := ih _ _ _ h
    refine ⟨by omega, fun j h3 h4 => ?_, fun _ => ?_⟩
    ·rcases Nat.eq_or_lt_of_le h3 with h5 | h5
     ·subst h5; omega
     ·exact g2 j (by omega) (by omega)
    ·by_cases h5 : n + 1 < many
     ·obtain ⟨j, a, b, c⟩ := g3 h5
      exact ⟨j, by omega, by omega, c⟩
     ·exact ⟨i, by omega, by omega, by omega⟩
   ·next h1 h2 =>
    obtain ⟨g1, g2, g3⟩ := ih _ _ _ h
    refine ⟨g1, fun j h3 h4 => ?_, fun h5 => ?_⟩
    ·rcases Nat.eq_or_lt_of_le h3 with h6 | h6
     ·subst h6; omega
     ·exact g2 j (by omega) (by omega)
    ·obtain ⟨j, a, b, c⟩ := g3 h5
     exact ⟨j, by omega, by omega, c⟩
theorem many_max {a : aAu} (h : Yq a) (ho : Qah a) {N : Nat} (h1 : (N : Int) - 1 ∈ Qx.list 256 a.Split.Of) (h2 : ∀ x ∈ Qx.list 256 a.Split.Of, x ≤ (N : Int) - 1) : a.Split.Many = N := by
 obtain ⟨g1, g2, g3⟩ := splitF_top 256 0 0 a.Split.Many h.split
 have hm : ∀ j, j < 256 → a.Split.Of.f j ∈ Qx.list 256 a.Split.Of := fun j hj => List.mem_map.2 ⟨j, List.mem_range.2 hj, rfl⟩
 have h0 := ho.split 0 (by decide)
 have h3 := g2 0 (by omega) (by omega)
 obtain ⟨j, _, hj, e⟩ := g3 (by omega)
 have h4 := h2 _ (hm j (by omega))
 obtain ⟨i, hi, e2⟩ := List.mem_map.1 h1
 have h5 := g2 i (by omega) (by have := List.mem_range.1 hi; omega)
 omega
end Go.Rv
namespace Go.Rv
theorem bytesI_beq (s t : ByteArray) : (s.toList == t.toList) = decide (Z3 s = Z3 t) := by
 rw [Bool.eq_iff_iff, beq_iff_eq, decide_eq_true_eq, ByteArray.toList_eq, ByteArray.toList_eq]
 constructor
 ·intro h; rw [Z3, Z3, h]
 ·intro h
  have hinj : ∀ l m : List UInt8, l.map (fun x => (x.toNat : Int)) = m.map (fun x => (x.toNat : Int)) → l = m := by
   intro l
   induction l with
   | nil => intro m h; cases m with | nil => rfl | cons y m => simp at h
   | cons x l ih =>
    intro m h
    cases m with
    | nil => simp at h
    | cons y m =>
     simp only [List.map_cons, List.cons.injEq] at h
     rw [ih m h.2, UInt8.toNat_inj.1 (by omega : x.toNat = y.toNat)]
  exact hinj _ _ h
abbrev Sl : aAu := ⟨⟨Qx.mk fun _ => 0, 0⟩, [], []⟩
def lrOf (a : aAu) : List (List Int × List Int) := a.States.map fun s => (s.L, s.R)
theorem lrOf_W (a : aAu) : a.States.flatMap stW = (lrOf a).flatMap lrW := by
 rw [lrOf, List.flatMap_map]; rfl
theorem rise_in {l : List Int} {b : Int} (h : Iw l b = true) (hb : b ≤ 2097152) : ∀ x ∈ l, inN x := fun x hx => by
 have h1 := Qao _ _ h x hx
 have h2 := Ix _ _ h x hx
 exact ⟨by omega, by omega⟩
theorem Yq.lrV {a : aAu} (h : Yq a) : ∀ p ∈ lrOf a, Go.Rv.lrV p := fun p hp => by
 obtain ⟨s, hs, rfl⟩ := List.mem_map.1 hp
 have h' := M8.1 (h.st s hs)
 have hl := h'.ll
 have hr := h'.rl
 have hc := h.cl
 exact ⟨⟨by show s.L.length < _; omega, rise_in h'.l (by decide)⟩, by show s.R.length < _; omega, rise_in h'.r (by omega)⟩
theorem Yq.mvV {a : aAu} (h : Yq a) {s : aSt} {m : aMv} (hm : F8 a s m = true) : Go.Rv.mvV (lrOf a) m := by
 obtain ⟨⟨h1, h2, h3⟩, h4⟩ := h.goodM hm
 have hl : (lrOf a).length = a.States.length := List.length_map _
 have h5 : m.To < a.States.length := by
  simp only [F8] at hm
  split at hm
  ·have := h.s0; omega
  ·simp only [Bool.and_eq_true, decide_eq_true_eq] at hm
   have := hm.2.1
   omega
 have h6 := h.sl
 refine ⟨h1, by omega, by omega, ?_, h4⟩
 rw [h3, opsG, gR]
 split
 ·rfl
 ·simp only [Go.Rv.stR, lrOf, List.getElem?_map]
  cases a.States[m.To.toNat]? <;> rfl
theorem Yq.stV {a : aAu} (h : Yq a) {N : Nat} (hN : a.Split.Many = N) : ∀ j s, a.States[j]? = some s → Go.Rv.stV (lrOf a) N j s := fun j s hs => by
 have h' := M8.1 (h.st s (List.mem_of_getElem? hs))
 have h1 := h'.rule; have h2 := h'.next
 refine ⟨(s.L, s.R), s.Rule.zip s.Next, by rw [lrOf, List.getElem?_map, hs]; rfl, ?_, by rw [List.length_zip]; show _ = Ys s.R.length; omega, fun z hz => ?_⟩
 ·rw [List.map_fst_zip (by omega), List.map_snd_zip (by omega)]
 ·obtain ⟨c, hc, rfl⟩ := List.getElem_of_mem hz
  rw [List.length_zip] at hc
  rw [List.getElem_zip]
  obtain ⟨g0, g1, g2, g3⟩ := h'.row c (by omega) (by omega)
  exact ⟨⟨g0, by show s.Rule[c] < _; omega⟩, by show s.Next[c].length = N; omega, fun m hm => h.mvV (g3 m hm)⟩
theorem Yq.counts {a : aAu} (h : Yq a) : ∀ c ∈ a.Counts, inN c.a0 ∧ inN c.a1 := fun c hc => by
 have := h.cn c hc
 simp only [cntP, Bool.and_eq_true, Bool.not_eq_true', decide_eq_false_iff_not] at this
 exact ⟨⟨by omega, by omega⟩, by omega, by omega⟩
theorem right_same {a b : aAu} (h : sameS a b) (hr : Yq a) : Yq b := by
 obtain ⟨h1, h2, h3, h4⟩ := h
 have he : ∀ j, 0 ≤ j → j < 0 + 256 → a.Split.Of.f j = b.Split.Of.f j := fun j _ hj => by
  have h1 : (Qx.list 256 a.Split.Of)[j]? = (Qx.list 256 b.Split.Of)[j]? := by rw [h1]
  simpa [Qx.list, List.getElem?_range (show j < 256 by omega)] using h1
 obtain ⟨⟨f, n⟩, c, s⟩ := a
 obtain ⟨⟨g, m⟩, c', s'⟩ := b
 simp only at h2 h3 h4 he
 subst h2; subst h3; subst h4
 refine ⟨?_, hr.cl, hr.s0, hr.sl, hr.first, hr.cn, fun x hx => ?_⟩
 ·have := hr.split
  rw [Tp] at this ⊢
  rw [← Tq f g 256 0 0 n he]
  exact this
 ·have := M8.1 (hr.st x hx)
  exact M8.2 ⟨this.code, this.rule, this.next, this.l, this.r, fun c h h' => by
   obtain ⟨g0, g1, g2, g3⟩ := this.row c h h'
   exact ⟨g0, g1, g2, fun m hm => g3 m hm⟩⟩
theorem DecodeT (K : Nat) (hK : BIG ≤ K) (l : List Int) (hl : Xz l) : ∃ r, Ip K l = some r ∧ ((∃ a, r = (a, 0) ∧ Yq a ∧ Qah a ∧ D4 a K ∧ F9 a = l) ∨ (r = (Sl, 6) ∧ ∀ a, Yq a → Qah a → F9 a ≠ l)) := by
 have hby := bytesI_ofBytes hl
 have hsz : (ofBytes l).size = l.length := by rw [← Uh, hby]
 rw [Ip]
 have hmb : Z3 (⟨#[114, 100, 100, 108]⟩ : ByteArray) = Te := rfl
 by_cases hshort : (ofBytes l).size < 4
 ·have e4 : Wg K ⟨ofBytes l, false⟩ (4 : Int) = some (repS e00 ((4 : Nat) : Int), ⟨⟨#[]⟩, true⟩) := Rh K ⟨ofBytes l, false⟩ (n := 4) hshort (by decide)
  rw [e4, bS]
  dsimp only
  have hrb : Z3 (repS e00 ((4 : Nat) : Int)) = List.replicate 4 0 := by
   rw [Z3, Rn]; rfl
  rw [bytesI_beq, hmb, hrb, decide_eq_false (by decide), Bool.not_false, cT]
  refine ⟨_, rfl, .inr ⟨rfl, fun a _ _ h => ?_⟩⟩
  have := congrArg List.length h
  simp only [F9, Te, List.length_append, List.length_cons] at this
  omega
 have e4 : Wg K ⟨ofBytes l, false⟩ (4 : Int) = some ((ofBytes l).extract 0 4, ⟨(ofBytes l).extract 4 (ofBytes l).size, false⟩) := some_ok K ⟨ofBytes l, false⟩ (n := 4) (by show 4 ≤ (ofBytes l).size; omega)
 rw [e4, bS]
 dsimp only
 have h4 : Z3 ((ofBytes l).extract 0 4) = l.take 4 := by rw [Xp, hby, List.drop_zero]
 have h5 : Z3 ((ofBytes l).extract 4 (ofBytes l).size) = l.drop 4 := by rw [Xp, hby, hsz, List.take_length]
 rw [bytesI_beq, hmb, h4]
 by_cases hm : l.take 4 = Te
 ·rw [decide_eq_true hm, Bool.not_true, cF]
  have hlm : l = Te ++ l.drop 4 := by rw [← hm, List.take_append_drop]
  obtain ⟨f, N, r5, e5, hf, ⟨hN1, hN2, hN3, hN4⟩, t5⟩ := splitT K hK ⟨(ofBytes l).extract 4 (ofBytes l).size, false⟩
  have hK5 : 5 ≤ K := by simp only [BIG] at hK; omega
  obtain ⟨n, r6, e6, hn, t6⟩ := numT K hK5 r5
  obtain ⟨cs, r7, e7, ⟨hc1, hc2⟩, t7⟩ := countsT K hK r6 n hn ⟨f, (N : Int)⟩ []
  obtain ⟨m, r8, e8, hm8, t8⟩ := numT K hK5 r7
  obtain ⟨ps, r9, e9, hps, t9⟩ := statesT K hK r8 m hm8 ⟨f, (N : Int)⟩ cs
  obtain ⟨xs, r10, e10, hx1, hx2, t10⟩ := allT K hK ps hps f N hN2 cs r9
  have hKK := hK
  simp only [BIG] at hKK
  have hst : ∀ s ∈ xs, ∃ j, stO ps j s := fun s hs => by
   obtain ⟨j, hj⟩ := List.getElem?_of_mem hs
   exact ⟨j, hx2 j s hj⟩
  have hokay : Qah ⟨⟨f, (N : Int)⟩, cs, xs⟩ := ⟨hf, by show cs.length ≤ _; omega, by show xs.length ≤ _; have := hps.1; omega, fun s hs => by
   obtain ⟨j, p, zs, h1, rfl, h2, h3⟩ := hst s hs
   obtain ⟨⟨g1, _⟩, g2, _⟩ := hps.2 p (List.mem_of_getElem? h1)
   refine ⟨by show p.1.length ≤ _; omega, by show p.2.length ≤ _; omega, by rw [List.length_map]; omega, by rw [List.length_map]; omega, fun r hr => ?_⟩
   obtain ⟨z, hz, rfl⟩ := List.mem_map.1 hr
   obtain ⟨_, g3, g4⟩ := h3 z hz
   exact ⟨by omega, fun m hm => by have := (g4 m hm).2.2.1; omega⟩⟩
  have hbig : D4 ⟨⟨f, (N : Int)⟩, cs, xs⟩ K := ⟨by omega, by show cs.length < _; omega, by show xs.length < _; have := hps.1; omega, fun s hs => by
   obtain ⟨j, p, zs, h1, rfl, h2, h3⟩ := hst s hs
   obtain ⟨⟨g1, _⟩, g2, _⟩ := hps.2 p (List.mem_of_getElem? h1)
   refine ⟨by show p.1.length < _; omega, by show p.2.length < _; omega, by rw [List.length_map]; omega, fun r hr => ?_⟩
   obtain ⟨z, hz, rfl⟩ := List.mem_map.1 hr
   obtain ⟨_, g3, g4⟩ := h3 z hz
   exact ⟨by omega, fun m hm => by have := (g4 m hm).2.2.1; omega⟩⟩
  -- what was written is read
  have comp : ∀ z, Yq z → Qah z → F9 z = l → r10.bad = false ∧ pby r10 = [] ∧ Yq ⟨⟨f, (N : Int)⟩, cs, xs⟩ := fun z hz hzo he => by
   have h5' : pby ⟨(ofBytes l).extract 4 (ofBytes l).size, false⟩ = Qx.list 256 z.Split.Of ++ (U1 (z.Counts.length : Int) ++ (z.Counts.flatMap Tt ++ (U1 (z.States.length : Int) ++ (z.States.flatMap stW ++ z.States.flatMap Da)))) := by
    show Z3 ((ofBytes l).extract 4 (ofBytes l).size) = _
    rw [h5, ← he, F9, List.drop_left' (show Te.length = 4 from rfl)]
   obtain ⟨a1, a2, a3⟩ := t5.comp _ _ (list_len _ _) h5' rfl
   have hmany : z.Split.Many = N := many_max hz hzo (by rw [← a1]; exact hN3) (by rw [← a1]; exact hN4)
   have hcl := hz.cl
   obtain ⟨b1, b2, b3⟩ := t6.comp (z.Counts.length : Int) _ (show inN (z.Counts.length : Int) from ⟨by omega, by omega⟩) a2 a3
   obtain ⟨c1, c2, c3⟩ := t7.comp z.Counts _ ⟨by rw [b1]; simp, hz.counts⟩ b2 b3
   have hsl := hz.sl
   obtain ⟨d1, d2, d3⟩ := t8.comp (z.States.length : Int) _ (show inN (z.States.length : Int) from ⟨by omega, by omega⟩) c2 c3
   rw [lrOf_W] at d2
   have hll : (lrOf z).length = z.States.length := List.length_map _
   obtain ⟨f1, f2, f3⟩ := t9.comp (lrOf z) _ ⟨by rw [d1, hll]; simp, hz.lrV⟩ d2 d3
   rw [← List.append_nil (z.States.flatMap Da)] at f2
   obtain ⟨g1, g2, g3⟩ := t10.comp z.States [] ⟨by rw [f1, hll, Nat.sub_zero], fun j s hs => by rw [f1, Nat.zero_add]; exact hz.stV hmany j s hs⟩ f2 f3
   refine ⟨g3, g2, right_same ⟨a1.symm, hmany, c1.symm, g1.symm⟩ hz⟩
  rw [e5, bS, e6, bS, e7, bS, e8, bS, e9, bS]
  dsimp only
  rw [List.length_map, e10, finD]
  cases hb : r10.bad with
  | true =>
   rw [cT]
   refine ⟨_, rfl, .inr ⟨rfl, fun z h1 h2 h3 => ?_⟩⟩
   have := (comp z h1 h2 h3).1
   rw [hb] at this; cases this
  | false =>
   rw [cF]
   by_cases hs : 0 < r10.b.size
   ·rw [decide_eq_true (by omega), cT]
    refine ⟨_, rfl, .inr ⟨rfl, fun z h1 h2 h3 => ?_⟩⟩
    have := congrArg List.length (comp z h1 h2 h3).2.1
    rw [show (pby r10).length = r10.b.size from Uh _, List.length_nil] at this
    omega
   ·rw [decide_eq_false (by omega), cF, autoRight K _ hokay hbig, bS]
    by_cases hr : Fi ⟨⟨f, (N : Int)⟩, cs, xs⟩ = true
    ·rw [hr, Bool.not_true, cF]
     refine ⟨_, rfl, .inl ⟨_, rfl, rightS.1 hr, hokay, hbig, ?_⟩⟩
     obtain ⟨⟨v1, v2⟩, s10⟩ := t10.sound trivial hb
     obtain ⟨⟨v3, _⟩, s9⟩ := t9.sound trivial (t10.good hb)
     obtain ⟨_, s8⟩ := t8.sound trivial (t9.good (t10.good hb))
     obtain ⟨⟨v4, _⟩, s7⟩ := t7.sound trivial (t8.good (t9.good (t10.good hb)))
     obtain ⟨_, s6⟩ := t6.sound trivial (t7.good (t8.good (t9.good (t10.good hb))))
     obtain ⟨_, s5⟩ := t5.sound trivial (t6.good (t7.good (t8.good (t9.good (t10.good hb)))))
     have hend : pby r10 = [] := List.eq_nil_of_length_eq_zero (by rw [show (pby r10).length = r10.b.size from Uh _]; omega)
     have hlr : xs.flatMap stW = ps.flatMap lrW := by
      have e : lrOf ⟨⟨f, (N : Int)⟩, cs, xs⟩ = ps := by
       apply List.ext_getElem?
       intro j
       rw [lrOf, List.getElem?_map]
       cases hq : xs[j]? with
       | none =>
        have h1 := List.getElem?_eq_none_iff.1 hq
        rw [List.getElem?_eq_none (by omega)]
        rfl
       | some s =>
        obtain ⟨p, zs, h1, rfl, _⟩ := hx2 j s hq
        rw [h1]; rfl
      have := lrOf_W ⟨⟨f, (N : Int)⟩, cs, xs⟩
      rw [e] at this
      exact this
     have h5' : pby ⟨(ofBytes l).extract 4 (ofBytes l).size, false⟩ = l.drop 4 := h5
     rw [h5', s6, s7, s8, s9, s10, hend, List.append_nil] at s5
     have en : (cs.length : Int) = n := by have := hn.1; omega
     have em : (xs.length : Int) = m := by have := hm8.1; omega
     have ee : F9 ⟨⟨f, (N : Int)⟩, cs, xs⟩ = Te ++ (Qx.list 256 f ++ (U1 (cs.length : Int) ++ (cs.flatMap Tt ++ (U1 (xs.length : Int) ++ (xs.flatMap stW ++ xs.flatMap Da))))) := rfl
     rw [ee, hlr, en, em, ← s5, ← hlm]
    ·rw [Bool.not_eq_true] at hr
     rw [hr, Bool.not_false, cT]
     refine ⟨_, rfl, .inr ⟨rfl, fun z h1 h2 h3 => ?_⟩⟩
     have := rightS.2 (comp z h1 h2 h3).2.2
     rw [hr] at this; cases this
 ·rw [decide_eq_false hm, Bool.not_false, cT]
  refine ⟨_, rfl, .inr ⟨rfl, fun a _ _ h => hm ?_⟩⟩
  rw [← h, F9]
  rfl
end Go.Rv
