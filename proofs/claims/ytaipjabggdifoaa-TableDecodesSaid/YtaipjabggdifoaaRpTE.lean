/- Tables are read, plainly: readers, what they tell, and loops of them; numbers. -/
/- Tables are read, plainly: the program's readers. -/
/- Tables are read, plainly: the program's readers of lists, counts, states, moves. -/
/- Tables are read, plainly: the program's readers of moves, rows, and of what states do. -/
import Derived.Test.YtaipjabggdifoaaRpT9
namespace Go.Rv
theorem Gd (s : ByteArray) : Xz (Z3 s) := fun x hx => by
 obtain ⟨b, _, rfl⟩ := List.mem_map.1 hx
 have := b.toNat_lt
 omega
theorem bytesI_ofBytes {l : List Int} (h : Xz l) : Z3 (ofBytes l) = l := by
 have h1 := P8 l
 rw [ByteArray.toList_eq] at h1
 rw [Z3, h1, u8s, List.map_map]
 refine (List.map_congr_left fun x hx => ?_).trans (List.map_id l)
 have := h x hx
 simp only [Function.comp, id]
 rw [UInt8.toNat_ofNat_of_lt' (by show x.toNat < 256; omega)]
 omega
theorem Xp (s : ByteArray) (i j : Nat) : Z3 (s.extract i j) = ((Z3 s).take j).drop i := by
 simp only [Z3, ByteArray.data_extract, Array.toList_extract, List.extract, List.map_take, List.map_drop]
 rw [List.drop_take]
theorem bt_I {s : ByteArray} {i : Nat} {c : Int} (h : (Z3 s)[i]? = some c) : bt s (i : Int) = c := by
 rw [Z3, List.getElem?_map] at h
 simp only [bt, Int.toNat_natCast]
 cases hq : s.data.toList[i]? with
 | none => rw [hq] at h; cases h
 | some b => rw [hq] at h; cases h; rfl
structure E9 {σ β : Type} (y : σ → List Int) (d : σ → Bool) (w : β → List Int) (v : β → Prop) (snd : Prop) (s : σ) (x : β) (s' : σ) : Prop where
 tail : y s' <:+ y s
 bad : d s = true → d s' = true
 sound : snd → d s' = false → v x ∧ y s = w x ++ y s'
 comp : ∀ z r, v z → y s = w z ++ r → d s = false → x = z ∧ y s' = r ∧ d s' = false
section
variable {σ β γ ρ : Type} {y : σ → List Int} {d : σ → Bool} {snd : Prop}
theorem E9.good {w : β → List Int} {v : β → Prop} {s s' : σ} {x : β} (h : E9 y d w v snd s x s') (hd : d s' = false) : d s = false := by
 cases hq : d s with
 | false => rfl
 | true => rw [h.bad hq] at hd; cases hd
theorem E9.seq {w1 : β → List Int} {v1 : β → Prop} {w2 : γ → List Int} {v2 : β → γ → Prop} {s s1 s2 : σ} {a : β} {b : γ} (h1 : E9 y d w1 v1 snd s a s1) (h2 : E9 y d w2 (v2 a) snd s1 b s2) :
  E9 y d (fun p : β × γ => w1 p.1 ++ w2 p.2) (fun p => v1 p.1 ∧ v2 p.1 p.2) snd s (a, b) s2 where
 tail := h2.tail.trans h1.tail
 bad h := h2.bad (h1.bad h)
 sound hs hd := by
  obtain ⟨e1, e2⟩ := h1.sound hs (h2.good hd)
  obtain ⟨e3, e4⟩ := h2.sound hs hd
  exact ⟨⟨e1, e3⟩, by rw [e2, e4, List.append_assoc]⟩
 comp z r hv hy hd := by
  obtain ⟨z1, z2⟩ := z
  obtain ⟨hv1, hv2⟩ := hv
  simp only at hv1 hv2 hy
  rw [List.append_assoc] at hy
  obtain ⟨rfl, e2, e3⟩ := h1.comp z1 _ hv1 hy hd
  obtain ⟨rfl, e5, e6⟩ := h2.comp z2 _ hv2 e2 e3
  exact ⟨rfl, e5, e6⟩
theorem E9.map {w : β → List Int} {v : β → Prop} {w' : γ → List Int} {v' : γ → Prop} {s s' : σ} {x : β} (f : β → γ) (h : E9 y d w v snd s x s') (h1 : ∀ x, v x → v' (f x) ∧ w' (f x) = w x) (h2 : ∀ z, v' z → ∃ x, f x = z ∧ v x) : E9 y d w' v' snd s (f x) s' where
 tail := h.tail
 bad := h.bad
 sound hs hd := by
  obtain ⟨e1, e2⟩ := h.sound hs hd
  obtain ⟨e3, e4⟩ := h1 x e1
  exact ⟨e3, by rw [e4]; exact e2⟩
 comp z r hv hy hd := by
  obtain ⟨x', rfl, hv'⟩ := h2 z hv
  rw [(h1 x' hv').2] at hy
  obtain ⟨rfl, e2, e3⟩ := h.comp x' r hv' hy hd
  exact ⟨rfl, e2, e3⟩
theorem Iy {w : β → List Int} {v ok : Nat → β → Prop} {P : σ → Prop} (brk : σ → Bool) (hb : ∀ s, brk s = true → d s = true) (hP : ∀ s s', P s → y s' <:+ y s → P s') (n : Nat) (F : Nat → Nat → σ → List β → Option ρ) (fin : σ → List β → Option ρ)
  (step : ∀ s acc k i, P s → i < n → acc.length = i → (∀ j x, acc[j]? = some x → ok j x) → brk s = false → ∃ x s', E9 y d w (v i) snd s x s' ∧ ok i x ∧ F (k + 1) i s acc = F k (i + 1) s' (acc ++ [x]))
  (stop : ∀ s acc k i, i ≤ n → acc.length = i → (n ≤ i ∨ brk s = true) → F (k + 1) i s acc = fin s acc) :
  ∀ m k i s acc, n - i = m → i ≤ n → m < k → acc.length = i → (∀ j x, acc[j]? = some x → ok j x) → P s →
   ∃ xs s', F k i s acc = fin s' (acc ++ xs) ∧ (acc ++ xs).length ≤ n ∧ (brk s' = false → (acc ++ xs).length = n) ∧ (∀ j x, (acc ++ xs)[j]? = some x → ok j x) ∧ P s' ∧ E9 y d (fun l => l.flatMap w) (fun l => l.length = n - i ∧ ∀ j x, l[j]? = some x → v (i + j) x) snd s xs s' := by
 intro m
 induction m with
 | zero =>
  intro k i s acc hm hi hk ha hok hs
  obtain ⟨k, rfl⟩ : ∃ k', k = k' + 1 := ⟨k - 1, by omega⟩
  refine ⟨[], s, by rw [stop s acc k i hi ha (.inl (by omega)), List.append_nil], by rw [List.append_nil]; omega, fun _ => by rw [List.append_nil]; omega, by rwa [List.append_nil], hs, List.suffix_refl _, fun h => h, fun _ _ => ⟨⟨by simp; omega, fun j x h => by simp at h⟩, rfl⟩, fun z r hz hy hd => ?_⟩
  have : z = [] := List.eq_nil_of_length_eq_zero (by rw [hz.1]; exact hm)
  subst this
  exact ⟨rfl, by simpa using hy, hd⟩
 | succ m ih =>
  intro k i s acc hm hi hk ha hok hs
  obtain ⟨k, rfl⟩ : ∃ k', k = k' + 1 := ⟨k - 1, by omega⟩
  cases hd : brk s with
  | true =>
   have hds := hb s hd
   refine ⟨[], s, by rw [stop s acc k i hi ha (.inr hd), List.append_nil], by rw [List.append_nil]; omega, fun h => (by rw [hd] at h; cases h), by rwa [List.append_nil], hs, List.suffix_refl _, fun h => h, fun _ h => ?_, fun z r hz hy h => ?_⟩
   ·rw [hds] at h; cases h
   ·rw [hds] at h; cases h
  | false =>
   obtain ⟨x, s1, h1, hx, e1⟩ := step s acc k i hs (by omega) ha hok hd
   obtain ⟨xs, s2, e2, hl, hf, ho, hs2, h2⟩ := ih k (i + 1) s1 (acc ++ [x]) (by omega) (by omega) (by omega) (by rw [List.length_append, List.length_singleton]; omega) (fun j z hz => by
    rcases Nat.lt_or_ge j acc.length with hj | hj
    ·rw [List.getElem?_append_left hj] at hz
     exact hok j z hz
    ·rw [List.getElem?_append_right hj] at hz
     have hj2 := (List.getElem?_eq_some_iff.1 hz).1
     simp only [List.length_singleton] at hj2
     have e : j = i := by omega
     subst e
     rw [ha, Nat.sub_self] at hz
     simp at hz
     rw [← hz]
     exact hx) (hP s s1 hs h1.tail)
   rw [List.append_assoc, List.singleton_append] at e2 hl ho hf
   refine ⟨x :: xs, s2, by rw [e1, e2], hl, hf, ho, hs2, h2.tail.trans h1.tail, fun h => h2.bad (h1.bad h), fun hs hd2 => ?_, fun z r hz hy hd => ?_⟩
   ·obtain ⟨e3, e4⟩ := h1.sound hs (h2.good hd2)
    obtain ⟨⟨e5, e6⟩, e7⟩ := h2.sound hs hd2
    refine ⟨⟨by rw [List.length_cons]; omega, fun j z hz => ?_⟩, by rw [List.flatMap_cons, e4, e7, List.append_assoc]⟩
    cases j with
    | zero => simp at hz; subst hz; exact e3
    | succ j => rw [List.getElem?_cons_succ] at hz; have := e6 j z hz; rwa [show i + 1 + j = i + (j + 1) by omega] at this
   ·cases z with
    | nil => have := hz.1; simp at this; omega
    | cons z zs =>
     rw [List.flatMap_cons, List.append_assoc] at hy
     obtain ⟨rfl, e4, e5⟩ := h1.comp z _ (by simpa using hz.2 0 z rfl) hy hd
     obtain ⟨rfl, e7, e8⟩ := h2.comp zs r ⟨by have := hz.1; rw [List.length_cons] at this; omega, fun j q hq => by have := hz.2 (j + 1) q (by simpa using hq); rwa [show i + (j + 1) = i + 1 + j by omega] at this⟩ e4 e5
     exact ⟨rfl, e7, e8⟩
theorem E9.all {w : β → List Int} {v : β → Prop} {n i : Nat} {s s' : σ} {xs : List β} (h : E9 y d (fun l : List β => l.flatMap w) (fun l => l.length = n - i ∧ ∀ (j : Nat) (x : β), l[j]? = some x → v x) snd s xs s') : E9 y d (fun l => l.flatMap w) (fun l => l.length = n - i ∧ ∀ x ∈ l, v x) snd s xs s' :=
 h.map id (fun x hx => ⟨⟨hx.1, fun z hz => by obtain ⟨j, hj⟩ := List.getElem?_of_mem hz; exact hx.2 j z hj⟩, rfl⟩) (fun z hz => ⟨z, rfl, hz.1, fun j x hx => hz.2 x (List.mem_of_getElem? hx)⟩)
theorem rdLoop {w : β → List Int} {v ok : β → Prop} (n : Nat) (F : Nat → Nat → σ → List β → Option ρ) (fin : σ → List β → Option ρ)
  (step : ∀ s acc k i, i < n → acc.length = i → (∀ x ∈ acc, ok x) → d s = false → ∃ x s', E9 y d w v snd s x s' ∧ ok x ∧ F (k + 1) i s acc = F k (i + 1) s' (acc ++ [x]))
  (stop : ∀ s acc k i, (n ≤ i ∨ d s = true) → F (k + 1) i s acc = fin s acc) (m k i : Nat) (s : σ) (acc : List β) (hm : n - i = m) (hi : i ≤ n) (hk : m < k) (ha : acc.length = i) (hok : ∀ x ∈ acc, ok x) :
   ∃ xs s', F k i s acc = fin s' (acc ++ xs) ∧ (acc ++ xs).length ≤ n ∧ (∀ x ∈ acc ++ xs, ok x) ∧ E9 y d (fun l => l.flatMap w) (fun l => l.length = n - i ∧ ∀ x ∈ l, v x) snd s xs s' := by
 obtain ⟨xs, s', e, hl, _, ho, _, t⟩ := Iy (w := w) (v := fun _ => v) (ok := fun _ => ok) (P := fun _ => True) d (fun _ h => h) (fun _ _ h _ => h) n F fin
  (fun s acc k i _ hi ha ho hd => step s acc k i hi ha (fun x hx => by obtain ⟨j, hj⟩ := List.getElem?_of_mem hx; exact ho j x hj) hd) (fun s acc k i _ _ h => stop s acc k i h) m k i s acc hm hi hk ha (fun j x hx => hok x (List.mem_of_getElem? hx)) trivial
 exact ⟨xs, s', e, hl, fun x hx => by obtain ⟨j, hj⟩ := List.getElem?_of_mem hx; exact ho j x hj, t.all⟩
end
/- Numbers. -/
def inN (v : Int) : Prop := 0 ≤ v ∧ v < 2097152
instance (v : Int) : Decidable (inN v) := by unfold inN; infer_instance
def Qag : List Int → Option (Int × List Int)
 | [] => none
 | c0 :: l1 => if c0 < 128 then some (c0, l1) else match l1 with
  | [] => none
  | c1 :: l2 => if c1 < 128 then some (c0 - 128 + 128 * c1, l2) else match l2 with
   | [] => none
   | c2 :: l3 => if c2 < 128 then some (c0 - 128 + 128 * (c1 - 128) + 16384 * c2, l3) else none
theorem numB_1 {v : Int} (h0 : 0 ≤ v) (h1 : v < 128) : U1 v = [v] := by
 rw [U1, Ih, if_pos (by omega)]
 congr 1
 omega
theorem numB_2 {v : Int} (h0 : 128 ≤ v) (h1 : v < 16384) : U1 v = [v % 128 + 128, v / 128] := by
 rw [U1, Ih, if_neg (by omega), Ih, if_pos (by omega)]
 congr 1
 ·omega
 ·congr 1
  omega
theorem numB_3 {v : Int} (h0 : 16384 ≤ v) (h1 : v < 2097152) : U1 v = [v % 128 + 128, v / 128 % 128 + 128, v / 16384] := by
 rw [U1, Ih, if_neg (by omega), Ih, if_neg (by omega), Ih, if_pos (by omega)]
 congr 1
 ·omega
 ·congr 1
  ·omega
  ·congr 1
   omega
theorem Bv {v : Int} (h : inN v) (r : List Int) : Qag (U1 v ++ r) = some (v, r) := by
 obtain ⟨h0, h1⟩ := h
 by_cases a : v < 128
 ·rw [numB_1 h0 a]
  simp only [List.cons_append, List.nil_append, Qag, if_pos a]
 ·by_cases b : v < 16384
  ·rw [numB_2 (by omega) b]
   simp only [List.cons_append, List.nil_append, Qag]
   rw [if_neg (by omega), if_pos (by omega)]
   simp only [Option.some.injEq, Prod.mk.injEq, and_true]
   omega
  ·rw [numB_3 (by omega) h1]
   simp only [List.cons_append, List.nil_append, Qag]
   rw [if_neg (by omega), if_neg (by omega), if_pos (by omega)]
   simp only [Option.some.injEq, Prod.mk.injEq, and_true]
   omega
theorem numQ_in {l r : List Int} {v : Int} (hl : Xz l) (h : Qag l = some (v, r)) : inN v ∧ r <:+ l := by
 match l, hl, h with
 | c0 :: l1, hl, h =>
  have b0 := hl c0 (by simp)
  simp only [Qag] at h
  split at h
  ·cases h; exact ⟨⟨by omega, by omega⟩, List.suffix_cons _ _⟩
  ·split at h
   ·cases h
   ·next c1 l2 =>
    have b1 := hl c1 (by simp)
    split at h
    ·cases h; exact ⟨⟨by omega, by omega⟩, (List.suffix_cons _ _).trans (List.suffix_cons _ _)⟩
    ·split at h
     ·cases h
     ·next c2 l3 =>
      have b2 := hl c2 (by simp)
      split at h
      ·cases h; exact ⟨⟨by omega, by omega⟩, ((List.suffix_cons _ _).trans (List.suffix_cons _ _)).trans (List.suffix_cons _ _)⟩
      ·cases h
end Go.Rv
namespace Go.Rv
abbrev pby (r : tbr) : List Int := Z3 r.b
abbrev pbd (r : tbr) : Bool := r.bad
abbrev e00 : ByteArray := ⟨#[0]⟩
theorem Rn (n : Int) : (repS e00 n).data.toList = List.replicate n.toNat 0 := by
 have := Lib.repeatL_replicate 0 1 n.toNat
 rw [Nat.mul_one] at this
 exact this
theorem Qap (n : Int) : (repS e00 n).size = n.toNat := by
 have : (repS e00 n).data.toList.length = (repS e00 n).size := by rw [Array.length_toList]; rfl
 rw [← this, Rn, List.length_replicate]
theorem Rh (K : Nat) (r : tbr) {n : Nat} (h : r.b.size < n) (hn : n ≤ 140737488355328) : Wg K r (n : Int) = some (repS e00 (n : Int), ⟨⟨#[]⟩, true⟩) := by
 rw [Wg, decide_eq_true (by omega), cT, strings_Repeat, if_pos ⟨by omega, by omega, by rw [Int.toNat_natCast]; show 1 * n ≤ _; omega⟩]
 rfl
theorem some_ok (K : Nat) (r : tbr) {n : Nat} (h : n ≤ r.b.size) : Wg K r (n : Int) = some (r.b.extract 0 n, ⟨r.b.extract n r.b.size, r.bad⟩) := by
 rw [Wg, decide_eq_false (by omega), cF, Int.toNat_natCast, Z1 ⟨by omega, by omega, h⟩, Z1 ⟨by omega, h, Nat.le_refl _⟩]
theorem some1 (K : Nat) (r : tbr) : ∃ t r', Wg K r (1 : Int) = some (t, r') ∧ t.size = 1 ∧ ((pby r = [] ∧ bt t (0 : Int) = 0 ∧ r' = ⟨⟨#[]⟩, true⟩) ∨ ∃ c l, pby r = c :: l ∧ bt t (0 : Int) = c ∧ pby r' = l ∧ r'.bad = r.bad) := by
 have hsz := Uh r.b
 cases hq : pby r with
 | nil =>
  have h0 : r.b.size = 0 := by rw [← hsz]; show (pby r).length = 0; rw [hq]; rfl
  refine ⟨_, _, Rh K r (n := 1) (by omega) (by omega), ?_, .inl ⟨rfl, ?_, rfl⟩⟩
  ·rw [Qap]; rfl
  ·have : (Z3 (repS e00 ((1 : Nat) : Int)))[0]? = some 0 := by
    rw [Z3, Rn]; rfl
   exact bt_I this
 | cons c l =>
  have h0 : r.b.size = l.length + 1 := by rw [← hsz]; show (pby r).length = _; rw [hq]; rfl
  refine ⟨_, _, some_ok K r (n := 1) (by omega), ?_, .inr ⟨c, l, rfl, ?_, ?_, rfl⟩⟩
  ·rw [← Uh, Xp]
   show (((pby r).take 1).drop 0).length = 1
   rw [hq]; rfl
  ·refine bt_I (i := 0) ?_
   rw [Xp]
   show (((pby r).take 1).drop 0)[0]? = some c
   rw [hq]; rfl
  ·show Z3 (r.b.extract 1 r.b.size) = l
   rw [Xp]
   show ((pby r).take r.b.size).drop 1 = l
   rw [hq, h0]
   simp
theorem Qbi (n : Int) (h : 0 ≤ n ∧ n < 256) : bits .andNot .u8 n 128 = n % 128 := by
 have : (List.range 256).all (fun m => bits .andNot .u8 (m : Int) 128 == (m : Int) % 128) = true := by kernel_rfl
 have := beq_iff_eq.1 (List.all_eq_true.1 this n.toNat (List.mem_range.2 (by omega)))
 rw [Int.toNat_of_nonneg h.1] at this
 exact this
theorem or_add (n m : Int) (i : Nat) (hi : i ≤ 21) (h0 : 0 ≤ n) (h1 : n < 2 ^ i) (h2 : 0 ≤ m) (h3 : m < 2097152) (h4 : m % 2 ^ i = 0) : bits .or .i64 n m = n + m := by
 have hw : ∀ x : Int, 0 ≤ x → x < 2 ^ 21 → IntKind.i64.wrap x = x := fun x h0 h1 => w64 (by omega) (by omega)
 have hp : (2 : Int) ^ i ≤ 2 ^ 21 := by
  have := Nat.pow_le_pow_right (n := 2) (by decide) hi
  exact_mod_cast this
 have h5 := bits_join .i64 21 (by decide) hw i m n h2 h4 (by omega) h0 h1 (by omega)
 obtain ⟨a, rfl⟩ := Int.eq_ofNat_of_zero_le h0
 obtain ⟨b, rfl⟩ := Int.eq_ofNat_of_zero_le h2
 have ha : a < 2 ^ 21 := by omega
 have hb : b < 2 ^ 21 := by omega
 rw [(bits_nat .i64 21 (by decide) hw b a hb ha).2] at h5
 rw [(bits_nat .i64 21 (by decide) hw a b ha hb).2, Nat.or_comm, h5, Int.add_comm]
theorem more_0 (c : Int) (h : 0 ≤ c ∧ c < 256) : bits .or .i64 (0 : Int) (IntKind.i64.wrap ((IntKind.i64.wrap (bits .andNot .u8 c (128 : Int))) * 2 ^ min (Int.toNat (IntKind.i64.wrap ((7 : Int) * (0 : Int)))) IntKind.i64.bits)) = c % 128 := by
 have e : min (Int.toNat (IntKind.i64.wrap ((7 : Int) * 0))) IntKind.i64.bits = 0 := by decide
 rw [Qbi c h, e, w64 (n := c % 128) (by omega) (by omega), Int.pow_zero, Int.mul_one, w64 (n := c % 128) (by omega) (by omega), or_add 0 _ 0 (by decide) (by decide) (by decide) (by omega) (by omega) (by omega)]
 omega
theorem more_1 (n c : Int) (hn : 0 ≤ n ∧ n < 128) (h : 0 ≤ c ∧ c < 256) : bits .or .i64 n (IntKind.i64.wrap ((IntKind.i64.wrap (bits .andNot .u8 c (128 : Int))) * 2 ^ min (Int.toNat (IntKind.i64.wrap ((7 : Int) * (1 : Int)))) IntKind.i64.bits)) = n + 128 * (c % 128) := by
 have e : (2 : Int) ^ min (Int.toNat (IntKind.i64.wrap ((7 : Int) * 1))) IntKind.i64.bits = 128 := by decide
 rw [Qbi c h, e, w64 (n := c % 128) (by omega) (by omega), w64 (n := c % 128 * 128) (by omega) (by omega), or_add n _ 7 (by decide) hn.1 (by omega) (by omega) (by omega) (by omega)]
 omega
theorem more_2 (n c : Int) (hn : 0 ≤ n ∧ n < 16384) (h : 0 ≤ c ∧ c < 256) : bits .or .i64 n (IntKind.i64.wrap ((IntKind.i64.wrap (bits .andNot .u8 c (128 : Int))) * 2 ^ min (Int.toNat (IntKind.i64.wrap ((7 : Int) * (2 : Int)))) IntKind.i64.bits)) = n + 16384 * (c % 128) := by
 have e : (2 : Int) ^ min (Int.toNat (IntKind.i64.wrap ((7 : Int) * 2))) IntKind.i64.bits = 16384 := by decide
 rw [Qbi c h, e, w64 (n := c % 128) (by omega) (by omega), w64 (n := c % 128 * 16384) (by omega) (by omega), or_add n _ 14 (by decide) hn.1 (by omega) (by omega) (by omega) (by omega)]
 omega
theorem numT (K : Nat) (hK : 5 ≤ K) (r : tbr) : ∃ v r', K0 K r = some (v, r') ∧ inN v ∧ E9 pby pbd U1 inN True r v r' := by
 obtain ⟨k, rfl⟩ : ∃ k, K = k + 5 := ⟨K - 5, by omega⟩
 have hby : ∀ x ∈ pby r, 0 ≤ x ∧ x < 256 := Gd r.b
 -- what is told where something is wrong
 have wrong : ∀ v r', inN v → r'.bad = true → pby r' <:+ pby r → (∀ z q, inN z → pby r = U1 z ++ q → r.bad = false → False) → inN v ∧ E9 pby pbd U1 inN True r v r' := fun v r' h0 h1 h2 h3 =>
  ⟨h0, h2, fun _ => h1, fun _ h => (by rw [show pbd r' = r'.bad from rfl, h1] at h; cases h), fun z q hz hy hd => (h3 z q hz hy hd).elim⟩
 have right : ∀ v r', inN v → pby r = U1 v ++ pby r' → r'.bad = r.bad → inN v ∧ E9 pby pbd U1 inN True r v r' := fun v r' h0 h1 h2 =>
  ⟨h0, ⟨_, h1.symm⟩, fun h => h2.trans h, fun _ _ => ⟨h0, h1⟩, fun z q hz hy hd => by
   have e1 := Bv h0 (pby r')
   have e2 := Bv hz q
   rw [← h1] at e1
   rw [← hy, e1] at e2
   cases e2
   exact ⟨rfl, rfl, h2.trans hd⟩⟩
 have nope : Qag (pby r) = none → ∀ z q, inN z → pby r = U1 z ++ q → r.bad = false → False := fun h z q hz hy _ => by
  have := Bv hz q
  rw [← hy, h] at this
  cases this
 have ci0 : ((0 : Int) < 3) = True := by simp
 obtain ⟨t0, r0, e0, s0, h0⟩ := some1 (k + 5) r
 have m0 : (⟨r.b, r.bad⟩ : tbr) = r := rfl
 have w70 : (0 : Int) ≤ IntKind.i64.wrap ((7 : Int) * 0) := by decide
 have w71 : (0 : Int) ≤ IntKind.i64.wrap ((7 : Int) * 1) := by decide
 have w72 : (0 : Int) ≤ IntKind.i64.wrap ((7 : Int) * 2) := by decide
 have i1 : IntKind.i64.wrap ((0 : Int) + 1) = 1 := by decide
 have i2 : IntKind.i64.wrap ((1 : Int) + 1) = 2 := by decide
 have i3 : IntKind.i64.wrap ((2 : Int) + 1) = 3 := by decide
 rw [K0, H5]
 dsimp only
 rw [show decide ((0 : Int) < 3) = true from rfl, cT, m0, e0, bS]
 dsimp only
 rw [Z1 ⟨by decide, by rw [s0]; decide⟩, Z1 w70]
 rcases h0 with ⟨hl, hc, rfl⟩ | ⟨c0, l1, hl, hc, hl1, hb0⟩
 ·rw [hc, show decide ((0 : Int) < 128) = true from rfl, cT, cT, more_0 0 (by decide)]
  exact ⟨_, _, rfl, wrong _ _ (by decide) rfl (by rw [hl]; exact List.nil_suffix) (nope (by rw [hl]; rfl))⟩
 have b0 := hby c0 (by rw [hl]; simp)
 rw [hc, more_0 c0 b0, i1]
 by_cases d0 : c0 < 128
 ·rw [decide_eq_true d0, cT]
  have e : c0 % 128 = c0 := by omega
  have hout : ∀ f : Bool, f = r.bad → ∃ v r', H6 (k + 5) (c0 % 128) r0.b f = some (v, r') ∧ inN v ∧ E9 pby pbd U1 inN True r v r' := fun f hf =>
   ⟨_, _, rfl, right _ _ ⟨by omega, by omega⟩ (by rw [hl, e, numB_1 b0.1 d0, show pby ⟨r0.b, f⟩ = l1 from hl1]; rfl) hf⟩
  cases hbd : r0.bad with
  | true => rw [cT]; exact hout true (by rw [← hb0, hbd])
  | false =>
   rw [cF]
   cases (c0 == 0) with
   | true => rw [cT]; exact hout _ (by rw [← hb0, hbd]; rfl)
   | false => rw [cF]; exact hout _ (by rw [← hb0, hbd])
 rw [decide_eq_false d0, cF, H5]
 dsimp only
 obtain ⟨t1, r1, e1, s1, h1⟩ := some1 (k + 5) r0
 rw [show decide ((1 : Int) < 3) = true from rfl, cT, show (⟨r0.b, r0.bad⟩ : tbr) = r0 from rfl, e1, bS]
 dsimp only
 rw [Z1 ⟨by decide, by rw [s1]; decide⟩, Z1 w71]
 rcases h1 with ⟨hl', hc1, rfl⟩ | ⟨c1, l2, hl', hc1, hl2, hb1⟩
 ·rw [hc1, show decide ((0 : Int) < 128) = true from rfl, cT, cT, more_1 _ 0 ⟨by omega, by omega⟩ (by decide)]
  refine ⟨_, _, rfl, wrong _ _ ⟨by omega, by omega⟩ rfl List.nil_suffix (nope ?_)⟩
  rw [hl, ← hl1, hl']
  simp only [Qag, if_neg d0]
 rw [← hl1, hl'] at hl
 have b1 := hby c1 (by rw [hl]; simp)
 rw [hc1, more_1 _ c1 ⟨by omega, by omega⟩ b1, i2]
 by_cases d1 : c1 < 128
 ·rw [decide_eq_true d1, cT]
  have hq : Qag (pby r) = some (c0 - 128 + 128 * c1, l2) := by rw [hl]; simp only [Qag, if_neg d0, if_pos d1]
  by_cases z1 : c1 = 0
  ·-- longer than it must be
   subst z1
   have hno : ∀ z q, inN z → pby r = U1 z ++ q → r.bad = false → False := fun z q hz hy _ => by
    have e2 := Bv hz q
    rw [← hy, hq] at e2
    cases e2
    rw [numB_1 (by omega) (by omega), hl] at hy
    simp only [List.cons_append, List.nil_append, List.cons.injEq] at hy
    omega
   cases r1.bad with
   | true => rw [cT]; exact ⟨_, _, rfl, wrong _ _ ⟨by omega, by omega⟩ rfl (by rw [hl, show pby ⟨r1.b, true⟩ = l2 from hl2]; exact (List.suffix_cons _ _).trans (List.suffix_cons _ _)) hno⟩
   | false => rw [cF, show ((0 : Int) == 0) = true from rfl, cT, show decide ((1 : Int) > 0) = true from rfl]; exact ⟨_, _, rfl, wrong _ _ ⟨by omega, by omega⟩ rfl (by rw [hl, show pby ⟨r1.b, true⟩ = l2 from hl2]; exact (List.suffix_cons _ _).trans (List.suffix_cons _ _)) hno⟩
  ·have hout : ∀ f : Bool, f = r.bad → ∃ v r', H6 (k + 5) (c0 % 128 + 128 * (c1 % 128)) r1.b f = some (v, r') ∧ inN v ∧ E9 pby pbd U1 inN True r v r' := fun f hf =>
    ⟨_, _, rfl, right _ _ ⟨by omega, by omega⟩ (by
     rw [hl, numB_2 (by omega) (by omega), show pby ⟨r1.b, f⟩ = l2 from hl2]
     simp only [List.cons_append, List.nil_append, List.cons.injEq, and_true]
     omega) hf⟩
   have hbb : r1.bad = r.bad := hb1.trans hb0
   cases hbd : r1.bad with
   | true => rw [cT]; exact hout true (by rw [← hbb, hbd])
   | false =>
    have : (c1 == 0) = false := by simpa using z1
    rw [cF, this, cF]; exact hout _ (by rw [← hbb, hbd])
 rw [decide_eq_false d1, cF, H5]
 dsimp only
 obtain ⟨t2, r2, e2, s2, h2⟩ := some1 (k + 5) r1
 rw [show decide ((2 : Int) < 3) = true from rfl, cT, show (⟨r1.b, r1.bad⟩ : tbr) = r1 from rfl, e2, bS]
 dsimp only
 rw [Z1 ⟨by decide, by rw [s2]; decide⟩, Z1 w72]
 rcases h2 with ⟨hl'', hc2, rfl⟩ | ⟨c2, l3, hl'', hc2, hl3, hb2⟩
 ·rw [hc2, show decide ((0 : Int) < 128) = true from rfl, cT, cT, more_2 _ 0 ⟨by omega, by omega⟩ (by decide)]
  refine ⟨_, _, rfl, wrong _ _ ⟨by omega, by omega⟩ rfl List.nil_suffix (nope ?_)⟩
  rw [hl, ← hl2, hl'']
  simp only [Qag, if_neg d0, if_neg d1]
 rw [← hl2, hl''] at hl
 have b2 := hby c2 (by rw [hl]; simp)
 rw [hc2, more_2 _ c2 ⟨by omega, by omega⟩ b2, i3]
 by_cases d2 : c2 < 128
 ·rw [decide_eq_true d2, cT]
  have hq : Qag (pby r) = some (c0 - 128 + 128 * (c1 - 128) + 16384 * c2, l3) := by rw [hl]; simp only [Qag, if_neg d0, if_neg d1, if_pos d2]
  have htail : ∀ f : Bool, pby ⟨r2.b, f⟩ <:+ pby r := fun f => by
   rw [hl, show pby ⟨r2.b, f⟩ = l3 from hl3]
   exact ((List.suffix_cons _ _).trans (List.suffix_cons _ _)).trans (List.suffix_cons _ _)
  by_cases z2 : c2 = 0
  ·subst z2
   have hno : ∀ z q, inN z → pby r = U1 z ++ q → r.bad = false → False := fun z q hz hy _ => by
    have e2 := Bv hz q
    rw [← hy, hq] at e2
    cases e2
    by_cases zz : c1 = 128
    ·rw [numB_1 (by omega) (by omega), hl] at hy
     simp only [List.cons_append, List.nil_append, List.cons.injEq] at hy
     omega
    ·rw [numB_2 (by omega) (by omega), hl] at hy
     simp only [List.cons_append, List.nil_append, List.cons.injEq] at hy
     omega
   cases r2.bad with
   | true => rw [cT]; exact ⟨_, _, rfl, wrong _ _ ⟨by omega, by omega⟩ rfl (htail _) hno⟩
   | false => rw [cF, show ((0 : Int) == 0) = true from rfl, cT, show decide ((2 : Int) > 0) = true from rfl]; exact ⟨_, _, rfl, wrong _ _ ⟨by omega, by omega⟩ rfl (htail _) hno⟩
  ·have hout : ∀ f : Bool, f = r.bad → ∃ v r', H6 (k + 5) (c0 % 128 + 128 * (c1 % 128) + 16384 * (c2 % 128)) r2.b f = some (v, r') ∧ inN v ∧ E9 pby pbd U1 inN True r v r' := fun f hf =>
    ⟨_, _, rfl, right _ _ ⟨by omega, by omega⟩ (by
     rw [hl, numB_3 (by omega) (by omega), show pby ⟨r2.b, f⟩ = l3 from hl3]
     simp only [List.cons_append, List.nil_append, List.cons.injEq, and_true]
     omega) hf⟩
   have hbb : r2.bad = r.bad := hb2.trans (hb1.trans hb0)
   cases hbd : r2.bad with
   | true => rw [cT]; exact hout true (by rw [← hbb, hbd])
   | false =>
    have : (c2 == 0) = false := by simpa using z2
    rw [cF, this, cF]; exact hout _ (by rw [← hbb, hbd])
 rw [decide_eq_false d2, cF, H5]
 dsimp only
 rw [show decide ((3 : Int) < 3) = false from rfl, cF]
 refine ⟨_, _, rfl, wrong _ _ (by decide) rfl ?_ (nope ?_)⟩
 ·rw [hl, show pby ⟨r2.b, true⟩ = l3 from hl3]
  exact ((List.suffix_cons _ _).trans (List.suffix_cons _ _)).trans (List.suffix_cons _ _)
 ·rw [hl]
  simp only [Qag, if_neg d0, if_neg d1, if_neg d2]
end Go.Rv
namespace Go.Rv
abbrev BIG : Nat := 3000000
theorem rmN {b n : Nat} (hb : b ≤ 100) (h : n ≤ LIM) : roomy b n = true := Dn.2 (by
 refine ⟨by simp only [maxLen, LIM] at *; omega, ?_⟩
 have : n * b ≤ n * 100 := Nat.mul_le_mul_left n hb
 simp only [LIM] at h
 omega)
theorem Ng {v : Int} (h : inN v) : (v.toNat : Int) = v ∧ v.toNat < 2097152 := by
 obtain ⟨h0, h1⟩ := h
 omega
theorem listT (K : Nat) (hK : BIG ≤ K) (r : tbr) : ∃ l r', Nt K r = some (l, r') ∧ (l.length ≤ 2097152 ∧ ∀ x ∈ l, inN x) ∧ E9 pby pbd L9 (fun l => l.length < 2097152 ∧ ∀ x ∈ l, inN x) True r l r' := by
 simp only [BIG] at hK
 obtain ⟨n, r1, e1, hn, t1⟩ := numT K (by omega) r
 obtain ⟨hn1, hn2⟩ := Ng hn
 obtain ⟨xs, r2, e2, hl, ho, t2⟩ := rdLoop (y := pby) (d := pbd) (snd := True) (w := U1) (v := inN) (ok := inN) n.toNat (fun k i s acc => Yx K k n (i : Int) s.b s.bad acc) (fun s acc => some (s, acc))
  (fun s acc k i hi ha _ hd => by
   obtain ⟨v, s', e, hv, t⟩ := numT K (by omega) s
   refine ⟨v, s', t, hv, ?_⟩
   show Yx K (k + 1) n (i : Int) s.b s.bad acc = Yx K k n ((i + 1 : Nat) : Int) s'.b s'.bad (acc ++ [v])
   rw [Yx]
   dsimp only
   rw [decide_eq_true (by omega), cT, show s.bad = false from hd, Bool.not_false, cT, Ns, show (⟨s.b, false⟩ : tbr) = s by rw [← show s.bad = false from hd], e, bS, Z1 (rmN (by decide) (by simp only [List.length_singleton, LIM]; omega)), bS, Kz (n := i) (by omega)])
  (fun s acc k i h => by
   show Yx K (k + 1) n (i : Int) s.b s.bad acc = _
   rw [Yx]
   dsimp only
   by_cases hi : n.toNat ≤ i
   ·rw [decide_eq_false (by omega), cF]; rfl
   ·have hb : s.bad = true := h.resolve_left hi
    rw [decide_eq_true (by omega), cT, hb, Bool.not_true, cF, ← hb]; rfl)
  n.toNat K 0 r1 [] (by omega) (by omega) (by omega) rfl (fun x hx => by cases hx)
 rw [List.nil_append] at e2 hl ho
 refine ⟨xs, r2, ?_, ⟨by omega, ho⟩, (t1.seq (v2 := fun n l => l.length = n.toNat - 0 ∧ ∀ x ∈ l, inN x) t2).map Prod.snd ?_ ?_⟩
 ·rw [Nt, e1, bS, Cg]
  rw [show Yx K K n 0 r1.b r1.bad [] = _ from e2]
  rfl
 ·rintro ⟨m, l⟩ ⟨h1, h2, h3⟩
  obtain ⟨g1, g2⟩ := Ng h1
  simp only at h1 h2 h3
  refine ⟨⟨by show l.length < 2097152; omega, h3⟩, ?_⟩
  show L9 l = U1 m ++ l.flatMap U1
  rw [L9, show ((l.length : Nat) : Int) = m by omega]
 ·intro z hz
  exact ⟨((z.length : Int), z), rfl, ⟨by omega, by have := hz.1; omega⟩, by simp, hz.2⟩
theorem countT (K : Nat) (hK : BIG ≤ K) (r : tbr) (sp : aSp) (acc : List Zb) (sts : List (Bool × aSt)) (ha : acc.length ≤ 2097152) : ∃ c r', M7 K sp acc sts r = some (acc ++ [c], r') ∧ (inN c.a0 ∧ inN c.a1) ∧ E9 pby pbd Tt (fun c => inN c.a0 ∧ inN c.a1) True r c r' := by
 simp only [BIG] at hK
 obtain ⟨n, r1, e1, hn, t1⟩ := numT K (by omega) r
 obtain ⟨m, r2, e2, hm, t2⟩ := numT K (by omega) r1
 refine ⟨⟨n, m⟩, r2, ?_, ⟨hn, hm⟩, (t1.seq (v2 := fun _ => inN) t2).map (fun p => Zb.mk p.1 p.2) (fun p hp => ⟨hp, rfl⟩) (fun z hz => ⟨(z.a0, z.a1), rfl, hz⟩)⟩
 rw [M7, e1, bS, e2, bS, Z1 (rmN (by decide) (by simp only [List.length_singleton, LIM]; omega))]
def lrW (p : List Int × List Int) : List Int := L9 p.1 ++ L9 p.2
def lrV (p : List Int × List Int) : Prop := (p.1.length < 2097152 ∧ ∀ x ∈ p.1, inN x) ∧ p.2.length < 2097152 ∧ ∀ x ∈ p.2, inN x
def lrOk (p : List Int × List Int) : Prop := (p.1.length ≤ 2097152 ∧ ∀ x ∈ p.1, inN x) ∧ p.2.length ≤ 2097152 ∧ ∀ x ∈ p.2, inN x
def Qa8 (p : List Int × List Int) : Bool × aSt := (false, ⟨p.1, p.2, [], []⟩)
theorem stateT (K : Nat) (hK : BIG ≤ K) (r : tbr) (sp : aSp) (cs : List Zb) (acc : List (List Int × List Int)) (ha : acc.length ≤ 2097152) : ∃ p r', M6 K sp cs (acc.map Qa8) r = some ((acc ++ [p]).map Qa8, r') ∧ lrOk p ∧ E9 pby pbd lrW lrV True r p r' := by
 obtain ⟨n, r1, e1, hn, t1⟩ := listT K hK r
 obtain ⟨m, r2, e2, hm, t2⟩ := listT K hK r1
 refine ⟨(n, m), r2, ?_, ⟨hn, hm⟩, (t1.seq (v2 := fun _ (l : List Int) => l.length < 2097152 ∧ ∀ x ∈ l, inN x) t2)⟩
 rw [M6, e1, bS, e2, bS, Z1 (rmN (by decide) (by simp only [List.length_singleton, List.length_map, LIM]; omega)), List.map_append]
 rfl
theorem countsT (K : Nat) (hK : BIG ≤ K) (r : tbr) (n : Int) (hn : inN n) (sp : aSp) (sts : List (Bool × aSt)) : ∃ (cs : List Zb) (r' : tbr), Ij K r n sp [] sts = some (r', cs) ∧ (cs.length ≤ 2097152 ∧ ∀ c ∈ cs, inN c.a0 ∧ inN c.a1) ∧ E9 pby pbd (fun l : List Zb => l.flatMap Tt) (fun l => l.length = n.toNat - 0 ∧ ∀ c ∈ l, inN c.a0 ∧ inN c.a1) True r cs r' := by
 obtain ⟨hn1, hn2⟩ := Ng hn
 have hK' := hK
 simp only [BIG] at hK
 obtain ⟨xs, r2, e2, hl, ho, t2⟩ := rdLoop (y := pby) (d := pbd) (snd := True) (w := Tt) (v := fun c => inN c.a0 ∧ inN c.a1) (ok := fun c => inN c.a0 ∧ inN c.a1) n.toNat (fun k i s acc => Vy K k n (i : Int) s.b s.bad sp acc sts) (fun s acc => some (s, acc))
  (fun s acc k i hi ha _ hd => by
   obtain ⟨v, s', e, hv, t⟩ := countT K hK' s sp acc sts (by omega)
   refine ⟨v, s', t, hv, ?_⟩
   show Vy K (k + 1) n (i : Int) s.b s.bad sp acc sts = Vy K k n ((i + 1 : Nat) : Int) s'.b s'.bad sp (acc ++ [v]) sts
   rw [Vy]
   dsimp only
   rw [decide_eq_true (by omega), cT, show s.bad = false from hd, Bool.not_false, cT, show (⟨s.b, false⟩ : tbr) = s by rw [← show s.bad = false from hd], e, bS, Kz (n := i) (by omega)])
  (fun s acc k i h => by
   show Vy K (k + 1) n (i : Int) s.b s.bad sp acc sts = _
   rw [Vy]
   dsimp only
   by_cases hi : n.toNat ≤ i
   ·rw [decide_eq_false (by omega), cF]; rfl
   ·have hb : s.bad = true := h.resolve_left hi
    rw [decide_eq_true (by omega), cT, hb, Bool.not_true, cF, ← hb]; rfl)
  n.toNat K 0 r [] (by omega) (by omega) (by omega) rfl (fun x hx => by cases hx)
 rw [List.nil_append] at e2 hl ho
 refine ⟨xs, r2, ?_, ⟨by omega, ho⟩, t2⟩
 rw [Ij]
 exact e2
theorem statesT (K : Nat) (hK : BIG ≤ K) (r : tbr) (n : Int) (hn : inN n) (sp : aSp) (cs : List Zb) : ∃ (ps : List (List Int × List Int)) (r' : tbr), Kk K r n sp cs [] = some (r', ps.map Qa8) ∧ (ps.length ≤ 2097152 ∧ ∀ p ∈ ps, lrOk p) ∧ E9 pby pbd (fun l : List (List Int × List Int) => l.flatMap lrW) (fun l => l.length = n.toNat - 0 ∧ ∀ p ∈ l, lrV p) True r ps r' := by
 obtain ⟨hn1, hn2⟩ := Ng hn
 have hK' := hK
 simp only [BIG] at hK
 obtain ⟨xs, r2, e2, hl, ho, t2⟩ := rdLoop (y := pby) (d := pbd) (snd := True) (w := lrW) (v := lrV) (ok := lrOk) n.toNat (fun k i s acc => Xa K k n (i : Int) s.b s.bad sp cs (acc.map Qa8)) (fun s acc => some (s, acc.map Qa8))
  (fun s acc k i hi ha _ hd => by
   obtain ⟨v, s', e, hv, t⟩ := stateT K hK' s sp cs acc (by omega)
   refine ⟨v, s', t, hv, ?_⟩
   show Xa K (k + 1) n (i : Int) s.b s.bad sp cs (acc.map Qa8) = Xa K k n ((i + 1 : Nat) : Int) s'.b s'.bad sp cs ((acc ++ [v]).map Qa8)
   rw [Xa]
   dsimp only
   rw [decide_eq_true (by omega), cT, show s.bad = false from hd, Bool.not_false, cT, show (⟨s.b, false⟩ : tbr) = s by rw [← show s.bad = false from hd], e, bS, Kz (n := i) (by omega)])
  (fun s acc k i h => by
   show Xa K (k + 1) n (i : Int) s.b s.bad sp cs (acc.map Qa8) = _
   rw [Xa]
   dsimp only
   by_cases hi : n.toNat ≤ i
   ·rw [decide_eq_false (by omega), cF]; rfl
   ·have hb : s.bad = true := h.resolve_left hi
    rw [decide_eq_true (by omega), cT, hb, Bool.not_true, cF, ← hb]; rfl)
  n.toNat K 0 r [] (by omega) (by omega) (by omega) rfl (fun x hx => by cases hx)
 rw [List.nil_append] at e2 hl ho
 refine ⟨xs, r2, ?_, ⟨by omega, ho⟩, t2⟩
 rw [Kk]
 exact e2
end Go.Rv
namespace Go.Rv
section
variable {σ β ρ : Type} {y : σ → List Int} {d : σ → Bool} {snd : Prop}
theorem rdLoopI {w : β → List Int} {v ok : Nat → β → Prop} (n : Nat) (F : Nat → Nat → σ → List β → Option ρ) (fin : σ → List β → Option ρ)
  (step : ∀ s acc k i, i < n → acc.length = i → (∀ j x, acc[j]? = some x → ok j x) → ∃ x s', E9 y d w (v i) snd s x s' ∧ ok i x ∧ F (k + 1) i s acc = F k (i + 1) s' (acc ++ [x]))
  (stop : ∀ s acc k, acc.length = n → F (k + 1) n s acc = fin s acc) (m k i : Nat) (s : σ) (acc : List β) (hm : n - i = m) (hi : i ≤ n) (hk : m < k) (ha : acc.length = i) (hok : ∀ j x, acc[j]? = some x → ok j x) :
   ∃ xs s', F k i s acc = fin s' (acc ++ xs) ∧ (acc ++ xs).length = n ∧ (∀ j x, (acc ++ xs)[j]? = some x → ok j x) ∧ E9 y d (fun l => l.flatMap w) (fun l => l.length = n - i ∧ ∀ j x, l[j]? = some x → v (i + j) x) snd s xs s' := by
 obtain ⟨xs, s', e, _, hf, ho, _, t⟩ := Iy (w := w) (v := v) (ok := ok) (P := fun _ => True) (fun _ => false) (fun _ h => by cases h) (fun _ _ h _ => h) n F fin
  (fun s acc k i _ hi ha ho _ => step s acc k i hi ha ho) (fun s acc k i hi ha h => by
   rcases h with h | h
   ·have e : i = n := by omega
    subst e
    exact stop s acc k ha
   ·cases h) m k i s acc hm hi hk ha hok trivial
 exact ⟨xs, s', e, hf rfl, ho, t⟩
end
def gR (ps : List (List Int × List Int)) (t : Int) : Nat := if t = -1 then 0 else ((ps[t.toNat]?).map fun p => p.2.length).getD 0
def mvV (ps : List (List Int × List Int)) (m : aMv) : Prop := -1 ≤ m.To ∧ m.To < ps.length ∧ m.To < 2097151 ∧ m.Ops.length = gR ps m.To ∧ Xz m.Ops
def mvO (m : aMv) : Prop := -1 ≤ m.To ∧ m.To < 2097152 ∧ m.Ops.length ≤ 2097152 ∧ Xz m.Ops
def hasR (ps : List (List Int × List Int)) (x1 : List (Bool × aSt)) : Prop := x1.map (fun v => v.2.R) = ps.map Prod.snd
theorem moveT (K : Nat) (hK : BIG ≤ K) (ps : List (List Int × List Int)) (hp : ps.length ≤ 2097152 ∧ ∀ p ∈ ps, lrOk p) (x1 : List (Bool × aSt)) (hx : hasR ps x1) (a : Int) (b : List Int) (c : List (List aMv)) (r : tbr) :
  ∃ m r', Rf K r x1 a b c = some (m, r') ∧ mvO m ∧ E9 pby pbd Hm (mvV ps) True r m r' := by
 simp only [BIG] at hK
 obtain ⟨v, r1, e1, hv, t1⟩ := numT K (by omega) r
 have hv' := hv
 obtain ⟨h0, h1⟩ := hv'
 have hlen : x1.length = ps.length := by
  have := congrArg List.length hx
  simpa using this
 have ew : IntKind.i64.wrap (v - 1) = v - 1 := w64 (by omega) (by omega)
 have emW : ∀ z : aMv, -1 ≤ z.To → z.To < 2097151 → Hm z = U1 (z.To + 1) ++ z.Ops := fun z h1 h2 => by rw [Hm, w64 (by omega) (by omega)]
 -- what is known of what was written
 have known : ∀ z q, mvV ps z → pby r = Hm z ++ q → r.bad = false → v = z.To + 1 ∧ pby r1 = z.Ops ++ q ∧ r1.bad = false := fun z q hz hy hd => by
  have hh := hz.2.2.1
  rw [emW z hz.1 hh, List.append_assoc] at hy
  have hz1 := hz.1
  obtain ⟨e2, e3, e4⟩ := t1.comp (z.To + 1) _ ⟨by omega, by omega⟩ hy hd
  exact ⟨e2, e3, e4⟩
 rw [Rf, e1, bS]
 dsimp only
 rw [ew]
 by_cases c1 : (ps.length : Int) ≤ v - 1
 ·rw [decide_eq_true (by omega), cT]
  refine ⟨_, _, rfl, ⟨by show -1 ≤ v - 1; omega, by show v - 1 < _; omega, by simp, fun x hx => by cases hx⟩, t1.tail, fun _ => rfl, fun _ h => (by cases h), fun z q hz hy hd => ?_⟩
  have hzt := hz.2.1
  obtain ⟨e2, _, _⟩ := known z q hz hy hd
  omega
 ·rw [decide_eq_false (by omega), cF]
  by_cases c2 : 0 ≤ v - 1
  ·rw [decide_eq_true (by omega), cT]
   have hlt : (v - 1).toNat < x1.length := by omega
   have hlt2 : (v - 1).toNat < ps.length := by omega
   have hg : X4 x1 (v - 1) = some x1[(v - 1).toNat] := by
    have := Zf hlt
    rwa [show (((v - 1).toNat : Nat) : Int) = v - 1 by omega] at this
   have hR : x1[(v - 1).toNat].2.R = ps[(v - 1).toNat].2 := by
    have h1 : (x1.map fun v => v.2.R)[(v - 1).toNat]? = (ps.map Prod.snd)[(v - 1).toNat]? := by rw [hx]
    rw [List.getElem?_map, List.getElem?_map, List.getElem?_eq_getElem hlt, List.getElem?_eq_getElem hlt2] at h1
    exact Option.some.inj h1
   have hRl := (hp.2 _ (List.getElem_mem hlt2)).2.1
   have hgR : gR ps (v - 1) = ps[(v - 1).toNat].2.length := by
    rw [gR, if_neg (by omega), List.getElem?_eq_getElem hlt2]; rfl
   rw [hg, bS, hR]
   generalize hn : ps[(v - 1).toNat].2.length = n at *
   have hsz := Uh r1.b
   by_cases c3 : r1.b.size < n
   ·rw [Rh K r1 c3 (by omega), bS]
    dsimp only
    rw [Z1 (by rw [Qap]; omega)]
    have hrb : Z3 (repS e00 (n : Int)) = List.replicate n 0 := by
     rw [Z3, Rn, List.map_replicate, Int.toNat_natCast]; rfl
    refine ⟨_, _, rfl, ⟨by show -1 ≤ v - 1; omega, by show v - 1 < _; omega, by show (Z3 _).length ≤ _; rw [hrb, List.length_replicate]; omega, Gd _⟩, List.nil_suffix, fun _ => rfl, fun _ h => (by cases h), fun z q hz hy hd => ?_⟩
    exfalso
    obtain ⟨e2, e3, _⟩ := known z q hz hy hd
    have h3 := hz.2.2.2.1
    rw [show z.To = v - 1 by omega, hgR] at h3
    have := congrArg List.length e3
    rw [List.length_append, show (pby r1).length = r1.b.size from hsz] at this
    omega
   ·rw [some_ok K r1 (by omega), bS]
    dsimp only
    have hbt : Z3 (r1.b.extract 0 n) = (pby r1).take n := by rw [Xp, List.drop_zero]
    have hbr : Z3 (r1.b.extract n r1.b.size) = (pby r1).drop n := by
     rw [Xp, List.take_of_length_le (by rw [hsz]; exact Nat.le_refl _)]
    have hbl : ((pby r1).take n).length = n := by rw [List.length_take, show (pby r1).length = r1.b.size from hsz]; omega
    rw [Z1 (by rw [← Uh, hbt, hbl]; omega), hbt]
    refine ⟨_, _, rfl, ⟨by show -1 ≤ v - 1; omega, by show v - 1 < _; omega, by show ((pby r1).take n).length ≤ _; omega, fun x hx => Gd r1.b x (List.mem_of_mem_take hx)⟩, ?_, fun h => t1.bad h, fun _ h => ?_, fun z q hz hy hd => ?_⟩
    ·show Z3 (r1.b.extract n r1.b.size) <:+ pby r
     rw [hbr]
     exact (List.drop_suffix _ _).trans t1.tail
    ·obtain ⟨_, e3⟩ := t1.sound trivial (show pbd r1 = false from h)
     refine ⟨⟨by show -1 ≤ v - 1; omega, by show v - 1 < _; omega, by show v - 1 < _; omega, by show ((pby r1).take n).length = gR ps (v - 1); rw [hbl, hgR], fun x hx => Gd r1.b x (List.mem_of_mem_take hx)⟩, ?_⟩
     rw [emW _ (by show -1 ≤ v - 1; omega) (by show v - 1 < _; omega), e3]
     show U1 v ++ pby r1 = U1 (v - 1 + 1) ++ (pby r1).take n ++ Z3 (r1.b.extract n r1.b.size)
     rw [hbr, Int.sub_add_cancel, List.append_assoc, List.take_append_drop]
    ·obtain ⟨e2, e3, e4⟩ := known z q hz hy hd
     have h3 := hz.2.2.2.1
     rw [show z.To = v - 1 by omega, hgR] at h3
     refine ⟨?_, ?_, e4⟩
     ·obtain ⟨zt, zo⟩ := z
      simp only at e2 e3 h3
      rw [e3, List.take_left' h3]
      congr 1
      omega
     ·show Z3 (r1.b.extract n r1.b.size) = q
      rw [hbr, e3, List.drop_left' h3]
  ·rw [decide_eq_false (by omega), cF]
   have hv0 : v = 0 := by omega
   subst hv0
   refine ⟨_, _, rfl, ⟨by decide, by decide, by simp, fun x hx => by cases hx⟩, t1.tail, t1.bad, fun _ h => ?_, fun z q hz hy hd => ?_⟩
   ·obtain ⟨_, e3⟩ := t1.sound trivial h
    exact ⟨⟨by decide, by show (-1 : Int) < _; omega, by decide, rfl, fun x hx => by cases hx⟩, by rw [e3, Hm, show IntKind.i64.wrap (0 - 1 + 1) = 0 by decide, List.append_nil]⟩
   ·obtain ⟨e2, e3, e4⟩ := known z q hz hy hd
    have e5 : z.To = -1 := by omega
    have h3 := hz.2.2.2.1
    rw [gR, if_pos e5] at h3
    have h4 : z.Ops = [] := List.eq_nil_of_length_eq_zero h3
    obtain ⟨zt, zo⟩ := z
    simp only at e5 h4 e3
    subst e5; subst h4
    exact ⟨rfl, by simpa using e3, e4⟩
theorem movesT (K : Nat) (hK : BIG ≤ K) (ps : List (List Int × List Int)) (hp : ps.length ≤ 2097152 ∧ ∀ p ∈ ps, lrOk p) (x1 : List (Bool × aSt)) (hx : hasR ps x1) (a : Int) (b : List Int) (c : List (List aMv)) (r : tbr) (N : Nat) (hN : N ≤ 256) (sp : aSp) (cs : List Zb) :
  ∃ (ms : List aMv) (r' : tbr), Kj K r (N : Int) [] sp cs x1 a b c = some (r', ms) ∧ (ms.length ≤ 256 ∧ ∀ m ∈ ms, mvO m) ∧ E9 pby pbd (fun l : List aMv => l.flatMap Hm) (fun l => l.length = N - 0 ∧ ∀ m ∈ l, mvV ps m) True r ms r' := by
 have hK' := hK
 simp only [BIG] at hK
 obtain ⟨xs, r2, e2, hl, ho, t2⟩ := rdLoop (y := pby) (d := pbd) (snd := True) (w := Hm) (v := mvV ps) (ok := mvO) N (fun k i s acc => Y8 K k (N : Int) (i : Int) s.b s.bad acc sp cs x1 a b c) (fun s acc => some (s, acc))
  (fun s acc k i hi ha _ hd => by
   obtain ⟨v, s', e, hv, t⟩ := moveT K hK' ps hp x1 hx a b c s
   refine ⟨v, s', t, hv, ?_⟩
   show Y8 K (k + 1) (N : Int) (i : Int) s.b s.bad acc sp cs x1 a b c = Y8 K k (N : Int) ((i + 1 : Nat) : Int) s'.b s'.bad (acc ++ [v]) sp cs x1 a b c
   rw [Y8]
   dsimp only
   rw [decide_eq_true (by omega), cT, show s.bad = false from hd, Bool.not_false, cT, Mr, show (⟨s.b, false⟩ : tbr) = s by rw [← show s.bad = false from hd], e, bS, Z1 (rmN (by decide) (by simp only [List.length_singleton, LIM]; omega)), bS, Kz (n := i) (by omega)])
  (fun s acc k i h => by
   show Y8 K (k + 1) (N : Int) (i : Int) s.b s.bad acc sp cs x1 a b c = _
   rw [Y8]
   dsimp only
   by_cases hi : N ≤ i
   ·rw [decide_eq_false (by omega), cF]; rfl
   ·have hb : s.bad = true := h.resolve_left hi
    rw [decide_eq_true (by omega), cT, hb, Bool.not_true, cF, ← hb]; rfl)
  N K 0 r [] (by omega) (by omega) (by omega) rfl (fun x hx => by cases hx)
 rw [List.nil_append] at e2 hl ho
 refine ⟨xs, r2, ?_, ⟨by omega, ho⟩, t2⟩
 rw [Kj]
 exact e2
def rwV (ps : List (List Int × List Int)) (N : Nat) (p : Int × List aMv) : Prop := (-1 ≤ p.1 ∧ p.1 < 2097151) ∧ p.2.length = N ∧ ∀ m ∈ p.2, mvV ps m
def rwO (p : Int × List aMv) : Prop := (-1 ≤ p.1 ∧ p.1 < 2097152) ∧ p.2.length ≤ 256 ∧ ∀ m ∈ p.2, mvO m
theorem rowT (K : Nat) (hK : BIG ≤ K) (ps : List (List Int × List Int)) (hp : ps.length ≤ 2097152 ∧ ∀ p ∈ ps, lrOk p) (x1 : List (Bool × aSt)) (hx : hasR ps x1) (i : Nat) (hi : i < x1.length) (acc : List (Int × List aMv)) (ha : acc.length ≤ 1000) (r : tbr) (N : Nat) (hN : N ≤ 256) (f : Qx) (cs : List Zb) :
  ∃ p r', M5 K x1 (i : Int) (acc.map Prod.fst) (acc.map Prod.snd) r ⟨f, (N : Int)⟩ cs = some ((acc ++ [p]).map Prod.fst, (acc ++ [p]).map Prod.snd, r') ∧ rwO p ∧ E9 pby pbd rowW (rwV ps N) True r p r' := by
 have hK' := hK
 simp only [BIG] at hK
 obtain ⟨v, r1, e1, hv, t1⟩ := numT K (by omega) r
 have hv' := hv
 obtain ⟨h0, h1⟩ := hv'
 have ew : IntKind.i64.wrap (v - 1) = v - 1 := w64 (by omega) (by omega)
 obtain ⟨ms, r2, e2, ⟨hl, ho⟩, t2⟩ := movesT K hK' ps hp x1 hx (i : Int) (acc.map Prod.fst ++ [v - 1]) (acc.map Prod.snd) r1 N hN ⟨f, (N : Int)⟩ cs
 refine ⟨(v - 1, ms), r2, ?_, ⟨⟨by show -1 ≤ v - 1; omega, by show v - 1 < _; omega⟩, hl, ho⟩, (t1.seq (v2 := fun _ l => l.length = N - 0 ∧ ∀ m ∈ l, mvV ps m) t2).map (fun p => (p.1 - 1, p.2)) ?_ ?_⟩
 ·rw [M5, Zf hi, bS, e1, bS]
  dsimp only
  rw [ew, Z1 (rmN (by decide) (by simp only [List.length_singleton, List.length_map, LIM]; omega)), e2, bS, Z1 (rmN (by decide) (by simp only [List.length_singleton, List.length_map, LIM]; omega)), List.map_append, List.map_append]
  rfl
 ·rintro ⟨u, l⟩ ⟨⟨g1, g2⟩, g3, g4⟩
  simp only at g1 g2 g3 g4
  refine ⟨⟨⟨by show -1 ≤ u - 1; omega, by show u - 1 < _; omega⟩, by show l.length = N; omega, g4⟩, ?_⟩
  show U1 (IntKind.i64.wrap (u - 1 + 1)) ++ l.flatMap Hm = U1 u ++ l.flatMap Hm
  rw [w64 (by omega) (by omega), Int.sub_add_cancel]
 ·rintro ⟨u, l⟩ ⟨⟨g1, g2⟩, g3, g4⟩
  simp only at g1 g2 g3 g4
  exact ⟨(u + 1, l), by show (u + 1 - 1, l) = (u, l); rw [Int.add_sub_cancel], ⟨by show 0 ≤ u + 1; omega, by show u + 1 < _; omega⟩, by show l.length = N - 0; omega, g4⟩
theorem rowsT (K : Nat) (hK : BIG ≤ K) (ps : List (List Int × List Int)) (hp : ps.length ≤ 2097152 ∧ ∀ p ∈ ps, lrOk p) (x1 : List (Bool × aSt)) (hx : hasR ps x1) (j : Nat) (hj : j < x1.length) (r : tbr) (C N : Nat) (hC : C ≤ 27) (hN : N ≤ 256) (f : Qx) (cs : List Zb) :
  ∃ (zs : List (Int × List aMv)) (r' : tbr), H4 K r (C : Int) x1 (j : Int) [] [] ⟨f, (N : Int)⟩ cs = some (r', zs.map Prod.fst, zs.map Prod.snd) ∧ (zs.length ≤ 27 ∧ ∀ z ∈ zs, rwO z) ∧ E9 pby pbd (fun l : List (Int × List aMv) => l.flatMap rowW) (fun l => l.length = C - 0 ∧ ∀ z ∈ l, rwV ps N z) True r zs r' := by
 have hK' := hK
 simp only [BIG] at hK
 obtain ⟨xs, r2, e2, hl, ho, t2⟩ := rdLoop (y := pby) (d := pbd) (snd := True) (w := rowW) (v := rwV ps N) (ok := rwO) C (fun k i s acc => Y9 K k (C : Int) (i : Int) s.b s.bad (j : Int) x1 (acc.map Prod.fst) (acc.map Prod.snd) ⟨f, (N : Int)⟩ cs) (fun s acc => some (s, acc.map Prod.fst, acc.map Prod.snd))
  (fun s acc k i hi ha _ hd => by
   obtain ⟨v, s', e, hv, t⟩ := rowT K hK' ps hp x1 hx j hj acc (by omega) s N hN f cs
   refine ⟨v, s', t, hv, ?_⟩
   show Y9 K (k + 1) (C : Int) (i : Int) s.b s.bad (j : Int) x1 (acc.map Prod.fst) (acc.map Prod.snd) ⟨f, (N : Int)⟩ cs = Y9 K k (C : Int) ((i + 1 : Nat) : Int) s'.b s'.bad (j : Int) x1 ((acc ++ [v]).map Prod.fst) ((acc ++ [v]).map Prod.snd) ⟨f, (N : Int)⟩ cs
   rw [Y9]
   dsimp only
   rw [decide_eq_true (by omega), cT, show s.bad = false from hd, Bool.not_false, cT, show (⟨s.b, false⟩ : tbr) = s by rw [← show s.bad = false from hd], e, bS, Kz (n := i) (by omega)])
  (fun s acc k i h => by
   show Y9 K (k + 1) (C : Int) (i : Int) s.b s.bad (j : Int) x1 (acc.map Prod.fst) (acc.map Prod.snd) ⟨f, (N : Int)⟩ cs = _
   rw [Y9]
   dsimp only
   by_cases hi : C ≤ i
   ·rw [decide_eq_false (by omega), cF]; rfl
   ·have hb : s.bad = true := h.resolve_left hi
    rw [decide_eq_true (by omega), cT, hb, Bool.not_true, cF, ← hb]; rfl)
  C K 0 r [] (by omega) (by omega) (by omega) rfl (fun x hx => by cases hx)
 rw [List.nil_append] at e2 hl ho
 refine ⟨xs, r2, ?_, ⟨by omega, ho⟩, t2⟩
 rw [H4]
 exact e2
end Go.Rv
