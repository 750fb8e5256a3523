/- Patterns, plainly: trees, their nodes, and what a text is read as. -/
import Derived.Test.YtocjhbbldeankaaDoorRpSA
import Derived.Laws.BitsLemmas
namespace Go.Rv
def bs (s : ByteArray) : List Nat := s.data.toList.map UInt8.toNat
def toB (l : List Nat) : ByteArray := ⟨(l.map UInt8.ofNat).toArray⟩
theorem bs_len (s : ByteArray) : (bs s).length = s.size := by
 rw [bs, List.length_map]
 rfl
theorem bs_lt {s : ByteArray} {c : Nat} (h : c ∈ bs s) : c < 256 := by
 obtain ⟨b, _, rfl⟩ := List.mem_map.1 h
 exact b.toNat_lt
theorem bs_toB {l : List Nat} (h : ∀ c ∈ l, c < 256) : bs (toB l) = l := by
 simp only [bs, toB, List.map_map]
 have : l.map (UInt8.toNat ∘ UInt8.ofNat) = l.map id := List.map_congr_left fun c hc => by
  have := h c hc
  simp only [Function.comp, id]
  exact Nat.mod_eq_of_lt this
 rw [this, List.map_id]
theorem toB_bs (s : ByteArray) : toB (bs s) = s := by
 apply ByteArray.ext
 simp only [toB, bs, List.map_map]
 have : s.data.toList.map (UInt8.ofNat ∘ UInt8.toNat) = s.data.toList.map id := List.map_congr_left fun c _ => by simp
 rw [this, List.map_id, Array.toArray_toList]
theorem toB_size (l : List Nat) : (toB l).size = l.length := by simp [toB, ByteArray.size]
theorem toB_append (l m : List Nat) : toB (l ++ m) = toB l ++ toB m := by
 apply ByteArray.ext
 rw [ByteArray.data_append]
 simp [toB]
theorem bs_append (s t : ByteArray) : bs (s ++ t) = bs s ++ bs t := by
 simp [bs, ByteArray.data_append]
theorem bs_extract (s : ByteArray) (i j : Nat) : bs (s.extract i j) = ((bs s).take j).drop i := by
 simp only [bs, ByteArray.data_extract, Array.toList_extract, List.extract, List.map_take, List.map_drop]
 rw [List.drop_take]
theorem bt_bs (s : ByteArray) (i : Nat) : bt s (i : Int) = (((bs s)[i]?.getD 0 : Nat) : Int) := by
 simp only [bt, bs, Int.toNat_natCast, List.getElem?_map]
 cases s.data.toList[i]? <;> rfl
inductive Pt where
 | empty
 | set (s : Arr4)
 | ref (nm : List Nat)
 | rep (t : Pt) (lo hi : Int)
 | cat (f : Pt)
 | alt (f : Pt)
 | nil
 | cons (t f : Pt)
 deriving DecidableEq
def Pt.sz : Pt → Nat
 | .empty => 1
 | .set _ => 1
 | .ref _ => 1
 | .rep t _ _ => t.sz + 1
 | .cat f => f.sz + 1
 | .alt f => f.sz + 1
 | .nil => 0
 | .cons t f => t.sz + f.sz
abbrev z4 : Arr4 := ⟨0, 0, 0, 0⟩
abbrev noB : ByteArray := ⟨#[]⟩
def Pt.roots : Nat → Pt → List Int
 | n, .cons t f => (((n + t.sz : Nat) : Int) - 1) :: f.roots (n + t.sz)
 | _, _ => []
def Pt.flat : Nat → Pt → List aNd
 | _, .empty => [⟨1, z4, [], 0, 0, noB⟩]
 | _, .set s => [⟨2, s, [], 0, 0, noB⟩]
 | _, .ref nm => [⟨6, z4, [], 0, 0, toB nm⟩]
 | n, .rep t lo hi => t.flat n ++ [⟨5, z4, [((n + t.sz : Nat) : Int) - 1], lo, hi, noB⟩]
 | n, .cat f => f.flat n ++ [⟨3, z4, f.roots n, 0, 0, noB⟩]
 | n, .alt f => f.flat n ++ [⟨4, z4, f.roots n, 0, 0, noB⟩]
 | _, .nil => []
 | n, .cons t f => t.flat n ++ f.flat (n + t.sz)
theorem Pt.flat_len : ∀ (t : Pt) (n : Nat), (t.flat n).length = t.sz
 | .empty, _ => rfl
 | .set _, _ => rfl
 | .ref _, _ => rfl
 | .rep t _ _, n => by simp [flat, sz, t.flat_len n]
 | .cat f, n => by simp [flat, sz, f.flat_len n]
 | .alt f, n => by simp [flat, sz, f.flat_len n]
 | .nil, _ => rfl
 | .cons t f, n => by simp [flat, sz, t.flat_len n, f.flat_len]
def Pt.len : Pt → Nat
 | .cons _ f => f.len + 1
 | _ => 0
theorem Pt.roots_len : ∀ (f : Pt) (n : Nat), (f.roots n).length = f.len
 | .cons t f, n => by simp [roots, len, f.roots_len]
 | .empty, _ => rfl
 | .set _, _ => rfl
 | .ref _, _ => rfl
 | .rep _ _ _, _ => rfl
 | .cat _, _ => rfl
 | .alt _, _ => rfl
 | .nil, _ => rfl
/- Bytes. -/
def letterN (c : Nat) : Bool := (decide (97 ≤ c) && decide (c ≤ 122)) || (decide (65 ≤ c) && decide (c ≤ 90)) || c == 95
def isDig (c : Nat) : Bool := decide (48 ≤ c) && decide (c ≤ 57)
def specN (c : Nat) : Bool := [124, 42, 43, 63, 123, 125, 40, 41, 91, 93, 46, 92, 47, 36, 94, 34].contains c
def markN (c : Nat) : Bool := [93, 45, 94].contains c
def hexN (c : Nat) : Option Nat := if 48 ≤ c ∧ c ≤ 57 then some (c - 48) else if 97 ≤ c ∧ c ≤ 102 then some (c - 87) else none
def nameOk (l : List Nat) : Bool := (l.all fun c => letterN c || isDig c) && (match l with | [] => false | c :: _ => letterN c) && decide (l.length ≤ 32)
def digNext (l : List Nat) : Bool := match l with | [] => false | c :: _ => isDig c
inductive Re (α : Type) where
 | ok (a : α) (r : List Nat)
 | err (k : Nat) (w : List Nat)
def pPair (w : List Nat) : List Nat → Re Nat
 | x :: y :: r => match hexN x, hexN y with
  | some a, some b => .ok (16 * a + b) r
  | _, _ => .err 43 w
 | _ => .err 40 []
def pEsc (w : List Nat) : List Nat → Re Nat
 | [] => .err 40 []
 | c :: r => if c = 110 then .ok 10 r else if c = 116 then .ok 9 r else if c = 114 then .ok 13 r else if c = 120 then pPair w r
  else if c = 45 ∨ specN c = true then .ok c r else .err 43 w
def pOne : List Nat → Re Nat
 | [] => .err 40 []
 | c :: r => if c = 92 then pEsc (c :: r) r else .ok c r
def numF : Int → List Nat → Int
 | n, [] => n
 | n, c :: l => numF (if (4097 : Int) < 10 * n + ((c : Int) - 48) then 4097 else 10 * n + ((c : Int) - 48)) l
def numV (ds : List Nat) : Int := if 6 < ds.length ∨ (1 < ds.length ∧ ds.head? = some 48) then -1 else numF 0 ds
def pFin (w : List Nat) (lo hi : Int) (bad : Bool) : List Nat → Re (Int × Int)
 | [] => .err 40 []
 | c :: r => if c ≠ 125 then .err 41 (c :: r) else if bad = true ∨ 4096 < lo ∨ 4096 < hi ∨ hi = 0 ∨ (0 < hi ∧ hi < lo) then .err 45 w else .ok (lo, hi) r
def pBounds (w l : List Nat) : Re (Int × Int) :=
 match l.dropWhile isDig with
 | 44 :: r => if digNext r = true then pFin w (numV (l.takeWhile isDig)) (numV (r.takeWhile isDig)) (decide (numV (l.takeWhile isDig) < 0) || decide (numV (r.takeWhile isDig) < 0)) (r.dropWhile isDig)
  else pFin w (numV (l.takeWhile isDig)) (-1) (decide (numV (l.takeWhile isDig) < 0)) r
 | r => pFin w (numV (l.takeWhile isDig)) (numV (l.takeWhile isDig)) (decide (numV (l.takeWhile isDig) < 0)) r
def pTimes : List Nat → Option (Re (Int × Int))
 | [] => none
 | c :: r => if c = 42 then some (.ok (0, -1) r) else if c = 43 then some (.ok (1, -1) r) else if c = 63 then some (.ok (0, 1) r)
  else if c = 123 ∧ digNext r = true then some (pBounds (c :: r) r) else none
def pMember : List Nat → Re Nat
 | [] => .err 40 []
 | c :: r => if markN c = true then .err 44 (c :: r) else pOne (c :: r)
def pSpan (l : List Nat) : Re (Nat × Nat) :=
 match pMember l with
 | .err k w => .err k w
 | .ok lo (45 :: r) => match pMember r with
  | .err k w => .err k w
  | .ok hi r2 => if hi < lo then .err 44 r else .ok (lo, hi) r2
 | .ok lo r => .ok (lo, lo) r
def pName (l : List Nat) : Re Pt :=
 match l.dropWhile (fun c => c != 125) with
 | [] => .err 40 []
 | _ :: r => if nameOk (l.takeWhile fun c => c != 125) = true then .ok (.ref (l.takeWhile fun c => c != 125)) r else .err 41 l
def pLeaf : List Nat → Re Pt
 | [] => .err 40 []
 | c :: r => if c = 46 then .ok (.set (st fun b => !(b == 10))) r
  else if c = 123 ∧ digNext r = false then pName r
  else if c = 47 ∨ c = 36 then .err 42 (c :: r)
  else if c ≠ 92 ∧ specN c = true then .err 41 (c :: r)
  else match pOne (c :: r) with
   | .ok b r => .ok (.set (st fun x => x == b)) r
   | .err k w => .err k w
def stopN (l : List Nat) : Bool := match l with | [] => true | c :: _ => c == 124 || c == 41
def joinA (t f : Pt) : Pt := match f with | .nil => t | f => .alt (.cons t f)
def joinR (f : Pt) : Pt := match f with | .nil => .empty | .cons t .nil => t | f => .cat f
inductive Goal where
 | alt (n : Nat)
 | altR (n : Nat)
 | row (n : Nat)
 | rowR (n : Nat)
 | item (n : Nat)
 | itemR (t : Pt)
 | atom (n : Nat)
 | spans (first : Bool) (p : Nat → Bool)
def notS (neg : Bool) (p : Nat → Bool) : Nat → Bool := fun c => if neg then !p c else p c
def clsHead : List Nat → Bool × List Nat
 | 94 :: r => (true, r)
 | l => (false, l)
inductive PR : Goal → List Nat → Re Pt → Prop
 | altE {n l k w} : PR (.row n) l (.err k w) → PR (.alt n) l (.err k w)
 | altE2 {n l t r k w} : PR (.row n) l (.ok t r) → PR (.altR n) r (.err k w) → PR (.alt n) l (.err k w)
 | alt1 {n l t r f r'} : PR (.row n) l (.ok t r) → PR (.altR n) r (.ok f r') → PR (.alt n) l (.ok (joinA t f) r')
 | altR0 {n l} : l.head? ≠ some 124 → PR (.altR n) l (.ok .nil l)
 | altRE {n l k w} : PR (.row n) l (.err k w) → PR (.altR n) (124 :: l) (.err k w)
 | altRE2 {n l t r k w} : PR (.row n) l (.ok t r) → PR (.altR n) r (.err k w) → PR (.altR n) (124 :: l) (.err k w)
 | altR1 {n l t r f r'} : PR (.row n) l (.ok t r) → PR (.altR n) r (.ok f r') → PR (.altR n) (124 :: l) (.ok (.cons t f) r')
 | rowE {n l k w} : PR (.rowR n) l (.err k w) → PR (.row n) l (.err k w)
 | row1 {n l f r} : PR (.rowR n) l (.ok f r) → PR (.row n) l (.ok (joinR f) r)
 | rowR0 {n l} : stopN l = true → PR (.rowR n) l (.ok .nil l)
 | rowRE {n l k w} : stopN l = false → PR (.item n) l (.err k w) → PR (.rowR n) l (.err k w)
 | rowRE2 {n l t r k w} : stopN l = false → PR (.item n) l (.ok t r) → PR (.rowR n) r (.err k w) → PR (.rowR n) l (.err k w)
 | rowR1 {n l t r f r'} : stopN l = false → PR (.item n) l (.ok t r) → PR (.rowR n) r (.ok f r') → PR (.rowR n) l (.ok (.cons t f) r')
 | itemE {n l k w} : PR (.atom n) l (.err k w) → PR (.item n) l (.err k w)
 | item1 {n l t r res} : PR (.atom n) l (.ok t r) → PR (.itemR t) r res → PR (.item n) l res
 | itemR0 {t l} : pTimes l = none → PR (.itemR t) l (.ok t l)
 | itemRE {t l k w} : pTimes l = some (.err k w) → PR (.itemR t) l (.err k w)
 | itemR1 {t l lo hi r res} : pTimes l = some (.ok (lo, hi) r) → PR (.itemR (.rep t lo hi)) r res → PR (.itemR t) l res
 | atomG0 {l} : PR (.atom 0) (40 :: l) (.err 46 (40 :: l))
 | atomGE {n l k w} : PR (.alt n) l (.err k w) → PR (.atom (n + 1)) (40 :: l) (.err k w)
 | atomGE2 {n l t} : PR (.alt n) l (.ok t []) → PR (.atom (n + 1)) (40 :: l) (.err 40 [])
 | atomG {n l t c r} : PR (.alt n) l (.ok t (c :: r)) → PR (.atom (n + 1)) (40 :: l) (.ok t r)
 | atomC {n l k w} : PR (.spans true fun _ => false) (clsHead l).2 (.err k w) → PR (.atom n) (91 :: l) (.err k w)
 | atomC0 {n l p c r} : PR (.spans true fun _ => false) (clsHead l).2 (.ok (.set (st p)) (c :: r)) → st (notS (clsHead l).1 p) = z4 → PR (.atom n) (91 :: l) (.err 44 (c :: r))
 | atomC1 {n l p c r} : PR (.spans true fun _ => false) (clsHead l).2 (.ok (.set (st p)) (c :: r)) → st (notS (clsHead l).1 p) ≠ z4 → PR (.atom n) (91 :: l) (.ok (.set (st (notS (clsHead l).1 p))) r)
 | atomL {n l} : l.head? ≠ some 40 → l.head? ≠ some 91 → PR (.atom n) l (pLeaf l)
 | spans0 {p l} : l.head? = some 93 → PR (.spans false p) l (.ok (.set (st p)) l)
 | spansE {first p l k w} : (first = false → l.head? ≠ some 93) → pSpan l = .err k w → PR (.spans first p) l (.err k w)
 | spans1 {first p l lo hi r res} : (first = false → l.head? ≠ some 93) → pSpan l = .ok (lo, hi) r → PR (.spans false fun c => p c || (decide (lo ≤ c) && decide (c ≤ hi))) r res → PR (.spans first p) l res
/- What is read gets shorter. -/
theorem pPair_ok {w l : List Nat} {b : Nat} {r : List Nat} (h : pPair w l = .ok b r) : r.length < l.length := by
 unfold pPair at h
 split at h
 ·split at h
  ·cases h; simp; omega
  ·cases h
 ·cases h
theorem pEsc_ok {w l : List Nat} {b : Nat} {r : List Nat} (h : pEsc w l = .ok b r) : r.length < l.length := by
 unfold pEsc at h
 split at h
 ·cases h
 ·rename_i c l
  split at h
  ·cases h; simp
  split at h
  ·cases h; simp
  split at h
  ·cases h; simp
  split at h
  ·have := pPair_ok h; simp; omega
  split at h
  ·cases h; simp
  ·cases h
theorem pOne_ok {l : List Nat} {b : Nat} {r : List Nat} (h : pOne l = .ok b r) : r.length < l.length := by
 unfold pOne at h
 split at h
 ·cases h
 ·split at h
  ·have := pEsc_ok h; simp; omega
  ·cases h; simp
theorem dropWhile_len {α : Type} (p : α → Bool) (l : List α) : (l.dropWhile p).length ≤ l.length := (List.dropWhile_sublist p).length_le
theorem pFin_ok {w : List Nat} {lo hi : Int} {bad : Bool} {l r : List Nat} {x : Int × Int} (h : pFin w lo hi bad l = .ok x r) : r.length < l.length := by
 unfold pFin at h
 split at h
 ·cases h
 ·split at h
  ·cases h
  ·split at h
   ·cases h
   ·cases h; simp
theorem pBounds_ok {w l r : List Nat} {x : Int × Int} (h : pBounds w l = .ok x r) : r.length < l.length := by
 have h0 := dropWhile_len isDig l
 unfold pBounds at h
 split at h
 ·rename_i r' he
  rw [he] at h0
  split at h
  ·have := pFin_ok h
   have h1 := dropWhile_len isDig r'
   simp at h0; omega
  ·have := pFin_ok h
   simp at h0; omega
 ·have := pFin_ok h; omega
theorem pTimes_ok {l r : List Nat} {x : Int × Int} (h : pTimes l = some (.ok x r)) : r.length < l.length := by
 unfold pTimes at h
 split at h
 ·cases h
 ·split at h
  ·cases h; simp
  split at h
  ·cases h; simp
  split at h
  ·cases h; simp
  split at h
  ·simp only [Option.some.injEq] at h
   have := pBounds_ok h; simp; omega
  ·cases h
theorem pMember_ok {l : List Nat} {b : Nat} {r : List Nat} (h : pMember l = .ok b r) : r.length < l.length := by
 unfold pMember at h
 split at h
 ·cases h
 ·split at h
  ·cases h
  ·exact pOne_ok h
theorem pSpan_ok {l : List Nat} {x : Nat × Nat} {r : List Nat} (h : pSpan l = .ok x r) : r.length < l.length := by
 unfold pSpan at h
 split at h
 ·cases h
 ·rename_i lo r1 he
  have h1 := pMember_ok he
  split at h
  ·cases h
  ·rename_i hi r2 he2
   have h2 := pMember_ok he2
   split at h
   ·cases h
   ·cases h; simp at h1; omega
 ·rename_i he
  have h1 := pMember_ok (by assumption)
  cases h; exact h1
theorem pName_ok {l : List Nat} {t : Pt} {r : List Nat} (h : pName l = .ok t r) : r.length < l.length := by
 have h0 := dropWhile_len (fun c => c != 125) l
 unfold pName at h
 split at h
 ·cases h
 ·rename_i c r' he
  rw [he] at h0
  split at h
  ·cases h; simp at h0; omega
  ·cases h
theorem pLeaf_ok {l : List Nat} {t : Pt} {r : List Nat} (h : pLeaf l = .ok t r) : r.length < l.length ∧ t.sz = 1 := by
 unfold pLeaf at h
 split at h
 ·cases h
 ·rename_i c l
  split at h
  ·cases h; exact ⟨by simp, rfl⟩
  split at h
  ·have h1 := pName_ok h
   unfold pName at h
   split at h
   ·cases h
   ·split at h
    ·cases h; exact ⟨by simp; omega, rfl⟩
    ·cases h
  split at h
  ·cases h
  split at h
  ·cases h
  split at h
  ·rename_i b r' he
   have := pOne_ok he
   cases h
   exact ⟨this, rfl⟩
  ·cases h
def Short : Goal → List Nat → Re Pt → Prop
 | .alt _, l, .ok t r => t.sz + 2 * r.length ≤ 2 * l.length + 2 ∧ 1 ≤ t.sz ∧ r.length ≤ l.length
 | .altR _, l, .ok f r => f.sz + f.len + 2 * r.length ≤ 2 * l.length ∧ r.length ≤ l.length ∧ f.len ≤ l.length ∧ f.len ≤ f.sz
 | .row _, l, .ok t r => t.sz + 2 * r.length ≤ 2 * l.length + 1 ∧ 1 ≤ t.sz ∧ r.length ≤ l.length
 | .rowR _, l, .ok f r => f.sz + f.len + 2 * r.length ≤ 2 * l.length ∧ r.length ≤ l.length ∧ f.len ≤ l.length ∧ f.len ≤ f.sz
 | .item _, l, .ok t r => t.sz + 1 + 2 * r.length ≤ 2 * l.length ∧ 1 ≤ t.sz ∧ r.length < l.length
 | .itemR t0, l, .ok t r => t.sz + 2 * r.length ≤ t0.sz + 2 * l.length ∧ t0.sz ≤ t.sz ∧ r.length ≤ l.length
 | .atom _, l, .ok t r => t.sz + 1 + 2 * r.length ≤ 2 * l.length ∧ 1 ≤ t.sz ∧ r.length < l.length
 | .spans first _, l, .ok _ r => r.length ≤ l.length ∧ (first = true → r.length < l.length)
 | _, _, .err _ _ => True
theorem joinA_sz (t f : Pt) : (joinA t f).sz ≤ t.sz + f.sz + 1 ∧ t.sz ≤ (joinA t f).sz := by
 unfold joinA
 split
 ·simp [Pt.sz]
 ·simp only [Pt.sz]; omega
def Re.suf {α : Type} (l : List Nat) : Re α → Prop
 | .ok _ r => r <:+ l
 | .err k w => w <:+ l ∧ 40 ≤ k ∧ k ≤ 46
theorem Re.suf.mono {α : Type} {l m : List Nat} {x : Re α} (h : x.suf l) (hl : l <:+ m) : x.suf m := by
 cases x with
 | ok a r => exact List.IsSuffix.trans h hl
 | err k w => exact ⟨h.1.trans hl, h.2⟩
theorem pPair_suf {w l : List Nat} (h : l <:+ w) : (pPair w l).suf w := by
 unfold pPair
 split
 ·split
  ·exact List.IsSuffix.trans ⟨[_, _], rfl⟩ h
  ·exact ⟨List.suffix_refl _, by decide, by decide⟩
 ·exact ⟨List.nil_suffix, by decide, by decide⟩
theorem pEsc_suf {w l : List Nat} (h : l <:+ w) : (pEsc w l).suf w := by
 unfold pEsc
 split
 ·exact ⟨List.nil_suffix, by decide, by decide⟩
 ·rename_i c r
  have hr : r <:+ w := (List.suffix_cons c r).trans h
  split
  ·exact hr
  split
  ·exact hr
  split
  ·exact hr
  split
  ·exact pPair_suf hr
  split
  ·exact hr
  ·exact ⟨List.suffix_refl _, by decide, by decide⟩
theorem pOne_suf (l : List Nat) : (pOne l).suf l := by
 unfold pOne
 split
 ·exact ⟨List.nil_suffix, by decide, by decide⟩
 ·rename_i c r
  split
  ·exact pEsc_suf (List.suffix_cons c r)
  ·exact List.suffix_cons c r
theorem dropWhile_suf {α : Type} (p : α → Bool) (l : List α) : l.dropWhile p <:+ l := ⟨l.takeWhile p, List.takeWhile_append_dropWhile⟩
theorem pFin_suf {w : List Nat} {lo hi : Int} {bad : Bool} {l : List Nat} (h : l <:+ w) : (pFin w lo hi bad l).suf w := by
 unfold pFin
 split
 ·exact ⟨List.nil_suffix, by decide, by decide⟩
 ·rename_i c r
  split
  ·exact ⟨h, by decide, by decide⟩
  split
  ·exact ⟨List.suffix_refl _, by decide, by decide⟩
  ·exact (List.suffix_cons c r).trans h
theorem pBounds_suf {w l : List Nat} (h : l <:+ w) : (pBounds w l).suf w := by
 have h0 := dropWhile_suf isDig l
 unfold pBounds
 split
 ·rename_i r he
  rw [he] at h0
  have hr : r <:+ w := (List.suffix_cons 44 r).trans (h0.trans h)
  split
  ·exact pFin_suf ((dropWhile_suf isDig r).trans hr)
  ·exact pFin_suf hr
 ·exact pFin_suf (h0.trans h)
theorem pTimes_suf {l : List Nat} {x : Re (Int × Int)} (h : pTimes l = some x) : x.suf l := by
 unfold pTimes at h
 split at h
 ·cases h
 ·rename_i c r
  split at h
  ·cases h; exact List.suffix_cons c r
  split at h
  ·cases h; exact List.suffix_cons c r
  split at h
  ·cases h; exact List.suffix_cons c r
  split at h
  ·cases h; exact pBounds_suf (List.suffix_cons c r)
  ·cases h
theorem pMember_suf (l : List Nat) : (pMember l).suf l := by
 unfold pMember
 split
 ·exact ⟨List.nil_suffix, by decide, by decide⟩
 ·split
  ·exact ⟨List.suffix_refl _, by decide, by decide⟩
  ·exact pOne_suf _
theorem pSpan_suf (l : List Nat) : (pSpan l).suf l := by
 have h1 := pMember_suf l
 unfold pSpan
 split
 ·rename_i k w he
  rw [he] at h1; exact h1
 ·rename_i lo r he
  rw [he] at h1
  have hr : r <:+ l := (List.suffix_cons 45 r).trans h1
  have h2 := pMember_suf r
  split
  ·rename_i k w he2
   rw [he2] at h2
   exact ⟨h2.1.trans hr, h2.2⟩
  ·rename_i hi r2 he2
   rw [he2] at h2
   split
   ·exact ⟨hr, by decide, by decide⟩
   ·exact List.IsSuffix.trans h2 hr
 ·rename_i lo r _ he
  rw [he] at h1; exact h1
theorem pName_suf (l : List Nat) : (pName l).suf l := by
 have h0 := dropWhile_suf (fun c => c != 125) l
 unfold pName
 split
 ·exact ⟨List.nil_suffix, by decide, by decide⟩
 ·rename_i c r he
  rw [he] at h0
  split
  ·exact (List.suffix_cons c r).trans h0
  ·exact ⟨List.suffix_refl _, by decide, by decide⟩
theorem pLeaf_suf (l : List Nat) : (pLeaf l).suf l := by
 unfold pLeaf
 split
 ·exact ⟨List.nil_suffix, by decide, by decide⟩
 ·rename_i c r
  split
  ·exact List.suffix_cons c r
  split
  ·exact (pName_suf r).mono (List.suffix_cons c r)
  split
  ·exact ⟨List.suffix_refl _, by decide, by decide⟩
  split
  ·exact ⟨List.suffix_refl _, by decide, by decide⟩
  ·have h1 := pOne_suf (c :: r)
   split
   ·rename_i b r' he
    rw [he] at h1; exact h1
   ·rename_i k w he
    rw [he] at h1; exact h1
theorem clsHead_suf (l : List Nat) : (clsHead l).2 <:+ l := by
 unfold clsHead
 split
 ·exact List.suffix_cons 94 _
 ·exact List.suffix_refl _
theorem PR.suf {g : Goal} {l : List Nat} {res : Re Pt} (h : PR g l res) : res.suf l := by
 induction h with
 | altE _ h => exact h
 | altE2 _ _ h1 h2 => exact h2.mono h1
 | alt1 _ _ h1 h2 => exact List.IsSuffix.trans h2 h1
 | altR0 => exact List.suffix_refl _
 | altRE _ h => exact h.mono (List.suffix_cons _ _)
 | altRE2 _ _ h1 h2 => exact h2.mono (List.IsSuffix.trans h1 (List.suffix_cons _ _))
 | altR1 _ _ h1 h2 => exact List.IsSuffix.trans h2 (List.IsSuffix.trans h1 (List.suffix_cons _ _))
 | rowE _ h => exact h
 | row1 _ h => exact h
 | rowR0 => exact List.suffix_refl _
 | rowRE _ _ h => exact h
 | rowRE2 _ _ _ h1 h2 => exact h2.mono h1
 | rowR1 _ _ _ h1 h2 => exact List.IsSuffix.trans h2 h1
 | itemE _ h => exact h
 | item1 _ _ h1 h2 => exact h2.mono h1
 | itemR0 => exact List.suffix_refl _
 | itemRE h => exact pTimes_suf h
 | itemR1 h _ h2 => exact h2.mono (pTimes_suf h)
 | atomG0 => exact ⟨List.suffix_refl _, by decide, by decide⟩
 | atomGE _ h => exact h.mono (List.suffix_cons _ _)
 | atomGE2 => exact ⟨List.nil_suffix, by decide, by decide⟩
 | atomG _ h => exact List.IsSuffix.trans (List.suffix_cons _ _) (List.IsSuffix.trans h (List.suffix_cons _ _))
 | atomC _ h => exact h.mono ((clsHead_suf _).trans (List.suffix_cons _ _))
 | atomC0 _ _ h => exact ⟨List.IsSuffix.trans h ((clsHead_suf _).trans (List.suffix_cons _ _)), by decide, by decide⟩
 | atomC1 _ _ h => exact List.IsSuffix.trans (List.suffix_cons _ _) (List.IsSuffix.trans h ((clsHead_suf _).trans (List.suffix_cons _ _)))
 | atomL => exact pLeaf_suf _
 | spans0 => exact List.suffix_refl _
 | @spansE first p l k w _ h => have := pSpan_suf l; rw [h] at this; exact this
 | @spans1 first p l lo hi r res _ h _ ih => have := pSpan_suf l; rw [h] at this; exact ih.mono this
theorem short {g : Goal} {l : List Nat} {res : Re Pt} (h : PR g l res) : Short g l res := by
 induction h with
 | altE => trivial
 | altE2 => trivial
 | @alt1 n l t r f r' _ _ h1 h2 =>
  simp only [Short] at h1 h2 ⊢
  have := joinA_sz t f
  have h3 : f.len = 0 → joinA t f = t ∨ 1 ≤ f.sz → True := fun _ _ => trivial
  unfold joinA at *
  split
  ·simp_all [Pt.sz, Pt.len]; omega
  ·rename_i hne
   simp only [Pt.sz]
   by_cases hf : f.len = 0
   ·omega
   ·omega
 | altR0 => simp [Short, Pt.sz, Pt.len]
 | altRE => trivial
 | altRE2 => trivial
 | altR1 _ _ h1 h2 => simp only [Short, Pt.sz, Pt.len, List.length_cons] at *; omega
 | rowE => trivial
 | @row1 n l f r _ h1 =>
  simp only [Short] at h1 ⊢
  unfold joinR
  split
  ·simp_all [Pt.sz, Pt.len]; omega
  ·simp [Pt.sz, Pt.len] at h1; omega
  ·simp only [Pt.sz]; omega
 | rowR0 => simp [Short, Pt.sz, Pt.len]
 | rowRE => trivial
 | rowRE2 => trivial
 | rowR1 _ _ _ h1 h2 => simp only [Short, Pt.sz, Pt.len] at *; omega
 | itemE => trivial
 | @item1 n l t r res _ _ h1 h2 =>
  cases res with
  | err => trivial
  | ok t' r' => simp only [Short] at *; omega
 | itemR0 => simp [Short]
 | itemRE => trivial
 | @itemR1 t l lo hi r res h _ h1 =>
  have := pTimes_ok h
  cases res with
  | err => trivial
  | ok t' r' => simp only [Short, Pt.sz] at *; omega
 | atomG0 => trivial
 | atomGE => trivial
 | atomGE2 => trivial
 | atomG _ h1 => simp only [Short, List.length_cons] at *; omega
 | atomC => trivial
 | atomC0 => trivial
 | @atomC1 n l p c r _ _ h1 =>
  have h2 : (clsHead l).2.length ≤ l.length := by unfold clsHead; split <;> simp
  simp only [Short, List.length_cons, Pt.sz] at *; omega
 | @atomL n l _ _ =>
  cases hq : pLeaf l with
  | err => trivial
  | ok t r =>
   have := pLeaf_ok hq
   simp only [Short]; omega
 | spans0 => simp [Short]
 | spansE => trivial
 | @spans1 first p l lo hi r res _ h _ h1 =>
  have := pSpan_ok h
  cases res with
  | err => trivial
  | ok t' r' => simp only [Short] at *; omega
end Go.Rv
