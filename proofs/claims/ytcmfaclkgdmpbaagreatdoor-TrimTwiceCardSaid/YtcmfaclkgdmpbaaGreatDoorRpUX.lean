/- Automata, plainly: each is the same as itself. -/
import Derived.Test.YtcmfaclkgdmpbaaGreatDoorRpUN
namespace Go.Rv
theorem rints_l0 (K : Nat) (x : List Int) (hl : x.length ≤ 1000000) : ∀ (q k i : Nat), x.length - i = q → q < k → Vw K k x x (i : Int) = some true := by
 intro q
 induction q with
 | zero =>
  intro k i hq hk
  obtain ⟨k, rfl⟩ : ∃ q, k = q + 1 := ⟨k - 1, by omega⟩
  rw [Vw]
  dsimp only
  rw [decide_eq_false (by omega), cF]
 | succ q ih =>
  intro k i hq hk
  obtain ⟨k, rfl⟩ : ∃ q, k = q + 1 := ⟨k - 1, by omega⟩
  rw [Vw]
  dsimp only
  rw [decide_eq_true (by omega), cT, Zg (show i < x.length by omega), bS, bS, bne_self_eq_false, cF, Ox (n := i) (by omega), ih k (i + 1) (by omega) (by omega)]
theorem Qf7 {K : Nat} {x : List Int} (hl : x.length ≤ 1000000) (hK : x.length < K) : Jw K x x = some true := by
 rw [Jw, bne_self_eq_false, cF]
 exact rints_l0 K x hl x.length K 0 rfl hK
theorem ssame_l2 (K : Nat) (go : Int → Qa → Qa → Option Bool) (s : Qa) (c : Nat) (hc : c < s.Next.length) (hr : s.Next[c].length ≤ 256) : ∀ (q k j : Nat), s.Next[c].length - j = q → q < k → Yz K go k (c : Int) (j : Int) s s = go (IntKind.i64.wrap ((c : Int) + 1)) s s := by
 intro q
 induction q with
 | zero =>
  intro k j hq hk
  obtain ⟨k, rfl⟩ : ∃ q, k = q + 1 := ⟨k - 1, by omega⟩
  rw [Yz]
  dsimp only
  rw [Zg hc, bS, decide_eq_false (by omega), cF]
 | succ q ih =>
  intro k j hq hk
  obtain ⟨k, rfl⟩ : ∃ q, k = q + 1 := ⟨k - 1, by omega⟩
  rw [Yz]
  dsimp only
  rw [Zg hc, bS, decide_eq_true (by omega), cT, Zg (show j < s.Next[c].length by omega), bS, bS, Zg (show j < s.Next[c].length by omega), bS, Gl, beq_self_eq_true, cT, beq_self_eq_true, bS, Bool.not_true, cF, Ox (n := j) (by omega), ih k (j + 1) (by omega) (by omega)]
theorem ssame_l1 (K : Nat) (hK : 1000 ≤ K) (s : Qa) (hs : Ou s) : ∀ (q k c : Nat), s.Next.length - c = q → q < k → Yc K k (c : Int) s s = some true := by
 have hn := hs.next
 intro q
 induction q with
 | zero =>
  intro k c hq hk
  obtain ⟨k, rfl⟩ : ∃ q, k = q + 1 := ⟨k - 1, by omega⟩
  rw [Yc]
  dsimp only
  rw [decide_eq_false (by omega), cF]
 | succ q ih =>
  intro k c hq hk
  obtain ⟨k, rfl⟩ : ∃ q, k = q + 1 := ⟨k - 1, by omega⟩
  have hc : c < s.Next.length := by omega
  have hr := hs.row _ (List.getElem_mem hc)
  have := ssame_l2 K (Yc K k) s c hc hr s.Next[c].length K 0 rfl (by omega)
  rw [Int.natCast_zero] at this
  rw [Yc]
  dsimp only
  rw [decide_eq_true (by omega), cT, Zg hc, bS, bS, bne_self_eq_false, cF, this, Ox (n := c) (by omega), ih k (c + 1) (by omega) (by omega)]
theorem ssame_refl {K : Nat} (hK : 1000 ≤ K) {s : Qa} (hs : Ou s) : Jk K s s = some true := by
 have := hs.l
 have := hs.r
 have := hs.rule
 have := hs.next
 rw [Jk, Qf7 (by omega) (by omega), bS, Bool.not_true, cF, Qf7 (by omega) (by omega), bS, Bool.not_true, cF, Qf7 (by omega) (by omega), bS, Bool.not_true, cF, bne_self_eq_false, cF]
 exact ssame_l1 K hK s hs s.Next.length K 0 rfl (by omega)
theorem same_l1 (K : Nat) (hK : 1000 ≤ K) (a : Ql) (hn : a.States.length ≤ 256) (hs : ∀ s ∈ a.States, Ou s) : ∀ (q k i : Nat), a.States.length - i = q → q < k → Ys K k (i : Int) a a = some true := by
 intro q
 induction q with
 | zero =>
  intro k i hq hk
  obtain ⟨k, rfl⟩ : ∃ q, k = q + 1 := ⟨k - 1, by omega⟩
  rw [Ys]
  dsimp only
  rw [decide_eq_false (by omega), cF]
 | succ q ih =>
  intro k i hq hk
  obtain ⟨k, rfl⟩ : ∃ q, k = q + 1 := ⟨k - 1, by omega⟩
  have hi : i < a.States.length := by omega
  rw [Ys]
  dsimp only
  rw [decide_eq_true (by omega), cT, Zg hi, bS, bS, ssame_refl hK (hs _ (List.getElem_mem hi)), bS, Bool.not_true, cF, Ox (n := i) (by omega), ih k (i + 1) (by omega) (by omega)]
theorem same_l0 (K : Nat) (a : Ql) (hn : a.Counts.length ≤ 1000) : ∀ (q k i : Nat), a.Counts.length - i = q → q < k → Vx K k (i : Int) a a = some true := by
 intro q
 induction q with
 | zero =>
  intro k i hq hk
  obtain ⟨k, rfl⟩ : ∃ q, k = q + 1 := ⟨k - 1, by omega⟩
  rw [Vx]
  dsimp only
  rw [decide_eq_false (by omega), cF]
 | succ q ih =>
  intro k i hq hk
  obtain ⟨k, rfl⟩ : ∃ q, k = q + 1 := ⟨k - 1, by omega⟩
  have hi : i < a.Counts.length := by omega
  have e : Vr.same a.Counts[i] a.Counts[i] = true := by rw [Vr.same, beq_self_eq_true, beq_self_eq_true]; rfl
  rw [Vx]
  dsimp only
  rw [decide_eq_true (by omega), cT, Zg hi, bS, bS, e, Bool.not_true, cF, Ox (n := i) (by omega), ih k (i + 1) (by omega) (by omega)]
theorem same_refl {K : Nat} (hK : 1000 ≤ K) {a : Ql} (hn : a.States.length ≤ 256) (hs : ∀ s ∈ a.States, Ou s) (hc : a.Counts.length ≤ 512) : Hp K a a = some true := by
 have h1 := same_l1 K hK a hn hs a.States.length K 0 rfl (by omega)
 have h2 := same_l0 K a (by omega) a.Counts.length K 0 rfl (by omega)
 rw [Int.natCast_zero] at h1 h2
 rw [Hp, W5, beq_self_eq_true, Bool.not_true, cF, bne_self_eq_false, cF, bne_self_eq_false, cF, h1, bS, Bool.not_true, cF, h2]
theorem RQ.same {K : Nat} (hK : 1000 ≤ K) {a : Ql} (h : RQ a) : Hp K a a = some true := same_refl hK h.n2 (fun _ hs => h.small hs) h.cl
end Go.Rv
