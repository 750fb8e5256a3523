/- Automata, plainly: each is the same as itself. -/
import Derived.Test.YtcmfaclkgdmpbaaGreatDoorRpUN
namespace Go.Rv
theorem rints_l0 (K : Nat) (x : List Int) (hl : x.length ≤ 1000000) : ∀ (q k i : Nat), x.length - i = q → q < k → V4 K k x x (i : Int) = some true := by
 intro q
 induction q with
 | zero =>
  intro k i hq hk
  obtain ⟨k, rfl⟩ : ∃ q, k = q + 1 := ⟨k - 1, by omega⟩
  rw [V4]
  dsimp only
  rw [Qme (by omega), cF]
 | succ q ih =>
  intro k i hq hk
  obtain ⟨k, rfl⟩ : ∃ q, k = q + 1 := ⟨k - 1, by omega⟩
  rw [V4]
  dsimp only
  rw [Qmk (by omega), cT, Q2 (show i < x.length by omega), bS, bS, Qnl, cF, B1 (n := i) (by omega), ih k (i + 1) (by omega) (by omega)]
theorem Qjl {K : Nat} {x : List Int} (hl : x.length ≤ 1000000) (hK : x.length < K) : J6 K x x = some true := by
 rw [J6, Qnl, cF]
 exact rints_l0 K x hl x.length K 0 rfl hK
theorem ssame_l2 (K : Nat) (go : Int → Qa → Qa → Option Bool) (s : Qa) (c : Nat) (hc : c < s.Next.length) (hr : s.Next[c].length ≤ 256) : ∀ (q k j : Nat), s.Next[c].length - j = q → q < k → Xa K go k (c : Int) (j : Int) s s = go (IntKind.i64.wrap ((c : Int) + 1)) s s := by
 intro q
 induction q with
 | zero =>
  intro k j hq hk
  obtain ⟨k, rfl⟩ : ∃ q, k = q + 1 := ⟨k - 1, by omega⟩
  rw [Xa]
  dsimp only
  rw [Q2 hc, bS, Qme (by omega), cF]
 | succ q ih =>
  intro k j hq hk
  obtain ⟨k, rfl⟩ : ∃ q, k = q + 1 := ⟨k - 1, by omega⟩
  rw [Xa]
  dsimp only
  rw [Q2 hc, bS, Qmk (by omega), cT, Q2 (show j < s.Next[c].length by omega), bS, bS, Q2 (show j < s.Next[c].length by omega), bS, H9, Qnn, cT, Qnn, bS, Qm5, cF, B1 (n := j) (by omega), ih k (j + 1) (by omega) (by omega)]
theorem ssame_l1 (K : Nat) (hK : 1000 ≤ K) (s : Qa) (hs : Cq s) : ∀ (q k c : Nat), s.Next.length - c = q → q < k → Z7 K k (c : Int) s s = some true := by
 have hn := hs.next
 intro q
 induction q with
 | zero =>
  intro k c hq hk
  obtain ⟨k, rfl⟩ : ∃ q, k = q + 1 := ⟨k - 1, by omega⟩
  rw [Z7]
  dsimp only
  rw [Qme (by omega), cF]
 | succ q ih =>
  intro k c hq hk
  obtain ⟨k, rfl⟩ : ∃ q, k = q + 1 := ⟨k - 1, by omega⟩
  have hc : c < s.Next.length := by omega
  have hr := hs.row _ (Qmg hc)
  have := ssame_l2 K (Z7 K k) s c hc hr s.Next[c].length K 0 rfl (by omega)
  rw [Qmr] at this
  rw [Z7]
  dsimp only
  rw [Qmk (by omega), cT, Q2 hc, bS, bS, Qnl, cF, this, B1 (n := c) (by omega), ih k (c + 1) (by omega) (by omega)]
theorem ssame_refl {K : Nat} (hK : 1000 ≤ K) {s : Qa} (hs : Cq s) : Ju K s s = some true := by
 have := hs.l
 have := hs.r
 have := hs.rule
 have := hs.next
 rw [Ju, Qjl (by omega) (by omega), bS, Qm5, cF, Qjl (by omega) (by omega), bS, Qm5, cF, Qjl (by omega) (by omega), bS, Qm5, cF, Qnl, cF]
 exact ssame_l1 K hK s hs s.Next.length K 0 rfl (by omega)
theorem same_l1 (K : Nat) (hK : 1000 ≤ K) (a : Qc) (hn : a.States.length ≤ 256) (hs : ∀ s ∈ a.States, Cq s) : ∀ (q k i : Nat), a.States.length - i = q → q < k → Yy K k (i : Int) a a = some true := by
 intro q
 induction q with
 | zero =>
  intro k i hq hk
  obtain ⟨k, rfl⟩ : ∃ q, k = q + 1 := ⟨k - 1, by omega⟩
  rw [Yy]
  dsimp only
  rw [Qme (by omega), cF]
 | succ q ih =>
  intro k i hq hk
  obtain ⟨k, rfl⟩ : ∃ q, k = q + 1 := ⟨k - 1, by omega⟩
  have hi : i < a.States.length := by omega
  rw [Yy]
  dsimp only
  rw [Qmk (by omega), cT, Q2 hi, bS, bS, ssame_refl hK (hs _ (Qmg hi)), bS, Qm5, cF, B1 (n := i) (by omega), ih k (i + 1) (by omega) (by omega)]
theorem same_l0 (K : Nat) (a : Qc) (hn : a.Counts.length ≤ 1000) : ∀ (q k i : Nat), a.Counts.length - i = q → q < k → V5 K k (i : Int) a a = some true := by
 intro q
 induction q with
 | zero =>
  intro k i hq hk
  obtain ⟨k, rfl⟩ : ∃ q, k = q + 1 := ⟨k - 1, by omega⟩
  rw [V5]
  dsimp only
  rw [Qme (by omega), cF]
 | succ q ih =>
  intro k i hq hk
  obtain ⟨k, rfl⟩ : ∃ q, k = q + 1 := ⟨k - 1, by omega⟩
  have hi : i < a.Counts.length := by omega
  have e : Ye.same a.Counts[i] a.Counts[i] = true := by rw [Ye.same, Qnn, Qnn]; rfl
  rw [V5]
  dsimp only
  rw [Qmk (by omega), cT, Q2 hi, bS, bS, e, Qm5, cF, B1 (n := i) (by omega), ih k (i + 1) (by omega) (by omega)]
theorem same_refl {K : Nat} (hK : 1000 ≤ K) {a : Qc} (hn : a.States.length ≤ 256) (hs : ∀ s ∈ a.States, Cq s) (hc : a.Counts.length ≤ 512) : J7 K a a = some true := by
 have h1 := same_l1 K hK a hn hs a.States.length K 0 rfl (by omega)
 have h2 := same_l0 K a (by omega) a.Counts.length K 0 rfl (by omega)
 rw [Qmr] at h1 h2
 rw [J7, W3, Qnn, Qm5, cF, Qnl, cF, Qnl, cF, h1, bS, Qm5, cF, h2]
theorem RQ.same {K : Nat} (hK : 1000 ≤ K) {a : Qc} (h : RQ a) : J7 K a a = some true := same_refl hK h.n2 (fun _ hs => h.small hs) h.cl
end Go.Rv
