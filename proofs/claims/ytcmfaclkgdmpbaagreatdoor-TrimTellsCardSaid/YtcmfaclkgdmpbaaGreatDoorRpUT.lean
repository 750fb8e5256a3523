/- TrimTells, plainly. -/
import Derived.Test.YtcmfaclkgdmpbaaGreatDoorRpUS
import Derived.Test.YtcmfaclkgdmpbaaGreatDoorRpUX
namespace Go.Rv
theorem lints_l0 (K : Nat) (x : List Int) (hl : x.length ≤ 1000000) : ∀ (q k i : Nat), x.length - i = q → q < k → V7 K k x x (x.length : Int) (i : Int) = some true := by
 intro q
 induction q with
 | zero =>
  intro k i hq hk
  obtain ⟨k, rfl⟩ : ∃ q, k = q + 1 := ⟨k - 1, by omega⟩
  rw [V7]
  dsimp only
  rw [Qme (by omega), cF]
 | succ q ih =>
  intro k i hq hk
  obtain ⟨k, rfl⟩ : ∃ q, k = q + 1 := ⟨k - 1, by omega⟩
  rw [V7]
  dsimp only
  rw [Qmk (by omega), cT, Q2 (show i < x.length by omega), bS, bS, Qnl, cF, B1 (n := i) (by omega), ih k (i + 1) (by omega) (by omega)]
theorem lints_refl {K : Nat} {x : List Int} (hl : x.length ≤ 1000000) (hK : x.length < K) : Ko K x x = some true := by
 rw [Ko, Qnl, cF]
 exact lints_l0 K x hl x.length K 0 rfl hK
theorem tells_l0 (K : Nat) (hK : 10000 ≤ K) (e : Int) (l : List Bool) (hl : l.length ≤ 256) (x p : Qc) (b : List Nat) (hb : b.length ≤ 256) (h1 : Lt K x = some (Z0 b)) (h2 : Yv K x = some (Z0 b)) (h3 : J7 K p p = some true) : ∀ (q k i : Nat), l.length - i = q → q < k →
  Xc K k e e l l (l.length : Int) (i : Int) x.Split.Of x.Split.Many x.Counts x.States p.Split.Of p.Split.Many p.Counts p.States p.Split.Of p.Split.Many p.Counts p.States = some true := by
 intro q
 induction q with
 | zero =>
  intro k i hq hk
  obtain ⟨k, rfl⟩ : ∃ q, k = q + 1 := ⟨k - 1, by omega⟩
  have hcb : (Z0 b).length = b.length := by rw [Z0, Qmf]
  have e1 : (⟨⟨x.Split.Of, x.Split.Many⟩, x.Counts, x.States⟩ : Qc) = x := rfl
  have e2 : (⟨⟨p.Split.Of, p.Split.Many⟩, p.Counts, p.States⟩ : Qc) = p := rfl
  rw [Xc]
  dsimp only
  rw [Qme (by omega), cF, shown_at (by omega), bS, cT, e1, e2, h3, bS, cT, Qnn, cT, h1, bS, h2, bS, lints_refl (by omega) (by omega), bS]
 | succ q ih =>
  intro k i hq hk
  obtain ⟨k, rfl⟩ : ∃ q, k = q + 1 := ⟨k - 1, by omega⟩
  have hi : i < l.length := by omega
  rw [Xc]
  dsimp only
  rw [Qmk (by omega), cT, Q2 hi, bS, bS, Qnn, Qm5, cF, B1 (n := i) (by omega), ih k (i + 1) (by omega) (by omega)]
theorem Tells_plain (a : Qc) (ha : Okay a) : ∃ K, X9 K a = some true := by
 refine ⟨needK (fewS a), ?_⟩
 obtain ⟨hB, hK⟩ := big_need (fewS a) (Qms _)
 have hg := good_or (few_okay ha) hB
 generalize needK (fewS a) = K at *
 rw [X9, few_eq, bS]
 generalize fewS a = x at *
 rcases hg with ⟨hx, h1, h2⟩ | ⟨_, h1, h2⟩
 ·obtain ⟨l, hl, e⟩ := of_ok hx hK
  obtain ⟨l2, e2, hl2⟩ := live_ok hx hK
  obtain ⟨l3, e3, hl3⟩ := rlive_ok hx (K := K) (by omega)
  rw [hl2.uniq hl] at e2
  rw [hl3.uniq hl] at e3
  have hn := hx.1.n2
  have hb := (Qb6 hx.1.toOk).len
  rw [e, bS, rof_ok hx hK hl, bS, e2, bS, e3, bS, Qnl, cF]
  exact tells_l0 K (by omega) 0 l (by rw [hl.len]; exact hn) x (trimA x l) (Lc x.States) (by omega) (blocks_ok (by omega) hx) (rblocks_ok (by omega) hx) ((hx.1.trim l).same (by omega)) l.length K 0 rfl (by rw [hl.len]; omega)
 ·rw [of_bad h1, bS, rof_bad h2, bS, live_bad h1, bS, rlive_bad h2, bS, Qnl, cF]
  exact tells_l0 K (by omega) 1 [] (by simp) x noA [] (by simp) (blocks_bad h1) (rblocks_bad h2) (same_refl (by omega) (by simp [noA]) (fun s hs => by cases hs) (by simp [noA])) 0 K 0 rfl (by omega)
end Go.Rv
