/- TrimTwice, plainly. -/
import Derived.Test.YtcmfaclkgdmpbaaGreatDoorRpUV
import Derived.Test.YtcmfaclkgdmpbaaGreatDoorRpUX
import Derived.Test.YtcmfaclkgdmpbaaGreatDoorRpUO
namespace Go.Rv
theorem twice_l3 (K : Nat) (n : Nat) (hn : n ≤ 256) : ∀ (q k i : Nat), n - i = q → q < k → Y1 K k true (We (List.range n)) (n : Int) (i : Int) = some true := by
 intro q
 induction q with
 | zero =>
  intro k i hq hk
  obtain ⟨k, rfl⟩ : ∃ q, k = q + 1 := ⟨k - 1, by omega⟩
  rw [Y1]
  dsimp only
  rw [decide_eq_false (by omega), cF]
 | succ q ih =>
  intro k i hq hk
  obtain ⟨k, rfl⟩ : ∃ q, k = q + 1 := ⟨k - 1, by omega⟩
  have hi : i < (List.range n).length := by rw [List.length_range]; omega
  rw [Y1]
  dsimp only
  rw [decide_eq_true (by omega), cT, Qfr hi, Zc hi, List.getElem_range, bS, bne_self_eq_false, cF, Ox (n := i) (by omega), ih k (i + 1) (by omega) (by omega)]
theorem twice_l2 (K : Nat) (hK : 10000 ≤ K) {p : Ql} (hp : Ru p) {l : List Bool} (hl : l.length = p.States.length) (h1 : ∀ i, 0 < i → i < p.States.length → l.getD i false = true) (h2 : p.Counts.length = 0 → Vh p.States = List.range p.States.length) : ∀ (q k i : Nat), l.length - i = q → q < k →
  Yn K k true l (l.length : Int) (i : Int) p.Split.Of p.Split.Many p.Counts p.States = some true := by
 have hn := hp.1.n2
 intro q
 induction q with
 | zero =>
  intro k i hq hk
  obtain ⟨k, rfl⟩ : ∃ q, k = q + 1 := ⟨k - 1, by omega⟩
  have e : (⟨⟨p.Split.Of, p.Split.Many⟩, p.Counts, p.States⟩ : Ql) = p := rfl
  rw [Yn]
  dsimp only
  rw [decide_eq_false (by omega), cF, e]
  by_cases hc : p.Counts.length = 0
  ·rw [decide_eq_false (by omega), cF, blocks_ok (by omega) hp, bS, h2 hc, show (We (List.range p.States.length)).length = p.States.length by rw [We, List.length_map, List.length_range]]
   exact twice_l3 K p.States.length (by omega) p.States.length K 0 rfl (by omega)
  ·rw [decide_eq_true (by omega), cT]
 | succ q ih =>
  intro k i hq hk
  obtain ⟨k, rfl⟩ : ∃ q, k = q + 1 := ⟨k - 1, by omega⟩
  have hi : i < l.length := by omega
  have hih := ih k (i + 1) (by omega) (by omega)
  rw [Yn]
  dsimp only
  rw [decide_eq_true (by omega), cT, geti_get false hi, bS, Ox (n := i) (by omega), hih]
  by_cases h0 : 0 < i
  ·rw [h1 i h0 (by omega), Bool.not_true, cF]
  ·rw [decide_eq_false (by omega), cF]
   cases l.getD i false <;> rfl
theorem Twice_plain (a : Ql) (ha : Okay a) : ∃ K, Xw K a = some true := by
 refine ⟨needK (fewS a), ?_⟩
 obtain ⟨hB, hK⟩ := big_need (fewS a) (Nat.le_refl _)
 have hg := good_or (few_okay ha) hB
 generalize needK (fewS a) = K at *
 rw [Xw, shown_at (by omega), bS, few_eq, bS]
 generalize fewS a = x at *
 rcases hg with ⟨hx, h1, h2⟩ | ⟨_, h1, h2⟩
 ·obtain ⟨l, hl, e⟩ := of_ok hx hK
  have hp : Ru (Dd x l) := ⟨hx.1.trim l, hx.2⟩
  obtain ⟨l', hl', e'⟩ := of_ok hp hK
  obtain ⟨l2, e2, hl2⟩ := live_ok hp hK
  have el : l2 = l' := hl2.uniq hl'
  subst el
  have h0 := hx.1.n1
  have hle := trim_le (b := x.Counts.length == 0) hx.1.toOk (by omega) hl
  have hlen : (Dd x l).States.length = (Bb x.States l (x.Counts.length == 0)).length := rfl
  have hgt : ¬(((Dd x l).States.length : Int) > (x.States.length : Int)) := by omega
  have e3 : ((0 : Int) != 0) = false := rfl
  rw [trim_twice hx.1 hl hl'] at e'
  rw [e, bS]
  dsimp only
  rw [e3, cF, e', bS, hp.ref (by omega), bS, Bool.not_true, cF]
  dsimp only
  rw [e3, cF, hp.1.same (by omega), bS, Bool.not_true, cF, decide_eq_false hgt, cF, e2, bS]
  exact twice_l2 K (by omega) hp hl'.len (fun i h1 h2 => (hl'.iff i).2 (trim_live hx.1.toOk (by omega) hl h1 h2)) (fun hc => (Jy hp.1.toOk).own fun i j hi hj he => by
   have hb : (x.Counts.length == 0) = true := beq_iff_eq.2 hc
   have hst : (Dd x l).States = Bb x.States l true := by rw [← hb]; rfl
   rw [hst] at hi hj he
   exact trim_own hx.1.toOk (by omega) hl (by rw [← hst]; exact hp.1.toOk) hi hj he) l2.length K 0 rfl (by rw [hl'.len]; have := hp.1.n2; omega)
 ·rw [of_bad h1, bS]
  dsimp only
  rw [show ((1 : Int) != 0) = true from rfl, cT, cT, h2, bS, Bool.not_false, cT, live_bad h1, blocks_bad h1]
  rfl
end Go.Rv
