/- TrimSame, plainly. -/
import Derived.Test.YtcmfaclkgdmpbaaGreatDoorRpVN
import Derived.Test.YtcmfaclkgdmpbaaGreatDoorRpVJ
namespace Go.Rv
theorem rq_cell {a : Qq} (h : RQ a) {c : Nat} (hm : a.Split.Many = (c : Int)) {i n k : Nat} (hi : i < a.States.length) (hn : n < (stA a.States i).Next.length) (hk : k < c) (d : Qf) : ∃ (hj : n * c + k < (mvs a.States i).length), Ys (stA a.States i).Next (n : Int) = some ((stA a.States i).Next.getD n []) ∧ Ys ((stA a.States i).Next.getD n []) (k : Int) = some (mvs a.States i)[n * c + k] ∧ ((stA a.States i).Next.getD n []).getD k d = (mvs a.States i)[n * c + k] := by
 have hrow : ∀ r ∈ (stA a.States i).Next, r.length = c := fun r hr => by
  rw [U5 hi] at hr
  have := (h.st _ (Qkz hi)).row r hr
  omega
 obtain ⟨h1, h2⟩ := flat_rc c d _ hrow n k hn hk
 have e : ((stA a.States i).Next.getD n []).getD k d = (mvs a.States i)[n * c + k]'h1 := by
  rw [← h2, Q4 h1]; rfl
 have hl : ((stA a.States i).Next.getD n []).length = c := by
  rw [Q4 hn]; exact hrow _ (Qkz hn)
 refine ⟨h1, Qed [] hn, ?_, e⟩
 rw [← e]
 exact Qed d (by omega)
def SimS (g : Qj) (a : Qq) (l : List Bool) (at_ : Int) (c : Qt) : Prop := (c = ⟨false, []⟩ ∧ at_ = -1) ∨ ∃ s, HasS g a.States s c ∧ ((at_ = -1 ∧ l.getD s false = false) ∨ ∃ x : Nat, at_ = (x : Int) ∧ Stands a.States l (a.Counts.length == 0) s x)
theorem SimS.ok {g : Qj} {a : Qq} {F : List Nat} (h : Na g a F) {l : List Bool} {at_ : Int} {c : Qt} (hs : SimS g a l at_ c) : COk g c ∧ cnN g c.L ≤ 3 := by
 rcases hs with ⟨rfl, _⟩ | ⟨s, h1, _⟩
 ·exact ⟨dead_ok g, Qla _⟩
 ·exact ⟨h1.ok, (h1.reg h).2.1⟩
theorem SimS.to {g : Qj} {a : Qq} {l : List Bool} {at_ : Int} {c : Qt} (hs : SimS g a l at_ c) : at_ = -1 ∨ 0 ≤ at_ := by
 rcases hs with ⟨_, h⟩ | ⟨s, _, ⟨h, _⟩ | ⟨x, h, _⟩⟩
 ·exact .inl h
 ·exact .inl h
 ·exact .inr (by omega)
theorem SimS.neg {g : Qj} (hg : GQ g) {a : Qq} {F : List Nat} (h : Na g a F) {l : List Bool} (hl : Ty a.States l) {at_ : Int} {c : Qt} (hs : SimS g a l at_ c) (ha : at_ < 0) : ruleC g c.L < 0 := by
 rcases hs with ⟨rfl, _⟩ | ⟨s, h1, ⟨_, h2⟩ | ⟨x, h2, _⟩⟩
 ·rw [ruleC, List.foldl_nil]; decide
 ·obtain ⟨r1, r2⟩ := h1.rule hg h
  refine Int.not_le.1 fun h0 => ?_
  have hlt := (h1.reg h).2.2
  rw [Q3 (by omega)] at r2
  have hr : Fa (stA a.States s) = true := Qm3.2 ⟨(stA a.States s).Rule[Qef g c.L]'(by omega), Qkz _, by rw [Option.some.inj r2]; exact Qk1 h0⟩
  have := (hl.iff s).2 (.rule h1.lt hr)
  rw [h2] at this
  cases this
 ·omega
theorem SimS.dead {g : Qj} (hg : GQ g) {a : Qq} {F : List Nat} (h : Na g a F) {l : List Bool} (hl : Ty a.States l) {c : Qt} (hs : SimS g a l (-1) c) {b : Nat} (hb : b < 256) : SimS g a l (-1) ⟨false, Qc8 g c b⟩ := by
 rcases hs with ⟨rfl, _⟩ | ⟨s, h1, ⟨_, h2⟩ | ⟨x, h2, _⟩⟩
 ·rw [dead_step]; exact .inl ⟨rfl, rfl⟩
 ·obtain ⟨k, k1, _, k3⟩ := h1.step hg h hb
  rcases k3 with ⟨_, k4⟩ | ⟨k4, k5⟩
  ·rw [k4]; exact .inl ⟨rfl, rfl⟩
  ·refine .inr ⟨_, k5, .inl ⟨rfl, ?_⟩⟩
   have hlt := (h1.reg h).2.2
   obtain ⟨hj, _, _, e⟩ := rq_cell (h.rq hg) h.many h1.lt (by rw [(h.si.done s h1.lt).nl]; exact hlt) k1 ⟨0, []⟩
   rw [e] at k4 ⊢
   cases hx : l.getD (mvs a.States s)[Qef g c.L * F.length + k].To.toNat false with
   | false => rfl
   | true =>
    have := (hl.iff s).2 (.step _ h1.lt (Qkz hj) (by omega) ((hl.iff _).1 hx))
    rw [h2] at this
    cases this
 ·omega
theorem SimS.pos {g : Qj} (hg : GQ g) {a : Qq} {F : List Nat} (h : Na g a F) {l : List Bool} (hl : Ty a.States l) {at_ : Int} {c : Qt} (hs : SimS g a l at_ c) (ha : 0 ≤ at_) : ∃ s', Ys (Qek a l).States at_ = some s' ∧ Qef g c.L < s'.Rule.length ∧ Qef g c.L < s'.Next.length ∧ Ys s'.Rule (Qef g c.L : Int) = some (ruleC g c.L) ∧ ∀ b, b < 256 → ∃ row m, Ys s'.Next (Qef g c.L : Int) = some row ∧ Ys row (a.Split.Of.f b) = some m ∧ SimS g a l m.To ⟨false, Qc8 g c b⟩ := by
 rcases hs with ⟨_, h1⟩ | ⟨s, h1, ⟨h2, _⟩ | ⟨x, h2, h3⟩⟩
 ·omega
 ·omega
 ·subst h2
  have hrq := h.rq hg
  have hrp := hrq.trim l
  have hT := hrq.toOk
  obtain ⟨t1, t2, t3, t4, t5⟩ := stands_step hT h.si.n1 hl h3
  obtain ⟨r1, r2⟩ := h1.rule hg h
  have hlt := (h1.reg h).2.2
  have hps : (Qek a l).States = Qej a.States l (a.Counts.length == 0) := rfl
  have hpm : (Qek a l).Split.Many = (F.length : Int) := h.many
  rw [← hps] at t1 t2 t3 t4 t5
  have hst := hrp.st _ (Qkz t1)
  rw [← U5 t1] at hst
  have hcod := (cod_lt (h.si.st s h1.lt).r3).2.2
  have hnl : (stA (Qek a l).States x).Next.length = Qii (stA a.States s).R.length := by
   have := hst.nl
   rw [t3] at this
   omega
  refine ⟨stA (Qek a l).States x, by rw [Q3 t1, U5 t1], by rw [t2]; omega, by omega, by rw [t2]; exact r2, fun b hb => ?_⟩
  obtain ⟨k, k1, k2, k3⟩ := h1.step hg h hb
  obtain ⟨hj, _, _, e⟩ := rq_cell hrq h.many h1.lt (by rw [(h.si.done s h1.lt).nl]; exact hlt) k1 ⟨0, []⟩
  obtain ⟨hj', q1, q2, _⟩ := rq_cell hrp hpm t1 (n := Qef g c.L) (by omega) k1 ⟨0, []⟩
  refine ⟨_, _, q1, by rw [k2]; exact q2, ?_⟩
  rw [e] at k3
  rcases t5 _ hj' hj with ⟨a1, a2⟩ | ⟨a1, a2, a3⟩
  ·have hneg : (mvs (Qek a l).States x)[Qef g c.L * F.length + k].To = -1 := by
    rcases hrp.mvs t1 (Qkz hj') with h | h
    ·exact h.1
    ·omega
   rw [hneg]
   rcases k3 with ⟨_, k4⟩ | ⟨k4, k5⟩
   ·rw [k4]; exact .inl ⟨rfl, rfl⟩
   ·rcases a2 with a2 | a2
    ·omega
    ·exact .inr ⟨_, k5, .inl ⟨rfl, a2⟩⟩
  ·rcases k3 with ⟨k4, _⟩ | ⟨_, k5⟩
   ·omega
   ·exact .inr ⟨_, k5, .inr ⟨_, by omega, a3⟩⟩
theorem bt_lt (w : ByteArray) (i : Int) : ∃ b : Nat, b < 256 ∧ bt w i = (b : Int) := by
 refine ⟨((w.data.toList[i.toNat]?).getD 0).toNat, UInt8.toNat_lt _, rfl⟩
theorem same_l2 (K : Nat) {g : Qj} (hg : GQ g) (ho : OkG g) (hK : Qat g ≤ K) {a : Qq} {F : List Nat} (h : Na g a F) {l : List Bool} (hl : Ty a.States l) (w : ByteArray) (n : Nat) (hn : n ≤ 60) (hnw : n ≤ w.size) (many : Int) (cs : List Xf) : ∀ (q k i : Nat) (at_ : Int) (c : Qt), n - i = q → q < k → i ≤ n → SimS g a l at_ c → Zz K k w true at_ (n : Int) (i : Int) g a.Split.Of many cs (Qek a l).States c.Begin c.L = some true := by
 have hK' := hK
 rw [Qat] at hK'
 intro q
 induction q with
 | zero =>
  intro k i at_ c hq hk hi hs
  obtain ⟨k, rfl⟩ := Qoe k (by omega)
  rw [Zz]
  dsimp only
  rw [Qkx (by omega), cF]
 | succ q ih =>
  intro k i at_ c hq hk hi hs
  obtain ⟨k, rfl⟩ := Qoe k (by omega)
  obtain ⟨b, hb, hbt⟩ := bt_lt w i
  have hok := hs.ok h
  have ec : (⟨c.Begin, c.L⟩ : Qt) = c := rfl
  have hw := Mf (n := i) (by omega)
  have hj4 : ∀ at' : Int, SimS g a l at' ⟨false, Qc8 g c b⟩ → Vm K (Zz K k) w true at' (ruleC g (Qc8 g c b)) (n : Int) (i : Int) g a.Split.Of many cs (Qek a l).States false (Qc8 g c b) = some true := fun at' hs' => by
   have hih := ih k (i + 1) at' ⟨false, Qc8 g c b⟩ (by omega) (by omega) (by omega) hs'
   dsimp only at hih
   have hok' := hs'.ok h
   rw [Vm]
   by_cases h0 : 0 ≤ at'
   ·obtain ⟨s', e1, e2, _, e4, _⟩ := hs'.pos hg h hl h0
    dsimp only at e2 e4
    have hcode := code12 (K := K) (by omega) hg hok'.1 hok'.2
    dsimp only at hcode
    rw [Qk1 h0, cT, hcode, bS, e1, bS, Qkx (by omega), cF, e4, bS, Qn2, cF, hw]
    exact hih
   ·rw [Qkx h0, cF, hw]
    exact hih
  have hj3 : ∀ at' : Int, SimS g a l at' ⟨false, Qc8 g c b⟩ → Vn K (Zz K k) w true (i : Int) at' (n : Int) (i : Int) g a.Split.Of many cs (Qek a l).States c.Begin c.L = some true := fun at' hs' => by
   have hok' := hs'.ok h
   rw [Vn, Z4 ⟨by omega, by omega⟩, ec, hbt, Step10 hg ho hK hok.1 hb, bS, Rule10 hg ho hK hok'.1, bS]
   dsimp only
   by_cases h0 : at' < 0
   ·have hr := hs'.neg hg h hl h0
    dsimp only at hr
    rw [Qk1 h0, cT, Qkx (by omega), cF]
    exact hj4 at' hs'
   ·rw [Qkx h0, cF]
    exact hj4 at' hs'
  have hcode := code12 (K := K) (by omega) hg hok.1 hok.2
  rw [Zz]
  dsimp only
  rw [Qk1 (by omega), cT, ec, hcode, bS]
  by_cases h0 : 0 ≤ at_
  ·obtain ⟨s', e1, _, e3, _, e5⟩ := hs.pos hg h hl h0
   obtain ⟨row, m, f1, f2, f3⟩ := e5 b hb
   rw [Qk1 h0, cT, e1, bS, Qkx (by omega), cF, f1, bS, Z4 ⟨by omega, by omega⟩, Z4 ⟨by omega, by omega⟩, hbt, Zp.get, Qk5, f2, bS]
   exact hj3 _ f3
  ·have hm : at_ = -1 := by
    rcases hs.to with h | h
    ·exact h
    ·exact absurd h h0
   rw [Qkx h0, cF]
   subst hm
   exact hj3 _ (hs.dead hg h hl hb)
theorem Same_plain (g : Qj) (w : ByteArray) (ho : OkG g) : ∃ K, V1 K g w = some true := by
 refine ⟨Qat g + 10000000, ?_⟩
 have hK : Qat g ≤ Qat g + 10000000 := by omega
 generalize hKe : Qat g + 10000000 = K at *
 have hK2 : 10000000 ≤ K := by omega
 rw [V1, shown_at (by omega), bS]
 by_cases h40 : (g.P.length : Int) > 40
 ·rw [Qk1 h40, cT]
 ·rw [Qkx h40, cF]
  rcases right9 ho hK with ⟨hg, hr⟩ | ⟨hg, hr⟩
  ·obtain ⟨a, e, h1, h2⟩ := of_spec hg ho hK
   rw [h1, bS]
   rcases h2 with ⟨h2, _⟩ | ⟨rfl, F, h2⟩
   ·rw [bne_iff_ne.2 h2, cT]; rfl
   ·rw [Qn2, cF]
    by_cases h60 : (a.States.length : Int) > 60
    ·rw [Qk1 h60, cT]; rfl
    ·have hga := h2.good hg
     obtain ⟨l, l1, l2⟩ := of_ok hga hK2
     have hgp : Tz (Qek a l) := ⟨hga.1.trim l, hga.2⟩
     rw [Qkx h60, cF, l2, bS, Qn2, cF, hgp.ref (by omega), bS, Qly, cF]
     have hz : SimS g a l 0 ⟨true, []⟩ := .inr ⟨0, HasS.zero h2, .inr ⟨0, rfl, stands_zero hga.1.toOk h2.si.n1 l1⟩⟩
     obtain ⟨n, n1, n2, n3⟩ : ∃ n : Nat, n ≤ 60 ∧ n ≤ w.size ∧ (if (60 : Int) < (w.size : Int) then (60 : Int) else (w.size : Int)) = (n : Int) := by
      by_cases hx : (60 : Int) < (w.size : Int)
      ·exact ⟨60, by omega, by omega, by rw [if_pos hx]; rfl⟩
      ·exact ⟨w.size, by omega, Qk9 _, by rw [if_neg hx]⟩
     rw [n3]
     have := same_l2 K hg ho hK h2 l1 w n n1 n2 (Qek a l).Split.Many (Qek a l).Counts n K 0 0 ⟨true, []⟩ rfl (by omega) (Qla _) hz
     rw [Qk6] at this
     exact this
  ·rw [Wd, hr, bS, Qlx, cT, bS]
   rfl
end Go.Rv
