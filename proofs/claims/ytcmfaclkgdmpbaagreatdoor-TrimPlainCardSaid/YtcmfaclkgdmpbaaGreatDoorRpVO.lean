/- TrimSame, plainly. -/
import Derived.Test.YtcmfaclkgdmpbaaGreatDoorRpVN
import Derived.Test.YtcmfaclkgdmpbaaGreatDoorRpVJ
namespace Go.Rv
theorem rq_cell {a : Qn} (h : RQ a) {c : Nat} (hm : a.Split.Many = (c : Int)) {i n k : Nat} (hi : i < a.States.length) (hn : n < (stA a.States i).Next.length) (hk : k < c) (d : Qd) : ∃ (hj : n * c + k < (mvs a.States i).length), Xl (stA a.States i).Next (n : Int) = some ((stA a.States i).Next.getD n []) ∧ Xl ((stA a.States i).Next.getD n []) (k : Int) = some (mvs a.States i)[n * c + k] ∧ ((stA a.States i).Next.getD n []).getD k d = (mvs a.States i)[n * c + k] := by
 have hrow : ∀ r ∈ (stA a.States i).Next, r.length = c := fun r hr => by
  rw [Ua hi] at hr
  have := (h.st _ (Qfy hi)).row r hr
  omega
 obtain ⟨h1, h2⟩ := flat_rc c d _ hrow n k hn hk
 have e : ((stA a.States i).Next.getD n []).getD k d = (mvs a.States i)[n * c + k]'h1 := by
  rw [← h2, Q2 h1]; rfl
 have hl : ((stA a.States i).Next.getD n []).length = c := by
  rw [Q2 hn]; exact hrow _ (Qfy hn)
 refine ⟨h1, Qes [] hn, ?_, e⟩
 rw [← e]
 exact Qes d (by omega)
def SimS (g : Qp) (a : Qn) (l : List Bool) (at_ : Int) (c : Yg) : Prop := (c = ⟨false, []⟩ ∧ at_ = -1) ∨ ∃ s, HasS g a.States s c ∧ ((at_ = -1 ∧ l.getD s false = false) ∨ ∃ x : Nat, at_ = (x : Int) ∧ Stands a.States l (a.Counts.length == 0) s x)
theorem SimS.to {g : Qp} {a : Qn} {l : List Bool} {at_ : Int} {c : Yg} (hs : SimS g a l at_ c) : at_ = -1 ∨ 0 ≤ at_ := by
 rcases hs with ⟨_, h⟩ | ⟨s, _, ⟨h, _⟩ | ⟨x, h, _⟩⟩
 ·exact .inl h
 ·exact .inl h
 ·exact .inr (by omega)
theorem SimS.neg {g : Qp} (hg : GQ g) {a : Qn} {F : List Nat} (h : Fz g a F) {l : List Bool} (hl : I5 a.States l) {at_ : Int} {c : Yg} (hs : SimS g a l at_ c) (ha : at_ < 0) : ruleC g c.L < 0 := by
 rcases hs with ⟨rfl, _⟩ | ⟨s, h1, ⟨_, h2⟩ | ⟨x, h2, _⟩⟩
 ·rw [ruleC, List.foldl_nil]; decide
 ·obtain ⟨r1, r2⟩ := h1.rule hg h
  refine Int.not_le.1 fun h0 => ?_
  have hlt := (h1.reg h).2.2
  rw [Ze (by omega)] at r2
  have hr : Cc (stA a.States s) = true := Qhk.2 ⟨(stA a.States s).Rule[Qaa g c.L]'(by omega), Qfy _, by rw [Option.some.inj r2]; exact Qf0 h0⟩
  have := (hl.iff s).2 (.rule h1.lt hr)
  rw [h2] at this
  cases this
 ·omega
theorem SimS.dead {g : Qp} (hg : GQ g) {a : Qn} {F : List Nat} (h : Fz g a F) {l : List Bool} (hl : I5 a.States l) {c : Yg} (hs : SimS g a l (-1) c) {b : Nat} (hb : b < 256) : SimS g a l (-1) ⟨false, Qas g c b⟩ := by
 rcases hs with ⟨rfl, _⟩ | ⟨s, h1, ⟨_, h2⟩ | ⟨x, h2, _⟩⟩
 ·rw [dead_step]; exact .inl ⟨rfl, rfl⟩
 ·obtain ⟨k, k1, _, k3⟩ := h1.step hg h hb
  rcases k3 with ⟨_, k4⟩ | ⟨k4, k5⟩
  ·rw [k4]; exact .inl ⟨rfl, rfl⟩
  ·refine .inr ⟨_, k5, .inl ⟨rfl, ?_⟩⟩
   have hlt := (h1.reg h).2.2
   obtain ⟨hj, _, _, e⟩ := rq_cell (h.rq hg) h.many h1.lt (by rw [(h.si.done s h1.lt).nl]; exact hlt) k1 ⟨0, []⟩
   rw [e] at k4 ⊢
   cases hx : l.getD (mvs a.States s)[Qaa g c.L * F.length + k].To.toNat false with
   | false => rfl
   | true =>
    have := (hl.iff s).2 (.step _ h1.lt (Qfy hj) (by omega) ((hl.iff _).1 hx))
    rw [h2] at this
    cases this
 ·omega
theorem SimS.pos {g : Qp} (hg : GQ g) {a : Qn} {F : List Nat} (h : Fz g a F) {l : List Bool} (hl : I5 a.States l) {at_ : Int} {c : Yg} (hs : SimS g a l at_ c) (ha : 0 ≤ at_) : ∃ s', Xl (Tw a l).States at_ = some s' ∧ Qaa g c.L < s'.Rule.length ∧ Qaa g c.L < s'.Next.length ∧ Xl s'.Rule (Qaa g c.L : Int) = some (ruleC g c.L) ∧ ∀ b, b < 256 → ∃ row m, Xl s'.Next (Qaa g c.L : Int) = some row ∧ Xl row (a.Split.Of.f b) = some m ∧ SimS g a l m.To ⟨false, Qas g c b⟩ := by
 rcases hs with ⟨_, h1⟩ | ⟨s, h1, ⟨h2, _⟩ | ⟨x, h2, h3⟩⟩
 ·omega
 ·omega
 ·subst h2
  have hrq := h.rq hg
  have hrp := hrq.trim l
  have hT := hrq.toOk
  obtain ⟨t1, t2, t3, t4, t5⟩ := stands_step hT h.si.n1 hl h3
  obtain ⟨r1, r2⟩ := h1.rule hg h
  have hlt := (h1.reg h).2.2
  have hps : (Tw a l).States = Sm a.States l (a.Counts.length == 0) := rfl
  have hpm : (Tw a l).Split.Many = (F.length : Int) := h.many
  rw [← hps] at t1 t2 t3 t4 t5
  have hst := hrp.st _ (Qfy t1)
  rw [← Ua t1] at hst
  have hcod := (cod_lt (h.si.st s h1.lt).r3).2.2
  have hnl : (stA (Tw a l).States x).Next.length = Qdd (stA a.States s).R.length := by
   have := hst.nl
   rw [t3] at this
   omega
  refine ⟨stA (Tw a l).States x, by rw [Ze t1, Ua t1], by rw [t2]; omega, by omega, by rw [t2]; exact r2, fun b hb => ?_⟩
  obtain ⟨k, k1, k2, k3⟩ := h1.step hg h hb
  obtain ⟨hj, _, _, e⟩ := rq_cell hrq h.many h1.lt (by rw [(h.si.done s h1.lt).nl]; exact hlt) k1 ⟨0, []⟩
  obtain ⟨hj', q1, q2, _⟩ := rq_cell hrp hpm t1 (n := Qaa g c.L) (by omega) k1 ⟨0, []⟩
  refine ⟨_, _, q1, by rw [k2]; exact q2, ?_⟩
  rw [e] at k3
  rcases t5 _ hj' hj with ⟨a1, a2⟩ | ⟨a1, a2, a3⟩
  ·have hneg : (mvs (Tw a l).States x)[Qaa g c.L * F.length + k].To = -1 := by
    rcases hrp.mvs t1 (Qfy hj') with h | h
    ·exact h.1
    ·omega
   rw [hneg]
   rcases k3 with ⟨_, k4⟩ | ⟨k4, k5⟩
   ·rw [k4]; exact .inl ⟨rfl, rfl⟩
   ·rcases a2 with a2 | a2
    ·omega
    ·exact .inr ⟨_, k5, .inl ⟨rfl, a2⟩⟩
  ·rcases k3 with ⟨k4, _⟩ | ⟨_, k5⟩
   ·omega
   ·exact .inr ⟨_, k5, .inr ⟨_, by omega, a3⟩⟩
end Go.Rv
