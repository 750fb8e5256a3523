/- Trimming, plainly: join, and all of it. -/
import Derived.Test.YtcmfaclkgdmpbaaGreatDoorRpUM
namespace Go.Rv
theorem Qb3 {α : Type} {l : List α} {i : Nat} (d : α) (h : i < l.length) : Yb l (i : Int) = some (l.getD i d) := by rw [Q2 h, Zb h]
theorem T4 {α : Type} {l : List α} {i : Nat} (h : i < l.length) : l.take (i + 1) = l.take i ++ [l[i]] := by
 rw [List.take_add_one, List.getElem?_eq_getElem h]; rfl
theorem idx_new {l : List Nat} {i : Nat} (h : i < l.length) (hn : l[i] ∉ l.take i) : l.idxOf l[i] = i := by
 obtain ⟨h1, h2, h3⟩ := idx_first h
 refine Decidable.byContradiction fun hc => hn ?_
 have : l[l.idxOf l[i]] ∈ l.take i := by
  rw [Qpd]
  exact ⟨l.idxOf l[i], by omega, rfl⟩
 rw [Qoe h2] at this
 exact this
theorem join_l0 (K : Nat) (t : Qe) (l : List Nat) (hl : l.length ≤ 256) : ∀ (q k i : Nat) (M : List (Int × Int)), l.length - i = q → q < k → i ≤ l.length → (∀ v : Nat, M.lookup (v : Int) = if v ∈ l.take i then some ((l.idxOf v : Nat) : Int) else none) →
  Yo K k (Z0 l) (l.length : Int) (i : Int) t M ((Qb2 l).take i) = Vl K t (Qb2 l) := by
 intro q
 induction q with
 | zero =>
  intro k i M hq hk hi hM
  obtain ⟨k, rfl⟩ : ∃ q, k = q + 1 := ⟨k - 1, by omega⟩
  rw [Yo]
  dsimp only
  rw [Qme (by omega), cF, Qnc (by rw [Qb2, Qmf]; omega), bind_id]
 | succ q ih =>
  intro k i M hq hk hi hM
  obtain ⟨k, rfl⟩ : ∃ q, k = q + 1 := ⟨k - 1, by omega⟩
  have hil : i < l.length := by omega
  have hlt : (i : Int) < (l.length : Int) := by omega
  have hjl : i < (Qb2 l).length := by rw [Qb2, Qmf]; exact hil
  have hjt : (Qb2 l).take (i + 1) = (Qb2 l).take i ++ [((l.idxOf l[i] : Nat) : Int)] := by
   rw [T4 hjl]
   have := Qlp hil
   rw [Zb hjl] at this
   rw [this]
  have hm := hM l[i]
  have htl : ((Qb2 l).take i).length ≤ 256 := by rw [Qna]; omega
  rw [Yo]
  dsimp only
  rw [Qmk hlt, cT, Wz hil, bS, Zb hil, hm]
  by_cases hin : l[i] ∈ l.take i
  ·rw [if_pos hin, Option.isSome_some, Qm5, cF, Uu, hm, if_pos hin, Qnv, Z5 (Zn.2 ⟨by simp only [maxLen, Qmh]; omega, by simp only [Qmh]; omega⟩), B1 (n := i) (by omega), ← hjt]
   refine ih k (i + 1) M (by omega) (by omega) (by omega) fun v => ?_
   rw [hM, T4 hil]
   by_cases hv : v ∈ l.take i
   ·rw [if_pos hv, if_pos (Qmj.2 (.inl hv))]
   ·rw [if_neg hv, if_neg fun hc => by
     rcases Qmj.1 hc with hc | hc
     ·exact hv hc
     ·rw [Qmp.1 hc] at hv; exact hv hin]
  ·have hM2 : ∀ v : Nat, (M ++ [(((l[i] : Nat) : Int), (i : Int))]).lookup (v : Int) = if v ∈ l.take (i + 1) then some ((l.idxOf v : Nat) : Int) else none := fun v => by
    rw [lookup_app, hM, T4 hil]
    by_cases hv : v ∈ l.take i
    ·rw [if_pos hv, if_pos (Qmj.2 (.inl hv))]; rfl
    ·rw [if_neg hv, Option.none_or, Qnr]
     by_cases he : v = l[i]
     ·subst he
      rw [Qnn, if_pos (Qmj.2 (.inr (Qmp.2 rfl))), idx_new hil hin]
     ·rw [Qmt.2 (by omega), if_neg fun hc => by
       rcases Qmj.1 hc with hc | hc
       ·exact hv hc
       ·exact he (Qmp.1 hc)]
      rfl
   have hin2 : l[i] ∈ l.take (i + 1) := by rw [T4 hil]; exact Qmj.2 (.inr (Qmp.2 rfl))
   rw [if_neg hin, Option.isSome_none, Qm4, cT, Z5 rfl, Uu, hM2, if_pos hin2, Qnv, Z5 (Zn.2 ⟨by simp only [maxLen, Qmh]; omega, by simp only [Qmh]; omega⟩), B1 (n := i) (by omega), ← hjt]
   exact ih k (i + 1) _ (by omega) (by omega) (by omega) hM2
theorem Sg.withS {a : Qc} (h : Sg a) {S : List Qa} (hs : RQ (withS a S)) : Sg (withS a S) := ⟨hs, h.2⟩
theorem join_ok' {K : Nat} (hK : 10000 ≤ K) {a : Qc} (h : Sg a) : Gn K ⟨a⟩ = some ⟨withS a (joinL a.States)⟩ := by
 have hb := (Qb6 h.1.toOk).len
 have hn := h.1.n2
 have := join_l0 K ⟨a⟩ (Lc a.States) (by omega) (Lc a.States).length K 0 [] rfl (by omega) (Qmm _) fun v => by rw [Qpk, if_neg Qor]; rfl
 rw [Qmr, Qpk, send1_of (by omega) h.1 (by rw [Qb2, Qmf, hb])] at this
 rw [Gn, blocks_ok hK h, bS, show (Z0 (Lc a.States)).length = (Lc a.States).length by rw [Z0, Qmf]]
 exact this
theorem of_ok {a : Qc} (h : Sg a) {K : Nat} (hK : 10000000 ≤ K) : ∃ l, Qge a.States l ∧ Qef K a = some (trimA a l, 0) := by
 obtain ⟨l, h1, h2⟩ := bury_ok' h hK
 have hcl := h.1.cl
 have hB := h.withS (h.1.bury l)
 refine ⟨l, h1, ?_⟩
 rw [Qef, h.auto (by omega), bS, Qm5, cF, Lu, Z5 (Zn.2 ⟨by simp only [maxLen, Qm8]; omega, by simp only [Qm8]; omega⟩), bS, Qmq]
 have e : (⟨a.Split, a.Counts, a.States⟩ : Qc) = a := rfl
 rw [e, h2, bS, trimA, trimL]
 dsimp only [Go.Rv.withS] at hB ⊢
 by_cases hc : a.Counts.length = 0
 ·rw [Qn0.2 (show (a.Counts.length : Int) = 0 by omega), cT, join_ok' (by omega) hB, bS, Oz]
  dsimp only [Go.Rv.withS]
  have := keep_ok (K := K) (by omega) (h.1.bury l).join
  dsimp only [Go.Rv.withS] at this
  rw [this, bS, hc, Qnn, if_pos rfl]
 ·rw [Qmt.2 (show (a.Counts.length : Int) ≠ 0 by omega), cF, Oz]
  have := keep_ok (K := K) (by omega) (h.1.bury l)
  dsimp only [Go.Rv.withS] at this
  rw [this, bS, Qmt.2 hc, if_neg (by decide)]
def noA : Qc := ⟨⟨Q5.mk fun _ => 0, 0⟩, [], []⟩
theorem of_bad {a : Qc} {K : Nat} (h : Wo K a = some false) : Qef K a = some (noA, 1) := by
 rw [Qef, h, bS, Qm4, cT]; rfl
theorem live_bad {a : Qc} {K : Nat} (h : Wo K a = some false) : If K a = some [] := by
 rw [If, h, bS, Qm4, cT]
theorem blocks_bad {a : Qc} {K : Nat} (h : Wo K a = some false) : Lt K a = some [] := by
 rw [Lt, h, bS, Qm4, cT]
/- Fuel that is enough. -/
def supL {α : Type} (f : α → Nat) (l : List α) : Nat := l.foldr (fun x n => max (f x) n) 0
theorem le_supL {α : Type} (f : α → Nat) : ∀ {l : List α} {x : α}, x ∈ l → f x ≤ supL f l := by
 intro l
 induction l with
 | nil => intro x h; cases h
 | cons y l ih =>
  intro x h
  simp only [supL, List.foldr_cons]
  rcases Qnx.1 h with rfl | h
  ·omega
  ·have := ih h; simp only [supL] at this; omega
def needK (a : Qc) : Nat :=
 10000000 + a.Counts.length + a.States.length + supL (fun s => s.L.length + s.R.length + s.Next.length + supL (fun r : List Qd => r.length + supL (fun m : Qd => m.Ops.length) r) s.Next) a.States
theorem big_need (a : Qc) {K : Nat} (h : needK a ≤ K) : Qjw a K ∧ 10000000 ≤ K := by
 simp only [needK] at h
 refine ⟨⟨by omega, by omega, by omega, fun s hs => ?_⟩, by omega⟩
 have h1 := le_supL (fun s : Qa => s.L.length + s.R.length + s.Next.length + supL (fun r : List Qd => r.length + supL (fun m : Qd => m.Ops.length) r) s.Next) hs
 refine ⟨by omega, by omega, by omega, fun r hr => ?_⟩
 have h2 := le_supL (fun r : List Qd => r.length + supL (fun m : Qd => m.Ops.length) r) hr
 refine ⟨by omega, fun m hm => ?_⟩
 have h3 := le_supL (fun m : Qd => m.Ops.length) hm
 omega
theorem good_or {a : Qc} (h : Okay a) {K : Nat} (hK : Qjw a K) : (Sg a ∧ Wo K a = some true ∧ Yj K a = some true) ∨ (Qik a = false ∧ Wo K a = some false ∧ Yj K a = some false) := by
 have h1 := autoRight K a h hK
 have h2 := refRight K a h hK
 by_cases hr : Qik a = true
 ·rw [hr] at h1 h2
  exact .inl ⟨⟨Qlh.1 hr, h.split⟩, h1, h2⟩
 ·have hf : Qik a = false := by simpa using hr
  rw [hf] at h1 h2
  exact .inr ⟨hf, h1, h2⟩
theorem shown_add (k : Nat) : G9 (k + 400) = some true := by kernel_rfl
theorem shown_at {K : Nat} (hK : 400 ≤ K) : G9 K = some true := by
 obtain ⟨k, rfl⟩ : ∃ k, K = k + 400 := ⟨K - 400, by omega⟩
 exact shown_add k
end Go.Rv
