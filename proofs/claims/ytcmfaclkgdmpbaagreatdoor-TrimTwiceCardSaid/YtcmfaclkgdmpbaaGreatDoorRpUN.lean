/- Trimming, plainly: join, and all of it. -/
import Derived.Test.YtcmfaclkgdmpbaaGreatDoorRpUM
namespace Go.Rv
theorem geti_get {α : Type} {l : List α} {i : Nat} (d : α) (h : i < l.length) : Xa l (i : Int) = some (l.getD i d) := by rw [Zg h, Zc h]
theorem Qe0 {α : Type} {l : List α} {i : Nat} (h : i < l.length) : l.take (i + 1) = l.take i ++ [l[i]] := by
 rw [List.take_add_one, List.getElem?_eq_getElem h]; rfl
theorem idx_new {l : List Nat} {i : Nat} (h : i < l.length) (hn : l[i] ∉ l.take i) : l.idxOf l[i] = i := by
 obtain ⟨h1, h2, h3⟩ := Qh0 h
 refine Decidable.byContradiction fun hc => hn ?_
 have : l[l.idxOf l[i]] ∈ l.take i := by
  rw [List.mem_take_iff_getElem]
  exact ⟨l.idxOf l[i], by omega, rfl⟩
 rw [List.getElem_idxOf h2] at this
 exact this
theorem join_l0 (K : Nat) (t : Qc) (l : List Nat) (hl : l.length ≤ 256) : ∀ (q k i : Nat) (M : List (Int × Int)), l.length - i = q → q < k → i ≤ l.length → (∀ v : Nat, M.lookup (v : Int) = if v ∈ l.take i then some ((l.idxOf v : Nat) : Int) else none) →
  Yo K k (We l) (l.length : Int) (i : Int) t M ((Ti l).take i) = Vc K t (Ti l) := by
 intro q
 induction q with
 | zero =>
  intro k i M hq hk hi hM
  obtain ⟨k, rfl⟩ : ∃ q, k = q + 1 := ⟨k - 1, by omega⟩
  rw [Yo]
  dsimp only
  rw [decide_eq_false (by omega), cF, List.take_of_length_le (by rw [Ti, List.length_map]; omega), bind_id]
 | succ q ih =>
  intro k i M hq hk hi hM
  obtain ⟨k, rfl⟩ : ∃ q, k = q + 1 := ⟨k - 1, by omega⟩
  have hil : i < l.length := by omega
  have hlt : (i : Int) < (l.length : Int) := by omega
  have hjl : i < (Ti l).length := by rw [Ti, List.length_map]; exact hil
  have hjt : (Ti l).take (i + 1) = (Ti l).take i ++ [((l.idxOf l[i] : Nat) : Int)] := by
   rw [Qe0 hjl]
   have := Qce hil
   rw [Zc hjl] at this
   rw [this]
  have hm := hM l[i]
  have htl : ((Ti l).take i).length ≤ 256 := by rw [List.length_take]; omega
  rw [Yo]
  dsimp only
  rw [decide_eq_true hlt, cT, Qfr hil, bS, Zc hil, hm]
  by_cases hin : l[i] ∈ l.take i
  ·rw [if_pos hin, Option.isSome_some, Bool.not_true, cF, Uk, hm, if_pos hin, Option.getD_some, Xh (Yg.2 ⟨by simp only [maxLen, List.length_singleton]; omega, by simp only [List.length_singleton]; omega⟩), Ox (n := i) (by omega), ← hjt]
   refine ih k (i + 1) M (by omega) (by omega) (by omega) fun v => ?_
   rw [hM, Qe0 hil]
   by_cases hv : v ∈ l.take i
   ·rw [if_pos hv, if_pos (List.mem_append.2 (.inl hv))]
   ·rw [if_neg hv, if_neg fun hc => by
     rcases List.mem_append.1 hc with hc | hc
     ·exact hv hc
     ·rw [List.mem_singleton.1 hc] at hv; exact hv hin]
  ·have hM2 : ∀ v : Nat, (M ++ [(((l[i] : Nat) : Int), (i : Int))]).lookup (v : Int) = if v ∈ l.take (i + 1) then some ((l.idxOf v : Nat) : Int) else none := fun v => by
    rw [lookup_app, hM, Qe0 hil]
    by_cases hv : v ∈ l.take i
    ·rw [if_pos hv, if_pos (List.mem_append.2 (.inl hv))]; rfl
    ·rw [if_neg hv, Option.none_or, List.lookup_cons]
     by_cases he : v = l[i]
     ·subst he
      rw [beq_self_eq_true, if_pos (List.mem_append.2 (.inr (List.mem_singleton.2 rfl))), idx_new hil hin]
     ·rw [beq_eq_false_iff_ne.2 (by omega), if_neg fun hc => by
       rcases List.mem_append.1 hc with hc | hc
       ·exact hv hc
       ·exact he (List.mem_singleton.1 hc)]
      rfl
   have hin2 : l[i] ∈ l.take (i + 1) := by rw [Qe0 hil]; exact List.mem_append.2 (.inr (List.mem_singleton.2 rfl))
   rw [if_neg hin, Option.isSome_none, Bool.not_false, cT, Xh rfl, Uk, hM2, if_pos hin2, Option.getD_some, Xh (Yg.2 ⟨by simp only [maxLen, List.length_singleton]; omega, by simp only [List.length_singleton]; omega⟩), Ox (n := i) (by omega), ← hjt]
   exact ih k (i + 1) _ (by omega) (by omega) (by omega) hM2
theorem Ru.withS {a : Ql} (h : Ru a) {S : List Qa} (hs : RQ (withS a S)) : Ru (withS a S) := ⟨hs, h.2⟩
theorem join_ok' {K : Nat} (hK : 10000 ≤ K) {a : Ql} (h : Ru a) : Gy K ⟨a⟩ = some ⟨withS a (Qbf a.States)⟩ := by
 have hb := (Jy h.1.toOk).len
 have hn := h.1.n2
 have := join_l0 K ⟨a⟩ (Vh a.States) (by omega) (Vh a.States).length K 0 [] rfl (by omega) (Nat.zero_le _) fun v => by rw [List.take_zero, if_neg List.not_mem_nil]; rfl
 rw [Int.natCast_zero, List.take_zero, send1_of (by omega) h.1 (by rw [Ti, List.length_map, hb])] at this
 rw [Gy, blocks_ok hK h, bS, show (We (Vh a.States)).length = (Vh a.States).length by rw [We, List.length_map]]
 exact this
theorem of_ok {a : Ql} (h : Ru a) {K : Nat} (hK : 10000000 ≤ K) : ∃ l, Ow a.States l ∧ Su K a = some (Dd a l, 0) := by
 obtain ⟨l, h1, h2⟩ := bury_ok' h hK
 have hcl := h.1.cl
 have hB := h.withS (h.1.bury l)
 refine ⟨l, h1, ?_⟩
 rw [Su, h.auto (by omega), bS, Bool.not_true, cF, Lt, Xh (Yg.2 ⟨by simp only [maxLen, List.length_nil]; omega, by simp only [List.length_nil]; omega⟩), bS, List.nil_append]
 have e : (⟨a.Split, a.Counts, a.States⟩ : Ql) = a := rfl
 rw [e, h2, bS, Dd, Bb]
 dsimp only [Go.Rv.withS] at hB ⊢
 by_cases hc : a.Counts.length = 0
 ·rw [beq_iff_eq.2 (show (a.Counts.length : Int) = 0 by omega), cT, join_ok' (by omega) hB, bS, Nk]
  dsimp only [Go.Rv.withS]
  have := keep_ok (K := K) (by omega) (h.1.bury l).join
  dsimp only [Go.Rv.withS] at this
  rw [this, bS, hc, beq_self_eq_true, if_pos rfl]
 ·rw [beq_eq_false_iff_ne.2 (show (a.Counts.length : Int) ≠ 0 by omega), cF, Nk]
  have := keep_ok (K := K) (by omega) (h.1.bury l)
  dsimp only [Go.Rv.withS] at this
  rw [this, bS, beq_eq_false_iff_ne.2 hc, if_neg (by decide)]
def noA : Ql := ⟨⟨Zi.mk fun _ => 0, 0⟩, [], []⟩
theorem of_bad {a : Ql} {K : Nat} (h : Wl K a = some false) : Su K a = some (noA, 1) := by
 rw [Su, h, bS, Bool.not_false, cT]; rfl
theorem live_bad {a : Ql} {K : Nat} (h : Wl K a = some false) : Db K a = some [] := by
 rw [Db, h, bS, Bool.not_false, cT]
theorem blocks_bad {a : Ql} {K : Nat} (h : Wl K a = some false) : Lr K a = some [] := by
 rw [Lr, h, bS, Bool.not_false, cT]
/- Fuel that is enough. -/
def supL {α : Type} (f : α → Nat) (l : List α) : Nat := l.foldr (fun x n => max (f x) n) 0
theorem le_supL {α : Type} (f : α → Nat) : ∀ {l : List α} {x : α}, x ∈ l → f x ≤ supL f l := by
 intro l
 induction l with
 | nil => intro x h; cases h
 | cons y l ih =>
  intro x h
  simp only [supL, List.foldr_cons]
  rcases List.mem_cons.1 h with rfl | h
  ·omega
  ·have := ih h; simp only [supL] at this; omega
def needK (a : Ql) : Nat :=
 10000000 + a.Counts.length + a.States.length + supL (fun s => s.L.length + s.R.length + s.Next.length + supL (fun r : List Qe => r.length + supL (fun m : Qe => m.Ops.length) r) s.Next) a.States
theorem big_need (a : Ql) {K : Nat} (h : needK a ≤ K) : Qgl a K ∧ 10000000 ≤ K := by
 simp only [needK] at h
 refine ⟨⟨by omega, by omega, by omega, fun s hs => ?_⟩, by omega⟩
 have h1 := le_supL (fun s : Qa => s.L.length + s.R.length + s.Next.length + supL (fun r : List Qe => r.length + supL (fun m : Qe => m.Ops.length) r) s.Next) hs
 refine ⟨by omega, by omega, by omega, fun r hr => ?_⟩
 have h2 := le_supL (fun r : List Qe => r.length + supL (fun m : Qe => m.Ops.length) r) hr
 refine ⟨by omega, fun m hm => ?_⟩
 have h3 := le_supL (fun m : Qe => m.Ops.length) hm
 omega
theorem good_or {a : Ql} (h : Okay a) {K : Nat} (hK : Qgl a K) : (Ru a ∧ Wl K a = some true ∧ X3 K a = some true) ∨ (Qe8 a = false ∧ Wl K a = some false ∧ X3 K a = some false) := by
 have h1 := autoRight K a h hK
 have h2 := refRight K a h hK
 by_cases hr : Qe8 a = true
 ·rw [hr] at h1 h2
  exact .inl ⟨⟨Qhw.1 hr, h.split⟩, h1, h2⟩
 ·have hf : Qe8 a = false := by simpa using hr
  rw [hf] at h1 h2
  exact .inr ⟨hf, h1, h2⟩
theorem shown_add (k : Nat) : Li (k + 400) = some true := by kernel_rfl
theorem shown_at {K : Nat} (hK : 400 ≤ K) : Li K = some true := by
 obtain ⟨k, rfl⟩ : ∃ k, K = k + 400 := ⟨K - 400, by omega⟩
 exact shown_add k
end Go.Rv
