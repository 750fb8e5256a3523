/- Trimming, plainly: what was trimmed stays. -/
import Derived.Test.YtcmfaclkgdmpbaaGreatDoorRpUU
namespace Go.Rv
theorem sendL_id {to : List Int} {S : List Qa} (h : ∀ s ∈ S, ∀ r ∈ s.Next, ∀ m ∈ r, K8 to m = m) : Df to S = S := by
 rw [Df]
 refine (List.map_congr_left fun s hs => ?_).trans (List.map_id S)
 rw [Pr]
 have : s.Next.map (fun r => r.map (K8 to)) = s.Next := (List.map_congr_left fun r hr => (List.map_congr_left fun m hm => h s hs r hr m hm).trans (List.map_id r)).trans (List.map_id s.Next)
 rw [this]
 rfl
theorem Qhv {a : Ql} (h : RQ a) {to : List Int} (ht : ∀ i, 1 ≤ i → i < a.States.length → to.getD i (-1) = (i : Int)) : Df to a.States = a.States :=
 sendL_id fun s hs r hr m hm => by
  rcases (h.st s hs).mv r hr m hm with ⟨h1, h2⟩ | ⟨h1, h2, _⟩
  ·rw [Qhj (by omega)]
   cases m with | mk T O => dsimp only at h1 h2; rw [h1, h2]
  ·have := ht m.To.toNat (by omega) (by omega)
   rw [K8, this, if_pos ⟨by omega, by omega⟩, Int.toNat_of_nonneg (by omega)]
theorem bfs_fuel {S : List Qa} : ∀ (k i : Nat) (o : List Nat), (bfs S (k + 1) i o).length < k + i → bfs S k i o = bfs S (k + 1) i o := by
 intro k
 induction k with
 | zero =>
  intro i o h
  rw [bfs] at h ⊢
  rw [bfs]
  by_cases hi : i < o.length
  ·rw [if_pos hi, bfs] at h
   obtain ⟨t, ht⟩ := Qh1 (mvs S (o.getD i 0)) o
   rw [ht, List.length_append] at h; omega
  ·rw [if_neg hi]
 | succ k ih =>
  intro i o h
  rw [bfs] at h ⊢
  rw [bfs]
  by_cases hi : i < o.length
  ·rw [if_pos hi] at h ⊢
   rw [if_pos hi]
   exact ih (i + 1) _ (by omega)
  ·rw [if_neg hi, if_neg hi]
theorem bfs_down {S : List Qa} {i : Nat} {o : List Nat} : ∀ (d k : Nat), (bfs S (k + d) i o).length < k + i → bfs S k i o = bfs S (k + d) i o := by
 intro d
 induction d with
 | zero => intro k _; rfl
 | succ d ih =>
  intro k h
  have h1 : bfs S (k + d) i o = bfs S (k + d + 1) i o := bfs_fuel (k + d) i o (by rw [← Nat.add_assoc] at h; omega)
  rw [← Nat.add_assoc, ← h1]
  exact ih k (by rw [h1]; exact h)
theorem bfs_map {S : List Qa} (hT : toOk S) (h0 : 0 < S.length) : ∀ (k i : Nat) (o : List Nat), (∀ x ∈ o, x ∈ Z1 S) → bfs (Po S) k i (o.map (Z1 S).idxOf) = (bfs S k i o).map (Z1 S).idxOf := by
 have ho := Kn hT h0
 intro k
 induction k with
 | zero => intro i o _; rfl
 | succ k ih =>
  intro i o hin
  rw [bfs, bfs, List.length_map]
  by_cases hi : i < o.length
  ·have hx := hin _ (List.getElem_mem hi)
   have hg := List.idxOf_lt_length_iff.2 hx
   rw [if_pos hi, if_pos hi, Zc (by rw [List.length_map]; exact hi), List.getElem_map, Zc hi, keep_mvs hg, List.getElem_idxOf hg]
   have hfold : ∀ (ms : List Qe) (o : List Nat), (∀ m ∈ ms, 0 ≤ m.To → m.To.toNat ∈ Z1 S ∧ K8 (C5 S.length (Z1 S)) m = ⟨((Z1 S).idxOf m.To.toNat : Int), m.Ops⟩) → (∀ x ∈ o, x ∈ Z1 S) → (ms.map (K8 (C5 S.length (Z1 S)))).foldl Qeq (o.map (Z1 S).idxOf) = (ms.foldl Qeq o).map (Z1 S).idxOf ∧ ∀ x ∈ ms.foldl Qeq o, x ∈ Z1 S := by
    intro ms
    induction ms with
    | nil => intro o _ h; exact ⟨rfl, h⟩
    | cons m ms ihm =>
     intro o hm h
     have hstep : Qeq (o.map (Z1 S).idxOf) (K8 (C5 S.length (Z1 S)) m) = (Qeq o m).map (Z1 S).idxOf ∧ ∀ x ∈ Qeq o m, x ∈ Z1 S := by
      by_cases hc : 0 ≤ m.To
      ·obtain ⟨g1, g2⟩ := hm m List.mem_cons_self hc
       refine ⟨?_, fun x hx' => ?_⟩
       ·rw [g2, Qeq, Qeq]
        dsimp only
        rw [Int.toNat_natCast]
        by_cases hmem : m.To.toNat ∈ o
        ·rw [if_neg fun hh => hh.2 (List.mem_map.2 ⟨_, hmem, rfl⟩), if_neg fun hh => hh.2 hmem]
        ·rw [if_pos ⟨by omega, fun hh => by
          obtain ⟨y, hy, e⟩ := List.mem_map.1 hh
          have g3 := List.idxOf_lt_length_iff.2 (h y hy)
          have g4 := List.idxOf_lt_length_iff.2 g1
          have e2 : y = m.To.toNat := by
           rw [← List.getElem_idxOf g3, ← List.getElem_idxOf g4]
           congr 1
          rw [e2] at hy
          exact hmem hy⟩, if_pos ⟨hc, hmem⟩, List.map_append]
         rfl
       ·rcases addO_mem.1 hx' with h' | ⟨_, rfl⟩
        ·exact h x h'
        ·exact g1
      ·have e : K8 (C5 S.length (Z1 S)) m = ⟨-1, []⟩ := Qhj (by omega)
       refine ⟨?_, fun x hx' => ?_⟩
       ·rw [e, Qeq, Qeq, if_neg (fun hh => absurd hh.1 (by decide)), if_neg (fun hh => hc hh.1)]
       ·rcases addO_mem.1 hx' with h' | ⟨h', _⟩
        ·exact h x h'
        ·exact absurd h' hc
     rw [List.map_cons, List.foldl_cons, List.foldl_cons, hstep.1]
     exact ihm (Qeq o m) (fun m' hm' => hm m' (List.mem_cons_of_mem _ hm')) hstep.2
   obtain ⟨f1, f2⟩ := hfold (mvs S o[i]) o (fun m hm hc => ⟨ho.closed _ hx m hm hc, Qfn hT h0 hx hm hc⟩) hin
   rw [f1]
   exact ih (i + 1) _ f2
  ·rw [if_neg hi, if_neg hi]
theorem order_keep {S : List Qa} (hT : toOk S) (h0 : 0 < S.length) : Z1 (Po S) = List.range (Po S).length := by
 have ho := Kn hT h0
 obtain ⟨z1, z2, z3⟩ := Qcs hT h0
 have hle := Qfj hT h0
 have h1 : bfs S ((Z1 S).length + 1) 0 [0] = Z1 S := by
  have := bfs_down (S := S) (i := 0) (o := [0]) (S.length - (Z1 S).length) ((Z1 S).length + 1)
  rw [show (Z1 S).length + 1 + (S.length - (Z1 S).length) = S.length + 1 by omega] at this
  exact this (by show (Z1 S).length < _; omega)
 have h2 := bfs_map hT h0 ((Z1 S).length + 1) 0 [0] fun x hx => by rw [List.mem_singleton.1 hx, ← z2, Zc z1]; exact List.getElem_mem z1
 rw [h1, List.map_cons, List.map_nil, z3] at h2
 rw [Z1, B1, h2]
 refine List.ext_getElem (by rw [List.length_map, List.length_range]) fun i hi _ => ?_
 rw [List.length_map] at hi
 rw [List.getElem_map, List.getElem_range]
 have g := List.idxOf_lt_length_iff.2 (List.getElem_mem hi)
 exact (List.getElem_inj ho.nodup).1 (List.getElem_idxOf g)
theorem range_idx {n i : Nat} (h : i < n) : (List.range n).idxOf i = i := by
 have g : (List.range n).idxOf i < (List.range n).length := List.idxOf_lt_length_iff.2 (List.mem_range.2 h)
 have := List.getElem_idxOf g
 rw [List.getElem_range] at this
 exact this
theorem trim_twice {a : Ql} (h : RQ a) {l l' : List Bool} (hl : Ow a.States l) (hl' : Ow (Dd a l).States l') : Dd (Dd a l) l' = Dd a l := by
 have h0 := h.n1
 have hp := h.trim l
 have hp0 := hp.n1
 obtain ⟨m1, m2, _⟩ := Qhl (a.Counts.length == 0) h.toOk hl
 have hst : (Dd a l).States = Bb a.States l (a.Counts.length == 0) := rfl
 have hbury : Uu (Dd a l).States l' = (Dd a l).States := Qhv hp fun i h1 h2 => by
  rw [Qch, if_pos ((hl'.iff i).2 (trim_live h.toOk (by omega) hl h1 (by rw [← hst]; exact h2)))]
 have hkeep : Po (Dd a l).States = (Dd a l).States := by
  have ho : Z1 (Dd a l).States = List.range (Dd a l).States.length := by
   rw [hst, I1]
   exact order_keep m1 (by omega)
  have hk : Df (C5 (Dd a l).States.length (List.range (Dd a l).States.length)) (Dd a l).States = (Dd a l).States := Qhv hp fun i h1 h2 => by
   rw [Sk h2, if_pos (List.mem_range.2 h2), range_idx h2]
  rw [Po, ho]
  refine List.ext_getElem (by rw [List.length_map, List.length_range]) fun i hi h2 => ?_
  rw [List.getElem_map, List.getElem_range, M5 h2]
  have := congrArg (fun q => q[i]?) hk
  simp only [Df, List.getElem?_map, List.getElem?_eq_getElem h2, Option.map_some] at this
  exact Option.some.inj this
 have hmid : Sq (Dd a l).States l' (a.Counts.length == 0) = (Dd a l).States := by
  rw [Sq, hbury]
  split
  ·next hc =>
   have hb := Jy hp.toOk
   have hown : Vh (Dd a l).States = List.range (Dd a l).States.length := hb.own fun i j hi hj he => by
    rw [hst, hc] at hi hj he
    refine trim_own h.toOk (by omega) hl ?_ hi hj he
    have := hp.toOk
    rw [hst, hc] at this
    exact this
   exact Qhv hp fun i h1 h2 => by
    rw [hown, Qce (by rw [List.length_range]; exact h2), List.getElem_range, range_idx h2]
  ·rfl
 show withS (Dd a l) (Bb (Dd a l).States l' (a.Counts.length == 0)) = _
 rw [I1, hmid, hkeep]
 rfl
end Go.Rv
