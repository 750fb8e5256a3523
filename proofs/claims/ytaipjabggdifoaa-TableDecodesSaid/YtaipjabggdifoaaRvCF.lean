/- A LOGIC OF ABSTRACT STATES OVER THE MODEL, part CD: an element of an array whose slices grow while a pointer leads to it; an array of bytes filled from a text. -/
/- A LOGIC OF ABSTRACT STATES OVER THE MODEL, part CE: an array of bytes in a variable, filled from a text. -/
/- A LOGIC OF ABSTRACT STATES OVER THE MODEL, part CF: strings.Repeat by the library's contract. -/
import Derived.Test.YtaipjabggdifoaaRvCA
import Derived.Lib.BufferWrite
import Derived.Lib.ConvBytes
import Derived.Test.YtaipjabggdifoaaRvCB
import Derived.Shelf.Strings.Repeat
namespace Go.Rv
def elP (v : Value) (esz i q : Nat) : Value := match v with
 | .slice (some a) _ _ => .pointer (some ⟨a.block, i * esz + q, none⟩)
 | _ => .pointer (some ⟨0, i * esz + q, none⟩)
def Hd (es : List (List DC)) (n : Nat) (a b : Value) : List (List DC) := es.modify n fun c => c.take 2 ++ [.ex a, .ex b]
theorem Hq (es : List (List DC)) (n : Nat) (a b : Value) : (Hd es n a b).length = es.length := by simp [Hd]
theorem G4 {es : List (List DC)} {n : Nat} {a b : Value} {j : Nat} {c : List DC} (h : es[j]? = some c) : (Hd es n a b)[j]? = some (if n = j then c.take 2 ++ [.ex a, .ex b] else c) := by
 simp [Hd, List.getElem?_modify, h]
theorem hole_set {es : List (List DC)} {n : Nat} {a b a' b' : Value} {c : List DC} (h : es[n]? = some c) : (Hd es n a b).set n (c.take 2 ++ [.ex a', .ex b']) = Hd es n a' b' := by
 apply List.ext_getElem?
 intro j
 have hn := (List.getElem?_eq_some_iff.1 h).1
 by_cases hj : j = n
 ·subst hj
  rw [List.getElem?_set_self (by rw [Hq]; exact hn), G4 h, if_pos rfl]
 ·rw [List.getElem?_set_ne (fun h => hj h.symm)]
  have e : ¬ n = j := fun h => hj h.symm
  simp only [Hd, List.getElem?_modify, e, if_false]
theorem Qba {α : Type} {xs : List α} {f : α → List DC} {n : Nat} {a b : Value} {j : Nat} {c : α} (h : xs[j]? = some c) : j < (Hd (xs.map f) n a b).length := by
 rw [Hq, List.length_map]
 exact (List.getElem?_eq_some_iff.1 h).1
theorem take2_cell {c : List DC} {q : Nat} {d : DC} (x : List DC) (h : c[q]? = some d) (hq : q < 2) : (c.take 2 ++ x)[q]? = some d := by
 have hl := (List.getElem?_eq_some_iff.1 h).1
 rw [List.getElem?_append_left (by rw [List.length_take]; omega), List.getElem?_take, if_pos hq]
 exact h
theorem take2_a {c : List DC} (h : c.length = 4) (a b : DC) : (c.take 2 ++ [a, b])[2]? = some a ∧ (c.take 2 ++ [a, b])[3]? = some b := by
 match c, h with
 | [_, _, _, _], _ => exact ⟨rfl, rfl⟩
section
variable {P : Program} {N : Nat} {s : St} {o : Oper} {K : St → Prop} {Q : Exit → St → Prop} {ops : Array Oper}
theorem OpT.lenHM {α : Type} {t : TypeId} {e e' : TypeId} {x : Operand} {v : Value} {i esz lo n : Nat} {a b : Value} {xs : List α} {f : α → List DC} (ho : o.op = .call { callee := .builtin .len, args := #[x], argTypes := #[t] }) (hN : ∀ d, o.dst = some d → d < N) (ht : P.underlying t = some (.slice e))
  (hx : s.ev x = some (.c (.ex v))) (hi : s.tab[i]? = some (.arrX v e' esz lo (Hd (xs.map f) n a b))) (k' : K (s.putO o.dst (.int .i64 xs.length))) : OpT P N o s K :=
 Zd _ hN (fun F L a w hr => by
  obtain ⟨r1, r2, h1, h2, hp⟩ := hr.heap.get hi
  obtain ⟨ad, c, rfl⟩ := h1.lenX
  refine ⟨.int .i64 xs.length, ?_, .c _ _ (.ex _ rfl)⟩
  simp [execOp, ho, resolve, hr.exact hx, invoke, builtin, Builtin.len_, run_underlying ht, goInt, Hq]) k'
theorem OpT.indexHM {α : Type} {t e e' : TypeId} {x i : Operand} {k : IntKind} {j : Int} {v : Value} {n esz lo m : Nat} {a b : Value} {xs : List α} {f : α → List DC} {old : α} {z : Value} {by_ : Nat} (ho : o.op = .indexAddr t x i) (hN : ∀ d, o.dst = some d → d < N) (ht : P.underlying t = some (.slice e))
  (hei : Zo P e z esz by_) (hx : s.ev x = some (.c (.ex v))) (hn : s.tab[n]? = some (.arrX v e' esz lo (Hd (xs.map f) m a b))) (hi : s.ev i = some (.int k j)) (hd : X4 xs j = some old) (k' : K (s.putO o.dst (.el v esz j.toNat 0))) : OpT P N o s K :=
 OpT.indexX ho hN ht hei hx hn hi (Z0 hd).1 (G4 (Mo f (Z0 hd).2)) k'
theorem OpT.loadHM {α : Type} {t : TypeId} {dt : TypeDesc} {x : Operand} {v : Value} {i j q lo esz m : Nat} {a b : Value} {e : TypeId} {xs : List α} {f : α → List DC} {old : α} {d : DC} (ho : o.op = .load t x) (hN : ∀ d, o.dst = some d → d < N) (ht : P.underlying t = some dt) (hfl : TypeDesc.flat dt = true)
  (hx : s.ev x = some (.el v esz j q)) (hi : s.tab[i]? = some (.arrX v e esz lo (Hd (xs.map f) m a b))) (hj : xs[j]? = some old) (hq : q < 2) (hd : (f old)[q]? = some d) (k : K (s.putO o.dst (.c d))) : OpT P N o s K :=
 Si ho hN ht hfl hx hi (G4 (Mo f hj)) (by
  split
  ·exact take2_cell _ hd hq
  ·exact hd) k
theorem OpT.loadHA {α : Type} {t : TypeId} {dt : TypeDesc} {x : Operand} {v : Value} {i j lo esz : Nat} {a b : Value} {e : TypeId} {xs : List α} {f : α → List DC} {old : α} (ho : o.op = .load t x) (hN : ∀ d, o.dst = some d → d < N) (ht : P.underlying t = some dt) (hfl : TypeDesc.flat dt = true)
  (hx : s.ev x = some (.el v esz j 2)) (hi : s.tab[i]? = some (.arrX v e esz lo (Hd (xs.map f) j a b))) (hj : xs[j]? = some old) (h4 : (f old).length = 4) (k : K (s.putO o.dst (.c (.ex a)))) : OpT P N o s K :=
 Si ho hN ht hfl hx hi (G4 (Mo f hj)) (by rw [if_pos rfl]; exact (take2_a h4 _ _).1) k
theorem OpT.loadHB {α : Type} {t : TypeId} {dt : TypeDesc} {x : Operand} {v : Value} {i j lo esz : Nat} {a b : Value} {e : TypeId} {xs : List α} {f : α → List DC} {old : α} (ho : o.op = .load t x) (hN : ∀ d, o.dst = some d → d < N) (ht : P.underlying t = some dt) (hfl : TypeDesc.flat dt = true)
  (hx : s.ev x = some (.el v esz j 3)) (hi : s.tab[i]? = some (.arrX v e esz lo (Hd (xs.map f) j a b))) (hj : xs[j]? = some old) (h4 : (f old).length = 4) (k : K (s.putO o.dst (.c (.ex b)))) : OpT P N o s K :=
 Si ho hN ht hfl hx hi (G4 (Mo f hj)) (by rw [if_pos rfl]; exact (take2_a h4 _ _).2) k
theorem OpT.storeHA {α : Type} {t : TypeId} {x y : Operand} {v : Value} {i j lo : Nat} {a b a' : Value} {e : TypeId} {xs : List α} {f : α → List DC} {old : α} {z : Value} {by_ : Nat} (ho : o.op = .store t x y) (hdst : o.dst = none) (hei : Zo P t z 1 by_)
  (hx : s.ev x = some (.el v 4 j 2)) (hy : s.ev y = some (.c (.ex a'))) (hi : s.tab[i]? = some (.arrX v e 4 lo (Hd (xs.map f) j a b))) (hj : xs[j]? = some old) (hlo : lo ≤ j) (h4 : (f old).length = 4) (k : K { s with tab := s.tab.set i (.arrX v e 4 lo (Hd (xs.map f) j a' b)) }) : OpT P N o s K :=
 OpT.storeX ho hdst hei hx hy hi (G4 (Mo f hj)) hlo (by decide) (by
  have e1 : ∀ c : List DC, c.length = 4 → (c.take 2 ++ [DC.ex a, DC.ex b]).take 2 ++ [DC.ex a'] ++ (c.take 2 ++ [DC.ex a, DC.ex b]).drop (2 + 1) = c.take 2 ++ [DC.ex a', DC.ex b] := fun c hc => by
   match c, hc with
   | [_, _, _, _], _ => rfl
  rw [if_pos rfl, e1 _ h4, hole_set (Mo f hj)]
  exact k)
theorem OpT.storeHB {α : Type} {t : TypeId} {x y : Operand} {v : Value} {i j lo : Nat} {a b b' : Value} {e : TypeId} {xs : List α} {f : α → List DC} {old : α} {z : Value} {by_ : Nat} (ho : o.op = .store t x y) (hdst : o.dst = none) (hei : Zo P t z 1 by_)
  (hx : s.ev x = some (.el v 4 j 3)) (hy : s.ev y = some (.c (.ex b'))) (hi : s.tab[i]? = some (.arrX v e 4 lo (Hd (xs.map f) j a b))) (hj : xs[j]? = some old) (hlo : lo ≤ j) (h4 : (f old).length = 4) (k : K { s with tab := s.tab.set i (.arrX v e 4 lo (Hd (xs.map f) j a b')) }) : OpT P N o s K :=
 OpT.storeX ho hdst hei hx hy hi (G4 (Mo f hj)) hlo (by decide) (by
  have e1 : ∀ c : List DC, c.length = 4 → (c.take 2 ++ [DC.ex a, DC.ex b]).take 3 ++ [DC.ex b'] ++ (c.take 2 ++ [DC.ex a, DC.ex b]).drop (3 + 1) = c.take 2 ++ [DC.ex a, DC.ex b'] := fun c hc => by
   match c, hc with
   | [_, _, _, _], _ => rfl
  rw [if_pos rfl, e1 _ h4, hole_set (Mo f hj)]
  exact k)
/- Addresses of elements, kept in variables. -/
theorem Zn.elExact (d : Nat) {v : Value} {esz i q : Nat} (hd : s.slots.lookup d = some (.el v esz i q)) : Zn s ⟨(d, .c (.ex (elP v esz i q))) :: s.slots, s.tab⟩ :=
 Zn.slot d _ fun N F L a w hr => by
  have h := hr.avr hd
  generalize a.tmps.getD d undef = p at h
  cases h with
  | el g n cap => exact .c _ _ (.ex _ rfl)
theorem Ea {sl : List (Nat × AV)} {tab : List Ob} (d i : Nat) {v : Value} {e : TypeId} {esz lo j q : Nat} {elems : List (List DC)} (hi : tab[i]? = some (.arrX v e esz lo elems)) (hj : j < elems.length) : Zn ⟨(d, .c (.ex (elP v esz j q))) :: sl, tab⟩ ⟨(d, .el v esz j q) :: sl, tab⟩ :=
 (Zn.slot (s := ⟨(d, .c (.ex (elP v esz j q))) :: sl, tab⟩) d (.el v esz j q) (fun N F L a w hr => by
  have h := hr.avr (d := d) (x := .c (.ex (elP v esz j q))) (by simp)
  obtain ⟨r1, r2, h1, -, -⟩ := hr.heap.get (i := i) hi
  rw [h.exact.1]
  cases h1 with
  | arrX0 a => simp at hj
  | arrX g cap cur => exact .el g _ cap esz j q)).trans (Kf (s := ⟨(d, .el v esz j q) :: (d, .c (.ex (elP v esz j q))) :: sl, tab⟩) _ (fun t u h => by
  simp only [List.lookup_cons] at h ⊢
  cases he : (t == d) with
  | true => rw [he] at h; exact h
  | false => rw [he] at h; exact h))
/- Objects told anew, the world as it is. -/
theorem Rel.retell {w : World} {F L : Reg} {a : Act} {i : Nat} {o o' : Ob} (hr : Rel w N F L s a) (hi : s.tab[i]? = some o) (h : ∀ r, ObR w (L ++ F) o r → ObR w (L ++ F) o' r) : ∃ L', Rel w N F L' ⟨s.slots, s.tab.set i o'⟩ a ∧ L'.Perm L := by
 obtain ⟨r1, r2, h1, h2, hp⟩ := hr.heap.get hi
 have hlt : i < s.tab.length := (List.getElem?_eq_some_iff.1 hi).1
 obtain ⟨L', h3, hp'⟩ := X6.set' (h r1 h1) h2 hlt
 have hp2 : L'.Perm L := hp'.trans hp.symm
 have hsame : Reg.same (L' ++ F) (L ++ F) := Kt hp2
 refine ⟨L', ⟨hr.defers, hr.size, fun t v hv => (hr.slot t v hv).less fun b off hw => hsame.wr.1 hw, h3.congr fun b off => hsame.wr, ?_, fun _ hp3 => hr.lt _ ((hsame _).1 hp3)⟩, hp2⟩
 exact ((List.Perm.append_right F hp2).map _).nodup_iff.2 hr.nodup
theorem Ext.perm {w : World} {L L' : Reg} (h : L'.Perm L) : Ext L w L' w := (Ext.refl L w).congr (fun _ => Iff.rfl) (fun p => (h.mem_iff).symm)
theorem Zn.retell (i : Nat) {o o' : Ob} (hi : s.tab[i]? = some o) (h : ∀ (w : World) (M L : Reg) (r : Reg), X6 w M s.tab L → ObR w M o r → ObR w M o' r) : Zn s ⟨s.slots, s.tab.set i o'⟩ := fun N F L a w hr => by
 obtain ⟨L', h1, h2⟩ := hr.retell hi (fun r ho => h w _ L r hr.heap ho)
 exact ⟨L', h1, Ext.perm h2⟩
def TurnN (s : St) (s' : (Nat → Value) → St) : Prop := ∀ (N : Nat) (F L : Reg) (a : Act) (w : World), Rel w N F L s a → ∃ γ L', Rel w N F L' (s' γ) a ∧ Ext L w L' w
theorem TL'.turnN {l : List Oper} {s' : (Nat → Value) → St} (hs : TurnN s s') (h : ∀ γ, TL' P N ops l (s' γ) Q) : TL' P N ops l s Q := fun js hj F L a w hr => by
 obtain ⟨v, L', h1, x1⟩ := hs N F L a w hr
 exact No (fun _ _ _ ⟨L2, s2, q2, r2, x2⟩ => ⟨L2, s2, q2, r2, x1.trans x2⟩) _ _ _ (h v js hj F L' a w h1)
def Cq (w : World) (v : Value) (p : Nat) : Value := match v with
 | .slice (some a) _ _ => (w.cell? ⟨a.block, p, none⟩).getD undef
 | _ => undef
theorem X2.atEl {w : World} {M : Reg} {vs : List Value} {es : List (List DC)} {esz j q : Nat} {c : List DC} {d : DC} (h : X2 w M vs es.flatten) (hz : ∀ x ∈ es, x.length = esz) (hj : es[j]? = some c) (hq : c[q]? = some d) : ∃ v, vs[j * esz + q]? = some v ∧ Lb w M v d := by
 have hqe : q < esz := by rw [← hz c (List.mem_of_getElem? hj)]; exact (List.getElem?_eq_some_iff.1 hq).1
 have h1 : es.flatten[j * esz + q]? = some d := by rw [E3 hz hqe, hj]; exact hq
 have hlt := (List.getElem?_eq_some_iff.1 h1).1
 rw [← h.1] at hlt
 exact ⟨_, List.getElem?_eq_getElem hlt, h.2 _ _ d (List.getElem?_eq_getElem hlt) h1⟩
theorem X2.retell {w : World} {M : Reg} {vs : List Value} {es ds : List (List DC)} {esz : Nat} (h : X2 w M vs es.flatten) (hz : ∀ x ∈ es, x.length = esz) (hl : ds.length = es.length) (hz' : ∀ x ∈ ds, x.length = esz)
  (hd : ∀ (j q : Nat) (c c' : List DC) (d d' : DC) (v : Value), es[j]? = some c → ds[j]? = some c' → c[q]? = some d → c'[q]? = some d' → vs[j * esz + q]? = some v → Lb w M v d → Lb w M v d') : X2 w M vs ds.flatten := by
 have hlen : ds.flatten.length = es.flatten.length := by rw [Hr hz, Hr hz', hl]
 refine ⟨h.1.trans hlen.symm, fun i v d' hv hd' => ?_⟩
 have hi := (List.getElem?_eq_some_iff.1 hd').1
 rw [Hr hz'] at hi
 rcases Nat.eq_zero_or_pos esz with h0 | h0
 ·subst h0; simp at hi
 have hj : i / esz < ds.length := (Nat.div_lt_iff_lt_mul h0).2 hi
 have hq : i % esz < esz := Nat.mod_lt _ h0
 have e : i / esz * esz + i % esz = i := by rw [Nat.mul_comm]; exact Nat.div_add_mod i esz
 have hj2 : i / esz < es.length := by omega
 have hc := List.getElem?_eq_getElem hj2
 have hc' := List.getElem?_eq_getElem hj
 have hcl := hz _ (List.getElem_mem hj2)
 have hcl' := hz' _ (List.getElem_mem hj)
 have hqd := List.getElem?_eq_getElem (l := es[i / esz]) (i := i % esz) (by omega)
 have hqd' := List.getElem?_eq_getElem (l := ds[i / esz]) (i := i % esz) (by omega)
 obtain ⟨u, hu, hrep⟩ := h.atEl hz hc hqd
 rw [e, hv] at hu
 cases hu
 have h5 : ds.flatten[i / esz * esz + i % esz]? = some (ds[i / esz][i % esz]'(by omega)) := by
  rw [E3 hz' hq, hc']; exact hqd'
 rw [e, hd'] at h5
 cases h5
 exact hd _ _ _ _ _ _ v hc hc' hqd hqd' (by rw [e]; exact hv) hrep
theorem Zn.open (i n : Nat) {v : Value} {e e1 e2 : TypeId} {lo k1 k2 : Nat} {es : List (List DC)} {c0 c1 : DC} {l1 l2 : List (List DC)} (hi : s.tab[i]? = some (.arrX v e 4 lo es)) (hn : es[n]? = some [c0, c1, .sl true k1 l1, .sl true k2 l2]) :
  TurnN s (fun γ => ⟨s.slots, .arrA (γ 0) e1 k1 l1 :: .arrA (γ 1) e2 k2 l2 :: s.tab.set i (.arrX v e 4 lo (Hd es n (γ 0) (γ 1)))⟩) := fun N F L a w hr => by
 obtain ⟨r1, r2, ho, -, -⟩ := hr.heap.get hi
 have key : Lb w (L ++ F) (Cq w v (n * 4 + 2)) (.sl true k1 l1) ∧ Lb w (L ++ F) (Cq w v (n * 4 + 3)) (.sl true k2 l2) := by
  cases ho with
  | arrX0 => simp at hn
  | arrX g cap cur _ _ _ _ hg hlo hnn hm hcs hz hnw hre =>
   have hat : ∀ (p : Nat) (u : Value), (cur.toList.take (es.length * 4))[p]? = some u → Cq w (.slice (some ⟨g, 0, none⟩) es.length cap) p = u := fun p u hu => by
    rw [List.getElem?_take] at hu
    split at hu
    ·simp only [Cq]
     rw [cell_of_row w g p cur e _ hg]
     have : cur[p]? = some u := by simpa using hu
     rw [this]; rfl
    ·cases hu
   obtain ⟨u1, h1, h2⟩ := hre.atEl (q := 2) hz hn rfl
   obtain ⟨u2, h3, h4⟩ := hre.atEl (q := 3) hz hn rfl
   rw [hat _ _ h1, hat _ _ h3]
   exact ⟨h2, h4⟩
 obtain ⟨L', h1, hp⟩ := hr.retell (o' := .arrX v e 4 lo (Hd es n (Cq w v (n * 4 + 2)) (Cq w v (n * 4 + 3)))) hi (fun r ho => by
  cases ho with
  | arrX0 => simp at hn
  | arrX g cap cur _ _ _ _ hg hlo hnn hm hcs hz hnw hre =>
   have hz' : ∀ x ∈ Hd es n (Cq w (.slice (some ⟨g, 0, none⟩) es.length cap) (n * 4 + 2)) (Cq w (.slice (some ⟨g, 0, none⟩) es.length cap) (n * 4 + 3)), x.length = 4 := by
    intro x hx
    obtain ⟨j, hj⟩ := List.getElem?_of_mem hx
    have hjl := (List.getElem?_eq_some_iff.1 hj).1
    rw [Hq] at hjl
    rw [G4 (List.getElem?_eq_getElem hjl)] at hj
    have h4 := hz _ (List.getElem_mem hjl)
    cases hj
    split
    ·simp [h4]
    ·exact h4
   have := ObR.arrX (w := w) (M := L ++ F) g cap cur e 4 lo (Hd es n (Cq w (.slice (some ⟨g, 0, none⟩) es.length cap) (n * 4 + 2)) (Cq w (.slice (some ⟨g, 0, none⟩) es.length cap) (n * 4 + 3))) hg (by rw [Hq]; exact hlo) (by rw [Hq]; exact hnn) hm hcs hz' hnw (by
    rw [Hq]
    refine hre.retell hz (Hq _ _ _ _) hz' (fun j q c c' d d' u hc hc' hd hd' hu hrep => ?_)
    rw [G4 hc] at hc'
    cases hc'
    by_cases hnj : n = j
    ·subst hnj
     rw [if_pos rfl] at hd'
     rw [hn] at hc
     cases hc
     have hat : ∀ p, (cur.toList.take (es.length * 4))[p]? = some u → Cq w (.slice (some ⟨g, 0, none⟩) es.length cap) p = u := fun p hu => by
      rw [List.getElem?_take] at hu
      split at hu
      ·simp only [Cq]
       rw [cell_of_row w g p cur e _ hg]
       have : cur[p]? = some u := by simpa using hu
       rw [this]; rfl
      ·cases hu
     match q, hd, hd' with
     | 0, hd, hd' => cases hd; cases hd'; exact hrep
     | 1, hd, hd' => cases hd; cases hd'; exact hrep
     | 2, hd, hd' => cases hd; cases hd'; rw [hat _ hu]; exact .ex _ hrep.one
     | 3, hd, hd' => cases hd; cases hd'; rw [hat _ hu]; exact .ex _ hrep.one
     | q + 4, hd, hd' => simp at hd
    ·rw [if_neg hnj] at hd'
     rw [hd] at hd'
     cases hd'
     exact hrep)
   rw [Hq] at this
   exact this)
 have hsame : Reg.same (L' ++ F) (L ++ F) := Kt hp
 refine ⟨fun k => if k = 0 then Cq w v (n * 4 + 2) else Cq w v (n * 4 + 3), L', ⟨h1.defers, h1.size, h1.slot, ?_, h1.nodup, h1.lt⟩, Ext.perm hp⟩
 have a1 := X6.cons _ _ _ _ (ObR.arrA _ e2 _ _ _ (Qbl.full _ e2 _ _ (key.2.less fun b off hw => hsame.wr.1 hw))) h1.heap
 have a2 := X6.cons _ _ _ _ (ObR.arrA _ e1 _ _ _ (Qbl.full _ e1 _ _ (key.1.less fun b off hw => hsame.wr.1 hw))) a1
 simpa using a2
theorem Zn.close (i j1 j2 n : Nat) {v a b : Value} {e e1 e2 : TypeId} {lo k1 k2 : Nat} {es : List (List DC)} {c0 c1 d2 d3 : DC} {l1 l2 : List (List DC)} (hi : s.tab[i]? = some (.arrX v e 4 lo (Hd es n a b))) (hn : es[n]? = some [c0, c1, d2, d3]) (h1 : s.tab[j1]? = some (.arrA a e1 k1 l1)) (h2 : s.tab[j2]? = some (.arrA b e2 k2 l2)) :
  Zn s ⟨s.slots, s.tab.set i (.arrX v e 4 lo (es.set n [c0, c1, .sl false k1 l1, .sl false k2 l2]))⟩ :=
 Zn.retell i hi fun w M L r hh ho => by
  obtain ⟨_, _, ha, -, -⟩ := hh.get h1
  obtain ⟨_, _, hb, -, -⟩ := hh.get h2
  have hra : Lb w M a (.sl false k1 l1) := by
   cases ha with
   | arrA _ _ _ _ _ hown => exact hown.view
  have hrb : Lb w M b (.sl false k2 l2) := by
   cases hb with
   | arrA _ _ _ _ _ hown => exact hown.view
  have hnl := (List.getElem?_eq_some_iff.1 hn).1
  generalize hv : Hd es n a b = hs at ho
  cases ho with
  | arrX0 => have := congrArg List.length hv; rw [Hq] at this; simp at this; subst this; simp at hn
  | arrX g cap cur _ _ _ _ hg hlo hnn hm hcs hz hnw hre =>
   subst hv
   rw [Hq] at hlo hnn hre ⊢
   have hlen : (es.set n [c0, c1, .sl false k1 l1, .sl false k2 l2]).length = es.length := by simp
   have hz4 : ∀ (j : Nat) (c : List DC), es[j]? = some c → c.length = 4 := fun j c hj => by
    have h5 := G4 (n := n) (a := a) (b := b) hj
    have h6 := hz _ (List.mem_of_getElem? h5)
    split at h6
    ·next hnj => subst hnj; rw [hn] at hj; cases hj; rfl
    ·exact h6
   have hz' : ∀ x ∈ es.set n [c0, c1, .sl false k1 l1, .sl false k2 l2], x.length = 4 := by
    intro x hx
    rcases List.mem_or_eq_of_mem_set hx with h | h
    ·obtain ⟨j, hj⟩ := List.getElem?_of_mem h
     exact hz4 j x hj
    ·subst h; rfl
   have := ObR.arrX (w := w) (M := M) g cap cur e 4 lo (es.set n [c0, c1, .sl false k1 l1, .sl false k2 l2]) hg (by rw [hlen]; exact hlo) (by rw [hlen]; exact hnn) hm hcs hz' hnw (by
    rw [hlen]
    refine hre.retell hz (by rw [Hq, hlen]) hz' (fun j q c c' d d' u hc hc' hd hd' hu hrep => ?_)
    have hjl : j < es.length := by
     have := (List.getElem?_eq_some_iff.1 hc').1
     rwa [hlen] at this
    rw [G4 (List.getElem?_eq_getElem hjl)] at hc
    by_cases hnj : n = j
    ·subst hnj
     rw [if_pos rfl] at hc
     rw [List.getElem?_set_self hnl] at hc'
     have h7 : es[n] = [c0, c1, d2, d3] := by
      have := List.getElem?_eq_getElem hjl
      rw [hn] at this
      exact (Option.some.inj this).symm
     rw [h7] at hc
     cases hc; cases hc'
     match q, hd, hd' with
     | 0, hd, hd' => cases hd; cases hd'; exact hrep
     | 1, hd, hd' => cases hd; cases hd'; exact hrep
     | 2, hd, hd' => cases hd; cases hd'; rw [hrep.exact.1]; exact hra
     | 3, hd, hd' => cases hd; cases hd'; rw [hrep.exact.1]; exact hrb
     | q + 4, hd, hd' => simp at hd'
    ·rw [if_neg hnj] at hc
     rw [List.getElem?_set_ne hnj, List.getElem?_eq_getElem hjl] at hc'
     cases hc; cases hc'
     rw [hd] at hd'
     cases hd'
     exact hrep)
   rw [hlen] at this
   exact this
theorem Zn.closeM {α : Type} (i j1 j2 n : Nat) {v a b : Value} {e e1 e2 : TypeId} {lo k1 k2 : Nat} {xs : List α} {f : α → List DC} {old new : α} {c0 c1 d2 d3 : DC} {l1 l2 : List (List DC)} (hi : s.tab[i]? = some (.arrX v e 4 lo (Hd (xs.map f) n a b))) (hn : xs[n]? = some old) (ho : f old = [c0, c1, d2, d3]) (h1 : s.tab[j1]? = some (.arrA a e1 k1 l1)) (h2 : s.tab[j2]? = some (.arrA b e2 k2 l2))
  (hnew : f new = [c0, c1, .sl false k1 l1, .sl false k2 l2]) : Zn s ⟨s.slots, s.tab.set i (.arrX v e 4 lo ((xs.set n new).map f))⟩ := by
 have := Zn.close (s := s) i j1 j2 n (k1 := k1) (k2 := k2) hi ((Mo f hn).trans (congrArg some ho)) h1 h2
 rwa [← hnew, ← List.map_set] at this
theorem N0 {α β : Type} (i : Nat) {v : Value} {e : TypeId} {esz lo : Nat} {xs : List α} {f : α → List DC} {g : β → List DC} {p : α → β} (hi : s.tab[i]? = some (.arrX v e esz lo (xs.map f))) (hw : ∀ x, Qbj s.tab (f x) (g (p x))) (hl : ∀ x, (f x).length = (g (p x)).length) : Zn s ⟨s.slots, s.tab.set i (.arrX v e esz lo ((xs.map p).map g))⟩ :=
 Zn.retell i hi fun w M L r hh ho => by
  generalize hv : xs.map f = hs at ho
  cases ho with
  | arrX0 => have := congrArg List.length hv; simp at this; subst this; exact .arrX0 _ _ _
  | arrX g' cap cur _ _ _ _ hg hlo hnn hm hcs hz hnw hre =>
   subst hv
   have hlen : ((xs.map p).map g).length = (xs.map f).length := by simp
   have hz' : ∀ x ∈ (xs.map p).map g, x.length = esz := by
    intro x hx
    rw [List.map_map] at hx
    obtain ⟨y, hy, rfl⟩ := List.mem_map.1 hx
    have := hz _ (List.mem_map_of_mem (f := f) hy)
    rw [hl] at this
    exact this
   have hcells : ∀ (ys : List α) (vs : List Value), X2 w M vs (ys.map f).flatten → X2 w M vs ((ys.map p).map g).flatten := by
    intro ys
    induction ys with
    | nil => intro vs h; exact h
    | cons y ys ih =>
     intro vs h
     simp only [List.map_cons, List.flatten_cons] at h ⊢
     obtain ⟨us, ts, rfl, h1, h2⟩ := h.split
     exact ((hw y).rep hh h1).append (ih ts h2)
   have := ObR.arrX (w := w) (M := M) g' cap cur e esz lo ((xs.map p).map g) hg (by rw [hlen]; exact hlo) (by rw [hlen]; exact hnn) hm hcs hz' hnw (by rw [hlen]; exact hcells _ _ hre)
   rw [hlen] at this
   exact this
theorem Tx (i : Nat) (e' : TypeId) {b : Nat} {e : TypeId} {pre post : List DC} {esz : Nat} {elems : List (List DC)} (hi : s.tab[i]? = some (.box b e ((pre ++ .sl true esz elems :: post).map OC.d))) : TurnG s (fun v => ⟨s.slots, .arrA v e' esz elems :: s.tab.set i (.box b e ((pre ++ .ex v :: post).map OC.d))⟩) := fun N F L a w hr => by
 obtain ⟨r1, r2, ho, -, -⟩ := hr.heap.get hi
 cases ho with
 | box _ _ cs _ r hb h =>
  obtain ⟨e0, h1⟩ := h.plain
  subst e0
  have hlt : pre.length < cs.toList.length := by rw [h1.1]; simp
  have hrep := h1.2 pre.length _ (.sl true esz elems) (List.getElem?_eq_getElem hlt) (by simp)
  generalize hv : cs.toList[pre.length] = v at hrep
  have hnew : X2 w (L ++ F) cs.toList (pre ++ .ex v :: post) := by
   refine ⟨by rw [h1.1]; simp, fun q u d hu hd => ?_⟩
   by_cases hq : q = pre.length
   ·subst hq
    rw [List.getElem?_eq_getElem hlt, hv] at hu
    simp at hd
    cases hu
    rw [← hd]
    exact .ex _ hrep.one
   ·refine h1.2 q u d hu ?_
    rcases Nat.lt_or_ge q pre.length with hlt | hge
    ·rw [List.getElem?_append_left hlt] at hd ⊢; exact hd
    ·rw [List.getElem?_append_right hge] at hd ⊢
     rw [show q - pre.length = (q - pre.length - 1) + 1 by omega] at hd ⊢
     exact hd
  obtain ⟨L', h2, hp⟩ := hr.retell (o' := .box b e ((pre ++ .ex v :: post).map OC.d)) hi (fun r' ho' => by
   cases ho' with
   | box _ _ cs' _ r'' hb' h' =>
    rw [hb] at hb'
    cases hb'
    obtain ⟨e0, _⟩ := h'.plain
    subst e0
    exact .box b e cs _ [] hb (Fe hnew))
  have hsame : Reg.same (L' ++ F) (L ++ F) := Kt hp
  refine ⟨v, L', ⟨h2.defers, h2.size, h2.slot, ?_, h2.nodup, h2.lt⟩, Ext.perm hp⟩
  have := X6.cons _ _ _ _ (ObR.arrA _ e' _ _ _ (Qbl.full _ e' _ _ (hrep.less fun b off hw => hsame.wr.1 hw))) h2.heap
  simpa using this
end
end Go.Rv
namespace Go.Rv
def Qx.copyS (a : Qx) (s : ByteArray) : Qx := ⟨fun j => if j < s.size then bt s (j : Int) else a.f j⟩
theorem bt_get {s : ByteArray} {j : Nat} {x : UInt8} (h : s.data.toList[j]? = some x) : bt s (j : Int) = (x.toNat : Int) := by
 simp [bt, h]
theorem copyS_oc (a : Qx) (s : ByteArray) (n : Nat) (pre post : List OC) (hs : s.size ≤ n) :
  (pre ++ (a.oc n .u8 ++ post)).take pre.length ++ (s.data.toList.map fun x => DC.ex (.int .u8 (x.toNat : Int))).map OC.d ++ (pre ++ (a.oc n .u8 ++ post)).drop (pre.length + (s.data.toList.map fun x => DC.ex (.int .u8 (x.toNat : Int))).length) = pre ++ ((a.copyS s).oc n .u8 ++ post) := by
 have hsz : s.data.toList.length = s.size := by rw [Array.length_toList]; rfl
 have hol : ∀ b : Qx, (b.oc n .u8).length = n := fun b => by simp [Qx.oc]
 rw [List.take_left, List.length_map, hsz, List.drop_append, List.drop_eq_nil_of_le (by omega), List.nil_append, Nat.add_sub_cancel_left, List.append_assoc]
 congr 1
 rw [List.drop_append_of_le_length (by rw [hol]; exact hs), ← List.append_assoc]
 congr 1
 apply List.ext_getElem?
 intro j
 rcases Nat.lt_or_ge j s.size with hj | hj
 ·rw [List.getElem?_append_left (by simpa [hsz] using hj)]
  obtain ⟨x, hx⟩ : ∃ x, s.data.toList[j]? = some x := ⟨_, List.getElem?_eq_getElem (by rw [hsz]; exact hj)⟩
  have h1 := bt_get hx
  simp only [Qx.oc, List.getElem?_map, hx, Option.map_some, List.getElem?_range (show j < n by omega), Qx.copyS, if_pos hj, h1]
 ·rw [List.getElem?_append_right (by simpa [hsz] using hj)]
  simp only [List.length_map, hsz, List.getElem?_drop, Qx.oc, List.getElem?_map]
  rw [show s.size + (j - s.size) = j by omega]
  rcases Nat.lt_or_ge j n with hn | hn
  ·rw [List.getElem?_range hn]
   simp only [Option.map_some, Qx.copyS, if_neg (show ¬ j < s.size by omega)]
  ·rw [List.getElem?_eq_none (by simpa using hn)]
   rfl
theorem Qx.oc_lent {n : Nat} {k : IntKind} {a : Qx} {pre post cells : List OC} {off : Nat} (hc : cells = pre ++ (a.oc n k ++ post)) (ho : off = pre.length) : (cells.drop off).take (n * 1) = (((a.list n).map (cI k)).flatten).map OC.d := by
 subst hc; subst ho
 rw [List.drop_left, Nat.mul_one, ← Qx.oc_flat]
 have : (a.oc n k).length = n := by simp [Qx.oc]
 rw [List.take_append_of_le_length (by omega), List.take_of_length_le (by omega)]
section
variable {P : Program} {N : Nat} {s : St} {o : Oper} {K : St → Prop}
theorem OpT.copyBox {x y : Operand} {t u e eb : TypeId} {z : Value} {by_ : Nat} {b off n i : Nat} {pre post : List OC} {a : Qx} {str : ByteArray} (ho : o.op = .call { callee := .builtin .copy, args := #[x, y], argTypes := #[t, u] }) (hN : ∀ d, o.dst = some d → d < N)
  (ht : P.underlying t = some (.slice e)) (hei : Zo P e z 1 by_) (hx : s.ev x = some (.c (.ex (.slice (some ⟨b, off, none⟩) n n)))) (hy : s.ev y = some (.str str)) (hi : s.tab[i]? = some (.box b eb (pre ++ (a.oc n .u8 ++ post)))) (hoff : pre.length = off) (hs : str.size ≤ n)
  (k : K (s.upd o.dst (.int .i64 str.size) (s.tab.set i (.box b eb (pre ++ ((a.copyS str).oc n .u8 ++ post)))))) : OpT P N o s K := by
 intro F L ac w hr
 subst hoff
 have hsz : str.data.toList.length = str.size := by rw [Array.length_toList]; rfl
 have hol : ∀ b : Qx, (b.oc n .u8).length = n := fun b => by simp [Qx.oc]
 have hrep : X2 w (L ++ F) (Lib.byteCells str.data.toList) (str.data.toList.map fun x => DC.ex (.int .u8 (x.toNat : Int))) := by
  have := X2.ofOne (w := w) (M := L ++ F) (Lib.byteCells str.data.toList) (Lib.byteCells_one _)
  simpa [Lib.byteCells, List.map_map, Function.comp_def] using this
 obtain ⟨cs, hb, hfit, L', h2, h3⟩ := hr.storeBox (off := pre.length) hi hrep (by simp only [List.length_map, List.length_append, hol]; omega)
 rw [copyS_oc a str n pre post hs] at h2
 have hul : (Lib.byteCells str.data.toList).length = str.size := by rw [Lib.byteCells_length, hsz]
 rw [hul] at hfit h2 h3
 have hie : (P.info? e).map (·.size) = some 1 := by obtain ⟨ii, h1, h2, h3, h4⟩ := hei; rw [h1]; simp [h3]
 have hcp := Lib.run_copy_row_string (P := P) w t u o.type e b pre.length n n str cs eb ht hie hb hs hfit
 have hrun : (execOp ac.eval o).run P w = .ok (.value (goInt str.size)) (w.setRow b (cs.toList.take pre.length ++ Lib.byteCells str.data.toList ++ cs.toList.drop (pre.length + str.size)).toArray) := by
  simp [execOp, ho, resolve, invoke, builtin, hr.exact hx, hr.exact hy, hcp]
 unfold Oper.wp
 rw [hrun, Oper.upon_value]
 have h4 := h2.put (o := o.dst) (v := goInt str.size) (x := .int .i64 str.size) hN (.c _ _ (.ex _ rfl))
 refine ⟨L', _, k, ?_, h3⟩
 have e1 : s.upd o.dst (.int .i64 str.size) (s.tab.set i (.box b eb (pre ++ ((a.copyS str).oc n .u8 ++ post)))) = ({ s with tab := s.tab.set i (.box b eb (pre ++ ((a.copyS str).oc n .u8 ++ post))) } : St).putO o.dst (.int .i64 str.size) := by
  cases o.dst <;> rfl
 rw [e1]
 exact h4
theorem Qac {t u e : TypeId} {x : Operand} {str : ByteArray} {d1 : TypeDesc} (ho : o.op = .convert t u x) (hN : ∀ d, o.dst = some d → d < N) (hs : P.underlying t = some d1) (hd : P.underlying u = some (.slice e)) (he : P.underlying e = some (.int .u8))
  (hx : s.ev x = some (.str str)) (hsz : str.size ≤ 140737488355328) (k : K (s.putO o.dst (.sl false 1 ((Z3 str).map (cI .u8))))) : OpT P N o s K := by
 intro F L a w hr
 have hconv := Lib.run_convert_string_bytes (P := P) w t u e str hs hd he
 have hrun : (execOp a.eval o).run P w = .ok (.value (.slice (some ⟨w.heap.size, 0, none⟩) str.size (grownCap w str.size 0 e))) (Lib.bytesWorld w e str) := by
  simp [execOp, ho, hr.exact hx, hconv]
 have hx1 : Ext L w L (Lib.bytesWorld w e str) := ⟨rfl, rfl, rfl, by rw [Lib.bytesWorld_size]; omega, fun b hb _ => Lib.bytesWorld_at_old w e str b hb, fun b off hb _ => Lib.bytesWorld_old w e str ⟨b, off, none⟩ hb, fun _ _ _ h => h, fun _ l _ h => ⟨l, h⟩⟩
 have hlen : ((Z3 str).map (cI .u8)).length = str.size := by rw [List.length_map, Uh]
 have hge := grownCap_ge w str.size 0 e
 have hle := grownCap_le_maxLen w str.size 0 e (by simp only [maxLen]; omega)
 have hrep : Lb (Lib.bytesWorld w e str) (L ++ F) (.slice (some ⟨w.heap.size, 0, none⟩) str.size (grownCap w str.size 0 e)) (.sl false 1 ((Z3 str).map (cI .u8))) := by
  have hcell : ∀ (i j : Nat) (d : DC), (((Z3 str).map (cI .u8))[i]?).bind (·[j]?) = some d → j = 0 ∧ i < str.size ∧ d = .ex (.int .u8 ((str.data.toList.getD i 0).toNat : Int)) := fun i j d h => by
   rw [List.getElem?_map] at h
   cases hq : (Z3 str)[i]? with
   | none => rw [hq] at h; cases h
   | some z =>
    rw [hq] at h
    have hi := (List.getElem?_eq_some_iff.1 hq).1
    rw [Uh] at hi
    cases j with
    | zero =>
     simp at h
     refine ⟨rfl, hi, ?_⟩
     rw [← h]
     have h2 : (Z3 str)[i]? = some ((str.data.toList.getD i 0).toNat : Int) := by
      have hd : i < str.data.toList.length := by rw [Array.length_toList]; exact hi
      rw [Z3, List.getElem?_map, List.getD_eq_getElem?_getD, List.getElem?_eq_getElem hd]
      rfl
     rw [hq] at h2
     cases h2; rfl
    | succ j => simp at h
  have := Lb.sl (w := Lib.bytesWorld w e str) (M := L ++ F) (some ⟨w.heap.size, 0, none⟩) w.heap.size 0 (grownCap w str.size 0 e) false 1 ((Z3 str).map (cI .u8)) (fun i _ => .int .u8 ((str.data.toList.getD i 0).toNat : Int)) (.inl rfl) (by rw [hlen]; exact hge) hle (fun h => by cases h) (fun q hq => by obtain ⟨_, _, rfl⟩ := List.mem_map.1 hq; rfl)
   (fun i j d h => by
    obtain ⟨rfl, hi, rfl⟩ := hcell i j d h
    refine ⟨?_, fun ⟨lim, hl, _⟩ => absurd (hr.lt _ hl) (by simp)⟩
    rw [show 0 + i * 1 + 0 = i by omega]
    exact Lib.bytesWorld_cell w e str i hi)
   (fun i j d h => by
    obtain ⟨rfl, hi, rfl⟩ := hcell i j d h
    exact .ex _ rfl)
  rw [hlen] at this
  exact this
 have h4 := hr.next (tab := s.tab) (o := o.dst) (v := .slice (some ⟨w.heap.size, 0, none⟩) str.size (grownCap w str.size 0 e)) (x := .sl false 1 ((Z3 str).map (cI .u8))) hx1 hN (.c _ _ hrep) (hr.heap.step (Ext.refl [] w |>.trans ⟨rfl, rfl, rfl, by rw [Lib.bytesWorld_size]; omega, fun b hb _ => Lib.bytesWorld_at_old w e str b hb, fun b off hb _ => Lib.bytesWorld_old w e str ⟨b, off, none⟩ hb, fun _ _ _ h => h, fun _ l _ h => ⟨l, h⟩⟩) (fun p _ lim hm => by cases hm) (hx1.frame F)) hr.nodup (fun p hp => Nat.lt_of_lt_of_le (hr.lt p (List.mem_append.2 (.inl hp))) hx1.size)
 unfold Oper.wp
 rw [hrun, Oper.upon_value]
 refine ⟨L, _, k, ?_, hx1⟩
 have e1 : s.upd o.dst (.sl false 1 ((Z3 str).map (cI .u8))) s.tab = s.putO o.dst (.sl false 1 ((Z3 str).map (cI .u8))) := by cases o.dst <;> rfl
 rw [← e1]
 exact h4
end
end Go.Rv
namespace Go.Rv
open Go.Proofs Go.Shelf
def repS (s : ByteArray) (n : Int) : ByteArray := ⟨(Lib.repeatL s.data.toList n.toNat).toArray⟩
theorem repeat_call {P : Program} {ρ : Ren} (L : Lays.n105 P ρ) (X : Builder.Extra P ρ) {s : ByteArray} {n : Int} (h0 : 0 ≤ n) (h1 : n ≤ 9223372036854775807) (h2 : s.size * n.toNat ≤ 140737488355328) :
  Zt P (ρ.f 105) [.str s, .int .i64 n] [] (.str (repS s n)) := by
 refine Zt.ofBelow (fun _ _ _ h => by cases h; rfl) fun M w vs hl ha _ => ?_
 match vs, hl with
 | [v0, v1], _ =>
  have a0 := ha 0 v0 _ rfl rfl
  have a1 := ha 1 v1 _ rfl rfl
  have e0 : v0 = .string s := by cases a0 with | c _ _ h => cases h; rfl
  have e1 : v1 = .int .i64 n := by cases a1 with | c _ _ h => cases h; rfl
  subst e0; subst e1
  have e2 : (Value.int .i64 n) = .int .i64 ((n.toNat : Nat) : Int) := by rw [Int.toNat_of_nonneg h0]
  rw [e2]
  refine (Any.strings_Repeat L X s n.toNat w (by omega) h2).mono ?_
  rintro e w' ⟨rfl, hw⟩
  exact ⟨_, rfl, fun M' => .c _ _ (.ex _ rfl), hw⟩
end Go.Rv
