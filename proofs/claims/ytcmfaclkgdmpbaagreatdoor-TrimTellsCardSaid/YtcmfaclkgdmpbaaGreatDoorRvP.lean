/- A LOGIC OF ABSTRACT STATES OVER THE MODEL, part P: texts in order; structs with arrays of numbers in them, held against each other. -/
import Derived.Test.YtcmfaclkgdmpbaaGreatDoorRvY
namespace Go.Rv
section
variable {P : Program} {N : Nat} {s : St} {o : Oper} {K : St → Prop}
/- Structs of numbers and of arrays of numbers: field by field, the numbers of each. -/
def segOk (P : Program) : Nat → List Field → List Nat → Bool
 | _, [], [] => true
 | n, f :: fs, m :: ms => (f.name != "_") && (f.offset == n && ((match P.underlying f.type with
   | some (.int _) => m == 1
   | some (.array m' e) => m' == m && ((match P.underlying e with | some (.int _) => true | _ => false) && (P.cellsOf e == 1 && (P.cellsOf f.type == m && ((P.info? e).isSome && (P.info? f.type).isSome))))
   | _ => false) && segOk P (n + m) fs ms))
 | _, _, _ => false
def J0 (l : List (IntKind × List Int)) : List Value := l.flatMap fun p => p.2.map (Value.int p.1)
inductive Segs : List DC → List (IntKind × List Int) → Prop
 | nil : Segs [] []
 | one {k : IntKind} {a : Int} {l : List DC} {r : List (IntKind × List Int)} (h : Segs l r) : Segs (.ex (.int k a) :: l) ((k, [a]) :: r)
 | arr {n : Nat} {k : IntKind} {a : Q5} {l : List DC} {r : List (IntKind × List Int)} (h : Segs l r) : Segs (Q5.dc n k a ++ l) ((k, a.list n) :: r)
 | arr2 {k : IntKind} {a : Ye} {l : List DC} {r : List (IntKind × List Int)} (h : Segs l r) : Segs (Ye.dc k a ++ l) ((k, [a.a0, a.a1]) :: r)
 | arr4 {k : IntKind} {a : Z6} {l : List DC} {r : List (IntKind × List Int)} (h : Segs l r) : Segs (Z6.dc k a ++ l) ((k, [a.a0, a.a1, a.a2, a.a3]) :: r)
theorem Segs.eq {l : List DC} {r : List (IntKind × List Int)} (h : Segs l r) : l = (J0 r).map DC.ex := by
 induction h with
 | nil => rfl
 | one h ih => rw [ih]; rfl
 | arr h ih =>
  rw [ih]
  simp [J0, Q5.dc, Q5.list, List.flatMap_cons]
 | arr2 h ih => rw [ih]; rfl
 | arr4 h ih => rw [ih]; rfl
theorem Qjj {w : World} {d : Nat} (X Y : List Value) : ∀ (fs : List Field) (n : Nat) (ms : List Nat) (us ys : List (IntKind × List Int)), segOk P n fs ms = true → us.map (·.2.length) = ms → ys.map (·.2.length) = ms → us.map (·.1) = ys.map (·.1) →
  X.drop n = J0 us → Y.drop n = J0 ys → (Op.eqFields (d + 2) X.toArray Y.toArray fs).run P w = .ok (us.map (·.2) == ys.map (·.2)) w := by
 intro fs
 induction fs with
 | nil =>
  intro n ms us ys hf ha hb _ _ _
  cases ms with
  | cons m ms => simp [segOk] at hf
  | nil =>
   have h1 : us = [] := List.map_eq_nil_iff.1 ha
   have h2 : ys = [] := List.map_eq_nil_iff.1 hb
   subst h1; subst h2
   simp [Op.eqFields]
 | cons f fs ih =>
  intro n ms us ys hf ha hb hk hx hy
  cases ms with
  | nil => simp [segOk] at hf
  | cons m ms =>
   cases us with
   | nil => simp at ha
   | cons u us =>
    cases ys with
    | nil => simp at hb
    | cons y ys =>
     obtain ⟨k, u⟩ := u
     obtain ⟨k', y⟩ := y
     simp only [Qmv, Qn6] at ha hb hk
     obtain ⟨hk0, hk⟩ := hk
     subst hk0
     simp only [segOk, Qnh, bne_iff_ne, ne_eq, Qn0] at hf
     obtain ⟨h1, h2, h3, h4⟩ := hf
     have hX : J0 ((k, u) :: us) = u.map (Value.int k) ++ J0 us := by simp [J0, List.flatMap_cons]
     have hY : J0 ((k, y) :: ys) = y.map (Value.int k) ++ J0 ys := by simp [J0, List.flatMap_cons]
     rw [hX] at hx
     rw [hY] at hy
     have hx' : X.drop (n + m) = J0 us := by
      rw [← List.drop_drop, hx, Qom (by simp; omega), List.drop_of_length_le (by simp; omega), Qmq]
     have hy' : Y.drop (n + m) = J0 ys := by
      rw [← List.drop_drop, hy, Qom (by simp; omega), List.drop_of_length_le (by simp; omega), Qmq]
     have ih' := ih (n + m) ms us ys h4 ha.2 hb.2 hk hx' hy'
     have hfin : ∀ b : Bool, (u == y) = b → (Op.eqFields (d + 2) X.toArray Y.toArray (f :: fs)).run P w = (if b = true then (Op.eqFields (d + 2) X.toArray Y.toArray fs).run P w else .ok false w) → (Op.eqFields (d + 2) X.toArray Y.toArray (f :: fs)).run P w = .ok (((k, u) :: us).map (·.2) == ((k, y) :: ys).map (·.2)) w := by
      intro b hb' h
      rw [h, Qmv, Qmv, List.cons_beq_cons, ih', hb']
      cases b <;> simp
     cases hq : P.underlying f.type with
     | none => rw [hq] at h3; cases h3
     | some t =>
      rw [hq] at h3
      cases t <;> first | (cases h3; done) | skip
      case int kk =>
       have hm : m = 1 := by simpa using h3
       subst hm
       obtain ⟨a, rfl⟩ := List.length_eq_one_iff.1 ha.1
       obtain ⟨b, rfl⟩ := List.length_eq_one_iff.1 hb.1
       have hxa : X[n]? = some (.int k a) := by
        have : (X.drop n)[0]? = some (.int k a) := by rw [hx]; rfl
        simpa using this
       have hyb : Y[n]? = some (.int k b) := by
        have : (Y.drop n)[0]? = some (.int k b) := by rw [hy]; rfl
        simpa using this
       have p1 : (part f.type X.toArray f.offset).run P w = .ok (.int k a) w := by simp [part, J9 hq, TypeDesc.flat, h2, hxa]
       have p2 : (part f.type Y.toArray f.offset).run P w = .ok (.int k b) w := by simp [part, J9 hq, TypeDesc.flat, h2, hyb]
       refine hfin (a == b) (by simp) ?_
       simp only [Op.eqFields, if_pos h1, Sem.run_bind, p1, p2, Result.andThen_ok, run_equalIn_int w (d + 1) f.type k kk a b hq]
       cases (a == b) <;> simp
      case array m' e =>
       simp only [Qnh, Qn0] at h3
       obtain ⟨rfl, g1, g2, g3, g4, g5⟩ := h3
       have hu : ∃ k', P.underlying e = some (.int k') := by
        cases hq' : P.underlying e with
        | none => rw [hq'] at g1; cases g1
        | some t => cases t <;> first | (rw [hq'] at g1; cases g1; done) | exact ⟨_, rfl⟩
       obtain ⟨k'', hu⟩ := hu
       obtain ⟨ie, hie⟩ := Option.isSome_iff_exists.1 g4
       obtain ⟨it, hit⟩ := Option.isSome_iff_exists.1 g5
       have hs := run_sizeOf (w := w) hit
       rw [g3] at hs
       have hxa : X.toArray.extract f.offset (f.offset + m') = (u.map (Value.int k)).toArray := by
        rw [List.extract_toArray, List.extract_eq_take_drop, h2, hx]
        congr 1
        rw [show n + m' - n = m' by omega, Qns (by simp; omega), Qnc (by simp; omega)]
       have hyb : Y.toArray.extract f.offset (f.offset + m') = (y.map (Value.int k)).toArray := by
        rw [List.extract_toArray, List.extract_eq_take_drop, h2, hy]
        congr 1
        rw [show n + m' - n = m' by omega, Qns (by simp; omega), Qnc (by simp; omega)]
       have p1 : (part f.type X.toArray f.offset).run P w = .ok (.agg (u.map (Value.int k)).toArray) w := by rw [← hxa]; simp [part, J9 hq, TypeDesc.flat, hs]
       have p2 : (part f.type Y.toArray f.offset).run P w = .ok (.agg (y.map (Value.int k)).toArray) w := by rw [← hyb]; simp [part, J9 hq, TypeDesc.flat, hs]
       have he : (Op.equalIn (d + 1 + 1) f.type (.agg (u.map (Value.int k)).toArray) (.agg (y.map (Value.int k)).toArray)).run P w = .ok (u == y) w := by
        rw [run_equalIn_array (P := P) w (d + 1) _ _ hq hie, Qcm (P := P) (d := d) hu g2 _ u y 0 (by rw [Qnj, ha.1, List.range_eq_range']) (by omega) (by omega)]
        simp
       refine hfin (u == y) rfl ?_
       simp only [Op.eqFields, if_pos h1, Sem.run_bind, p1, p2, Result.andThen_ok, he]
       cases (u == y) <;> simp
theorem run_equal_segs {w : World} {t : TypeId} {fs : Array Field} {ms : List Nat} (ht : P.underlying t = some (.struct fs)) (hp : P.stoodInHeld t = false) (hf : segOk P 0 fs.toList ms = true) (us ys : List (IntKind × List Int)) (ha : us.map (·.2.length) = ms) (hb : ys.map (·.2.length) = ms) (hk : us.map (·.1) = ys.map (·.1)) :
  (Op.equal t (.agg (J0 us).toArray) (.agg (J0 ys).toArray)).run P w = .ok (us.map (·.2) == ys.map (·.2)) w := by
 have hfs : P.fieldsOf t = fs := by simp [Program.fieldsOf, ht]
 have := run_equalIn_agg (P := P) w 9999 t (J0 us).toArray (J0 ys).toArray (by rw [hfs]; exact ht) hp
 unfold Op.equal Op.maxDepth
 rw [this, hfs]
 exact Qjj (d := 9997) _ _ fs.toList 0 ms us ys hf ha hb hk (by rw [Qmu]) (by rw [Qmu])
theorem Uy.exs {w : World} {M : Reg} {vs : Array Value} {l : List DC} (h : Uy w M vs.toList l) {xs : List Value} (hl : l = xs.map DC.ex) : vs = xs.toArray := by
 subst hl
 obtain ⟨h1, h2⟩ := h
 apply Array.toList_inj.1
 apply List.ext_getElem?
 intro i
 by_cases hi : i < xs.length
 ·have hi' : i < vs.toList.length := by rw [h1]; simpa using hi
  have := (h2 i _ (.ex xs[i]) (List.getElem?_eq_getElem hi') (by simp [hi])).exact.1
  rw [List.getElem?_eq_getElem hi', this]
  simp [hi]
 ·rw [List.getElem?_eq_none (by rw [h1]; simpa using hi), List.getElem?_eq_none (by simpa using hi)]
theorem OpT.segsNeq {t t' : TypeId} {fs : Array Field} {x y : Operand} {ms : List Nat} {us ys : List (IntKind × List Int)} {l l' : List DC} {r : Bool} (ho : o.op = .binOp .neq t x y t') (hN : ∀ d, o.dst = some d → d < N) (ht : P.underlying t = some (.struct fs)) (hp : P.stoodInHeld t = false) (hf : segOk P 0 fs.toList ms = true)
  (hg : P.eqGuardType P.depth t = false) (hx : s.ev x = some (.agg l)) (hy : s.ev y = some (.agg l')) (hl : Segs l us) (hl' : Segs l' ys) (ha : us.map (·.2.length) = ms) (hb : ys.map (·.2.length) = ms) (hk : us.map (·.1) = ys.map (·.1)) (hr : (us.map (·.2) == ys.map (·.2)) = r) (k' : K (s.putO o.dst (.bool (!r)))) : OpT P N o s K :=
 Ze _ hN (fun F L a' w hrel => by
  have h1 := hrel.ev hx
  have h2 := hrel.ev hy
  generalize hq1 : a'.eval x = q1 at h1
  generalize hq2 : a'.eval y = q2 at h2
  cases h1 with
  | agg vs _ h1 =>
   cases h2 with
   | agg ws _ h2 =>
    have e1 := h1.exs hl.eq
    have e2 := h2.exs hl'.eq
    subst e1; subst e2; subst hr
    refine ⟨.bool (!(us.map (·.2) == ys.map (·.2))), ?_, .c _ _ (.ex _ rfl)⟩
    have hb' : binOp .neq t (.agg (J0 us).toArray) (.agg (J0 ys).toArray) = (do pure (.bool (!(← Op.equal t (.agg (J0 us).toArray) (.agg (J0 ys).toArray))))) := rfl
    simp only [execOp, ho, hq1, hq2, Sem.run_bind, run_eqGuard_agg _ _ _ _ _ _ _ hg, Result.andThen_ok, hb', run_equal_segs ht hp hf us ys ha hb hk]
    rfl) k'
end
end Go.Rv
