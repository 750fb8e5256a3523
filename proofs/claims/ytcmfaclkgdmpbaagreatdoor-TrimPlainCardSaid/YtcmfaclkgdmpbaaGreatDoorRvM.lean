/- A LOGIC OF ABSTRACT STATES OVER THE MODEL, part M: slices whose elements are written: append, elements' addresses, loads and stores through them, and how they come to be read only. -/
import Derived.Test.YtcmfaclkgdmpbaaGreatDoorRvK
import Derived.Test.YtcmfaclkgdmpbaaGreatDoorRvL
namespace Go.Rv
theorem flat_set {α : Type} {k : Nat} : ∀ {es : List (List α)} {j : Nat} {old ds : List α} {q : Nat}, (∀ e ∈ es, e.length = k) → es[j]? = some old → q + ds.length ≤ k →
  (es.set j (old.take q ++ ds ++ old.drop (q + ds.length))).flatten = es.flatten.take (j * k + q) ++ ds ++ es.flatten.drop (j * k + q + ds.length) := by
 intro es
 induction es with
 | nil => intro j old ds q _ h; simp at h
 | cons e es ih =>
  intro j old ds q hk h hq
  have he : e.length = k := hk e (by simp)
  cases j with
  | zero =>
   simp at h; subst h
   simp only [Qiz, Qgh, Qji, Qgq]
   rw [Qhl (by omega), List.drop_append_of_le_length (by omega)]
   simp [Qfx]
  | succ j =>
   simp only [List.getElem?_cons_succ] at h
   have := ih (fun x hx => hk x (by simp [hx])) h hq
   simp only [Qi0, Qgh, this]
   have e1 : (j + 1) * k + q = e.length + (j * k + q) := by rw [he, Qhp]; omega
   have e2 : (j + 1) * k + q + ds.length = e.length + (j * k + q + ds.length) := by rw [he, Qhp]; omega
   rw [e1, show e.length + (j * k + q) + ds.length = e.length + (j * k + q + ds.length) by omega, Qi2, Qi3]
   simp [Qfx]
section
variable {P : Program} {N : Nat} {s : St} {o : Oper} {K : St → Prop}
theorem Te {s : St} (e : TypeId) (esz : Nat) : Zx s ⟨s.slots, .arrX (.slice none 0 0) e esz 0 [] :: s.tab⟩ := fun N F L a w hr =>
 ⟨L, ⟨hr.defers, hr.size, hr.slot, by have := X1.cons _ _ _ _ (ObR.arrX0 (w := w) (M := L ++ F) none e esz) hr.heap; simpa using this, hr.nodup, hr.lt⟩, Ext.refl _ _⟩
theorem ObR.lenX {w : World} {M : Reg} {v : Value} {e : TypeId} {esz lo : Nat} {elems : List (List DC)} {r : Reg} (h : ObR w M (.arrX v e esz lo elems) r) : ∃ a c, v = .slice a elems.length c := by
 cases h with
 | arrX0 a => exact ⟨a, 0, rfl⟩
 | arrX g cap => exact ⟨_, cap, rfl⟩
theorem J9 {α : Type} {t : TypeId} {e e' : TypeId} {x : Operand} {v : Value} {i esz lo : Nat} {xs : List α} {f : α → List DC} (ho : o.op = .call { callee := .builtin .len, args := #[x], argTypes := #[t] }) (hN : ∀ d, o.dst = some d → d < N) (ht : P.underlying t = some (.slice e))
  (hx : s.ev x = some (.c (.ex v))) (hi : s.tab[i]? = some (.arrX v e' esz lo (xs.map f))) (k' : K (s.putO o.dst (.int .i64 xs.length))) : OpT P N o s K :=
 Zd _ hN (fun F L a w hr => by
  obtain ⟨r1, r2, h1, h2, hp⟩ := hr.heap.get hi
  obtain ⟨ad, c, rfl⟩ := h1.lenX
  refine ⟨.int .i64 xs.length, ?_, .c _ _ (.ex _ rfl)⟩
  simp [execOp, ho, resolve, hr.exact hx, invoke, builtin, Builtin.len_, run_underlying ht, goInt]) k'
theorem OpT.indexX {t e e' : TypeId} {x i : Operand} {k : IntKind} {j : Int} {v : Value} {n esz lo : Nat} {elems : List (List DC)} {old : List DC} {z : Value} {by_ : Nat} (ho : o.op = .indexAddr t x i) (hN : ∀ d, o.dst = some d → d < N) (ht : P.underlying t = some (.slice e))
  (hei : Zk P e z esz by_) (hx : s.ev x = some (.c (.ex v))) (hn : s.tab[n]? = some (.arrX v e' esz lo elems)) (hi : s.ev i = some (.int k j)) (h0 : 0 ≤ j) (hd : elems[j.toNat]? = some old) (k' : K (s.putO o.dst (.el v esz j.toNat 0))) : OpT P N o s K :=
 Zd _ hN (fun F L a w hr => by
  obtain ⟨r1, r2, h1, h2, hp⟩ := hr.heap.get hn
  have hlt := (List.getElem?_eq_some_iff.1 hd).1
  have hjl : j < (elems.length : Int) := by omega
  cases h1 with
  | arrX0 a => simp at hd
  | arrX g cap cur =>
   refine ⟨.pointer (some ⟨g, j.toNat * esz + 0, none⟩), ?_, .el g _ cap esz j.toNat 0⟩
   simp [execOp, ho, hr.exact hx, hr.exact hi, Instr.indexAt, asIntOf, run_underlying ht, h0, hjl, hei.sizeOf, addr_add]) k'
theorem Z8 {α : Type} {t e e' : TypeId} {x i : Operand} {k : IntKind} {j : Int} {v : Value} {n esz lo : Nat} {xs : List α} {f : α → List DC} {old : α} {z : Value} {by_ : Nat} (ho : o.op = .indexAddr t x i) (hN : ∀ d, o.dst = some d → d < N) (ht : P.underlying t = some (.slice e))
  (hei : Zk P e z esz by_) (hx : s.ev x = some (.c (.ex v))) (hn : s.tab[n]? = some (.arrX v e' esz lo (xs.map f))) (hi : s.ev i = some (.int k j)) (hd : Xl xs j = some old) (k' : K (s.putO o.dst (.el v esz j.toNat 0))) : OpT P N o s K :=
 OpT.indexX ho hN ht hei hx hn hi (Zv hd).1 (getMap f (Zv hd).2) k'
theorem K8 {t : TypeId} {fs : Array Field} {f : Field} {x : Operand} {i : Nat} {v : Value} {esz jj q : Nat} {z : Value} {sz by_ : Nat} (ho : o.op = .fieldAddr t x i) (hN : ∀ d, o.dst = some d → d < N) (ht : P.underlying t = some (.struct fs)) (hf : fs[i]? = some f)
  (hei : Zk P f.type z sz by_) (hsz : sz ≠ 0) (hx : s.ev x = some (.el v esz jj q)) (k' : K (s.putO o.dst (.el v esz jj (q + f.offset)))) : OpT P N o s K :=
 Zd _ hN (fun F L a w hr => by
  have h := hr.ev hx
  generalize hq : a.eval x = q' at h
  cases h with
  | el g m cap =>
   refine ⟨.pointer (some ⟨g, jj * esz + (q + f.offset), none⟩), ?_, .el g _ cap esz jj _⟩
   simp [execOp, ho, hq, Instr.fieldAt, Instr.sureAddr, run_underlying ht, hf, fieldPlace, hei.sizeOf, hsz, addr_add, Qh5]) k'
theorem Rel.storeX {w : World} {F L : Reg} {a : Act} {v : Value} {i j q lo esz : Nat} {e : TypeId} {elems : List (List DC)} {old ds : List DC} {us : List Value} (hr : Rel w N F L s a) (hi : s.tab[i]? = some (.arrX v e esz lo elems)) (hj : elems[j]? = some old) (hlo : lo ≤ j) (hq : q + ds.length ≤ esz) (hu : V8 w (L ++ F) us ds) :
  ∃ (g cap : Nat) (cs : Array Value), v = .slice (some ⟨g, 0, none⟩) elems.length cap ∧ w.heap[g]? = some (.cells cs e (0, 0)) ∧ j * esz + q + us.length ≤ cs.size ∧
   ∃ L', Rel (w.setRow g (cs.toList.take (j * esz + q) ++ us ++ cs.toList.drop (j * esz + q + us.length)).toArray) N F L' { s with tab := s.tab.set i (.arrX v e esz lo (elems.set j (old.take q ++ ds ++ old.drop (q + ds.length)))) } a ∧
    Ext L w L' (w.setRow g (cs.toList.take (j * esz + q) ++ us ++ cs.toList.drop (j * esz + q + us.length)).toArray) := by
 obtain ⟨r, R, hob, hwr, hnd, hlt, hdis, hgo⟩ := hr.touch hi
 have hjl := (List.getElem?_eq_some_iff.1 hj).1
 cases hob with
 | arrX0 => simp at hj
 | arrX g cap cur _ _ _ _ hg hlo' hn hm hcs hz hnw hre =>
  have hbound : j * esz + esz ≤ elems.length * esz := by rw [← Qhp]; exact Qgy _ hjl
  have hsz : elems.length * esz ≤ cap * esz := Qgy _ hn
  have hul : us.length = ds.length := hu.1
  refine ⟨g, cap, cur, rfl, hg, by omega, ?_⟩
  have hlow : lo * esz ≤ j * esz := Qgy _ hlo
  have hx : Ext [(g, lo * esz)] w [(g, lo * esz)] (w.setRow g (cur.toList.take (j * esz + q) ++ us ++ cur.toList.drop (j * esz + q + us.length)).toArray) :=
   Li hg (Qf6 _) (fun p hp => by
    rw [Qfx, List.getElem?_append_left (by simp; omega), List.getElem?_take, if_pos (by omega)]
    simp)
  have hf : Fits w (w.setRow g (cur.toList.take (j * esz + q) ++ us ++ cur.toList.drop (j * esz + q + us.length)).toArray) [(g, lo * esz)] [(g, lo * esz)] := ⟨hx, by simp, fun p hp => by simp at hp; subst hp; simpa using lt_of_block hg⟩
  have hxR := hx.frame R
  have hlen : (elems.set j (old.take q ++ ds ++ old.drop (q + ds.length))).length = elems.length := by simp
  have hold : old.length = esz := hz old (List.mem_of_getElem? hj)
  have hcur : cur.toList.length = cur.size := by simp
  have hob' : ObR (w.setRow g (cur.toList.take (j * esz + q) ++ us ++ cur.toList.drop (j * esz + q + us.length)).toArray) ([(g, lo * esz)] ++ R) (.arrX (.slice (some ⟨g, 0, none⟩) (elems.set j (old.take q ++ ds ++ old.drop (q + ds.length))).length cap) e esz lo (elems.set j (old.take q ++ ds ++ old.drop (q + ds.length)))) [(g, lo * esz)] := by
   refine .arrX g cap _ e esz lo _ (setRow_heap w g cur _ e _ hg) (by rw [hlen]; exact hlo') (by rw [hlen]; exact hn) hm ?_ ?_ ?_ ?_
   ·simp only [Qh7, Qfu, Qgn, Qie, hcur]; omega
   ·intro x hx'
    rcases List.mem_or_eq_of_mem_set hx' with h | h
    ·exact hz x h
    ·subst h; simp; omega
   ·intro off ho hw
    refine hnw off ho (hxR.mono g off (lt_of_block hg) hw)
   ·rw [hlen, flat_set hz hj hq]
    have e1 : (cur.toList.take (j * esz + q) ++ us ++ cur.toList.drop (j * esz + q + us.length)).take (elems.length * esz) = (cur.toList.take (elems.length * esz)).take (j * esz + q) ++ us ++ (cur.toList.take (elems.length * esz)).drop (j * esz + q + us.length) := by
     rw [List.take_append, Qg8 (by simp only [Qfu, Qgn, hcur]; omega), List.take_take, Qiq (by omega)]
     congr 1
     rw [List.drop_take]
     congr 1
     simp only [Qfu, Qgn, hcur]
     omega
    simp only [List.toList_toArray]
    rw [e1, ← hul]
    exact (((hre.step hxR).take _).append ((hu.congr hwr).step hxR)).append ((hre.step hxR).drop _)
  rw [hlen] at hob'
  obtain ⟨L', h2, h3⟩ := hgo _ _ _ none undef .any hf (fun d hd => by cases hd) hob' (.any _)
  exact ⟨L', by simpa [St.upd, St.putO, Act.put] using h2, h3⟩
theorem OpT.storeX {t : TypeId} {x y : Operand} {v : Value} {i j q lo esz : Nat} {e : TypeId} {elems : List (List DC)} {old : List DC} {d : DC} {z : Value} {by_ : Nat} (ho : o.op = .store t x y) (hdst : o.dst = none) (hei : Zk P t z 1 by_)
  (hx : s.ev x = some (.el v esz j q)) (hy : s.ev y = some (.c d)) (hi : s.tab[i]? = some (.arrX v e esz lo elems)) (hj : elems[j]? = some old) (hlo : lo ≤ j) (hq : q < esz) (k : K { s with tab := s.tab.set i (.arrX v e esz lo (elems.set j (old.take q ++ [d] ++ old.drop (q + 1)))) }) : OpT P N o s K := by
 intro F L a w hr
 have h := hr.ev hy
 have hp := hr.ev hx
 generalize hqy : a.eval y = u at h
 generalize hqx : a.eval x = p at hp
 cases h with
 | c _ _ h =>
  obtain ⟨g, cap, cs, hv, hb, hfit, L', h2, h3⟩ := hr.storeX (q := q) (us := [u]) (ds := [d]) hi hj hlo (by simp only [Qft]; omega) (V8.cons h V8.nil)
  subst hv
  cases hp with
  | el =>
  have hst := run_storeCells_at P g (j * esz + q) e [u] 0 cs w hb (by simpa using hfit) (by simpa using h.one)
  have hcells : u.cells = #[u] := by
   have := h.one
   cases u <;> first | rfl | (simp [Value.oneCell'] at this)
  have hrun : (execOp a.eval o).run P w = .ok .skip (w.setRow g (cs.toList.take (j * esz + q) ++ [u] ++ cs.toList.drop (j * esz + q + [u].length)).toArray) := by
   simp only [Qht] at hst
   simp [execOp, ho, hqx, hqy, Instr.storeAt, Instr.sureAddr, storeVar, hei.sizeOf, hcells]
   simp at hst
   simp [hst]
  unfold Oper.wp
  rw [hrun, Oper.upon_skip, hdst]
  exact ⟨L', _, k, by simpa [Act.put] using h2, h3⟩
theorem Wf {α : Type} {t : TypeId} {x y : Operand} {v : Value} {i j q lo esz : Nat} {e : TypeId} {xs : List α} {f : α → List DC} {old new : α} {d : DC} {z : Value} {by_ : Nat} (ho : o.op = .store t x y) (hdst : o.dst = none) (hei : Zk P t z 1 by_)
  (hx : s.ev x = some (.el v esz j q)) (hy : s.ev y = some (.c d)) (hi : s.tab[i]? = some (.arrX v e esz lo (xs.map f))) (hj : xs[j]? = some old) (hlo : lo ≤ j) (hq : q < esz) (hnew : (f old).take q ++ [d] ++ (f old).drop (q + 1) = f new) (k : K { s with tab := s.tab.set i (.arrX v e esz lo ((xs.set j new).map f)) }) : OpT P N o s K :=
 OpT.storeX ho hdst hei hx hy hi (getMap f hj) hlo hq (by rw [hnew, ← List.map_set]; exact k)
theorem Qac {α : Type} {t : TypeId} {x y : Operand} {v : Value} {i j q lo esz : Nat} {e : TypeId} {xs : List α} {f : α → List DC} {old new : α} {l : List DC} {z : Value} {sz by_ : Nat} (ho : o.op = .store t x y) (hdst : o.dst = none) (hei : Zk P t z sz by_)
  (hx : s.ev x = some (.el v esz j q)) (hy : s.ev y = some (.agg l)) (hls : l.length = sz) (hi : s.tab[i]? = some (.arrX v e esz lo (xs.map f))) (hj : xs[j]? = some old) (hlo : lo ≤ j) (hq : q + sz ≤ esz) (hnew : (f old).take q ++ l ++ (f old).drop (q + l.length) = f new) (k : K { s with tab := s.tab.set i (.arrX v e esz lo ((xs.set j new).map f)) }) : OpT P N o s K := by
 intro F L a w hr
 have h := hr.ev hy
 have hp := hr.ev hx
 generalize hqy : a.eval y = u at h
 generalize hqx : a.eval x = p at hp
 cases h with
 | agg vs _ h =>
  obtain ⟨g, cap, cs, hv, hb, hfit, L', h2, h3⟩ := hr.storeX (q := q) (us := vs.toList) (ds := l) hi (getMap f hj) hlo (by omega) h
  subst hv
  cases hp with
  | el =>
  have hst := run_storeCells_at P g (j * esz + q) e vs.toList 0 cs w hb (by simpa using hfit) h.one
  have hvs : vs.size = sz := by have := h.1; simp at this; omega
  have hrun : (execOp a.eval o).run P w = .ok .skip (w.setRow g (cs.toList.take (j * esz + q) ++ vs.toList ++ cs.toList.drop (j * esz + q + vs.toList.length)).toArray) := by
   simp only [Qht] at hst
   simp [execOp, ho, hqx, hqy, Instr.storeAt, Instr.sureAddr, storeVar, hei.sizeOf, Value.cells, hvs]
   simp [hvs] at hst
   simp [hst]
  unfold Oper.wp
  rw [hrun, Oper.upon_skip, hdst]
  rw [hnew, ← List.map_set] at h2
  exact ⟨L', _, k, by simpa [Act.put] using h2, h3⟩
theorem OpT.loadX {t : TypeId} {dt : TypeDesc} {x : Operand} {v : Value} {i j q lo esz : Nat} {e : TypeId} {elems : List (List DC)} {old : List DC} {d : DC} (ho : o.op = .load t x) (hN : ∀ d, o.dst = some d → d < N) (ht : P.underlying t = some dt) (hfl : TypeDesc.flat dt = true)
  (hx : s.ev x = some (.el v esz j q)) (hi : s.tab[i]? = some (.arrX v e esz lo elems)) (hj : elems[j]? = some old) (hd : old[q]? = some d) (k : K (s.putO o.dst (.c d))) : OpT P N o s K :=
 Zd _ hN (fun F L a w hr => by
  obtain ⟨r1, r2, h1, h2, hp⟩ := hr.heap.get hi
  have hpx := hr.ev hx
  generalize hqx : a.eval x = p at hpx
  have hjl := (List.getElem?_eq_some_iff.1 hj).1
  cases h1 with
  | arrX0 a => simp at hj
  | arrX g cap cur _ _ _ _ hg hlo' hn hm hcs hz hnw hre =>
   cases hpx with
   | el =>
   have hold : old.length = esz := hz old (List.mem_of_getElem? hj)
   have hq : q < esz := by rw [← hold]; exact (List.getElem?_eq_some_iff.1 hd).1
   have hfl' : elems.flatten[j * esz + q]? = some d := by rw [Ts hz hq, hj]; exact hd
   have hbound : j * esz + esz ≤ elems.length * esz := by rw [← Qhp]; exact Qgy _ hjl
   have hlt : j * esz + q < (cur.toList.take (elems.length * esz)).length := by rw [hre.1]; exact (List.getElem?_eq_some_iff.1 hfl').1
   have hrd := hre.2 (j * esz + q) _ d (List.getElem?_eq_getElem hlt) hfl'
   have hcell : w.cell? ⟨g, j * esz + q, none⟩ = some ((cur.toList.take (elems.length * esz))[j * esz + q]) := by
    rw [cell_of_row w g _ cur e _ hg]
    have : (cur.toList.take (elems.length * esz))[j * esz + q]? = cur.toList[j * esz + q]? := by rw [List.getElem?_take, if_pos (by omega)]
    rw [← List.getElem?_eq_getElem hlt, this]
    simp
   refine ⟨_, ?_, .c _ _ hrd⟩
   simp [execOp, ho, hqx, Instr.loadAt, Instr.sureAddr, loadVar, H8 ht, hfl, hcell]) k
theorem J1 {α : Type} {t : TypeId} {dt : TypeDesc} {x : Operand} {v : Value} {i j q lo esz : Nat} {e : TypeId} {xs : List α} {f : α → List DC} {old : α} {d : DC} (ho : o.op = .load t x) (hN : ∀ d, o.dst = some d → d < N) (ht : P.underlying t = some dt) (hfl : TypeDesc.flat dt = true)
  (hx : s.ev x = some (.el v esz j q)) (hi : s.tab[i]? = some (.arrX v e esz lo (xs.map f))) (hj : xs[j]? = some old) (hd : (f old)[q]? = some d) (k : K (s.putO o.dst (.c d))) : OpT P N o s K :=
 OpT.loadX ho hN ht hfl hx hi (getMap f hj) hd k
theorem Gl {s : St} (i : Nat) {v : Value} {e : TypeId} {esz lo : Nat} {elems : List (List DC)} (hi : s.tab[i]? = some (.arrX v e esz lo elems)) : Zx s ⟨s.slots, s.tab.set i (.arrA v e esz elems)⟩ := fun N F L a w hr => by
 obtain ⟨r, R, hob, hwr, hnd, hlt, hdis, hgo⟩ := hr.touch hi
 cases hob with
 | arrX0 b =>
  obtain ⟨L', h2, h3⟩ := hgo w [] (.arrA (.slice b 0 0) e esz []) none undef .any ⟨Ext.refl _ _, by simp, fun p hp => by cases hp⟩ (fun d hd => by cases hd) (.arrA _ _ _ _ _ (.nil b e esz)) (.any _)
  exact ⟨L', h2, h3⟩
 | arrX g cap cur _ _ _ _ hg hlo' hn hm hcs hz hnw hre =>
  have hle : lo * esz ≤ elems.length * esz := Qgy _ hlo'
  have hx : Ext [(g, lo * esz)] w [(g, elems.length * esz)] w := ⟨rfl, rfl, rfl, Qf6 _, fun _ _ _ => rfl, fun _ _ _ _ => rfl, fun b off hb hw => by
   obtain ⟨l, hl, hlo2⟩ := hw
   simp at hl
   exact ⟨lo * esz, by simp [hl.1], by omega⟩, fun b l hb hl => by simp at hl; exact ⟨lo * esz, by simp [hl.1]⟩⟩
  have hmo : ∀ b off, Wr ([(g, elems.length * esz)] ++ R) b off → Wr ([(g, lo * esz)] ++ R) b off := fun b off hw => by
   rcases Wr.append.1 hw with ⟨l, hl, hl2⟩ | h
   ·simp at hl; exact Wr.append.2 (.inl ⟨lo * esz, by simp [hl.1], by omega⟩)
   ·exact Wr.append.2 (.inr h)
  obtain ⟨L', h2, h3⟩ := hgo w [(g, elems.length * esz)] (.arrA (.slice (some ⟨g, 0, none⟩) elems.length cap) e esz elems) none undef .any ⟨hx, by simp, fun p hp => by simp at hp; subst hp; exact lt_of_block hg⟩ (fun d hd => by cases hd)
   (.arrA _ _ _ _ _ (.some g cap cur e esz elems hg hn hm hcs hz (fun off ho hw => by
    rcases Wr.append.1 hw with ⟨l, hl, hl2⟩ | ⟨l, hl, _⟩
    ·simp at hl; omega
    ·exact hdis (g, lo * esz) (by simp) l hl) (hre.less hmo))) (.any _)
  exact ⟨L', h2, h3⟩
theorem Ox {w : World} {M : Reg} {e : TypeId} {z : Value} {size lo : Nat} {elems ys : List (List DC)} {olds news : List Value} {cap : Nat} (hz : z.cells.size = size) (hlo : olds.length = elems.length * size) (hl : news.length = ys.length * size)
  (hzo : ∀ x ∈ elems, x.length = size) (hzy : ∀ x ∈ ys, x.length = size) (h63 : elems.length + ys.length ≤ maxLen) (hloe : lo ≤ elems.length)
  {M' : Reg} (hM : Ext M w M' (w.drew.alloc (.cells (olds.toArray ++ news.toArray ++ Builtin.zeroCells z.cells (grownCap w (elems.length + ys.length) cap e - (elems.length + ys.length))) e)))
  (hnew : ∀ off, off < lo * size → ¬ Wr M' w.heap.size off) (ho : V8 w M olds elems.flatten) (hn : V8 w M news ys.flatten) :
  ObR (w.drew.alloc (.cells (olds.toArray ++ news.toArray ++ Builtin.zeroCells z.cells (grownCap w (elems.length + ys.length) cap e - (elems.length + ys.length))) e)) M' (.arrX (.slice (some ⟨w.heap.size, 0, none⟩) (elems.length + ys.length) (grownCap w (elems.length + ys.length) cap e)) e size lo (elems ++ ys)) [(w.heap.size, lo * size)] := by
 have hge := grownCap_ge w (elems.length + ys.length) cap e
 have hle := grownCap_le_maxLen w (elems.length + ys.length) cap e h63
 have hlen : (elems ++ ys).length = elems.length + ys.length := Qfu
 have key := ObR.arrX (w := w.drew.alloc (.cells (olds.toArray ++ news.toArray ++ Builtin.zeroCells z.cells (grownCap w (elems.length + ys.length) cap e - (elems.length + ys.length))) e)) (M := M') w.heap.size (grownCap w (elems.length + ys.length) cap e) _ e size lo (elems ++ ys) (heap_alloc_new w.drew _) (by rw [hlen]; omega) (by rw [hlen]; exact hge) hle ?_ ?_ hnew ?_
 ·rw [hlen] at key; exact key
 ·simp only [Array.size_append, Qh7, size_zeroCells, hz, hlo, hl, ← Qh9]
  congr 1
  omega
 ·intro x hx
  rcases Qfz.1 hx with h | h
  ·exact hzo x h
  ·exact hzy x h
 ·have : (olds.toArray ++ news.toArray ++ Builtin.zeroCells z.cells (grownCap w (elems.length + ys.length) cap e - (elems.length + ys.length))).toList.take ((elems ++ ys).length * size) = olds ++ news := by
   rw [Qhz, Qhz, hlen, Qh9, ← hlo, ← hl, ← Qfu]
   exact Qi8
  rw [this, Qic]
  exact (ho.step hM).append (hn.step hM)
theorem OpT.appendX {x y : Operand} {t e : TypeId} {z : Value} {esz by_ lo : Nat} {full : Bool} {v : Value} {i : Nat} {elems ys : List (List DC)} (ho : o.op = .call { callee := .builtin .append, args := #[x, y], argTypes := #[t, t] }) (hN : ∀ d, o.dst = some d → d < N)
  (ht : P.underlying t = some (.slice e)) (hei : Zk P e z esz by_) (hz : z.cells.size = esz) (hx : s.ev x = some (.c (.ex v))) (hi : s.tab[i]? = some (.arrX v e esz lo elems)) (hy : s.ev y = some (.sl full esz ys))
  (h63 : elems.length + ys.length ≤ maxLen) (hby : (elems.length + ys.length) * by_ ≤ 140737488355328)
  (k : ∀ v', K (s.upd o.dst (.c (.ex v')) (s.tab.set i (.arrX v' e esz lo (elems ++ ys))))) : OpT P N o s K := by
 intro F L a w hr
 have hv := hr.exact hx
 obtain ⟨r, R, hob, hwr, hnd, hlt, hdis, hgo⟩ := hr.touch hi
 obtain ⟨ay, cy, news, hvy, hzy, hln, hrn, hone, hpos⟩ := (hr.ev hy).cell.news
 have hrn' : V8 w (r ++ R) news ys.flatten := hrn.congr hwr
 have hfreshR : ∀ lim, (w.heap.size, lim) ∉ R := fun lim hl => by
  have : Wr (L ++ F) w.heap.size lim := (hwr _ _).1 (Wr.append.2 (.inr ⟨lim, hl, Qf6 _⟩))
  obtain ⟨l2, hl2, _⟩ := this
  exact absurd (hr.lt _ hl2) (by simp)
 by_cases h0 : ys.length = 0
 ·have hye : ys = [] := Qgj h0
  subst hye
  have hle : ∃ b n c, v = .slice b n c ∧ n ≤ c := by cases hob with | arrX0 => exact ⟨_, _, _, rfl, Qf6 _⟩ | arrX g cap cur _ _ _ _ hg _ hn => exact ⟨_, _, _, rfl, hn⟩
  obtain ⟨b, n, c, rfl, hnc⟩ := hle
  have hrun := Uo (w := w) (w' := w) (a := a) ho hv hvy (E2 ht hei b ay n c cy hnc)
  obtain ⟨L', h2, h3⟩ := hgo w r (.arrX (.slice b n c) e esz lo (elems ++ [])) o.dst (.slice b n c) (.c (.ex (.slice b n c))) ⟨Ext.refl _ _, hnd, hlt⟩ hN (by rw [Qgg]; exact hob) (.c _ _ (.ex _ rfl))
  unfold Oper.wp
  rw [hrun, Oper.upon_value]
  exact ⟨L', _, k _, h2, h3⟩
 ·have hpos' : 0 < ys.length := by omega
  obtain ⟨ad, rfl, hnews⟩ := hpos hpos'
  cases hob with
  | arrX0 b =>
   have happ := Jy (w := w) (ty := o.type) ht hei b 0 0 [] (by simp) (fun _ => ⟨rfl, rfl⟩) (fun b _ j v hj => by simp at hj) ad ys.length cy news hln hnews hpos' (by omega) h63 hby
   have hrun := Uo (a := a) ho hv hvy happ
   have hf : Fits w (w.drew.alloc (.cells (([] : List Value).toArray ++ news.toArray ++ Builtin.zeroCells z.cells (grownCap w (0 + ys.length) 0 e - (0 + ys.length))) e)) [] [(w.heap.size, 0 * esz)] :=
    ⟨(Ext.drew [] w).trans (Ext.alloc w.drew _ _), by simp, fun p hp => by simp at hp; subst hp; simp⟩
   obtain ⟨L', h2, h3⟩ := hgo _ _ (.arrX (.slice (some ⟨w.heap.size, 0, none⟩) (0 + ys.length) (grownCap w (0 + ys.length) 0 e)) e esz 0 ([] ++ ys)) o.dst (.slice (some ⟨w.heap.size, 0, none⟩) (0 + ys.length) (grownCap w (0 + ys.length) 0 e)) (.c (.ex _)) hf hN
    (Ox (elems := []) (olds := []) (cap := 0) (lo := 0) hz (by simp) hln (fun x hx => by simp at hx) hzy h63 (Qf6 _) (hf.ext.frame R) (fun off hoff hw => by simp at hoff) V8.nil hrn') (.c _ _ (.ex _ rfl))
   unfold Oper.wp
   rw [hrun, Oper.upon_value]
   exact ⟨L', _, k _, h2, h3⟩
  | arrX g cap cur _ _ _ _ hg hloe hn hm hcs hzo hnw hro =>
   have hglt := lt_of_block hg
   have hRg : ∀ lim, (g, lim) ∉ R := hdis (g, lo * esz) (by simp)
   by_cases hroom : elems.length + ys.length ≤ cap
   ·obtain ⟨ii, hi1, hi2, hi3, hi4⟩ := hei
    subst hi3
    have hfit : elems.length * ii.size + news.length ≤ cur.size := by rw [hln, hcs, ← Qh9]; exact Qgy _ hroom
    have happ := run_append_room (P := P) w t o.type e ii ht hi1 g elems.length cap cur hg ad ys.length cy news hln hnews hone hroom hfit
    have hrun := Uo (a := a) ho hv hvy happ
    have hlele : lo * ii.size ≤ elems.length * ii.size := Qgy _ hloe
    have hx1 : Ext [(g, lo * ii.size)] w [(g, lo * ii.size)] (w.setRow g (cur.toList.take (elems.length * ii.size) ++ news ++ cur.toList.drop (elems.length * ii.size + news.length)).toArray) :=
     Li hg (Qf6 _) (fun q hq => by
      rw [Qfx, List.getElem?_append_left (by simp; omega), List.getElem?_take, if_pos (by omega)]
      simp)
    have hf : Fits w _ [(g, lo * ii.size)] [(g, lo * ii.size)] := ⟨hx1, by simp, fun p hp => by simp at hp; subst hp; simpa using hglt⟩
    have hxR := hx1.frame R
    have hlen : (elems ++ ys).length = elems.length + ys.length := Qfu
    have hown' : ObR (w.setRow g (cur.toList.take (elems.length * ii.size) ++ news ++ cur.toList.drop (elems.length * ii.size + news.length)).toArray) ([(g, lo * ii.size)] ++ R) (.arrX (.slice (some ⟨g, 0, none⟩) (elems ++ ys).length cap) e ii.size lo (elems ++ ys)) [(g, lo * ii.size)] := by
     refine .arrX g cap _ e ii.size lo (elems ++ ys) (setRow_heap w g cur _ e _ hg) (by rw [hlen]; omega) (by rw [hlen]; exact hroom) hm ?_ ?_ ?_ ?_
     ·simp only [Qh7, Qfu, Qgn, Qie, Qg6]; omega
     ·intro x hx; rcases Qfz.1 hx with h | h; (exact hzo x h); exact hzy x h
     ·intro off hoff hw
      exact hnw off hoff (hxR.mono g off hglt hw)
     ·have : (cur.toList.take (elems.length * ii.size) ++ news ++ cur.toList.drop (elems.length * ii.size + news.length)).toArray.toList.take ((elems ++ ys).length * ii.size) = cur.toList.take (elems.length * ii.size) ++ news := by
       have hl1 : (cur.toList.take (elems.length * ii.size) ++ news).length = (elems ++ ys).length * ii.size := by
        have hcur : cur.toList.length = cur.size := by simp
        rw [Qfu, Qgn, hcur, hlen, Qh9, hln]; omega
       rw [← hl1]
       exact Qi8
      rw [this, Qic]
      exact (hro.step hxR).append (hrn'.step hxR)
    rw [hlen] at hown'
    obtain ⟨L', h2, h3⟩ := hgo _ _ (.arrX (.slice (some ⟨g, 0, none⟩) (elems.length + ys.length) cap) e ii.size lo (elems ++ ys)) o.dst (.slice (some ⟨g, 0, none⟩) (elems.length + ys.length) cap) (.c (.ex _)) hf hN hown' (.c _ _ (.ex _ rfl))
    unfold Oper.wp
    rw [hrun, Oper.upon_value]
    exact ⟨L', _, k _, h2, h3⟩
   ·have holdlen : (cur.toList.take (elems.length * esz)).length = elems.length * esz := by
     have hcur : cur.toList.length = cur.size := by simp
     rw [Qgn, hcur, hcs]
     exact Qiq (Qgy _ hn)
    have happ := Jy (w := w) (ty := o.type) ht hei (some ⟨g, 0, none⟩) elems.length cap (cur.toList.take (elems.length * esz)) holdlen (fun h => by cases h) (fun b hb j v hj => by
     cases hb
     rw [addr_add, cell_of_row w g _ cur e _ hg, Qgq]
     rw [List.getElem?_take] at hj
     split at hj
     ·simpa using hj
     ·cases hj) ad ys.length cy news hln hnews hpos' (by omega) h63 hby
    have hrun := Uo (a := a) ho hv hvy happ
    have hf : Fits w (w.drew.alloc (.cells ((cur.toList.take (elems.length * esz)).toArray ++ news.toArray ++ Builtin.zeroCells z.cells (grownCap w (elems.length + ys.length) cap e - (elems.length + ys.length))) e)) [(g, lo * esz)] [(w.heap.size, lo * esz)] :=
     ⟨((Ext.drew [] w).trans (Ext.alloc w.drew _ _)).ofNil, by simp, fun p hp => by simp at hp; subst hp; simp⟩
    obtain ⟨L', h2, h3⟩ := hgo _ _ (.arrX (.slice (some ⟨w.heap.size, 0, none⟩) (elems.length + ys.length) (grownCap w (elems.length + ys.length) cap e)) e esz lo (elems ++ ys)) o.dst (.slice (some ⟨w.heap.size, 0, none⟩) (elems.length + ys.length) (grownCap w (elems.length + ys.length) cap e)) (.c (.ex _)) hf hN
     (Ox hz holdlen hln hzo hzy h63 hloe (hf.ext.frame R) (fun off hoff hw => by
      rcases Wr.append.1 hw with ⟨lim, hl, hle⟩ | ⟨lim, hl, _⟩
      ·simp only [Qf3, Qf4] at hl; omega
      ·exact hfreshR lim hl) hro hrn') (.c _ _ (.ex _ rfl))
    unfold Oper.wp
    rw [hrun, Oper.upon_value]
    exact ⟨L', _, k _, h2, h3⟩
theorem Cz {α : Type} {x y : Operand} {t e : TypeId} {z : Value} {esz by_ lo : Nat} {full : Bool} {v : Value} {i : Nat} {xs ys : List α} {f : α → List DC} (ho : o.op = .call { callee := .builtin .append, args := #[x, y], argTypes := #[t, t] }) (hN : ∀ d, o.dst = some d → d < N)
  (ht : P.underlying t = some (.slice e)) (hei : Zk P e z esz by_) (hz : z.cells.size = esz) (hx : s.ev x = some (.c (.ex v))) (hi : s.tab[i]? = some (.arrX v e esz lo (xs.map f))) (hy : s.ev y = some (.sl full esz (ys.map f)))
  (hroom : roomy by_ (xs.length + ys.length) = true)
  (k : ∀ v', K (s.upd o.dst (.c (.ex v')) (s.tab.set i (.arrX v' e esz lo ((xs ++ ys).map f))))) : OpT P N o s K := by
 obtain ⟨h1, h2⟩ := Zl.1 hroom
 exact OpT.appendX ho hN ht hei hz hx hi hy (by simpa using h1) (by simpa using h2) (fun v => by rw [← Qg5]; exact k v)
end
theorem AvR.none' {w : World} {M : Reg} : AvR w M undef (.tup []) := .tup #[] [] rfl (fun i v x h => by simp at h)
theorem Rel.gone {w : World} {N : Nat} {F L : Reg} {s : St} {a : Act} {d : Nat} (hr : Rel w N F L s a) (hs : s.slots.lookup d = some (.tup [])) : a.tmps.getD d undef = .tuple #[] := by
 have h := hr.slot d _ hs
 generalize a.tmps.getD d undef = q at h
 cases h with
 | tup vs _ hl _ =>
  have : vs = #[] := by simpa using hl
  rw [this]
section
variable {P : Program} {N : Nat} {s : St} {o : Oper} {K : St → Prop} {ops : Array Oper} {Q : Exit → St → Prop}
theorem wanted_gone {j : Nat} {x : Bool} {d : Nat} {w : World} {F L : Reg} {a : Act} (hr : Rel w N F L s a) (h : o.guard = some (j, x)) (hd : (ops[j]?).bind (·.dst) = some d) (hs : s.slots.lookup d = some (.tup [])) : Region.wanted o (yielded ops a.tmps) = false := by
 have hv := hr.gone hs
 have hg : yielded ops a.tmps j = none := by
  simp only [yielded, hd]
  rw [Array.getD_eq_getD_getElem?] at hv
  simp only [Option.bind_some]
  cases hq : a.tmps[d]? with
  | none => rfl
  | some v => rw [hq] at hv; simp at hv; subst hv; rfl
 simp [Region.wanted, h, hg]
inductive Qcu (ops : Array Oper) (s : St) (o : Oper) : Prop
 | off (j : Nat) (x : Bool) (d : Nat) (b : Bool) (h : o.guard = some (j, x)) (hd : (ops[j]?).bind (·.dst) = some d) (hs : s.slots.lookup d = some (.c (.ex (.bool b)))) (hb : b = !x)
 | gone (j : Nat) (x : Bool) (d : Nat) (h : o.guard = some (j, x)) (hd : (ops[j]?).bind (·.dst) = some d) (hs : s.slots.lookup d = some (.tup []))
theorem Qcu.eq {w : World} {F L : Reg} {a : Act} (h : Qcu ops s o) (hr : Rel w N F L s a) : Region.wanted o (yielded ops a.tmps) = false := by
 cases h with
 | off j x d b h hd hs hb => exact (Ft.off h hd hs hb).eq hr
 | gone j x d h hd hs => exact wanted_gone hr h hd hs
theorem TO.pU {i : Nat} {rest : List Nat} (ho : ops[i]? = some o) (hw : Qcu ops s o) (hN : ∀ d, o.dst = some d → d < N) (h : TO P N ops rest (s.putO o.dst (.tup [])) Q) : TO P N ops (i :: rest) s Q := by
 intro F L a w hr
 simp only [wpOps, ho, hw.eq hr, if_false, Qjg]
 exact h F L _ w (hr.put hN AvR.none')
theorem TL'.pU {l : List Oper} (hw : Qcu ops s o) (hN : ∀ d, o.dst = some d → d < N) (h : TL' P N ops l (s.putO o.dst (.tup [])) Q) : TL' P N ops (o :: l) s Q := by
 intro js hj
 cases js with
 | nil => simp at hj
 | cons j js =>
  simp only [Qge, Qim] at hj
  exact TO.pU hj.1 hw hN (h js hj.2)
theorem One.pU {i : Nat} (ho : ops[i]? = some o) (hw : Qcu ops s o) (hN : ∀ d, o.dst = some d → d < N) (h : K (s.putO o.dst (.tup []))) : One P N ops i s K := by
 intro F L a w hr
 simp only [wpOp, ho, hw.eq hr, Qjg, if_false]
 exact ⟨L, _, h, hr.put hN AvR.none', Ext.refl _ _⟩
end
theorem Hb {l : List Value} (h : l.all Value.oneCell' = true) : ∀ v ∈ l, v.oneCell' = true := Qgr.1 h
theorem Xh {l : List (List DC)} {n : Nat} (h : l.all (fun x => x.length == n) = true) : ∀ x ∈ l, x.length = n := fun x hx => by simpa using Qgr.1 h x hx
theorem Q1 {P : Program} {fn : Func} {R : AV → List Ob → Prop} {s : St} {xs : List AV} {G : List Ob} (h : ResL P s fn.results.toList xs) (hp : Pick s.tab G) (hR : R (tupAV xs) G) : Fin P fn R s := fun N F L a w hr => by
 obtain ⟨v, h1, h2⟩ := h.results hr
 obtain ⟨L', h3, h4⟩ := Zx.re (s := s) (s' := ⟨[], G⟩) (Sub.nil _) hp N F L a w hr
 exact ⟨v, _, G, L', h1, hR, h2.step (h4.frame F), h3.heap, h3.nodup, h3.lt, h4⟩
inductive Ros (s : St) : List Ob → Prop
 | nil : Ros s []
 | cons (i : Nat) {g : Nat} {cells : List DC} {G : List Ob} (h : s.tab[i]? = some (.ro g cells)) (k : Ros s G) : Ros s (.ro g cells :: G)
 | tab (i : Nat) {g : Nat} {cs : Array Value} {G : List Ob} (h : s.tab[i]? = some (.tab g cs)) (k : Ros s G) : Ros s (.tab g cs :: G)
theorem Ros.heap {s : St} {G : List Ob} (h : Ros s G) {w : World} {N : Nat} {F L : Reg} {a : Act} (hr : Rel w N F L s a) : X1 w (L ++ F) (G ++ s.tab) L := by
 induction h with
 | nil => exact hr.heap
 | cons i h k ih =>
  obtain ⟨r1, r2, h1, h2, hp⟩ := hr.heap.get h
  have e : r1 = [] := by cases h1; rfl
  subst e
  have := X1.cons _ _ _ _ h1 ih
  simpa using this
 | tab i h k ih =>
  obtain ⟨r1, r2, h1, h2, hp⟩ := hr.heap.get h
  have e : r1 = [] := by cases h1; rfl
  subst e
  have := X1.cons _ _ _ _ h1 ih
  simpa using this
section
variable {P : Program} {N : Nat} {s : St} {o : Oper} {K : St → Prop}
def ofBytes (xs : List Int) : ByteArray := xs.foldl (fun r n => r.push (UInt8.ofNat n.toNat)) ByteArray.empty
end
end Go.Rv
