/- A LOGIC OF ABSTRACT STATES OVER THE MODEL, part DA: maps that the code makes: made, asked, put into, counted. -/
import Derived.Test.YtcmfaclkgdmpbaaGreatDoorRvCE
import Derived.MapKept
import Derived.Carry
import Derived.Test.YtcmfaclkgdmpbaaGreatDoorRvCB
import Derived.Test.YtcmfaclkgdmpbaaGreatDoorRvNW
import Derived.Test.YtcmfaclkgdmpbaaGreatDoorShelf
import Derived.Laws.CopyRow
namespace Go.Rv
def KeyK (d : TypeDesc) {κ : Type} [BEq κ] (g : κ → Value) : Prop := (∀ a, MapKept.IsKey d (g a)) ∧ ∀ a b, Instr.sameNow d (g a) (g b) = some (a == b)
theorem KeyK.str : KeyK .string (fun a : ByteArray => Value.string a) := ⟨fun _ => trivial, fun _ _ => rfl⟩
theorem KeyK.int (k : IntKind) : KeyK (.int k) (fun a : Int => Value.int k a) := ⟨fun _ => rfl, fun _ _ => by simp [Instr.sameNow]⟩
abbrev kS (a : ByteArray) : Value := .string a
abbrev kI (a : Int) : Value := .int .i64 a
theorem KeyK.kS : KeyK .string Go.Rv.kS := KeyK.str
theorem KeyK.kI : KeyK (.int .i64) Go.Rv.kI := KeyK.int .i64
def kvs {κ β : Type} (g : κ → Value) (h : β → Value) (l : List (κ × β)) : List (Value × Value) := l.map fun p => (g p.1, h p.2)
theorem Qdt {κ β : Type} [BEq κ] {d : TypeDesc} {g : κ → Value} {h : β → Value} (hg : KeyK d g) (a : κ) : ∀ (es : List MapEntry) (l : List (κ × β)) (n : Nat), es.map (fun e => (e.key, e.val)) = kvs g h l →
  ∃ r, Instr.findNow d (g a) es n = some r ∧ r.map (·.2) = (l.lookup a).map h := by
 intro es
 induction es with
 | nil =>
  intro l n hk
  cases l with
  | nil => exact ⟨none, rfl, rfl⟩
  | cons p l => simp [kvs] at hk
 | cons e es ih =>
  intro l n hk
  cases l with
  | nil => simp [kvs] at hk
  | cons p l =>
   simp only [kvs, Qge, Qim, Qf4] at hk
   obtain ⟨⟨hk1, hk2⟩, hk3⟩ := hk
   obtain ⟨k, v⟩ := p
   rw [Qhb, Instr.findNow, hk1, hg.2]
   cases hq : (a == k) with
   | true => exact ⟨some (n, e.val), rfl, by simp [hk2]⟩
   | false => exact ih l (n + 1) hk3
section
variable {P : Program} {N : Nat} {s : St} {o : Oper} {K : St → Prop}
theorem OpT.makeMap {t : TypeId} (ho : o.op = .makeMap t none) (hN : ∀ d, o.dst = some d → d < N)
  (k : ∀ b, K (s.upd o.dst (.c (.ex (.map (some b)))) (.map b [] :: s.tab))) : OpT P N o s K := by
 intro F L a w hr
 have hrun : (execOp a.eval o).run P w = .ok (.value (.map (some w.heap.size))) (w.alloc (.map #[] 0)) := by
  have e : (Instr.makeMap t none).run P w = .ok (.map (some w.heap.size)) (w.alloc (.map #[] 0)) := rfl
  simp [execOp, ho, e]
 obtain ⟨L', h2, h3⟩ := hr.add (w' := w.alloc (.map #[] 0)) (r := [(w.heap.size, 0)]) (dst := o.dst) (v := .map (some w.heap.size)) (x := .c (.ex (.map (some w.heap.size)))) (o := .map w.heap.size [])
  (Fits.alloc w (.map #[] 0) 0) hN (fun M _ _ => .map _ #[] 0 [] (heap_alloc_new w _) rfl) (fun M _ _ => .c _ _ (.ex _ rfl))
 unfold Oper.wp
 rw [hrun, Oper.upon_value]
 exact ⟨L', _, k w.heap.size, h2, h3⟩
theorem X1.mapAt {w : World} {M : Reg} {tab : List Ob} {L : Reg} (h : X1 w M tab L) {i b : Nat} {kv : List (Value × Value)} (hi : tab[i]? = some (.map b kv)) : ∃ es clock, w.heap[b]? = some (.map es clock) ∧ es.toList.map (fun e => (e.key, e.val)) = kv := by
 obtain ⟨r1, r2, h1, _, _⟩ := h.get hi
 cases h1 with
 | map _ es clock _ hb hk => exact ⟨es, clock, hb, hk⟩
theorem Sw {κ β : Type} [BEq κ] {d : TypeDesc} {g : κ → Value} {h : β → Value} {w : World} {t kt et : TypeId} {z : β} {by_ b clock : Nat} {es : Array MapEntry} {l : List (κ × β)} {ok : Bool} (hg : KeyK d g) (ht : P.underlying t = some (.map kt et)) (hd : P.underlying kt = some d) (hei : Zk P et (h z) 1 by_)
  (hb : w.heap[b]? = some (.map es clock)) (hk : es.toList.map (fun e => (e.key, e.val)) = kvs g h l) (a : κ) :
  (Instr.lookup t (.map (some b)) (g a) ok).run P w = .ok (if ok then .tuple #[h ((l.lookup a).getD z), .bool (l.lookup a).isSome] else h ((l.lookup a).getD z)) w := by
 obtain ⟨r, h1, h2⟩ := Qdt hg a es.toList l 0 hk
 have hz := hei.zeroValue (w := w)
 cases r with
 | none =>
  have h3 : l.lookup a = none := by
   cases hq : l.lookup a with
   | none => rfl
   | some v => rw [hq] at h2; simp at h2
  simp [Instr.lookup, run_underlying ht, MapKept.run_getObj_map hb, MapKept.run_checkKey hd (hg.1 a), MapKept.run_findKey hd h1, hz, Result.andThen, h3]
 | some q =>
  obtain ⟨i, v⟩ := q
  have h3 : ∃ u, l.lookup a = some u ∧ v = h u := by
   cases hq : l.lookup a with
   | none => rw [hq] at h2; simp at h2
   | some u => rw [hq] at h2; simp at h2; exact ⟨u, rfl, h2⟩
  obtain ⟨u, h3, rfl⟩ := h3
  simp [Instr.lookup, run_underlying ht, MapKept.run_getObj_map hb, MapKept.run_checkKey hd (hg.1 a), MapKept.run_findKey hd h1, Result.andThen, h3]
theorem Qdx {κ β : Type} [BEq κ] {d : TypeDesc} {g : κ → Value} {h : β → Value} {x y : Operand} {t kt et : TypeId} {z : β} {by_ b i : Nat} {l : List (κ × β)} {a : κ} (ho : o.op = .lookup t x y true) (hN : ∀ d, o.dst = some d → d < N)
  (hg : KeyK d g) (ht : P.underlying t = some (.map kt et)) (hd : P.underlying kt = some d) (hei : Zk P et (h z) 1 by_) (h1 : ∀ v, (h v).oneCell' = true) (hx : s.ev x = some (.c (.ex (.map (some b))))) (hy : s.ev y = some (.c (.ex (g a)))) (hi : s.tab[i]? = some (.map b (kvs g h l)))
  (k : K (s.putO o.dst (.tup [.c (.ex (h ((l.lookup a).getD z))), .bool (l.lookup a).isSome]))) : OpT P N o s K :=
 Zd _ hN (fun F L a' w hr => by
  obtain ⟨es, clock, hb, hk⟩ := hr.heap.mapAt hi
  refine ⟨.tuple #[h ((l.lookup a).getD z), .bool (l.lookup a).isSome], ?_, .tup _ _ rfl (fun i v x hv hx => ?_)⟩
  ·simp [execOp, ho, hr.exact hx, hr.exact hy, Sw hg ht hd hei hb hk a (ok := true)]
  ·match i with
   | 0 => simp at hv hx; subst hv; subst hx; exact .c _ _ (.ex _ (h1 _))
   | 1 => simp at hv hx; subst hv; subst hx; exact .c _ _ (.ex _ rfl)
   | i + 2 => simp at hx) k
theorem OpT.lookup {κ β : Type} [BEq κ] {d : TypeDesc} {g : κ → Value} {h : β → Value} {x y : Operand} {t kt et : TypeId} {z : β} {by_ b i : Nat} {l : List (κ × β)} {a : κ} (ho : o.op = .lookup t x y false) (hN : ∀ d, o.dst = some d → d < N)
  (hg : KeyK d g) (ht : P.underlying t = some (.map kt et)) (hd : P.underlying kt = some d) (hei : Zk P et (h z) 1 by_) (h1 : ∀ v, (h v).oneCell' = true) (hx : s.ev x = some (.c (.ex (.map (some b))))) (hy : s.ev y = some (.c (.ex (g a)))) (hi : s.tab[i]? = some (.map b (kvs g h l)))
  (k : K (s.putO o.dst (.c (.ex (h ((l.lookup a).getD z)))))) : OpT P N o s K :=
 Zd _ hN (fun F L a' w hr => by
  obtain ⟨es, clock, hb, hk⟩ := hr.heap.mapAt hi
  exact ⟨h ((l.lookup a).getD z), by simp [execOp, ho, hr.exact hx, hr.exact hy, Sw hg ht hd hei hb hk a (ok := false)], .c _ _ (.ex _ (h1 _))⟩) k
theorem Qdl {κ β : Type} {g : κ → Value} {h : β → Value} {x : Operand} {t kt et : TypeId} {b i : Nat} {l : List (κ × β)} (ho : o.op = .call { callee := .builtin .len, args := #[x], argTypes := #[t] }) (hN : ∀ d, o.dst = some d → d < N)
  (ht : P.underlying t = some (.map kt et)) (hx : s.ev x = some (.c (.ex (.map (some b))))) (hi : s.tab[i]? = some (.map b (kvs g h l)))
  (k : K (s.putO o.dst (.int .i64 (l.length : Int)))) : OpT P N o s K :=
 Zd _ hN (fun F L a' w hr => by
  obtain ⟨es, clock, hb, hk⟩ := hr.heap.mapAt hi
  have hl : es.size = l.length := by
   have := congrArg List.length hk
   simpa [kvs] using this
  exact ⟨.int .i64 (l.length : Int), by simp [execOp, ho, resolve, hr.exact hx, invoke, builtin, Builtin.len_, run_underlying ht, MapKept.run_getObj_map hb, Result.andThen, goInt, hl], .c _ _ (.ex _ rfl)⟩) k
theorem Ext.setMap {w : World} {b clock : Nat} {es : Array MapEntry} {q : Obj} (hb : w.heap[b]? = some (.map es clock)) : Ext [(b, 0)] w [(b, 0)] { w with heap := w.heap.setIfInBounds b q } where
 os := rfl
 tape := rfl
 output := rfl
 size := by simp
 block k _ hn := (MapKept.heap_set (o' := q) hb).2 k (fun h => hn 0 (by simp [h]))
 cell k off _ hn := by
  have hne : k ≠ b := fun h => hn ⟨0, by simp [h], Qf7 _⟩
  have := (MapKept.heap_set (o' := q) hb).2 k hne
  simp only [World.cell?, this]
 mono _ _ _ h := h
 blocks _ l _ h := ⟨l, h⟩
theorem OpT.mapPut {κ β : Type} [BEq κ] {d : TypeDesc} {g : κ → Value} {h : β → Value} {x y u : Operand} {t kt et : TypeId} {b i : Nat} {l : List (κ × β)} {a : κ} {v : β} (ho : o.op = .mapUpdate t x y u) (hdst : o.dst = none)
  (hg : KeyK d g) (ht : P.underlying t = some (.map kt et)) (hd : P.underlying kt = some d) (hx : s.ev x = some (.c (.ex (.map (some b))))) (hy : s.ev y = some (.c (.ex (g a)))) (hu : s.ev u = some (.c (.ex (h v)))) (hi : s.tab[i]? = some (.map b (kvs g h l)))
  (hnew : l.lookup a = none) (k : K { s with tab := s.tab.set i (.map b (kvs g h (l ++ [(a, v)]))) }) : OpT P N o s K := by
 intro F L a' w hr
 obtain ⟨r, R, ho', hwr, hnd, hlt, hdis, hgo⟩ := hr.touch hi
 cases ho' with
 | map _ es clock _ hb hk =>
  obtain ⟨q, h1, h2⟩ := Qdt hg a es.toList l 0 hk
  have hq : q = none := by
   cases q with
   | none => rfl
   | some q => rw [hnew] at h2; simp at h2
  subst hq
  have hrun : (execOp a'.eval o).run P w = .ok .skip { w with heap := w.heap.setIfInBounds b (.map (es.push { key := g a, val := h v, born := clock }) (clock + 1)) } := by
   simp [execOp, ho, hr.exact hx, hr.exact hy, hr.exact hu, Instr.mapUpdate, run_underlying ht, MapKept.run_getObj_map hb, MapKept.run_checkKey hd (hg.1 a), MapKept.run_findKey hd h1, MapKept.run_setObj_map _ hb, Result.andThen]
  have hx1 : Ext [(b, 0)] w [(b, 0)] { w with heap := w.heap.setIfInBounds b (.map (es.push { key := g a, val := h v, born := clock }) (clock + 1)) } := Ext.setMap hb
  obtain ⟨L', h3, h4⟩ := hgo { w with heap := w.heap.setIfInBounds b (.map (es.push { key := g a, val := h v, born := clock }) (clock + 1)) } [(b, 0)] (.map b (kvs g h (l ++ [(a, v)]))) none undef .any
   ⟨hx1, by simp, fun p hp => by
    simp at hp; subst hp
    have := lt_of_block hb
    simpa using this⟩ (fun d hd => by cases hd)
   (.map _ _ _ _ (MapKept.heap_set hb).1 (by simp [kvs, hk])) (.any _)
  unfold Oper.wp
  rw [hrun, Oper.upon_skip, hdst]
  exact ⟨L', _, k, by simpa [St.upd, St.putO, Act.put] using h3, h4⟩
end
end Go.Rv
namespace Go.Rv
def gc {α : Type} (e : TypeId) (esz : Nat) (f : α → List DC) (l : List (List α)) : List OC := l.map fun x => OC.own e esz (x.map f)
theorem gc_get {α : Type} {e : TypeId} {esz : Nat} {f : α → List DC} {l : List (List α)} {j : Nat} {x : List α} (h : l[j]? = some x) : (gc e esz f l)[j]? = some (.own e esz (x.map f)) := by
 rw [gc, List.getElem?_map, h]; rfl
def gh {α : Type} (e : TypeId) (esz : Nat) (f : α → List DC) (l : List (List α)) (j : Nat) (h : Value) : List OC := (gc e esz f l).set j (.d (.ex h))
theorem gh_len {α : Type} (e : TypeId) (esz : Nat) (f : α → List DC) (l : List (List α)) (j : Nat) (h : Value) : (gh e esz f l j h).length = l.length := by simp [gh, gc]
theorem gh_get {α : Type} {e : TypeId} {esz : Nat} {f : α → List DC} {l : List (List α)} {j : Nat} {x : List α} {h : Value} (hj : l[j]? = some x) : (gh e esz f l j h)[j]? = some (.d (.ex h)) := by
 have := (List.getElem?_eq_some_iff.1 hj).1
 rw [gh, List.getElem?_set_self (by simpa [gc] using this)]
theorem gh_set {α : Type} {e : TypeId} {esz : Nat} {f : α → List DC} {l : List (List α)} {j : Nat} {h h' : Value} : (gh e esz f l j h).set j (.d (.ex h')) = gh e esz f l j h' := by
 rw [gh, Qjh]; rfl
theorem gh_close {α : Type} {e : TypeId} {esz : Nat} {f : α → List DC} {l : List (List α)} {j : Nat} {h : Value} {x : List α} : (gh e esz f l j h).set j (.own e esz (x.map f)) = gc e esz f (l.set j x) := by
 rw [gh, Qjh, gc, gc, List.map_set]
theorem Xe.pull {w : World} {M : Reg} {vs : List Value} {cs : List OC} {r : Reg} (h : Xe w M vs cs r) : ∀ {j : Nat} {e : TypeId} {esz : Nat} {elems : List (List DC)}, cs[j]? = some (.own e esz elems) →
  ∃ v rj rr, vs[j]? = some v ∧ OwnR w M v e esz elems rj ∧ Xe w M vs (cs.set j (.d (.ex v))) rr ∧ r.Perm (rj ++ rr) := by
 induction h with
 | nil => intro j e esz elems h; simp at h
 | cons v c r vs cs rs h t ih =>
  intro j e esz elems hj
  cases j with
  | zero =>
   simp at hj; subst hj
   cases h with
   | own _ _ _ _ h =>
    refine ⟨v, r, rs, rfl, h, ?_, .refl _⟩
    have := Xe.cons v (.d (.ex v)) [] vs cs rs (.d _ _ (.ex _ h.view.one)) t
    simpa using this
  | succ j =>
   obtain ⟨u, rj, rr, h1, h2, h3, h4⟩ := ih (by simpa using hj)
   refine ⟨u, rj, r ++ rr, by simpa using h1, h2, by simpa using Xe.cons v c r vs _ rr h h3, ?_⟩
   refine (Qhh r h4).trans ?_
   rw [← Qfx, ← Qfx]
   exact Qgm rr Qho
theorem Xe.push {w : World} {M : Reg} {vs : List Value} {cs : List OC} {r : Reg} (h : Xe w M vs cs r) : ∀ {j : Nat} {v : Value} {e : TypeId} {esz : Nat} {elems : List (List DC)} {rj : Reg}, cs[j]? = some (.d (.ex v)) → OwnR w M v e esz elems rj →
  ∃ rr, Xe w M vs (cs.set j (.own e esz elems)) rr ∧ rr.Perm (rj ++ r) := by
 induction h with
 | nil => intro j v e esz elems rj h; simp at h
 | cons v c r vs cs rs h t ih =>
  intro j u e esz elems rj hj ho
  cases j with
  | zero =>
   simp at hj; subst hj
   cases h with
   | d _ h =>
    cases h
    refine ⟨rj ++ rs, ?_, by simp⟩
    simpa using Xe.cons v (.own e esz elems) rj vs cs rs (.own _ _ _ _ _ ho) t
  | succ j =>
   obtain ⟨rr, h1, h2⟩ := ih (by simpa using hj) ho
   refine ⟨r ++ rr, by simpa using Xe.cons v c r vs _ rr h h1, ?_⟩
   refine (Qhh r h2).trans ?_
   rw [← Qfx, ← Qfx]
   exact Qgm rs Qho
theorem Rel.retab {w : World} {N : Nat} {F L L' : Reg} {s : St} {a : Act} {tab : List Ob} (hr : Rel w N F L s a) (h : X1 w (L ++ F) tab L') (hp : L.Perm L') : Rel w N F L' ⟨s.slots, tab⟩ a := by
 have hs := Fm (F := F) hp
 exact ⟨hr.defers, hr.size, fun t v hv => (hr.slot t v hv).less fun b o => (hs.wr).2, h.congr fun b o => hs.wr.symm, ((Qgm F hp).map _).nodup_iff.1 hr.nodup, fun p hp' => hr.lt p ((hs p).2 hp')⟩
theorem Qbs {w : World} {M : Reg} {tab : List Ob} {i : Nat} {o : Ob} {r r2 : Reg} (hi : i < tab.length) (ho : ObR w M o r) (h : X1 w M (tab.eraseIdx i) r2) : ∃ L, X1 w M (tab.set i o) L ∧ (r ++ r2).Perm L :=
 (X1.cons _ _ _ _ ho h).perm (set_perm hi)
section
variable {P : Program} {N : Nat} {s : St} {o : Oper} {K : St → Prop}
theorem TurnG.openG (i : Nat) {j : Nat} {v : Value} {e e1 : TypeId} {esz : Nat} {cells : List OC} {elems : List (List DC)} (hi : s.tab[i]? = some (.arrG v e cells)) (hj : cells[j]? = some (.own e1 esz elems)) :
  TurnG s (fun h => ⟨s.slots, .arrA h e1 esz elems :: s.tab.set i (.arrG v e (cells.set j (.d (.ex h))))⟩) := fun N F L a w hr => by
 obtain ⟨r1, r2, ho, h2, hp⟩ := hr.heap.get hi
 cases ho with
 | arrG g cur _ _ r hg hm h =>
  obtain ⟨u, rj, rr, h3, h4, h5, h6⟩ := h.pull hj
  have hl : (cells.set j (.d (.ex u))).length = cells.length := Qgz ..
  have hob : ObR w (L ++ F) (.arrG (.slice (some ⟨g, 0, none⟩) cells.length cells.length) e (cells.set j (.d (.ex u)))) ((g, 0) :: rr) := by
   have := ObR.arrG (M := L ++ F) g cur e (cells.set j (.d (.ex u))) rr hg (by rw [hl]; exact hm) h5
   rwa [hl] at this
  obtain ⟨L1, h7, h8⟩ := Qbs (List.getElem?_eq_some_iff.1 hi).1 hob h2
  refine ⟨u, rj ++ L1, hr.retab (.cons _ _ _ _ (.arrA _ _ _ _ _ h4) h7) ?_, ?_⟩
  ·refine hp.trans ?_
   refine List.Perm.trans ?_ (Qhh rj h8)
   refine (Qgm r2 (List.Perm.cons (g, 0) h6)).trans ?_
   rw [← Qfx]
   refine Qgm r2 ?_
   exact List.perm_middle.symm
  ·refine Ext.perm (List.Perm.symm ?_)
   refine hp.trans ?_
   refine List.Perm.trans ?_ (Qhh rj h8)
   refine (Qgm r2 (List.Perm.cons (g, 0) h6)).trans ?_
   rw [← Qfx]
   refine Qgm r2 ?_
   exact List.perm_middle.symm
theorem Zx.closeG (i k : Nat) {j : Nat} {v h : Value} {e e1 : TypeId} {esz : Nat} {cells : List OC} {elems : List (List DC)} (hik : i ≠ k) (hi : s.tab[i]? = some (.arrG v e cells)) (hk : s.tab[k]? = some (.arrA h e1 esz elems)) (hj : cells[j]? = some (.d (.ex h))) :
  Zx s ⟨s.slots, (s.tab.set k (.ro 0 [])).set i (.arrG v e (cells.set j (.own e1 esz elems)))⟩ := fun N F L a w hr => by
 obtain ⟨r1, r2, ho, h2, hp⟩ := hr.heap.get hk
 cases ho with
 | arrA _ _ _ _ _ ho =>
  have hkl := (List.getElem?_eq_some_iff.1 hk).1
  have hil := (List.getElem?_eq_some_iff.1 hi).1
  obtain ⟨L1, h3, h4⟩ := Qbs (o := .ro 0 []) (r := []) hkl (ObR.ro (w := w) (M := L ++ F) 0 [] [] .nil (fun i v hv => by simp at hv)) h2
  have hi' : (s.tab.set k (.ro 0 []))[i]? = some (.arrG v e cells) := by rw [List.getElem?_set_ne (Ne.symm hik)]; exact hi
  obtain ⟨q1, q2, ho', h5, hp'⟩ := h3.get hi'
  cases ho' with
  | arrG g cur _ _ r hg hm hc =>
   obtain ⟨rr, h6, h7⟩ := hc.push hj ho
   have hl : (cells.set j (.own e1 esz elems)).length = cells.length := Qgz ..
   have hob : ObR w (L ++ F) (.arrG (.slice (some ⟨g, 0, none⟩) cells.length cells.length) e (cells.set j (.own e1 esz elems))) ((g, 0) :: rr) := by
    have := ObR.arrG (M := L ++ F) g cur e (cells.set j (.own e1 esz elems)) rr hg (by rw [hl]; exact hm) h6
    rwa [hl] at this
   obtain ⟨L2, h8, h9⟩ := Qbs (by rw [Qgz]; exact hil) hob h5
   have hperm : L.Perm L2 := by
    refine List.Perm.trans ?_ h9
    refine hp.trans ?_
    have e1 : r2.Perm ((g, 0) :: r ++ q2) := (by simpa using h4 : r2.Perm L1).trans hp'
    refine (Qhh r1 e1).trans ?_
    rw [← Qfx]
    refine Qgm q2 ?_
    exact List.perm_middle.trans (List.Perm.cons (g, 0) h7.symm)
   exact ⟨L2, hr.retab h8 hperm, Ext.perm hperm.symm⟩
theorem OpT.indexG {t e e' : TypeId} {x i : Operand} {k : IntKind} {j : Int} {v : Value} {n : Nat} {cells : List OC} {z : Value} {by_ : Nat} (ho : o.op = .indexAddr t x i) (hN : ∀ d, o.dst = some d → d < N) (ht : P.underlying t = some (.slice e))
  (hei : Zk P e z 1 by_) (hx : s.ev x = some (.c (.ex v))) (hn : s.tab[n]? = some (.arrG v e' cells)) (hi : s.ev i = some (.int k j)) (h0 : 0 ≤ j) (hd : j.toNat < cells.length) (k' : K (s.putO o.dst (.el v 1 j.toNat 0))) : OpT P N o s K :=
 Zd _ hN (fun F L a w hr => by
  obtain ⟨r1, r2, h1, h2, hp⟩ := hr.heap.get hn
  have hjl : j < (cells.length : Int) := by omega
  cases h1 with
  | arrG g cur =>
   refine ⟨.pointer (some ⟨g, j.toNat * 1 + 0, none⟩), ?_, .el g _ _ 1 j.toNat 0⟩
   simp [execOp, ho, hr.exact hx, hr.exact hi, Instr.indexAt, asIntOf, run_underlying ht, h0, hjl, hei.sizeOf, addr_add]) k'
theorem Pz {α : Type} {t e e' e1 : TypeId} {x i : Operand} {k : IntKind} {j : Int} {v : Value} {n esz : Nat} {f : α → List DC} {l : List (List α)} {y : List α} {z : Value} {by_ : Nat} (ho : o.op = .indexAddr t x i) (hN : ∀ d, o.dst = some d → d < N) (ht : P.underlying t = some (.slice e))
  (hei : Zk P e z 1 by_) (hx : s.ev x = some (.c (.ex v))) (hn : s.tab[n]? = some (.arrG v e' (gc e1 esz f l))) (hi : s.ev i = some (.int k j)) (hd : Xl l j = some y) (k' : K (s.putO o.dst (.el v 1 j.toNat 0))) : OpT P N o s K :=
 OpT.indexG ho hN ht hei hx hn hi (Zv hd).1 (by rw [gc, Qfw]; exact (List.getElem?_eq_some_iff.1 (Zv hd).2).1) k'
theorem Qbr {α : Type} {t e e' e1 : TypeId} {x i : Operand} {k : IntKind} {j : Int} {v h : Value} {n esz q : Nat} {f : α → List DC} {l : List (List α)} {y : List α} {z : Value} {by_ : Nat} (ho : o.op = .indexAddr t x i) (hN : ∀ d, o.dst = some d → d < N) (ht : P.underlying t = some (.slice e))
  (hei : Zk P e z 1 by_) (hx : s.ev x = some (.c (.ex v))) (hn : s.tab[n]? = some (.arrG v e' (gh e1 esz f l q h))) (hi : s.ev i = some (.int k j)) (hd : Xl l j = some y) (k' : K (s.putO o.dst (.el v 1 j.toNat 0))) : OpT P N o s K :=
 OpT.indexG ho hN ht hei hx hn hi (Zv hd).1 (by rw [gh_len]; exact (List.getElem?_eq_some_iff.1 (Zv hd).2).1) k'
theorem Xe.getC {w : World} {M : Reg} {vs : List Value} {cs : List OC} {r : Reg} (h : Xe w M vs cs r) : ∀ {i : Nat} {c : OC}, cs[i]? = some c → ∃ v rj, vs[i]? = some v ∧ Qfq w M v c rj := by
 induction h with
 | nil => intro i c h; simp at h
 | cons v c r vs cs rs h t ih =>
  intro i c' hc
  cases i with
  | zero => simp at hc; subst hc; exact ⟨v, r, rfl, h⟩
  | succ i => exact ih (by simpa using hc)
theorem OpT.loadGc {t : TypeId} {dt : TypeDesc} {x : Operand} {v : Value} {i j : Nat} {e : TypeId} {cells : List OC} {c : OC} {d : DC} (ho : o.op = .load t x) (hN : ∀ d, o.dst = some d → d < N) (ht : P.underlying t = some dt) (hfl : TypeDesc.flat dt = true)
  (hx : s.ev x = some (.el v 1 j 0)) (hi : s.tab[i]? = some (.arrG v e cells)) (hj : cells[j]? = some c) (hd : ∀ (w : World) (M : Reg) (u : Value) (r : Reg), Qfq w M u c r → Fw w M u d) (k : K (s.putO o.dst (.c d))) : OpT P N o s K :=
 Zd _ hN (fun F L a w hr => by
  obtain ⟨r1, r2, h1, h2, hp⟩ := hr.heap.get hi
  have hpx := hr.ev hx
  generalize hqx : a.eval x = p at hpx
  cases h1 with
  | arrG g cur _ _ r hg hm h =>
   cases hpx with
   | el =>
   obtain ⟨u, rj, h3, h4⟩ := h.getC hj
   have hcell : w.cell? ⟨g, j * 1 + 0, none⟩ = some u := by
    rw [cell_of_row w g _ cur e _ hg]
    simpa using h3
   refine ⟨u, ?_, .c _ _ (hd _ _ _ _ h4)⟩
   simp only [Qhi, Qht] at hcell hqx
   simp [execOp, ho, hqx, Instr.loadAt, Instr.sureAddr, loadVar, H8 ht, hfl, hcell]) k
theorem OpT.loadGM {α : Type} {t : TypeId} {dt : TypeDesc} {x : Operand} {v : Value} {i j esz : Nat} {e e1 : TypeId} {f : α → List DC} {l : List (List α)} {y : List α} (ho : o.op = .load t x) (hN : ∀ d, o.dst = some d → d < N) (ht : P.underlying t = some dt) (hfl : TypeDesc.flat dt = true)
  (hx : s.ev x = some (.el v 1 j 0)) (hi : s.tab[i]? = some (.arrG v e (gc e1 esz f l))) (hj : l[j]? = some y) (k : K (s.putO o.dst (.sl false esz (y.map f)))) : OpT P N o s K :=
 OpT.loadGc ho hN ht hfl hx hi (gc_get hj) (fun w M u r h => by cases h with | own _ _ _ _ h => exact h.view) k
theorem OpT.preG {s' : Value → St} (h : TurnG s s') (k : ∀ v, OpT P N o (s' v) K) : OpT P N o s K := by
 intro F L a w hr
 obtain ⟨v, L', h1, h2⟩ := h N F L a w hr
 refine Ch (k v F L' a w h1) ?_ (fun _ _ _ h => h)
 rintro a' w' ⟨L2, t, kt, hr', hx⟩
 exact ⟨L2, t, kt, hr', h2.trans hx⟩
theorem Qdk {α : Type} {t : TypeId} {dt : TypeDesc} {x : Operand} {v : Value} {i kk j esz : Nat} {e e1 : TypeId} {f : α → List DC} {l : List (List α)} {y : List α} (ho : o.op = .load t x) (hN : ∀ d, o.dst = some d → d < N) (ht : P.underlying t = some dt) (hfl : TypeDesc.flat dt = true)
  (hx : s.ev x = some (.el v 1 j 0)) (hi : s.tab[i]? = some (.arrG v e (gc e1 esz f l))) (hj : l[j]? = some y) (hk : s.tab[kk]? = some (.ro 0 []))
  (k : ∀ h, K (s.upd o.dst (.c (.ex h)) ((s.tab.set i (.arrG v e (gh e1 esz f l j h))).set kk (.arrA h e1 esz (y.map f))))) : OpT P N o s K := by
 have hik : i ≠ kk := fun h => by subst h; rw [hi] at hk; cases hk
 have hkl := (List.getElem?_eq_some_iff.1 hk).1
 have hil := (List.getElem?_eq_some_iff.1 hi).1
 refine OpT.preG (TurnG.openG i hi (gc_get hj)) (fun h => ?_)
 refine OpT.pre (Zx.into kk (by rw [Qgz]; exact hkl)) ?_
 have ev : ∀ (z : Operand) (tab : List Ob), St.ev ⟨s.slots, tab⟩ z = s.ev z := fun z _ => by cases z <;> rfl
 have hg : ((s.tab.set i (.arrG v e ((gc e1 esz f l).set j (.d (.ex h))))).set kk (.arrA h e1 esz (y.map f)))[i]? = some (.arrG v e (gh e1 esz f l j h)) := by
  rw [List.getElem?_set_ne (Ne.symm hik), List.getElem?_set_self hil]; rfl
 refine OpT.loadGc (d := .ex h) ho hN ht hfl ((ev x _).trans hx) hg (gh_get hj) (fun w M u r h' => by cases h' with | d _ h' => exact h') ?_
 have := k h
 cases hd : o.dst <;> (rw [hd] at this; exact this)
theorem ObR.boxG {w : World} {M : Reg} {v : Value} {e : TypeId} {cells : List OC} {r : Reg} (h : ObR w M (.arrG v e cells) r) : ∃ g, v = .slice (some ⟨g, 0, none⟩) cells.length cells.length ∧ cells.length ≤ maxLen ∧ ObR w M (.box g e cells) r := by
 cases h with
 | arrG g cur _ _ r hg hm h => exact ⟨g, rfl, hm, .box g e cur cells r hg h⟩
theorem OpT.storeGd {t : TypeId} {x y : Operand} {v : Value} {i j : Nat} {e : TypeId} {cells : List OC} {d : DC} {z : Value} {by_ : Nat} (ho : o.op = .store t x y) (hdst : o.dst = none) (hei : Zk P t z 1 by_)
  (hx : s.ev x = some (.el v 1 j 0)) (hy : s.ev y = some (.c d)) (hi : s.tab[i]? = some (.arrG v e cells)) (hj : j < cells.length) (k : K { s with tab := s.tab.set i (.arrG v e (cells.set j (.d d))) }) : OpT P N o s K := by
 intro F L a w hr
 have h := hr.ev hy
 have hp := hr.ev hx
 generalize hqy : a.eval y = u at h
 generalize hqx : a.eval x = p at hp
 cases h with
 | c _ _ h =>
  obtain ⟨r1, r2, h1, -, -⟩ := hr.heap.get hi
  have hil := (List.getElem?_eq_some_iff.1 hi).1
  obtain ⟨g, hv, hm, -⟩ := h1.boxG
  -- the same array, told as a box
  obtain ⟨L1, hr1, hp1⟩ := hr.retell (o' := .box g e cells) hi (fun r ho' => by
   obtain ⟨g', hv', -, hb⟩ := ho'.boxG
   rw [hv] at hv'
   simp only [Value.slice.injEq, Qgk, Addr.mk.injEq, and_true] at hv'
   rw [hv']; exact hb)
  subst hv
  cases hp with
  | el =>
  have hi1 : (s.tab.set i (.box g e cells))[i]? = some (.box g e cells) := List.getElem?_set_self hil
  have hsame : Reg.same (L1 ++ F) (L ++ F) := Fm hp1
  obtain ⟨cs, hb, hfit, L2, hr2, hx2⟩ := hr1.storeBox (off := j) (us := [u]) (ds := [d]) hi1 (V8.cons (h.less fun b off hw => hsame.wr.1 hw) V8.nil) (by simp only [Qft]; omega)
  have hst := run_storeCells_at P g j e [u] 0 cs w hb (by simpa using hfit) (by simpa using h.one)
  have hcells : u.cells = #[u] := by
   have := h.one
   cases u <;> first | rfl | (simp [Value.oneCell'] at this)
  have hrun : (execOp a.eval o).run P w = .ok .skip (w.setRow g (cs.toList.take j ++ [u] ++ cs.toList.drop (j + [u].length)).toArray) := by
   simp only [Qhi, Qht] at hst hqx
   simp [execOp, ho, hqx, hqy, Instr.storeAt, Instr.sureAddr, storeVar, hei.sizeOf, hcells]
   simp at hst
   simp [hst]
  have hset : cells.take j ++ [OC.d d] ++ cells.drop (j + 1) = cells.set j (.d d) := by
   rw [List.set_eq_take_append_cons_drop, if_pos hj, Qfx]; rfl
  have hi2 : ((s.tab.set i (.box g e cells)).set i (.box g e (cells.set j (.d d))))[i]? = some (.box g e (cells.set j (.d d))) := List.getElem?_set_self (by rw [Qgz]; exact hil)
  have hr2' : Rel (w.setRow g (cs.toList.take j ++ [u] ++ cs.toList.drop (j + [u].length)).toArray) N F L2 ⟨s.slots, (s.tab.set i (.box g e cells)).set i (.box g e (cells.set j (.d d)))⟩ a := by
   rw [← hset]; exact hr2
  obtain ⟨L3, hr3, hp3⟩ := hr2'.retell (o' := .arrG (.slice (some ⟨g, 0, none⟩) cells.length cells.length) e (cells.set j (.d d))) hi2 (fun r ho' => by
   cases ho' with
   | box _ _ cur' _ r' hg' h' =>
    have hl : (cells.set j (.d d)).length = cells.length := Qgz ..
    have := ObR.arrG (M := L2 ++ F) g cur' e (cells.set j (.d d)) r' hg' (by rw [hl]; exact hm) h'
    rwa [hl] at this)
  unfold Oper.wp
  rw [hrun, Oper.upon_skip, hdst]
  refine ⟨L3, _, k, ?_, ((Ext.perm hp1).trans hx2).trans (Ext.perm hp3)⟩
  have e1 : ((s.tab.set i (.box g e cells)).set i (.box g e (cells.set j (.d d)))).set i (.arrG (.slice (some ⟨g, 0, none⟩) cells.length cells.length) e (cells.set j (.d d))) = s.tab.set i (.arrG (.slice (some ⟨g, 0, none⟩) cells.length cells.length) e (cells.set j (.d d))) := by
   rw [Qjh, Qjh]
  rw [e1] at hr3
  simpa [Act.put] using hr3
theorem Qbq {α : Type} {t : TypeId} {x y : Operand} {v h h' : Value} {i kk j esz : Nat} {e e1 : TypeId} {f : α → List DC} {l : List (List α)} {old : List α} {y' : List α} {z : Value} {by_ : Nat} (ho : o.op = .store t x y) (hdst : o.dst = none) (hei : Zk P t z 1 by_)
  (hx : s.ev x = some (.el v 1 j 0)) (hy : s.ev y = some (.c (.ex h'))) (hi : s.tab[i]? = some (.arrG v e (gh e1 esz f l j h))) (hj : l[j]? = some old) (hk : s.tab[kk]? = some (.arrA h' e1 esz (y'.map f)))
  (k : K ⟨s.slots, (s.tab.set i (.arrG v e (gc e1 esz f (l.set j y')))).set kk (.ro 0 [])⟩) : OpT P N o s K := by
 have hik : i ≠ kk := fun h => by subst h; rw [hi] at hk; cases hk
 have hil := (List.getElem?_eq_some_iff.1 hi).1
 have hjl := (List.getElem?_eq_some_iff.1 hj).1
 refine Zi (t := { s with tab := s.tab.set i (.arrG v e ((gh e1 esz f l j h).set j (.d (.ex h')))) }) (OpT.storeGd ho hdst hei hx hy hi (by rw [gh_len]; exact hjl) rfl) (t' := ⟨s.slots, (s.tab.set i (.arrG v e (gc e1 esz f (l.set j y')))).set kk (.ro 0 [])⟩) ?_ k
 have h1 : (s.tab.set i (.arrG v e ((gh e1 esz f l j h).set j (.d (.ex h')))))[i]? = some (.arrG v e (gh e1 esz f l j h')) := by
  rw [List.getElem?_set_self hil, gh_set]
 have h2 : (s.tab.set i (.arrG v e ((gh e1 esz f l j h).set j (.d (.ex h')))))[kk]? = some (.arrA h' e1 esz (y'.map f)) := by
  rw [List.getElem?_set_ne hik]; exact hk
 have := Zx.closeG (s := { s with tab := s.tab.set i (.arrG v e ((gh e1 esz f l j h).set j (.d (.ex h')))) }) i kk hik h1 h2 (gh_get hj)
 have e1 : ((s.tab.set i (.arrG v e ((gh e1 esz f l j h).set j (.d (.ex h'))))).set kk (.ro 0 [])).set i (.arrG v e ((gh e1 esz f l j h').set j (.own e1 esz (y'.map f)))) = (s.tab.set i (.arrG v e (gc e1 esz f (l.set j y')))).set kk (.ro 0 []) := by
  rw [gh_close, List.set_comm _ _ (Ne.symm hik), Qjh]
 rw [← e1]
 exact this
theorem N2 {α : Type} {x y : Operand} {t e e1 : TypeId} {kl kc : IntKind} {n : Int} {by_ esz : Nat} {f : α → List DC} (ho : o.op = .makeSlice t x y) (hN : ∀ d, o.dst = some d → d < N)
  (ht : P.underlying t = some (.slice e)) (hei : Zk P e (.slice none 0 0) 1 by_)
  (hx : s.ev x = some (.int kl n)) (hy : s.ev y = some (.int kc n)) (hn : 0 ≤ n) (hroom : roomy by_ n.toNat = true)
  (k' : ∀ v, K (s.upd o.dst (.c (.ex v)) (.arrG v e (gc e1 esz f (List.replicate n.toNat [])) :: s.tab))) : OpT P N o s K := by
 intro F L a w hr
 obtain ⟨i, hi, hiz, his, hib⟩ := hei
 subst hib
 obtain ⟨h63, hby⟩ := Zl.1 hroom
 obtain ⟨m, rfl⟩ : ∃ m : Nat, n = (m : Int) := ⟨n.toNat, by omega⟩
 rw [Qf1] at h63 hby k'
 have hmk := run_make (P := P) w t e i (.slice none 0 0) ht hi hiz kl kc (m : Int) (m : Int) hn (Int.le_refl _) (by
  have : ((i.bytes * m : Nat) : Int) ≤ 281474976710656 := by rw [Qjd]; omega
  rwa [Int.natCast_mul] at this) (by simp only [maxLen] at h63; omega)
 simp only [Qf1, his, Qhi] at hmk
 have hrun : (execOp a.eval o).run P w = .ok (.value (.slice (some ⟨w.heap.size, 0, none⟩) m m)) (w.alloc (.cells (madeCells (Value.slice none 0 0).cells m) e)) := by
  simp [execOp, ho, hr.exact hx, hr.exact hy, hmk]
 have hl : (gc e1 esz f (List.replicate m ([] : List α))).length = m := by simp [gc]
 have hcs : (madeCells (Value.slice none 0 0).cells m).toList = List.replicate m (.slice none 0 0) := by
  have := zeros_flat (z := (Value.slice none 0 0).cells) (sz := 1) rfl (by decide) m
  rw [Qhi] at this
  rw [this]
  show (List.replicate m [Value.slice none 0 0]).flatten = _
  clear this hrun hmk hl k' h63 hby hx hy hn hroom
  induction m with
  | zero => rfl
  | succ m ih => rw [Qhg, Qgh, ih]; rfl
 have hcells : ∀ (M : Reg) (w : World) (m : Nat), Xe w M (List.replicate m (.slice none 0 0)) (gc e1 esz f (List.replicate m ([] : List α))) [] := by
  intro M w m
  induction m with
  | zero => exact .nil
  | succ m ih => exact .cons _ _ [] _ _ [] (.own _ _ _ _ _ (.nil none e1 esz)) ih
 obtain ⟨L', h2, h3⟩ := hr.add (w' := w.alloc (.cells (madeCells (Value.slice none 0 0).cells m) e)) (r := [(w.heap.size, 0)]) (dst := o.dst) (v := .slice (some ⟨w.heap.size, 0, none⟩) m m)
  (x := .c (.ex (.slice (some ⟨w.heap.size, 0, none⟩) m m))) (o := .arrG (.slice (some ⟨w.heap.size, 0, none⟩) m m) e (gc e1 esz f (List.replicate m ([] : List α))))
  (Fits.alloc w _ 0) hN
  (fun M hnew hxM => by
   have := ObR.arrG (w := w.alloc (.cells (madeCells (Value.slice none 0 0).cells m) e)) (M := M) w.heap.size _ e (gc e1 esz f (List.replicate m ([] : List α))) [] (heap_alloc_new w _) (by rw [hl]; exact h63) (by rw [hcs]; exact hcells M _ m)
   rwa [hl] at this) (fun M _ _ => .c _ _ (.ex _ rfl))
 unfold Oper.wp
 rw [hrun, Oper.upon_value]
 exact ⟨L', _, k' _, h2, h3⟩
theorem Zx.dataG {α : Type} (i : Nat) {v : Value} {e e1 : TypeId} {esz : Nat} {f : α → List DC} {l : List (List α)} (hi : s.tab[i]? = some (.arrG v e (gc e1 esz f l))) : Zx s ⟨s.slots, s.tab.set i (.arrX v e 1 0 (l.map fun x => [DC.sl false esz (x.map f)]))⟩ := fun N F L a w hr => by
 have hl : (gc e1 esz f l).length = l.length := by simp [gc]
 obtain ⟨r, R, hob, hwr, hnd, hlt, hdis, hgo⟩ := hr.touch hi
 generalize hc : gc e1 esz f l = cells at hob hl
 cases hob with
 | arrG g cur _ _ r hg hm h =>
  have hlen := h.length
  have hcur : cur.toList.length = l.length := by rw [hlen, hl]
  have hrep : V8 w (((g, 0) :: r) ++ R) cur.toList (l.map fun x => DC.sl false esz (x.map f)) := by
   refine ⟨by rw [hcur, Qfw], fun q u d hu hd => ?_⟩
   rw [List.getElem?_map] at hd
   cases hx : l[q]? with
   | none => rw [hx] at hd; simp at hd
   | some x =>
    rw [hx] at hd
    simp only [Qhs, Qgk] at hd
    subst hd
    obtain ⟨u', rj, h1, h2⟩ := h.getC (by rw [← hc]; exact gc_get hx)
    rw [h1] at hu
    cases hu
    cases h2 with
    | own _ _ _ _ h2 => exact h2.view
  have hx : Ext ((g, 0) :: r) w [(g, 0)] w := ⟨rfl, rfl, rfl, Qf6 _, fun _ _ _ => rfl, fun _ _ _ _ => rfl, fun b off hb hw => by
   obtain ⟨l, hl, hlo2⟩ := hw
   simp at hl
   exact ⟨0, by simp [hl.1], Qf7 _⟩, fun b l hb hl => by simp at hl; exact ⟨0, by simp [hl.1]⟩⟩
  have hmo : ∀ b off, Wr ([(g, 0)] ++ R) b off → Wr (((g, 0) :: r) ++ R) b off := fun b off hw => by
   rcases Wr.append.1 hw with ⟨l, hl, hl2⟩ | h
   ·simp at hl; exact Wr.append.2 (.inl ⟨0, by simp [hl.1], Qf7 _⟩)
   ·exact Wr.append.2 (.inr h)
  have hel : (l.map fun x => [DC.sl false esz (x.map f)]).length = l.length := Qfw _
  have hfl : (l.map fun x => [DC.sl false esz (x.map f)]).flatten = l.map fun x => DC.sl false esz (x.map f) := by
   clear hrep hel hcur hlen hl hc hgo hi
   induction l with
   | nil => rfl
   | cons x l ih => rw [Qge, Qgh, ih]; rfl
  have hob' : ObR w ([(g, 0)] ++ R) (.arrX (.slice (some ⟨g, 0, none⟩) cells.length cells.length) e 1 0 (l.map fun x => [DC.sl false esz (x.map f)])) [(g, 0)] := by
   have := ObR.arrX (w := w) (M := [(g, 0)] ++ R) g cells.length cur e 1 0 (l.map fun x => [DC.sl false esz (x.map f)]) hg (Qf7 _) (by rw [hel, hl]; exact Qf6 _) hm (by rw [← Qg6, hcur, hl, Qhi])
    (fun x hx => by obtain ⟨y, _, rfl⟩ := Qgf.1 hx; rfl) (fun off ho => by omega) (by
     rw [hel, Qhi, ← hcur, List.take_length, hfl]
     exact hrep.less hmo)
   rwa [hel, ← hl, Qji] at this
  obtain ⟨L', h2, h3⟩ := hgo w [(g, 0)] _ none undef .any ⟨hx, by simp, fun p hp => by simp at hp; subst hp; exact lt_of_block hg⟩ (fun d hd => by cases hd) hob' (.any _)
  exact ⟨L', h2, h3⟩
theorem OpT.zerosZ {α : Type} {e : TypeId} {esz n : Nat} {l : List DC} {f : α → List DC} {zv : α} (hzv : ∀ tab, Qct tab l (f zv)) (hl : l.length = (f zv).length)
  (h : OpT P N o s (fun t => ∃ v, t = s.upd o.dst (.c (.ex v)) (.arrX v e esz 0 ((List.replicate n ()).map fun _ => l) :: s.tab)))
  (k' : ∀ v, K (s.upd o.dst (.c (.ex v)) (.arrX v e esz 0 ((List.replicate n zv).map f) :: s.tab))) : OpT P N o s K :=
 OpT.after h (fun t ⟨v, ht⟩ => by
  subst ht
  have hsl : ∀ tab, s.upd o.dst (.c (.ex v)) tab = ⟨(s.putO o.dst (.c (.ex v))).slots, tab⟩ := fun tab => by cases o.dst <;> rfl
  refine ⟨s.upd o.dst (.c (.ex v)) (.arrX v e esz 0 ((List.replicate n zv).map f) :: s.tab), ?_, k' v⟩
  rw [hsl, hsl]
  have := Zx.weakX (s := ⟨(s.putO o.dst (.c (.ex v))).slots, .arrX v e esz 0 ((List.replicate n ()).map fun _ => l) :: s.tab⟩) 0 (xs := List.replicate n ()) (f := fun _ => l) (g := f) (p := fun _ => zv) rfl (fun _ => hzv _) (fun _ => hl)
  have e1 : (List.replicate n ()).map (fun _ => zv) = List.replicate n zv := Qh3
  rw [e1] at this
  exact this)
theorem Qad {α : Type} {x y : Operand} {t e : TypeId} {kl kc : IntKind} {n : Int} {z : Value} {esz by_ : Nat} {f : α → List DC} {zv : α} (ho : o.op = .makeSlice t x y) (hN : ∀ d, o.dst = some d → d < N)
  (ht : P.underlying t = some (.slice e)) (hei : Zk P e z esz by_) (hs : 0 < esz) (hz : z.cells.size = esz) (hz1 : z.cells.toList.all Value.oneCell' = true) (hzv : ∀ tab, Qct tab (z.cells.toList.map DC.ex) (f zv)) (hl : (z.cells.toList.map DC.ex).length = (f zv).length)
  (hx : s.ev x = some (.int kl n)) (hy : s.ev y = some (.int kc n)) (hn : 0 ≤ n) (hroom : roomy by_ n.toNat = true)
  (k' : ∀ v, K (s.upd o.dst (.c (.ex v)) (.arrX v e esz 0 ((List.replicate n.toNat zv).map f) :: s.tab))) : OpT P N o s K :=
 OpT.zerosZ hzv hl (Gm (f := fun _ : Unit => z.cells.toList.map DC.ex) (zv := ()) ho hN ht hei hs hz hz1 rfl hx hy hn hroom (fun v => ⟨v, rfl⟩)) k'
theorem Qei {α : Type} {x y : Operand} {t tn e : TypeId} {kn k : IntKind} {n : Int} {z : Value} {esz by_ : Nat} {f : α → List DC} {zv : α} (ho : o.op = .call { callee := .builtin .append, args := #[x, y], argTypes := #[t, tn] }) (hN : ∀ d, o.dst = some d → d < N)
  (ht : P.underlying t = some (.slice e)) (htn : P.underlying tn = some (.int kn)) (hei : Zk P e z esz by_) (hs : 0 < esz) (hz : z.cells.size = esz) (hz1 : z.cells.toList.all Value.oneCell' = true) (hzv : ∀ tab, Qct tab (z.cells.toList.map DC.ex) (f zv)) (hl : (z.cells.toList.map DC.ex).length = (f zv).length)
  (hx : s.ev x = some (.c (.ex (.slice none 0 0)))) (hy : s.ev y = some (.int k n)) (hn : 0 < n) (hroom : roomy by_ n.toNat = true)
  (k' : ∀ v, K (s.upd o.dst (.c (.ex v)) (.arrX v e esz 0 ((List.replicate n.toNat zv).map f) :: s.tab))) : OpT P N o s K :=
 OpT.zerosZ hzv hl (Qej (f := fun _ : Unit => z.cells.toList.map DC.ex) (zv := ()) ho hN ht htn hei hs hz hz1 rfl hx hy hn hroom (fun v => ⟨v, rfl⟩)) k'
end
end Go.Rv
namespace Go.Rv
open Go.Proofs
theorem builder_String {b : Nat} {v p : Value} {xs : List Int} (h0 : 0 < xs.length) (hb : W8 xs = true) :
  Ud Tryz.prog 73 [.ptr b 0] [.box b 134 [.d (.ex p), .d (.ex v)], .arrX v 5 1 0 (xs.map (cI .u8))] (fun _ => .str (ofBytes xs)) (fun _ => [.box b 134 [.d (.ex p), .d (.ex v)], .ro 0 []]) :=
 Qfe Tryz.lays169 Tryz.Builder_Extra_169 h0 hb
end Go.Rv
namespace Go.Rv
section
variable {P : Program} {N : Nat} {s : St} {o : Oper} {K : St → Prop}
theorem OpT.slicePre {α : Type} {t e e' : TypeId} {x : Operand} {high : Option Operand} {v : Value} {i esz lo h : Nat} {xs : List α} {f : α → List DC} {z : Value} {sz by_ : Nat} (ho : o.op = .slice t x none high none) (hN : ∀ d, o.dst = some d → d < N) (ht : P.underlying t = some (.slice e))
  (hei : Zk P e z sz by_) (hx : s.ev x = some (.c (.ex v))) (hi : s.tab[i]? = some (.arrX v e' esz lo (xs.map f))) (hh : Bd s high xs.length h) (h2 : h ≤ xs.length)
  (k : K (s.putO o.dst (.pre v h))) : OpT P N o s K :=
 Zd _ hN (fun F L a w hr => by
  have hv := hr.exact hx
  obtain ⟨r1, r2, hob, -, -⟩ := hr.heap.get hi
  have hlen : (xs.map f).length = xs.length := Qfw _
  have key : ∀ (ad : Option Addr) (n c : Nat), v = .slice ad n c → n = xs.length → xs.length ≤ c → (execOp a.eval o).run P w = .ok (.value (.slice (if c = 0 then ad else ad.map (·.add (0 * sz))) (h - 0) (c - 0))) w := by
   intro ad n c hvv hn hc
   subst hn
   have hrun := E1 (P := P) (isS := true) (n := xs.length) (c := c) (Bd.none (s := s) 0) hh hr (Qf7 _) (by omega)
   simp only [execOp, ho, hv, hvv, Instr.sliceAt, Sem.run_bind, run_underlying ht, Result.andThen_ok, Instr.slice, Qib, hei.sizeOf]
   rw [Qib] at hrun
   rw [hrun]
   rfl
  generalize hys : xs.map f = ys at hob
  cases hob with
  | arrX0 ad =>
   have hx0 : xs = [] := by simpa using hys
   subst hx0
   have h0 : h = 0 := by simpa using h2
   subst h0
   have hrun := key ad 0 0 rfl rfl (Qf6 _)
   simp only [if_true, Qha] at hrun
   exact ⟨_, hrun, .pre _ _ _ ⟨ad, 0, 0, rfl, Qf6 _, rfl⟩⟩
  | arrX g cap cur _ _ _ _ hg hlo hn hm hcs hz hnw hro =>
   subst hys
   have hrun := key (some ⟨g, 0, none⟩) _ cap rfl hlen (by omega)
   have e1 : (if cap = 0 then (some ⟨g, 0, none⟩ : Option Addr) else (some ⟨g, 0, none⟩ : Option Addr).map (·.add (0 * sz))) = some ⟨g, 0, none⟩ := by
    split
    ·rfl
    ·simp [Addr.add]
   rw [e1, Qha, Qha] at hrun
   exact ⟨_, hrun, .pre _ _ _ ⟨some ⟨g, 0, none⟩, _, cap, rfl, by omega, rfl⟩⟩) k
theorem flat1 {k : IntKind} (xs : List Int) : (xs.map (cI k)).flatten = xs.map fun n => DC.ex (.int k n) := by
 induction xs with
 | nil => rfl
 | cons x xs ih => rw [Qge, Qgh, ih]; rfl
theorem V8.exInts {w : World} {M : Reg} {k : IntKind} {vs : List Value} {xs : List Int} (h : V8 w M vs (xs.map fun n => DC.ex (.int k n))) : vs = xs.map fun n => Value.int k n := by
 apply List.ext_getElem?
 intro j
 rcases Qi1 j xs.length with hj | hj
 ·have hjv : j < vs.length := by rw [h.1, Qfw]; exact hj
  have := h.2 j _ (DC.ex (.int k xs[j])) (List.getElem?_eq_getElem hjv) (by simp [hj])
  rw [List.getElem?_eq_getElem hjv, List.getElem?_map, List.getElem?_eq_getElem hj]
  generalize vs[j] = u at this
  cases this
  rfl
 ·rw [List.getElem?_eq_none (by rw [h.1, Qfw]; exact hj), List.getElem?_eq_none (by rw [Qfw]; exact hj)]
theorem Rel.storeInts {w : World} {F L : Reg} {a : Act} {v : Value} {i l : Nat} {e : TypeId} {k : IntKind} {xs ys : List Int} (hr : Rel w N F L s a) (hi : s.tab[i]? = some (.arrX v e 1 0 (xs.map (cI k)))) (hne : 0 < xs.length) (hl : l + ys.length ≤ xs.length) :
  ∃ (g cap : Nat) (cs : Array Value), v = .slice (some ⟨g, 0, none⟩) xs.length cap ∧ w.heap[g]? = some (.cells cs e (0, 0)) ∧ xs.length ≤ cs.size ∧ cs.toList.take xs.length = (xs.map fun n => Value.int k n) ∧
   ∃ L', Rel (w.setRow g (cs.toList.take l ++ (ys.map fun n => Value.int k n) ++ cs.toList.drop (l + ys.length)).toArray) N F L' { s with tab := s.tab.set i (.arrX v e 1 0 ((xs.take l ++ ys ++ xs.drop (l + ys.length)).map (cI k))) } a ∧
    Ext L w L' (w.setRow g (cs.toList.take l ++ (ys.map fun n => Value.int k n) ++ cs.toList.drop (l + ys.length)).toArray) := by
 obtain ⟨r, R, hob, hwr, hnd, hlt, hdis, hgo⟩ := hr.touch hi
 have hxl : (xs.map (cI k)).length = xs.length := Qfw _
 generalize hel : xs.map (cI k) = elems at hob hxl
 cases hob with
 | arrX0 => simp at hxl; omega
 | arrX g cap cur _ _ _ _ hg hlo' hn hm hcs hz hnw hre =>
  subst hel
  rw [hxl] at hn
  rw [Qhi] at hcs
  have hre' : V8 w ([(g, 0 * 1)] ++ R) (cur.toList.take xs.length) (xs.map fun n => DC.ex (.int k n)) := by
   have := hre
   rw [hxl, Qhi xs.length, flat1] at this
   exact this
  have hcur : cur.toList.length = cur.size := by simp
  refine ⟨g, cap, cur, by rw [hxl], hg, by omega, hre'.exInts, ?_⟩
  have hx : Ext [(g, 0 * 1)] w [(g, 0 * 1)] (w.setRow g (cur.toList.take l ++ (ys.map fun n => Value.int k n) ++ cur.toList.drop (l + ys.length)).toArray) :=
   Li hg (Qf6 _) (fun p hp => by omega)
  have hf : Fits w (w.setRow g (cur.toList.take l ++ (ys.map fun n => Value.int k n) ++ cur.toList.drop (l + ys.length)).toArray) [(g, 0 * 1)] [(g, 0 * 1)] := ⟨hx, by simp, fun p hp => by simp at hp; subst hp; simpa using lt_of_block hg⟩
  have hxR := hx.frame R
  have hnl : (xs.take l ++ ys ++ xs.drop (l + ys.length)).length = xs.length := by simp only [Qfu, Qgn, Qie]; omega
  have hob' : ObR (w.setRow g (cur.toList.take l ++ (ys.map fun n => Value.int k n) ++ cur.toList.drop (l + ys.length)).toArray) ([(g, 0 * 1)] ++ R) (.arrX (.slice (some ⟨g, 0, none⟩) ((xs.take l ++ ys ++ xs.drop (l + ys.length)).map (cI k)).length cap) e 1 0 ((xs.take l ++ ys ++ xs.drop (l + ys.length)).map (cI k))) [(g, 0 * 1)] := by
   refine .arrX g cap _ e 1 0 _ (setRow_heap w g cur _ e _ hg) (Qf7 _) (by rw [Qfw, hnl]; exact hn) hm ?_ ?_ (fun off ho => by omega) ?_
   ·simp only [Qh7, Qfu, Qgn, Qie, Qfw, hcur]; omega
   ·intro x hx'
    obtain ⟨n, _, rfl⟩ := Qgf.1 hx'
    rfl
   ·rw [Qfw, hnl, Qhi xs.length, flat1, List.toList_toArray]
    have e1 : (cur.toList.take l ++ (ys.map fun n => Value.int k n) ++ cur.toList.drop (l + ys.length)).take xs.length = ((xs.take l ++ ys ++ xs.drop (l + ys.length)).map fun n => Value.int k n) := by
     have h1 := hre'.exInts
     rw [Qg5, Qg5, List.map_take, List.map_drop, ← h1, List.take_append, Qg8 (by simp only [Qfu, Qgn, Qfw, hcur]; omega), List.take_take, Qiq (by omega)]
     congr 1
     rw [List.drop_take]
     congr 1
     simp only [Qfu, Qgn, Qfw, hcur]
     omega
    rw [e1]
    refine ⟨by simp, fun q u d hu hd => ?_⟩
    rw [List.getElem?_map] at hu hd
    cases hq : (xs.take l ++ ys ++ xs.drop (l + ys.length))[q]? with
    | none => rw [hq] at hu; simp at hu
    | some n =>
     rw [hq] at hu hd
     simp only [Qhs, Qgk] at hu hd
     subst hu; subst hd
     exact .ex _ rfl
  rw [Qfw, hnl, ← hxl] at hob'
  obtain ⟨L', h2, h3⟩ := hgo _ _ _ none undef .any hf (fun d hd => by cases hd) hob' (.any _)
  exact ⟨L', by simpa [St.upd, St.putO, Act.put] using h2, h3⟩
theorem one_ints {k : IntKind} {ys : List Int} : ∀ v ∈ ys.map (fun n => Value.int k n), v.oneCell' = true := fun v hv => by
 obtain ⟨n, _, rfl⟩ := Qgf.1 hv
 rfl
theorem OpT.copyInts {x y : Operand} {t u e e' : TypeId} {v : Value} {i by_ : Nat} {z : Value} {full : Bool} {k : IntKind} {xs ys : List Int} (ho : o.op = .call { callee := .builtin .copy, args := #[x, y], argTypes := #[t, u] }) (hN : ∀ d, o.dst = some d → d < N)
  (ht : P.underlying t = some (.slice e)) (hei : Zk P e z 1 by_) (hx : s.ev x = some (.c (.ex v))) (hi : s.tab[i]? = some (.arrX v e' 1 0 (xs.map (cI k)))) (hy : s.ev y = some (.sl full 1 (ys.map (cI k)))) (hne : 0 < ys.length) (hle : ys.length ≤ xs.length)
  (k' : K (s.upd o.dst (.int .i64 (ys.length : Int)) (s.tab.set i (.arrX v e' 1 0 ((ys ++ xs.drop ys.length).map (cI k)))))) : OpT P N o s K := by
 intro F L a w hr
 have hvy := hr.ev hy
 generalize hqy : a.eval y = qy at hvy
 obtain ⟨g, cap, cs, hv, hg, hsz, hcs, L', h2, h3⟩ := hr.storeInts (l := 0) (ys := ys) hi (by omega) (by omega)
 have hie : (P.info? e).map (·.size) = some 1 := by obtain ⟨ii, h1, h2, h3, h4⟩ := hei; rw [h1]; simp [h3]
 have hyl : (ys.map (cI k)).length = ys.length := Qfw _
 cases hvy with
 | c _ _ hrep =>
 obtain ⟨ad, b, off, cap', vs, hveq, ha, hc, hm, hf, hz, hre, hw⟩ := hrep.flat
 rcases ha with rfl | ⟨h0, _⟩
 ·rw [flat1] at hre
  have hvs := hre.exInts
  rw [hyl] at hveq
  have hcp := run_copy_row (P := P) w t u o.type e g 0 xs.length cap ⟨b, off, none⟩ ys.length cap' cs e' (ys.map fun n => Value.int k n) ht hie hg (by rw [Qfw]; show _ = min _ _; omega)
   (fun j q hj => by rw [addr_add]; rw [← hvs] at hj; exact (hw j q hj).1) (by rw [Qfw]; omega) one_ints
  rw [Qfw] at hcp
  have hrun : (execOp a.eval o).run P w = .ok (.value (goInt ys.length)) (w.setRow g (cs.toList.take 0 ++ (ys.map fun n => Value.int k n) ++ cs.toList.drop (0 + ys.length)).toArray) := by
   simp only [execOp, ho, resolve, invoke, builtin, hr.exact hx, hqy, hv, hveq, List.map_toArray, Qge, Qhu]
   simp [hcp]
  unfold Oper.wp
  rw [hrun, Oper.upon_value]
  have h4 := h2.put (o := o.dst) (v := goInt ys.length) (x := .int .i64 (ys.length : Int)) hN (.c _ _ (.ex _ rfl))
  simp only [List.take_zero, Qf8, Qgq] at h4
  refine ⟨L', _, k', ?_, h3⟩
  simp only [List.take_zero, Qf8, Qgq]
  cases hd : o.dst <;> (rw [hd] at h4; exact h4)
 ·rw [Qh0] at h0
  rw [h0] at hne; simp at hne
theorem OpT.copySelf {x y : Operand} {t u e e' : TypeId} {v : Value} {i by_ l h : Nat} {z : Value} {k : IntKind} {xs : List Int} (ho : o.op = .call { callee := .builtin .copy, args := #[x, y], argTypes := #[t, u] }) (hN : ∀ d, o.dst = some d → d < N)
  (ht : P.underlying t = some (.slice e)) (hei : Zk P e z 1 by_) (hx : s.ev x = some (.sub v 1 l)) (hi : s.tab[i]? = some (.arrX v e' 1 0 (xs.map (cI k)))) (hy : s.ev y = some (.pre v h)) (hh : 0 < h) (hl : l < xs.length)
  (k' : K (s.upd o.dst (.int .i64 ((min h (xs.length - l) : Nat) : Int)) (s.tab.set i (.arrX v e' 1 0 ((xs.take l ++ xs.take (min h (xs.length - l)) ++ xs.drop (l + min h (xs.length - l))).map (cI k)))))) : OpT P N o s K := by
 intro F L a w hr
 have hvy := hr.ev hy
 have hvx := hr.ev hx
 generalize hqy : a.eval y = qy at hvy
 generalize hqx : a.eval x = qx at hvx
 have hml : (xs.take (min h (xs.length - l))).length = min h (xs.length - l) := by rw [Qgn]; omega
 obtain ⟨g, cap, cs, hv, hg, hsz, hcs, L', h2, h3⟩ := hr.storeInts (l := l) (ys := xs.take (min h (xs.length - l))) hi (by omega) (by rw [hml]; omega)
 rw [hml] at h2 h3
 generalize hmm : min h (xs.length - l) = m at *
 have hie : (P.info? e).map (·.size) = some 1 := by obtain ⟨ii, h1, h2, h3, h4⟩ := hei; rw [h1]; simp [h3]
 have hcap : xs.length ≤ cap := by
  obtain ⟨r1, r2, hob, -, -⟩ := hr.heap.get hi
  obtain ⟨ad, c, hv', hc⟩ := hob.headX
  rw [hv] at hv'
  simp only [Value.slice.injEq] at hv'
  rw [Qfw] at hc
  omega
 subst hv
 cases hvx with
 | sub _ _ _ _ hs =>
 cases hvy with
 | pre _ _ _ hp =>
 obtain ⟨a1, n1, c1, e1, hn1, rfl⟩ := hs
 obtain ⟨a2, n2, c2, e2, hn2, rfl⟩ := hp
 simp only [Value.slice.injEq] at e1 e2
 obtain ⟨rfl, rfl, rfl⟩ := e1
 obtain ⟨rfl, rfl, rfl⟩ := e2
 have hsub : (if cap = l then (some ⟨g, 0, none⟩ : Option Addr) else (some ⟨g, 0, none⟩ : Option Addr).map (·.add (l * 1))) = some ⟨g, l, none⟩ := by
  rw [if_neg (by omega), Qhs, addr_add, Qgq, Qhi]
 rw [hsub] at hqx
 have hcp := run_copy_row (P := P) w t u o.type e g l (xs.length - l) (cap - l) ⟨g, 0, none⟩ h cap cs e' ((xs.take m).map fun n => Value.int k n) ht hie hg (by rw [Qfw, hml, ← hmm])
  (fun j q hj => by
   have hjm : j < m := by
    have := (List.getElem?_eq_some_iff.1 hj).1
    rw [Qfw, hml] at this
    exact this
   rw [addr_add, cell_of_row w g _ cs e' _ hg, Qgq, ← Array.getElem?_toList]
   rw [List.map_take, ← hcs, List.take_take, List.getElem?_take, if_pos (by omega)] at hj
   exact hj) (by rw [Qfw, hml]; omega) one_ints
 rw [Qfw, hml] at hcp
 have hrun : (execOp a.eval o).run P w = .ok (.value (goInt m)) (w.setRow g (cs.toList.take l ++ ((xs.take m).map fun n => Value.int k n) ++ cs.toList.drop (l + m)).toArray) := by
  simp only [execOp, ho, resolve, invoke, builtin, hqx, hqy, List.map_toArray, Qge, Qhu]
  simp [hcp]
 unfold Oper.wp
 rw [hrun, Oper.upon_value]
 have h4 := h2.put (o := o.dst) (v := goInt m) (x := .int .i64 (m : Int)) hN (.c _ _ (.ex _ rfl))
 refine ⟨L', _, k', ?_, h3⟩
 cases hd : o.dst <;> (rw [hd] at h4; exact h4)
end
end Go.Rv
