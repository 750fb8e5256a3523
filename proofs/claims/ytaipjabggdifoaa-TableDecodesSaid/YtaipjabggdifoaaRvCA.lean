/- A LOGIC OF ABSTRACT STATES OVER THE MODEL, part BW: owned memory that is lent to a call; an array that was appended to, whose old header is still wanted. -/
/- A LOGIC OF ABSTRACT STATES OVER THE MODEL, part BX: an array in an owned box, lent to a call as a slice. -/
/- A LOGIC OF ABSTRACT STATES OVER THE MODEL, part BY: entries at texts. -/
/- A LOGIC OF ABSTRACT STATES OVER THE MODEL, part BZ: slices cut with a bound of their room; a part of an owned array, lent to a call. -/
/- A LOGIC OF ABSTRACT STATES OVER THE MODEL, part CA: slices that are made; the text of a rune; pointers held against each other; a text behind owned bytes. -/
import Derived.Test.YtaipjabggdifoaaRvP
import Derived.Lib.Bytealg
import Derived.Laws.MakeOwn
import Derived.Laws.Runes
import Derived.Lib.Builder
import Derived.Lib.AppendStr
namespace Go.Rv
def Qae (s : St) (ob : Ob) (xs : List Operand) (avs : List AV) : Prop := ∀ (w : World) (N : Nat) (F L : Reg) (a : Act) (r R : Reg), Rel w N F L s a → ObR w (r ++ R) ob r → (∀ p ∈ r, ∀ lim, (p.1, lim) ∉ R) → (∀ b off, Wr R b off → Wr (L ++ F) b off) →
 (xs.map a.eval).length = avs.length ∧ ∀ (i : Nat) (v : Value) (x : AV), (xs.map a.eval)[i]? = some v → avs[i]? = some x → AvR w R v x
theorem Qae.nil {s : St} {ob : Ob} : Qae s ob [] [] := fun w N F L a r R _ _ _ _ => ⟨rfl, fun i v x h => by simp at h⟩
theorem Qae.more {s : St} {ob : Ob} {x : Operand} {l : List Operand} {y : AV} {ys : List AV} (h : ∀ (w : World) (N : Nat) (F L : Reg) (a : Act) (r R : Reg), Rel w N F L s a → ObR w (r ++ R) ob r → (∀ p ∈ r, ∀ lim, (p.1, lim) ∉ R) → (∀ b off, Wr R b off → Wr (L ++ F) b off) → AvR w R (a.eval x) y) (k : Qae s ob l ys) : Qae s ob (x :: l) (y :: ys) := fun w N F L a r R hr ho hd hs => by
 obtain ⟨h1, h2⟩ := k w N F L a r R hr ho hd hs
 refine ⟨by simp at h1 ⊢; exact h1, fun i v z hv hz => ?_⟩
 cases i with
 | zero => simp at hv hz; subst hv; subst hz; exact h w N F L a r R hr ho hd hs
 | succ i => exact h2 i v z (by simpa using hv) (by simpa using hz)
inductive Plain : AV → Prop
 | ex (v : Value) : Plain (.c (.ex v))
 | agg (l : List Value) {l' : List DC} (h : l' = l.map DC.ex) : Plain (.agg l')
theorem Plain.lift {x : AV} (h : Plain x) {w : World} {M M' : Reg} {v : Value} (hv : AvR w M v x) : AvR w M' v x := by
 cases h with
 | ex v0 =>
  cases hv with
  | c _ _ hc =>
   cases hc with
   | ex _ h1 => exact .c _ _ (.ex _ h1)
 | agg l hl =>
  subst hl
  cases hv with
  | agg vs _ hr =>
   refine .agg vs _ ⟨hr.1, fun i u d hu hd => ?_⟩
   have h1 := hr.2 i u d hu hd
   rw [List.getElem?_map] at hd
   obtain ⟨z, _, rfl⟩ := Option.map_eq_some_iff.1 hd
   cases h1 with
   | ex _ h2 => exact .ex _ h2
section
variable {P : Program} {N : Nat} {s : St} {o : Oper} {K : St → Prop}
theorem OpT.callLent {f : FuncId} {fn : Func} {args : Array Operand} {ts : Array TypeId} {avs : List AV} {x : AV} {i : Nat} {ob : Ob} (ho : o.op = .call { callee := .value (.func f), args, argTypes := ts }) (hN : ∀ d, o.dst = some d → d < N)
  (hf : P.funcs[f]? = some fn) (hb : fn.body.isSome = true) (hname : (fn.name == "runtime.NumGoroutine") = false) (hi : s.tab[i]? = some ob) (hargs : Qae s ob args.toList avs) (hc : CallP P f avs x) (hp : Plain x)
  (k : K (s.putO o.dst x)) : OpT P N o s K := by
 intro F L a w hr
 unfold Oper.wp
 rw [Sv ho hf hb hname, Oper.upon_enter]
 obtain ⟨r, r2, hob, hrest, hperm⟩ := hr.heap.get hi
 have hsame : Reg.same (L ++ F) (r ++ (r2 ++ F)) := by rw [← List.append_assoc]; exact Kt hperm
 have hnd : ((r ++ (r2 ++ F)).map (·.1)).Nodup := by rw [← List.append_assoc]; exact ((List.Perm.append_right F hperm).map _).nodup_iff.1 hr.nodup
 have hlt : ∀ p ∈ r ++ (r2 ++ F), p.1 < w.heap.size := fun p hp => hr.lt p ((hsame p).2 hp)
 have hnd2 : ((r2 ++ F).map (·.1)).Nodup := by rw [List.map_append, List.nodup_append] at hnd; exact hnd.2.1
 have hdis : ∀ p ∈ r, ∀ lim, (p.1, lim) ∉ r2 ++ F := fun p hp' lim hm => by
  rw [List.map_append, List.nodup_append] at hnd
  exact hnd.2.2 p.1 (List.mem_map_of_mem hp') p.1 (List.mem_map.2 ⟨(p.1, lim), hm, rfl⟩) rfl
 obtain ⟨h1, h2⟩ := hargs w N F L a r (r2 ++ F) hr (hob.congr fun b off => hsame.wr.symm) hdis (fun b off hw => hsame.wr.2 (Wr.append.2 (.inr hw)))
 have hcall := hc (r2 ++ F) [] w (args.toList.map a.eval) h1 (fun i v x hv hx => by rw [List.nil_append]; exact h2 i v x hv hx) .nil (by rw [List.nil_append]; exact hnd2) (fun p hp => by rw [List.nil_append] at hp; exact hlt p (List.mem_append.2 (.inr hp)))
 have harr : (args.toList.map a.eval).toArray = args.map a.eval := by rw [← Array.toList_map]
 rw [harr] at hcall
 refine hcall.mono ?_
 rintro e w' ⟨v, y, tab', L', rfl, ⟨hy, ht⟩, hv, hh', _, _, hx⟩
 subst hy; subst ht
 cases hh'
 have hxL : Ext L w L w' := by simpa using hx.frame L
 have hkeep : X6 w' (L ++ F) s.tab L := hr.heap.step hx (fun p _ lim hm => by cases hm) (by simpa using hx.frame (L ++ F))
 have hrel := hr.next (tab := s.tab) hxL hN (hp.lift hv) hkeep hr.nodup (fun p hp' => Nat.lt_of_lt_of_le (hr.lt p (List.mem_append.2 (.inl hp'))) hx.size)
 rw [Tl] at hrel
 exact ⟨L, _, k, hrel, hxL⟩
end
section
variable {P : Program} {N : Nat} {s : St} {o : Oper} {K : St → Prop}
end
end Go.Rv
namespace Go.Rv
theorem Qx.oc_flat {n : Nat} {k : IntKind} {a : Qx} : a.oc n k = (((a.list n).map (cI k)).flatten).map OC.d := by
 simp only [Qx.oc, Qx.list, List.map_map]
 induction List.range n with
 | nil => rfl
 | cons x l ih => simp only [List.map_cons, List.flatten_cons, List.map_append, ih]; rfl
theorem Qae.lentBox {α : Type} {s : St} {x : Operand} {l : List Operand} {avs : List AV} {b off n esz : Nat} {e : TypeId} {cells : List OC} {xs : List α} {f : α → List DC} (h : s.ev x = some (.c (.ex (.slice (some ⟨b, off, none⟩) n n)))) (hn : xs.length = n) (hm : n ≤ maxLen) (hz : ∀ y ∈ xs.map f, y.length = esz)
  (hd : (cells.drop off).take (n * esz) = ((xs.map f).flatten).map OC.d) (k : Qae s (.box b e cells) l avs) : Qae s (.box b e cells) (x :: l) (.sl false esz (xs.map f) :: avs) :=
 Qae.more (fun w _ _ _ _ r R hr ho hdis _ => by
  rw [hr.exact h]
  cases ho with
  | box _ _ cs _ r' hb hc =>
   have hlen : ((xs.map f).flatten).length = n * esz := by rw [Hr hz, List.length_map, hn]
   have hrep := (hc.getDs (off := off) (l := (xs.map f).flatten) (by rw [hlen]; exact hd)).less (M' := R) (fun b off hw => Wr.append.2 (.inr hw))
   refine .c _ _ ?_
   have := Wy (full := false) (cap := n) (b := b) (off := off) hrep (fun q v hq => by
    rw [List.getElem?_take] at hq
    split at hq
    ·rw [List.getElem?_drop] at hq
     refine ⟨?_, fun hw => ?_⟩
     ·rw [cell_of_row w b _ cs e _ hb]
      simpa using hq
     ·obtain ⟨lim, hl, _⟩ := hw
      exact hdis (b, 0) (List.mem_cons_self ..) lim hl
    ·cases hq) (by simp [hn]) hm (fun hf => by cases hf) hz
   rw [List.length_map, hn] at this
   exact this) k
section
variable {P : Program} {N : Nat} {s : St} {o : Oper} {K : St → Prop}
theorem Tz {t e : TypeId} {n : Nat} {x : Operand} {b off esz : Nat} {z : Value} {by_ : Nat} (ho : o.op = .slice t x none none none) (hN : ∀ d, o.dst = some d → d < N) (ht : P.underlying t = some (.array n e)) (hei : Zo P e z esz by_)
  (hx : s.ev x = some (.ptr b off)) (h0 : 0 < n) (k : K (s.putO o.dst (.c (.ex (.slice (some ⟨b, off, none⟩) n n))))) : OpT P N o s K :=
 Zd _ hN (fun F L a w hr => by
  refine ⟨.slice (some ⟨b, off, none⟩) n n, ?_, .c _ _ (.ex _ rfl)⟩
  have hn0 : n ≠ 0 := by omega
  simp [execOp, ho, hr.exact hx, Instr.sliceAt, Instr.sureAddr, run_underlying ht, Instr.sliceBounds, hei.sizeOf, hn0, Addr.add]) k
end
end Go.Rv
namespace Go.Rv
section
variable {P : Program} {N : Nat} {s : St} {o : Oper} {K : St → Prop}
end
end Go.Rv
namespace Go.Rv
section
variable {P : Program} {N : Nat} {s : St} {o : Oper} {K : St → Prop}
end
end Go.Rv
namespace Go.Rv
section
variable {P : Program} {N : Nat} {s : St} {o : Oper} {K : St → Prop}
def Z3 (b : ByteArray) : List Int := b.data.toList.map fun x => (x.toNat : Int)
theorem Uh (b : ByteArray) : (Z3 b).length = b.size := by
 rw [Z3, List.length_map, Array.length_toList]; rfl
theorem X2.ofOne {w : World} {M : Reg} : ∀ (vs : List Value), (∀ v ∈ vs, v.oneCell' = true) → X2 w M vs (vs.map DC.ex)
 | [], _ => X2.nil
 | v :: vs, h => X2.cons (.ex v (h v (by simp))) (X2.ofOne vs fun u hu => h u (by simp [hu]))
end
end Go.Rv
