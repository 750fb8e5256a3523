/- A LOGIC OF ABSTRACT STATES OVER THE MODEL, part W: structs and arrays of many numbers that read as data are typed data. -/
import Derived.Test.YtcmfaclkgdmpbaaGreatDoorRvN
import Derived.Test.YtcmfaclkgdmpbaaGreatDoorRvT
namespace Go.Rv
section
variable {P : Program} {t e : TypeId}
theorem Rd.map {α β : Type} {f : α → List DC} {I : α → Prop} {g : β → List DC} {J : β → Prop} (h : Rd P t f I) (φ : α → β) (hf : ∀ a, f a = g (φ a)) (hI : ∀ a, I a → J (φ a)) : Rd P t g J := by
 intro H enc w held fuel cs x hx
 obtain ⟨a, h1, h2⟩ := h H enc w held fuel cs x hx
 exact ⟨φ a, hI a h1, by rw [← hf]; exact h2⟩
def RdAt (P : Program) (fs : List Field) (pos : Nat) (tot : Nat) {β : Type} (g : β → List DC) (J : β → Prop) : Prop :=
 ∀ (H : Type) (enc : TypeId × Value → H) (w : World) (held : Bool) (n : Nat) (cs : List Value) (ys : List (DataW H × List MemPlace)), ys.length = fs.length → pos + tot ≤ cs.length →
  (∀ (i : Nat) (f : Field), fs[i]? = some f → DataW.trod enc P w 0 (fun _ => true) held n f.type ((cs.drop f.offset).take (P.cellsOf f.type)) = ys[i]?) → ∃ b, J b ∧ Vu w [] ((cs.drop pos).take tot) (g b)
theorem RdAt.nil (pos : Nat) : RdAt P [] pos 0 (fun (_ : Unit) => []) (fun _ => True) := by
 intro H enc w held n cs ys hl hp h
 exact ⟨(), trivial, by simpa using Vu.nil⟩
theorem RdAt.cons {f : Field} {fs : List Field} {pos sz tot : Nat} {α β : Type} {fa : α → List DC} {Ia : α → Prop} {g : β → List DC} {J : β → Prop} (hoff : f.offset = pos) (hsz : P.cellsOf f.type = sz) (h : Rd P f.type fa Ia) (k : RdAt P fs (pos + sz) tot g J) :
  RdAt P (f :: fs) pos (sz + tot) (fun (x : α × β) => fa x.1 ++ g x.2) (fun x => Ia x.1 ∧ J x.2) := by
 intro H enc w held n cs ys hl hp hh
 cases ys with
 | nil => simp at hl
 | cons y ys =>
  have h0 := hh 0 f rfl
  rw [hoff, hsz] at h0
  obtain ⟨a, ha, hra⟩ := h H enc w held n _ y (by simpa using h0)
  obtain ⟨b, hb, hrb⟩ := k H enc w held n cs ys (by simpa using hl) (by omega) (fun i f' hf' => by simpa using hh (i + 1) f' (by simpa using hf'))
  refine ⟨(a, b), ⟨ha, hb⟩, ?_⟩
  have : (cs.drop pos).take (sz + tot) = (cs.drop pos).take sz ++ (cs.drop (pos + sz)).take tot := by
   rw [List.take_add, List.drop_drop]
  rw [this]
  exact hra.append hrb
theorem Rd.struct {fs : Array Field} {tot : Nat} {β : Type} {g : β → List DC} {J : β → Prop} (ht : P.underlying t = some (.struct fs)) (hct : P.cellsOf t = tot) (h : RdAt P fs.toList 0 tot g J) : Rd P t g J := by
 intro H enc w held fuel cs x hx
 obtain ⟨xs, m, _, _, hl, hn, hel⟩ := DataW.trod_struct ht hx
 rw [hct] at hl
 obtain ⟨b, hb, hr⟩ := h H enc w held m cs xs (by simpa using hn) (by omega) (fun i f hf => hel i f (by simpa using hf))
 refine ⟨b, hb, ?_⟩
 rw [Qhj, Qhs (by omega)] at hr
 exact hr
theorem Rd.arrN {k : IntKind} {n : Nat} (ht : P.underlying t = some (.array n e)) (he : P.underlying e = some (.int k)) (hc : P.cellsOf e = 1) (hct : P.cellsOf t = n) : Rd P t (Zg.dc n k) (fun a => ∀ i, i < n → (Lit.int k (a.f i)).wf = true) := by
 intro H enc w held fuel cs x h
 obtain ⟨xs, m, _, _, hl, hn, hel⟩ := DataW.trod_array ht h
 rw [hct] at hl
 have g : ∀ i, i < n → ∃ v, cs[i]? = some (Value.int k v) ∧ (Lit.int k v).wf = true := fun i hi => by
  have := hel i hi
  rw [hc, Qh1] at this
  have hxi : ∃ y, xs[i]? = some y := ⟨xs[i], by simp [hn, hi]⟩
  obtain ⟨y, hy⟩ := hxi
  rw [hy] at this
  obtain ⟨v, h1, _, h3⟩ := DataW.trod_int he this
  refine ⟨v, ?_, h3⟩
  have h5 : ((cs.drop i).take 1)[0]? = some (.int k v) := by rw [h1]; rfl
  rw [List.getElem?_take, if_pos (by omega), List.getElem?_drop, Qia] at h5
  exact h5
 refine ⟨⟨fun i => if h : i < n then (g i h).choose else 0⟩, fun i hi => by simp only [dif_pos hi]; exact (g i hi).choose_spec.2, ?_⟩
 refine ⟨by simp [Zg.dc, hl], fun i v d hv hd => ?_⟩
 have hi : i < n := by rw [← hl]; exact (List.getElem?_eq_some_iff.1 hv).1
 have h1 := (g i hi).choose_spec.1
 rw [h1] at hv
 simp only [Zg.dc, List.getElem?_map, List.getElem?_range hi, Qh0, Qg3] at hd
 cases hv
 subst hd
 simp only [dif_pos hi]
 exact .ex _ rfl
end
end Go.Rv
