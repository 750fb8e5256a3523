/- A LOGIC OF ABSTRACT STATES OVER THE MODEL, part W: structs and arrays of many numbers that read as data are typed data. -/
import Derived.Test.YtcmfaclkgdmpbaaGreatDoorRvN
import Derived.Test.YtcmfaclkgdmpbaaGreatDoorRvT
namespace Go.Rv
section
variable {P : Program} {t e : TypeId}
theorem Rd.map {α β : Type} {f : α → List DC} {I : α → Prop} {g : β → List DC} {J : β → Prop} (h : Rd P t f I) (φ : α → β) (hf : ∀ a, f a = g (φ a)) (hI : ∀ a, I a → J (φ a)) : Rd P t g J := by
 intro H enc w held fuel cs x hx
 obtain ⟨a, h1, h2⟩ := h H enc w held fuel cs x hx
 exact ⟨φ a, hI a h1, by rw [← hf]; exact h2⟩
def RdAt (P : Program) (fs : List Field) (pos : Nat) (tot : Nat) {β : Type} (g : β → List DC) (J : β → Prop) : Prop :=
 ∀ (H : Type) (enc : TypeId × Value → H) (w : World) (held : Bool) (n : Nat) (cs : List Value) (ys : List (DataW H × List MemPlace)), ys.length = fs.length → pos + tot ≤ cs.length →
  (∀ (i : Nat) (f : Field), fs[i]? = some f → DataW.trod enc P w 0 (fun _ => true) held n f.type ((cs.drop f.offset).take (P.cellsOf f.type)) = ys[i]?) → ∃ b, J b ∧ U3 w [] ((cs.drop pos).take tot) (g b)
theorem RdAt.nil (pos : Nat) : RdAt P [] pos 0 (fun (_ : Unit) => []) (fun _ => True) := by
 intro H enc w held n cs ys hl hp h
 exact ⟨(), trivial, by simpa using U3.nil⟩
theorem RdAt.cons {f : Field} {fs : List Field} {pos sz tot : Nat} {α β : Type} {fa : α → List DC} {Ia : α → Prop} {g : β → List DC} {J : β → Prop} (hoff : f.offset = pos) (hsz : P.cellsOf f.type = sz) (h : Rd P f.type fa Ia) (k : RdAt P fs (pos + sz) tot g J) :
  RdAt P (f :: fs) pos (sz + tot) (fun (x : α × β) => fa x.1 ++ g x.2) (fun x => Ia x.1 ∧ J x.2) := by
 intro H enc w held n cs ys hl hp hh
 cases ys with
 | nil => simp at hl
 | cons y ys =>
  have h0 := hh 0 f rfl
  rw [hoff, hsz] at h0
  obtain ⟨a, ha, hra⟩ := h H enc w held n _ y (by simpa using h0)
  obtain ⟨b, hb, hrb⟩ := k H enc w held n cs ys (by simpa using hl) (by omega) (fun i f' hf' => by simpa using hh (i + 1) f' (by simpa using hf'))
  refine ⟨(a, b), ⟨ha, hb⟩, ?_⟩
  have : (cs.drop pos).take (sz + tot) = (cs.drop pos).take sz ++ (cs.drop (pos + sz)).take tot := by
   rw [List.take_add, List.drop_drop]
  rw [this]
  exact hra.append hrb
theorem Rd.struct {fs : Array Field} {tot : Nat} {β : Type} {g : β → List DC} {J : β → Prop} (ht : P.underlying t = some (.struct fs)) (hct : P.cellsOf t = tot) (h : RdAt P fs.toList 0 tot g J) : Rd P t g J := by
 intro H enc w held fuel cs x hx
 obtain ⟨xs, m, _, _, hl, hn, hel⟩ := DataW.trod_struct ht hx
 rw [hct] at hl
 obtain ⟨b, hb, hr⟩ := h H enc w held m cs xs (by simpa using hn) (by omega) (fun i f hf => hel i f (by simpa using hf))
 refine ⟨b, hb, ?_⟩
 rw [Qlj, Ql9 (by omega)] at hr
 exact hr
end
end Go.Rv
