/- A LOGIC OF ABSTRACT STATES OVER THE MODEL, part CD: an element of an array whose slices grow while a pointer leads to it; an array of bytes filled from a text. -/
import Derived.Test.YtcmfaclkgdmpbaaGreatDoorRvCA
namespace Go.Rv
section
variable {P : Program} {N : Nat} {s : St} {o : Oper} {K : St → Prop} {Q : Exit → St → Prop} {ops : Array Oper}
theorem Rel.retell {w : World} {F L : Reg} {a : Act} {i : Nat} {o o' : Ob} (hr : Rel w N F L s a) (hi : s.tab[i]? = some o) (h : ∀ r, ObR w (L ++ F) o r → ObR w (L ++ F) o' r) : ∃ L', Rel w N F L' ⟨s.slots, s.tab.set i o'⟩ a ∧ L'.Perm L := by
 obtain ⟨r1, r2, h1, h2, hp⟩ := hr.heap.get hi
 have hlt : i < s.tab.length := (List.getElem?_eq_some_iff.1 hi).1
 obtain ⟨L', h3, hp'⟩ := X1.set' (h r1 h1) h2 hlt
 have hp2 : L'.Perm L := hp'.trans hp.symm
 have hsame : Reg.same (L' ++ F) (L ++ F) := Fm hp2
 refine ⟨L', ⟨hr.defers, hr.size, fun t v hv => (hr.slot t v hv).less fun b off hw => hsame.wr.1 hw, h3.congr fun b off => hsame.wr, ?_, fun _ hp3 => hr.lt _ ((hsame _).1 hp3)⟩, hp2⟩
 exact ((Qgm F hp2).map _).nodup_iff.2 hr.nodup
theorem Ext.perm {w : World} {L L' : Reg} (h : L'.Perm L) : Ext L w L' w := (Ext.refl L w).congr (fun _ => Iff.rfl) (fun p => (h.mem_iff).symm)
theorem Zx.retell (i : Nat) {o o' : Ob} (hi : s.tab[i]? = some o) (h : ∀ (w : World) (M L : Reg) (r : Reg), X1 w M s.tab L → ObR w M o r → ObR w M o' r) : Zx s ⟨s.slots, s.tab.set i o'⟩ := fun N F L a w hr => by
 obtain ⟨L', h1, h2⟩ := hr.retell hi (fun r ho => h w _ L r hr.heap ho)
 exact ⟨L', h1, Ext.perm h2⟩
theorem Zx.weakX {α β : Type} (i : Nat) {v : Value} {e : TypeId} {esz lo : Nat} {xs : List α} {f : α → List DC} {g : β → List DC} {p : α → β} (hi : s.tab[i]? = some (.arrX v e esz lo (xs.map f))) (hw : ∀ x, Qct s.tab (f x) (g (p x))) (hl : ∀ x, (f x).length = (g (p x)).length) : Zx s ⟨s.slots, s.tab.set i (.arrX v e esz lo ((xs.map p).map g))⟩ :=
 Zx.retell i hi fun w M L r hh ho => by
  generalize hv : xs.map f = hs at ho
  cases ho with
  | arrX0 => have := congrArg List.length hv; simp at this; subst this; exact .arrX0 _ _ _
  | arrX g' cap cur _ _ _ _ hg hlo hnn hm hcs hz hnw hre =>
   subst hv
   have hlen : ((xs.map p).map g).length = (xs.map f).length := by simp
   have hz' : ∀ x ∈ (xs.map p).map g, x.length = esz := by
    intro x hx
    rw [Qjc] at hx
    obtain ⟨y, hy, rfl⟩ := Qgf.1 hx
    have := hz _ (Qg4 (f := f) hy)
    rw [hl] at this
    exact this
   have hcells : ∀ (ys : List α) (vs : List Value), V8 w M vs (ys.map f).flatten → V8 w M vs ((ys.map p).map g).flatten := by
    intro ys
    induction ys with
    | nil => intro vs h; exact h
    | cons y ys ih =>
     intro vs h
     simp only [Qge, Qgh] at h ⊢
     obtain ⟨us, ts, rfl, h1, h2⟩ := h.split
     exact ((hw y).rep hh h1).append (ih ts h2)
   have := ObR.arrX (w := w) (M := M) g' cap cur e esz lo ((xs.map p).map g) hg (by rw [hlen]; exact hlo) (by rw [hlen]; exact hnn) hm hcs hz' hnw (by rw [hlen]; exact hcells _ _ hre)
   rw [hlen] at this
   exact this
end
end Go.Rv
