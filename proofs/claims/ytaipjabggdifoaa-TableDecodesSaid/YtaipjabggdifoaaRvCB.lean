/- A LOGIC OF ABSTRACT STATES OVER THE MODEL, part CB: calls that the library's contracts answer; an array in a box as a text; a builder's text. -/
import Derived.Test.YtaipjabggdifoaaRvCA
import Derived.Test.YtaipjabggdifoaaRvN
import Derived.Shelf.Strings.OnBuilder
import Derived.Shelf.Strconv.Itoa3
namespace Go.Rv
open Go.Shelf Go.RowKit Go.Proofs
theorem Ext.ofBelow {w w' : World} (hb : Below w.heap.size w w') : Ext [] w [] w' :=
 ⟨hb.os, hb.tape, hb.output, hb.size, fun b h _ => hb.block b h, fun b off h _ => World.cell?_of_block (a := ⟨b, off, none⟩) (hb.block b h), fun _ _ _ h => h, fun _ l _ h => ⟨l, h⟩⟩
theorem Zt.ofBelow {P : Program} {f : FuncId} {avs : List AV} {G : List Ob} {x : AV} (hG : ∀ w M L, X6 w M G L → L = [])
  (h : ∀ (M : Reg) (w : World) (vs : List Value), vs.length = avs.length → (∀ (i : Nat) (v : Value) (x : AV), vs[i]? = some v → avs[i]? = some x → AvR w M v x) → X6 w M G [] →
   Calls P f vs.toArray w fun e w' => ∃ v, e = .returned v ∧ (∀ M', AvR w' M' v x) ∧ Below w.heap.size w w') : Zt P f avs G x := by
 intro F L w vs h1 h2 h3 h4 h5
 have hL := hG _ _ _ h3
 subst hL
 refine (h _ w vs h1 h2 h3).mono ?_
 rintro e w' ⟨v, rfl, hv, hb⟩
 have hx := Ext.ofBelow hb
 exact ⟨v, x, G, [], rfl, ⟨rfl, rfl⟩, hv _, h3.step hx (fun p hp => by cases hp) (hx.frame F), h4, fun p hp => Nat.lt_of_lt_of_le (h5 p hp) hb.size, hx⟩
section
variable {P : Program} {N : Nat} {s : St} {o : Oper} {K : St → Prop}
end
end Go.Rv
