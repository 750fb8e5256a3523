/- Automata, plainly: both layers' Right is one: states, and the whole. -/
import Derived.Test.YtaipjabggdifoaaRpT2
namespace Go.Rv
def mvOk (K : Nat) (r : List api_Move) : Prop := r.length < K ∧ r.length ≤ 9223372036854775807 ∧ ∀ m ∈ r, m.Ops.length < K ∧ m.Ops.length ≤ 9223372036854775807
def stOk (K : Nat) (s : api_State) : Prop := (s.L.length < K ∧ s.L.length ≤ 9223372036854775807) ∧ (s.R.length < K ∧ s.R.length ≤ 9223372036854775807) ∧ s.Rule.length ≤ 9223372036854775807 ∧ (s.Next.length < K ∧ s.Next.length ≤ 9223372036854775807) ∧ ∀ r ∈ s.Next, mvOk K r
theorem Okay.stOk {a : api_Auto} (h : Okay a) {K : Nat} (hK : bigOf a K) {s : api_State} (hs : s ∈ a.States) : stOk K s := by
  obtain ⟨h1, h2, h3, h4, h5⟩ := h.st s hs
  obtain ⟨k1, k2, k3, k4⟩ := hK.2.2.2 s hs
  exact ⟨⟨k1, h1⟩, ⟨k2, h2⟩, h3, ⟨k3, h4⟩, fun r hr => ⟨(k4 r hr).1, (h5 r hr).1, fun m hm => ⟨(k4 r hr).2 m hm, (h5 r hr).2 m hm⟩⟩⟩
end Go.Rv
