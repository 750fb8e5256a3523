/- Plain functions with fuel: more fuel, the same answer. -/
import Derived.Test.YtocjhbbldeankaaDoorRvJ
namespace Go.Rv
def Le {α : Type} (x y : Option α) : Prop := ∀ r, x = some r → y = some r
theorem Le.refl {α : Type} (x : Option α) : Le x x := fun _ h => h
theorem Le.bind {α β : Type} {x y : Option α} {f g : α → Option β} (h : Le x y) (k : ∀ v, Le (f v) (g v)) : Le (x.bind f) (y.bind g) := fun r hr => by
 obtain ⟨v, hv, hf⟩ := Option.bind_eq_some_iff.1 hr
 exact Option.bind_eq_some_iff.2 ⟨v, h v hv, k v r hf⟩
theorem Le.bif {α : Type} {b : Bool} {x y x' y' : Option α} (h : Le x x') (k : Le y y') : Le (bif b then x else y) (bif b then x' else y') := by
 cases b
 ·exact k
 ·exact h
def Ev {α : Type} (f : Nat → Option α) (v : α) : Prop := ∃ K, ∀ K', K ≤ K' → f K' = some v
theorem Ev.of {α : Type} {f : Nat → Option α} {v : α} (hle : ∀ {K K'}, K ≤ K' → Le (f K) (f K')) {K : Nat} (h : f K = some v) : Ev f v := ⟨K, fun _ hK => hle hK v h⟩
theorem Ev.pure {α : Type} (v : α) : Ev (fun _ => some v) v := ⟨0, fun _ _ => rfl⟩
theorem Ev.const {α : Type} {x : Option α} {v : α} (h : x = some v) : Ev (fun _ => x) v := ⟨0, fun _ _ => h⟩
theorem Ev.bind {α β : Type} {f : Nat → Option α} {g : Nat → α → Option β} {v : α} {r : β} (h : Ev f v) (k : Ev (fun K => g K v) r) : Ev (fun K => (f K).bind (g K)) r := by
 obtain ⟨K1, h1⟩ := h
 obtain ⟨K2, h2⟩ := k
 refine ⟨max K1 K2, fun K' hK => ?_⟩
 simp only [h1 K' (by omega), Option.bind_some]
 exact h2 K' (by omega)
theorem Ev.get {α : Type} {f : Nat → Option α} {v : α} (h : Ev f v) : ∃ K, f K = some v := by
 obtain ⟨K, h⟩ := h
 exact ⟨K, h K (Nat.le_refl _)⟩
theorem Ev.eq {α : Type} {f g : Nat → Option α} {v : α} (h : Ev f v) (e : ∀ K, g K = f K) : Ev g v := by
 obtain ⟨K, h⟩ := h
 exact ⟨K, fun K' hK => by rw [e]; exact h K' hK⟩
end Go.Rv
