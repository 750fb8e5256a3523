/- A LOGIC OF ABSTRACT STATES OVER THE MODEL, part NW: how long a slice in a struct may be: the form's own bound on what is handed. -/
import Derived.Test.YtaipjabggdifoaaRvW
import Derived.SizedLaws
namespace Go.Rv
theorem sized_field {P : Program} {t e : TypeId} {fs : Array Field} {w : World} {H : Type} {enc : TypeId × Value → H} {fuel : Nat} {cs : List Value} {x : DataW H × List MemPlace} (ht : P.underlying t = some (.struct fs)) (h : DataW.trod enc P w 0 (fun _ => true) true fuel t cs = some x) (hw : ∀ n ∈ x.1.weights P t, n ≤ reachBytes)
    {i : Nat} {f : Field} (hf : fs[i]? = some f) (hfe : P.underlying f.type = some (.slice e)) (hc : P.cellsOf f.type = 1) {full : Bool} {esz : Nat} {l : List (List DC)} {v : Value} (hv : cs[f.offset]? = some v) (hr : RepC w [] v (.sl full esz l)) : l.length * P.bytesOf e ≤ reachBytes := by
  obtain ⟨xs, n, _, rfl, hl, hn, hel⟩ := DataW.trod_struct ht h
  have h1 := hel i f hf
  have hcs : (cs.drop f.offset).take 1 = [v] := by
    obtain ⟨hlt, rfl⟩ := List.getElem?_eq_some_iff.1 hv
    rw [List.drop_eq_getElem_cons hlt]
    rfl
  rw [hc, hcs] at h1
  have hi : i < xs.length := by
    rw [hn]
    exact (Array.getElem?_eq_some_iff.1 hf).1
  have hxi : xs[i]? = some xs[i] := List.getElem?_eq_getElem hi
  rw [hxi] at h1
  rcases DataW.trod_slice hfe h1 with ⟨h2, _⟩ | ⟨ad, len, cap, elems, rest, m, _, h2, h3, _, _, _, hlen, _⟩
  · simp only [List.cons.injEq, and_true] at h2
    subst h2
    generalize hq : Value.slice none 0 0 = q at hr
    cases hr with
    | sl a b off cap full esz elems vs ha hc hm hf hz hw hr =>
      simp only [Value.slice.injEq] at hq
      rw [← hq.2.1]
      omega
  · simp only [List.cons.injEq, and_true] at h2
    subst h2
    have hmem : (elems.length + rest.length) * P.bytesOf e ∈ xs[i].1.weights P f.type := by
      rw [h3]
      simp [DataW.weights, hfe]
    have hle := hw _ (by
      simp only [DataW.weights, ht]
      exact DataW.weights_mem_each (j := i) (t := f.type) (d := xs[i].1) (by rw [List.getElem?_map, Array.getElem?_toList, hf]; rfl) (by rw [List.getElem?_map, hxi]; rfl) _ hmem)
    generalize hq : Value.slice (some ad) len cap = q at hr
    cases hr with
    | sl a b off cap full esz elems' vs ha hc hm hf hz hw hr =>
      simp only [Value.slice.injEq] at hq
      rw [← hq.2.1, ← hlen]
      exact Nat.le_trans (Nat.mul_le_mul_right _ (Nat.le_add_right _ _)) hle
theorem weights_arg {H : Type} {P : Program} {t : TypeId} {d : DataW H} {ts : List TypeId} {ds : List (DataW H)} (h : (DataW.weightsEach P ts ds).all (· ≤ reachBytes) = true) {j : Nat} (ht : ts[j]? = some t) (hd : ds[j]? = some d) : ∀ n ∈ d.weights P t, n ≤ reachBytes := fun n hn => by
  simpa using List.all_eq_true.1 h n (DataW.weights_mem_each ht hd n hn)
end Go.Rv
