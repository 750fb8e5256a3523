/- A LOGIC OF ABSTRACT STATES OVER THE MODEL, part O: entries of the model's own (searches in bytes). -/
import Derived.Test.YtocjhbbldeankaaDoorRvM
import Derived.Lib.BytesEntry
namespace Go.Rv
section
variable {P : Program} {N : Nat} {s : St} {o : Oper} {K : St → Prop}
theorem run_entryOp {w w' : World} {a : Act} {f : FuncId} {fn : Func} {e : Array Value → Sem Value} {args : Array Operand} {ts : Array TypeId} {v : Value} (ho : o.op = .call { callee := .value (.func f), args, argTypes := ts }) (hf : P.funcs[f]? = some fn) (hname : (fn.name == "runtime.NumGoroutine") = false)
  (hb : fn.body.isNone = true) (hn : Extern.findNext fn = none) (he : Extern.find fn = some e) (h : (e (args.map a.eval)).run P w = .ok v w') : (execOp a.eval o).run P w = .ok (.value v) w' := by
 have h1 : (callFunc f (#[] ++ args.map a.eval ++ #[])).run P w = .ok (.value v) w' := by
  have e0 : #[] ++ args.map a.eval ++ #[] = args.map a.eval := by simp
  rw [e0, run_callFunc_extern hf hname hb hn he, h]
  rfl
 simp only [execOp, ho, resolve, Act.eval, Deferred.ofValue, Sem.run_bind, Sem.run_pure, Result.andThen_ok, invoke]
 exact h1
theorem Rel.bytes {w : World} {F L : Reg} {a : Act} {x : Operand} {full : Bool} {xs : List Int} (hr : Rel w N F L s a) (hx : s.ev x = some (.sl full 1 (xs.map (cI .u8)))) :
  ∃ ad cap, a.eval x = .slice ad xs.length cap ∧ (ad = none → xs = []) ∧ ∀ d, ad = some d → ∀ i, i < xs.length → w.cell? (d.add i) = some (.int .u8 (xs.getD i 0)) := by
 have hv := hr.ev hx
 generalize hq : a.eval x = q at hv
 cases hv with
 | c _ _ hv =>
  obtain ⟨ad, b, off, cap, vs, rfl, ha, hc, hm, hf, hz, hre, hw⟩ := hv.flat
  have hfl : (xs.map (cI .u8)).flatten = (xs.map (Value.int .u8)).map DC.ex := by
   clear hre hw hz hc hf ha hv hx hq
   induction xs with
   | nil => rfl
   | cons y ys ih => simp only [List.map_cons, List.flatten_cons, ih]; rfl
  have hvs : vs = xs.map (Value.int .u8) := by
   have := (RepL.ints (vs := vs.toArray) (l := (xs.map (cI .u8)).flatten) (by simpa using hre) _ hfl)
   simpa using this
  subst hvs
  refine ⟨ad, cap, by rw [List.length_map], fun h => ?_, fun d hd i hi => ?_⟩
  ·rcases ha with h' | ⟨h', _⟩
   ·rw [h] at h'; cases h'
   ·simpa using h'
  ·rcases ha with h' | ⟨h', _⟩
   ·rw [hd] at h'
    cases h'
    rw [addr_add]
    refine (hw i _ ?_).1
    rw [List.getElem?_map, List.getElem?_eq_getElem hi, List.getD_eq_getElem?_getD, List.getElem?_eq_getElem hi]
    rfl
   ·have : xs = [] := by simpa using h'
    subst this
    simp at hi
theorem run_bytesAt {P : Program} {w : World} {ad : Option Addr} {cap : Nat} {xs : List Int} (h0 : ad = none → xs = []) (h : ∀ d, ad = some d → ∀ i, i < xs.length → w.cell? (d.add i) = some (.int .u8 (xs.getD i 0))) :
  (Extern.Bytes.bytesOf (.slice ad xs.length cap)).run P w = .ok ⟨(Lib.bytesOf xs).toArray⟩ w := by
 cases ad with
 | none =>
  have : xs = [] := h0 rfl
  subst this
  rfl
 | some d =>
  have hl := Lib.run_loadBytesX (P := P) w xs d .empty (fun j x hj => by
   have hjl : j < xs.length := (List.getElem?_eq_some_iff.1 hj).1
   rw [h d rfl j hjl, List.getD_eq_getElem?_getD, hj]
   rfl)
  have he : (⟨ByteArray.empty.data ++ (Lib.bytesOf xs).toArray⟩ : ByteArray) = ⟨(Lib.bytesOf xs).toArray⟩ := by
   apply ByteArray.ext
   show (#[] : Array UInt8) ++ (Lib.bytesOf xs).toArray = (Lib.bytesOf xs).toArray
   simp
  rw [he] at hl
  exact hl
theorem run_indexByteAt {P : Program} {w : World} {ad : Option Addr} {cap : Nat} {xs : List Int} (h0 : ad = none → xs = []) (h : ∀ d, ad = some d → ∀ i, i < xs.length → w.cell? (d.add i) = some (.int .u8 (xs.getD i 0))) (cv : Int) :
  (Extern.BytealgIndexByte.indexByte #[.slice ad xs.length cap, .int .u8 cv]).run P w = .ok (.int .i64 (Lib.indexByte (Lib.bytesOf xs) cv.toNat.toUInt8)) w := by
 have hl := run_bytesAt (P := P) (cap := cap) h0 h
 have hs := Lib.run_indexByteString (P := P) ⟨(Lib.bytesOf xs).toArray⟩ cv w
 change Sem.run P (do
  let b ← Extern.Bytes.bytesOf (.slice ad xs.length cap)
  let c ← Extern.Bytes.asByte (.int .u8 cv)
  match (List.range b.size).find? fun i => b[i]! == c with
  | some i => pure (goInt i)
  | none => pure (goInt (-1))) w = _
 change Sem.run P (do
  let b ← Extern.Bytes.bytesOf (.string ⟨(Lib.bytesOf xs).toArray⟩)
  let c ← Extern.Bytes.asByte (.int .u8 cv)
  match (List.range b.size).find? fun i => b[i]! == c with
  | some i => pure (goInt i)
  | none => pure (goInt (-1))) w = _ at hs
 have hb : (Extern.Bytes.bytesOf (.string ⟨(Lib.bytesOf xs).toArray⟩)).run P w = .ok ⟨(Lib.bytesOf xs).toArray⟩ w := rfl
 rw [Sem.run_bind, hb] at hs
 rw [Sem.run_bind, hl]
 exact hs
def idxB (xs : List Int) (c : Int) : Int := Lib.indexByte (Lib.bytesOf xs) c.toNat.toUInt8
theorem OpT.indexByte {f : FuncId} {fn : Func} {x y : Operand} {ts : Array TypeId} {full : Bool} {xs : List Int} {c : Int} (ho : o.op = .call { callee := .value (.func f), args := #[x, y], argTypes := ts }) (hN : ∀ d, o.dst = some d → d < N) (hf : P.funcs[f]? = some fn) (hname : (fn.name == "runtime.NumGoroutine") = false)
  (hb : fn.body.isNone = true) (hn : Extern.findNext fn = none) (he : Extern.find fn = some Extern.BytealgIndexByte.indexByte) (hx : s.ev x = some (.sl full 1 (xs.map (cI .u8)))) (hy : s.ev y = some (.int .u8 c)) (k : K (s.putO o.dst (.int .i64 (idxB xs c)))) : OpT P N o s K :=
 OpT.still _ hN (fun F L a w hr => by
  obtain ⟨ad, cap, h1, h2, h3⟩ := hr.bytes hx
  refine ⟨.int .i64 (idxB xs c), run_entryOp ho hf hname hb hn he ?_, .c _ _ (.ex _ rfl)⟩
  have e : (#[x, y] : Array Operand).map a.eval = #[.slice ad xs.length cap, .int .u8 c] := by simp [h1, hr.exact hy]
  rw [e]
  exact run_indexByteAt h2 h3 c) k
end
end Go.Rv
