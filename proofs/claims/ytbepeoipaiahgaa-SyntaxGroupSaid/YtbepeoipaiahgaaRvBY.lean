/- A LOGIC OF ABSTRACT STATES OVER THE MODEL, part BY: entries at texts. -/
import Derived.Test.YtbepeoipaiahgaaRvBX
import Derived.Lib.Bytealg
namespace Go.Rv
section
variable {P : Program} {N : Nat} {s : St} {o : Oper} {K : St → Prop}
def idxS (t : ByteArray) (c : Int) : Int := Lib.indexByte t.data.toList c.toNat.toUInt8
theorem OpT.indexByteStr {f : FuncId} {fn : Func} {x y : Operand} {ts : Array TypeId} {t : ByteArray} {c : Int} (ho : o.op = .call { callee := .value (.func f), args := #[x, y], argTypes := ts }) (hN : ∀ d, o.dst = some d → d < N) (hf : P.funcs[f]? = some fn) (hname : (fn.name == "runtime.NumGoroutine") = false)
    (hb : fn.body.isNone = true) (hn : Extern.findNext fn = none) (he : Extern.find fn = some Extern.BytealgIndexByte.indexByte) (hx : s.ev x = some (.str t)) (hy : s.ev y = some (.int .u8 c)) (k : K (s.putO o.dst (.int .i64 (idxS t c)))) : OpT P N o s K :=
  OpT.still _ hN (fun F L a w hr => by
    refine ⟨.int .i64 (idxS t c), run_entryOp ho hf hname hb hn he ?_, .c _ _ (.ex _ rfl)⟩
    have e : (#[x, y] : Array Operand).map a.eval = #[.string t, .int .u8 c] := by simp [hr.exact hx, hr.exact hy]
    rw [e]
    exact Lib.run_indexByteString t c w) k
end
end Go.Rv
