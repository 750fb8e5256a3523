/- A LOGIC OF ABSTRACT STATES OVER THE MODEL, part O: entries of the model's own (searches in bytes). -/
import Derived.Test.YtcmfaclkgdmpbaaGreatDoorRvM
import Derived.Lib.BytesEntry
namespace Go.Rv
section
variable {P : Program} {N : Nat} {s : St} {o : Oper} {K : St → Prop}
theorem run_entryOp {w w' : World} {a : Act} {f : FuncId} {fn : Func} {e : Array Value → Sem Value} {args : Array Operand} {ts : Array TypeId} {v : Value} (ho : o.op = .call { callee := .value (.func f), args, argTypes := ts }) (hf : P.funcs[f]? = some fn) (hname : (fn.name == "runtime.NumGoroutine") = false)
  (hb : fn.body.isNone = true) (hn : Extern.findNext fn = none) (he : Extern.find fn = some e) (h : (e (args.map a.eval)).run P w = .ok v w') : (execOp a.eval o).run P w = .ok (.value v) w' := by
 have h1 : (callFunc f (#[] ++ args.map a.eval ++ #[])).run P w = .ok (.value v) w' := by
  have e0 : #[] ++ args.map a.eval ++ #[] = args.map a.eval := by simp
  rw [e0, run_callFunc_extern hf hname hb hn he, h]
  rfl
 simp only [execOp, ho, resolve, Act.eval, Deferred.ofValue, Sem.run_bind, Sem.run_pure, Result.andThen_ok, invoke]
 exact h1
end
end Go.Rv
