/- Numbers as bytes are in order and can be read again: the program's law TableOrder answers true for every two numbers. Conditions: those of the given row. -/
import Derived.Test.YtaipjabggdifoaaRowOrder
import Derived.Test.YtaipjabggdifoaaRpT7
namespace Go.Proofs.Ytaipjabggdifoaa
open Go Go.Rv

theorem wf_u32 {n : Int} (h : (Lit.int .u32 n).wf = true) : 0 ≤ n ∧ n < 4294967296 := by
  simp [Lit.wf, IntKind.min, IntKind.max, IntKind.signed, IntKind.bits] at h
  omega
theorem tableOrder_true : Rows.TableOrderSaid :=
  tableOrder_holds fun a b ha hb => Order_plain a b (wf_u32 ha) (wf_u32 hb)
#print axioms tableOrder_true
end Go.Proofs.Ytaipjabggdifoaa
