/- Places are in the order of bytes, none twice, and the byte at each is that one: the program's law PlaceOrder answers true for every text and two numbers, and leaves its arguments as they read. Conditions: those of the given row. -/
import Derived.Test.YtnedpcjnhkmikaaRowOrder
import Derived.Test.YtnedpcjnhkmikaaRpP7
namespace Go.Proofs.Ytnedpcjnhkmikaa
open Go Go.Rv

theorem placeOrder_true : Rows.PlaceOrderSaid :=
  placeOrder_holds fun w a b hw ha hb => ⟨1000, by
    obtain ⟨a0, a1⟩ := wf_u8 ha
    obtain ⟨b0, b1⟩ := wf_u8 hb
    rw [show a = ((a.toNat : Nat) : Int) by omega, show b = ((b.toNat : Nat) : Int) by omega]
    exact Order_plain w (fun n hn => wf_u8 (hw.2 n hn)) _ _ (by omega) (by omega)⟩
#print axioms placeOrder_true
end Go.Proofs.Ytnedpcjnhkmikaa
