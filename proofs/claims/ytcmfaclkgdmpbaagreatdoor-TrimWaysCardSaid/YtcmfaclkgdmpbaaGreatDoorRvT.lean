/- A LOGIC OF ABSTRACT STATES OVER THE MODEL, part T: arrays of many numbers; boxes that nobody writes any more, and slices of them. -/
import Derived.Test.YtcmfaclkgdmpbaaGreatDoorRvS
namespace Go.Rv
structure Zg where
 f : Nat → Int
def Zg.get (a : Zg) (i : Int) : Int := a.f i.toNat
def Zg.set (a : Zg) (i v : Int) : Zg := ⟨fun j => if j = i.toNat then v else a.f j⟩
def Zg.dc (n : Nat) (k : IntKind) (a : Zg) : List DC := (List.range n).map fun i => .ex (.int k (a.f i))
def Zg.oc (n : Nat) (k : IntKind) (a : Zg) : List OC := (List.range n).map fun i => .d (.ex (.int k (a.f i)))
theorem Je {n : Nat} {k : IntKind} {a : Zg} : (a.oc n k).length = n := by simp [Zg.oc]
theorem Zg.dc_get {n : Nat} {k : IntKind} {a : Zg} {j m : Int} (h0 : 0 ≤ j) (h1 : j < m) (hm : m = (n : Int) := by decide) : (a.dc n k)[j.toNat]? = some (.ex (.int k (a.get j))) := by
 have : j.toNat < n := by omega
 simp [Zg.dc, Zg.get, this]
theorem Qag {n : Nat} {k : IntKind} {a : Zg} {i : Nat} (h : i < n) : (a.oc n k)[i]? = some (.d (.ex (.int k (a.f i)))) := by simp [Zg.oc, h]
theorem Qcl {n : Nat} {k : IntKind} {a : Zg} {pre post : List OC} {j m : Int} (h0 : 0 ≤ j) (h1 : j < m) (hm : m = (n : Int) := by decide) : (pre ++ (a.oc n k ++ post))[pre.length + j.toNat * 1]? = some (.d (.ex (.int k (a.get j)))) := by
 have : j.toNat < n := by omega
 rw [List.getElem?_append_right (by omega), Qh1, Nat.add_sub_cancel_left, List.getElem?_append_left (by rw [Je]; exact this), Qag this]
 rfl
theorem Zg.oc_lt {n : Nat} {k : IntKind} {a : Zg} {pre post : List OC} {j m : Int} (h0 : 0 ≤ j) (h1 : j < m) (hm : m = (n : Int) := by decide) : pre.length + j.toNat * 1 < (pre ++ (a.oc n k ++ post)).length := by
 simp only [Qgl, Je]; omega
theorem Zg.oc_set {n : Nat} {k : IntKind} {a : Zg} {pre post : List OC} {j v m : Int} (h0 : 0 ≤ j) (h1 : j < m) (hm : m = (n : Int) := by decide) :
  (pre ++ (a.oc n k ++ post)).take (pre.length + j.toNat * 1) ++ [OC.d (.ex (.int k v))] ++ (pre ++ (a.oc n k ++ post)).drop (pre.length + j.toNat * 1 + 1) = pre ++ ((a.set j v).oc n k ++ post) := by
 have hj : j.toNat < n := by omega
 rw [Qiv, Qja, Qjb, Qh1, Qgj, Qgj]
 refine congrArg (pre ++ ·) ?_
 rw [Qh9 (by rw [Je]; omega), Qi3 (by rw [Je]; omega)]
 rw [← Qgj, ← Qgj]
 refine congrArg (· ++ post) ?_
 apply List.ext_getElem?
 intro i
 rcases Qi9 i n with hi | hi
 ·rw [Qag hi]
  rcases Nat.lt_trichotomy i j.toNat with h | h | h
  ·rw [Qgj, List.getElem?_append_left (by simp [Je]; omega), List.getElem?_take, if_pos h, Qag hi]
   simp only [Zg.set, if_neg (show i ≠ j.toNat by omega)]
  ·rw [Qgj, List.getElem?_append_right (by simp [Je]; omega)]
   have : i - ((a.oc n k).take j.toNat).length = 0 := by simp [Je]; omega
   rw [this]
   simp [Zg.set, h]
  ·rw [List.getElem?_append_right (by simp [Je]; omega), List.getElem?_drop]
   have : j.toNat + 1 + (i - ((a.oc n k).take j.toNat ++ [OC.d (.ex (.int k v))]).length) = i := by simp [Je]; omega
   rw [this, Qag hi]
   simp only [Zg.set, if_neg (show i ≠ j.toNat by omega)]
 ·rw [List.getElem?_eq_none (by simp [Je]; omega), List.getElem?_eq_none (by rw [Je]; exact hi)]
section
variable {P : Program} {N : Nat} {s : St} {o : Oper} {K : St → Prop}
end
end Go.Rv
