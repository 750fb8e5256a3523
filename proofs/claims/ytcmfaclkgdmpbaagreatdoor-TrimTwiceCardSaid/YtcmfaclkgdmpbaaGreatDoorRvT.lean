/- A LOGIC OF ABSTRACT STATES OVER THE MODEL, part T: arrays of many numbers; boxes that nobody writes any more, and slices of them. -/
import Derived.Test.YtcmfaclkgdmpbaaGreatDoorRvS
namespace Go.Rv
structure Zi where
 f : Nat → Int
def Zi.get (a : Zi) (i : Int) : Int := a.f i.toNat
def Zi.set (a : Zi) (i v : Int) : Zi := ⟨fun j => if j = i.toNat then v else a.f j⟩
def Zi.dc (n : Nat) (k : IntKind) (a : Zi) : List DC := (List.range n).map fun i => .ex (.int k (a.f i))
def Zi.oc (n : Nat) (k : IntKind) (a : Zi) : List OC := (List.range n).map fun i => .d (.ex (.int k (a.f i)))
def Zi.list (n : Nat) (a : Zi) : List Int := (List.range n).map a.f
theorem W3 {n : Nat} {k : IntKind} {a : Zi} : (a.oc n k).length = n := by simp [Zi.oc]
theorem Zi.dc_get {n : Nat} {k : IntKind} {a : Zi} {j m : Int} (h0 : 0 ≤ j) (h1 : j < m) (hm : m = (n : Int) := by decide) : (a.dc n k)[j.toNat]? = some (.ex (.int k (a.get j))) := by
 have : j.toNat < n := by omega
 simp [Zi.dc, Zi.get, this]
theorem Qcv {n : Nat} {k : IntKind} {a : Zi} {i : Nat} (h : i < n) : (a.oc n k)[i]? = some (.d (.ex (.int k (a.f i)))) := by simp [Zi.oc, h]
theorem Qev {n : Nat} {k : IntKind} {a : Zi} {pre post : List OC} {j m : Int} (h0 : 0 ≤ j) (h1 : j < m) (hm : m = (n : Int) := by decide) : (pre ++ (a.oc n k ++ post))[pre.length + j.toNat * 1]? = some (.d (.ex (.int k (a.get j)))) := by
 have : j.toNat < n := by omega
 rw [List.getElem?_append_right (by omega), Nat.mul_one, Nat.add_sub_cancel_left, List.getElem?_append_left (by rw [W3]; exact this), Qcv this]
 rfl
theorem Zi.oc_lt {n : Nat} {k : IntKind} {a : Zi} {pre post : List OC} {j m : Int} (h0 : 0 ≤ j) (h1 : j < m) (hm : m = (n : Int) := by decide) : pre.length + j.toNat * 1 < (pre ++ (a.oc n k ++ post)).length := by
 simp only [List.length_append, W3]; omega
theorem Zi.oc_set {n : Nat} {k : IntKind} {a : Zi} {pre post : List OC} {j v m : Int} (h0 : 0 ≤ j) (h1 : j < m) (hm : m = (n : Int) := by decide) :
  (pre ++ (a.oc n k ++ post)).take (pre.length + j.toNat * 1) ++ [OC.d (.ex (.int k v))] ++ (pre ++ (a.oc n k ++ post)).drop (pre.length + j.toNat * 1 + 1) = pre ++ ((a.set j v).oc n k ++ post) := by
 have hj : j.toNat < n := by omega
 rw [Nat.add_assoc, List.take_length_add_append, List.drop_length_add_append, Nat.mul_one, List.append_assoc, List.append_assoc]
 refine congrArg (pre ++ ·) ?_
 rw [List.take_append_of_le_length (by rw [W3]; omega), List.drop_append_of_le_length (by rw [W3]; omega)]
 rw [← List.append_assoc, ← List.append_assoc]
 refine congrArg (· ++ post) ?_
 apply List.ext_getElem?
 intro i
 rcases Nat.lt_or_ge i n with hi | hi
 ·rw [Qcv hi]
  rcases Nat.lt_trichotomy i j.toNat with h | h | h
  ·rw [List.append_assoc, List.getElem?_append_left (by simp [W3]; omega), List.getElem?_take, if_pos h, Qcv hi]
   simp only [Zi.set, if_neg (show i ≠ j.toNat by omega)]
  ·rw [List.append_assoc, List.getElem?_append_right (by simp [W3]; omega)]
   have : i - ((a.oc n k).take j.toNat).length = 0 := by simp [W3]; omega
   rw [this]
   simp [Zi.set, h]
  ·rw [List.getElem?_append_right (by simp [W3]; omega), List.getElem?_drop]
   have : j.toNat + 1 + (i - ((a.oc n k).take j.toNat ++ [OC.d (.ex (.int k v))]).length) = i := by simp [W3]; omega
   rw [this, Qcv hi]
   simp only [Zi.set, if_neg (show i ≠ j.toNat by omega)]
 ·rw [List.getElem?_eq_none (by simp [W3]; omega), List.getElem?_eq_none (by rw [W3]; exact hi)]
section
variable {P : Program} {N : Nat} {s : St} {o : Oper} {K : St → Prop}
end
end Go.Rv
