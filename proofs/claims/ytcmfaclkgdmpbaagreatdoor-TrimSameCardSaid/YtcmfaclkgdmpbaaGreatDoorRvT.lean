/- A LOGIC OF ABSTRACT STATES OVER THE MODEL, part T: arrays of many numbers; boxes that nobody writes any more, and slices of them. -/
import Derived.Test.YtcmfaclkgdmpbaaGreatDoorRvS
namespace Go.Rv
structure Zp where
 f : Nat → Int
def Zp.get (a : Zp) (i : Int) : Int := a.f i.toNat
def Zp.set (a : Zp) (i v : Int) : Zp := ⟨fun j => if j = i.toNat then v else a.f j⟩
def Zp.dc (n : Nat) (k : IntKind) (a : Zp) : List DC := (List.range n).map fun i => .ex (.int k (a.f i))
def Zp.oc (n : Nat) (k : IntKind) (a : Zp) : List OC := (List.range n).map fun i => .d (.ex (.int k (a.f i)))
theorem Wu {n : Nat} {k : IntKind} {a : Zp} : (a.oc n k).length = n := by simp [Zp.oc]
theorem Zp.dc_get {n : Nat} {k : IntKind} {a : Zp} {j m : Int} (h0 : 0 ≤ j) (h1 : j < m) (hm : m = (n : Int) := by decide) : (a.dc n k)[j.toNat]? = some (.ex (.int k (a.get j))) := by
 have : j.toNat < n := by omega
 simp [Zp.dc, Zp.get, this]
theorem Qeg {n : Nat} {k : IntKind} {a : Zp} {i : Nat} (h : i < n) : (a.oc n k)[i]? = some (.d (.ex (.int k (a.f i)))) := by simp [Zp.oc, h]
theorem Qa1 {n : Nat} {k : IntKind} {a : Zp} {pre post : List OC} {j m : Int} (h0 : 0 ≤ j) (h1 : j < m) (hm : m = (n : Int) := by decide) : (pre ++ (a.oc n k ++ post))[pre.length + j.toNat * 1]? = some (.d (.ex (.int k (a.get j)))) := by
 have : j.toNat < n := by omega
 rw [List.getElem?_append_right (by omega), Qmg, Nat.add_sub_cancel_left, List.getElem?_append_left (by rw [Wu]; exact this), Qeg this]
 rfl
theorem Zp.oc_lt {n : Nat} {k : IntKind} {a : Zp} {pre post : List OC} {j m : Int} (h0 : 0 ≤ j) (h1 : j < m) (hm : m = (n : Int) := by decide) : pre.length + j.toNat * 1 < (pre ++ (a.oc n k ++ post)).length := by
 simp only [Qky, Wu]; omega
theorem Zp.oc_set {n : Nat} {k : IntKind} {a : Zp} {pre post : List OC} {j v m : Int} (h0 : 0 ≤ j) (h1 : j < m) (hm : m = (n : Int) := by decide) :
  (pre ++ (a.oc n k ++ post)).take (pre.length + j.toNat * 1) ++ [OC.d (.ex (.int k v))] ++ (pre ++ (a.oc n k ++ post)).drop (pre.length + j.toNat * 1 + 1) = pre ++ ((a.set j v).oc n k ++ post) := by
 have hj : j.toNat < n := by omega
 rw [Qm5, Qnz, Qn0, Qmg, Qk0, Qk0]
 refine congrArg (pre ++ ·) ?_
 rw [Qmm (by rw [Wu]; omega), List.drop_append_of_le_length (by rw [Wu]; omega)]
 rw [← Qk0, ← Qk0]
 refine congrArg (· ++ post) ?_
 apply List.ext_getElem?
 intro i
 rcases Qny i n with hi | hi
 ·rw [Qeg hi]
  rcases Nat.lt_trichotomy i j.toNat with h | h | h
  ·rw [Qk0, List.getElem?_append_left (by simp [Wu]; omega), List.getElem?_take, if_pos h, Qeg hi]
   simp only [Zp.set, if_neg (show i ≠ j.toNat by omega)]
  ·rw [Qk0, List.getElem?_append_right (by simp [Wu]; omega)]
   have : i - ((a.oc n k).take j.toNat).length = 0 := by simp [Wu]; omega
   rw [this]
   simp [Zp.set, h]
  ·rw [List.getElem?_append_right (by simp [Wu]; omega), List.getElem?_drop]
   have : j.toNat + 1 + (i - ((a.oc n k).take j.toNat ++ [OC.d (.ex (.int k v))]).length) = i := by simp [Wu]; omega
   rw [this, Qeg hi]
   simp only [Zp.set, if_neg (show i ≠ j.toNat by omega)]
 ·rw [List.getElem?_eq_none (by simp [Wu]; omega), List.getElem?_eq_none (by rw [Wu]; exact hi)]
section
variable {P : Program} {N : Nat} {s : St} {o : Oper} {K : St → Prop}
end
end Go.Rv
