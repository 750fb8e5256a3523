/- A LOGIC OF ABSTRACT STATES OVER THE MODEL, part T: arrays of many numbers; boxes that nobody writes any more, and slices of them. -/
import Derived.Test.YtcmfaclkgdmpbaaGreatDoorRvS
namespace Go.Rv
structure Q5 where
 f : Nat → Int
def Q5.get (a : Q5) (i : Int) : Int := a.f i.toNat
def Q5.set (a : Q5) (i v : Int) : Q5 := ⟨fun j => if j = i.toNat then v else a.f j⟩
def Q5.dc (n : Nat) (k : IntKind) (a : Q5) : List DC := (List.range n).map fun i => .ex (.int k (a.f i))
def Q5.oc (n : Nat) (k : IntKind) (a : Q5) : List OC := (List.range n).map fun i => .d (.ex (.int k (a.f i)))
def Q5.list (n : Nat) (a : Q5) : List Int := (List.range n).map a.f
theorem W1 {n : Nat} {k : IntKind} {a : Q5} : (a.oc n k).length = n := by simp [Q5.oc]
theorem Q5.dc_get {n : Nat} {k : IntKind} {a : Q5} {j m : Int} (h0 : 0 ≤ j) (h1 : j < m) (hm : m = (n : Int) := by decide) : (a.dc n k)[j.toNat]? = some (.ex (.int k (a.get j))) := by
 have : j.toNat < n := by omega
 simp [Q5.dc, Q5.get, this]
theorem Qfq {n : Nat} {k : IntKind} {a : Q5} {i : Nat} (h : i < n) : (a.oc n k)[i]? = some (.d (.ex (.int k (a.f i)))) := by simp [Q5.oc, h]
theorem Qh9 {n : Nat} {k : IntKind} {a : Q5} {pre post : List OC} {j m : Int} (h0 : 0 ≤ j) (h1 : j < m) (hm : m = (n : Int) := by decide) : (pre ++ (a.oc n k ++ post))[pre.length + j.toNat * 1]? = some (.d (.ex (.int k (a.get j)))) := by
 have : j.toNat < n := by omega
 rw [List.getElem?_append_right (by omega), Qnz, Nat.add_sub_cancel_left, List.getElem?_append_left (by rw [W1]; exact this), Qfq this]
 rfl
theorem Q5.oc_lt {n : Nat} {k : IntKind} {a : Q5} {pre post : List OC} {j m : Int} (h0 : 0 ≤ j) (h1 : j < m) (hm : m = (n : Int) := by decide) : pre.length + j.toNat * 1 < (pre ++ (a.oc n k ++ post)).length := by
 simp only [Qmc, W1]; omega
theorem Q5.oc_set {n : Nat} {k : IntKind} {a : Q5} {pre post : List OC} {j v m : Int} (h0 : 0 ≤ j) (h1 : j < m) (hm : m = (n : Int) := by decide) :
  (pre ++ (a.oc n k ++ post)).take (pre.length + j.toNat * 1) ++ [OC.d (.ex (.int k v))] ++ (pre ++ (a.oc n k ++ post)).drop (pre.length + j.toNat * 1 + 1) = pre ++ ((a.set j v).oc n k ++ post) := by
 have hj : j.toNat < n := by omega
 rw [Qo0, Qo9, Qpa, Qnz, Qmd, Qmd]
 refine congrArg (pre ++ ·) ?_
 rw [Qns (by rw [W1]; omega), Qom (by rw [W1]; omega)]
 rw [← Qmd, ← Qmd]
 refine congrArg (· ++ post) ?_
 apply List.ext_getElem?
 intro i
 rcases Qo8 i n with hi | hi
 ·rw [Qfq hi]
  rcases Nat.lt_trichotomy i j.toNat with h | h | h
  ·rw [Qmd, List.getElem?_append_left (by simp [W1]; omega), List.getElem?_take, if_pos h, Qfq hi]
   simp only [Q5.set, if_neg (show i ≠ j.toNat by omega)]
  ·rw [Qmd, List.getElem?_append_right (by simp [W1]; omega)]
   have : i - ((a.oc n k).take j.toNat).length = 0 := by simp [W1]; omega
   rw [this]
   simp [Q5.set, h]
  ·rw [List.getElem?_append_right (by simp [W1]; omega), List.getElem?_drop]
   have : j.toNat + 1 + (i - ((a.oc n k).take j.toNat ++ [OC.d (.ex (.int k v))]).length) = i := by simp [W1]; omega
   rw [this, Qfq hi]
   simp only [Q5.set, if_neg (show i ≠ j.toNat by omega)]
 ·rw [List.getElem?_eq_none (by simp [W1]; omega), List.getElem?_eq_none (by rw [W1]; exact hi)]
section
variable {P : Program} {N : Nat} {s : St} {o : Oper} {K : St → Prop}
end
end Go.Rv
