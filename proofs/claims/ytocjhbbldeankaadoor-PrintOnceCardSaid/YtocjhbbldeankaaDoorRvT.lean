/- A LOGIC OF ABSTRACT STATES OVER THE MODEL, part T: arrays of many numbers; boxes that nobody writes any more, and slices of them. -/
import Derived.Test.YtocjhbbldeankaaDoorRvS
namespace Go.Rv
structure ArrN where
 f : Nat → Int
def ArrN.get (a : ArrN) (i : Int) : Int := a.f i.toNat
def ArrN.set (a : ArrN) (i v : Int) : ArrN := ⟨fun j => if j = i.toNat then v else a.f j⟩
def ArrN.dc (n : Nat) (k : IntKind) (a : ArrN) : List DC := (List.range n).map fun i => .ex (.int k (a.f i))
def ArrN.oc (n : Nat) (k : IntKind) (a : ArrN) : List OC := (List.range n).map fun i => .d (.ex (.int k (a.f i)))
def ArrN.list (n : Nat) (a : ArrN) : List Int := (List.range n).map a.f
def ArrN.same (n : Nat) (a b : ArrN) : Bool := a.list n == b.list n
theorem ArrN.oc_len {n : Nat} {k : IntKind} {a : ArrN} : (a.oc n k).length = n := by simp [ArrN.oc]
theorem ArrN.dc_get {n : Nat} {k : IntKind} {a : ArrN} {j m : Int} (h0 : 0 ≤ j) (h1 : j < m) (hm : m = (n : Int) := by decide) : (a.dc n k)[j.toNat]? = some (.ex (.int k (a.get j))) := by
 have : j.toNat < n := by omega
 simp [ArrN.dc, ArrN.get, this]
theorem ArrN.oc_at {n : Nat} {k : IntKind} {a : ArrN} {i : Nat} (h : i < n) : (a.oc n k)[i]? = some (.d (.ex (.int k (a.f i)))) := by simp [ArrN.oc, h]
theorem ArrN.oc_get {n : Nat} {k : IntKind} {a : ArrN} {pre post : List OC} {j m : Int} (h0 : 0 ≤ j) (h1 : j < m) (hm : m = (n : Int) := by decide) : (pre ++ (a.oc n k ++ post))[pre.length + j.toNat * 1]? = some (.d (.ex (.int k (a.get j)))) := by
 have : j.toNat < n := by omega
 rw [List.getElem?_append_right (by omega), Nat.mul_one, Nat.add_sub_cancel_left, List.getElem?_append_left (by rw [ArrN.oc_len]; exact this), ArrN.oc_at this]
 rfl
theorem ArrN.oc_lt {n : Nat} {k : IntKind} {a : ArrN} {pre post : List OC} {j m : Int} (h0 : 0 ≤ j) (h1 : j < m) (hm : m = (n : Int) := by decide) : pre.length + j.toNat * 1 < (pre ++ (a.oc n k ++ post)).length := by
 simp only [List.length_append, ArrN.oc_len]; omega
theorem ArrN.oc_set {n : Nat} {k : IntKind} {a : ArrN} {pre post : List OC} {j v m : Int} (h0 : 0 ≤ j) (h1 : j < m) (hm : m = (n : Int) := by decide) :
  (pre ++ (a.oc n k ++ post)).take (pre.length + j.toNat * 1) ++ [OC.d (.ex (.int k v))] ++ (pre ++ (a.oc n k ++ post)).drop (pre.length + j.toNat * 1 + 1) = pre ++ ((a.set j v).oc n k ++ post) := by
 have hj : j.toNat < n := by omega
 rw [Nat.add_assoc, List.take_length_add_append, List.drop_length_add_append, Nat.mul_one, List.append_assoc, List.append_assoc]
 refine congrArg (pre ++ ·) ?_
 rw [List.take_append_of_le_length (by rw [ArrN.oc_len]; omega), List.drop_append_of_le_length (by rw [ArrN.oc_len]; omega)]
 rw [← List.append_assoc, ← List.append_assoc]
 refine congrArg (· ++ post) ?_
 apply List.ext_getElem?
 intro i
 rcases Nat.lt_or_ge i n with hi | hi
 ·rw [ArrN.oc_at hi]
  rcases Nat.lt_trichotomy i j.toNat with h | h | h
  ·rw [List.append_assoc, List.getElem?_append_left (by simp [ArrN.oc_len]; omega), List.getElem?_take, if_pos h, ArrN.oc_at hi]
   simp only [ArrN.set, if_neg (show i ≠ j.toNat by omega)]
  ·rw [List.append_assoc, List.getElem?_append_right (by simp [ArrN.oc_len]; omega)]
   have : i - ((a.oc n k).take j.toNat).length = 0 := by simp [ArrN.oc_len]; omega
   rw [this]
   simp [ArrN.set, h]
  ·rw [List.getElem?_append_right (by simp [ArrN.oc_len]; omega), List.getElem?_drop]
   have : j.toNat + 1 + (i - ((a.oc n k).take j.toNat ++ [OC.d (.ex (.int k v))]).length) = i := by simp [ArrN.oc_len]; omega
   rw [this, ArrN.oc_at hi]
   simp only [ArrN.set, if_neg (show i ≠ j.toNat by omega)]
 ·rw [List.getElem?_eq_none (by simp [ArrN.oc_len]; omega), List.getElem?_eq_none (by rw [ArrN.oc_len]; exact hi)]
theorem ArrN.list_len {n : Nat} {a : ArrN} : (a.list n).length = n := by simp [ArrN.list]
theorem Turn.freeze {s : St} (i : Nat) {b : Nat} {e : TypeId} {l : List DC} (hi : s.tab[i]? = some (.box b e (l.map OC.d))) : Turn s ⟨s.slots, s.tab.set i (.ro b l)⟩ := fun N F L a w hr => by
 obtain ⟨r, R, ho, hwr, hnd, hlt, hdis, hgo⟩ := hr.touch hi
 cases ho with
 | box _ _ cs _ r hb h =>
  obtain ⟨e1, h1⟩ := h.plain
  subst e1
  have hx : Ext [(b, 0)] w [] w := ⟨rfl, rfl, rfl, Nat.le_refl _, fun _ _ _ => rfl, fun _ _ _ _ => rfl, fun _ _ _ h => absurd h Wr.nil, fun _ _ _ h => by cases h⟩
  obtain ⟨L', h4, h5⟩ := hgo w [] (.ro b l) none undef .any ⟨hx, by simp, fun p hp => by cases hp⟩ (fun d hd => by cases hd) (.ro b cs.toList l (h1.less fun b' off hw => by
    obtain ⟨lim, hl, hle⟩ := hw
    exact ⟨lim, List.mem_append.2 (.inr (by simpa using hl)), hle⟩) (fun q v hv => ⟨by rw [cell_of_row w b q cs e _ hb]; simpa using hv, fun ⟨lim, hl, _⟩ => hdis (b, 0) (by simp) lim (by simpa using hl)⟩)) (.any _)
  exact ⟨L', by simpa [St.upd, St.putO, Act.put] using h4, h5⟩
section
variable {P : Program} {N : Nat} {s : St} {o : Oper} {K : St → Prop}
end
end Go.Rv
