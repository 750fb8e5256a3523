/- A LOGIC OF ABSTRACT STATES OVER THE MODEL, part T: arrays of many numbers; boxes that nobody writes any more, and slices of them. -/
import Derived.Test.YtaipjabggdifoaaRvS
namespace Go.Rv
structure Qx where
 f : Nat → Int
def Qx.get (a : Qx) (i : Int) : Int := a.f i.toNat
def Qx.set (a : Qx) (i v : Int) : Qx := ⟨fun j => if j = i.toNat then v else a.f j⟩
def Qx.dc (n : Nat) (k : IntKind) (a : Qx) : List DC := (List.range n).map fun i => .ex (.int k (a.f i))
def Qx.oc (n : Nat) (k : IntKind) (a : Qx) : List OC := (List.range n).map fun i => .d (.ex (.int k (a.f i)))
def Qx.list (n : Nat) (a : Qx) : List Int := (List.range n).map a.f
theorem Ub {n : Nat} {k : IntKind} {a : Qx} : (a.oc n k).length = n := by simp [Qx.oc]
theorem Qx.dc_get {n : Nat} {k : IntKind} {a : Qx} {j m : Int} (h0 : 0 ≤ j) (h1 : j < m) (hm : m = (n : Int) := by decide) : (a.dc n k)[j.toNat]? = some (.ex (.int k (a.get j))) := by
 have : j.toNat < n := by omega
 simp [Qx.dc, Qx.get, this]
theorem N2 {n : Nat} {k : IntKind} {a : Qx} {i : Nat} (h : i < n) : (a.oc n k)[i]? = some (.d (.ex (.int k (a.f i)))) := by simp [Qx.oc, h]
theorem Ff {n : Nat} {k : IntKind} {a : Qx} {pre post : List OC} {j m : Int} (h0 : 0 ≤ j) (h1 : j < m) (hm : m = (n : Int) := by decide) : (pre ++ (a.oc n k ++ post))[pre.length + j.toNat * 1]? = some (.d (.ex (.int k (a.get j)))) := by
 have : j.toNat < n := by omega
 rw [List.getElem?_append_right (by omega), Nat.mul_one, Nat.add_sub_cancel_left, List.getElem?_append_left (by rw [Ub]; exact this), N2 this]
 rfl
theorem Qx.oc_lt {n : Nat} {k : IntKind} {a : Qx} {pre post : List OC} {j m : Int} (h0 : 0 ≤ j) (h1 : j < m) (hm : m = (n : Int) := by decide) : pre.length + j.toNat * 1 < (pre ++ (a.oc n k ++ post)).length := by
 simp only [List.length_append, Ub]; omega
theorem Qbq {n : Nat} {k : IntKind} {a : Qx} {pre post : List OC} {j v m : Int} (h0 : 0 ≤ j) (h1 : j < m) (hm : m = (n : Int) := by decide) :
  (pre ++ (a.oc n k ++ post)).take (pre.length + j.toNat * 1) ++ [OC.d (.ex (.int k v))] ++ (pre ++ (a.oc n k ++ post)).drop (pre.length + j.toNat * 1 + 1) = pre ++ ((a.set j v).oc n k ++ post) := by
 have hj : j.toNat < n := by omega
 rw [Nat.add_assoc, List.take_length_add_append, List.drop_length_add_append, Nat.mul_one, List.append_assoc, List.append_assoc]
 refine congrArg (pre ++ ·) ?_
 rw [List.take_append_of_le_length (by rw [Ub]; omega), List.drop_append_of_le_length (by rw [Ub]; omega)]
 rw [← List.append_assoc, ← List.append_assoc]
 refine congrArg (· ++ post) ?_
 apply List.ext_getElem?
 intro i
 rcases Nat.lt_or_ge i n with hi | hi
 ·rw [N2 hi]
  rcases Nat.lt_trichotomy i j.toNat with h | h | h
  ·rw [List.append_assoc, List.getElem?_append_left (by simp [Ub]; omega), List.getElem?_take, if_pos h, N2 hi]
   simp only [Qx.set, if_neg (show i ≠ j.toNat by omega)]
  ·rw [List.append_assoc, List.getElem?_append_right (by simp [Ub]; omega)]
   have : i - ((a.oc n k).take j.toNat).length = 0 := by simp [Ub]; omega
   rw [this]
   simp [Qx.set, h]
  ·rw [List.getElem?_append_right (by simp [Ub]; omega), List.getElem?_drop]
   have : j.toNat + 1 + (i - ((a.oc n k).take j.toNat ++ [OC.d (.ex (.int k v))]).length) = i := by simp [Ub]; omega
   rw [this, N2 hi]
   simp only [Qx.set, if_neg (show i ≠ j.toNat by omega)]
 ·rw [List.getElem?_eq_none (by simp [Ub]; omega), List.getElem?_eq_none (by rw [Ub]; exact hi)]
theorem Sj {n : Nat} {a : Qx} : (a.list n).length = n := by simp [Qx.list]
theorem Qx.dc_flat {n : Nat} {k : IntKind} {a : Qx} : ((a.list n).map (cI k)).flatten = a.dc n k := by
 simp only [Qx.dc, Qx.list, List.map_map]
 generalize List.range n = l
 induction l with
 | nil => rfl
 | cons i l ih => simp only [List.map_cons, List.flatten_cons, ih]; rfl
theorem Zn.freeze {s : St} (i : Nat) {b : Nat} {e : TypeId} {l : List DC} (hi : s.tab[i]? = some (.box b e (l.map OC.d))) : Zn s ⟨s.slots, s.tab.set i (.ro b l)⟩ := fun N F L a w hr => by
 obtain ⟨r, R, ho, hwr, hnd, hlt, hdis, hgo⟩ := hr.touch hi
 cases ho with
 | box _ _ cs _ r hb h =>
  obtain ⟨e1, h1⟩ := h.plain
  subst e1
  have hx : Ext [(b, 0)] w [] w := ⟨rfl, rfl, rfl, Nat.le_refl _, fun _ _ _ => rfl, fun _ _ _ _ => rfl, fun _ _ _ h => absurd h Wr.nil, fun _ _ _ h => by cases h⟩
  obtain ⟨L', h4, h5⟩ := hgo w [] (.ro b l) none undef .any ⟨hx, by simp, fun p hp => by cases hp⟩ (fun d hd => by cases hd) (.ro b cs.toList l (h1.less fun b' off hw => by
    obtain ⟨lim, hl, hle⟩ := hw
    exact ⟨lim, List.mem_append.2 (.inr (by simpa using hl)), hle⟩) (fun q v hv => ⟨by rw [cell_of_row w b q cs e _ hb]; simpa using hv, fun ⟨lim, hl, _⟩ => hdis (b, 0) (by simp) lim (by simpa using hl)⟩)) (.any _)
  exact ⟨L', by simpa [St.upd, St.putO, Act.put] using h4, h5⟩
section
variable {P : Program} {N : Nat} {s : St} {o : Oper} {K : St → Prop}
theorem Qbp {α : Type} {t e : TypeId} {n : Nat} {x : Operand} {g off i esz : Nat} {cells : List DC} {z : Value} {by_ : Nat} {xs : List α} {f : α → List DC} (ho : o.op = .slice t x none none none) (hN : ∀ d, o.dst = some d → d < N) (ht : P.underlying t = some (.array n e)) (hei : Zo P e z esz by_)
  (hx : s.ev x = some (.ptr g off)) (hi : s.tab[i]? = some (.ro g cells)) (hn : xs.length = n) (hm : n ≤ maxLen) (hz : ∀ y ∈ xs.map f, y.length = esz) (hd : (cells.drop off).take (n * esz) = (xs.map f).flatten) (k : K (s.putO o.dst (.sl true esz (xs.map f)))) : OpT P N o s K :=
 Zd _ hN (fun F L a w hr => by
  obtain ⟨r1, r2, h1, h2, hp⟩ := hr.heap.get hi
  cases h1 with
  | ro _ vs _ h hc =>
   have hrep := (h.drop off).take (n * esz)
   rw [hd] at hrep
   refine ⟨.slice (some (if n = 0 then ⟨g, off, none⟩ else ⟨g, off, none⟩)) n n, ?_, .c _ _ ?_⟩
   ·by_cases hn0 : n = 0
    ·subst hn0
     simp [execOp, ho, hr.exact hx, Instr.sliceAt, Instr.sureAddr, run_underlying ht, Instr.sliceBounds, hei.sizeOf]
    ·simp [execOp, ho, hr.exact hx, Instr.sliceAt, Instr.sureAddr, run_underlying ht, Instr.sliceBounds, hei.sizeOf, hn0, Addr.add]
   ·have := Wy (full := true) (cap := n) hrep (fun q v hq => by
     rw [List.getElem?_take] at hq
     split at hq
     ·rw [List.getElem?_drop] at hq
      exact hc _ v hq
     ·cases hq) (by simp [hn]) hm (fun _ => by simp [hn]) hz
    rw [List.length_map, hn] at this
    simpa using this) k
end
end Go.Rv
