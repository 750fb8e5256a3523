/- What is written: the reference's writer; how long; fuel enough. -/
import Derived.Test.YtaipjabggdifoaaRpT4
namespace Go.Rv
theorem flatMap_len {α : Type} {w : α → List Int} {c : Nat} : ∀ {l : List α}, (∀ x ∈ l, (w x).length ≤ c) → (l.flatMap w).length ≤ l.length * c := by
  intro l
  induction l with
  | nil => intro _; simp
  | cons x l ih =>
    intro h
    have h0 := h x List.mem_cons_self
    have h1 := ih (fun y hy => h y (List.mem_cons_of_mem _ hy))
    rw [List.flatMap_cons, List.length_append, List.length_cons, Nat.succ_mul]
    omega
/-- What an automaton that is Right is made of. -/
structure RightS (a : api_Auto) : Prop where
  split : splitS a.Split = true
  cl : a.Counts.length ≤ 512
  s0 : 1 ≤ a.States.length
  sl : a.States.length ≤ 256
  first : (a.States.getD 0 ⟨[], [], [], []⟩).L = [] ∧ (a.States.getD 0 ⟨[], [], [], []⟩).R = []
  cn : ∀ c ∈ a.Counts, cntP c = true
  st : ∀ s ∈ a.States, stateP a s = true
/-- What a state of such an automaton is made of. -/
structure StateS (a : api_Auto) (s : api_State) : Prop where
  code : codesS s.R.length ≠ 0
  rule : (s.Rule.length : Int) = codesS s.R.length
  next : (s.Next.length : Int) = codesS s.R.length
  l : risesS s.L 512 = true
  r : risesS s.R a.Counts.length = true
  row : ∀ (c : Nat) (h : c < s.Next.length) (h' : c < s.Rule.length), -1 ≤ s.Rule[c] ∧ s.Rule[c] < 512 ∧ (s.Next[c].length : Int) = a.Split.Many ∧ ∀ m ∈ s.Next[c], moveP a s m = true
theorem stateS {a : api_Auto} {s : api_State} : stateP a s = true ↔ StateS a s := by
  simp only [stateP, Bool.and_eq_true, Bool.not_eq_true', beq_iff_eq, beq_eq_false_iff_ne, allB_iff]
  constructor
  · rintro ⟨h0, h1, h2, h3, h4, h5⟩
    refine ⟨h0, h1, h2, h3, h4, fun c h h' => ?_⟩
    have := h5 c (by omega) (by omega)
    simp only [rowP, getD_lt h, getD_lt h', Bool.and_eq_true, decide_eq_true_eq, beq_iff_eq, allB_iff] at this
    refine ⟨this.1, this.2.1, this.2.2.1, fun m hm => ?_⟩
    obtain ⟨i, hi, rfl⟩ := List.getElem_of_mem hm
    have := this.2.2.2 i (by omega) (by omega)
    rwa [getD_lt hi] at this
  · rintro ⟨h0, h1, h2, h3, h4, h5⟩
    refine ⟨h0, h1, h2, h3, h4, fun c _ h => ?_⟩
    have hc : c < s.Next.length := by omega
    have hc' : c < s.Rule.length := by omega
    obtain ⟨g0, g1, g2, g3⟩ := h5 c hc hc'
    simp only [rowP, getD_lt hc, getD_lt hc', Bool.and_eq_true, decide_eq_true_eq, beq_iff_eq, allB_iff]
    refine ⟨g0, g1, g2, fun j _ hj => ?_⟩
    have hj' : j < s.Next[c].length := by omega
    rw [getD_lt hj']
    exact g3 _ (List.getElem_mem hj')
theorem codesS_le (n : Int) : codesS n ≤ 27 := by
  simp only [codesS]
  split
  · omega
  · split
    · omega
    · split
      · omega
      · split <;> omega
theorem StateS.rl {a : api_Auto} {s : api_State} (h : StateS a s) : s.R.length ≤ 3 := by
  have := h.code
  refine Classical.byContradiction fun hn => this ?_
  simp only [codesS]
  rw [if_neg (by omega), if_neg (by omega), if_neg (by omega), if_neg (by omega)]
theorem StateS.ll {a : api_Auto} {s : api_State} (h : StateS a s) : s.L.length ≤ 512 := by
  rcases risesF_len s.L (-1) (by omega) h.l with g | g
  · omega
  · simp [g]
theorem RightS.many {a : api_Auto} (h : RightS a) : a.Split.Many ≤ 256 := by
  have := splitF_many a.Split.Of 256 0 0 a.Split.Many h.split
  omega
theorem RightS.stR {a : api_Auto} (h : RightS a) (m : api_Move) : (stR a m).length ≤ 3 := by
  simp only [Go.Rv.stR]
  cases hg : a.States[m.To.toNat]? with
  | none => simp
  | some s =>
    have := (stateS.1 (h.st s (List.mem_of_getElem? hg))).rl
    simpa using this
theorem RightS.ops {a : api_Auto} (h : RightS a) {s : api_State} {m : api_Move} (hm : moveP a s m = true) : m.Ops.length ≤ 3 := by
  simp only [moveP] at hm
  split at hm
  · have := beq_iff_eq.1 hm; omega
  · simp only [Bool.and_eq_true, beq_iff_eq] at hm
    have := h.stR m
    omega
theorem RightS.len {a : api_Auto} (h : RightS a) : (encS a).length ≤ LIM := by
  have hc : (a.Counts.flatMap cntW).length ≤ a.Counts.length * 18 := flatMap_len fun c _ => by
    have := numB_len c.a0; have := numB_len c.a1
    simp only [cntW, List.length_append]; omega
  have hlist : ∀ l : List Int, l.length ≤ 512 → (listW l).length ≤ 4617 := fun l hl => by
    have h1 := numB_len (l.length : Int)
    have h2 : (l.flatMap numB).length ≤ l.length * 9 := flatMap_len fun x _ => numB_len x
    simp only [listW, List.length_append]; omega
  have hs : (a.States.flatMap stW).length ≤ a.States.length * 9234 := flatMap_len fun s hs => by
    have h' := stateS.1 (h.st s hs)
    have := hlist s.L h'.ll; have := hlist s.R (by have := h'.rl; omega)
    simp only [stW, List.length_append]; omega
  have hs2 : (a.States.flatMap st2W).length ≤ a.States.length * (27 * 3081) := flatMap_len fun s hs => by
    have h' := stateS.1 (h.st s hs)
    have hm := h.many
    have hcl := codesS_le s.R.length
    have hn := h'.next
    have hr := h'.rule
    have h1 : ((s.Rule.zip s.Next).flatMap rowW).length ≤ (s.Rule.zip s.Next).length * 3081 := flatMap_len fun p hp => by
      obtain ⟨i, hi, rfl⟩ := List.getElem_of_mem hp
      rw [List.length_zip] at hi
      have hg : (s.Rule.zip s.Next)[i] = (s.Rule[i], s.Next[i]) := List.getElem_zip ..
      obtain ⟨_, _, g2, g3⟩ := h'.row i (by omega) (by omega)
      have h1 := numB_len (IntKind.i64.wrap (s.Rule[i] + 1))
      have h2 : (s.Next[i].flatMap moveW).length ≤ s.Next[i].length * 12 := flatMap_len fun m hm => by
        have := numB_len (IntKind.i64.wrap (m.To + 1))
        have := h.ops (g3 m hm)
        simp only [moveW, List.length_append]; omega
      rw [hg]
      simp only [rowW, List.length_append]; omega
    rw [List.length_zip] at h1
    have h2 : min s.Rule.length s.Next.length ≤ 27 := by omega
    exact Nat.le_trans h1 (Nat.mul_le_mul_right 3081 h2)
  have h1 := numB_len (a.Counts.length : Int)
  have h2 := numB_len (a.States.length : Int)
  have h3 := h.cl
  have h4 := h.sl
  simp only [encS, magic, List.length_append, list_len, List.length_cons, List.length_nil, LIM]
  omega
end Go.Rv
