/- SyntaxTree, plainly: what Parse tells is a tree, or an error at a place. -/
import Derived.Test.YtbepeoipaiahgaaRpSP
namespace Go.Rv
theorem shown_200 : raddlelaw04_shown 200 = some true := by decide +kernel
theorem shown_at {K : Nat} (h : 200 ≤ K) : raddlelaw04_shown K = some true := raddlelaw04_shown_le h _ shown_200
theorem minIf (c n : Nat) : (if (c : Int) < (n : Int) then (c : Int) else (n : Int)) = ((min c n : Nat) : Int) := by
  split <;> omega
def fewS (s : ByteArray) : ByteArray := s.extract 0 (min 1100 s.size)
theorem few_ok (K : Nat) (s : ByteArray) : raddlelaw04_few K s = some (fewS s) := by
  have e := minIf 1100 s.size
  rw [show ((1100 : Nat) : Int) = (1100 : Int) from rfl] at e
  rw [raddlelaw04_few, e, Int.toNat_natCast, ck_pos ⟨by omega, by omega, by omega⟩, fewS]
theorem few_size (s : ByteArray) : (fewS s).size ≤ 1100 := by
  rw [← bs_len, fewS, bs_extract]
  simp; omega
theorem nameOk_len {nm : List Nat} (h : nameOk nm = true) : nm.length ≤ 32 := by
  unfold nameOk at h
  simp only [Bool.and_eq_true, decide_eq_true_eq] at h
  exact h.2
theorem len_sz : ∀ (f : Pt), f.wf false → f.len ≤ f.sz := by
  intro f
  induction f with
  | cons t g _ ih =>
    intro h
    have h1 := wf_sz h.1
    have h2 := ih h.2
    simp only [Pt.len, Pt.sz]; omega
  | nil => intro _; simp [Pt.len]
  | _ => intro h; exact h.elim
theorem flat_nodes (K : Nat) (hK : 1100 ≤ K) : ∀ (t : Pt) (b : Bool), t.wf b → t.sz ≤ 1024 → ∀ n, NodesOk K (t.flat n) := by
  intro t
  induction t with
  | empty => intro b h _ n x hx; simp [Pt.flat] at hx; subst hx; exact ⟨⟨by show 0 < K; omega, Nat.zero_le _⟩, by show 0 < K; omega, Nat.zero_le _⟩
  | set s => intro b h _ n x hx; simp [Pt.flat] at hx; subst hx; exact ⟨⟨by show 0 < K; omega, Nat.zero_le _⟩, by show 0 < K; omega, Nat.zero_le _⟩
  | ref nm =>
    intro b h _ n x hx
    cases b with
    | false => exact h.elim
    | true =>
      have := nameOk_len h.1
      simp [Pt.flat] at hx; subst hx
      exact ⟨⟨by rw [toB_size]; omega, by rw [toB_size]; omega⟩, by show 0 < K; omega, Nat.zero_le _⟩
  | rep t lo hi ih =>
    intro b h hs n x hx
    cases b with
    | false => exact h.elim
    | true =>
      simp only [Pt.flat, Pt.sz, List.mem_append, List.mem_singleton] at hx hs
      rcases hx with hx | rfl
      · exact ih true h.1 (by omega) n x hx
      · exact ⟨⟨by show 0 < K; omega, Nat.zero_le _⟩, by show 1 < K; omega, by show 1 ≤ 9223372036854775807; omega⟩
  | cat f ih =>
    intro b h hs n x hx
    cases b with
    | false => exact h.elim
    | true =>
      have := len_sz f h.2
      simp only [Pt.flat, Pt.sz, List.mem_append, List.mem_singleton] at hx hs
      rcases hx with hx | rfl
      · exact ih false h.2 (by omega) n x hx
      · exact ⟨⟨by show 0 < K; omega, Nat.zero_le _⟩, by rw [Pt.roots_len]; omega, by rw [Pt.roots_len]; omega⟩
  | alt f ih =>
    intro b h hs n x hx
    cases b with
    | false => exact h.elim
    | true =>
      have := len_sz f h.2
      simp only [Pt.flat, Pt.sz, List.mem_append, List.mem_singleton] at hx hs
      rcases hx with hx | rfl
      · exact ih false h.2 (by omega) n x hx
      · exact ⟨⟨by show 0 < K; omega, Nat.zero_le _⟩, by rw [Pt.roots_len]; omega, by rw [Pt.roots_len]; omega⟩
  | nil => intro b h _ n x hx; simp [Pt.flat] at hx
  | cons t f iht ihf =>
    intro b h hs n x hx
    cases b with
    | true => exact h.elim
    | false =>
      simp only [Pt.flat, Pt.sz, List.mem_append] at hx hs
      rcases hx with hx | hx
      · exact iht true h.1 (by omega) n x hx
      · exact ihf false h.2 (by omega) _ x hx
/-- An error 40 is at the text's end. -/
def EndE : Re Pt → Prop
  | .err k x => k = 40 → x = []
  | .ok _ _ => True
theorem pPair_end {w l x : List Nat} (h : pPair w l = .err 40 x) : x = [] := by
  unfold pPair at h
  split at h
  · split at h <;> cases h
  · cases h; rfl
theorem pEsc_end {w l x : List Nat} (h : pEsc w l = .err 40 x) : x = [] := by
  unfold pEsc at h
  split at h
  · cases h; rfl
  · split at h
    · cases h
    split at h
    · cases h
    split at h
    · cases h
    split at h
    · exact pPair_end h
    split at h <;> cases h
theorem pOne_end {l x : List Nat} (h : pOne l = .err 40 x) : x = [] := by
  unfold pOne at h
  split at h
  · cases h; rfl
  · split at h
    · exact pEsc_end h
    · cases h
theorem pFin_end {w l x : List Nat} {lo hi : Int} {bad : Bool} (h : pFin w lo hi bad l = .err 40 x) : x = [] := by
  unfold pFin at h
  split at h
  · cases h; rfl
  · split at h
    · cases h
    split at h <;> cases h
theorem pTimes_end {l x : List Nat} (h : pTimes l = some (.err 40 x)) : x = [] := by
  unfold pTimes at h
  split at h
  · cases h
  · split at h
    · cases h
    split at h
    · cases h
    split at h
    · cases h
    split at h
    · simp only [Option.some.injEq] at h
      unfold pBounds at h
      split at h
      · split at h
        · exact pFin_end h
        · exact pFin_end h
      · exact pFin_end h
    · cases h
theorem pMember_end {l x : List Nat} (h : pMember l = .err 40 x) : x = [] := by
  unfold pMember at h
  split at h
  · cases h; rfl
  · split at h
    · cases h
    · exact pOne_end h
theorem pSpan_end {l x : List Nat} (h : pSpan l = .err 40 x) : x = [] := by
  unfold pSpan at h
  split at h
  · rename_i k w he
    cases h; exact pMember_end he
  · split at h
    · rename_i k w he
      cases h; exact pMember_end he
    · split at h <;> cases h
  · cases h
theorem pLeaf_end {l x : List Nat} (h : pLeaf l = .err 40 x) : x = [] := by
  unfold pLeaf at h
  split at h
  · cases h; rfl
  · split at h
    · cases h
    split at h
    · unfold pName at h
      split at h
      · cases h; rfl
      · split at h <;> cases h
    split at h
    · cases h
    split at h
    · cases h
    split at h
    · cases h
    · rename_i k w he
      cases h; exact pOne_end he
theorem PR.endE {g : Goal} {l : List Nat} {res : Re Pt} (h : PR g l res) : EndE res := by
  induction h with
  | altE _ h => exact h
  | altE2 _ _ _ h => exact h
  | altRE _ h => exact h
  | altRE2 _ _ _ h => exact h
  | rowE _ h => exact h
  | rowRE _ _ h => exact h
  | rowRE2 _ _ _ _ h => exact h
  | itemE _ h => exact h
  | item1 _ _ _ h => exact h
  | itemRE h => intro hk; subst hk; exact pTimes_end h
  | itemR1 _ _ h => exact h
  | atomG0 => intro hk; cases hk
  | atomGE _ h => exact h
  | atomGE2 => intro _; rfl
  | atomC _ h => exact h
  | atomC0 => intro hk; cases hk
  | @atomL n l _ _ =>
    cases hq : pLeaf l with
    | ok => trivial
    | err k x => intro hk; subst hk; exact pLeaf_end hq
  | spansE _ h => intro hk; subst hk; exact pSpan_end h
  | spans1 _ _ _ h => exact h
  | _ => trivial
theorem Tree_plain (s : ByteArray) : ∃ K, raddlelaw04_SyntaxTree K s = some true := by
  refine ⟨6000, ?_⟩
  have hsz := few_size s
  rw [raddlelaw04_SyntaxTree, shown_at (by decide), Option.bind_some, few_ok, Option.bind_some]
  generalize fewS s = t at *
  by_cases hb : 1024 < t.size
  · rw [Parse_long _ hb, Option.bind_some]
    have e1 : decide ((0 : Int) ≤ (t.size : Int)) = true := decide_eq_true (by omega)
    simp [raddlelaw04_SyntaxTree_j0]
  · obtain ⟨res, hp⟩ := total 64 (bs t)
    rw [Parse_ok 6000 (by decide) (by omega) hp, Option.bind_some]
    have hsf := hp.suf
    have hlen := bs_len t
    cases res with
    | err k x =>
      have hk := hsf.2.1
      have hx := suf_len hsf.1
      have he := hp.endE
      have e0 : ((k : Int) != 0) = true := by simp; omega
      have e1 : decide (((t.size - x.length : Nat) : Int) ≥ 0) = true := decide_eq_true (by omega)
      have e2 : decide (((t.size - x.length : Nat) : Int) ≤ (t.size : Int)) = true := decide_eq_true (by omega)
      rw [out_err]
      simp only [e0, cond_true, List.length_nil, show (((0 : Nat) : Int) == 0) = true from rfl]
      rw [e1, e2]
      simp only [cond_true]
      by_cases h40 : k = 40
      · have hxx := he h40
        subst h40; subst hxx
        simp [raddlelaw04_SyntaxTree_j0]
      · have : ((k : Int) != 40) = true := by simp; omega
        simp only [this, cond_true, raddlelaw04_SyntaxTree_j0]
    | ok u r =>
      have hsh := short hp
      simp only [Short] at hsh
      cases r with
      | cons c r =>
        have hx := suf_len hsf
        have e1 : decide (((t.size - (c :: r).length : Nat) : Int) ≥ 0) = true := decide_eq_true (by omega)
        have e2 : decide (((t.size - (c :: r).length : Nat) : Int) ≤ (t.size : Int)) = true := decide_eq_true (by omega)
        rw [out_more]
        simp only [show ((41 : Int) != 0) = true from rfl, cond_true, List.length_nil, show (((0 : Nat) : Int) == 0) = true from rfl, show ((41 : Int) != 40) = true from rfl, raddlelaw04_SyntaxTree_j0]
        rw [e1, e2]
        rfl
      | nil =>
        by_cases hbig : 1024 < u.sz
        · rw [out_big _ hbig]
          simp [raddlelaw04_SyntaxTree_j0]
        · have hwf : u.wf true := hp.wf (fun c hc => bs_lt hc)
          rw [out_ok _ hbig]
          simp only [bne_self_eq_false, cond_false, cond_true, beq_self_eq_true]
          rw [Right_ok 6000 (by decide) _ (flat_nodes 6000 (by decide) u true hwf (by omega) 0), flat_right hwf (by omega), Option.bind_some]
          simp only [cond_true]
          rw [show decide ((t.size : Int) ≤ 1024) = true from decide_eq_true (by omega)]
end Go.Rv
