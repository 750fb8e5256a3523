/- SyntaxName, plainly: a name in braces is a Ref just if it is a name. -/
import Derived.Test.YtbepeoipaiahgaaRpSC
namespace Go.Rv
theorem ofBytes_nn (l : List Nat) : ofBytes (nn l) = toB l := by
  apply ByteArray.ext
  apply Array.ext'
  have : ∀ (l : List Nat) (r : ByteArray), ((nn l).foldl (fun r n => r.push (UInt8.ofNat n.toNat)) r).data.toList = r.data.toList ++ l.map UInt8.ofNat := by
    intro l
    induction l with
    | nil => intro r; simp [nn]
    | cons x l ih =>
      intro r
      rw [show nn (x :: l) = (x : Int) :: nn l from rfl, List.foldl_cons, ih]
      simp [ByteArray.push]
  have h := this l ByteArray.empty
  rw [ofBytes]
  rw [h]
  simp [toB]
/-- A pattern of one atom. -/
theorem PR.leaf1 {l : List Nat} {t : Pt} (n : Nat) (h40 : l.head? ≠ some 40) (h91 : l.head? ≠ some 91) (hst : stopN l = false) (h : pLeaf l = .ok t []) : PR (.alt n) l (.ok t []) := by
  have h1 : PR (.atom n) l (.ok t []) := h ▸ PR.atomL h40 h91
  have h2 : PR (.item n) l (.ok t []) := .item1 h1 (.itemR0 rfl)
  have h3 : PR (.row n) l (.ok t []) := .row1 (.rowR1 hst h2 (.rowR0 rfl))
  exact .alt1 h3 (.altR0 (by simp))
theorem PR.leafE {l w : List Nat} {k : Nat} (n : Nat) (h40 : l.head? ≠ some 40) (h91 : l.head? ≠ some 91) (hst : stopN l = false) (h : pLeaf l = .err k w) : PR (.alt n) l (.err k w) := by
  have h1 : PR (.atom n) l (.err k w) := h ▸ PR.atomL h40 h91
  exact .altE (.rowE (.rowRE hst (.itemE h1)))
theorem name_parse (K : Nat) (hK : 6000 ≤ K) (yl : List Nat) (hy : ∀ c ∈ yl, c < 256 ∧ c ≠ 125) (hd : digNext yl = false) (hlen : yl.length ≤ 50) :
    syntax_Parse K (((⟨#[123]⟩ : ByteArray) ++ toB yl) ++ (⟨#[125]⟩ : ByteArray)) = some (if nameOk yl = true then ((Pt.ref yl).flat 0, 0, 0) else ([], 1, 41)) := by
  have hb : bs (((⟨#[123]⟩ : ByteArray) ++ toB yl) ++ (⟨#[125]⟩ : ByteArray)) = 123 :: (yl ++ [125]) := by
    rw [bs_append, bs_append, bs_toB (fun c hc => (hy c hc).1)]
    rfl
  have hsz : (((⟨#[123]⟩ : ByteArray) ++ toB yl) ++ (⟨#[125]⟩ : ByteArray)).size = yl.length + 2 := by
    rw [← bs_len, hb]; simp
  have hdig : digNext (yl ++ [125]) = false := by
    cases yl with
    | nil => rfl
    | cons c r => exact hd
  have htw : ∀ (l : List Nat), (∀ c ∈ l, c ≠ 125) → (l ++ [125]).takeWhile (fun c => c != 125) = l ∧ (l ++ [125]).dropWhile (fun c => c != 125) = [125] := by
    intro l
    induction l with
    | nil => intro _; exact ⟨rfl, rfl⟩
    | cons c l ih =>
      intro h
      obtain ⟨h1, h2⟩ := ih (fun x hx => h x (List.mem_cons_of_mem _ hx))
      have hc : (c != 125) = true := by simpa using h c (List.mem_cons_self ..)
      simp only [List.cons_append, List.takeWhile_cons, List.dropWhile_cons, hc, if_true, h1, h2, and_self]
  obtain ⟨h1, h2⟩ := htw yl (fun c hc => (hy c hc).2)
  have hleaf : pLeaf (123 :: (yl ++ [125])) = if nameOk yl = true then .ok (.ref yl) [] else .err 41 (yl ++ [125]) := by
    have e1 : pLeaf (123 :: (yl ++ [125])) = pName (yl ++ [125]) := by simp [pLeaf, hdig]
    rw [e1, pName, h1, h2]
  by_cases hn : nameOk yl = true
  · rw [if_pos hn] at hleaf ⊢
    have hp : PR (.alt 64) (bs (((⟨#[123]⟩ : ByteArray) ++ toB yl) ++ (⟨#[125]⟩ : ByteArray))) (.ok (.ref yl) []) := by
      rw [hb]; exact PR.leaf1 64 (by simp) (by simp) rfl hleaf
    rw [Parse_ok K hK (by omega) hp, out_ok _ (by simp [Pt.sz])]
  · rw [if_neg hn] at hleaf ⊢
    have hp : PR (.alt 64) (bs (((⟨#[123]⟩ : ByteArray) ++ toB yl) ++ (⟨#[125]⟩ : ByteArray))) (.err 41 (yl ++ [125])) := by
      rw [hb]; exact PR.leafE 64 (by simp) (by simp) rfl hleaf
    rw [Parse_ok K hK (by omega) hp, out_err, hsz]
    simp only [List.length_append, List.length_singleton]
    rw [show yl.length + 2 - (yl.length + 1) = 1 by omega]
    rfl
theorem name_end (K : Nat) (hK : 6000 ≤ K) (k : Nat) (s : ByteArray) (m : Int) (yl : List Nat) (hy : ∀ c ∈ yl, c < 256 ∧ c ≠ 125) (hd : digNext yl = false) (hlen : yl.length ≤ 50) :
    raddlelaw04_SyntaxName_l0 K (k + 1) s true m m (nn yl) = some true := by
  have hsz : (toB yl).size = yl.length := toB_size yl
  have hsz2 : ((⟨#[123]⟩ : ByteArray) ++ toB yl).size = yl.length + 1 := by rw [ByteArray.size_append, hsz]; show 1 + _ = _; omega
  rw [raddlelaw04_SyntaxName_l0]
  dsimp only
  rw [show decide (m < m) = false from decide_eq_false (by omega), cond_false, ofBytes_nn, ck_pos (by rw [hsz]; show 1 + _ ≤ _; omega), ck_pos (by rw [hsz2]; show _ + 1 ≤ _; omega), name_parse K hK yl hy hd hlen, Option.bind_some, Name_ok K _ (by omega) (by omega), Option.bind_some, bs_toB (fun c hc => (hy c hc).1)]
  by_cases hn : nameOk yl = true
  · rw [if_pos hn, hn]
    simp only [Bool.not_true, cond_false, cond_true, beq_self_eq_true]
    rw [Same_ok K _ _ (by simp [Pt.flat]; omega) (fun n hn => by simp [Pt.flat] at hn; subst hn; exact ⟨by show 0 < K; omega, Nat.zero_le _⟩), Option.bind_some]
    simp [Pt.flat]
  · rw [if_neg hn]
    simp only [Bool.not_eq_true] at hn
    rw [hn]
    rfl
theorem name_loop (K : Nat) (hK : 6000 ≤ K) (s : ByteArray) (n : Nat) (hn : n ≤ s.size) (hn50 : n ≤ 50) : ∀ (m k i : Nat) (yl : List Nat), n - i = m → i ≤ n → m < k → (∀ c ∈ yl, c < 256 ∧ c ≠ 125) → digNext yl = false → yl.length ≤ i →
    raddlelaw04_SyntaxName_l0 K k s true (n : Int) (i : Int) (nn yl) = some true := by
  intro m
  induction m with
  | zero =>
    intro k i yl hm hi hk hy hd hlen
    obtain ⟨k, rfl⟩ : ∃ k', k = k' + 1 := ⟨k - 1, by omega⟩
    have : i = n := by omega
    subst this
    exact name_end K hK k s _ yl hy hd (by omega)
  | succ m ih =>
    intro k i yl hm hi hk hy hd hlen
    obtain ⟨k, rfl⟩ : ∃ k', k = k' + 1 := ⟨k - 1, by omega⟩
    have hlt : i < (bs s).length := by rw [bs_len]; omega
    have hbt : bt s (i : Int) = ((bs s)[i] : Int) := by rw [bt_bs, List.getElem?_eq_getElem hlt]; rfl
    have hc : (bs s)[i] < 256 := bs_lt (List.getElem_mem hlt)
    rw [raddlelaw04_SyntaxName_l0]
    dsimp only
    rw [show decide ((i : Int) < (n : Int)) = true from decide_eq_true (by omega), cond_true, ck_pos ⟨by omega, by omega⟩, hbt]
    generalize (bs s)[i] = c at *
    have hskip := ih k (i + 1) yl (by omega) (by omega) (by omega) hy hd (by omega)
    have happ : c ≠ 125 → (yl = [] → isDig c = false) → ∀ (a b d e f g : _), raddlelaw04_SyntaxName_j1 K (raddlelaw04_SyntaxName_l0 K k) s true (i : Int) (n : Int) (i : Int) a b d e f g (nn yl) = some true := by
      intro h125 hdg a b d e f g
      rw [raddlelaw04_SyntaxName_j1, ck_pos ⟨by omega, by omega⟩, hbt, ck_pos (by
        rw [roomy_iff]
        simp only [List.length_cons, List.length_nil, nn_len, maxLen]
        omega), w64s (n := i) (by omega)]
      rw [show nn yl ++ [(c : Int)] = nn (yl ++ [c]) by simp [nn]]
      refine ih k (i + 1) (yl ++ [c]) (by omega) (by omega) (by omega) (fun x hx => ?_) ?_ (by simp; omega)
      · rcases List.mem_append.1 hx with hx | hx
        · exact hy x hx
        · simp at hx; subst hx; exact ⟨hc, h125⟩
      · cases yl with
        | nil => exact hdg rfl
        | cons y r => exact hd
    by_cases h125 : c = 125
    · rw [show ((c : Int) != 125) = false by simp; omega, cond_false, w64s (n := i) (by omega)]
      exact hskip
    · rw [show ((c : Int) != 125) = true by simp; omega, cond_true]
      by_cases h0 : yl = []
      · have e0 : decide (((nn yl).length : Int) > 0) = false := by rw [h0]; rfl
        rw [e0, cond_false]
        by_cases h48 : c < 48
        · rw [show decide ((c : Int) < 48) = true from decide_eq_true (by omega), cond_true]
          exact happ h125 (fun _ => by simp [isDig]; omega) _ _ _ _ _ _
        · rw [show decide ((c : Int) < 48) = false from decide_eq_false (by omega), cond_false]
          by_cases h57 : 57 < c
          · rw [show decide ((c : Int) > 57) = true from decide_eq_true (by omega), cond_true]
            exact happ h125 (fun _ => by simp [isDig]; omega) _ _ _ _ _ _
          · rw [show decide ((c : Int) > 57) = false from decide_eq_false (by omega), cond_false, w64s (n := i) (by omega)]
            exact hskip
      · have e0 : decide (((nn yl).length : Int) > 0) = true := by
          rw [nn_len]
          cases yl with
          | nil => exact absurd rfl h0
          | cons y r => exact decide_eq_true (by simp only [List.length_cons]; omega)
        rw [e0, cond_true]
        exact happ h125 (fun h => absurd h h0) _ _ _ _ _ _
theorem Name_plain (s : ByteArray) : ∃ K, raddlelaw04_SyntaxName K s = some true := by
  refine ⟨6000, ?_⟩
  have e := minIf 50 s.size
  rw [show ((50 : Nat) : Int) = (50 : Int) from rfl] at e
  rw [raddlelaw04_SyntaxName, shown_at (by decide), Option.bind_some, e]
  exact name_loop 6000 (by decide) s (min 50 s.size) (by omega) (by omega) (min 50 s.size) 6000 0 [] (by omega) (by omega) (by omega) (fun c hc => by simp at hc) rfl (by simp)
end Go.Rv
