/- Places that are held, plainly: what the reference answers of them. -/
import Derived.Test.YtcmfaclkgdmpbaaGreatDoorRpVI
namespace Go.Rv
def hq (h : Zg) : Nat := h.P.toNat
structure HOk (g : Qj) (h : Zg) : Prop where
 p0 : h.P = (hq h : Int)
 p1 : hq h < g.P.length
 ne : 1 ≤ h.N.length
 lo : ∀ n ∈ h.N, 1 ≤ n ∧ n ≤ (plP g (hq h)).Hi
 pw : h.N.Pairwise (· < ·)
structure COk (g : Qj) (c : Qt) : Prop where
 held : ∀ h ∈ c.L, HOk g h
 rise : (c.L.map hq).Pairwise (· < ·)
 beg : c.Begin = true → c.L = []
theorem GQ.at {g : Qj} (h : GQ g) {q : Nat} (hq : q < g.P.length) : 1 ≤ (plP g q).Lo ∧ (plP g q).Lo ≤ (plP g q).Hi ∧ (plP g q).Hi ≤ 4096 ∧ 0 ≤ (plP g q).Rule ∧ (plP g q).Rule < 512 ∧ (plP g q).Next.length ≤ 512 := by
 rw [Qhh hq]
 obtain ⟨p1, p2, p3, p4, p5, p6⟩ := posB_of (h.pos _ (Qkz hq))
 refine ⟨p1, p2, p3, p4, p5, ?_⟩
 have := h.n
 rcases Eu _ (-1) (by omega) p6 with h | h
 ·omega
 ·rw [h]; exact Qla _
theorem GQ.fl {g : Qj} (h : GQ g) : g.First.length ≤ 512 := by
 have := h.n
 rcases Eu _ (-1) (by omega) h.first with h | h
 ·omega
 ·rw [h]; exact Qla _
theorem HOk.len {g : Qj} (hg : GQ g) {h : Zg} (hh : HOk g h) : h.N.length ≤ 4096 := by
 have h3 := (hg.at hh.p1).2.2.1
 rcases Eu h.N 0 (by omega) (Qg0 (below := 4097) h.N 0 hh.pw fun x hx => by have := hh.lo x hx; omega) with h | h
 ·omega
 ·rw [h]; exact Qla _
theorem COk.len {g : Qj} (hg : GQ g) {c : Qt} (h : COk g c) : c.L.length ≤ 512 := by
 have := Od (c.L.map hq) (List.range g.P.length) (h.rise.imp fun h e => by omega) fun x hx => by
  obtain ⟨y, hy, rfl⟩ := Qll.1 hx
  exact Ql5.2 (h.held y hy).p1
 rw [Qlq, Qk2] at this
 have := hg.n
 omega
theorem in10_l0 (K : Nat) : ∀ (k : Nat) (x : List Int) (v i : Int), Wh K k x v i = Vj K k x v i := by
 intro k
 induction k with
 | zero => intros; rfl
 | succ k ih =>
  intro x v i
  rw [Wh, Vj]
  simp only [ih]
theorem in10 {K : Nat} {x : List Int} {v : Int} (hl : x.length ≤ 9223372036854775807) (hK : x.length < K) : Kc K x v = some (x.contains v) := by
 rw [Kc, in10_l0]
 exact refIn K x v hl hK
def lastN (h : Zg) : Int := h.N.getD (h.N.length - 1) 0
def ripeH (g : Qj) (h : Zg) : Bool := decide ((plP g (hq h)).Lo ≤ lastN h)
theorem last_ok {g : Qj} (hg : GQ g) {h : Zg} (hh : HOk g h) : Ys h.N (IntKind.i64.wrap ((h.N.length : Int) - 1)) = some (lastN h) := by
 have := hh.len hg
 have := hh.ne
 rw [w64 (by omega) (by omega), show (h.N.length : Int) - 1 = ((h.N.length - 1 : Nat) : Int) by omega, Qed 0 (by omega), lastN]
theorem Qhg {g : Qj} {h : Zg} (hh : HOk g h) : Ys g.P h.P = some (plP g (hq h)) := by
 rw [hh.p0, Q3 hh.p1, Qhh hh.p1]
theorem ripe10 {g : Qj} (hg : GQ g) {h : Zg} (hh : HOk g h) (K : Nat) : Hb K g h = some (ripeH g h) := by
 rw [Hb, last_ok hg hh, bS, Qhg hh, bS]
 rfl
def entH (g : Qj) (q : Nat) (h : Zg) : Bool := ripeH g h && (plP g (hq h)).Next.contains (q : Int)
theorem enters10_l0 (K : Nat) (hK : 100000 ≤ K) {g : Qj} (hg : GQ g) {c : Qt} (hc : COk g c) (q : Nat) : ∀ (m k i : Nat), c.L.length - i = m → m < k → Xj K k (q : Int) (i : Int) g c = some ((c.L.drop i).any (entH g q)) := by
 have hl := hc.len hg
 intro m
 induction m with
 | zero =>
  intro k i hm hk
  obtain ⟨k, rfl⟩ := Qoe k (by omega)
  rw [Xj]
  dsimp only
  rw [Qkx (by omega), cF, Qlb (by omega)]
  rfl
 | succ m ih =>
  intro k i hm hk
  obtain ⟨k, rfl⟩ := Qoe k (by omega)
  have hi : i < c.L.length := by omega
  have hh := hc.held _ (Qkz hi)
  have hnx := (hg.at hh.p1).2.2.2.2.2
  rw [Xj]
  dsimp only
  rw [Qk1 (by omega), cT, Q3 hi, bS, ripe10 hg hh, bS, Qhg hh, bS, in10 (by omega) (by omega), bS, Mf (n := i) (by omega), ih k (i + 1) (by omega) (by omega), Qk4 hi, List.any_cons, entH]
  cases ripeH g c.L[i] with
  | false => rfl
  | true => cases (plP g (hq c.L[i])).Next.contains (q : Int) <;> rfl
def entC (g : Qj) (c : Qt) (q : Nat) : Bool := if c.Begin = true then g.First.contains (q : Int) else c.L.any (entH g q)
theorem enters10 {K : Nat} (hK : 100000 ≤ K) {g : Qj} (hg : GQ g) {c : Qt} (hc : COk g c) (q : Nat) : Hj K g c (q : Int) = some (entC g c q) := by
 have hf := hg.fl
 have h := enters10_l0 K hK hg hc q c.L.length K 0 rfl (by have := hc.len hg; omega)
 rw [Qk6, Qlj] at h
 rw [Hj, entC]
 cases hb : c.Begin with
 | true => rw [cT, in10 (by omega) (by omega), bS, if_pos rfl]
 | false => rw [cF, h, if_neg (by decide)]
def stayN (g : Qj) (q : Nat) (N : List Int) : List Int := (N.filter fun n => decide (n < (plP g q).Hi)).map (· + 1)
theorem stayN_len (g : Qj) (q : Nat) (N : List Int) : (stayN g q N).length ≤ N.length := by
 rw [stayN, Qk2]
 exact List.length_filter_le _ _
theorem stays10_l1 (K : Nat) {g : Qj} (hg : GQ g) {c : Qt} (hc : COk g c) (q : Nat) (hq' : q < g.P.length) (go : Int → Int → Qj → Qt → (List Int) → Option (List Int)) {i : Nat} (hi : i < c.L.length) (he : hq c.L[i] = q) : ∀ (m k j : Nat) (y : List Int), c.L[i].N.length - j = m → m < k → y.length ≤ 5000 * i + j → Xr K go k (q : Int) (i : Int) (j : Int) g c y = go (q : Int) ((i + 1 : Nat) : Int) g c (y ++ stayN g q (c.L[i].N.drop j)) := by
 have hl := hc.len hg
 have hh := hc.held _ (Qkz hi)
 have hN := hh.len hg
 have hp : Ys g.P (q : Int) = some (plP g q) := by rw [Q3 hq', Qhh hq']
 intro m
 induction m with
 | zero =>
  intro k j y hm hk hy
  obtain ⟨k, rfl⟩ := Qoe k (by omega)
  rw [Xr]
  dsimp only
  rw [Q3 hi, bS, Qkx (by omega), cF, Mf (n := i) (by omega), Qlb (by omega), stayN, Qnx, Qmx, Qli]
 | succ m ih =>
  intro k j y hm hk hy
  obtain ⟨k, rfl⟩ := Qoe k (by omega)
  have hj : j < c.L[i].N.length := by omega
  have hv := hh.lo _ (Qkz hj)
  rw [he] at hv
  have hHi := (hg.at hq').2.2.1
  have hw : IntKind.i64.wrap (c.L[i].N[j] + 1) = c.L[i].N[j] + 1 := w64 (by omega) (by omega)
  rw [Xr]
  dsimp only
  rw [Q3 hi, bS, Qk1 (by omega), cT, Q3 hj, bS, hp, bS, hw, Mf (n := j) (by omega), Qk4 hj, stayN, Qmo]
  by_cases h : c.L[i].N[j] < (plP g q).Hi
  ·rw [Qk1 h, cT, if_pos rfl, Z4 (Zo.2 ⟨by simp only [maxLen, Qkw]; omega, by simp only [Qkw]; omega⟩), ih k (j + 1) _ (by omega) (by omega) (by rw [Qky, Qkw]; omega), stayN, Qk0]
   rfl
  ·rw [Qkx h, cF, if_neg (by decide), ih k (j + 1) _ (by omega) (by omega) (by omega)]
   rfl
def If (g : Qj) (q : Nat) (L : List Zg) : List Int := L.flatMap fun h => if hq h = q then stayN g q h.N else []
theorem stays10_l0 (K : Nat) (hK : 100000 ≤ K) {g : Qj} (hg : GQ g) {c : Qt} (hc : COk g c) (q : Nat) (hq' : q < g.P.length) : ∀ (m k i : Nat) (y : List Int), c.L.length - i = m → m < k → y.length ≤ 5000 * i → Yw K k (q : Int) (i : Int) g c y = some (y ++ If g q (c.L.drop i)) := by
 have hl := hc.len hg
 intro m
 induction m with
 | zero =>
  intro k i y hm hk hy
  obtain ⟨k, rfl⟩ := Qoe k (by omega)
  rw [Yw]
  dsimp only
  rw [Qkx (by omega), cF, Qlb (by omega), If, List.flatMap_nil, Qli]
 | succ m ih =>
  intro k i y hm hk hy
  obtain ⟨k, rfl⟩ := Qoe k (by omega)
  have hi : i < c.L.length := by omega
  have hh := hc.held _ (Qkz hi)
  have hN := hh.len hg
  rw [Yw]
  dsimp only
  rw [Qk1 (by omega), cT, Q3 hi, bS, hh.p0, Mf (n := i) (by omega), Qk4 hi, If, List.flatMap_cons]
  by_cases h : hq c.L[i] = q
  ·have h1 := stays10_l1 K hg hc q hq' (Yw K k) hi h c.L[i].N.length K 0 y rfl (by omega) (by omega)
   rw [Qk6, Qlj] at h1
   have hs := stayN_len g q c.L[i].N
   rw [if_pos h, h, Qn2, cF, h1, ih k (i + 1) _ (by omega) (by omega) (by rw [Qky]; omega), If, Qk0]
  ·rw [if_neg h, bne_iff_ne.2 (by omega), cT, ih k (i + 1) _ (by omega) (by omega) (by omega), If, Qlc]
theorem stays10 {K : Nat} (hK : 100000 ≤ K) {g : Qj} (hg : GQ g) {c : Qt} (hc : COk g c) {q : Nat} (hq' : q < g.P.length) : Ml K g c (q : Int) = some (If g q c.L) := by
 have h := stays10_l0 K hK hg hc q hq' c.L.length K 0 [] rfl (by have := hc.len hg; omega) (Qla _)
 rw [Qk6, Qlj, Qlc] at h
 exact h
end Go.Rv
namespace Go.Rv
def Qjv (g : Qj) (c : Qt) (q : Nat) : List Int := (if entC g c q = true then [1] else []) ++ If g q c.L
def Qhp (g : Qj) (c : Qt) (b q : Nat) : Option Zg := if (hasP g q b && decide (Qjv g c q ≠ [])) = true then some ⟨(q : Int), Qjv g c q⟩ else none
def Qc8 (g : Qj) (c : Qt) (b : Nat) : List Zg := (List.range g.P.length).filterMap (Qhp g c b)
theorem Qc9 {g : Qj} {q : Nat} : ∀ {L : List Zg}, (∀ h ∈ L, hq h ≠ q) → If g q L = []
 | [], _ => rfl
 | h :: L, hn => by
  rw [If, List.flatMap_cons, if_neg (hn h Qlg), Qlc]
  exact Qc9 fun x hx => hn x (Qld _ hx)
theorem Qjr {g : Qj} {q : Nat} : ∀ {L : List Zg}, (L.map hq).Pairwise (· < ·) → ∀ h ∈ L, hq h = q → If g q L = stayN g q h.N
 | x :: L, hp, h, hm, he => by
  rw [Qlk, List.pairwise_cons] at hp
  rw [If, List.flatMap_cons]
  rcases Ql8.1 hm with rfl | hm
  ·rw [if_pos he]
   have : If g q L = [] := Qc9 fun y hy => by
    have := hp.1 _ (Qmf hy)
    omega
   rw [If] at this
   rw [this, Qli]
  ·have := hp.1 _ (Qmf hm)
   rw [if_neg (by omega), Qlc]
   exact Qjr hp.2 h hm he
theorem newN_len {g : Qj} (hg : GQ g) {c : Qt} (hc : COk g c) (q : Nat) : (If g q c.L).length ≤ 4096 ∧ (Qjv g c q).length ≤ 4097 := by
 have h1 : (If g q c.L).length ≤ 4096 := by
  by_cases h : ∃ h ∈ c.L, hq h = q
  ·obtain ⟨h, h1, h2⟩ := h
   rw [Qjr hc.rise h h1 h2]
   have := stayN_len g q h.N
   have := (hc.held h h1).len hg
   omega
  ·rw [Qc9 fun x hx e => h ⟨x, hx, e⟩]; exact Qla _
 refine ⟨h1, ?_⟩
 rw [Qjv, Qky]
 split <;> simp only [Qkw, Qlu] <;> omega
theorem step10_l0 (K : Nat) (hK : 100000 ≤ K) {g : Qj} (hg : GQ g) (ho : OkG g) {c : Qt} (hc : COk g c) (b : Nat) (hb : b < 256) : ∀ (m k i : Nat) (y : List Zg), g.P.length - i = m → m < k → i ≤ g.P.length → y.length ≤ i → Ye K k (b : Int) (i : Int) g c y = some ⟨false, y ++ (List.range' i m).filterMap (Qhp g c b)⟩ := by
 have hn := hg.n
 intro m
 induction m with
 | zero =>
  intro k i y hm hk hi hy
  obtain ⟨k, rfl⟩ := Qoe k (by omega)
  rw [Ye]
  dsimp only
  rw [Qkx (by omega), cF, List.range'_zero, List.filterMap_nil, Qli]
 | succ m ih =>
  intro k i y hm hk hi hy
  obtain ⟨k, rfl⟩ := Qoe k (by omega)
  have hil : i < g.P.length := by omega
  obtain ⟨n1, n2⟩ := newN_len hg hc i
  have hskip := ih k (i + 1) y (by omega) (by omega) (by omega) (by omega)
  have htake := ih k (i + 1) (y ++ [⟨(i : Int), Qjv g c i⟩]) (by omega) (by omega) (by omega) (by rw [Qky, Qkw]; omega)
  have hj : ∀ z : List Int, z ++ If g i c.L = Qjv g c i → z.length ≤ 1 → Ud K (Ye K k) (b : Int) (i : Int) g c y z = if Qjv g c i ≠ [] then some ⟨false, (y ++ [⟨(i : Int), Qjv g c i⟩]) ++ (List.range' (i + 1) m).filterMap (Qhp g c b)⟩ else some ⟨false, y ++ (List.range' (i + 1) m).filterMap (Qhp g c b)⟩ := fun z hz hzl => by
   rw [Ud, stays10 hK hg hc hil, bS, Z4 (Zo.2 ⟨by simp only [maxLen]; omega, by omega⟩), hz, Mf (n := i) (by omega)]
   by_cases e : Qjv g c i = []
   ·rw [e, if_neg (by simp), Qlu, Qkx (by omega), cF]
    exact hskip
   ·have := List.length_pos_iff.2 e
    rw [if_pos e, Qk1 (by omega), cT, Z4 (Zo.2 ⟨by simp only [maxLen, Qkw]; omega, by simp only [Qkw]; omega⟩)]
    exact htake
  have hroom : roomy 8 (([] : List Int).length + [(1 : Int)].length) = true := Zo.2 ⟨by simp only [maxLen, Qkw, Qlu]; omega, by simp only [Qkw, Qlu]; omega⟩
  have hgo := hg.gok ho
  rw [Ye]
  dsimp only
  rw [Qk1 (by omega), cT, Q3 hil, bS, has_ok hgo hil hb, bS, enters10 hK hg hc i, bS, Mf (n := i) (by omega), List.range'_succ, Z4 hroom]
  cases hh : hasP g i b with
  | false =>
   have e : Qhp g c b i = none := by rw [Qhp, hh, Qm6, if_neg (by decide)]
   rw [Qlx, cT, List.filterMap_cons_none e]
   exact hskip
  | true =>
   rw [Qly, cF]
   have hz : ∀ z : List Int, z ++ If g i c.L = Qjv g c i → z.length ≤ 1 → Ud K (Ye K k) (b : Int) (i : Int) g c y z = some ⟨false, y ++ (i :: List.range' (i + 1) m).filterMap (Qhp g c b)⟩ := fun z h1 h2 => by
    rw [hj z h1 h2]
    by_cases e : Qjv g c i = []
    ·have e1 : Qhp g c b i = none := by rw [Qhp, hh, Qlh, Qkx (by simp [e]), if_neg (by decide)]
     rw [if_neg (by simp [e]), List.filterMap_cons_none e1]
    ·have e1 : Qhp g c b i = some ⟨(i : Int), Qjv g c i⟩ := by rw [Qhp, hh, Qlh, Qk1 e, if_pos rfl]
     rw [if_pos e, List.filterMap_cons_some e1, Qk0]; rfl
   cases he : entC g c i with
   | true => rw [cT]; exact hz [1] (by rw [Qjv, he, if_pos rfl]) (Qk9 _)
   | false => rw [cF]; exact hz [] (by rw [Qjv, he, if_neg (by decide)]) (Qla _)
theorem step10 {K : Nat} (hK : 100000 ≤ K) {g : Qj} (hg : GQ g) (ho : OkG g) {c : Qt} (hc : COk g c) {b : Nat} (hb : b < 256) : By K g c (b : Int) = some ⟨false, Qc8 g c b⟩ := by
 have h := step10_l0 K hK hg ho hc b hb g.P.length K 0 [] rfl (by have := hg.n; omega) (Qla _) (Qk9 _)
 rw [Qk6, Qlc, ← List.range_eq_range'] at h
 exact h
def Qdh (g : Qj) (r : Int) (h : Zg) : Int := if ((plP g (hq h)).Last && ripeH g h && (decide (r < 0) || decide ((plP g (hq h)).Rule < r))) = true then (plP g (hq h)).Rule else r
def ruleC (g : Qj) (L : List Zg) : Int := L.foldl (Qdh g) (-1)
theorem rule10_l0 (K : Nat) (hK : 100000 ≤ K) {g : Qj} (hg : GQ g) {c : Qt} (hc : COk g c) : ∀ (m k i : Nat) (r : Int), c.L.length - i = m → m < k → Yf K k r (i : Int) g c = some ((c.L.drop i).foldl (Qdh g) r) := by
 have hl := hc.len hg
 intro m
 induction m with
 | zero =>
  intro k i r hm hk
  obtain ⟨k, rfl⟩ := Qoe k (by omega)
  rw [Yf]
  dsimp only
  rw [Qkx (by omega), cF, Qlb (by omega)]
  rfl
 | succ m ih =>
  intro k i r hm hk
  obtain ⟨k, rfl⟩ := Qoe k (by omega)
  have hi : i < c.L.length := by omega
  have hh := hc.held _ (Qkz hi)
  have hih := fun r => ih k (i + 1) r (by omega) (by omega)
  have hw := Mf (n := i) (by omega)
  rw [Yf]
  dsimp only
  rw [Qk1 (by omega), cT, Q3 hi, bS, Qhg hh, bS, ripe10 hg hh, bS, Qk4 hi, Ql1, ← hih, Qdh, hw]
  simp only [Ws, hw]
  cases (plP g (hq c.L[i])).Last with
  | false => simp
  | true =>
   cases ripeH g c.L[i] with
   | false => simp
   | true =>
    by_cases h1 : r < 0
    ·simp [h1]
    ·by_cases h2 : (plP g (hq c.L[i])).Rule < r
     ·simp [h1, h2]
     ·simp [h1, h2]
theorem rule10 {K : Nat} (hK : 100000 ≤ K) {g : Qj} (hg : GQ g) {c : Qt} (hc : COk g c) : Bz K g c = some (ruleC g c.L) := by
 have h := rule10_l0 K hK hg hc c.L.length K 0 (-1) rfl (by have := hc.len hg; omega)
 rw [Qk6, Qlj] at h
 exact h
theorem right10_l5 (K : Nat) {g : Qj} (hg : GQ g) {h : Zg} (hh : HOk g h) (go : Int → Qj → Qt → Option Bool) (i : Nat) (hi : i < 1000) (a : Int) (a1 : Int) (a2 : Bool) (a3 : Int) (a4 a5 a6 : Bool) (a7 : List Int) (a8 : Int) (a9 : Bool) (c : Qt) : ∀ (m k j : Nat), h.N.length - j = m → m < k → Xs K go k (i : Int) (j : Int) a g a1 a2 a3 a4 a5 a6 a7 a8 a9 c h.P h.N = go ((i + 1 : Nat) : Int) g c := by
 have hN := hh.len hg
 intro m
 induction m with
 | zero =>
  intro k j hm hk
  obtain ⟨k, rfl⟩ := Qoe k (by omega)
  rw [Xs]
  dsimp only
  rw [Qkx (by omega), cF, Mf (n := i) (by omega)]
 | succ m ih =>
  intro k j hm hk
  obtain ⟨k, rfl⟩ := Qoe k (by omega)
  have hj : j < h.N.length := by omega
  have hv := hh.lo _ (Qkz hj)
  rw [Xs]
  dsimp only
  rw [Qk1 (by omega), cT, Q3 hj, bS, Qkx (by omega), cF, Qhg hh, bS, Qkx (by omega), cF, Mf (n := j) (by omega), ih k (j + 1) (by omega) (by omega)]
  by_cases e : j = 0
  ·rw [Qkx (by omega), cF]
  ·have hp := Qml.1 hh.pw (j - 1) j (by omega) hj (by omega)
   rw [Qk1 (by omega), cT, w64 (by omega) (by omega), show (j : Int) - 1 = ((j - 1 : Nat) : Int) by omega, Q3 (by omega), bS, Qkx (by omega), cF]
theorem right10_l2 (K : Nat) (hK : 100000 ≤ K) {g : Qj} (hg : GQ g) {c : Qt} (hc : COk g c) : ∀ (m k i : Nat), c.L.length - i = m → m < k → Yl K k (i : Int) g c = some true := by
 have hl := hc.len hg
 intro m
 induction m with
 | zero =>
  intro k i hm hk
  obtain ⟨k, rfl⟩ := Qoe k (by omega)
  rw [Yl]
  dsimp only
  rw [Qkx (by omega), cF]
 | succ m ih =>
  intro k i hm hk
  obtain ⟨k, rfl⟩ := Qoe k (by omega)
  have hi : i < c.L.length := by omega
  have hh := hc.held _ (Qkz hi)
  have hN := hh.len hg
  have hp0 := hh.p0
  have hp1 := hh.p1
  have hne := hh.ne
  have hl5 := fun a a1 a2 a3 a4 a5 a6 a7 a8 a9 => right10_l5 K hg hh (Yl K k) i (by omega) a a1 a2 a3 a4 a5 a6 a7 a8 a9 c c.L[i].N.length K 0 rfl (by omega)
  rw [Qk6] at hl5
  rw [Yl]
  dsimp only
  rw [Qk1 (by omega), cT, Q3 hi, bS, Qkx (by omega), cF, Qkx (by omega), cF, Qlf.2 (by omega), cF]
  simp only [J2, hl5, ih k (i + 1) (by omega) (by omega)]
  by_cases e : i = 0
  ·rw [Qkx (by omega), cF]
  ·have hi' : i - 1 < c.L.length := by omega
   have hh' := hc.held _ (Qkz hi')
   have hp0' := hh'.p0
   have hp := Qml.1 hc.rise (i - 1) i (by rw [Qk2]; omega) (by rw [Qk2]; exact hi) (by omega)
   rw [Qlw, Qlw] at hp
   rw [Qk1 (by omega), cT, w64 (by omega) (by omega), show (i : Int) - 1 = ((i - 1 : Nat) : Int) by omega, Q3 hi', bS, Qkx (by omega)]
   rfl
theorem right10 {K : Nat} {g : Qj} (hg : GQ g) (ho : OkG g) (hK : Qat g ≤ K) {c : Qt} (hc : COk g c) : Wi K g c = some true := by
 have hK' := hK
 rw [Qat] at hK'
 have hr : Vk K g = some true := by
  rcases right9 ho hK with h1 | h1
  ·exact h1.2
  ·exact absurd hg h1.1
 have h := right10_l2 K (by omega) hg hc c.L.length K 0 rfl (by have := hc.len hg; omega)
 rw [Qk6] at h
 rw [Wi, hr, bS, Qly, cF, J3, h]
 cases hb : c.Begin with
 | true => rw [cT, hc.beg hb]; rfl
 | false => rfl
theorem Step10 {K : Nat} {g : Qj} (hg : GQ g) (ho : OkG g) (hK : Qat g ≤ K) {c : Qt} (hc : COk g c) {b : Nat} (hb : b < 256) : L5 K g c (b : Int) = some ⟨false, Qc8 g c b⟩ := by
 rw [L5, right10 hg ho hK hc, bS, Qly, cF, step10 (by rw [Qat] at hK; omega) hg ho hc hb, bS]
theorem Rule10 {K : Nat} {g : Qj} (hg : GQ g) (ho : OkG g) (hK : Qat g ≤ K) {c : Qt} (hc : COk g c) : L6 K g c = some (ruleC g c.L) := by
 rw [L6, right10 hg ho hK hc, bS, Qly, cF, rule10 (by rw [Qat] at hK; omega) hg hc, bS]
end Go.Rv
namespace Go.Rv
def headN (h : Zg) : Int := h.N.getD 0 0
def dgH (g : Qj) (h : Zg) : Nat := if lastN h < (plP g (hq h)).Lo then 0 else if headN h < (plP g (hq h)).Hi then 2 else 1
def Qef (g : Qj) : List Zg → Nat
 | [] => 0
 | h :: t => if (plP g (hq h)).Hi < 2 then Qef g t else dgH g h + 3 * Qef g t
def cnN (g : Qj) : List Zg → Nat
 | [] => 0
 | h :: t => if (plP g (hq h)).Hi < 2 then cnN g t else cnN g t + 1
theorem dgH_lt (g : Qj) (h : Zg) : dgH g h ≤ 2 := by
 rw [dgH]
 split
 ·omega
 ·split <;> omega
theorem codH_lt (g : Qj) : ∀ L : List Zg, Qef g L < 3 ^ cnN g L
 | [] => by rw [Qef, cnN]; decide
 | h :: t => by
  have h1 := codH_lt g t
  have h2 := dgH_lt g h
  rw [Qef, cnN]
  split
  ·exact h1
  ·rw [Nat.pow_succ]; omega
theorem head_ok {g : Qj} {h : Zg} (hh : HOk g h) : Ys h.N 0 = some (headN h) := Qed 0 hh.ne
theorem code_l0 (K : Nat) {g : Qj} (hg : GQ g) {c : Qt} (hc : COk g c) : ∀ (m k i n w : Nat), c.L.length - i = m → m < k → n ≤ w → 1 ≤ w → w * 3 ^ cnN g (c.L.drop i) ≤ 27 → Yg K k (n : Int) (w : Int) c (c.L.length : Int) (i : Int) g = some ((n + w * Qef g (c.L.drop i) : Nat) : Int) := by
 have hl := hc.len hg
 intro m
 induction m with
 | zero =>
  intro k i n w hm hk h1 h2 h3
  obtain ⟨k, rfl⟩ := Qoe k (by omega)
  rw [Yg]
  dsimp only
  rw [Qkx (by omega), cF, Qlb (by omega), Qef, Nat.mul_zero, Qmw]
 | succ m ih =>
  intro k i n w hm hk h1 h2 h3
  obtain ⟨k, rfl⟩ := Qoe k (by omega)
  have hi : i < c.L.length := by omega
  have hh := hc.held _ (Qkz hi)
  rw [Qk4 hi, cnN] at h3
  rw [Yg]
  dsimp only
  rw [Qk1 (by omega), cT, Q3 hi, bS, Qhg hh, bS, Mf (n := i) (by omega), Qk4 hi, Qef]
  by_cases h : (plP g (hq c.L[i])).Hi < 2
  ·rw [if_pos h] at h3
   rw [Qk1 h, cT, if_pos h, ih k (i + 1) n w (by omega) (by omega) h1 h2 h3]
  ·rw [if_neg h, Nat.pow_succ, Qnk (3 ^ _) 3, ← Nat.mul_assoc] at h3
   have hw : w * 3 ≤ 27 := Nat.le_trans (Nat.le_mul_of_pos_right _ (Nat.pow_pos (by decide))) h3
   have hw3 : IntKind.i64.wrap ((w : Int) * 3) = ((w * 3 : Nat) : Int) := by rw [w64 (by omega) (by omega)]; omega
   have hih := fun n' h1' => ih k (i + 1) n' (w * 3) (by omega) (by omega) h1' (by omega) h3
   have e2 : IntKind.i64.wrap ((n : Int) + IntKind.i64.wrap (2 * (w : Int))) = ((n + 2 * w : Nat) : Int) := by rw [w64 (n := 2 * (w : Int)) (by omega) (by omega), w64 (by omega) (by omega)]; omega
   have e1 : IntKind.i64.wrap ((n : Int) + (w : Int)) = ((n + w : Nat) : Int) := by rw [w64 (by omega) (by omega)]; omega
   have hi2 := Mf (n := i) (by omega)
   rw [Qkx h, cF, last_ok hg hh, bS, if_neg h, head_ok hh, bS, dgH]
   simp only [Jg, hw3, hi2, e1, e2]
   by_cases a1 : lastN c.L[i] < (plP g (hq c.L[i])).Lo
   ·rw [Qk1 a1, cT, if_pos a1, hih n (by omega)]
    congr 2
    rw [Qls, Nat.mul_assoc]
   ·rw [Qkx a1, cF, if_neg a1]
    by_cases a2 : headN c.L[i] < (plP g (hq c.L[i])).Hi
    ·rw [Qk1 a2, cT, if_pos a2, hih _ (by omega)]
     congr 2
     rw [Nat.mul_add, Nat.mul_assoc, Qnk 2 w, Qm5]
    ·rw [Qkx a2, cF, if_neg a2, hih _ (by omega)]
     congr 2
     rw [Nat.mul_add, Nat.mul_assoc, Qmg, Qm5]
theorem code12 {K : Nat} (hK : 100000 ≤ K) {g : Qj} (hg : GQ g) {c : Qt} (hc : COk g c) (h3 : cnN g c.L ≤ 3) : L8 K g c = some ((Qef g c.L : Nat) : Int) := by
 have h := code_l0 K hg hc c.L.length K 0 0 1 rfl (by have := hc.len hg; omega) (by omega) (by omega) (by
  rw [Qlj, Nat.one_mul]
  exact Nat.pow_le_pow_right (by decide) h3)
 rw [Qk6, Qlj, Qls, Nat.one_mul] at h
 exact h
theorem num_of {g : Qj} {h : Zg} (hh : HOk g h) : ((plP g (hq h)).Hi < 2 ∧ (M6 g.P 0).getD (hq h) 0 = -1) ∨ (¬ (plP g (hq h)).Hi < 2 ∧ 0 ≤ (M6 g.P 0).getD (hq h) 0) := by
 rw [Qhh hh.p1]
 rcases Qju g.P 0 (hq h) hh.p1 with ⟨h1, h2⟩ | ⟨h1, j, h2, _⟩
 ·exact .inl ⟨by omega, h2⟩
 ·exact .inr ⟨by omega, by omega⟩
theorem regL_cons {num : List Int} {q : Nat} {l : List Nat} : S7 num (q :: l) = if 0 ≤ num.getD q 0 then num.getD q 0 :: S7 num l else S7 num l := by
 by_cases h : 0 ≤ num.getD q 0
 ·rw [if_pos h, S7, Qmo, Qk1 h, if_pos rfl, Qlk]; rfl
 ·rw [if_neg h, S7, Qmo, Qkx h, if_neg (by decide)]; rfl
theorem cn_reg {g : Qj} : ∀ (L : List Zg), (∀ h ∈ L, HOk g h) → (S7 (M6 g.P 0) (L.map hq)).length = cnN g L
 | [], _ => rfl
 | h :: t, hL => by
  have ih := cn_reg t fun x hx => hL x (Qld _ hx)
  rw [Qlk, regL_cons, cnN]
  rcases num_of (hL h Qlg) with ⟨h1, h2⟩ | ⟨h1, h2⟩
  ·rw [if_pos h1, if_neg (by omega), ih]
  ·rw [if_neg h1, if_pos h2, Qle, ih]
theorem digF_no : ∀ (R : List Int) (n : Int) (c : Nat), n ∉ R → digF R n c = -1
 | [], _, _, _ => rfl
 | r :: R, n, c, h => by
  rw [digF, if_neg (fun e => h (by rw [e]; exact Qlg)), digF_no R n (c / 3) fun h' => h (Qld _ h')]
theorem dig_of {g : Qj} : ∀ (L : List Zg), (∀ h ∈ L, HOk g h) → (L.map hq).Pairwise (· < ·) → ∀ h ∈ L, ¬ (plP g (hq h)).Hi < 2 → digF (S7 (M6 g.P 0) (L.map hq)) ((M6 g.P 0).getD (hq h) 0) (Qef g L) = (dgH g h : Int)
 | x :: L, hL, hp, h, hm, hc => by
  rw [Qlk, List.pairwise_cons] at hp
  have hL' : ∀ y ∈ L, HOk g y := fun y hy => hL y (Qld _ hy)
  rw [Qlk, regL_cons, Qef]
  rcases num_of (hL x Qlg) with ⟨h1, h2⟩ | ⟨h1, h2⟩
  ·rw [if_pos h1, if_neg (by omega)]
   rcases Ql8.1 hm with rfl | hm
   ·exact absurd h1 hc
   ·exact dig_of L hL' hp.2 h hm hc
  ·have hd := dgH_lt g x
   rw [if_neg h1, if_pos h2, digF]
   rcases Ql8.1 hm with rfl | hm
   ·rw [if_pos rfl]; omega
   ·have hlt := hp.1 _ (Qmf hm)
    have hn : 0 ≤ (M6 g.P 0).getD (hq h) 0 := by
     rcases num_of (hL' h hm) with h3 | h3
     ·exact absurd h3.1 hc
     ·exact h3.2
    have := Qhi g.P 0 (hq x) (hq h) hlt (hL' h hm).p1 h2 hn
    rw [if_neg (by omega), show (dgH g x + 3 * Qef g L) / 3 = Qef g L by omega]
    exact dig_of L hL' hp.2 h hm hc
theorem HOk.head {g : Qj} {h : Zg} (hh : HOk g h) : headN h ∈ h.N ∧ lastN h ∈ h.N ∧ (∀ n ∈ h.N, headN h ≤ n) := by
 have hne := hh.ne
 have e1 : headN h = h.N[0] := Q4 hne
 have e2 : lastN h = h.N[h.N.length - 1] := Q4 (by omega)
 refine ⟨by rw [e1]; exact Qkz _, by rw [e2]; exact Qkz _, fun n hn => ?_⟩
 obtain ⟨i, hi, rfl⟩ := Qlr hn
 rw [e1]
 by_cases e : i = 0
 ·subst e; exact Int.le_refl _
 ·have := Qml.1 hh.pw 0 i hne hi (by omega)
  omega
theorem dig_un {g : Qj} {L : List Zg} (hL : ∀ h ∈ L, HOk g h) {h : Zg} (hm : h ∈ L) (h1 : (plP g (hq h)).Hi < 2) : digF (S7 (M6 g.P 0) (L.map hq)) ((M6 g.P 0).getD (hq h) 0) (Qef g L) = -1 := by
 rcases num_of (hL h hm) with h2 | h2
 ·rw [h2.2]
  refine digF_no _ _ _ fun hx => ?_
  obtain ⟨q, _, h3, h4⟩ := regL_mem.1 hx
  omega
 ·exact absurd h1 h2.1
theorem ripe_eq {g : Qj} (hg : GQ g) {L : List Zg} (hL : ∀ h ∈ L, HOk g h) (hp : (L.map hq).Pairwise (· < ·)) {h : Zg} (hm : h ∈ L) : ripeF (M6 g.P 0) (S7 (M6 g.P 0) (L.map hq)) (Qef g L) (hq h) = ripeH g h := by
 have hh := hL h hm
 obtain ⟨a1, a2, a3⟩ := hh.head
 obtain ⟨p1, p2, _⟩ := hg.at hh.p1
 rw [ripeF, ripeH]
 by_cases hc : (plP g (hq h)).Hi < 2
 ·have := hh.lo _ a2
  rw [dig_un hL hm hc, Qk1 (by omega)]; rfl
 ·rw [dig_of L hL hp h hm hc, dgH]
  by_cases h1 : lastN h < (plP g (hq h)).Lo
  ·rw [if_pos h1, Qkx (by omega)]; rfl
  ·rw [if_neg h1, Qk1 (by omega)]
   split <;> rfl
theorem stay_eq {g : Qj} (hg : GQ g) {L : List Zg} (hL : ∀ h ∈ L, HOk g h) (hp : (L.map hq).Pairwise (· < ·)) (q : Nat) : stayF (M6 g.P 0) (L.map hq) (S7 (M6 g.P 0) (L.map hq)) (Qef g L) q = decide (If g q L ≠ []) := by
 rw [stayF]
 by_cases hm : q ∈ L.map hq
 ·obtain ⟨h, hm', rfl⟩ := Qll.1 hm
  have hh := hL h hm'
  obtain ⟨a1, a2, a3⟩ := hh.head
  obtain ⟨p1, p2, _⟩ := hg.at hh.p1
  have l1 := hh.lo _ a1
  have l2 := hh.lo _ a2
  have a4 := a3 _ a2
  have hne : If g (hq h) L ≠ [] ↔ headN h < (plP g (hq h)).Hi := by
   rw [Qjr hp h hm' rfl, stayN, Ne, Qn7, List.filter_eq_nil_iff]
   constructor
   ·intro hx
    refine Int.not_le.1 fun hle => hx fun n hn => ?_
    have := a3 n hn
    rw [Qme]; omega
   ·intro hx hy
    exact hy _ a1 (Qk1 hx)
  rw [Qk1 hm, Qlh]
  by_cases hc : (plP g (hq h)).Hi < 2
  ·rw [dig_un hL hm' hc, Qkx (fun hx => by have := hne.1 hx; omega)]; rfl
  ·rw [dig_of L hL hp h hm' hc, dgH]
   by_cases h1 : lastN h < (plP g (hq h)).Lo
   ·rw [if_pos h1, Qk1 (hne.2 (by omega))]; rfl
   ·rw [if_neg h1]
    by_cases h2 : headN h < (plP g (hq h)).Hi
    ·rw [if_pos h2, Qk1 (hne.2 h2)]; rfl
    ·rw [if_neg h2, Qkx (fun hx => h2 (hne.1 hx))]; rfl
 ·rw [Qkx hm, Qm6, Qkx]
  rw [Classical.not_not]
  exact Qc9 fun h hh e => hm (by rw [← e]; exact Qmf hh)
theorem rule_eq {g : Qj} (hg : GQ g) {L : List Zg} (hL : ∀ h ∈ L, HOk g h) (hp : (L.map hq).Pairwise (· < ·)) : ruleF g (M6 g.P 0) (L.map hq) (S7 (M6 g.P 0) (L.map hq)) (Qef g L) = ruleC g L := by
 rw [ruleF, ruleC, List.foldl_map]
 have : ∀ (M : List Zg) (r : Int), (∀ h ∈ M, h ∈ L) → M.foldl (fun r h => Rk g (M6 g.P 0) (S7 (M6 g.P 0) (L.map hq)) (Qef g L) r (hq h)) r = M.foldl (Qdh g) r := by
  intro M
  induction M with
  | nil => intro r _; rfl
  | cons h t ih =>
   intro r hM
   rw [Ql1, Ql1, ih _ fun x hx => hM x (Qld _ hx), Rk, Qdh, ripe_eq hg hL hp (hM h Qlg)]
 exact this L (-1) fun _ h => h
end Go.Rv
namespace Go.Rv
theorem ent_eq {g : Qj} (hg : GQ g) {c : Qt} (hc : COk g c) {i : Nat} (hb : c.Begin = (i == 0)) (q : Nat) : entF g (M6 g.P 0) (i == 0) (c.L.map hq) (S7 (M6 g.P 0) (c.L.map hq)) (Qef g c.L) q = entC g c q := by
 rw [entF, entC, hb]
 by_cases h : (i == 0) = true
 ·rw [if_pos h, if_pos h]
 ·rw [if_neg h, if_neg h, Qnw, Qm3, Qm3]
  constructor
  ·rintro ⟨p, hp, h2⟩
   obtain ⟨x, hx, rfl⟩ := Qll.1 hp
   rw [ripe_eq hg hc.held hc.rise hx] at h2
   exact ⟨x, hx, h2⟩
  ·rintro ⟨x, hx, h2⟩
   refine ⟨hq x, Qmf hx, ?_⟩
   rw [ripe_eq hg hc.held hc.rise hx]
   exact h2
theorem new_iff (g : Qj) (c : Qt) (q : Nat) : decide (Qjv g c q ≠ []) = (entC g c q || decide (If g q c.L ≠ [])) := by
 rw [Qjv]
 cases entC g c q with
 | true => rw [if_pos rfl, Bool.true_or]; exact Qk1 (by simp)
 | false => rw [if_neg (by decide), Qlc, Qm4]
theorem map_filter {p : Nat → Bool} {f : Nat → Option Zg} : ∀ l : List Nat, (∀ q ∈ l, (p q = true → ∃ h, f q = some h ∧ hq h = q) ∧ (p q = false → f q = none)) → (l.filterMap f).map hq = l.filter p
 | [], _ => rfl
 | q :: l, h => by
  have ih := map_filter l fun x hx => h x (Qld _ hx)
  obtain ⟨h1, h2⟩ := h q Qlg
  cases hp : p q with
  | true =>
   obtain ⟨x, e1, e2⟩ := h1 hp
   rw [List.filterMap_cons_some e1, Qlk, ih, e2, List.filter_cons_of_pos hp]
  | false => rw [List.filterMap_cons_none (h2 hp), ih, List.filter_cons_of_neg (by rw [hp]; decide)]
theorem newN_ok {g : Qj} (hg : GQ g) {c : Qt} (hc : COk g c) {q : Nat} (hq' : q < g.P.length) : (Qjv g c q).Pairwise (· < ·) ∧ ∀ n ∈ Qjv g c q, 1 ≤ n ∧ n ≤ (plP g q).Hi := by
 obtain ⟨p1, p2, _⟩ := hg.at hq'
 have hs : (If g q c.L).Pairwise (· < ·) ∧ ∀ n ∈ If g q c.L, 2 ≤ n ∧ n ≤ (plP g q).Hi := by
  by_cases h : ∃ h ∈ c.L, hq h = q
  ·obtain ⟨h, h1, h2⟩ := h
   have hh := hc.held h h1
   rw [Qjr hc.rise h h1 h2, stayN]
   refine ⟨?_, fun n hn => ?_⟩
   ·rw [List.pairwise_map]
    exact (List.Pairwise.filter _ hh.pw).imp fun h => by omega
   ·obtain ⟨m, hm, rfl⟩ := Qll.1 hn
    obtain ⟨h3, h4⟩ := Qnh.1 hm
    have := hh.lo m h3
    have := of_decide_eq_true h4
    omega
  ·rw [Qc9 fun x hx e => h ⟨x, hx, e⟩]
   exact ⟨List.Pairwise.nil, fun n hn => nomatch hn⟩
 rw [Qjv]
 by_cases he : entC g c q = true
 ·rw [if_pos he]
  refine ⟨List.pairwise_append.2 ⟨List.pairwise_singleton _ _, hs.1, fun x hx y hy => ?_⟩, fun n hn => ?_⟩
  ·have := Qk8.1 hx
   have := hs.2 y hy
   omega
  ·rcases Qk3.1 hn with h | h
   ·have := Qk8.1 h; omega
   ·have := hs.2 n h; omega
 ·rw [if_neg he, Qlc]
  exact ⟨hs.1, fun n hn => by have := hs.2 n hn; omega⟩
theorem held_of {g : Qj} {c : Qt} {b : Nat} {h : Zg} (hm : h ∈ Qc8 g c b) : ∃ q, q < g.P.length ∧ Qjv g c q ≠ [] ∧ h = ⟨(q : Int), Qjv g c q⟩ := by
 obtain ⟨q, hq1, hq2⟩ := List.mem_filterMap.1 hm
 rw [Qhp] at hq2
 by_cases e : (hasP g q b && decide (Qjv g c q ≠ [])) = true
 ·rw [if_pos e] at hq2
  exact ⟨q, Ql5.1 hq1, of_decide_eq_true (Bool.and_eq_true_iff.1 e).2, (Option.some.inj hq2).symm⟩
 ·rw [if_neg e] at hq2; cases hq2
theorem step_map (g : Qj) (c : Qt) (b : Nat) : (Qc8 g c b).map hq = (List.range g.P.length).filter fun q => hasP g q b && (entC g c q || decide (If g q c.L ≠ [])) := by
 refine map_filter _ fun q _ => ⟨fun h => ?_, fun h => ?_⟩
 ·rw [← new_iff] at h
  exact ⟨⟨(q : Int), Qjv g c q⟩, by rw [Qhp, if_pos h], Qk5 q⟩
 ·rw [← new_iff] at h
  rw [Qhp, h, if_neg (by decide)]
theorem step_ok {g : Qj} (hg : GQ g) {c : Qt} (hc : COk g c) (b : Nat) : COk g ⟨false, Qc8 g c b⟩ := by
 refine ⟨fun h hm => ?_, ?_, fun h => nomatch h⟩
 ·obtain ⟨q, h1, h2, rfl⟩ := held_of hm
  obtain ⟨n1, n2⟩ := newN_ok hg hc h1
  have e : hq ⟨(q : Int), Qjv g c q⟩ = q := Qk5 q
  exact ⟨by rw [e], by rw [e]; exact h1, List.length_pos_iff.2 h2, by rw [e]; exact n2, n1⟩
 ·show ((Qc8 g c b).map hq).Pairwise _
  rw [step_map]
  exact List.Pairwise.filter _ List.pairwise_lt_range
structure HasS (g : Qj) (S : List Qa) (i : Nat) (c : Qt) : Prop where
 ok : COk g c
 lt : i < S.length
 l : Lof S i = c.L.map hq
 b : c.Begin = (i == 0)
theorem cod_pow {n : Nat} (h : n ≤ 3) : Qii n = 3 ^ n := by
 have : n = 0 ∨ n = 1 ∨ n = 2 ∨ n = 3 := by omega
 rcases this with rfl | rfl | rfl | rfl <;> decide
theorem HasS.reg {g : Qj} {a : Qq} {F : List Nat} (h : Na g a F) {i : Nat} {c : Qt} (ht : HasS g a.States i c) : (stA a.States i).R = S7 (M6 g.P 0) (c.L.map hq) ∧ cnN g c.L ≤ 3 ∧ Qef g c.L < Qii (stA a.States i).R.length := by
 have hst := h.si.st i ht.lt
 have e : (stA a.States i).R = S7 (M6 g.P 0) (c.L.map hq) := by rw [hst.r, ht.l]
 have hr := hst.r3
 have hn := cn_reg c.L ht.ok.held
 have hlt := codH_lt g c.L
 rw [e, hn] at hr
 refine ⟨e, hr, ?_⟩
 rw [e, hn, cod_pow hr]; exact hlt
theorem HasS.rule {g : Qj} {a : Qq} {F : List Nat} (hg : GQ g) (h : Na g a F) {i : Nat} {c : Qt} (ht : HasS g a.States i c) : (stA a.States i).Rule.length = Qii (stA a.States i).R.length ∧ Ys (stA a.States i).Rule (Qef g c.L : Int) = some (ruleC g c.L) := by
 obtain ⟨e, _, h2⟩ := ht.reg h
 have hc := (h.si.done i ht.lt).rule
 have hl : (stA a.States i).Rule.length = Qii (stA a.States i).R.length := by rw [hc, Qk2, Qlq]
 refine ⟨hl, ?_⟩
 rw [Q3 (by omega)]
 simp only [hc, Qlw, Qnv]
 rw [e, ht.l, rule_eq hg ht.ok.held ht.ok.rise]
theorem HasS.step {g : Qj} {a : Qq} {F : List Nat} (hg : GQ g) (h : Na g a F) {i : Nat} {c : Qt} (ht : HasS g a.States i c) {b : Nat} (hb : b < 256) : ∃ k, k < F.length ∧ a.Split.Of.f b = (k : Int) ∧ (((((stA a.States i).Next.getD (Qef g c.L) []).getD k ⟨0, []⟩).To = -1 ∧ Qc8 g c b = []) ∨ (1 ≤ (((stA a.States i).Next.getD (Qef g c.L) []).getD k ⟨0, []⟩).To ∧ HasS g a.States (((stA a.States i).Next.getD (Qef g c.L) []).getD k ⟨0, []⟩).To.toNat ⟨false, Qc8 g c b⟩)) := by
 obtain ⟨k, h1, h2, h3, _⟩ := h.sp.cls b hb
 obtain ⟨e, _, hlt⟩ := ht.reg h
 have hgo : goT g (M6 g.P 0) F a.States i (Qef g c.L) k = (Qc8 g c b).map hq := by
  rw [goT, goL, step_map]
  refine List.filter_congr fun q hq' => ?_
  have hql := Ql5.1 hq'
  have hh : hasP g q (F.getD k 0) = hasP g q b := by
   rw [hasP, hasP, Qhh hql]
   exact alkB_iff.1 h3 _ (Qmf (Qkz hql))
  rw [goesB, hh, e, ht.l, ent_eq hg ht.ok ht.b, stay_eq hg ht.ok.held ht.ok.rise]
 refine ⟨k, h1, h2, ?_⟩
 rcases (h.si.done i ht.lt).mv (Qef g c.L) hlt k h1 with ⟨g1, g2⟩ | ⟨g1, g2, g3, g4, _⟩
 ·rw [g2]
  rw [hgo, Qn7] at g1
  exact .inl ⟨rfl, g1⟩
 ·refine .inr ⟨g2, step_ok hg ht.ok b, by omega, ?_, ?_⟩
  ·rw [Lof, g4, Qh7, hgo]
  ·exact (Qlf.2 (by omega)).symm
theorem HasS.zero {g : Qj} {a : Qq} {F : List Nat} (h : Na g a F) : HasS g a.States 0 ⟨true, []⟩ :=
 ⟨⟨(fun _ hx => nomatch hx), List.Pairwise.nil, fun _ => rfl⟩, h.si.n1, (h.si.st 0 h.si.n1).z rfl, rfl⟩
theorem dead_ok (g : Qj) : COk g ⟨false, []⟩ := ⟨(fun _ hx => nomatch hx), List.Pairwise.nil, fun _ => rfl⟩
theorem dead_step (g : Qj) (b : Nat) : Qc8 g ⟨false, []⟩ b = [] := by
 have h := step_map g ⟨false, []⟩ b
 have e : ((List.range g.P.length).filter fun q => hasP g q b && (entC g ⟨false, []⟩ q || decide (If g q [] ≠ []))) = [] := by
  rw [List.filter_eq_nil_iff]
  intro q _
  rw [entC, if_neg (by decide), List.any_nil, If, List.flatMap_nil, Qm4]
  simp
 rw [e, Qn7] at h
 exact h
end Go.Rv
