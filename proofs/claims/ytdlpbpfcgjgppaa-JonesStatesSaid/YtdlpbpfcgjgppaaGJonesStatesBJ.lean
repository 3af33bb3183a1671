/- Facts and contracts that the claim uses. No condition of its own. -/
import Derived.Test.YtdlpbpfcgjgppaaGJonesStatesBH
import Derived.Test.YtdlpbpfcgjgppaaGJonesStatesBG
import Derived.Test.YtdlpbpfcgjgppaaGJonesStatesBI
import Derived.Test.YtdlpbpfcgjgppaaGJonesStatesAZ
import Derived.Test.YtdlpbpfcgjgppaaGJonesStatesBA
set_option linter.unusedVariables false
set_option linter.unusedSimpArgs false
namespace Go.Proofs.Ytdlpbpfcgjgppaa
theorem ex_wg {n : Nat} : ∀ (m : Nat) (g : Lns) (p : Nat), tdeg g n ≤ m → Gr n g → p < n → ∃ g' e, Wg g p g' e
  | m, g, p, hm, hg, hp => by
    cases e : g p with
    | nil => exact ⟨g, p, .stop e⟩
    | cons q r =>
      have := tdeg_cut hg hp e
      obtain ⟨h1, h2, _, _⟩ := hg.cut hp e
      cases m with
      | zero => omega
      | succ m =>
        obtain ⟨g', e', hw⟩ := ex_wg m (cutG g p q) q (by omega) h1 h2
        exact ⟨g', e', .step e hw⟩
theorem ex_lp {n : Nat} : ∀ (d p : Nat) (g : Lns), p + d = n → Gr n g → ∃ c, Lp n p g c
  | 0, p, g, hp, hg => by
    obtain rfl : p = n := by omega
    exact ⟨0, .done⟩
  | d + 1, p, g, hp, hg => by
    by_cases e : g p = []
    · obtain ⟨c, h⟩ := ex_lp d (p + 1) g (by omega) hg
      exact ⟨c, .skip (by omega) e h⟩
    · obtain ⟨g', e', hw⟩ := ex_wg _ g p (Nat.le_refl _) hg (by omega)
      obtain ⟨c, h⟩ := ex_lp d (p + 1) g' (by omega) (hw.base hg (by omega)).1
      exact ⟨c + 1, .take (by omega) e hw h⟩
theorem ex_ph {n : Nat} : ∀ (d p : Nat) (g : Lns) (o : Nat → Nat), p + d = 3 * n → Gr (3 * n) g → ∃ g' o', Ph n p g o g' o' ∧ Gr (3 * n) g'
  | 0, p, g, o, hp, hg => by
    obtain rfl : p = 3 * n := by omega
    exact ⟨g, o, .done, hg⟩
  | d + 1, p, g, o, hp, hg => by
    by_cases e : isO n p ∧ g p ≠ []
    · obtain ⟨g1, e1, hw⟩ := ex_wg _ g p (Nat.le_refl _) hg (by omega)
      obtain ⟨g', o', h, h2⟩ := ex_ph d (p + 1) g1 (ov2 (ov2 o (ptN n p) (ptN n e1)) (ptN n e1) (ptN n p)) (by omega) (hw.base hg (by omega)).1
      exact ⟨g', o', .take (by omega) e.1 e.2 hw h, h2⟩
    · obtain ⟨g', o', h, h2⟩ := ex_ph d (p + 1) g o (by omega) hg
      exact ⟨g', o', .skip (by omega) e h, h2⟩
theorem put_fix {n : Nat} {a b : Nat → Nat} (ha : Mt n a) (hb : Mt n b) {r : Nat → Nat} (hrd : r = joinA id (prsP n a b)) : ∃ (o : Nat → Nat) (c : Nat),
    (∀ g' o' c', Ph n 0 (gPut n a b (2 * n)) (fun _ => 0) g' o' → Lp (3 * n) 0 g' c' → (∀ i, i < 2 * n → o' i = o i) ∧ c' = c) ∧
    (∀ i, i < 2 * n → o i < 2 * n ∧ o i ≠ i ∧ r (outN n i) = r (outN n (o i)) ∧ ∀ k', k' < 2 * n → k' ≠ i → r (outN n i) = r (outN n k') → k' = o i) ∧ sN (fun x => ind (r x = x)) (3 * n) = n + c := by
  have hrr : ∀ x, x < 3 * n → r x < 3 * n ∧ r (r x) = r x := by
    rw [hrd]
    refine joinA_ok _ _ (fun x hx => ⟨hx, rfl⟩) (fun p hp => ?_)
    rcases List.mem_append.1 hp with hp | hp
    · obtain ⟨i, hi, rfl⟩ := List.mem_map.1 hp
      have hi := List.mem_range.1 hi
      have := ha.lt i hi
      exact ⟨by simp only; omega, by simp only; omega⟩
    · obtain ⟨i, hi, rfl⟩ := List.mem_map.1 hp
      have hi := List.mem_range.1 hi
      have := hb.lt i hi
      exact ⟨by simp only; omega, by simp only; omega⟩
  obtain ⟨g0, o0, hP, hg0⟩ := ex_ph (3 * n) 0 (gPut n a b (2 * n)) (fun _ => 0) (by omega) (gPut_gr ha hb)
  obtain ⟨c0, hL⟩ := ex_lp (3 * n) 0 g0 (by omega) hg0
  obtain ⟨l1, l2⟩ := put_law ha hb hrd hrr hP hL
  have key : ∀ i, i < 2 * n → o0 i < 2 * n ∧ o0 i ≠ i ∧ r (outN n i) = r (outN n (o0 i)) ∧ ∀ k', k' < 2 * n → k' ≠ i → r (outN n i) = r (outN n k') → k' = o0 i := fun i hi => by
    obtain ⟨k, q1, q2, q3, q4, q5⟩ := l1 i hi
    rw [q2]
    exact ⟨q1, q3, q4, q5⟩
  refine ⟨o0, c0, fun g' o' c' hP' hL' => ?_, key, l2⟩
  obtain ⟨m1, m2⟩ := put_law ha hb hrd hrr hP' hL'
  refine ⟨fun i hi => ?_, by omega⟩
  obtain ⟨k, q1, q2, q3, q4, q5⟩ := m1 i hi
  rw [q2]
  exact (key i hi).2.2.2 k q1 q3 q4
theorem close_fix {n : Nat} {d : Nat → Nat} (h : Mt n d) {r : Nat → Nat} (hrd : r = joinA id (prsC n d)) : ∀ c', Lp (2 * n) 0 (gCls n d (2 * n)) c' → c' = sN (fun x => ind (r x = x)) (2 * n) := fun c' hL => by
  have hrr : ∀ x, x < 2 * n → r x < 2 * n ∧ r (r x) = r x := by
    rw [hrd]
    refine joinA_ok _ _ (fun x hx => ⟨hx, rfl⟩) (fun p hp => ?_)
    obtain ⟨i, hi, hp⟩ := List.mem_flatMap.1 hp
    have hi := List.mem_range.1 hi
    have h1 := h.lt i hi
    have h2 := (opp_mt n).lt i hi
    simp only [List.mem_cons, List.not_mem_nil, or_false] at hp
    rcases hp with rfl | rfl
    · exact ⟨hi, h1⟩
    · exact ⟨hi, h2⟩
  exact (close_law h hrd hrr hL).symm
end Go.Proofs.Ytdlpbpfcgjgppaa

/- Facts and contracts that the claim uses. No condition of its own. -/
set_option linter.unusedVariables false
set_option linter.unusedSimpArgs false
namespace Go.Proofs.Ytdlpbpfcgjgppaa
def dlt : LP := LP.mono (-1) (-2) + LP.mono (-1) 2
noncomputable def dpow : Nat → LP
  | 0 => 1
  | k + 1 => dpow k * dlt
theorem dpow_add (a : Nat) : ∀ b, dpow (a + b) = dpow a * dpow b
  | 0 => (LP.mul_one _).symm
  | b + 1 => by show dpow (a + b) * dlt = dpow a * (dpow b * dlt); rw [dpow_add a b, LP.mul_assoc]
def fnL (D : List Int) : Nat → Nat := fun i => (D.getD i 0).toNat
theorem fnL_tab {N : Nat} {f : Nat → Nat} {i : Nat} (h : i < N) : fnL (tabN N f) i = f i := by
  unfold fnL
  rw [tabN_get h]; rfl
theorem Mt.congr {n : Nat} {a b : Nat → Nat} (h : Mt n a) (e : ∀ i, i < 2 * n → b i = a i) : Mt n b :=
  ⟨fun i hi => by rw [e i hi]; exact h.lt i hi, fun i hi => by rw [e i hi]; exact h.ne i hi, fun i hi => by rw [e i hi, e _ (h.lt i hi)]; exact h.inv i hi⟩
theorem Stk.congr {n m c : Nat} {f : Nat → Nat → Nat} {o o' : Nat → Nat} (h : Stk n m f o c) (e : ∀ i, i < 2 * n → o' i = o i) : Stk n m f o' c :=
  ⟨h.mt.congr e, fun i hi => by rw [e i hi]; exact h.key i hi, h.cnt⟩
noncomputable def putD (n : Nat) (D : List Int) (b : Nat → Nat) : List Int × Nat :=
  @dite _ (Mt n (fnL D) ∧ Mt n b) (Classical.propDecidable _) (fun h => (tabN (2 * n) (Classical.choose (put_fix h.1 h.2 rfl)), Classical.choose (Classical.choose_spec (put_fix h.1 h.2 rfl)))) (fun _ => ([], 0))
theorem putD_spec {n : Nat} {D : List Int} {b : Nat → Nat} (ha : Mt n (fnL D)) (hb : Mt n b) : ∃ (o : Nat → Nat) (c : Nat), putD n D b = (tabN (2 * n) o, c) ∧
    (∀ g' o' c', Ph n 0 (gPut n (fnL D) b (2 * n)) (fun _ => 0) g' o' → Lp (3 * n) 0 g' c' → (∀ i, i < 2 * n → o' i = o i) ∧ c' = c) ∧
    (∀ i, i < 2 * n → o i < 2 * n ∧ o i ≠ i ∧ joinA id (prsP n (fnL D) b) (outN n i) = joinA id (prsP n (fnL D) b) (outN n (o i)) ∧ ∀ k', k' < 2 * n → k' ≠ i → joinA id (prsP n (fnL D) b) (outN n i) = joinA id (prsP n (fnL D) b) (outN n k') → k' = o i) ∧
    sN (fun x => ind (joinA id (prsP n (fnL D) b) x = x)) (3 * n) = n + c := by
  have h : Mt n (fnL D) ∧ Mt n b := ⟨ha, hb⟩
  refine ⟨Classical.choose (put_fix h.1 h.2 rfl), Classical.choose (Classical.choose_spec (put_fix h.1 h.2 rfl)), by unfold putD; rw [dif_pos h], Classical.choose_spec (Classical.choose_spec (put_fix h.1 h.2 rfl))⟩
def cupM (n i x : Nat) : Nat := if x = i then i + 1 else if x = i + 1 then i else if x = n + i then n + i + 1 else if x = n + i + 1 then n + i else oneM n x
theorem oneM_mt (n : Nat) : Mt n (oneM n) := ⟨fun i hi => by unfold oneM; split <;> omega, fun i hi => by unfold oneM; split <;> omega, fun i hi => by
  unfold oneM
  by_cases c : i < n
  · rw [if_pos c, if_neg (by omega)]; omega
  · rw [if_neg c, if_pos (by omega)]; omega⟩
theorem cupM_cases {n i : Nat} (h : i + 1 < n) (x : Nat) : (x = i ∧ cupM n i x = i + 1) ∨ (x = i + 1 ∧ cupM n i x = i) ∨ (x = n + i ∧ cupM n i x = n + i + 1) ∨ (x = n + i + 1 ∧ cupM n i x = n + i) ∨ (x ≠ i ∧ x ≠ i + 1 ∧ x ≠ n + i ∧ x ≠ n + i + 1 ∧ cupM n i x = oneM n x) := by
  unfold cupM
  by_cases c1 : x = i
  · exact .inl ⟨c1, if_pos c1⟩
  · rw [if_neg c1]
    by_cases c2 : x = i + 1
    · exact .inr (.inl ⟨c2, if_pos c2⟩)
    · rw [if_neg c2]
      by_cases c3 : x = n + i
      · exact .inr (.inr (.inl ⟨c3, if_pos c3⟩))
      · rw [if_neg c3]
        by_cases c4 : x = n + i + 1
        · exact .inr (.inr (.inr (.inl ⟨c4, if_pos c4⟩)))
        · exact .inr (.inr (.inr (.inr ⟨c1, c2, c3, c4, if_neg c4⟩)))
theorem cupM_mt {n i : Nat} (h : i + 1 < n) : Mt n (cupM n i) := by
  have o1 : ∀ x, x < 2 * n → (x < n ∧ oneM n x = n + x) ∨ (n ≤ x ∧ oneM n x = x - n) := fun x hx => by unfold oneM; split <;> omega
  refine ⟨fun x hx => ?_, fun x hx => ?_, fun x hx => ?_⟩
  · rcases cupM_cases h x with ⟨_, e⟩ | ⟨_, e⟩ | ⟨_, e⟩ | ⟨_, e⟩ | ⟨_, _, _, _, e⟩ <;> rw [e]
    · omega
    · omega
    · omega
    · omega
    · rcases o1 x hx with ⟨_, e⟩ | ⟨_, e⟩ <;> rw [e] <;> omega
  · rcases cupM_cases h x with ⟨_, e⟩ | ⟨_, e⟩ | ⟨_, e⟩ | ⟨_, e⟩ | ⟨_, _, _, _, e⟩ <;> rw [e]
    · omega
    · omega
    · omega
    · omega
    · rcases o1 x hx with ⟨_, e⟩ | ⟨_, e⟩ <;> rw [e] <;> omega
  · rcases cupM_cases h x with ⟨e0, e⟩ | ⟨e0, e⟩ | ⟨e0, e⟩ | ⟨e0, e⟩ | ⟨q1, q2, q3, q4, e⟩
    · rw [e]; subst e0; unfold cupM; rw [if_neg (by omega), if_pos rfl]
    · rw [e]; subst e0; unfold cupM; rw [if_pos rfl]
    · rw [e]; subst e0; unfold cupM; rw [if_neg (by omega), if_neg (by omega), if_neg (by omega), if_pos rfl]
    · rw [e]; subst e0; unfold cupM; rw [if_neg (by omega), if_neg (by omega), if_pos rfl]
    · rw [e]
      rcases o1 x hx with ⟨c, e2⟩ | ⟨c, e2⟩
      · rcases cupM_cases h (oneM n x) with ⟨w, _⟩ | ⟨w, _⟩ | ⟨w, _⟩ | ⟨w, _⟩ | ⟨_, _, _, _, e3⟩
        · omega
        · omega
        · omega
        · omega
        · rw [e3]; exact (oneM_mt n).inv x hx
      · rcases cupM_cases h (oneM n x) with ⟨w, _⟩ | ⟨w, _⟩ | ⟨w, _⟩ | ⟨w, _⟩ | ⟨_, _, _, _, e3⟩
        · omega
        · omega
        · omega
        · omega
        · rw [e3]; exact (oneM_mt n).inv x hx
abbrev StE := List Int × LP
noncomputable def nxS (n : Nat) (e : StE) (b : Nat → Nat) (s : Int) : StE := ((putD n e.1 b).1, e.2 * (LP.mono 1 s * dpow (putD n e.1 b).2))
def chM (n : Nat) (x : Int) (b : Bool) : Nat → Nat := if b then cupM n (x.natAbs - 1) else oneM n
def chW (x : Int) (b : Bool) : Int := if b = decide (0 < x) then -1 else 1
noncomputable def chS (n : Nat) (x : Int) (e : StE) (b : Bool) : StE := nxS n e (chM n x b) (chW x b)
noncomputable def stS (n : Nat) (w : List Int) : Nat → List StE
  | 0 => [(tabN (2 * n) (oneM n), 1)]
  | j + 1 => (stS n w j).flatMap fun e => [chS n (w.getD j 0) e false, chS n (w.getD j 0) e true]
noncomputable def stB (n : Nat) (w : List Int) (s : Nat → Bool) : Nat → StE
  | 0 => (tabN (2 * n) (oneM n), 1)
  | j + 1 => chS n (w.getD j 0) (stB n w s j) (s j)
def wtB (w : List Int) (s : Nat → Bool) : Nat → Int
  | 0 => 0
  | j + 1 => wtB w s j + chW (w.getD j 0) (s j)
def lett (n : Nat) (w : List Int) : Prop := ∀ x ∈ w, x.natAbs ≠ 0 ∧ x.natAbs < n
theorem chM_mt {n : Nat} {x : Int} (h : x.natAbs ≠ 0 ∧ x.natAbs < n) (b : Bool) : Mt n (chM n x b) := by
  unfold chM
  cases b
  · exact oneM_mt n
  · exact cupM_mt (by omega)
theorem lett_get {n : Nat} {w : List Int} (h : lett n w) {j : Nat} (hj : j < w.length) : (w.getD j 0).natAbs ≠ 0 ∧ (w.getD j 0).natAbs < n := h _ (by rw [getD_lt 0 hj]; exact List.getElem_mem hj)
noncomputable def sumE (F : List Int → LP) : List StE → LP
  | [] => 0
  | e :: l => e.2 * F e.1 + sumE F l
theorem sumE_app (F : List Int → LP) : ∀ a b : List StE, sumE F (a ++ b) = sumE F a + sumE F b
  | [], b => (LP.zero_add _).symm
  | e :: a, b => by show e.2 * F e.1 + sumE F (a ++ b) = e.2 * F e.1 + sumE F a + sumE F b; rw [sumE_app F a b, LP.add_assoc]
def sumB (F : (Nat → Bool) → LP) : Nat → (Nat → Bool) → LP
  | 0, s => F s
  | j + 1, s => sumB F j (fun i => if i = j then false else s i) + sumB F j (fun i => if i = j then true else s i)
theorem stB_congr {n : Nat} {w : List Int} {s t : Nat → Bool} : ∀ j, (∀ i, i < j → s i = t i) → stB n w s j = stB n w t j
  | 0, _ => rfl
  | j + 1, h => by show chS n _ (stB n w s j) (s j) = chS n _ (stB n w t j) (t j); rw [stB_congr j fun i hi => h i (by omega), h j (by omega)]
theorem stS_sum (n : Nat) (w : List Int) : ∀ (j : Nat) (G : StE → LP), ((stS n w j).map G).foldr (· + ·) 0 = sumB (fun s => G (stB n w s j)) j (fun _ => false)
  | 0, G => by show G _ + 0 = _; rw [LP.add_zero]; rfl
  | j + 1, G => by
    have e : ∀ L : List StE, ((L.flatMap fun e => [chS n (w.getD j 0) e false, chS n (w.getD j 0) e true]).map G).foldr (· + ·) 0 = (L.map fun e => G (chS n (w.getD j 0) e false) + G (chS n (w.getD j 0) e true)).foldr (· + ·) 0 := fun L => by
      induction L with
      | nil => rfl
      | cons a L ih =>
        simp only [List.flatMap_cons, List.map_append, List.map_cons, List.map_nil, List.foldr_append, List.foldr_cons, List.foldr_nil]
        rw [ih]; ac_rfl
    show (((stS n w j).flatMap _).map G).foldr _ 0 = _
    rw [e, stS_sum n w j]
    have key : ∀ (k : Nat) (b : Bool) (s : Nat → Bool), k ≤ j → sumB (fun s => G (chS n (w.getD j 0) (stB n w s j) b)) k s = sumB (fun s => G (stB n w s (j + 1))) k (fun i => if i = j then b else s i) := by
      intro k b
      induction k with
      | zero =>
        intro s _
        show G (chS n _ (stB n w s j) b) = G (chS n _ (stB n w (fun i => if i = j then b else s i) j) (if j = j then b else s j))
        rw [if_pos rfl, stB_congr (s := s) (t := fun i => if i = j then b else s i) j fun i hi => (if_neg (by omega)).symm]
      | succ k ih =>
        intro s hk
        have sw : ∀ c, (fun i => if i = j then b else if i = k then c else s i) = fun i => if i = k then c else if i = j then b else s i := fun c => by
          funext i
          by_cases h1 : i = j
          · rw [if_pos h1, if_neg (by omega), if_pos h1]
          · rw [if_neg h1]
            by_cases h2 : i = k
            · rw [if_pos h2, if_pos h2]
            · rw [if_neg h2, if_neg h2, if_neg h1]
        show sumB _ k _ + sumB _ k _ = sumB _ k _ + sumB _ k _
        rw [ih _ (by omega), ih _ (by omega), sw, sw]
    have add : ∀ (k : Nat) (A B : (Nat → Bool) → LP) (s : Nat → Bool), sumB (fun s => A s + B s) k s = sumB A k s + sumB B k s := by
      intro k A B
      induction k with
      | zero => intro s; rfl
      | succ k ih => intro s; show sumB _ k _ + sumB _ k _ = (sumB _ k _ + sumB _ k _) + (sumB _ k _ + sumB _ k _); rw [ih, ih]; ac_rfl
    rw [add, key j false _ (Nat.le_refl _), key j true _ (Nat.le_refl _)]
    rfl
def bitF (s : Nat) : Nat → Bool := fun i => s.testBit i
def sumR (G : Nat → LP) : Nat → LP
  | 0 => 0
  | k + 1 => sumR G k + G k
theorem sumR_app (G : Nat → LP) (a : Nat) : ∀ b, sumR G (a + b) = sumR G a + sumR (fun i => G (a + i)) b
  | 0 => (LP.add_zero _).symm
  | b + 1 => by show sumR G (a + b) + G (a + b) = sumR G a + (sumR _ b + G (a + b)); rw [sumR_app G a b, LP.add_assoc]
theorem sumR_congr {G H : Nat → LP} : ∀ {k : Nat}, (∀ i, i < k → G i = H i) → sumR G k = sumR H k
  | 0, _ => rfl
  | k + 1, h => by show sumR G k + G k = sumR H k + H k; rw [sumR_congr fun i hi => h i (by omega), h k (by omega)]
theorem sumB_num {F : (Nat → Bool) → LP} : ∀ (j : Nat) (t : Nat → Bool), sumB F j t = sumR (fun s => F (fun i => if i < j then s.testBit i else t i)) (2 ^ j)
  | 0, t => by
    show F t = 0 + F _
    rw [LP.zero_add]
    exact congrArg F (funext fun i => (if_neg (by omega)).symm)
  | j + 1, t => by
    rw [Nat.pow_succ, Nat.mul_two, sumR_app]
    show sumB F j _ + sumB F j _ = _
    rw [sumB_num j, sumB_num j]
    congr 1
    · refine sumR_congr fun s hs => congrArg F (funext fun i => ?_)
      by_cases c : i < j
      · rw [if_pos c, if_pos (by omega)]
      · rw [if_neg c]
        by_cases c2 : i = j
        · rw [if_pos c2, if_pos (by omega), c2, Nat.testBit_lt_two_pow hs]
        · rw [if_neg c2, if_neg (by omega)]
    · refine sumR_congr fun s hs => congrArg F (funext fun i => ?_)
      by_cases c : i < j
      · rw [if_pos c, if_pos (by omega), Nat.testBit_two_pow_add_gt c]
      · rw [if_neg c]
        by_cases c2 : i = j
        · rw [if_pos c2, if_pos (by omega), c2, Nat.testBit_two_pow_add_eq, Nat.testBit_lt_two_pow hs]; rfl
        · rw [if_neg c2, if_neg (by omega)]
end Go.Proofs.Ytdlpbpfcgjgppaa
