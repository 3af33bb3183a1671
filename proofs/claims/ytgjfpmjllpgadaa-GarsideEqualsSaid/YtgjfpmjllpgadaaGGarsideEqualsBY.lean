/- Words that are equal as braids have the same normal form. Plain facts: nothing of the program is here. -/
import Derived.Test.YtgjfpmjllpgadaaGGarsideEqualsBR
import Derived.Test.YtgjfpmjllpgadaaGGarsideEqualsBX
import Derived.Test.YtgjfpmjllpgadaaGGarsideEqualsAV
import Derived.Test.YtgjfpmjllpgadaaGGarsideEqualsAO
set_option linter.unusedVariables false
set_option linter.unusedSimpArgs false
namespace Go.Proofs.Ytgjfpmjllpgadaa

/-- a power of a word -/
def pww (d : List Int) : Nat → List Int
  | 0 => []
  | k + 1 => d ++ pww d k
theorem pww_add (d : List Int) (a : Nat) : ∀ b, pww d (b + a) = pww d b ++ pww d a
  | 0 => by rw [Nat.zero_add]; rfl
  | b + 1 => by rw [show b + 1 + a = (b + a) + 1 by omega]; simp only [pww]; rw [pww_add d a b, List.append_assoc]
theorem PE.mid {n : Int} {b c : List Int} (a d : List Int) (h : PE n b c) : PE n (a ++ (b ++ d)) (a ++ (c ++ d)) := (h.suf d).pre a
/-- the whole twist -/
def D2 (n : Nat) : List Int := spw n (hlf n) ++ spw n (hlf n)
theorem D2_let {n i : Nat} (hn : n ≤ 6) (hi : 1 ≤ i ∧ i < n) : PE n (D2 n ++ [(i : Int)]) ((i : Int) :: D2 n) := by
  have k1 := hlf_letP (n := n) (i := i) hn hi
  have k2 := hlf_letP (n := n) (i := n - i) hn (by omega)
  rw [show n - (n - i) = i by omega] at k2
  unfold D2
  rw [List.append_assoc]
  refine (k1.pre _).trans ?_
  have := k2.suf (spw n (hlf n))
  simpa using this
theorem D2_pos {n : Nat} (hn : n ≤ 6) : ∀ u : List Int, posw n u → PE n (D2 n ++ u) (u ++ D2 n)
  | [], _ => by rw [List.append_nil]; exact .refl _
  | x :: u, h => by
    obtain ⟨i, rfl⟩ : ∃ i : Nat, x = (i : Int) := ⟨x.toNat, by have := h x (by simp); omega⟩
    have hi := h i (by simp)
    have k := (D2_let hn (i := i) (by omega)).suf u
    have ih := (D2_pos hn u (fun z hz => h z (by simp [hz]))).consI (i : Int)
    have e : D2 n ++ (i : Int) :: u = (D2 n ++ [(i : Int)]) ++ u := by simp
    rw [e]
    exact k.trans ih
theorem D2_pw {n : Nat} (hn : n ≤ 6) {u : List Int} (h : posw n u) : ∀ k, PE n (pww (D2 n) k ++ u) (u ++ pww (D2 n) k)
  | 0 => by simp only [pww]; rw [List.append_nil]; exact .refl _
  | k + 1 => by
    simp only [pww]
    rw [List.append_assoc]
    refine ((D2_pw hn h k).pre _).trans ?_
    rw [← List.append_assoc, ← List.append_assoc]
    exact (D2_pos hn u h).suf _
/-- a positive word in place of an inverse letter -/
def zzl (n i : Nat) : List Int := spw n (psw (hlf n) (i - 1)) ++ spw n (hlf n)
theorem zzl_l {n i : Nat} (hn : n ≤ 6) (hi : 1 ≤ i ∧ i < n) : PE n ((i : Int) :: zzl n i) (D2 n) := by
  have k := spw_descP hn _ (hlf n) (i - 1) (hlf_isP n) (Nat.le_refl _) (by omega) (by unfold hlf; omega)
  rw [show (((i - 1 : Nat) : Int) + 1) = (i : Int) by omega] at k
  exact (k.suf (spw n (hlf n))).symm
theorem zzl_r {n i : Nat} (hn : n ≤ 6) (hi : 1 ≤ i ∧ i < n) : PE n (zzl n i ++ [(i : Int)]) (D2 n) := by
  have hX := psw_isP (hlf_isP n) (i := i - 1) (by omega)
  have k1 := hlf_letP (n := n) (i := i) hn hi
  have k2 := spw_lastP hn _ (psw (hlf n) (i - 1)) (n - i - 1) (i - 1) (i - 1 + 1) hX (Nat.le_refl _) (by omega) (by omega) (by rw [psw_at]; unfold hlf; omega) (by rw [psw_at1]; unfold hlf; omega)
  have e : spw n (vsw (psw (hlf n) (i - 1)) (n - i - 1)) = spw n (hlf n) := spw_congr (fun j hj => by
    unfold vsw psw hlf tau
    repeat' split
    all_goals omega)
  rw [e, show (((n - i - 1 : Nat) : Int) + 1) = ((n - i : Nat) : Int) by omega] at k2
  unfold zzl D2
  rw [List.append_assoc]
  refine (k1.pre _).trans ?_
  have := k2.symm.suf (spw n (hlf n))
  simpa using this
theorem zzl_pos {n i : Nat} (hn : n ≤ 6) (hi : 1 ≤ i ∧ i < n) : posw n (zzl n i) := fun x hx => by
  rcases List.mem_append.1 hx with hx | hx
  · exact spw_pos hn _ _ (psw_isP (hlf_isP n) (i := i - 1) (by omega)) (Nat.le_refl _) x hx
  · exact spw_pos hn _ _ (hlf_isP n) (Nat.le_refl _) x hx
def hatL (n : Nat) (x : Int) : List Int := if 0 < x then [x] else zzl n x.natAbs
def hatW (n : Nat) (w : List Int) : List Int := w.flatMap (hatL n)
def ngc : List Int → Nat
  | [] => 0
  | x :: w => (if 0 < x then 0 else 1) + ngc w
theorem hatL_pos {n : Nat} (hn : n ≤ 6) {x : Int} (hx : x ≠ 0 ∧ x < n ∧ -(n : Int) < x) : posw n (hatL n x) := by
  unfold hatL
  split
  · intro z hz; simp only [List.mem_singleton] at hz; subst hz; omega
  · exact zzl_pos hn (by omega)
/-- the word times a power of the whole twist -/
def lftW (n M : Nat) (w : List Int) : List Int := pww (D2 n) (M - ngc w) ++ hatW n w
theorem lft_cons {n M : Nat} (hn : n ≤ 6) {x : Int} (hx : x ≠ 0 ∧ x < n ∧ -(n : Int) < x) {w : List Int} (hM : ngc (x :: w) ≤ M) : PE n (lftW n M (x :: w)) (hatL n x ++ lftW n (M - (if 0 < x then 0 else 1)) w) := by
  unfold lftW hatW
  rw [List.flatMap_cons, ← List.append_assoc, ← List.append_assoc, show M - ngc (x :: w) = M - (if 0 < x then 0 else 1) - ngc w by simp only [ngc]; omega]
  exact (D2_pw hn (hatL_pos hn hx) _).suf _
/-- WORDS THAT ARE EQUAL AS BRAIDS, TIMES THE WHOLE TWIST, ARE EQUAL AS POSITIVE WORDS -/
theorem be_pe {n : Nat} (hn : n ≤ 6) {a b : List Int} (h : BE n a b) : brd n a → ∃ C, ∀ M, C ≤ M → PE n (lftW n M a) (lftW n M b) := by
  induction h with
  | refl a => exact fun _ => ⟨0, fun M _ => .refl _⟩
  | symm h ih =>
    intro ok
    obtain ⟨C, hC⟩ := ih (h.ok.2 ok)
    exact ⟨C, fun M hM => (hC M hM).symm⟩
  | trans h1 h2 ih1 ih2 =>
    intro ok
    obtain ⟨C1, hC1⟩ := ih1 ok
    obtain ⟨C2, hC2⟩ := ih2 (h1.ok.1 ok)
    exact ⟨max C1 C2, fun M hM => (hC1 M (by omega)).trans (hC2 M (by omega))⟩
  | cons x h ih =>
    rename_i a b
    intro ok
    have hx := (brd_cons_iff.1 ok).1
    obtain ⟨C, hC⟩ := ih (brd_cons_iff.1 ok).2
    refine ⟨C + 1 + ngc (x :: a) + ngc (x :: b), fun M hM => ?_⟩
    refine (lft_cons hn hx (by omega)).trans (PE.trans ?_ (lft_cons hn hx (by omega)).symm)
    exact (hC _ (by split <;> omega)).pre _
  | can hx t =>
    rename_i x
    intro ok
    have okt := (brd_cons_iff.1 (brd_cons_iff.1 ok).2).2
    refine ⟨ngc (x :: -x :: t) + 1, fun M hM => ?_⟩
    have hd : PE n (hatL n x ++ hatL n (-x)) (D2 n) := by
      unfold hatL
      by_cases c : 0 < x
      · rw [if_pos c, if_neg (by omega)]
        have := zzl_l (n := n) (i := x.natAbs) hn (by omega)
        rw [show (x.natAbs : Int) = x by omega] at this
        rw [show (-x).natAbs = x.natAbs by omega]
        exact this
      · rw [if_neg c, if_pos (by omega)]
        have := zzl_r (n := n) (i := x.natAbs) hn (by omega)
        rwa [show (x.natAbs : Int) = -x by omega] at this
    have hc : ngc (x :: -x :: t) = ngc t + 1 := by simp only [ngc]; split <;> split <;> omega
    unfold lftW
    rw [hc]
    show PE n (pww (D2 n) (M - (ngc t + 1)) ++ hatW n (x :: -x :: t)) _
    have e : hatW n (x :: -x :: t) = (hatL n x ++ hatL n (-x)) ++ hatW n t := by simp [hatW]
    rw [e]
    refine (hd.mid _ _).trans ?_
    have e2 : pww (D2 n) (M - ngc t) = pww (D2 n) (M - (ngc t + 1)) ++ D2 n := by
      have := pww_add (D2 n) 1 (M - (ngc t + 1))
      rw [show M - (ngc t + 1) + 1 = M - ngc t by omega] at this
      rw [this]; simp [pww]
    rw [e2, List.append_assoc]
    exact .refl _
  | far hi hij hj t =>
    rename_i i j
    intro _
    refine ⟨0, fun M _ => ?_⟩
    have e1 : hatW n (i :: j :: t) = i :: j :: hatW n t := by simp [hatW, hatL, show 0 < i by omega, show 0 < j by omega]
    have e2 : hatW n (j :: i :: t) = j :: i :: hatW n t := by simp [hatW, hatL, show 0 < i by omega, show 0 < j by omega]
    have e3 : ngc (i :: j :: t) = ngc (j :: i :: t) := by simp [ngc, show 0 < i by omega, show 0 < j by omega]
    unfold lftW
    rw [e1, e2, e3]
    exact (PE.farI hi hij hj _).pre _
  | brd hi hn2 t =>
    rename_i i
    intro _
    refine ⟨0, fun M _ => ?_⟩
    have e1 : hatW n (i :: (i + 1) :: i :: t) = i :: (i + 1) :: i :: hatW n t := by simp [hatW, hatL, show 0 < i by omega, show 0 < i + 1 by omega]
    have e2 : hatW n ((i + 1) :: i :: (i + 1) :: t) = (i + 1) :: i :: (i + 1) :: hatW n t := by simp [hatW, hatL, show 0 < i by omega, show 0 < i + 1 by omega]
    have e3 : ngc (i :: (i + 1) :: i :: t) = ngc ((i + 1) :: i :: (i + 1) :: t) := by simp [ngc, show 0 < i by omega, show 0 < i + 1 by omega]
    unfold lftW
    rw [e1, e2, e3]
    exact (PE.brdI hi hn2 _).pre _
theorem hatW_pos {n : Nat} : ∀ {w : List Int}, posw n w → hatW n w = w ∧ ngc w = 0
  | [], _ => ⟨rfl, rfl⟩
  | x :: w, h => by
    obtain ⟨h1, h2⟩ := hatW_pos (w := w) (fun z hz => h z (by simp [hz]))
    have hx := (h x (by simp)).1
    have e : hatL n x = [x] := by unfold hatL; rw [if_pos (by omega)]
    refine ⟨?_, by simp only [ngc]; rw [if_pos (by omega), h2]⟩
    show (x :: w).flatMap (hatL n) = x :: w
    rw [List.flatMap_cons, e]
    show [x] ++ hatW n w = _
    rw [h1]; rfl
/-- positive words that are equal as braids, times one power -/
theorem be_pos {n : Nat} (hn : n ≤ 6) {a b : List Int} (h : BE n a b) (ha : posw n a) (hb : posw n b) : ∃ M, PE n (pww (D2 n) M ++ a) (pww (D2 n) M ++ b) := by
  obtain ⟨C, hC⟩ := be_pe hn h (fun x hx => by have := ha x hx; omega)
  refine ⟨C, ?_⟩
  have := hC C (Nat.le_refl _)
  unfold lftW at this
  rw [(hatW_pos ha).1, (hatW_pos ha).2, (hatW_pos hb).1, (hatW_pos hb).2] at this
  exact this
/-- powers of the half twist add up -/
theorem dlt_add {n : Nat} (hn : n ≤ 6) (K : Int) : ∀ k : Nat, WE n (dlt n K ++ dlt n (k : Int)) (dlt n (K + k)) ∧ WE n (dlt n K ++ dlt n (-(k : Int))) (dlt n (K - k))
  | 0 => by
    have e : dlt n ((0 : Nat) : Int) = [] := rfl
    have e2 : dlt n (-((0 : Nat) : Int)) = [] := rfl
    rw [e, e2, List.append_nil, show K + ((0 : Nat) : Int) = K by omega, show K - ((0 : Nat) : Int) = K by omega]
    exact ⟨WE.refl _, WE.refl _⟩
  | k + 1 => by
    obtain ⟨i1, i2⟩ := dlt_add hn K k
    have hp := spw_br hn (hlf_isP n)
    have s1 := dlt_succ hn (k : Int)
    have s2 := dlt_pred hn (-(k : Int))
    have t1 := dlt_succ hn (K + k)
    have t2 := dlt_pred hn (K - k)
    rw [show ((k + 1 : Nat) : Int) = (k : Int) + 1 by omega]
    refine ⟨?_, ?_⟩
    · refine (WE.left _ (dlt_brd hn K) s1.symm).trans ?_
      rw [← List.append_assoc, show K + ((k : Int) + 1) = K + k + 1 by omega]
      exact (WE.right _ (dlt_brd hn _) i1).trans t1
    · rw [show -((k : Int) + 1) = -(k : Int) - 1 by omega]
      refine (WE.left _ (dlt_brd hn K) s2.symm).trans ?_
      rw [← List.append_assoc, show K - ((k : Int) + 1) = K - k - 1 by omega]
      exact (WE.right _ (dlt_brd hn _) i2).trans t2
theorem dlt_nat {n : Nat} : ∀ k : Nat, dlt n (k : Int) = (List.replicate k (hlf n)).flatMap (spw n)
  | 0 => rfl
  | k + 1 => by
    have e : dlt n ((k + 1 : Nat) : Int) = dlt n (k : Int) ++ spw n (hlf n) := by
      unfold dlt twS
      rw [if_neg (by omega), if_neg (by omega), show ((k + 1 : Nat) : Int).natAbs = (k : Int).natAbs + 1 by omega]
      rfl
    rw [e, dlt_nat k, List.replicate_succ', List.flatMap_append]
    simp
theorem pww_rep {n : Nat} : ∀ M : Nat, pww (D2 n) M = (List.replicate (2 * M) (hlf n)).flatMap (spw n)
  | 0 => rfl
  | M + 1 => by
    rw [show 2 * (M + 1) = 2 * M + 1 + 1 by omega, List.replicate_succ, List.replicate_succ, List.flatMap_cons, List.flatMap_cons, ← pww_rep M]
    simp [pww, D2]
theorem tgl_form {n m s : Nat} (hn : 2 ≤ n) {G : Fam} (h : Nrm n m G) : TgL n (List.replicate s (hlf n) ++ lst m G) := by
  have hone : ¬ isOne n (hlf n) := fun h => by
    have := h 0 (by omega)
    unfold hlf at this
    omega
  refine ⟨fun f hf => ?_, fun f hf => ?_, fun j hj c hc => ?_⟩
  · rcases List.mem_append.1 hf with hf | hf
    · rw [(List.mem_replicate.1 hf).2]; exact hlf_isP n
    · exact lst_all (P := fun f => IsP f n) h.isP f hf
  · rcases List.mem_append.1 hf with hf | hf
    · rw [(List.mem_replicate.1 hf).2]; exact hone
    · exact lst_all (P := fun f => ¬ isOne n f) h.one f hf
  · rw [getD_app, getD_app] at hc
    simp only [List.length_replicate, List.length_append, lst_len] at hj hc
    by_cases c1 : j < s
    · rw [if_pos c1] at hc
      have e : (List.replicate s (hlf n)).getD j id = hlf n := by simp [List.getD, c1]
      rw [e] at hc
      obtain ⟨h1, h2, x, y, h3, h4, h5, h6⟩ := hc
      unfold hlf at h5 h6
      omega
    · rw [if_neg c1, if_neg (by omega)] at hc
      have g : ∀ i, i < m → (lst m G).getD i id = G i := fun i hi => by simp [lst, List.getD, hi]
      rw [g _ (by omega), g _ (by omega), show j + 1 - s = j - s + 1 by omega] at hc
      exact h.tight (j - s) (by omega) c hc
/-- WORDS OF NORMAL FORMS THAT ARE EQUAL AS MAPS: THE SAME FORM -/
theorem form_uniq {n : Nat} (hn : 2 ≤ n ∧ n ≤ 6) {k k' : Int} {m m' : Nat} {G G' : Fam} (h : Nrm n m G) (h' : Nrm n m' G') (e : WE n (fwd n k (lst m G)) (fwd n k' (lst m' G'))) : k = k' ∧ m = m' ∧ ∀ i, i < m → ∀ j, j < n → G i j = G' i j := by
  have hn6 := hn.2
  obtain ⟨K, hK⟩ : ∃ K : Nat, 0 ≤ (K : Int) + k ∧ 0 ≤ (K : Int) + k' := ⟨k.natAbs + k'.natAbs, by omega, by omega⟩
  obtain ⟨s, hs⟩ : ∃ s : Nat, (s : Int) = K + k := ⟨(K + k).toNat, by omega⟩
  obtain ⟨s', hs'⟩ : ∃ s : Nat, (s : Int) = K + k' := ⟨(K + k').toNat, by omega⟩
  have bG := flat_brd hn6 (lst_all h.isP)
  have bG' := flat_brd hn6 (lst_all h'.isP)
  have dk : ∀ k : Int, 0 ≤ (K : Int) + k → WE n (dlt n K ++ dlt n k) (dlt n (K + k)) := fun k hk => by
    rcases Int.le_total 0 k with c | c
    · have := (dlt_add hn6 K k.toNat).1
      rwa [show (k.toNat : Int) = k by omega] at this
    · have := (dlt_add hn6 K (-k).toNat).2
      rwa [show -((-k).toNat : Int) = k by omega, show (K : Int) - ((-k).toNat : Int) = K + k by omega] at this
  have w1 : WE n (dlt n (s : Int) ++ (lst m G).flatMap (spw n)) (dlt n (s' : Int) ++ (lst m' G').flatMap (spw n)) := by
    rw [hs, hs']
    refine (WE.right _ (brd_app (dlt_brd hn6 _) (dlt_brd hn6 _)) (dk k hK.1).symm).trans ?_
    rw [List.append_assoc]
    refine (WE.left _ (dlt_brd hn6 _) e).trans ?_
    unfold fwd
    rw [← List.append_assoc]
    exact WE.right _ (dlt_brd hn6 _) (dk k' hK.2)
  have b1 := we_be (by omega) (brd_app (dlt_brd hn6 _) bG) (brd_app (dlt_brd hn6 _) bG') w1
  have pos : ∀ (s m : Nat) (G : Fam), Nrm n m G → posw n (dlt n (s : Int) ++ (lst m G).flatMap (spw n)) := fun s m G h x hx => by
    rcases List.mem_append.1 hx with hx | hx
    · rw [dlt_nat] at hx
      obtain ⟨f, hf, hx⟩ := List.mem_flatMap.1 hx
      rw [(List.mem_replicate.1 hf).2] at hx
      exact spw_pos hn6 _ _ (hlf_isP n) (Nat.le_refl _) x hx
    · obtain ⟨f, hf, hx⟩ := List.mem_flatMap.1 hx
      exact spw_pos hn6 _ f (lst_all (P := fun f => IsP f n) h.isP f hf) (Nat.le_refl _) x hx
  obtain ⟨M, hM⟩ := be_pos hn6 b1 (pos s m G h) (pos s' m' G' h')
  have fl : ∀ (s m : Nat) (G : Fam), pww (D2 n) M ++ (dlt n (s : Int) ++ (lst m G).flatMap (spw n)) = (List.replicate (2 * M + s) (hlf n) ++ lst m G).flatMap (spw n) := fun s m G => by
    rw [pww_rep, dlt_nat, List.flatMap_append, ← List.replicate_append_replicate, List.flatMap_append, List.append_assoc]
  rw [fl, fl] at hM
  obtain ⟨l1, l2⟩ := tight_uniq hn6 (tgl_form hn.1 h) (tgl_form hn.1 h') hM
  simp only [List.length_append, List.length_replicate, lst_len] at l1 l2
  have gr : ∀ (a m : Nat) (G : Fam) (j : Nat), (List.replicate a (hlf n) ++ lst m G).getD j id = if j < a then hlf n else if j - a < m then G (j - a) else id := fun a m G j => by
    rw [getD_app]
    simp only [List.length_replicate]
    by_cases c : j < a
    · rw [if_pos c, if_pos c]; simp [List.getD, c]
    · rw [if_neg c, if_neg c]
      by_cases c2 : j - a < m
      · rw [if_pos c2]; simp [lst, List.getD, c2]
      · rw [if_neg c2]; simp [lst, List.getD, c2]
  have key : ∀ (s s' m m' : Nat) (G G' : Fam), Nrm n m G → 2 * M + s + m = 2 * M + s' + m' → (∀ j, j < 2 * M + s' + m' → ∀ i, i < n → (List.replicate (2 * M + s) (hlf n) ++ lst m G).getD j id i = (List.replicate (2 * M + s') (hlf n) ++ lst m' G').getD j id i) → ¬ s < s' := fun s s' m m' G G' h l1 l2 hlt => by
    have hm : 0 < m := by omega
    refine h.tw 0 hm (fun i hi => ?_)
    have := l2 (2 * M + s) (by omega) i hi
    rw [gr, gr, if_neg (by omega), if_pos (by omega), if_pos (by omega), Nat.sub_self] at this
    exact this
  have a1 := key s s' m m' G G' h l1 l2
  have a2 := key s' s m' m G' G h' l1.symm (fun j hj i hi => (l2 j (by omega) i hi).symm)
  obtain rfl : s = s' := by omega
  obtain rfl : m = m' := by omega
  refine ⟨by omega, rfl, fun i hi j hj => ?_⟩
  have := l2 (2 * M + s + i) (by omega) j hj
  rw [gr, gr, if_neg (by omega), if_pos (by omega), if_neg (by omega), if_pos (by omega), show 2 * M + s + i - (2 * M + s) = i by omega] at this
  exact this
end Go.Proofs.Ytgjfpmjllpgadaa

/- slices.EqualFunc at lists of lists, timblaw1.lists. No condition of its own. -/
set_option linter.unusedVariables false
set_option linter.unusedSimpArgs false
namespace Go.Proofs.Ytgjfpmjllpgadaa
open Go.RowKit

/-- a list of ints, as a value -/
def LF (b : Bool) (xs : List Int) : PV := .lst b 1 xs.length (ints xs)
theorem LF_cl (b : Bool) (xs : List Int) : (LF b xs).cl = true := by simp [LF, PV.cl, ints_cl]
theorem LF_nrm (b : Bool) (xs : List Int) : (LF b xs).nrm = pli xs := by
  unfold LF PV.nrm PV.nrm0
  rfl
set_option maxHeartbeats 2000000 in
set_option maxRecDepth 100000 in
theorem equalFuncG_s {b1 b2 c1 c2 : Bool} {us vs : List (List Int)} {f : FuncId} (hx : us.length ≤ 1000000000) (hy : vs.length ≤ 1000000000) (hf : ∀ x y : List Int, SC Try.prog f [pli x, pli y] (.sc (.bool (decide (x = y))))) :
    SC Try.prog 88 [.lst b1 1 us.length (us.map (LF c1)), .lst b2 1 vs.length (vs.map (LF c2)), .clo f []] (.sc (.bool (decide (us = vs)))) := by
  refine SC.go {} tok mixed Try.func88 rfl rfl Try.ntmps88 rfl rfl (by kernel_rfl) ?_
  first | simp only [updS] | simp only [updL, Nat.reduceAdd]
  by_cases hl : us.length = vs.length
  · repeat (first | refine S0 ?_ | refine S1 ?_ | refine S2 ?_ | refine S4 ?_ | refine S5 ?_ | refine S6 ?_ | refine S7 ?_ | refine S8 ?_ | refine S9 ?_ | refine S10 ?_ | refine S11 ?_ | refine S12 ?_ | refine S13 ?_ | refine S15 ?_ | refine S16 ?_ | refine S19 ?_ | refine S20 ?_ | refine S21 ?_ | refine S22 ?_ | refine S23 ?_ | refine S25 ?_ | refine S26 ?_ | refine S29 ?_ | refine S36 ?_)
    refine CW.loopS (fun k : Nat => k ≤ us.length ∧ us.take k = vs.take k) (fun k => [(1, .lst b2 1 vs.length (vs.map (LF c2))), (2, .clo f []), (15, .lst b1 1 us.length (us.map (LF c1))), (16, pint us.length), (17, pint k)]) (fun _ _ => True) (fun k => us.length - k) 0 ⟨⟨Nat.zero_le _, rfl⟩, SLx, trivial⟩ ?_
    rintro k t h ⟨hk, hg⟩ _
    first | simp only [updS] | simp only [updL, Nat.reduceAdd]
    by_cases hk2 : k < us.length
    · have hs : SC Try.prog f [LF c1 (us.getD k []), LF c2 (vs.getD k [])] (.sc (.bool (decide (us.getD k [] = vs.getD k [])))) := SC.weak (hf (us.getD k []) (vs.getD k [])) (by simp only [List.map_cons, List.map_nil, LF_nrm])
      by_cases he : us.getD k [] = vs.getD k []
      · rw [decide_eq_true he] at hs
        repeat (first | refine S0 ?_ | refine S1 ?_ | refine S2 ?_ | refine S4 ?_ | refine S5 ?_ | refine S6 ?_ | refine S7 ?_ | refine S8 ?_ | refine S9 ?_ | refine S10 ?_ | refine S11 ?_ | refine S12 ?_ | refine S13 ?_ | refine S15 ?_ | refine S16 ?_ | refine S19 ?_ | refine S20 ?_ | refine S21 ?_ | refine S22 ?_ | refine S23 ?_ | refine S25 ?_ | refine S26 ?_ | refine S29 ?_ | refine S36 ?_)
        refine Scallv (args := [LF c1 (us.getD k []), LF c2 (vs.getD k [])]) hs ?_ (hc := by simp only [PV.cl.clL, LF_cl]; rfl)
        repeat (first | refine S0 ?_ | refine S1 ?_ | refine S2 ?_ | refine S4 ?_ | refine S5 ?_ | refine S6 ?_ | refine S7 ?_ | refine S8 ?_ | refine S9 ?_ | refine S10 ?_ | refine S11 ?_ | refine S12 ?_ | refine S13 ?_ | refine S15 ?_ | refine S16 ?_ | refine S19 ?_ | refine S20 ?_ | refine S21 ?_ | refine S22 ?_ | refine S23 ?_ | refine S25 ?_ | refine S26 ?_ | refine S29 ?_ | refine S36 ?_)
        refine ⟨k + 1, ⟨by omega, ?_⟩, SLx, trivial, by omega⟩
        rw [getD_lt [] hk2, getD_lt [] (show k < vs.length by omega)] at he
        rw [List.take_succ_eq_append_getElem hk2, List.take_succ_eq_append_getElem (show k < vs.length by omega), hg, he]
      · rw [decide_eq_false he] at hs
        repeat (first | refine S0 ?_ | refine S1 ?_ | refine S2 ?_ | refine S4 ?_ | refine S5 ?_ | refine S6 ?_ | refine S7 ?_ | refine S8 ?_ | refine S9 ?_ | refine S10 ?_ | refine S11 ?_ | refine S12 ?_ | refine S13 ?_ | refine S15 ?_ | refine S16 ?_ | refine S19 ?_ | refine S20 ?_ | refine S21 ?_ | refine S22 ?_ | refine S23 ?_ | refine S25 ?_ | refine S26 ?_ | refine S29 ?_ | refine S36 ?_)
        refine Scallv (args := [LF c1 (us.getD k []), LF c2 (vs.getD k [])]) hs ?_ (hc := by simp only [PV.cl.clL, LF_cl]; rfl)
        repeat (first | refine S0 ?_ | refine S1 ?_ | refine S2 ?_ | refine S4 ?_ | refine S5 ?_ | refine S6 ?_ | refine S7 ?_ | refine S8 ?_ | refine S9 ?_ | refine S10 ?_ | refine S11 ?_ | refine S12 ?_ | refine S13 ?_ | refine S15 ?_ | refine S16 ?_ | refine S19 ?_ | refine S20 ?_ | refine S21 ?_ | refine S22 ?_ | refine S23 ?_ | refine S25 ?_ | refine S26 ?_ | refine S29 ?_ | refine S36 ?_)
        rw [show decide (us = vs) = false from decide_eq_false (fun e => he (by rw [e]))]
        exact ⟨.inr rfl, .cl rfl⟩
    · repeat (first | refine S0 ?_ | refine S1 ?_ | refine S2 ?_ | refine S4 ?_ | refine S5 ?_ | refine S6 ?_ | refine S7 ?_ | refine S8 ?_ | refine S9 ?_ | refine S10 ?_ | refine S11 ?_ | refine S12 ?_ | refine S13 ?_ | refine S15 ?_ | refine S16 ?_ | refine S19 ?_ | refine S20 ?_ | refine S21 ?_ | refine S22 ?_ | refine S23 ?_ | refine S25 ?_ | refine S26 ?_ | refine S29 ?_ | refine S36 ?_)
      have e : us = vs := by rw [List.take_of_length_le (by omega), List.take_of_length_le (by omega)] at hg; exact hg
      rw [show decide (us = vs) = true from decide_eq_true e]
      exact ⟨.inr rfl, .cl rfl⟩
  · repeat (first | refine S0 ?_ | refine S1 ?_ | refine S2 ?_ | refine S4 ?_ | refine S5 ?_ | refine S6 ?_ | refine S7 ?_ | refine S8 ?_ | refine S9 ?_ | refine S10 ?_ | refine S11 ?_ | refine S12 ?_ | refine S13 ?_ | refine S15 ?_ | refine S16 ?_ | refine S19 ?_ | refine S20 ?_ | refine S21 ?_ | refine S22 ?_ | refine S23 ?_ | refine S25 ?_ | refine S26 ?_ | refine S29 ?_ | refine S36 ?_)
    rw [show decide (us = vs) = false from decide_eq_false (fun e => hl (by rw [e]))]
    exact ⟨.inr rfl, .cl rfl⟩
end Go.Proofs.Ytgjfpmjllpgadaa
