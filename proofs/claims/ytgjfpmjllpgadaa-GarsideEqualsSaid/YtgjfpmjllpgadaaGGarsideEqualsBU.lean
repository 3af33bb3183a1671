/- An order of reduced words that the letters of braids keep. Plain facts: nothing of the program is here. -/
import Derived.Test.YtgjfpmjllpgadaaGGarsideEqualsAA
set_option linter.unusedVariables false
set_option linter.unusedSimpArgs false
namespace Go.Proofs.Ytgjfpmjllpgadaa

/-- the place of a letter around a vertex; 0 is the end of a word -/
def plcL (n y : Int) : Int := if 0 < y then 2 * y - 2 else if y < 0 then -2 * y - 1 else 2 * n
/-- the place of a letter behind a letter z (0: at the beginning) -/
def rnkL (n z y : Int) : Int := if plcL n (-z) < plcL n y then plcL n y - plcL n (-z) else plcL n y + (2 * n + 1) - plcL n (-z)
/-- the order of words behind a letter z -/
def lt (n : Int) : Int → List Int → List Int → Prop
  | _, [], [] => False
  | z, [], y :: _ => rnkL n z 0 < rnkL n z y
  | z, y :: _, [] => rnkL n z y < rnkL n z 0
  | z, x :: p, y :: q => if x = y then lt n x p q else rnkL n z x < rnkL n z y
/-- a letter of n generators, or the end -/
def inl (n x : Int) : Prop := -n ≤ x ∧ x ≤ n
theorem pos_inj {n x y : Int} (hx : inl n x) (hy : inl n y) (h : plcL n x = plcL n y) : x = y := by
  unfold inl at hx hy
  unfold plcL at h
  repeat' split at h
  all_goals omega
theorem pos_bd {n x : Int} (hx : inl n x) : 0 ≤ plcL n x ∧ plcL n x ≤ 2 * n := by
  unfold inl at hx
  unfold plcL
  repeat' split
  all_goals omega
theorem rank_inj {n z x y : Int} (hz : inl n z) (hx : inl n x) (hy : inl n y) (h : rnkL n z x = rnkL n z y) : x = y := by
  have h1 := pos_bd hx
  have h2 := pos_bd hy
  have h3 := pos_bd (n := n) (x := -z) (by unfold inl at *; omega)
  refine pos_inj hx hy ?_
  unfold rnkL at h
  repeat' split at h
  all_goals omega
theorem lt_irr {n : Int} : ∀ {z : Int} {p : List Int}, ¬ lt n z p p
  | _, [], h => h
  | _, x :: p, h => by
    unfold lt at h
    rw [if_pos rfl] at h
    exact lt_irr h
theorem lt_asym {n : Int} : ∀ {z : Int} {p q : List Int}, lt n z p q → ¬ lt n z q p
  | _, [], [], h, _ => h
  | _, [], _ :: _, h, h' => by unfold lt at h h'; omega
  | _, _ :: _, [], h, h' => by unfold lt at h h'; omega
  | z, x :: p, y :: q, h, h' => by
    unfold lt at h h'
    by_cases e : x = y
    · subst e
      rw [if_pos rfl] at h h'
      exact lt_asym h h'
    · rw [if_neg e] at h
      rw [if_neg (fun e2 => e e2.symm)] at h'
      omega
theorem lt_tri {n : Int} : ∀ {z : Int} {p q : List Int}, inl n z → (∀ x ∈ p, inl n x ∧ x ≠ 0) → (∀ x ∈ q, inl n x ∧ x ≠ 0) → p ≠ q → ¬ lt n z p q → lt n z q p
  | _, [], [], _, _, _, h, _ => absurd rfl h
  | z, [], y :: q, hz, _, hq, _, h => by
    have h1 := hq y (by simp)
    unfold lt at h ⊢
    have h3 : rnkL n z y ≠ rnkL n z 0 := fun e => h1.2 (rank_inj (n := n) (z := z) (x := y) (y := 0) hz h1.1 (by have := h1.1; unfold inl at *; omega) e)
    omega
  | z, x :: p, [], hz, hp, _, _, h => by
    have h1 := hp x (by simp)
    unfold lt at h ⊢
    have h3 : rnkL n z x ≠ rnkL n z 0 := fun e => h1.2 (rank_inj (n := n) (z := z) (x := x) (y := 0) hz h1.1 (by have := h1.1; unfold inl at *; omega) e)
    omega
  | z, x :: p, y :: q, hz, hp, hq, hne, h => by
    have h1 := hp x (by simp)
    have h2 := hq y (by simp)
    unfold lt at h ⊢
    by_cases e : x = y
    · subst e
      rw [if_pos rfl] at h ⊢
      exact lt_tri h1.1 (fun a ha => hp a (by simp [ha])) (fun a ha => hq a (by simp [ha])) (fun e => hne (by rw [e])) h
    · rw [if_neg e] at h
      rw [if_neg (fun e2 => e e2.symm)]
      have h3 : rnkL n z x ≠ rnkL n z y := fun e2 => e (rank_inj hz h1.1 h2.1 e2)
      omega
/-- what lies between two words with the same beginning begins so, too -/
theorem lt_conv {n : Int} : ∀ {H : List Int} {z : Int} {p q r : List Int}, lt n z (H ++ p) q → lt n z q (H ++ r) → ∃ q', q = H ++ q'
  | [], _, _, q, _, _, _ => ⟨q, rfl⟩
  | x :: H, z, p, [], r, h, h' => by
    simp only [List.cons_append] at h h'
    unfold lt at h h'
    omega
  | x :: H, z, p, y :: q, r, h, h' => by
    simp only [List.cons_append] at h h'
    unfold lt at h h'
    by_cases e : x = y
    · subst e
      rw [if_pos rfl] at h h'
      obtain ⟨q', e⟩ := lt_conv h h'
      exact ⟨q', by rw [e]; rfl⟩
    · rw [if_neg e] at h
      rw [if_neg (fun e2 => e e2.symm)] at h'
      omega
end Go.Proofs.Ytgjfpmjllpgadaa

/- The letters of braids keep the order of reduced words. Plain facts: nothing of the program is here. -/
set_option linter.unusedVariables false
set_option linter.unusedSimpArgs false
namespace Go.Proofs.Ytgjfpmjllpgadaa

theorem stp_cons (y x : Int) (p : List Int) : stp y (x :: p) = (sub y x).foldr consR (stp y p) := by
  unfold stp short
  rw [List.flatMap_cons, List.foldr_append]
theorem consR_of {x : Int} {s : List Int} (hx : x ≠ 0) (h : s.headD 0 ≠ -x) : consR x s = x :: s := by
  unfold consR
  rw [if_neg]
  intro e
  cases s with
  | nil => simp at e
  | cons a s => simp at e h; exact h e
theorem consR_off (x : Int) (s : List Int) : consR (-x) (x :: s) = s := by
  unfold consR
  rw [if_pos (by simp)]; rfl
/-- the image without the letter that stands last -/
def ff (k : Int) (p : List Int) : List Int := consR (-k) (stp k p)
theorem sub_k {k : Int} (hk : 1 ≤ k) : sub k k = [k, k + 1, -k] := by
  unfold sub gen; rw [if_neg (by omega), if_pos (by omega), if_pos rfl]
theorem sub_nk {k : Int} (hk : 1 ≤ k) : sub k (-k) = [k, -(k + 1), -k] := by
  rw [sub_neg (by omega), sub_k hk]; simp [invW]
theorem sub_k1 {k : Int} (hk : 1 ≤ k) : sub k (k + 1) = [k] := by
  unfold sub gen; rw [if_neg (by omega), if_pos (by omega), if_neg (by omega), if_pos rfl]
theorem sub_nk1 {k : Int} (hk : 1 ≤ k) : sub k (-(k + 1)) = [-k] := by
  rw [sub_neg (by omega), sub_k1 hk]; simp [invW]
/-- another letter -/
def oth (k x : Int) : Prop := x ≠ k ∧ x ≠ -k ∧ x ≠ k + 1 ∧ x ≠ -(k + 1)
theorem sub_oth {k x : Int} (hk : 1 ≤ k) (h : oth k x) : sub k x = [x] := by
  unfold oth at h
  unfold sub gen
  split
  · rw [if_pos (by omega), if_neg (by omega), if_neg (by omega)]; simp [invW]
  · rw [if_pos (by omega), if_neg (by omega), if_neg (by omega)]
/-- how images begin -/
structure Hd (k : Int) (p : List Int) : Prop where
  a : p.headD 0 ≠ -(k + 1) → (p.headD 0 = k ∨ p.headD 0 = -k ∨ p.headD 0 = k + 1) → (stp k p).headD 0 = k
  b : oth k (p.headD 0) → (stp k p).headD 0 = p.headD 0
  c : p.headD 0 = -(k + 1) → (stp k p).headD 0 = -k ∨ (stp k p).headD 0 = k + 1 ∨ (stp k p).headD 0 = -(k + 1)
  d : p.headD 0 = k → (ff k p).headD 0 = k + 1
  e : p.headD 0 = -k → (ff k p).headD 0 = -(k + 1)
  f : p.headD 0 = k + 1 → (ff k p).headD 0 ≠ -k ∧ (ff k p).headD 0 ≠ k + 1 ∧ (ff k p).headD 0 ≠ -(k + 1)
  g : p.headD 0 = -(k + 1) ∨ oth k (p.headD 0) → (ff k p).headD 0 = -k
/-- the images with one more letter ahead -/
structure Eqs (k x : Int) (p : List Int) : Prop where
  a : x = k → stp k (x :: p) = k :: (k + 1) :: ff k p ∧ ff k (x :: p) = (k + 1) :: ff k p
  b : x = -k → stp k (x :: p) = k :: -(k + 1) :: ff k p ∧ ff k (x :: p) = -(k + 1) :: ff k p
  c : x = k + 1 → stp k (x :: p) = k :: stp k p ∧ ff k (x :: p) = stp k p
  d : x = -(k + 1) → stp k (x :: p) = ff k p ∧ ff k (x :: p) = -k :: ff k p
  e : oth k x → stp k (x :: p) = x :: stp k p ∧ ff k (x :: p) = -k :: x :: stp k p
theorem cls_cases (k x : Int) : x = k ∨ x = -k ∨ x = k + 1 ∨ x = -(k + 1) ∨ oth k x := by
  unfold oth; omega
theorem Hd.ff3 {k : Int} {p : List Int} (H : Hd k p) (h : p.headD 0 ≠ k + 1) : (ff k p).headD 0 = -k ∨ (ff k p).headD 0 = k + 1 ∨ (ff k p).headD 0 = -(k + 1) := by
  rcases cls_cases k (p.headD 0) with e | e | e | e | e
  · exact .inr (.inl (H.d e))
  · exact .inr (.inr (H.e e))
  · exact absurd e h
  · exact .inl (H.g (.inl e))
  · exact .inl (H.g (.inr e))
theorem Hd.st3 {k : Int} (hk : 1 ≤ k) {p : List Int} (H : Hd k p) (h : p.headD 0 ≠ -(k + 1)) : (stp k p).headD 0 ≠ -k ∧ (stp k p).headD 0 ≠ k + 1 ∧ (stp k p).headD 0 ≠ -(k + 1) := by
  rcases cls_cases k (p.headD 0) with e | e | e | e | e
  · rw [H.a h (.inl e)]; omega
  · rw [H.a h (.inr (.inl e))]; omega
  · rw [H.a h (.inr (.inr e))]; omega
  · exact absurd e h
  · rw [H.b e]; unfold oth at e; omega
theorem eqs_of {k x : Int} (hk : 1 ≤ k) {p : List Int} (H : Hd k p) (hx : x ≠ 0) (hp : p.headD 0 ≠ -x) : Eqs k x p := by
  refine ⟨fun e => ?_, fun e => ?_, fun e => ?_, fun e => ?_, fun e => ?_⟩
  · subst e
    have h1 : stp x (x :: p) = x :: (x + 1) :: ff x p := by
      rw [stp_cons, sub_k hk]
      show consR x (consR (x + 1) (ff x p)) = _
      rw [consR_of (x := x + 1) (by omega), consR_of (by omega) (by simp only [List.headD_cons]; omega)]
      rcases cls_cases x (p.headD 0) with e | e | e | e | e
      · rw [H.d e]; omega
      · exact absurd e hp
      · have := H.f e; omega
      · rw [H.g (.inl e)]; omega
      · rw [H.g (.inr e)]; omega
    exact ⟨h1, by unfold ff; rw [h1, consR_off]; rfl⟩
  · subst e
    have h1 : stp k (-k :: p) = k :: -(k + 1) :: ff k p := by
      rw [stp_cons, sub_nk hk]
      show consR k (consR (-(k + 1)) (ff k p)) = _
      rw [consR_of (x := -(k + 1)) (by omega), consR_of (by omega) (by simp only [List.headD_cons]; omega)]
      rcases cls_cases k (p.headD 0) with e | e | e | e | e
      · omega
      · rw [H.e e]; omega
      · have := H.f e; omega
      · rw [H.g (.inl e)]; omega
      · rw [H.g (.inr e)]; omega
    exact ⟨h1, by unfold ff; rw [h1, consR_off]; rfl⟩
  · subst e
    have h1 : stp k ((k + 1) :: p) = k :: stp k p := by
      rw [stp_cons, sub_k1 hk]
      show consR k (stp k p) = _
      exact consR_of (by omega) (H.st3 hk hp).1
    exact ⟨h1, by unfold ff; rw [h1, consR_off]⟩
  · subst e
    have h1 : stp k (-(k + 1) :: p) = ff k p := by rw [stp_cons, sub_nk1 hk]; rfl
    refine ⟨h1, ?_⟩
    show consR (-k) (stp k (-(k + 1) :: p)) = _
    rw [h1]
    refine consR_of (by omega) ?_
    rcases H.ff3 (by omega) with e | e | e <;> omega
  · have h1 : stp k (x :: p) = x :: stp k p := by
      rw [stp_cons, sub_oth hk e]
      show consR x (stp k p) = _
      refine consR_of hx ?_
      unfold oth at e
      rcases cls_cases k (p.headD 0) with c | c | c | c | c
      · rw [H.a (by omega) (by omega)]; omega
      · rw [H.a (by omega) (by omega)]; omega
      · rw [H.a (by omega) (by omega)]; omega
      · rcases H.c c with c | c | c <;> omega
      · rw [H.b c]; exact hp
    refine ⟨h1, ?_⟩
    show consR (-k) (stp k (x :: p)) = _
    rw [h1]
    exact consR_of (by omega) (by unfold oth at e; simp only [List.headD_cons]; omega)
theorem rd_head {x : Int} {p : List Int} (h : Rd (x :: p)) (hx : x ≠ 0) : p.headD 0 ≠ -x := by
  cases p with
  | nil => simp only [List.headD_nil]; omega
  | cons y p => exact h.1
theorem hd_all {k : Int} (hk : 1 ≤ k) : ∀ p : List Int, Rd p → (∀ x ∈ p, x ≠ 0) → Hd k p
  | [], _, _ => by
    have e1 : stp k [] = [] := rfl
    have e2 : ff k [] = [-k] := rfl
    refine ⟨fun _ h => ?_, fun _ => ?_, fun h => ?_, fun h => ?_, fun h => ?_, fun h => ?_, fun _ => ?_⟩
    all_goals simp only [e1, e2, List.headD_nil, List.headD_cons] at *
    all_goals omega
  | x :: p, hr, h0 => by
    have hx := h0 x (by simp)
    have H := hd_all hk p hr.tail (fun a ha => h0 a (by simp [ha]))
    have hp := rd_head hr hx
    have E := eqs_of hk H hx hp
    refine ⟨fun h1 h => ?_, fun h => ?_, fun h => ?_, fun h => ?_, fun h => ?_, fun h => ?_, fun h => ?_⟩
    all_goals simp only [List.headD_cons] at *
    · rcases h with h | h | h
      · rw [(E.a h).1]; rfl
      · rw [(E.b h).1]; rfl
      · rw [(E.c h).1]; rfl
    · rw [(E.e h).1]; rfl
    · rw [(E.d h).1]; exact H.ff3 (by omega)
    · rw [(E.a h).2]; rfl
    · rw [(E.b h).2]; rfl
    · rw [(E.c h).2]; exact H.st3 hk (by omega)
    · rcases h with h | h
      · rw [(E.d h).2]; rfl
      · rw [(E.e h).2]; rfl
end Go.Proofs.Ytgjfpmjllpgadaa

/- The letters of braids keep the order of reduced words: the steps. Plain facts: nothing of the program is here. -/
set_option linter.unusedVariables false
set_option linter.unusedSimpArgs false
namespace Go.Proofs.Ytgjfpmjllpgadaa

theorem rank_spec (n z y : Int) : (plcL n (-z) < plcL n y ∧ rnkL n z y = plcL n y - plcL n (-z)) ∨ (plcL n y ≤ plcL n (-z) ∧ rnkL n z y = plcL n y + (2 * n + 1) - plcL n (-z)) := by
  unfold rnkL
  split
  · exact .inl ⟨by assumption, rfl⟩
  · exact .inr ⟨by omega, rfl⟩
theorem pos_k {n k : Int} (hk : 1 ≤ k) : plcL n k = 2 * k - 2 := by unfold plcL; rw [if_pos (by omega)]
theorem pos_nk {n k : Int} (hk : 1 ≤ k) : plcL n (-k) = 2 * k - 1 := by unfold plcL; rw [if_neg (by omega), if_pos (by omega)]; omega
theorem pos_oth {n k x : Int} (hk : 1 ≤ k) (hkn : k < n) (hx : inl n x) (h : oth k x) : plcL n x < 2 * k - 2 ∨ 2 * k + 1 < plcL n x := by
  unfold inl at hx
  unfold oth at h
  unfold plcL
  repeat' split
  all_goals omega
theorem oth_neg {k x : Int} (h : oth k x) : oth k (-x) := by unfold oth at *; omega
theorem inl_neg {n x : Int} (h : inl n x) : inl n (-x) := by unfold inl at *; omega
/-- words compared by their first letters -/
theorem lt_heads {n z : Int} {s t : List Int} (hs : ∀ x ∈ s, x ≠ 0) (ht : ∀ x ∈ t, x ≠ 0) (h : rnkL n z (s.headD 0) < rnkL n z (t.headD 0)) : lt n z s t := by
  cases s with
  | nil =>
    cases t with
    | nil => simp at h
    | cons y t => simpa [lt] using h
  | cons x s =>
    cases t with
    | nil => simpa [lt] using h
    | cons y t =>
      simp only [List.headD_cons] at h
      unfold lt
      rw [if_neg (fun e => by subst e; omega)]
      exact h
theorem lt_cons {n z x : Int} {s t : List Int} (h : lt n x s t) : lt n z (x :: s) (x :: t) := by
  unfold lt
  rw [if_pos rfl]; exact h
theorem lt_head_of {n z x y : Int} {s t : List Int} (h : lt n z (x :: s) (y :: t)) (hne : x ≠ y) : rnkL n z x < rnkL n z y := by
  unfold lt at h
  rwa [if_neg hne] at h
/-- different first letters -/
theorem lt_hd {n z : Int} {s t : List Int} (h : lt n z s t) (hne : s.headD 0 ≠ t.headD 0) : rnkL n z (s.headD 0) < rnkL n z (t.headD 0) := by
  cases s with
  | nil =>
    cases t with
    | nil => exact absurd h (by simp [lt])
    | cons y t => simpa [lt] using h
  | cons x s =>
    cases t with
    | nil => simpa [lt] using h
    | cons y t => exact lt_head_of h hne
/-- words of letters of n generators -/
structure Wn (n : Int) (p : List Int) : Prop where
  rd : Rd p
  le : ∀ x ∈ p, inl n x ∧ x ≠ 0
theorem Wn.nz {n : Int} {p : List Int} (h : Wn n p) : ∀ x ∈ p, x ≠ 0 := fun x hx => (h.le x hx).2
theorem Wn.tail {n x : Int} {p : List Int} (h : Wn n (x :: p)) : Wn n p := ⟨h.rd.tail, fun y hy => h.le y (by simp [hy])⟩
theorem Wn.head {n : Int} {p : List Int} (h : Wn n p) (hn : 0 ≤ n) : inl n (p.headD 0) := by
  cases p with
  | nil => unfold inl; simp only [List.headD_nil]; omega
  | cons x p => exact (h.le x (by simp)).1
end Go.Proofs.Ytgjfpmjllpgadaa

/- The letters of braids keep the order of reduced words. Plain facts: nothing of the program is here. -/
set_option linter.unusedVariables false
set_option linter.unusedSimpArgs false
namespace Go.Proofs.Ytgjfpmjllpgadaa

/-- behind the place P comes A before B -/
def cyc (P A B : Int) : Prop := (P < A ∧ B ≤ P) ∨ (A < B ∧ (P < A ∨ B ≤ P))
theorem rank_cyc {n z a b : Int} (hz : inl n z) (ha : inl n a) (hb : inl n b) : rnkL n z a < rnkL n z b ↔ cyc (plcL n (-z)) (plcL n a) (plcL n b) := by
  have h1 := pos_bd (inl_neg hz)
  have h2 := pos_bd ha
  have h3 := pos_bd hb
  have r1 := rank_spec n z a
  have r2 := rank_spec n z b
  unfold cyc
  constructor
  · intro h; omega
  · intro h; omega
def Z0 (k z zb : Int) : Prop := (z = k + 1 ∧ (zb = k ∨ zb = k + 1 ∨ zb = -(k + 1))) ∨ (z = zb ∧ oth k z)
def Z1 (k z zb : Int) : Prop := (z = k ∧ zb = k + 1) ∨ (z = -k ∧ zb = -(k + 1)) ∨ (z = -(k + 1) ∧ (zb = -k ∨ oth k zb))
/-- the places of the letters ahead -/
theorem z0_pos {n k z zb : Int} (hk : 1 ≤ k) (hkn : k < n) (hz : inl n z) (h : Z0 k z zb) : (plcL n (-z) = 2 * k + 1 ∧ (plcL n (-zb) = 2 * k - 1 ∨ plcL n (-zb) = 2 * k + 1 ∨ plcL n (-zb) = 2 * k)) ∨ (plcL n (-z) = plcL n (-zb) ∧ (plcL n (-z) < 2 * k - 2 ∨ 2 * k + 1 < plcL n (-z))) := by
  rcases h with ⟨rfl, h⟩ | ⟨rfl, h⟩
  · refine .inl ⟨by rw [pos_nk (by omega)]; omega, ?_⟩
    rcases h with rfl | rfl | rfl
    · exact .inl (by rw [pos_nk hk])
    · exact .inr (.inl (by rw [pos_nk (by omega)]; omega))
    · exact .inr (.inr (by rw [Int.neg_neg, pos_k (by omega)]; omega))
  · exact .inr ⟨rfl, pos_oth hk hkn (inl_neg hz) (oth_neg h)⟩
theorem z1_pos {n k z zb : Int} (hk : 1 ≤ k) (hkn : k < n) (hzb : inl n zb) (h : Z1 k z zb) : (plcL n (-z) = 2 * k - 1 ∧ plcL n (-zb) = 2 * k + 1) ∨ (plcL n (-z) = 2 * k - 2 ∧ plcL n (-zb) = 2 * k) ∨ (plcL n (-z) = 2 * k ∧ (plcL n (-zb) = 2 * k - 2 ∨ plcL n (-zb) < 2 * k - 2 ∨ 2 * k + 1 < plcL n (-zb))) := by
  rcases h with ⟨rfl, rfl⟩ | ⟨rfl, rfl⟩ | ⟨rfl, h⟩
  · exact .inl ⟨by rw [pos_nk hk], by rw [pos_nk (by omega)]; omega⟩
  · exact .inr (.inl ⟨by rw [Int.neg_neg, pos_k hk], by rw [Int.neg_neg, pos_k (by omega)]; omega⟩)
  · refine .inr (.inr ⟨by rw [Int.neg_neg, pos_k (by omega)]; omega, ?_⟩)
    rcases h with rfl | h
    · exact .inl (by rw [Int.neg_neg, pos_k hk])
    · exact .inr (pos_oth hk hkn (inl_neg hzb) (oth_neg h))
/-- four facts on places -/
theorem cyc_a {k P P' A B A' B' : Int} (h : cyc P A B) (hA : A ≠ P ∨ P < 2 * k - 2 ∨ 2 * k + 1 < P) (hB : B ≠ P ∨ P < 2 * k - 2 ∨ 2 * k + 1 < P) (hP : (P = 2 * k + 1 ∧ (P' = 2 * k - 1 ∨ P' = 2 * k + 1 ∨ P' = 2 * k)) ∨ (P = P' ∧ (P < 2 * k - 2 ∨ 2 * k + 1 < P)))
    (h1 : 2 * k - 2 ≤ A ∧ A ≤ 2 * k → A' = 2 * k - 2) (h2 : A = 2 * k + 1 → 2 * k - 1 ≤ A' ∧ A' ≤ 2 * k + 1) (h3 : A < 2 * k - 2 ∨ 2 * k + 1 < A → A' = A)
    (g1 : 2 * k - 2 ≤ B ∧ B ≤ 2 * k → B' = 2 * k - 2) (g2 : B = 2 * k + 1 → 2 * k - 1 ≤ B' ∧ B' ≤ 2 * k + 1) (g3 : B < 2 * k - 2 ∨ 2 * k + 1 < B → B' = B)
    (hne : A ≠ B) (hno : ¬ ((2 * k - 2 ≤ A ∧ A ≤ 2 * k) ∧ (2 * k - 2 ≤ B ∧ B ≤ 2 * k))) : cyc P' A' B' := by
  unfold cyc at *; omega
theorem cyc_b {k P P' A B A2 B2 : Int} (h : cyc P A B) (hP : (P = 2 * k + 1 ∧ (P' = 2 * k - 1 ∨ P' = 2 * k + 1 ∨ P' = 2 * k)) ∨ (P = P' ∧ (P < 2 * k - 2 ∨ 2 * k + 1 < P)))
    (h1 : A = 2 * k - 2 → A2 = 2 * k) (h2 : A = 2 * k - 1 → A2 = 2 * k + 1) (h3 : A = 2 * k → A2 < 2 * k - 1 ∨ 2 * k + 1 < A2)
    (g1 : B = 2 * k - 2 → B2 = 2 * k) (g2 : B = 2 * k - 1 → B2 = 2 * k + 1) (g3 : B = 2 * k → B2 < 2 * k - 1 ∨ 2 * k + 1 < B2)
    (hne : A ≠ B) (hno : (2 * k - 2 ≤ A ∧ A ≤ 2 * k) ∧ (2 * k - 2 ≤ B ∧ B ≤ 2 * k)) : cyc (2 * k - 1) A2 B2 := by
  unfold cyc at *; omega
theorem cyc_c {k P P' A B A' B' : Int} (h : cyc P A B) (hA : A ≠ P) (hB : B ≠ P) (hP : (P = 2 * k - 1 ∧ P' = 2 * k + 1) ∨ (P = 2 * k - 2 ∧ P' = 2 * k) ∨ (P = 2 * k ∧ (P' = 2 * k - 2 ∨ P' < 2 * k - 2 ∨ 2 * k + 1 < P')))
    (h1 : A = 2 * k - 2 → A' = 2 * k) (h2 : A = 2 * k - 1 → A' = 2 * k + 1) (h3 : A = 2 * k → A' < 2 * k - 1 ∨ 2 * k + 1 < A') (h4 : A < 2 * k - 2 ∨ 2 * k < A → A' = 2 * k - 1)
    (g1 : B = 2 * k - 2 → B' = 2 * k) (g2 : B = 2 * k - 1 → B' = 2 * k + 1) (g3 : B = 2 * k → B' < 2 * k - 1 ∨ 2 * k + 1 < B') (g4 : B < 2 * k - 2 ∨ 2 * k < B → B' = 2 * k - 1)
    (hne : A ≠ B) (hno : ¬ ((A < 2 * k - 2 ∨ 2 * k < A) ∧ (B < 2 * k - 2 ∨ 2 * k < B))) : cyc P' A' B' := by
  unfold cyc at *; omega
theorem cyc_d {k P P' A B A2 B2 : Int} (h : cyc P A B) (hP : (P = 2 * k - 1 ∧ P' = 2 * k + 1) ∨ (P = 2 * k - 2 ∧ P' = 2 * k) ∨ (P = 2 * k ∧ (P' = 2 * k - 2 ∨ P' < 2 * k - 2 ∨ 2 * k + 1 < P')))
    (h1 : A = 2 * k + 1 → 2 * k - 1 ≤ A2 ∧ A2 ≤ 2 * k + 1) (h2 : A < 2 * k - 2 ∨ 2 * k + 1 < A → A2 = A)
    (g1 : B = 2 * k + 1 → 2 * k - 1 ≤ B2 ∧ B2 ≤ 2 * k + 1) (g2 : B < 2 * k - 2 ∨ 2 * k + 1 < B → B2 = B)
    (hne : A ≠ B) (hno : (A < 2 * k - 2 ∨ 2 * k < A) ∧ (B < 2 * k - 2 ∨ 2 * k < B)) : cyc (2 * k - 2) A2 B2 := by
  unfold cyc at *; omega
end Go.Proofs.Ytgjfpmjllpgadaa
