/- Facts and contracts that the claim uses. No condition of its own. -/
import Derived.Test.YtdlpbpfcgjgppaaGJonesStatesAA
set_option linter.unusedVariables false
set_option linter.unusedSimpArgs false
namespace Go.Proofs.Ytdlpbpfcgjgppaa
/-! ### sums over windows -/
def sI (lo : Int) : Nat → (Int → Int) → Int
  | 0, _ => 0
  | n + 1, F => sI lo n F + F (lo + n)
theorem sI_congr {lo : Int} {F G : Int → Int} : ∀ {n : Nat}, (∀ i, lo ≤ i → i < lo + n → F i = G i) → sI lo n F = sI lo n G
  | 0, _ => rfl
  | n + 1, h => by
    simp only [sI]
    rw [sI_congr (n := n) (fun i h1 h2 => h i h1 (by omega)), h (lo + n) (by omega) (by omega)]
theorem sI_zero {lo : Int} {F : Int → Int} : ∀ {n : Nat}, (∀ i, lo ≤ i → i < lo + n → F i = 0) → sI lo n F = 0
  | 0, _ => rfl
  | n + 1, h => by
    simp only [sI]
    rw [sI_zero (n := n) (fun i h1 h2 => h i h1 (by omega)), h (lo + n) (by omega) (by omega)]; rfl
theorem sI_add (lo : Int) (F G : Int → Int) : ∀ n : Nat, sI lo n (fun i => F i + G i) = sI lo n F + sI lo n G
  | 0 => rfl
  | n + 1 => by simp only [sI]; rw [sI_add lo F G n]; omega
theorem sI_mul (lo : Int) (c : Int) (F : Int → Int) : ∀ n : Nat, sI lo n (fun i => c * F i) = c * sI lo n F
  | 0 => by simp [sI]
  | n + 1 => by simp only [sI]; rw [sI_mul lo c F n, Int.mul_add]
theorem sI_mulr (lo : Int) (c : Int) (F : Int → Int) : ∀ n : Nat, sI lo n (fun i => F i * c) = sI lo n F * c
  | 0 => by simp [sI]
  | n + 1 => by simp only [sI]; rw [sI_mulr lo c F n, Int.add_mul]
theorem sI_split (lo : Int) (F : Int → Int) (n : Nat) : ∀ m : Nat, sI lo (n + m) F = sI lo n F + sI (lo + n) m F
  | 0 => by simp [sI]
  | m + 1 => by
    show sI lo (n + m) F + F (lo + ((n + m : Nat) : Int)) = sI lo n F + (sI (lo + n) m F + F (lo + n + m))
    rw [sI_split lo F n m, show lo + ((n + m : Nat) : Int) = lo + n + m by omega]; omega
theorem sI_swap (F : Int → Int → Int) (lo : Int) (lo' : Int) (m : Nat) : ∀ n : Nat, sI lo n (fun i => sI lo' m (fun j => F i j)) = sI lo' m (fun j => sI lo n (fun i => F i j))
  | 0 => by
    rw [sI_zero (F := fun j => sI lo 0 (fun i => F i j)) (fun i _ _ => rfl)]; rfl
  | n + 1 => by
    show sI lo n (fun i => sI lo' m (fun j => F i j)) + sI lo' m (fun j => F (lo + n) j) = sI lo' m (fun j => sI lo n (fun i => F i j) + F (lo + n) j)
    rw [sI_swap F lo lo' m n, ← sI_add]
theorem sI_shift (lo s : Int) (F : Int → Int) : ∀ n : Nat, sI lo n (fun i => F (i + s)) = sI (lo + s) n F
  | 0 => rfl
  | n + 1 => by
    simp only [sI]
    rw [sI_shift lo s F n, show lo + (n : Int) + s = lo + s + n by omega]
theorem sI_front (lo : Int) (F : Int → Int) (n : Nat) : sI lo (n + 1) F = F lo + sI (lo + 1) n F := by
  rw [show n + 1 = 1 + n by omega, sI_split]
  simp [sI]
theorem sI_refl (e : Int) (F : Int → Int) : ∀ (n : Nat) (lo : Int), sI lo n (fun i => F (e - i)) = sI (e - lo - n + 1) n F
  | 0, _ => rfl
  | n + 1, lo => by
    rw [sI_front lo _ n]
    rw [sI_refl e F n (lo + 1)]
    show _ = sI (e - lo - ((n + 1 : Nat) : Int) + 1) n F + F (e - lo - ((n + 1 : Nat) : Int) + 1 + n)
    rw [show e - (lo + 1) - (n : Int) + 1 = e - lo - ((n + 1 : Nat) : Int) + 1 by omega, show e - lo - ((n + 1 : Nat) : Int) + 1 + n = e - lo by omega]; omega
def Win (F : Int → Int) (lo : Int) (n : Nat) : Prop := ∀ i, F i ≠ 0 → lo ≤ i ∧ i < lo + n
theorem Win.zero {F : Int → Int} {lo : Int} {n : Nat} (h : Win F lo n) {i : Int} (hi : i < lo ∨ lo + n ≤ i) : F i = 0 :=
  Classical.byContradiction fun hh => by have := h i hh; omega
theorem sI_wide {F : Int → Int} {lo lo' : Int} {n n' : Nat} (h : Win F lo n) (h1 : lo' ≤ lo) (h2 : lo + n ≤ lo' + n') : sI lo' n' F = sI lo n F := by
  obtain ⟨a, ha⟩ : ∃ a : Nat, lo = lo' + a := ⟨(lo - lo').toNat, by omega⟩
  subst ha
  obtain ⟨b, rfl⟩ : ∃ b : Nat, n' = a + (n + b) := ⟨n' - a - n, by omega⟩
  rw [sI_split, sI_split, sI_zero (n := a) (fun i h3 h4 => h.zero (by omega)), sI_zero (n := b) (fun i h3 h4 => h.zero (by omega))]
  omega
theorem sI_win {F : Int → Int} {lo lo' : Int} {n n' : Nat} (h : Win F lo n) (h' : Win F lo' n') : sI lo n F = sI lo' n' F := by
  have k1 := sI_wide (lo' := min lo lo') (n' := (max (lo + n) (lo' + n') - min lo lo').toNat) h (by omega) (by omega)
  have k2 := sI_wide (lo' := min lo lo') (n' := (max (lo + n) (lo' + n') - min lo lo').toNat) h' (by omega) (by omega)
  exact k1.symm.trans k2
/-! ### the ring -/
structure LP where
  f : Int → Int
  bd : ∃ lo n, Win f lo n
theorem LP.ext {a b : LP} (h : ∀ e, a.f e = b.f e) : a = b := by
  obtain ⟨f, hf⟩ := a
  obtain ⟨g, hg⟩ := b
  have : f = g := funext h
  subst this; rfl
noncomputable def LP.lo (a : LP) : Int := Classical.choose a.bd
noncomputable def LP.n (a : LP) : Nat := Classical.choose (Classical.choose_spec a.bd)
theorem LP.win (a : LP) : Win a.f a.lo a.n := Classical.choose_spec (Classical.choose_spec a.bd)
theorem Win.conv {f g : Int → Int} {lo : Int} {n : Nat} (h : Win f lo n) (e : Int) : Win (fun i => f i * g (e - i)) lo n := fun i hi => h i (fun hh => hi (by simp only [hh, Int.zero_mul]))
theorem Win.convr {f g : Int → Int} {lo : Int} {n : Nat} (h : Win g lo n) (e : Int) : Win (fun i => f i * g (e - i)) (e - lo - n + 1) n := fun i hi => by
  have := h (e - i) (fun hh => hi (by simp only [hh, Int.mul_zero]))
  omega
noncomputable def cvF (a b : LP) (e : Int) : Int := sI a.lo a.n (fun i => a.f i * b.f (e - i))
theorem cvF_eq (a b : LP) (e : Int) {lo : Int} {n : Nat} (h : Win a.f lo n) : cvF a b e = sI lo n (fun i => a.f i * b.f (e - i)) := sI_win (a.win.conv e) (h.conv e)
theorem cvF_win (a b : LP) {l1 l2 : Int} {n1 n2 : Nat} (h1 : Win a.f l1 n1) (h2 : Win b.f l2 n2) : Win (cvF a b) (l1 + l2) (n1 + n2) := fun e he => by
  apply Classical.byContradiction
  intro hc
  apply he
  rw [cvF_eq a b e h1]
  refine sI_zero (fun i h3 h4 => ?_)
  by_cases hb : b.f (e - i) = 0
  · rw [hb, Int.mul_zero]
  · have := h2 _ hb; omega
noncomputable def LP.mul (a b : LP) : LP := ⟨cvF a b, _, _, cvF_win a b a.win b.win⟩
def LP.add (a b : LP) : LP := ⟨fun e => a.f e + b.f e, by
  obtain ⟨l1, n1, h1⟩ := a.bd
  obtain ⟨l2, n2, h2⟩ := b.bd
  refine ⟨min l1 l2, (max (l1 + n1) (l2 + n2) - min l1 l2).toNat, fun i hi => ?_⟩
  by_cases c : a.f i = 0
  · have := h2 i (fun hh => hi (by simp only [c, hh]; rfl)); omega
  · have := h1 i c; omega⟩
def LP.smul (k : Int) (a : LP) : LP := ⟨fun e => k * a.f e, by
  obtain ⟨l1, n1, h1⟩ := a.bd
  exact ⟨l1, n1, fun i hi => h1 i (fun hh => hi (by simp only [hh, Int.mul_zero]))⟩⟩
def LP.mono (c e : Int) : LP := ⟨fun i => if i = e then c else 0, e, 1, fun i hi => by
  have : i = e := Classical.byContradiction fun hh => hi (if_neg hh)
  omega⟩
noncomputable instance : Mul LP := ⟨LP.mul⟩
instance : Add LP := ⟨LP.add⟩
instance : Zero LP := ⟨⟨fun _ => 0, 0, 0, fun _ h => absurd rfl h⟩⟩
instance : One LP := ⟨LP.mono 1 0⟩
theorem LP.add_f (a b : LP) (e : Int) : (a + b).f e = a.f e + b.f e := rfl
theorem LP.mul_f (a b : LP) (e : Int) : (a * b).f e = cvF a b e := rfl
theorem LP.zero_f (e : Int) : (0 : LP).f e = 0 := rfl
theorem LP.smul_f (k : Int) (a : LP) (e : Int) : (LP.smul k a).f e = k * a.f e := rfl
theorem LP.mono_f (c i e : Int) : (LP.mono c i).f e = if e = i then c else 0 := rfl
theorem LP.one_eq : (1 : LP) = LP.mono 1 0 := rfl
theorem LP.add_comm (a b : LP) : a + b = b + a := LP.ext fun e => by rw [LP.add_f, LP.add_f, Int.add_comm]
theorem LP.add_assoc (a b c : LP) : a + b + c = a + (b + c) := LP.ext fun e => by simp only [LP.add_f, Int.add_assoc]
theorem LP.add_zero (a : LP) : a + 0 = a := LP.ext fun e => by rw [LP.add_f, LP.zero_f, Int.add_zero]
theorem LP.zero_add (a : LP) : 0 + a = a := LP.ext fun e => by rw [LP.add_f, LP.zero_f, Int.zero_add]
theorem LP.mul_comm (a b : LP) : a * b = b * a := LP.ext fun e => by
  rw [LP.mul_f, LP.mul_f, cvF_eq b a e b.win]
  have h := sI_refl e (fun i => a.f (e - i) * b.f i) a.n a.lo
  have h1 : cvF a b e = sI a.lo a.n (fun i => a.f (e - (e - i)) * b.f (e - i)) := sI_congr (fun i _ _ => by rw [show e - (e - i) = i by omega])
  rw [h1, h]
  have hw : Win (fun i => b.f i * a.f (e - i)) (e - a.lo - a.n + 1) a.n := a.win.convr e
  have hw2 : Win (fun i => b.f i * a.f (e - i)) b.lo b.n := b.win.conv e
  rw [← sI_win hw hw2]
  exact sI_congr (fun i _ _ => Int.mul_comm _ _)
theorem LP.add_mul (a b c : LP) : (a + b) * c = a * c + b * c := LP.ext fun e => by
  obtain ⟨l, n, hl⟩ : ∃ l n, Win a.f l n ∧ Win b.f l n := by
    refine ⟨min a.lo b.lo, (max (a.lo + a.n) (b.lo + b.n) - min a.lo b.lo).toNat, fun i hi => ?_, fun i hi => ?_⟩
    · have := a.win i hi; omega
    · have := b.win i hi; omega
  have hab : Win (a + b).f l n := fun i hi => by
    by_cases h : a.f i = 0
    · exact hl.2 i (fun hh => hi (by rw [LP.add_f, h, hh]; rfl))
    · exact hl.1 i h
  rw [LP.mul_f, LP.add_f, LP.mul_f, LP.mul_f, cvF_eq _ c e hab, cvF_eq a c e hl.1, cvF_eq b c e hl.2, ← sI_add]
  exact sI_congr (fun i _ _ => by rw [LP.add_f, Int.add_mul])
theorem LP.mul_add (a b c : LP) : a * (b + c) = a * b + a * c := by rw [LP.mul_comm, LP.add_mul, LP.mul_comm b, LP.mul_comm c]
theorem LP.mul_assoc (a b c : LP) : a * b * c = a * (b * c) := LP.ext fun e => by
  rw [LP.mul_f, cvF_eq (a * b) c e (cvF_win a b a.win b.win), LP.mul_f, cvF_eq a (b * c) e a.win]
  have h1 : sI (a.lo + b.lo) (a.n + b.n) (fun j => (a * b).f j * c.f (e - j)) = sI (a.lo + b.lo) (a.n + b.n) (fun j => sI a.lo a.n (fun i => a.f i * b.f (j - i) * c.f (e - j))) :=
    sI_congr (fun j _ _ => by
      rw [LP.mul_f, cvF_eq a b j a.win, ← sI_mulr])
  rw [h1, ← sI_swap (fun i j => a.f i * b.f (j - i) * c.f (e - j))]
  refine sI_congr (fun i h2 h3 => ?_)
  rw [LP.mul_f, cvF_eq b c (e - i) b.win, ← sI_mul]
  have h4 := sI_shift b.lo i (fun j => a.f i * b.f (j - i) * c.f (e - j)) b.n
  have h5 : sI b.lo b.n (fun k => a.f i * (b.f k * c.f (e - i - k))) = sI b.lo b.n (fun k => a.f i * b.f (k + i - i) * c.f (e - (k + i))) := sI_congr (fun k _ _ => by rw [show k + i - i = k by omega, show e - (k + i) = e - i - k by omega, Int.mul_assoc])
  rw [h5, h4]
  refine sI_wide (F := fun j => a.f i * b.f (j - i) * c.f (e - j)) (fun j hj => ?_) (by omega) (by omega)
  have : b.f (j - i) ≠ 0 := fun hh => hj (by simp only [hh, Int.mul_zero, Int.zero_mul])
  have := b.win _ this
  omega
theorem LP.mono_mul (c i : Int) (a : LP) (e : Int) : (LP.mono c i * a).f e = c * a.f (e - i) := by
  have hw : Win (LP.mono c i).f i 1 := fun j hj => by
    have : j = i := Classical.byContradiction fun hh => hj (if_neg hh)
    omega
  rw [LP.mul_f, cvF_eq _ a e hw]
  simp [sI, LP.mono_f]
theorem LP.one_mul (a : LP) : 1 * a = a := LP.ext fun e => by rw [LP.one_eq, LP.mono_mul, Int.one_mul, Int.sub_zero]
theorem LP.mul_one (a : LP) : a * 1 = a := by rw [LP.mul_comm, LP.one_mul]
theorem LP.zero_mul (a : LP) : 0 * a = 0 := LP.ext fun e => by
  rw [LP.mul_f, cvF_eq 0 a e (lo := 0) (n := 0) (fun i hi => absurd rfl hi)]; rfl
theorem LP.mul_zero (a : LP) : a * 0 = 0 := by rw [LP.mul_comm, LP.zero_mul]
theorem LP.mono_mono (c d i j : Int) : LP.mono c i * LP.mono d j = LP.mono (c * d) (i + j) := LP.ext fun e => by
  rw [LP.mono_mul, LP.mono_f, LP.mono_f]
  by_cases h : e - i = j
  · rw [if_pos h, if_pos (by omega)]
  · rw [if_neg h, if_neg (by omega), Int.mul_zero]
instance : Neg LP := ⟨LP.smul (-1)⟩
theorem LP.smul_one (a : LP) : LP.smul 1 a = a := LP.ext fun e => by rw [LP.smul_f, Int.one_mul]
instance : Std.Associative (α := LP) (· + ·) := ⟨LP.add_assoc⟩
instance : Std.Commutative (α := LP) (· + ·) := ⟨LP.add_comm⟩
instance : Std.Associative (α := LP) (· * ·) := ⟨LP.mul_assoc⟩
instance : Std.Commutative (α := LP) (· * ·) := ⟨LP.mul_comm⟩
end Go.Proofs.Ytdlpbpfcgjgppaa

/- Facts and contracts that the claim uses. No condition of its own. -/
set_option linter.unusedVariables false
set_option linter.unusedSimpArgs false
namespace Go.Proofs.Ytdlpbpfcgjgppaa
def mark (D : Nat → Bool) (x : Nat) : Nat → Bool := fun j => if j = x then true else D j
def wk (xs : List Int) : Nat → Nat → (Nat → Bool) → List Int → List Int × (Nat → Bool)
  | 0, _, D, c => (c, D)
  | f + 1, x, D, c => if D x then (c, D) else wk xs f (xs.getD x 0).toNat (mark D x) (c ++ [(x : Int)])
def freeN (D : Nat → Bool) : Nat → Nat
  | 0 => 0
  | n + 1 => freeN D n + if D n then 0 else 1
theorem freeN_le (D : Nat → Bool) : ∀ n, freeN D n ≤ n
  | 0 => Nat.le_refl _
  | n + 1 => by have := freeN_le D n; simp only [freeN]; split <;> omega
theorem freeN_mark_ge {D : Nat → Bool} {x : Nat} : ∀ n, n ≤ x → freeN (mark D x) n = freeN D n
  | 0, _ => rfl
  | n + 1, h => by
    have := freeN_mark_ge (D := D) (x := x) n (by omega)
    simp only [freeN, this]
    have e : mark D x n = D n := by unfold mark; rw [if_neg (by omega)]
    rw [e]
theorem freeN_mark {D : Nat → Bool} {x : Nat} (hD : D x = false) : ∀ n, x < n → freeN (mark D x) n + 1 = freeN D n
  | 0, h => absurd h (by omega)
  | n + 1, h => by
    by_cases e : x = n
    · subst e
      have := freeN_mark_ge (D := D) (x := x) x (Nat.le_refl _)
      simp [freeN, this, hD, mark]
    · have := freeN_mark hD n (by omega)
      have e' : mark D x n = D n := by unfold mark; rw [if_neg (by omega)]
      simp only [freeN, e']
      omega
theorem freeN_pos {D : Nat → Bool} {x n : Nat} (hD : D x = false) (hx : x < n) : 0 < freeN D n := by
  have := freeN_mark hD n hx; omega
def InRange (xs : List Int) : Prop := ∀ i, i < xs.length → 0 ≤ xs.getD i 0 ∧ xs.getD i 0 < xs.length
theorem wk_enough {xs : List Int} (hr : InRange xs) : ∀ (f f' x : Nat) (D : Nat → Bool) (c : List Int), x < xs.length → freeN D xs.length ≤ f → freeN D xs.length ≤ f' → wk xs f x D c = wk xs f' x D c
  | 0, f', x, D, c, hx, h, h' => by
    have hD : D x = true := by
      cases hD : D x
      · have := freeN_pos hD hx; omega
      · rfl
    cases f' <;> simp [wk, hD]
  | f + 1, f', x, D, c, hx, h, h' => by
    cases hD : D x
    · have hp := freeN_pos hD hx
      have hm := freeN_mark hD xs.length hx
      obtain ⟨f'', rfl⟩ : ∃ f'', f' = f'' + 1 := ⟨f' - 1, by omega⟩
      simp only [wk, hD]
      have h2 := hr x hx
      exact wk_enough hr f f'' _ _ _ (by omega) (by omega) (by omega)
    · cases f' <;> simp [wk, hD]
def cycAt (xs : List Int) : Nat → List (List Int) × (Nat → Bool)
  | 0 => ([], fun _ => false)
  | k + 1 =>
    let r := wk xs xs.length k (cycAt xs k).2 []
    (if r.1 = [] then (cycAt xs k).1 else (cycAt xs k).1 ++ [r.1], r.2)
def cyclesOf (xs : List Int) : List (List Int) := (cycAt xs xs.length).1
structure Wk (xs : List Int) (x : Nat) (D : Nat → Bool) (c : List Int) (R : List Int × (Nat → Bool)) : Prop where
  hx : x < xs.length
  all : ∀ i, i < c.length → 0 ≤ c.getD i 0 ∧ c.getD i 0 < xs.length
  len : c.length + freeN D xs.length ≤ xs.length
  fin : ∀ f, freeN D xs.length ≤ f → wk xs f x D c = R
theorem Wk.start {xs : List Int} (hr : InRange xs) {k : Nat} (hk : k < xs.length) (D : Nat → Bool) : Wk xs k D [] (wk xs xs.length k D []) :=
  ⟨hk, by simp, by simpa using freeN_le D _, fun f hf => wk_enough hr f _ k D [] hk hf (freeN_le D _)⟩
theorem Wk.done {xs : List Int} {x : Nat} {D : Nat → Bool} {c : List Int} {R} (h : Wk xs x D c R) (hD : D x = true) : R = (c, D) := by
  rw [← h.fin (freeN D xs.length + 1) (by omega)]
  simp [wk, hD]
theorem Wk.step {xs : List Int} (hr : InRange xs) {x : Nat} {D : Nat → Bool} {c : List Int} {R} (h : Wk xs x D c R) (hD : D x = false) :
    Wk xs (xs.getD x 0).toNat (mark D x) (c ++ [(x : Int)]) R ∧ freeN (mark D x) xs.length < freeN D xs.length := by
  have hx := h.hx
  have hm := freeN_mark hD xs.length hx
  have h2 := hr x hx
  refine ⟨⟨by omega, ?_, ?_, ?_⟩, by omega⟩
  · intro i hi
    by_cases e : i < c.length
    · have := h.all i e
      simpa [List.getD, List.getElem?_append_left e] using this
    · obtain rfl : i = c.length := by simp at hi; omega
      simp [List.getD]; omega
  · have := h.len
    simp; omega
  · intro f hf
    have := h.fin (f + 1) (by omega)
    simpa [wk, hD] using this
theorem cycAt_succ_some {xs : List Int} {k : Nat} {c : List Int} {D : Nat → Bool} (h : wk xs xs.length k (cycAt xs k).2 [] = (c, D)) (hc : c ≠ []) : cycAt xs (k + 1) = ((cycAt xs k).1 ++ [c], D) := by
  simp only [cycAt, h]; rw [if_neg hc]
theorem cycAt_succ_none {xs : List Int} {k : Nat} {c : List Int} {D : Nat → Bool} (h : wk xs xs.length k (cycAt xs k).2 [] = (c, D)) (hc : c = []) : cycAt xs (k + 1) = ((cycAt xs k).1, D) := by
  simp only [cycAt, h]; rw [if_pos hc]
theorem wk_len {xs : List Int} (hr : InRange xs) : ∀ (f x : Nat) (D : Nat → Bool) (c : List Int), x < xs.length → c.length + freeN D xs.length ≤ xs.length → (wk xs f x D c).1.length ≤ xs.length
  | 0, x, D, c, hx, h => by simp only [wk]; omega
  | f + 1, x, D, c, hx, h => by
    cases hD : D x
    · have hm := freeN_mark hD xs.length hx
      have h2 := hr x hx
      simp only [wk, hD]
      exact wk_len hr f _ _ _ (by omega) (by simp; omega)
    · simp [wk, hD]; omega
theorem cycAt_lens {xs : List Int} (hr : InRange xs) : ∀ k, k ≤ xs.length → ∀ c ∈ (cycAt xs k).1, 1 ≤ c.length ∧ c.length ≤ xs.length
  | 0, _ => by simp [cycAt]
  | k + 1, hk => by
    have ih := cycAt_lens hr k (by omega)
    have hl := wk_len hr xs.length k (cycAt xs k).2 [] (by omega) (by simpa using freeN_le _ _)
    intro c hc
    simp only [cycAt] at hc
    split at hc
    · exact ih c hc
    · rename_i hne
      rcases List.mem_append.1 hc with h | h
      · exact ih c h
      · simp at h
        subst h
        exact ⟨List.length_pos_iff.2 hne, hl⟩
theorem cyclesOf_lens {xs : List Int} (hr : InRange xs) : ∀ c ∈ cyclesOf xs, 1 ≤ c.length ∧ c.length ≤ xs.length := cycAt_lens hr _ (Nat.le_refl _)
end Go.Proofs.Ytdlpbpfcgjgppaa
