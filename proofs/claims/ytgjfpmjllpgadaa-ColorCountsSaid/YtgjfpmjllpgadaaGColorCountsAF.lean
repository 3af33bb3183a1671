/- Minors of integer matrices under operations on columns and rows. Plain facts: nothing of the program is here. -/
import Derived.Test.YtgjfpmjllpgadaaGColorCountsAE
set_option linter.unusedVariables false
set_option linter.unusedSimpArgs false
namespace Go.Proofs.Ytgjfpmjllpgadaa

theorem mono_add (a b i : Int) : LP.mono a i + LP.mono b i = LP.mono (a + b) i := LP.ext fun e => by
  rw [LP.add_f, LP.mono_f, LP.mono_f, LP.mono_f]
  split <;> omega
theorem smul_mono0 (k c : Int) : LP.smul k (LP.mono c 0) = LP.mono (k * c) 0 := LP.ext fun e => by
  rw [LP.smul_f, LP.mono_f, LP.mono_f]
  split <;> simp
theorem mono_inj {a b : Int} (h : LP.mono a 0 = LP.mono b 0) : a = b := by
  have := congrArg (fun x : LP => x.f 0) h
  simpa only [LP.mono_f, if_true] using this
theorem alts_emb {F : Nat → List Nat → Int} {G : Nat → List Nat → LP} (h : ∀ x l, G x l = LP.mono (F x l) 0) : ∀ (b : List Nat) (j : Nat) (a : List Nat), altsP G j a b = LP.mono (alts F j a b) 0
  | [], j, a => LP.ext fun e => by
    show (0 : LP).f e = _
    rw [LP.mono_f]; split <;> rfl
  | x :: b, j, a => by
    simp only [altsP, alts]
    rw [alts_emb h b, h, smul_mono0, mono_add]
/-- the integers among the polynomials -/
theorem lap_emb (M : Nat → Nat → Int) : ∀ rs cs : List Nat, lapP (fun r c => LP.mono (M r c) 0) rs cs = LP.mono (lap M rs cs) 0
  | [], cs => rfl
  | r :: rs, cs => alts_emb (fun x l => by rw [lap_emb M rs l, LP.mono_mono, Int.add_zero]) cs 0 []
/-- a column that is made of two -/
theorem lap_lin {M M' : Nat → Nat → Int} {c a b : Nat} {u v : Int} (rs pre post : List Nat) (hl : rs.length = pre.length + post.length + 1) (hM : ∀ r x, x ∈ pre ++ post → M' r x = M r x) (hc : ∀ r, M' r c = M r a * u + M r b * v) :
    lap M' rs (pre ++ c :: post) = lap M rs (pre ++ a :: post) * u + lap M rs (pre ++ b :: post) * v := by
  have h := lapP_lin (M := fun r c => LP.mono (M r c) 0) (M' := fun r c => LP.mono (M' r c) 0) (c := c) (a := a) (b := b) (u := LP.mono u 0) (v := LP.mono v 0) rs pre post hl (fun r x hx => by rw [hM r x hx]) (fun r => by
    rw [hc r, LP.mono_mono, LP.mono_mono, Int.add_zero, mono_add])
  rw [lap_emb, lap_emb, lap_emb, LP.mono_mono, LP.mono_mono, Int.add_zero, mono_add] at h
  exact mono_inj h
/-- a row that is made of two -/
theorem alts_lin {F F1 F2 : Nat → List Nat → Int} {u v : Int} (h : ∀ x l, F x l = F1 x l * u + F2 x l * v) : ∀ (b : List Nat) (j : Nat) (a : List Nat), alts F j a b = alts F1 j a b * u + alts F2 j a b * v
  | [], j, a => by simp [alts]
  | x :: b, j, a => by
    simp only [alts]
    rw [alts_lin h b, h, Int.mul_add, Int.add_mul, Int.add_mul, ← Int.mul_assoc, ← Int.mul_assoc]
    omega
theorem lap_row {M M' : Nat → Nat → Int} {i a b : Nat} {u v : Int} : ∀ (pre post cs : List Nat), (∀ r, r ∈ pre ++ post → ∀ x, M' r x = M r x) → (∀ x, M' i x = M a x * u + M b x * v) →
    lap M' (pre ++ i :: post) cs = lap M (pre ++ a :: post) cs * u + lap M (pre ++ b :: post) cs * v
  | [], post, cs, hM, hi => by
    have hp : ∀ l, lap M' post l = lap M post l := fun l => by
      clear hi
      induction post generalizing l with
      | nil => rfl
      | cons r post ih =>
        have ih' := fun l => ih (fun r hr => hM r (by simp at hr ⊢; exact .inr hr)) l
        show alts _ 0 [] l = alts _ 0 [] l
        congr 1
        funext x rest
        rw [hM r (by simp) x, ih' rest]
    exact alts_lin (fun x l => by rw [hi x, hp l, Int.add_mul, Int.mul_right_comm, Int.mul_right_comm (M b x)]) cs 0 []
  | r :: pre, post, cs, hM, hi => alts_lin (F := fun x l => M' r x * lap M' (pre ++ i :: post) l) (F1 := fun x l => M r x * lap M (pre ++ a :: post) l) (F2 := fun x l => M r x * lap M (pre ++ b :: post) l) (fun x l => by
      rw [hM r (by simp) x, lap_row pre post l (fun r hr => hM r (by simp at hr ⊢; exact .inr hr)) hi, Int.mul_add, ← Int.mul_assoc, ← Int.mul_assoc]) cs 0 []
/-! ### rows change places -/
/-- the expansion by one row -/
def iot (u : Nat → Int) : (List Nat → Int) → List Nat → Int
  | _, [] => 0
  | L, x :: b => u x * L b - iot u (fun l => L (x :: l)) b
theorem alts_iot (u : Nat → Int) (L : List Nat → Int) : ∀ (b : List Nat) (j : Nat) (a : List Nat), alts (fun x l => u x * L l) j a b = sgn j * iot u (fun l => L (a ++ l)) b
  | [], j, a => by simp [alts, iot]
  | x :: b, j, a => by
    simp only [alts, iot]
    rw [alts_iot u L b, sgn_succ, Int.mul_sub, Int.neg_mul, ← Int.sub_eq_add_neg]
    congr 1
    simp only [List.append_assoc, List.singleton_append]
theorem iot_sub (u : Nat → Int) (c : Int) : ∀ (l : List Nat) (L K : List Nat → Int), iot u (fun l => c * L l - K l) l = c * iot u L l - iot u K l
  | [], L, K => by simp [iot]
  | x :: b, L, K => by
    simp only [iot]
    rw [iot_sub u c b]
    rw [Int.mul_sub, Int.mul_sub, ← Int.mul_assoc, ← Int.mul_assoc, Int.mul_comm (u x) c]
    omega
theorem iot_anti (u v : Nat → Int) : ∀ (l : List Nat) (L : List Nat → Int), iot u (iot v L) l = -(iot v (iot u L) l)
  | [], L => by simp [iot]
  | x :: b, L => by
    have h1 : iot u (fun l => iot v L (x :: l)) b = v x * iot u L b - iot u (iot v (fun l => L (x :: l))) b := iot_sub u (v x) b L (iot v fun l => L (x :: l))
    have h2 : iot v (fun l => iot u L (x :: l)) b = u x * iot v L b - iot v (iot u (fun l => L (x :: l))) b := iot_sub v (u x) b L (iot u fun l => L (x :: l))
    show u x * iot v L b - iot u (fun l => iot v L (x :: l)) b = -(v x * iot u L b - iot v (fun l => iot u L (x :: l)) b)
    rw [h1, h2, iot_anti u v b (fun l => L (x :: l))]
    omega
theorem lap_iot (M : Nat → Nat → Int) (r : Nat) (rs cs : List Nat) : lap M (r :: rs) cs = iot (M r) (lap M rs) cs := by
  show alts (fun c rest => M r c * lap M rs rest) 0 [] cs = _
  rw [alts_iot (M r) (lap M rs) cs 0 []]
  show 1 * iot (M r) (fun l => lap M rs ([] ++ l)) cs = _
  rw [Int.one_mul]; rfl
theorem lap_swap (M : Nat → Nat → Int) (r q : Nat) : ∀ (pre post cs : List Nat), lap M (pre ++ r :: q :: post) cs = -(lap M (pre ++ q :: r :: post) cs)
  | [], post, cs => by
    show lap M (r :: q :: post) cs = -(lap M (q :: r :: post) cs)
    rw [lap_iot, lap_iot, show lap M (q :: post) = iot (M q) (lap M post) from funext fun l => lap_iot M q post l, show lap M (r :: post) = iot (M r) (lap M post) from funext fun l => lap_iot M r post l]
    exact iot_anti _ _ _ _
  | x :: pre, post, cs => by
    have h := alts_lin (F := fun c l => M x c * lap M (pre ++ r :: q :: post) l) (F1 := fun c l => M x c * lap M (pre ++ q :: r :: post) l) (F2 := fun _ _ => 0) (u := -1) (v := 0) (fun c l => by
      rw [lap_swap M r q pre post l, Int.mul_neg]; omega) cs 0 []
    have e1 : lap M ((x :: pre) ++ r :: q :: post) cs = alts (fun c l => M x c * lap M (pre ++ r :: q :: post) l) 0 [] cs := rfl
    have e2 : lap M ((x :: pre) ++ q :: r :: post) cs = alts (fun c l => M x c * lap M (pre ++ q :: r :: post) l) 0 [] cs := rfl
    rw [e1, e2, h]
    omega
/-- two rows that are alike -/
theorem lap_dup (M : Nat → Nat → Int) (r : Nat) : ∀ (mid pre post cs : List Nat), lap M (pre ++ r :: (mid ++ r :: post)) cs = 0
  | [], pre, post, cs => by
    have := lap_swap M r r pre post cs
    show lap M (pre ++ r :: r :: post) cs = 0
    omega
  | x :: mid, pre, post, cs => by
    have h1 := lap_swap M r x pre (mid ++ r :: post) cs
    have h2 := lap_dup M r mid (pre ++ [x]) post cs
    rw [List.append_assoc, List.singleton_append] at h2
    show lap M (pre ++ r :: x :: (mid ++ r :: post)) cs = 0
    omega
/-- a row goes further back -/
theorem lap_move (M : Nat → Nat → Int) (r : Nat) : ∀ (mid pre post cs : List Nat), lap M (pre ++ r :: (mid ++ post)) cs = sgn mid.length * lap M (pre ++ (mid ++ r :: post)) cs
  | [], pre, post, cs => by show _ = 1 * _; rw [Int.one_mul]; rfl
  | x :: mid, pre, post, cs => by
    have h1 := lap_swap M r x pre (mid ++ post) cs
    have h2 := lap_move M r mid (pre ++ [x]) post cs
    rw [List.append_assoc, List.append_assoc, List.singleton_append, List.singleton_append] at h2
    show lap M (pre ++ r :: x :: (mid ++ post)) cs = sgn (mid.length + 1) * lap M (pre ++ x :: (mid ++ r :: post)) cs
    rw [h1, h2, sgn_succ, Int.neg_mul]
/-! ### columns change places -/
def Alt (L : List Nat → Int) (n : Nat) : Prop := ∀ (pre : List Nat) (a b : Nat) (post : List Nat), pre.length + post.length + 2 = n → L (pre ++ a :: b :: post) = -(L (pre ++ b :: a :: post))
theorem iot_congr {u : Nat → Int} {c : Int} : ∀ (l : List Nat) (L K : List Nat → Int), (∀ q, q.length + 1 = l.length → L q = c * K q) → iot u L l = c * iot u K l
  | [], L, K, _ => by simp [iot]
  | x :: b, L, K, h => by
    simp only [iot]
    rw [h b (by simp), iot_congr b (fun l => L (x :: l)) (fun l => K (x :: l)) (fun q hq => h (x :: q) (by simp at hq ⊢; omega)), Int.mul_sub, ← Int.mul_assoc, ← Int.mul_assoc, Int.mul_comm (u x) c]
theorem iot_alt (u : Nat → Int) : ∀ (pre : List Nat) (L : List Nat → Int) (n : Nat), Alt L n → ∀ (a b : Nat) (post : List Nat), pre.length + post.length + 2 = n + 1 → iot u L (pre ++ a :: b :: post) = -(iot u L (pre ++ b :: a :: post))
  | [], L, n, hL, a, b, post, hl => by
    have h : iot u (fun l => L (a :: b :: l)) post = -1 * iot u (fun l => L (b :: a :: l)) post := iot_congr post _ _ (fun q hq => by
      have := hL [] a b q (by simp at hl ⊢; omega)
      simp only [List.nil_append] at this
      rw [this]; omega)
    show u a * L (b :: post) - (u b * L (a :: post) - iot u (fun l => L (a :: b :: l)) post) = -(u b * L (a :: post) - (u a * L (b :: post) - iot u (fun l => L (b :: a :: l)) post))
    rw [h]; omega
  | x :: pre, L, n, hL, a, b, post, hl => by
    have h1 := hL pre a b post (by simp at hl; omega)
    have h2 := iot_alt u pre (fun l => L (x :: l)) (n - 1) (fun p a b q hpq => hL (x :: p) a b q (by simp at hl ⊢; omega)) a b post (by simp at hl ⊢; omega)
    show u x * L (pre ++ a :: b :: post) - iot u (fun l => L (x :: l)) (pre ++ a :: b :: post) = -(u x * L (pre ++ b :: a :: post) - iot u (fun l => L (x :: l)) (pre ++ b :: a :: post))
    rw [h1, h2, Int.mul_neg]; omega
theorem lap_alt (M : Nat → Nat → Int) : ∀ rs : List Nat, Alt (lap M rs) rs.length
  | [], pre, a, b, post, hl => by simp at hl
  | r :: rs, pre, a, b, post, hl => by
    rw [lap_iot, lap_iot]
    exact iot_alt _ pre _ rs.length (lap_alt M rs) a b post hl
theorem lap_dupc (M : Nat → Nat → Int) (a : Nat) (rs : List Nat) : ∀ (mid pre post : List Nat), pre.length + mid.length + post.length + 2 = rs.length → lap M rs (pre ++ a :: (mid ++ a :: post)) = 0
  | [], pre, post, hl => by
    have := lap_alt M rs pre a a post (by simp at hl; omega)
    show lap M rs (pre ++ a :: a :: post) = 0
    omega
  | x :: mid, pre, post, hl => by
    have h1 := lap_alt M rs pre a x (mid ++ a :: post) (by simp at hl ⊢; omega)
    have h2 := lap_dupc M a rs mid (pre ++ [x]) post (by simp at hl ⊢; omega)
    rw [List.append_assoc, List.singleton_append] at h2
    show lap M rs (pre ++ a :: x :: (mid ++ a :: post)) = 0
    omega
theorem lap_movec (M : Nat → Nat → Int) (a : Nat) (rs : List Nat) : ∀ (mid pre post : List Nat), pre.length + mid.length + post.length + 1 = rs.length → lap M rs (pre ++ a :: (mid ++ post)) = sgn mid.length * lap M rs (pre ++ (mid ++ a :: post))
  | [], pre, post, hl => by show _ = 1 * _; rw [Int.one_mul]; rfl
  | x :: mid, pre, post, hl => by
    have h1 := lap_alt M rs pre a x (mid ++ post) (by simp at hl ⊢; omega)
    have h2 := lap_movec M a rs mid (pre ++ [x]) post (by simp at hl ⊢; omega)
    rw [List.append_assoc, List.append_assoc, List.singleton_append, List.singleton_append] at h2
    show lap M rs (pre ++ a :: x :: (mid ++ post)) = sgn (mid.length + 1) * lap M rs (pre ++ x :: (mid ++ a :: post))
    rw [h1, h2, sgn_succ, Int.neg_mul]
end Go.Proofs.Ytgjfpmjllpgadaa
