/- Facts and contracts that the claim uses. No condition of its own. -/
import Derived.Test.YtkmkcbkfakoomaaDoorGRingTextsAD
set_option linter.unusedVariables false
set_option linter.unusedSimpArgs false
namespace Go.Proofs.YtkmkcbkfakoomaaDoor
def stay (c i : Nat) : Bool := !bt c i && (i == 0 || !bt c (i - 1))
def wrA (c : Nat) : Nat → List UInt8
  | 0 => []
  | i + 1 => wrA c i ++ (if stay c i then [UInt8.ofNat (49 + i)] else [])
def wrt (n c : Nat) : List UInt8 := if wrA c n = [] then [120] else wrA c n
theorem wrA_len (c : Nat) : ∀ i, (wrA c i).length ≤ i
  | 0 => Nat.le_refl _
  | i + 1 => by
    have := wrA_len c i
    unfold wrA
    rw [List.length_append]
    split <;> simp <;> omega
theorem wrt_len (n c : Nat) : (wrt n c).length ≤ n + 1 := by
  unfold wrt
  split
  · simp
  · have := wrA_len c n; omega
def bfr (n : Nat) (l : List Int) : Nat → List UInt8
  | 0 => [120]
  | k + 1 => wrt n (l.getD k 0).toNat
def txA (n : Nat) (l : List Int) : Nat → List UInt8
  | 0 => []
  | k + 1 => txA n l k ++ (if wrt n (l.getD k 0).toNat ≠ [120] ∧ bfr n l k ≠ [120] then [46] else []) ++ wrt n (l.getD k 0).toNat
def txt (n : Nat) (l : List Int) : List UInt8 := txA n l l.length
theorem txA_len (n : Nat) (l : List Int) : ∀ k, (txA n l k).length ≤ k * (n + 2)
  | 0 => by simp [txA]
  | k + 1 => by
    have h1 := txA_len n l k
    have h2 := wrt_len n (l.getD k 0).toNat
    unfold txA
    rw [List.length_append, List.length_append, Nat.succ_mul]
    split
    · simp only [List.length_cons, List.length_nil]; omega
    · simp only [List.length_nil]; omega
def coS (n : Nat) (st : Nat → Bool) : Nat → Nat → Nat → Nat
  | 0, _, o => o
  | f + 1, i, o => if i + 1 < n then (if st i = false ∧ st (i + 1) = false then coS n st f (i + 2) (o + 2 ^ i) else coS n st f (i + 1) o) else o
def isIn (s : List UInt8) (k : Nat) : Bool := s.any (· == UInt8.ofNat (49 + k))
def coL (n : Nat) (s : List UInt8) : Nat := coS n (isIn s) n 0 0
theorem coS_lt {n : Nat} (st : Nat → Bool) : ∀ f i o, o < 2 ^ i → o < 2 ^ (n - 1) → coS n st f i o < 2 ^ (n - 1)
  | 0, i, o, _, h => h
  | f + 1, i, o, h, h' => by
    unfold coS
    split
    · rename_i hi
      have e1 : 2 ^ (i + 1) = 2 * 2 ^ i := by rw [Nat.pow_succ]; omega
      have e2 : 2 ^ (i + 2) = 4 * 2 ^ i := by rw [Nat.pow_succ, Nat.pow_succ]; omega
      have e3 : 2 ^ (i + 1) ≤ 2 ^ (n - 1) := Nat.pow_le_pow_right (by decide) (by omega)
      split
      · exact coS_lt st f (i + 2) _ (by omega) (by omega)
      · exact coS_lt st f (i + 1) _ (by omega) h'
    · exact h'
theorem coL_lt {n : Nat} (hn : n ≤ 7) (s : List UInt8) : coL n s < 64 :=
  Nat.lt_of_lt_of_le (coS_lt (isIn s) n 0 0 (by simp) (Nat.pow_pos (by decide))) (by rw [show (64 : Nat) = 2 ^ 6 from rfl]; exact Nat.pow_le_pow_right (by decide) (by omega))
theorem coS_done {n : Nat} {st : Nat → Bool} {f i o : Nat} (h : ¬ i + 1 < n) : coS n st f i o = o := by
  cases f with
  | zero => rfl
  | succ f => unfold coS; rw [if_neg h]
def runT (s : List UInt8) : Nat → Nat → Nat
  | 0, k => k
  | f + 1, k => if k < s.length ∧ s.getD k 0 ≠ 120 ∧ s.getD k 0 ≠ 46 then runT s f (k + 1) else k
def endT (s : List UInt8) (i : Nat) : Nat := if s.getD i 0 = 120 then i + 1 else runT s s.length (i + 1)
def nxtT (s : List UInt8) (k : Nat) : Nat := if k < s.length ∧ s.getD k 0 = 46 then k + 1 else k
theorem runT_le (s : List UInt8) : ∀ f k, k ≤ s.length → k ≤ runT s f k ∧ runT s f k ≤ s.length
  | 0, k, h => ⟨Nat.le_refl _, h⟩
  | f + 1, k, h => by
    unfold runT
    split
    · have := runT_le s f (k + 1) (by omega)
      omega
    · exact ⟨Nat.le_refl _, h⟩
theorem endT_le {s : List UInt8} {i : Nat} (h : i < s.length) : i + 1 ≤ endT s i ∧ endT s i ≤ s.length := by
  unfold endT
  split
  · omega
  · exact runT_le s _ _ (by omega)
theorem nxtT_le {s : List UInt8} {k : Nat} (h : k ≤ s.length) : k ≤ nxtT s k ∧ nxtT s k ≤ s.length := by
  unfold nxtT
  split <;> omega
def prs (n : Nat) (s : List UInt8) : Nat → Nat → List Int
  | 0, _ => []
  | f + 1, i => if i < s.length then ((coL n ((s.drop i).take (endT s i - i)) : Nat) : Int) :: prs n s f (nxtT s (endT s i)) else []
theorem prs_len (n : Nat) (s : List UInt8) : ∀ f i, (prs n s f i).length ≤ f
  | 0, i => by simp [prs]
  | f + 1, i => by
    unfold prs
    split
    · have := prs_len n s f (nxtT s (endT s i)); simp; omega
    · simp
def prsL (n : Nat) (s : List UInt8) : List Int := prs n s s.length 0
def psE (n : Int) (s : List UInt8) : Int := if n < 1 ∨ 7 < n then 1 else if 5040 < s.length then 2 else if txt n.toNat (prsL n.toNat s) = s then 0 else 8
def psL (n : Int) (s : List UInt8) : List Int := if psE n s = 0 then prsL n.toNat s else []
end Go.Proofs.YtkmkcbkfakoomaaDoor
