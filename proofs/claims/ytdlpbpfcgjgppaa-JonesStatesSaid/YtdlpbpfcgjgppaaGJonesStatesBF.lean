/- Facts and contracts that the claim uses. No condition of its own. -/
import Derived.Test.YtdlpbpfcgjgppaaGJonesStatesBE
set_option linter.unusedVariables false
set_option linter.unusedSimpArgs false
namespace Go.Proofs.Ytdlpbpfcgjgppaa
def addL (g : Lns) (x y : Nat) : Lns := fun v => if v = x then g x ++ [y] else if v = y then g y ++ [x] else g v
theorem addL_count (g : Lns) {x y : Nat} (h : x ≠ y) (v u : Nat) : (addL g x y v).count u = (g v).count u + (if (v = x ∧ u = y) ∨ (v = y ∧ u = x) then 1 else 0) := by
  unfold addL
  by_cases c1 : v = x
  · subst c1
    rw [if_pos rfl, List.count_append, List.count_singleton]
    by_cases c : u = y
    · subst c; rw [if_pos (by simp), if_pos (.inl ⟨rfl, rfl⟩)]
    · rw [if_neg (by simpa using fun e => c e.symm), if_neg (by omega)]
  · rw [if_neg c1]
    by_cases c2 : v = y
    · subst c2
      rw [if_pos rfl, List.count_append, List.count_singleton]
      by_cases c : u = x
      · subst c; rw [if_pos (by simp), if_pos (.inr ⟨rfl, rfl⟩)]
      · rw [if_neg (by simpa using fun e => c e.symm), if_neg (by omega)]
    · rw [if_neg c2, if_neg (by omega)]; rfl
structure Mt (n : Nat) (d : Nat → Nat) : Prop where
  lt : ∀ i, i < 2 * n → d i < 2 * n
  ne : ∀ i, i < 2 * n → d i ≠ i
  inv : ∀ i, i < 2 * n → d (d i) = i
def mL (n s : Nat) (d : Nat → Nat) (k v u : Nat) : Nat := if s ≤ v ∧ v < s + 2 * n ∧ u = s + d (v - s) ∧ (v - s < k ∨ d (v - s) < k) then 1 else 0
theorem mL_zero (n s : Nat) (d : Nat → Nat) (v u : Nat) : mL n s d 0 v u = 0 := by unfold mL; rw [if_neg (by omega)]
theorem mL_succ {n s : Nat} {d : Nat → Nat} (h : Mt n d) {k : Nat} (hk : k < 2 * n) (v u : Nat) : mL n s d (k + 1) v u = mL n s d k v u + (if k < d k ∧ ((v = s + k ∧ u = s + d k) ∨ (v = s + d k ∧ u = s + k)) then 1 else 0) := by
  have h1 := h.lt k hk
  have h2 := h.ne k hk
  have h3 := h.inv k hk
  unfold mL
  by_cases hv : s ≤ v ∧ v < s + 2 * n
  · obtain ⟨w, rfl⟩ : ∃ w, v = s + w := ⟨v - s, by omega⟩
    rw [show s + w - s = w by omega]
    have g1 := h.lt w (by omega)
    have g2 := h.ne w (by omega)
    have g3 := h.inv w (by omega)
    by_cases c1 : w = k
    · subst c1
      by_cases c : w < d w
      · by_cases cu : u = s + d w
        · subst cu
          rw [if_pos (by omega), if_neg (by omega), if_pos ⟨c, .inl ⟨rfl, rfl⟩⟩]
        · rw [if_neg (by omega), if_neg (by omega), if_neg (by omega)]
      · by_cases cu : u = s + d w
        · subst cu
          rw [if_pos (by omega), if_pos (by omega), if_neg (by omega)]
        · rw [if_neg (by omega), if_neg (by omega), if_neg (by omega)]
    · by_cases c2 : d w = k
      · have e : d k = w := by rw [← c2]; exact g3
        rw [e, c2]
        by_cases cu : u = s + k
        · by_cases c : k < w
          · rw [if_pos (by omega), if_neg (by omega), if_pos ⟨c, .inr ⟨rfl, cu⟩⟩]
          · rw [if_pos (by omega), if_pos (by omega), if_neg (by omega)]
        · rw [if_neg (by omega), if_neg (by omega), if_neg (by omega)]
      · have e : w ≠ d k := fun e => by rw [e] at c2; exact c2 h3
        by_cases cc : u = s + d w ∧ (w < k ∨ d w < k)
        · rw [if_pos (by omega), if_pos (by omega), if_neg (by omega)]
        · rw [if_neg (by omega), if_neg (by omega), if_neg (by omega)]
  · rw [if_neg (by omega), if_neg (by omega), if_neg (by omega)]
theorem mL_all {n s : Nat} {d : Nat → Nat} (v u : Nat) : mL n s d (2 * n) v u = if s ≤ v ∧ v < s + 2 * n ∧ u = s + d (v - s) then 1 else 0 := by
  unfold mL
  by_cases c : s ≤ v ∧ v < s + 2 * n ∧ u = s + d (v - s)
  · rw [if_pos (by omega), if_pos c]
  · rw [if_neg (by omega), if_neg c]
def gPut (n : Nat) (a b : Nat → Nat) : Nat → Lns
  | 0 => fun _ => []
  | k + 1 => let g := gPut n a b k
             let g1 := if k < a k then addL g k (a k) else g
             if k < b k then addL g1 (n + k) (n + b k) else g1
theorem gPut_count {n : Nat} {a b : Nat → Nat} (ha : Mt n a) (hb : Mt n b) : ∀ k, k ≤ 2 * n → ∀ v u, (gPut n a b k v).count u = mL n 0 a k v u + mL n n b k v u
  | 0, _, v, u => by rw [mL_zero, mL_zero]; rfl
  | k + 1, hk, v, u => by
    have ih := gPut_count ha hb k (by omega)
    rw [mL_succ ha (by omega), mL_succ hb (by omega)]
    have h1 : ∀ v u, ((if k < a k then addL (gPut n a b k) k (a k) else gPut n a b k) v).count u = mL n 0 a k v u + mL n n b k v u + (if k < a k ∧ ((v = 0 + k ∧ u = 0 + a k) ∨ (v = 0 + a k ∧ u = 0 + k)) then 1 else 0) := fun v u => by
      by_cases c : k < a k
      · rw [if_pos c, addL_count _ (by omega), ih, Nat.zero_add, Nat.zero_add]
        congr 1
        by_cases cc : (v = k ∧ u = a k) ∨ (v = a k ∧ u = k)
        · rw [if_pos cc, if_pos ⟨c, cc⟩]
        · rw [if_neg cc, if_neg (fun h => cc h.2)]
      · rw [if_neg c, if_neg (fun h => c h.1), ih]; rfl
    show ((if k < b k then addL (if k < a k then addL (gPut n a b k) k (a k) else gPut n a b k) (n + k) (n + b k) else (if k < a k then addL (gPut n a b k) k (a k) else gPut n a b k)) v).count u = _
    by_cases c : k < b k
    · rw [if_pos c, addL_count _ (by omega), h1]
      by_cases cc : (v = n + k ∧ u = n + b k) ∨ (v = n + b k ∧ u = n + k)
      · have e2 : (if k < b k ∧ ((v = n + k ∧ u = n + b k) ∨ (v = n + b k ∧ u = n + k)) then 1 else 0) = 1 := if_pos ⟨c, cc⟩
        rw [if_pos cc, e2]; omega
      · have e2 : (if k < b k ∧ ((v = n + k ∧ u = n + b k) ∨ (v = n + b k ∧ u = n + k)) then 1 else 0) = 0 := if_neg (fun h => cc h.2)
        rw [if_neg cc, e2]; omega
    · have e2 : (if k < b k ∧ ((v = n + k ∧ u = n + b k) ∨ (v = n + b k ∧ u = n + k)) then 1 else 0) = 0 := if_neg (fun h => c h.1)
      rw [if_neg c, h1, e2]; omega
def gPl (n : Nat) (a b : Nat → Nat) (v : Nat) : List Nat := (if v < 2 * n then [a v] else []) ++ (if n ≤ v ∧ v < 3 * n then [n + b (v - n)] else [])
theorem gPut_perm {n : Nat} {a b : Nat → Nat} (ha : Mt n a) (hb : Mt n b) (v : Nat) : (gPut n a b (2 * n) v).Perm (gPl n a b v) := by
  rw [List.perm_iff_count]
  intro u
  rw [gPut_count ha hb _ (Nat.le_refl _), mL_all, mL_all]
  unfold gPl
  rw [List.count_append, Nat.sub_zero, Nat.zero_add]
  congr 1
  · by_cases c : v < 2 * n
    · rw [if_pos c, List.count_singleton]
      by_cases e : u = a v
      · subst e; rw [if_pos (by omega), if_pos (by simp)]
      · rw [if_neg (by omega), if_neg (by simpa using fun h => e h.symm)]
    · rw [if_neg c, if_neg (by omega)]; rfl
  · by_cases c : n ≤ v ∧ v < 3 * n
    · rw [if_pos c, List.count_singleton]
      by_cases e : u = n + b (v - n)
      · rw [if_pos (by omega), if_pos (by simp [e])]
      · rw [if_neg (by omega), if_neg (by simpa using fun h => e h.symm)]
    · rw [if_neg c, if_neg (by omega)]; rfl
theorem gPut_gr {n : Nat} {a b : Nat → Nat} (ha : Mt n a) (hb : Mt n b) : Gr (3 * n) (gPut n a b (2 * n)) := by
  refine ⟨fun p hp q hq => ?_, fun p hp => ?_, fun p q => ?_⟩
  · rw [(gPut_perm ha hb p).mem_iff] at hq
    unfold gPl at hq
    rcases List.mem_append.1 hq with hq | hq
    · split at hq
      · simp only [List.mem_singleton] at hq
        subst hq
        have := ha.lt p (by omega)
        exact ⟨by omega, ha.ne p (by omega)⟩
      · cases hq
    · split at hq
      · simp only [List.mem_singleton] at hq
        subst hq
        have := hb.lt (p - n) (by omega)
        have := hb.ne (p - n) (by omega)
        omega
      · cases hq
  · have := gPut_perm ha hb p
    unfold gPl at this
    rw [if_neg (by omega), if_neg (by omega)] at this
    exact List.Perm.eq_nil this
  · rw [gPut_count ha hb _ (Nat.le_refl _), gPut_count ha hb _ (Nat.le_refl _), mL_all, mL_all, mL_all, mL_all]
    have key : ∀ {d : Nat → Nat}, Mt n d → ∀ s v u, (s ≤ v ∧ v < s + 2 * n ∧ u = s + d (v - s)) → (s ≤ u ∧ u < s + 2 * n ∧ v = s + d (u - s)) := fun {d} h s v u hh => by
      have h1 := h.lt (v - s) (by omega)
      have h3 := h.inv (v - s) (by omega)
      have e : u - s = d (v - s) := by omega
      rw [e, h3]; omega
    have sw : ∀ {d : Nat → Nat}, Mt n d → ∀ s, (if s ≤ p ∧ p < s + 2 * n ∧ q = s + d (p - s) then 1 else 0) = (if s ≤ q ∧ q < s + 2 * n ∧ p = s + d (q - s) then 1 else 0) := fun {d} h s => by
      by_cases c : s ≤ p ∧ p < s + 2 * n ∧ q = s + d (p - s)
      · rw [if_pos c, if_pos (key h s p q c)]
      · rw [if_neg c, if_neg (fun c2 => c (key h s q p c2))]
    rw [sw ha 0, sw hb n]
theorem gPut_len {n : Nat} {a b : Nat → Nat} (ha : Mt n a) (hb : Mt n b) (v : Nat) : (gPut n a b (2 * n) v).length = if v < n then 1 else if v < 2 * n then 2 else if v < 3 * n then 1 else 0 := by
  rw [(gPut_perm ha hb v).length_eq]
  unfold gPl
  rw [List.length_append]
  by_cases c1 : v < n
  · rw [if_pos (by omega), if_neg (by omega), if_pos c1]; rfl
  · rw [if_neg c1]
    by_cases c2 : v < 2 * n
    · rw [if_pos c2, if_pos (by omega), if_pos c2]; rfl
    · rw [if_neg c2, if_neg c2]
      by_cases c3 : v < 3 * n
      · rw [if_pos (by omega), if_pos c3]; rfl
      · rw [if_neg (by omega), if_neg c3]; rfl
def oppN (n v : Nat) : Nat := if v < n then n + v else v - n
theorem opp_mt (n : Nat) : Mt n (oppN n) := ⟨fun i hi => by unfold oppN; split <;> omega, fun i hi => by unfold oppN; split <;> omega, fun i hi => by
  unfold oppN
  by_cases c : i < n
  · rw [if_pos c, if_neg (by omega)]; omega
  · rw [if_neg c, if_pos (by omega)]; omega⟩
def gCls (n : Nat) (d : Nat → Nat) : Nat → Lns
  | 0 => fun _ => []
  | k + 1 => let g := gCls n d k
             let g1 := if k < d k then addL g k (d k) else g
             if k < n then addL g1 k (n + k) else g1
theorem gCls_count {n : Nat} {d : Nat → Nat} (h : Mt n d) : ∀ k, k ≤ 2 * n → ∀ v u, (gCls n d k v).count u = mL n 0 d k v u + mL n 0 (oppN n) k v u
  | 0, _, v, u => by rw [mL_zero, mL_zero]; rfl
  | k + 1, hk, v, u => by
    have ih := gCls_count h k (by omega)
    rw [mL_succ h (by omega), mL_succ (opp_mt n) (by omega)]
    have h1 : ∀ v u, ((if k < d k then addL (gCls n d k) k (d k) else gCls n d k) v).count u = mL n 0 d k v u + mL n 0 (oppN n) k v u + (if k < d k ∧ ((v = 0 + k ∧ u = 0 + d k) ∨ (v = 0 + d k ∧ u = 0 + k)) then 1 else 0) := fun v u => by
      by_cases c : k < d k
      · rw [if_pos c, addL_count _ (by omega), ih, Nat.zero_add, Nat.zero_add]
        congr 1
        by_cases cc : (v = k ∧ u = d k) ∨ (v = d k ∧ u = k)
        · rw [if_pos cc, if_pos ⟨c, cc⟩]
        · rw [if_neg cc, if_neg (fun h => cc h.2)]
      · rw [if_neg c, if_neg (fun h => c h.1), ih]; rfl
    show ((if k < n then addL (if k < d k then addL (gCls n d k) k (d k) else gCls n d k) k (n + k) else (if k < d k then addL (gCls n d k) k (d k) else gCls n d k)) v).count u = _
    have ho : oppN n k = if k < n then n + k else k - n := rfl
    by_cases c : k < n
    · rw [if_pos c] at ho
      rw [if_pos c, addL_count _ (by omega), h1, ho, Nat.zero_add, Nat.zero_add, Nat.zero_add]
      by_cases cc : (v = k ∧ u = n + k) ∨ (v = n + k ∧ u = k)
      · have e2 : (if k < n + k ∧ ((v = k ∧ u = n + k) ∨ (v = n + k ∧ u = k)) then 1 else 0) = 1 := if_pos ⟨by omega, cc⟩
        rw [if_pos cc, e2]; omega
      · have e2 : (if k < n + k ∧ ((v = k ∧ u = n + k) ∨ (v = n + k ∧ u = k)) then 1 else 0) = 0 := if_neg (fun h => cc h.2)
        rw [if_neg cc, e2]; omega
    · rw [if_neg c] at ho
      have e2 : (if k < k - n ∧ ((v = 0 + k ∧ u = 0 + (k - n)) ∨ (v = 0 + (k - n) ∧ u = 0 + k)) then 1 else 0) = 0 := if_neg (fun h => by have := h.1; omega)
      rw [if_neg c, h1, ho, e2]; omega
def gCl (n : Nat) (d : Nat → Nat) (v : Nat) : List Nat := if v < 2 * n then [d v, oppN n v] else []
theorem gCls_perm {n : Nat} {d : Nat → Nat} (h : Mt n d) (v : Nat) : (gCls n d (2 * n) v).Perm (gCl n d v) := by
  rw [List.perm_iff_count]
  intro u
  rw [gCls_count h _ (Nat.le_refl _), mL_all, mL_all]
  unfold gCl
  rw [Nat.sub_zero, Nat.zero_add, Nat.zero_add]
  by_cases c : v < 2 * n
  · rw [if_pos c, show [d v, oppN n v] = [d v] ++ [oppN n v] from rfl, List.count_append, List.count_singleton, List.count_singleton]
    congr 1
    · by_cases e : u = d v
      · subst e; rw [if_pos (by omega), if_pos (by simp)]
      · rw [if_neg (by omega), if_neg (by simpa using fun h => e h.symm)]
    · by_cases e : u = oppN n v
      · subst e; rw [if_pos (by omega), if_pos (by simp)]
      · rw [if_neg (by omega), if_neg (by simpa using fun h => e h.symm)]
  · rw [if_neg c, if_neg (by omega), if_neg (by omega)]; rfl
theorem gCls_gr {n : Nat} {d : Nat → Nat} (h : Mt n d) : Gr (2 * n) (gCls n d (2 * n)) ∧ ∀ v, (gCls n d (2 * n) v).length = if v < 2 * n then 2 else 0 := by
  have ho := opp_mt n
  refine ⟨⟨fun p hp q hq => ?_, fun p hp => ?_, fun p q => ?_⟩, fun v => ?_⟩
  · rw [(gCls_perm h p).mem_iff] at hq
    unfold gCl at hq
    rw [if_pos hp] at hq
    simp only [List.mem_cons, List.not_mem_nil, or_false] at hq
    rcases hq with rfl | rfl
    · exact ⟨h.lt p hp, h.ne p hp⟩
    · exact ⟨ho.lt p hp, ho.ne p hp⟩
  · have := gCls_perm h p
    unfold gCl at this
    rw [if_neg (by omega)] at this
    exact List.Perm.eq_nil this
  · rw [gCls_count h _ (Nat.le_refl _), gCls_count h _ (Nat.le_refl _), mL_all, mL_all, mL_all, mL_all]
    have key : ∀ {d : Nat → Nat}, Mt n d → ∀ v u, (0 ≤ v ∧ v < 0 + 2 * n ∧ u = 0 + d (v - 0)) → (0 ≤ u ∧ u < 0 + 2 * n ∧ v = 0 + d (u - 0)) := fun {d} h v u hh => by
      have h1 := h.lt v (by omega)
      have h3 := h.inv v (by omega)
      have e : u = d v := by simpa using hh.2.2
      rw [e, Nat.sub_zero, h3]; omega
    have sw : ∀ {d : Nat → Nat}, Mt n d → (if 0 ≤ p ∧ p < 0 + 2 * n ∧ q = 0 + d (p - 0) then 1 else 0) = (if 0 ≤ q ∧ q < 0 + 2 * n ∧ p = 0 + d (q - 0) then 1 else 0) := fun {d} h => by
      by_cases c : 0 ≤ p ∧ p < 0 + 2 * n ∧ q = 0 + d (p - 0)
      · rw [if_pos c, if_pos (key h p q c)]
      · rw [if_neg c, if_neg (fun c2 => c (key h q p c2))]
    rw [sw h, sw ho]
  · rw [(gCls_perm h v).length_eq]
    unfold gCl
    split <;> rfl
end Go.Proofs.Ytdlpbpfcgjgppaa
