/- Contracts of functions of this seat, and plain facts for them: used by the claims. No condition of its own. -/
import Derived.Test.YthkbcgggbgkfmaaTChain
set_option linter.unusedVariables false
namespace Go.Proofs.Ythkbcgggbgkfmaa
open Go.RowKit

theorem Fr.new' {w : World} {g : Nat} {p : Int × Int} (hg : g = w.heap.size) : Fr (w.alloc (.cells #[.int .i64 p.1, .int .i64 p.2] 24)) g p := by subst hg; exact Fr.new w p
/-- -1/f. -/
def trn (p : Int × Int) : Int × Int := if p.1 < 0 then (p.2, -p.1) else if p.1 = 0 then (1, 0) else (-p.2, p.1)
theorem low_trn {p : Int × Int} (h : Norm p) : low (-p.2) p.1 = trn p := by
  obtain ⟨n, d⟩ := p
  obtain ⟨h1, h2, h3⟩ := h
  simp only at h1 h2 h3
  unfold low trn
  rw [Int.neg_gcd, Int.gcd_comm, h3]
  by_cases h0 : n = 0
  · subst h0; rfl
  · by_cases h4 : n < 0
    · simp [h0, h4]
    · simp [h0, h4]
theorem trn_norm {p : Int × Int} (h : Norm p) : Norm (trn p) := by
  obtain ⟨n, d⟩ := p
  obtain ⟨h1, h2, h3⟩ := h
  simp only at h1 h2 h3
  unfold trn
  by_cases h4 : n < 0
  · rw [if_pos h4]
    exact ⟨by show 0 ≤ -n; omega, fun e => by simp at e; omega, by show Int.gcd d (-n) = 1; rw [Int.gcd_neg, Int.gcd_comm]; exact h3⟩
  · by_cases h0 : n = 0
    · rw [if_neg h4, if_pos h0]; exact ⟨by decide, fun _ => rfl, by decide⟩
    · rw [if_neg h4, if_neg h0]
      exact ⟨by show 0 ≤ n; omega, fun e => absurd e h0, by show Int.gcd (-d) n = 1; rw [Int.neg_gcd, Int.gcd_comm]; exact h3⟩
/-- One operation. -/
def stp (p : Int × Int) (k : Int) : Int × Int := if k = 0 then trn p else plusF p k
/-- Operations: the error, and the fraction. -/
def ap : Int × Int → List Int → Int × (Int × Int)
  | p, [] => (0, p)
  | p, k :: ks => if k < -1000000 ∨ 1000000 < k then (1, (0, 0)) else if faultF (stp p k).1 (stp p k).2 ≠ 0 then (2, (0, 0)) else ap (stp p k) ks
def applyF (n d : Int) (l : List Int) : Int × (Int × Int) := if faultF n d ≠ 0 then (faultF n d, (0, 0)) else if 200 < l.length then (2, (0, 0)) else ap (n, d) l
theorem ap_end {p : Int × Int} {l : List Int} {k : Nat} (h : l.length ≤ k) : ap p (l.drop k) = (0, p) := by
  rw [List.drop_eq_nil_of_le h]; rfl
theorem ap_big {p : Int × Int} {l : List Int} {k : Nat} (h : k < l.length) (hb : l[k] < -1000000 ∨ 1000000 < l[k]) : ap p (l.drop k) = (1, (0, 0)) := by
  rw [List.drop_eq_getElem_cons h]; unfold ap; rw [if_pos hb]
theorem ap_bad {p : Int × Int} {l : List Int} {k : Nat} (h : k < l.length) (hb : ¬ (l[k] < -1000000 ∨ 1000000 < l[k])) (hf : faultF (stp p l[k]).1 (stp p l[k]).2 ≠ 0) : ap p (l.drop k) = (2, (0, 0)) := by
  rw [List.drop_eq_getElem_cons h]; unfold ap; rw [if_neg hb, if_pos hf]
theorem ap_next {p : Int × Int} {l : List Int} {k : Nat} (h : k < l.length) (hb : ¬ (l[k] < -1000000 ∨ 1000000 < l[k])) (hf : faultF (stp p l[k]).1 (stp p l[k]).2 = 0) : ap p (l.drop k) = ap (stp p l[k]) (l.drop (k + 1)) := by
  rw [List.drop_eq_getElem_cons h]; conv => lhs; unfold ap
  rw [if_neg hb, if_neg (by rw [hf]; decide)]

set_option maxRecDepth 100000 in
set_option maxHeartbeats 1000000 in
theorem turn_c (n d : Int) (w : World) (hn : -10000000000000 ≤ n ∧ n ≤ 10000000000000) (hd : 0 ≤ d ∧ d ≤ 10000000000000) :
    Calls Try.prog 36 #[.agg #[.int .i64 n, .int .i64 d]] w fun e w' => e = .returned (.agg #[.int .i64 (trn (n, d)).1, .int .i64 (trn (n, d)).2]) ∧ Below w.heap.size w w' := by
  obtain ⟨hn1, hn2⟩ := hn
  obtain ⟨hd1, hd2⟩ := hd
  have G0 : Fr ((w.alloc (.cells #[.int .i64 n, .int .i64 d] 24)).alloc (.cells #[.int .i64 0, .int .i64 0] 24)) (w.heap.size + 1) (0, 0) := by
    have := Fr.new (w.alloc (.cells #[.int .i64 n, .int .i64 d] 24)) (0, 0); simpa using this
  have hb0 : Below w.heap.size w ((w.alloc (.cells #[.int .i64 n, .int .i64 d] 24)).alloc (.cells #[.int .i64 0, .int .i64 0] 24)) := ((Below.refl _ _).alloc (Nat.le_refl _) _).alloc (by simp) _
  by_cases h1 : n < 0
  · have HI : Hid (inv (n, d) = (-d, -n)) := by unfold Hid inv; rw [if_pos h1]
    have HT : Hid (trn (n, d) = (d, -n)) := by unfold Hid trn; rw [if_pos h1]
    go_enter Try.func36, Try.ntmps36
    go_wp2_with (go_at_call 25; refine (inverse_c n d _ ⟨by omega, by omega⟩ ⟨by omega, by omega⟩).mono ?_; rw [HI.out]; rintro e w1 ⟨rfl, hb1⟩; have z1 := hb1.size; simp at z1; have G1 := (G0.below hb1 G0.lt).alloc (.cells #[.int .i64 (d), .int .i64 (-n)] 24); have p0 := G1.c0; have p1 := G1.c1; have p2 := G1.f 0; have p3 := G1.f 1; have q0 := (G1.put (d) (-n)).c0; have q1 := (G1.put (d) (-n)).c1)
    rw [HT.out]
    exact bodyPost_ret (v := .agg #[.int .i64 (d), .int .i64 (-n)]) (by simp [results, Try.results36, go_sem, q0, q1]) rfl ⟨rfl, (((hb0.trans (hb1.mono (by simp; omega))).alloc (by omega) _).setCell (p := ⟨w.heap.size + 1, 0, none⟩) (by simp) _).setCell (p := ⟨w.heap.size + 1, 1, none⟩) (by simp) _⟩
  by_cases h2 : n = 0
  · subst h2
    have HI : Hid (inv (0, d) = (1, 0)) := by unfold Hid inv; rw [if_neg h1, if_pos rfl]
    have HT : Hid (trn (0, d) = (1, 0)) := by unfold Hid trn; rw [if_neg h1, if_pos rfl]
    go_enter Try.func36, Try.ntmps36
    go_wp2_with (go_at_call 25; refine (inverse_c 0 d _ ⟨by omega, by omega⟩ ⟨by omega, by omega⟩).mono ?_; rw [HI.out]; rintro e w1 ⟨rfl, hb1⟩; have z1 := hb1.size; simp at z1; have G1 := (G0.below hb1 G0.lt).alloc (.cells #[.int .i64 (1), .int .i64 (0)] 24); have p0 := G1.c0; have p1 := G1.c1; have p2 := G1.f 0; have p3 := G1.f 1; have q0 := (G1.put (1) (0)).c0; have q1 := (G1.put (1) (0)).c1)
    rw [HT.out]
    exact bodyPost_ret (v := .agg #[.int .i64 (1), .int .i64 (0)]) (by simp [results, Try.results36, go_sem, q0, q1]) rfl ⟨rfl, (((hb0.trans (hb1.mono (by simp; omega))).alloc (by omega) _).setCell (p := ⟨w.heap.size + 1, 0, none⟩) (by simp) _).setCell (p := ⟨w.heap.size + 1, 1, none⟩) (by simp) _⟩
  · have HI : Hid (inv (n, d) = (d, n)) := by unfold Hid inv; rw [if_neg h1, if_neg h2]
    have HT : Hid (trn (n, d) = (-d, n)) := by unfold Hid trn; rw [if_neg h1, if_neg h2]
    have h2' : (n == 0) = false := by simpa using h2
    go_enter Try.func36, Try.ntmps36
    go_wp2_with (go_at_call 25; refine (inverse_c n d _ ⟨by omega, by omega⟩ ⟨by omega, by omega⟩).mono ?_; rw [HI.out]; rintro e w1 ⟨rfl, hb1⟩; have z1 := hb1.size; simp at z1; have G1 := (G0.below hb1 G0.lt).alloc (.cells #[.int .i64 (-d), .int .i64 (n)] 24); have p0 := G1.c0; have p1 := G1.c1; have p2 := G1.f 0; have p3 := G1.f 1; have q0 := (G1.put (-d) (n)).c0; have q1 := (G1.put (-d) (n)).c1)
    rw [HT.out]
    exact bodyPost_ret (v := .agg #[.int .i64 (-d), .int .i64 (n)]) (by simp [results, Try.results36, go_sem, q0, q1]) rfl ⟨rfl, (((hb0.trans (hb1.mono (by simp; omega))).alloc (by omega) _).setCell (p := ⟨w.heap.size + 1, 0, none⟩) (by simp) _).setCell (p := ⟨w.heap.size + 1, 1, none⟩) (by simp) _⟩

theorem floor_pos {a b : Int} (hb : 0 < b) (h : ¬ a.tmod b < 0) : a.tdiv b = a / b := by
  have h1 := Int.tmod_add_mul_tdiv a b
  have h2 := Int.tmod_lt_of_pos a hb
  have h3 : a / b = (a.tmod b + b * a.tdiv b) / b := by rw [h1]
  rw [h3, Int.add_mul_ediv_left _ _ (by omega), Int.ediv_eq_zero_of_lt (by omega) h2]; omega
theorem floor_neg {a b : Int} (hb : 0 < b) (h : a.tmod b < 0) : a.tdiv b - 1 = a / b := by
  have h1 := Int.tmod_add_mul_tdiv a b
  have hm : (a.tmod b).natAbs < b.natAbs := by rw [Int.natAbs_tmod]; exact Nat.mod_lt _ (by omega)
  have h3 : a / b = ((a.tmod b + b) + b * (a.tdiv b - 1)) / b := by
    rw [Int.mul_sub, Int.mul_one]; congr 1; omega
  rw [h3, Int.add_mul_ediv_left _ _ (by omega), Int.ediv_eq_zero_of_lt (by omega) (by omega)]; omega

set_option maxHeartbeats 400000 in
theorem floor_c (a b : Int) (w : World) (ha : -10000000000000 ≤ a ∧ a ≤ 10000000000000) (hb : 0 < b ∧ b ≤ 10000000000000) :
    Calls Try.prog 37 #[.int .i64 a, .int .i64 b] w fun e w' => e = .returned (.int .i64 (a / b)) ∧ w = w' := by
  obtain ⟨ha1, ha2⟩ := ha
  obtain ⟨hb1, hb2⟩ := hb
  have HW := Lib.hid (tdiv_wrap (a := a) b ha1 ha2)
  have hd : (a.tdiv b).natAbs ≤ a.natAbs := by rw [Int.natAbs_tdiv]; exact Nat.div_le_self _ _
  have hd1 : -10000000000000 ≤ a.tdiv b := by omega
  have hd2 : a.tdiv b ≤ 10000000000000 := by omega
  clear hd
  by_cases h : a.tmod b < 0
  · have HF := Lib.hid (floor_neg hb1 h)
    go_enter Try.func37, Try.ntmps37
    go_wp2
    rw [← HF.out]
    go_ret
    exact ⟨rfl, rfl⟩
  · have HF := Lib.hid (floor_pos hb1 h)
    go_enter Try.func37, Try.ntmps37
    go_wp2
    rw [← HF.out]
    go_ret
    exact ⟨rfl, rfl⟩

set_option maxHeartbeats 400000 in
theorem turned_c (n d k : Int) (w : World) (hN : Norm (n, d)) (hn : -1000000 ≤ n ∧ n ≤ 1000000) (hd : 0 ≤ d ∧ d ≤ 1000000) (hk : -1000000 ≤ k ∧ k ≤ 1000000) :
    Calls Try.prog 22 #[.agg #[.int .i64 n, .int .i64 d], .int .i64 k] w fun e w' => e = .returned (.agg #[.int .i64 (stp (n, d) k).1, .int .i64 (stp (n, d) k).2]) ∧ Below w.heap.size w w' := by
  obtain ⟨hn1, hn2⟩ := hn
  obtain ⟨hd1, hd2⟩ := hd
  obtain ⟨hk1, hk2⟩ := hk
  have G0 : Fr ((w.alloc (.cells #[.int .i64 n, .int .i64 d] 24)).alloc (.cells #[.int .i64 0, .int .i64 0] 24)) (w.heap.size + 1) (0, 0) := by
    have := Fr.new (w.alloc (.cells #[.int .i64 n, .int .i64 d] 24)) (0, 0); simpa using this
  have hb0 : Below w.heap.size w ((w.alloc (.cells #[.int .i64 n, .int .i64 d] 24)).alloc (.cells #[.int .i64 0, .int .i64 0] 24)) := ((Below.refl _ _).alloc (Nat.le_refl _) _).alloc (by simp) _
  by_cases h0 : k = 0
  · subst h0
    have HT : Hid (low (-d) n = trn (n, d)) := low_trn hN
    have HS : Hid (stp (n, d) 0 = trn (n, d)) := if_pos rfl
    generalize trn (n, d) = p at *
    obtain ⟨pn, pd⟩ := p
    clear hN
    go_enter Try.func22, Try.ntmps22
    go_wp2_with (go_at_call 34; refine (lowest_c (-d) n _ ⟨by omega, by omega⟩ ⟨by omega, by omega⟩).mono ?_; rw [HT.out]; rintro e w1 ⟨rfl, hb1⟩; have G1 := G0.below hb1 G0.lt; have p0 := G1.c0; have p1 := G1.c1; have p2 := G1.f 0; have p3 := G1.f 1; have q0 := (G1.put pn pd).c0; have q1 := (G1.put pn pd).c1)
    rw [HS.out]
    exact bodyPost_ret (v := .agg #[.int .i64 pn, .int .i64 pd]) (by simp [results, Try.results22, go_sem, q0, q1]) rfl ⟨rfl, ((hb0.trans (hb1.mono (by simp; omega))).setCell (p := ⟨w.heap.size + 1, 0, none⟩) (by simp) _).setCell (p := ⟨w.heap.size + 1, 1, none⟩) (by simp) _⟩
  · have HT : Hid (low (n + k * d) d = plusF (n, d) k) := low_norm (plus_norm hN k)
    have HS : Hid (stp (n, d) k = plusF (n, d) k) := if_neg h0
    have h0' : (k == 0) = false := by simpa using h0
    have hm1 : k * d ≤ 1000000 * 1000000 := by
      have h1 : k * d ≤ 1000000 * d := Int.mul_le_mul_of_nonneg_right hk2 hd1
      omega
    have hm2 : -(1000000 * 1000000) ≤ k * d := by
      have h1 : -1000000 * d ≤ k * d := Int.mul_le_mul_of_nonneg_right hk1 hd1
      omega
    generalize plusF (n, d) k = p at *
    obtain ⟨pn, pd⟩ := p
    clear hN
    go_enter Try.func22, Try.ntmps22
    go_wp2_with (go_at_call 34; refine (lowest_c (n + k * d) d _ ⟨by omega, by omega⟩ ⟨by omega, by omega⟩).mono ?_; rw [HT.out]; rintro e w1 ⟨rfl, hb1⟩; have G1 := G0.below hb1 G0.lt; have p0 := G1.c0; have p1 := G1.c1; have p2 := G1.f 0; have p3 := G1.f 1; have q0 := (G1.put pn pd).c0; have q1 := (G1.put pn pd).c1)
    rw [HS.out]
    exact bodyPost_ret (v := .agg #[.int .i64 pn, .int .i64 pd]) (by simp [results, Try.results22, go_sem, q0, q1]) rfl ⟨rfl, ((hb0.trans (hb1.mono (by simp; omega))).setCell (p := ⟨w.heap.size + 1, 0, none⟩) (by simp) _).setCell (p := ⟨w.heap.size + 1, 1, none⟩) (by simp) _⟩
end Go.Proofs.Ythkbcgggbgkfmaa
