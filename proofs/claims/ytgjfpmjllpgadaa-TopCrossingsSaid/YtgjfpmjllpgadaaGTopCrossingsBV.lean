/- Contracts by lists of functions on permutations: powers. No condition of its own. -/
import Derived.Test.YtgjfpmjllpgadaaGTopCrossingsBU
import Derived.Test.YtgjfpmjllpgadaaGTopCrossingsBS
import Derived.Test.YtgjfpmjllpgadaaGTopCrossingsBQ
set_option linter.unusedVariables false
set_option linter.unusedSimpArgs false
namespace Go.Proofs.Ytgjfpmjllpgadaa
open Go.RowKit

theorem itr_comp (B : Nat → Nat) (n a b : Nat) : tab n (fun i => itr B a (itr B b i)) = tab n (itr B (b + a)) := tab_ext (fun i _ => (itr_add B b a i).symm)
theorem itr_id (B : Nat → Nat) (n : Nat) : tab n (itr B 0) = tab n id := tab_ext (fun i _ => rfl)
theorem itr_1 (B : Nat → Nat) (n : Nat) : tab n (itr B 1) = tab n B := tab_ext (fun i _ => rfl)
theorem permFault_pm {xs : List Int} (h : permFault xs = 0) : xs.length ≤ 9 ∧ Pm xs := by
  obtain ⟨h1, h2, h3⟩ := permFault_range h
  exact ⟨h1, h2, h3⟩
theorem order_bd {xs : List Int} (h : permFault xs = 0) : 1 ≤ orderOf xs ∧ orderOf xs ≤ 2520 := by
  obtain ⟨h9, hr, _⟩ := permFault_range h
  exact ordAt_bd (fun c hc => by have := cyclesOf_lens hr c hc; omega) _ (Nat.le_refl _)
/-- R.Times from the head of its loop on, for whatever map -/
def powT (xs : List Int) (k : Int) : List Int := if 0 ≤ k then tab xs.length (itr (fn xs) k.toNat) else tab xs.length (itr (gn xs) (-k).toNat)
theorem g_all {xs : List Int} (hp : Pm xs) (ho : 1 ≤ orderOf xs) : ∀ i, i < xs.length → gn xs i < xs.length ∧ fn xs (gn xs i) = i ∧ gn xs (fn xs i) = i :=
  fun i hi => ⟨gn_lt hp i hi, fn_gn hp ho hi, gn_fn hp ho hi⟩
end Go.Proofs.Ytgjfpmjllpgadaa

/- Compose, Inverse and Power by lists; the law. No condition of its own. -/
set_option linter.unusedVariables false
set_option linter.unusedSimpArgs false
namespace Go.Proofs.Ytgjfpmjllpgadaa
open Go.RowKit

theorem pow_pos {xs : List Int} (hp : Pm xs) {k : Int} (hk : 0 ≤ k) : tab xs.length (itr (fn xs) (k.toNat % orderOf xs)) = powT xs k := by
  unfold powT; rw [if_pos hk]
  exact tab_ext (fun i hi => pow_mod hp hi _)
theorem pow_neg {xs : List Int} (hp : Pm xs) (ho : 1 ≤ orderOf xs) {k : Int} (hk : ¬ 0 ≤ k) {m : Nat} (hm : orderOf xs ∣ (-k).toNat + m) : tab xs.length (itr (fn xs) m) = powT xs k := by
  unfold powT; rw [if_neg hk]
  exact tab_ext (fun i hi => (gn_pow hp ho _ _ i hi hm).symm)
theorem modfact {k : Int} {N : Nat} (hN : 1 ≤ N) (hk : 0 ≤ k) : (k % (N : Int) + N) % (N : Int) = ((k.toNat % N : Nat) : Int) := by
  rw [Int.add_emod_right, Int.emod_emod_of_dvd _ (Int.dvd_refl _)]
  obtain ⟨j, rfl⟩ : ∃ j : Nat, k = j := ⟨k.toNat, by omega⟩
  simp
theorem negfact {k : Int} {N : Nat} (hN : 1 ≤ N) (hk : ¬ 0 ≤ k) : ∃ m : Nat, (k.tmod (N : Int) + N) % (N : Int) = (m : Int) ∧ N ∣ (-k).toNat + m := by
  obtain ⟨j, hj⟩ : ∃ j : Nat, k = -(j : Int) := ⟨(-k).toNat, by omega⟩
  subst hj
  have hlt := Nat.mod_lt j hN
  refine ⟨(N - j % N) % N, ?_, ?_⟩
  · rw [Int.neg_tmod, Int.tmod_eq_emod_of_nonneg (by omega)]
    rw [show -((j : Int) % (N : Int)) + N = ((N - j % N : Nat) : Int) by rw [Int.ofNat_sub (by omega)]; push_cast; omega]
    push_cast; rfl
  · rw [show (-(-(j : Int))).toNat = j by omega]
    apply Nat.dvd_of_mod_eq_zero
    rw [Nat.add_mod, Nat.mod_mod]
    by_cases h0 : j % N = 0
    · rw [h0]; simp
    · rw [Nat.mod_eq_of_lt (show N - j % N < N by omega), show j % N + (N - j % N) = N by omega, Nat.mod_self]
theorem tmod_bd {k : Int} {N : Nat} (hN : 1 ≤ N) (hk : ¬ 0 ≤ k) : -(N : Int) < k.tmod N ∧ k.tmod N ≤ 0 := by
  obtain ⟨j, hj⟩ : ∃ j : Nat, k = -(j : Int) := ⟨(-k).toNat, by omega⟩
  subst hj
  rw [Int.neg_tmod, Int.tmod_eq_emod_of_nonneg (by omega)]
  have h1 := Int.emod_nonneg (j : Int) (show (N : Int) ≠ 0 by omega)
  have h2 := Int.emod_lt_of_pos (j : Int) (show (0 : Int) < N by omega)
  omega
end Go.Proofs.Ytgjfpmjllpgadaa

/- perm.Cycles and Sign; Rounds, Period and Parity of the reference. No condition of its own. -/
set_option linter.unusedVariables false
set_option linter.unusedSimpArgs false
namespace Go.Proofs.Ytgjfpmjllpgadaa
open Go.RowKit

theorem plls_tri {h : HP} {m : Nat} {ls : List (List Int)} (hm : m = ls.length) : Fz h (.lst true 1 m (ls.map pli)) (plls ls) := by
  subst hm
  exact Fz.nrm (p := .lst true 1 ls.length (ls.map pli)) (plls_cl ls)
set_option maxHeartbeats 2000000 in
set_option maxRecDepth 100000 in
theorem sign_s {xs : List Int} (hb : ∀ x ∈ xs, in64 x) : SC Try.prog 63 [pli xs] (.tup [pint (if permFault xs = 0 then sgn (ivc (fn xs) xs.length) else 0), pint (permFault xs)]) := by
  have hC := check_s hb
  refine SC.go {} tok mixed Try.func63 rfl rfl Try.ntmps63 rfl rfl (by kernel_rfl) ?_
  first | simp only [updS] | simp only [updL, Nat.reduceAdd]
  by_cases hf : permFault xs = 0
  · rw [hf] at hC
    rw [if_pos hf, hf]
    obtain ⟨h9, hp⟩ := permFault_pm hf
    have hO := (cycles_o hp.rng h9).sc (by simp)
    obtain ⟨h1, h2⟩ := sign_cyc hp
    unfold sgn
    rw [← h1]
    obtain ⟨m, hm⟩ : ∃ m, m = (cyclesOf xs).length := ⟨_, rfl⟩
    repeat (first | refine S0 ?_ | refine S1 ?_ | refine S2 ?_ | refine S3 ?_ | refine S4 ?_ | refine S5 ?_ | refine S6 ?_ | refine S7 ?_ | refine S8 ?_ | refine S9 ?_ | refine S10 ?_ | refine S11 ?_ | refine S12 ?_ | refine S13 ?_ | refine S14 ?_ | refine S15 ?_ | refine S16 ?_ | refine S17 ?_ ?_ | refine S18 ?_ | refine S19 ?_ | refine S20 ?_ | refine S21 ?_ | refine S22 ?_ | refine S23 ?_ | refine S24 ?_ | refine S25 ?_ | refine S26 ?_ | refine S27 ?_ | refine S28 ?_ | refine S29 ?_ | refine S30 ?_ | refine S31 ?_ | refine S32 ?_ | refine S33 ?_ | refine S34 ?_ | refine S35 ?_ | refine S36 ?_ | refine S37 ?_ | refine S38 ?_ | refine S39 ?_ | refine S40 ?_ | refine S41 ?_ | refine S42 ?_ | refine S43 ?_ | refine S44 ?_ | refine S45 ?_ | refine S46 ?_ | refine S47 ?_ | refine S48 ?_ | refine S49 ?_ | refine S50 ?_ | refine S51 ?_ | refine S52 ?_ | refine S53 ?_ | refine S54 ?_ | refine S55 ?_ | refine S56 ?_ | refine S57 ?_ | refine S58 ?_ | refine S59 ?_ | refine S60 ?_ | refine S61 ?_ | refine S62 ?_ | refine S63 ?_ | refine S64 ?_ | refine S65 ?_ | refine S66 ?_ | refine S67 ?_ | refine S68 ?_ | refine S69 ?_ | refine S70 ?_ | refine S71 ?_ | refine S72 ?_ | refine S73 ?_ | refine S74 ?_ | refine S75 ?_ | refine S76 ?_ | refine S77 ?_ | refine S78 ?_ | refine S79 ?_ | refine S80 ?_ | refine S81 ?_ | refine S82 ?_ | refine S83 ?_ | refine S84 ?_ | refine S85 ?_ | refine S86 ?_ | refine S87 ?_)
    refine Scall (args := [pli xs]) hC ?_
    repeat (first | refine S0 ?_ | refine S1 ?_ | refine S2 ?_ | refine S3 ?_ | refine S4 ?_ | refine S5 ?_ | refine S6 ?_ | refine S7 ?_ | refine S8 ?_ | refine S9 ?_ | refine S10 ?_ | refine S11 ?_ | refine S12 ?_ | refine S13 ?_ | refine S14 ?_ | refine S15 ?_ | refine S16 ?_ | refine S17 ?_ ?_ | refine S18 ?_ | refine S19 ?_ | refine S20 ?_ | refine S21 ?_ | refine S22 ?_ | refine S23 ?_ | refine S24 ?_ | refine S25 ?_ | refine S26 ?_ | refine S27 ?_ | refine S28 ?_ | refine S29 ?_ | refine S30 ?_ | refine S31 ?_ | refine S32 ?_ | refine S33 ?_ | refine S34 ?_ | refine S35 ?_ | refine S36 ?_ | refine S37 ?_ | refine S38 ?_ | refine S39 ?_ | refine S40 ?_ | refine S41 ?_ | refine S42 ?_ | refine S43 ?_ | refine S44 ?_ | refine S45 ?_ | refine S46 ?_ | refine S47 ?_ | refine S48 ?_ | refine S49 ?_ | refine S50 ?_ | refine S51 ?_ | refine S52 ?_ | refine S53 ?_ | refine S54 ?_ | refine S55 ?_ | refine S56 ?_ | refine S57 ?_ | refine S58 ?_ | refine S59 ?_ | refine S60 ?_ | refine S61 ?_ | refine S62 ?_ | refine S63 ?_ | refine S64 ?_ | refine S65 ?_ | refine S66 ?_ | refine S67 ?_ | refine S68 ?_ | refine S69 ?_ | refine S70 ?_ | refine S71 ?_ | refine S72 ?_ | refine S73 ?_ | refine S74 ?_ | refine S75 ?_ | refine S76 ?_ | refine S77 ?_ | refine S78 ?_ | refine S79 ?_ | refine S80 ?_ | refine S81 ?_ | refine S82 ?_ | refine S83 ?_ | refine S84 ?_ | refine S85 ?_ | refine S86 ?_ | refine S87 ?_)
    refine Scall (args := [pli xs]) hO ?_ (hc := by simp only [PV.cl.clL, pli_cl, Bool.and_self])
    rw [← hm] at h1 h2 ⊢
    by_cases hz : (xs.length - m) % 2 = 0
    · rw [if_pos hz]
      have hz2 : ¬ ((xs.length : Int) - (m : Int)) % 2 = 1 := by omega
      repeat (first | refine S0 ?_ | refine S1 ?_ | refine S2 ?_ | refine S3 ?_ | refine S4 ?_ | refine S5 ?_ | refine S6 ?_ | refine S7 ?_ | refine S8 ?_ | refine S9 ?_ | refine S10 ?_ | refine S11 ?_ | refine S12 ?_ | refine S13 ?_ | refine S14 ?_ | refine S15 ?_ | refine S16 ?_ | refine S17 ?_ ?_ | refine S18 ?_ | refine S19 ?_ | refine S20 ?_ | refine S21 ?_ | refine S22 ?_ | refine S23 ?_ | refine S24 ?_ | refine S25 ?_ | refine S26 ?_ | refine S27 ?_ | refine S28 ?_ | refine S29 ?_ | refine S30 ?_ | refine S31 ?_ | refine S32 ?_ | refine S33 ?_ | refine S34 ?_ | refine S35 ?_ | refine S36 ?_ | refine S37 ?_ | refine S38 ?_ | refine S39 ?_ | refine S40 ?_ | refine S41 ?_ | refine S42 ?_ | refine S43 ?_ | refine S44 ?_ | refine S45 ?_ | refine S46 ?_ | refine S47 ?_ | refine S48 ?_ | refine S49 ?_ | refine S50 ?_ | refine S51 ?_ | refine S52 ?_ | refine S53 ?_ | refine S54 ?_ | refine S55 ?_ | refine S56 ?_ | refine S57 ?_ | refine S58 ?_ | refine S59 ?_ | refine S60 ?_ | refine S61 ?_ | refine S62 ?_ | refine S63 ?_ | refine S64 ?_ | refine S65 ?_ | refine S66 ?_ | refine S67 ?_ | refine S68 ?_ | refine S69 ?_ | refine S70 ?_ | refine S71 ?_ | refine S72 ?_ | refine S73 ?_ | refine S74 ?_ | refine S75 ?_ | refine S76 ?_ | refine S77 ?_ | refine S78 ?_ | refine S79 ?_ | refine S80 ?_ | refine S81 ?_ | refine S82 ?_ | refine S83 ?_ | refine S84 ?_ | refine S85 ?_ | refine S86 ?_ | refine S87 ?_)
      exact ⟨.inr rfl, Fz.pair (.cl rfl) (.cl rfl)⟩
    · rw [if_neg hz]
      have hz2 : ((xs.length : Int) - (m : Int)) % 2 = 1 := by omega
      repeat (first | refine S0 ?_ | refine S1 ?_ | refine S2 ?_ | refine S3 ?_ | refine S4 ?_ | refine S5 ?_ | refine S6 ?_ | refine S7 ?_ | refine S8 ?_ | refine S9 ?_ | refine S10 ?_ | refine S11 ?_ | refine S12 ?_ | refine S13 ?_ | refine S14 ?_ | refine S15 ?_ | refine S16 ?_ | refine S17 ?_ ?_ | refine S18 ?_ | refine S19 ?_ | refine S20 ?_ | refine S21 ?_ | refine S22 ?_ | refine S23 ?_ | refine S24 ?_ | refine S25 ?_ | refine S26 ?_ | refine S27 ?_ | refine S28 ?_ | refine S29 ?_ | refine S30 ?_ | refine S31 ?_ | refine S32 ?_ | refine S33 ?_ | refine S34 ?_ | refine S35 ?_ | refine S36 ?_ | refine S37 ?_ | refine S38 ?_ | refine S39 ?_ | refine S40 ?_ | refine S41 ?_ | refine S42 ?_ | refine S43 ?_ | refine S44 ?_ | refine S45 ?_ | refine S46 ?_ | refine S47 ?_ | refine S48 ?_ | refine S49 ?_ | refine S50 ?_ | refine S51 ?_ | refine S52 ?_ | refine S53 ?_ | refine S54 ?_ | refine S55 ?_ | refine S56 ?_ | refine S57 ?_ | refine S58 ?_ | refine S59 ?_ | refine S60 ?_ | refine S61 ?_ | refine S62 ?_ | refine S63 ?_ | refine S64 ?_ | refine S65 ?_ | refine S66 ?_ | refine S67 ?_ | refine S68 ?_ | refine S69 ?_ | refine S70 ?_ | refine S71 ?_ | refine S72 ?_ | refine S73 ?_ | refine S74 ?_ | refine S75 ?_ | refine S76 ?_ | refine S77 ?_ | refine S78 ?_ | refine S79 ?_ | refine S80 ?_ | refine S81 ?_ | refine S82 ?_ | refine S83 ?_ | refine S84 ?_ | refine S85 ?_ | refine S86 ?_ | refine S87 ?_)
      exact ⟨.inr rfl, Fz.pair (.cl rfl) (.cl rfl)⟩
  · rw [if_neg hf]
    repeat (first | refine S0 ?_ | refine S1 ?_ | refine S2 ?_ | refine S3 ?_ | refine S4 ?_ | refine S5 ?_ | refine S6 ?_ | refine S7 ?_ | refine S8 ?_ | refine S9 ?_ | refine S10 ?_ | refine S11 ?_ | refine S12 ?_ | refine S13 ?_ | refine S14 ?_ | refine S15 ?_ | refine S16 ?_ | refine S17 ?_ ?_ | refine S18 ?_ | refine S19 ?_ | refine S20 ?_ | refine S21 ?_ | refine S22 ?_ | refine S23 ?_ | refine S24 ?_ | refine S25 ?_ | refine S26 ?_ | refine S27 ?_ | refine S28 ?_ | refine S29 ?_ | refine S30 ?_ | refine S31 ?_ | refine S32 ?_ | refine S33 ?_ | refine S34 ?_ | refine S35 ?_ | refine S36 ?_ | refine S37 ?_ | refine S38 ?_ | refine S39 ?_ | refine S40 ?_ | refine S41 ?_ | refine S42 ?_ | refine S43 ?_ | refine S44 ?_ | refine S45 ?_ | refine S46 ?_ | refine S47 ?_ | refine S48 ?_ | refine S49 ?_ | refine S50 ?_ | refine S51 ?_ | refine S52 ?_ | refine S53 ?_ | refine S54 ?_ | refine S55 ?_ | refine S56 ?_ | refine S57 ?_ | refine S58 ?_ | refine S59 ?_ | refine S60 ?_ | refine S61 ?_ | refine S62 ?_ | refine S63 ?_ | refine S64 ?_ | refine S65 ?_ | refine S66 ?_ | refine S67 ?_ | refine S68 ?_ | refine S69 ?_ | refine S70 ?_ | refine S71 ?_ | refine S72 ?_ | refine S73 ?_ | refine S74 ?_ | refine S75 ?_ | refine S76 ?_ | refine S77 ?_ | refine S78 ?_ | refine S79 ?_ | refine S80 ?_ | refine S81 ?_ | refine S82 ?_ | refine S83 ?_ | refine S84 ?_ | refine S85 ?_ | refine S86 ?_ | refine S87 ?_)
    refine Scall (args := [pli xs]) hC ?_
    repeat (first | refine S0 ?_ | refine S1 ?_ | refine S2 ?_ | refine S3 ?_ | refine S4 ?_ | refine S5 ?_ | refine S6 ?_ | refine S7 ?_ | refine S8 ?_ | refine S9 ?_ | refine S10 ?_ | refine S11 ?_ | refine S12 ?_ | refine S13 ?_ | refine S14 ?_ | refine S15 ?_ | refine S16 ?_ | refine S17 ?_ ?_ | refine S18 ?_ | refine S19 ?_ | refine S20 ?_ | refine S21 ?_ | refine S22 ?_ | refine S23 ?_ | refine S24 ?_ | refine S25 ?_ | refine S26 ?_ | refine S27 ?_ | refine S28 ?_ | refine S29 ?_ | refine S30 ?_ | refine S31 ?_ | refine S32 ?_ | refine S33 ?_ | refine S34 ?_ | refine S35 ?_ | refine S36 ?_ | refine S37 ?_ | refine S38 ?_ | refine S39 ?_ | refine S40 ?_ | refine S41 ?_ | refine S42 ?_ | refine S43 ?_ | refine S44 ?_ | refine S45 ?_ | refine S46 ?_ | refine S47 ?_ | refine S48 ?_ | refine S49 ?_ | refine S50 ?_ | refine S51 ?_ | refine S52 ?_ | refine S53 ?_ | refine S54 ?_ | refine S55 ?_ | refine S56 ?_ | refine S57 ?_ | refine S58 ?_ | refine S59 ?_ | refine S60 ?_ | refine S61 ?_ | refine S62 ?_ | refine S63 ?_ | refine S64 ?_ | refine S65 ?_ | refine S66 ?_ | refine S67 ?_ | refine S68 ?_ | refine S69 ?_ | refine S70 ?_ | refine S71 ?_ | refine S72 ?_ | refine S73 ?_ | refine S74 ?_ | refine S75 ?_ | refine S76 ?_ | refine S77 ?_ | refine S78 ?_ | refine S79 ?_ | refine S80 ?_ | refine S81 ?_ | refine S82 ?_ | refine S83 ?_ | refine S84 ?_ | refine S85 ?_ | refine S86 ?_ | refine S87 ?_)
    exact ⟨.inr rfl, Fz.pair (.cl rfl) (.cl rfl)⟩
theorem not_mn_ex {f : Nat → Nat} {k L : Nat} (h1 : 1 ≤ L) (h2 : itr f L k = k) (h : ¬ mn f k) : ∃ j, j < L ∧ itr f j k < k := by
  apply Classical.byContradiction; intro hc
  apply h
  intro j
  rw [itr_mod h2 j]
  apply Classical.byContradiction; intro h3
  exact hc ⟨j % L, Nat.mod_lt _ h1, by omega⟩
end Go.Proofs.Ytgjfpmjllpgadaa
