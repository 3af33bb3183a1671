/- The reference's Moved. No condition of its own. -/
import Derived.Test.YtojklacicjopkaaMarkE
set_option linter.unusedVariables false
set_option linter.unusedSimpArgs false
namespace Go.Proofs.Ytojklacicjopkaa
open Go.RowKit

def cn7 (n : Int) (w : List Int) : Nat → Nat
  | 0 => 0
  | k + 1 => cn7 n w k + (if absI (w.getD k 0) = n - 1 then 1 else 0)
theorem cn7_le (n : Int) (w : List Int) : ∀ k, cn7 n w k ≤ k
  | 0 => Nat.le_refl _
  | k + 1 => by have := cn7_le n w k; simp only [cn7]; split <;> omega
theorem cn7_zero {n : Int} {w : List Int} : ∀ k, cn7 n w k = 0 ↔ ∀ j, j < k → absI (w.getD j 0) ≠ n - 1
  | 0 => ⟨fun _ j hj => by omega, fun _ => rfl⟩
  | k + 1 => by
    have ih := cn7_zero (n := n) (w := w) k
    simp only [cn7]
    constructor
    · intro h j hj
      by_cases e : j = k
      · subst e; intro hc; rw [if_pos hc] at h; omega
      · exact ih.1 (by omega) j (by omega)
    · intro h
      rw [if_neg (h k (by omega)), ih.2 (fun j hj => h j (by omega))]
theorem cn7_las {n : Int} {w : List Int} (hb : ∀ j, j < w.length → 1 ≤ absI (w.getD j 0) ∧ absI (w.getD j 0) ≤ n - 1) : lasP n w ↔ cn7 n w w.length = 1 ∧ absI (w.getD (w.length - 1) 0) = n - 1 := by
  unfold lasP wAt
  constructor
  · rintro ⟨h1, m, h2, h3, h4⟩
    rw [h2, Nat.add_sub_cancel]
    refine ⟨?_, h3⟩
    simp only [cn7]
    rw [if_pos h3, (cn7_zero m).2 h4]
  · rintro ⟨h1, h2⟩
    have hpos : 0 < w.length := by
      apply Classical.byContradiction; intro hc
      obtain h0 : w.length = 0 := by omega
      rw [h0] at h1; simp [cn7] at h1
    obtain ⟨m, hm⟩ : ∃ m, w.length = m + 1 := ⟨w.length - 1, by omega⟩
    rw [hm] at h1 h2
    rw [Nat.add_sub_cancel] at h2
    simp only [cn7] at h1
    rw [if_pos h2] at h1
    have := hb m (by omega)
    exact ⟨by omega, m, hm, h2, (cn7_zero m).1 (by omega)⟩
set_option maxHeartbeats 8000000 in
set_option maxRecDepth 100000 in
theorem moved_des {n : Int} {w : List Int} (a L : Int) (h : bF n w = 0) (ha : in64 a) (hL : in64 L) : SC Try.prog 8 [pint n, pli w, .agg [pint 7, pint a, pint L]] (.tup [pint (mvR n w 7 a L).k, pli (mvR n w 7 a L).x, pint (mvR n w 7 a L).f]) := by
  obtain ⟨hn, hl, hw⟩ := bF_ok h
  unfold in64 at ha hL
  have kc := clone_o w (by omega)
  rw [mvR_lim (by omega)]
  refine SC.go {} tok mixed Try.func8 rfl rfl Try.ntmps8 rfl rfl (by kernel_rfl) ?_
  first | simp only [updS] | simp only [updL, Nat.reduceAdd]
  repeat (first | refine S0 ?_ | refine S1 ?_ | refine S2 ?_ | refine S3 ?_ | refine S4 ?_ | refine S5 ?_ | refine S6 ?_ | refine S7 ?_ | refine S8 ?_ | refine S9 ?_ | refine S10 ?_ | refine S11 ?_ | refine S12 ?_ | refine S13 ?_ | refine S14 ?_ | refine S15 ?_ | refine S16 ?_ | refine S17 ?_ ?_ | refine S18 ?_ | refine S19 ?_ | refine S20 ?_ | refine S21 ?_ | refine S22 ?_ | refine S23 ?_ | refine S24 ?_ | refine S25 ?_ | refine S26 ?_ | refine S27 ?_ | refine S28 ?_ | refine S29 ?_ | refine S30 ?_ | refine S31 ?_ | refine S32 ?_ | refine S33 ?_ | refine S34 ?_ | refine S35 ?_ | refine S36 ?_ | refine S37 ?_ | refine S38 ?_ | refine S39 ?_ | refine S40 ?_ | refine S41 ?_ | refine S42 ?_ | refine S43 ?_ | refine S44 ?_ | refine S45 ?_ | refine S46 ?_ | refine S47 ?_ | refine S48 ?_ | refine S49 ?_ | refine S50 ?_ | refine S51 ?_ | refine S52 ?_ | refine S53 ?_ | refine S54 ?_ | refine S55 ?_ | refine S56 ?_ | refine S57 ?_ | refine S58 ?_ | refine S59 ?_ | refine S60 ?_ | refine S61 ?_ | refine S62 ?_ | refine S63 ?_ | refine S64 ?_ | refine S65 ?_ | refine S66 ?_ | refine S67 ?_ | refine S68 ?_ | refine S69 ?_ | refine S70 ?_ | refine S71 ?_ | refine S72 ?_ | refine S73 ?_ | refine S74 ?_ | refine S75 ?_ | refine S76 ?_ | refine S77 ?_ | refine S78 ?_ | refine S79 ?_ | refine S80 ?_ | refine S81 ?_ | refine S82 ?_ | refine S83 ?_ | refine S84 ?_ | refine S85 ?_ | refine S86 ?_)
  refine Scallo (args := [pli w]) kc ?_
  rw [show perW n w 7 a L = if lasP n w then ⟨n - 1, w.take (w.length - 1), 0⟩ else badM 4 from rfl]
  have hg : ∀ j, j < w.length → letP n (wAt w j) := fun j hj => hw _ (by unfold wAt; rw [getD_lt 0 hj]; exact List.getElem_mem _)
  have hb : ∀ j, j < w.length → (1 ≤ absI (w.getD j 0) ∧ absI (w.getD j 0) ≤ n - 1) ∧ -6 < w.getD j 0 ∧ w.getD j 0 < 6 := fun j hj => by have := abs_let (hg j hj) hn.2; unfold wAt at this; omega
  repeat (first | refine S0 ?_ | refine S1 ?_ | refine S2 ?_ | refine S3 ?_ | refine S4 ?_ | refine S5 ?_ | refine S6 ?_ | refine S7 ?_ | refine S8 ?_ | refine S9 ?_ | refine S10 ?_ | refine S11 ?_ | refine S12 ?_ | refine S13 ?_ | refine S14 ?_ | refine S15 ?_ | refine S16 ?_ | refine S17 ?_ ?_ | refine S18 ?_ | refine S19 ?_ | refine S20 ?_ | refine S21 ?_ | refine S22 ?_ | refine S23 ?_ | refine S24 ?_ | refine S25 ?_ | refine S26 ?_ | refine S27 ?_ | refine S28 ?_ | refine S29 ?_ | refine S30 ?_ | refine S31 ?_ | refine S32 ?_ | refine S33 ?_ | refine S34 ?_ | refine S35 ?_ | refine S36 ?_ | refine S37 ?_ | refine S38 ?_ | refine S39 ?_ | refine S40 ?_ | refine S41 ?_ | refine S42 ?_ | refine S43 ?_ | refine S44 ?_ | refine S45 ?_ | refine S46 ?_ | refine S47 ?_ | refine S48 ?_ | refine S49 ?_ | refine S50 ?_ | refine S51 ?_ | refine S52 ?_ | refine S53 ?_ | refine S54 ?_ | refine S55 ?_ | refine S56 ?_ | refine S57 ?_ | refine S58 ?_ | refine S59 ?_ | refine S60 ?_ | refine S61 ?_ | refine S62 ?_ | refine S63 ?_ | refine S64 ?_ | refine S65 ?_ | refine S66 ?_ | refine S67 ?_ | refine S68 ?_ | refine S69 ?_ | refine S70 ?_ | refine S71 ?_ | refine S72 ?_ | refine S73 ?_ | refine S74 ?_ | refine S75 ?_ | refine S76 ?_ | refine S77 ?_ | refine S78 ?_ | refine S79 ?_ | refine S80 ?_ | refine S81 ?_ | refine S82 ?_ | refine S83 ?_ | refine S84 ?_ | refine S85 ?_ | refine S86 ?_)
  refine AW.subW EVx EVx ?_
  repeat (first | refine S0 ?_ | refine S1 ?_ | refine S2 ?_ | refine S3 ?_ | refine S4 ?_ | refine S5 ?_ | refine S6 ?_ | refine S7 ?_ | refine S8 ?_ | refine S9 ?_ | refine S10 ?_ | refine S11 ?_ | refine S12 ?_ | refine S13 ?_ | refine S14 ?_ | refine S15 ?_ | refine S16 ?_ | refine S17 ?_ ?_ | refine S18 ?_ | refine S19 ?_ | refine S20 ?_ | refine S21 ?_ | refine S22 ?_ | refine S23 ?_ | refine S24 ?_ | refine S25 ?_ | refine S26 ?_ | refine S27 ?_ | refine S28 ?_ | refine S29 ?_ | refine S30 ?_ | refine S31 ?_ | refine S32 ?_ | refine S33 ?_ | refine S34 ?_ | refine S35 ?_ | refine S36 ?_ | refine S37 ?_ | refine S38 ?_ | refine S39 ?_ | refine S40 ?_ | refine S41 ?_ | refine S42 ?_ | refine S43 ?_ | refine S44 ?_ | refine S45 ?_ | refine S46 ?_ | refine S47 ?_ | refine S48 ?_ | refine S49 ?_ | refine S50 ?_ | refine S51 ?_ | refine S52 ?_ | refine S53 ?_ | refine S54 ?_ | refine S55 ?_ | refine S56 ?_ | refine S57 ?_ | refine S58 ?_ | refine S59 ?_ | refine S60 ?_ | refine S61 ?_ | refine S62 ?_ | refine S63 ?_ | refine S64 ?_ | refine S65 ?_ | refine S66 ?_ | refine S67 ?_ | refine S68 ?_ | refine S69 ?_ | refine S70 ?_ | refine S71 ?_ | refine S72 ?_ | refine S73 ?_ | refine S74 ?_ | refine S75 ?_ | refine S76 ?_ | refine S77 ?_ | refine S78 ?_ | refine S79 ?_ | refine S80 ?_ | refine S81 ?_ | refine S82 ?_ | refine S83 ?_ | refine S84 ?_ | refine S85 ?_ | refine S86 ?_)
  refine CW.loopS (fun k : Nat => k ≤ w.length) (fun k => [(0, pint n), (1, pli w), (9, pint n), (10, .ref 0 0 1 w.length), (11, pint 0), (17, pint (cn7 n w k)), (200, pli w), (201, pint w.length), (202, pint k)]) (fun _ hp => hp.blk 0 = some (ints w)) (fun k => w.length - k) 0 ⟨Nat.zero_le _, SLx, HBx⟩ ?_
  rintro k t h' hk hB
  first | simp only [updS] | simp only [updL, Nat.reduceAdd]
  have hcl := cn7_le n w k
  by_cases hlt : k < w.length
  · have kb := hb k hlt
    have kI := rindex_s (w.getD k 0) (by omega)
    have hs : cn7 n w (k + 1) = cn7 n w k + (if absI (w.getD k 0) = n - 1 then 1 else 0) := rfl
    repeat (first | refine S0 ?_ | refine S1 ?_ | refine S2 ?_ | refine S3 ?_ | refine S4 ?_ | refine S5 ?_ | refine S6 ?_ | refine S7 ?_ | refine S8 ?_ | refine S9 ?_ | refine S10 ?_ | refine S11 ?_ | refine S12 ?_ | refine S13 ?_ | refine S14 ?_ | refine S15 ?_ | refine S16 ?_ | refine S17 ?_ ?_ | refine S18 ?_ | refine S19 ?_ | refine S20 ?_ | refine S21 ?_ | refine S22 ?_ | refine S23 ?_ | refine S24 ?_ | refine S25 ?_ | refine S26 ?_ | refine S27 ?_ | refine S28 ?_ | refine S29 ?_ | refine S30 ?_ | refine S31 ?_ | refine S32 ?_ | refine S33 ?_ | refine S34 ?_ | refine S35 ?_ | refine S36 ?_ | refine S37 ?_ | refine S38 ?_ | refine S39 ?_ | refine S40 ?_ | refine S41 ?_ | refine S42 ?_ | refine S43 ?_ | refine S44 ?_ | refine S45 ?_ | refine S46 ?_ | refine S47 ?_ | refine S48 ?_ | refine S49 ?_ | refine S50 ?_ | refine S51 ?_ | refine S52 ?_ | refine S53 ?_ | refine S54 ?_ | refine S55 ?_ | refine S56 ?_ | refine S57 ?_ | refine S58 ?_ | refine S59 ?_ | refine S60 ?_ | refine S61 ?_ | refine S62 ?_ | refine S63 ?_ | refine S64 ?_ | refine S65 ?_ | refine S66 ?_ | refine S67 ?_ | refine S68 ?_ | refine S69 ?_ | refine S70 ?_ | refine S71 ?_ | refine S72 ?_ | refine S73 ?_ | refine S74 ?_ | refine S75 ?_ | refine S76 ?_ | refine S77 ?_ | refine S78 ?_ | refine S79 ?_ | refine S80 ?_ | refine S81 ?_ | refine S82 ?_ | refine S83 ?_ | refine S84 ?_ | refine S85 ?_ | refine S86 ?_)
    refine Scall (args := [pint (w.getD k 0)]) kI ?_
    by_cases hc : absI (w.getD k 0) = n - 1
    · rw [if_pos hc] at hs
      repeat (first | refine S0 ?_ | refine S1 ?_ | refine S2 ?_ | refine S3 ?_ | refine S4 ?_ | refine S5 ?_ | refine S6 ?_ | refine S7 ?_ | refine S8 ?_ | refine S9 ?_ | refine S10 ?_ | refine S11 ?_ | refine S12 ?_ | refine S13 ?_ | refine S14 ?_ | refine S15 ?_ | refine S16 ?_ | refine S17 ?_ ?_ | refine S18 ?_ | refine S19 ?_ | refine S20 ?_ | refine S21 ?_ | refine S22 ?_ | refine S23 ?_ | refine S24 ?_ | refine S25 ?_ | refine S26 ?_ | refine S27 ?_ | refine S28 ?_ | refine S29 ?_ | refine S30 ?_ | refine S31 ?_ | refine S32 ?_ | refine S33 ?_ | refine S34 ?_ | refine S35 ?_ | refine S36 ?_ | refine S37 ?_ | refine S38 ?_ | refine S39 ?_ | refine S40 ?_ | refine S41 ?_ | refine S42 ?_ | refine S43 ?_ | refine S44 ?_ | refine S45 ?_ | refine S46 ?_ | refine S47 ?_ | refine S48 ?_ | refine S49 ?_ | refine S50 ?_ | refine S51 ?_ | refine S52 ?_ | refine S53 ?_ | refine S54 ?_ | refine S55 ?_ | refine S56 ?_ | refine S57 ?_ | refine S58 ?_ | refine S59 ?_ | refine S60 ?_ | refine S61 ?_ | refine S62 ?_ | refine S63 ?_ | refine S64 ?_ | refine S65 ?_ | refine S66 ?_ | refine S67 ?_ | refine S68 ?_ | refine S69 ?_ | refine S70 ?_ | refine S71 ?_ | refine S72 ?_ | refine S73 ?_ | refine S74 ?_ | refine S75 ?_ | refine S76 ?_ | refine S77 ?_ | refine S78 ?_ | refine S79 ?_ | refine S80 ?_ | refine S81 ?_ | refine S82 ?_ | refine S83 ?_ | refine S84 ?_ | refine S85 ?_ | refine S86 ?_)
      exact ⟨k + 1, by omega, by rw [hs]; exact SLx, HBx, by omega⟩
    · rw [if_neg hc, Nat.add_zero] at hs
      repeat (first | refine S0 ?_ | refine S1 ?_ | refine S2 ?_ | refine S3 ?_ | refine S4 ?_ | refine S5 ?_ | refine S6 ?_ | refine S7 ?_ | refine S8 ?_ | refine S9 ?_ | refine S10 ?_ | refine S11 ?_ | refine S12 ?_ | refine S13 ?_ | refine S14 ?_ | refine S15 ?_ | refine S16 ?_ | refine S17 ?_ ?_ | refine S18 ?_ | refine S19 ?_ | refine S20 ?_ | refine S21 ?_ | refine S22 ?_ | refine S23 ?_ | refine S24 ?_ | refine S25 ?_ | refine S26 ?_ | refine S27 ?_ | refine S28 ?_ | refine S29 ?_ | refine S30 ?_ | refine S31 ?_ | refine S32 ?_ | refine S33 ?_ | refine S34 ?_ | refine S35 ?_ | refine S36 ?_ | refine S37 ?_ | refine S38 ?_ | refine S39 ?_ | refine S40 ?_ | refine S41 ?_ | refine S42 ?_ | refine S43 ?_ | refine S44 ?_ | refine S45 ?_ | refine S46 ?_ | refine S47 ?_ | refine S48 ?_ | refine S49 ?_ | refine S50 ?_ | refine S51 ?_ | refine S52 ?_ | refine S53 ?_ | refine S54 ?_ | refine S55 ?_ | refine S56 ?_ | refine S57 ?_ | refine S58 ?_ | refine S59 ?_ | refine S60 ?_ | refine S61 ?_ | refine S62 ?_ | refine S63 ?_ | refine S64 ?_ | refine S65 ?_ | refine S66 ?_ | refine S67 ?_ | refine S68 ?_ | refine S69 ?_ | refine S70 ?_ | refine S71 ?_ | refine S72 ?_ | refine S73 ?_ | refine S74 ?_ | refine S75 ?_ | refine S76 ?_ | refine S77 ?_ | refine S78 ?_ | refine S79 ?_ | refine S80 ?_ | refine S81 ?_ | refine S82 ?_ | refine S83 ?_ | refine S84 ?_ | refine S85 ?_ | refine S86 ?_)
      exact ⟨k + 1, by omega, by rw [hs]; exact SLx, HBx, by omega⟩
  · obtain rfl : k = w.length := by omega
    have hlp := cn7_las (n := n) (w := w) (fun j hj => (hb j hj).1)
    by_cases h1 : cn7 n w w.length = 1
    · have hpos : 0 < w.length := by
        apply Classical.byContradiction; intro hc
        obtain h0 : w.length = 0 := by omega
        rw [h0] at h1; simp [cn7] at h1
      have e1 : ((w.length : Int) - 1).toNat = w.length - 1 := by omega
      have kb := hb (w.length - 1) (by omega)
      rw [← e1] at kb hlp ⊢
      have kI := rindex_s (w.getD ((w.length : Int) - 1).toNat 0) (by omega)
      rw [h1]
      repeat (first | refine S0 ?_ | refine S1 ?_ | refine S2 ?_ | refine S3 ?_ | refine S4 ?_ | refine S5 ?_ | refine S6 ?_ | refine S7 ?_ | refine S8 ?_ | refine S9 ?_ | refine S10 ?_ | refine S11 ?_ | refine S12 ?_ | refine S13 ?_ | refine S14 ?_ | refine S15 ?_ | refine S16 ?_ | refine S17 ?_ ?_ | refine S18 ?_ | refine S19 ?_ | refine S20 ?_ | refine S21 ?_ | refine S22 ?_ | refine S23 ?_ | refine S24 ?_ | refine S25 ?_ | refine S26 ?_ | refine S27 ?_ | refine S28 ?_ | refine S29 ?_ | refine S30 ?_ | refine S31 ?_ | refine S32 ?_ | refine S33 ?_ | refine S34 ?_ | refine S35 ?_ | refine S36 ?_ | refine S37 ?_ | refine S38 ?_ | refine S39 ?_ | refine S40 ?_ | refine S41 ?_ | refine S42 ?_ | refine S43 ?_ | refine S44 ?_ | refine S45 ?_ | refine S46 ?_ | refine S47 ?_ | refine S48 ?_ | refine S49 ?_ | refine S50 ?_ | refine S51 ?_ | refine S52 ?_ | refine S53 ?_ | refine S54 ?_ | refine S55 ?_ | refine S56 ?_ | refine S57 ?_ | refine S58 ?_ | refine S59 ?_ | refine S60 ?_ | refine S61 ?_ | refine S62 ?_ | refine S63 ?_ | refine S64 ?_ | refine S65 ?_ | refine S66 ?_ | refine S67 ?_ | refine S68 ?_ | refine S69 ?_ | refine S70 ?_ | refine S71 ?_ | refine S72 ?_ | refine S73 ?_ | refine S74 ?_ | refine S75 ?_ | refine S76 ?_ | refine S77 ?_ | refine S78 ?_ | refine S79 ?_ | refine S80 ?_ | refine S81 ?_ | refine S82 ?_ | refine S83 ?_ | refine S84 ?_ | refine S85 ?_ | refine S86 ?_)
      refine Scall (args := [pint (w.getD ((w.length : Int) - 1).toNat 0)]) kI ?_
      by_cases h2 : absI (w.getD ((w.length : Int) - 1).toNat 0) = n - 1
      · rw [if_pos (hlp.2 ⟨h1, h2⟩)]
        have htl : (w.take ((w.length : Int) - 1).toNat).length = w.length - 1 := by rw [e1, List.length_take]; omega
        simp only
        rw [limR_ok (by omega)]
        repeat (first | refine S0 ?_ | refine S1 ?_ | refine S2 ?_ | refine S3 ?_ | refine S4 ?_ | refine S5 ?_ | refine S6 ?_ | refine S7 ?_ | refine S8 ?_ | refine S9 ?_ | refine S10 ?_ | refine S11 ?_ | refine S12 ?_ | refine S13 ?_ | refine S14 ?_ | refine S15 ?_ | refine S16 ?_ | refine S17 ?_ ?_ | refine S18 ?_ | refine S19 ?_ | refine S20 ?_ | refine S21 ?_ | refine S22 ?_ | refine S23 ?_ | refine S24 ?_ | refine S25 ?_ | refine S26 ?_ | refine S27 ?_ | refine S28 ?_ | refine S29 ?_ | refine S30 ?_ | refine S31 ?_ | refine S32 ?_ | refine S33 ?_ | refine S34 ?_ | refine S35 ?_ | refine S36 ?_ | refine S37 ?_ | refine S38 ?_ | refine S39 ?_ | refine S40 ?_ | refine S41 ?_ | refine S42 ?_ | refine S43 ?_ | refine S44 ?_ | refine S45 ?_ | refine S46 ?_ | refine S47 ?_ | refine S48 ?_ | refine S49 ?_ | refine S50 ?_ | refine S51 ?_ | refine S52 ?_ | refine S53 ?_ | refine S54 ?_ | refine S55 ?_ | refine S56 ?_ | refine S57 ?_ | refine S58 ?_ | refine S59 ?_ | refine S60 ?_ | refine S61 ?_ | refine S62 ?_ | refine S63 ?_ | refine S64 ?_ | refine S65 ?_ | refine S66 ?_ | refine S67 ?_ | refine S68 ?_ | refine S69 ?_ | refine S70 ?_ | refine S71 ?_ | refine S72 ?_ | refine S73 ?_ | refine S74 ?_ | refine S75 ?_ | refine S76 ?_ | refine S77 ?_ | refine S78 ?_ | refine S79 ?_ | refine S80 ?_ | refine S81 ?_ | refine S82 ?_ | refine S83 ?_ | refine S84 ?_ | refine S85 ?_ | refine S86 ?_)
        refine AW.slrTo (q := w.length - 1) EVx rfl EVx (by omega) (by omega) ?_
        repeat (first | refine S0 ?_ | refine S1 ?_ | refine S2 ?_ | refine S3 ?_ | refine S4 ?_ | refine S5 ?_ | refine S6 ?_ | refine S7 ?_ | refine S8 ?_ | refine S9 ?_ | refine S10 ?_ | refine S11 ?_ | refine S12 ?_ | refine S13 ?_ | refine S14 ?_ | refine S15 ?_ | refine S16 ?_ | refine S17 ?_ ?_ | refine S18 ?_ | refine S19 ?_ | refine S20 ?_ | refine S21 ?_ | refine S22 ?_ | refine S23 ?_ | refine S24 ?_ | refine S25 ?_ | refine S26 ?_ | refine S27 ?_ | refine S28 ?_ | refine S29 ?_ | refine S30 ?_ | refine S31 ?_ | refine S32 ?_ | refine S33 ?_ | refine S34 ?_ | refine S35 ?_ | refine S36 ?_ | refine S37 ?_ | refine S38 ?_ | refine S39 ?_ | refine S40 ?_ | refine S41 ?_ | refine S42 ?_ | refine S43 ?_ | refine S44 ?_ | refine S45 ?_ | refine S46 ?_ | refine S47 ?_ | refine S48 ?_ | refine S49 ?_ | refine S50 ?_ | refine S51 ?_ | refine S52 ?_ | refine S53 ?_ | refine S54 ?_ | refine S55 ?_ | refine S56 ?_ | refine S57 ?_ | refine S58 ?_ | refine S59 ?_ | refine S60 ?_ | refine S61 ?_ | refine S62 ?_ | refine S63 ?_ | refine S64 ?_ | refine S65 ?_ | refine S66 ?_ | refine S67 ?_ | refine S68 ?_ | refine S69 ?_ | refine S70 ?_ | refine S71 ?_ | refine S72 ?_ | refine S73 ?_ | refine S74 ?_ | refine S75 ?_ | refine S76 ?_ | refine S77 ?_ | refine S78 ?_ | refine S79 ?_ | refine S80 ?_ | refine S81 ?_ | refine S82 ?_ | refine S83 ?_ | refine S84 ?_ | refine S85 ?_ | refine S86 ?_)

        have hB' : h'.blk 0 = some (ints w) := hB
        have hF : Fz h' (.ref 0 0 1 (w.length - 1)) (pli (w.take ((w.length : Int) - 1).toNat)) := by
          rw [e1]
          have hl2 : (w.take (w.length - 1)).length = w.length - 1 := by rw [List.length_take]; omega
          unfold pli
          rw [hl2]
          refine .ref hB' (by simp) (by simp) (fun i hi => ?_)
          have e2 : (ints (w.take (w.length - 1))).getD i .junk = (ints w).getD (0 + i) .junk := by
            have hi' : i < w.length - 1 := by simpa using hi
            rw [Nat.zero_add, ← ints_take]
            show ((ints w).take (w.length - 1))[i]?.getD .junk = (ints w)[i]?.getD .junk
            rw [List.getElem?_take_of_lt hi']
          have hi' : 0 + i < w.length := by
            have h5 : i < w.length - 1 := by simpa using hi
            omega
          rw [e2, getD_of (ints_at hi')]
          exact .cl rfl
        exact ⟨.inr rfl, Fz.triple2 (.cl rfl) hF (.cl rfl)⟩
      · rw [if_neg (fun hh => h2 (hlp.1 hh).2), show limR (badM 4).k (badM 4).x (badM 4).f = badM 4 from rfl]
        repeat (first | refine S0 ?_ | refine S1 ?_ | refine S2 ?_ | refine S3 ?_ | refine S4 ?_ | refine S5 ?_ | refine S6 ?_ | refine S7 ?_ | refine S8 ?_ | refine S9 ?_ | refine S10 ?_ | refine S11 ?_ | refine S12 ?_ | refine S13 ?_ | refine S14 ?_ | refine S15 ?_ | refine S16 ?_ | refine S17 ?_ ?_ | refine S18 ?_ | refine S19 ?_ | refine S20 ?_ | refine S21 ?_ | refine S22 ?_ | refine S23 ?_ | refine S24 ?_ | refine S25 ?_ | refine S26 ?_ | refine S27 ?_ | refine S28 ?_ | refine S29 ?_ | refine S30 ?_ | refine S31 ?_ | refine S32 ?_ | refine S33 ?_ | refine S34 ?_ | refine S35 ?_ | refine S36 ?_ | refine S37 ?_ | refine S38 ?_ | refine S39 ?_ | refine S40 ?_ | refine S41 ?_ | refine S42 ?_ | refine S43 ?_ | refine S44 ?_ | refine S45 ?_ | refine S46 ?_ | refine S47 ?_ | refine S48 ?_ | refine S49 ?_ | refine S50 ?_ | refine S51 ?_ | refine S52 ?_ | refine S53 ?_ | refine S54 ?_ | refine S55 ?_ | refine S56 ?_ | refine S57 ?_ | refine S58 ?_ | refine S59 ?_ | refine S60 ?_ | refine S61 ?_ | refine S62 ?_ | refine S63 ?_ | refine S64 ?_ | refine S65 ?_ | refine S66 ?_ | refine S67 ?_ | refine S68 ?_ | refine S69 ?_ | refine S70 ?_ | refine S71 ?_ | refine S72 ?_ | refine S73 ?_ | refine S74 ?_ | refine S75 ?_ | refine S76 ?_ | refine S77 ?_ | refine S78 ?_ | refine S79 ?_ | refine S80 ?_ | refine S81 ?_ | refine S82 ?_ | refine S83 ?_ | refine S84 ?_ | refine S85 ?_ | refine S86 ?_)
        exact ⟨.inr rfl, Fz.triple2 (.cl rfl) (.nrm rfl) (.cl rfl)⟩
    · rw [if_neg (fun hh => h1 (hlp.1 hh).1), show limR (badM 4).k (badM 4).x (badM 4).f = badM 4 from rfl]
      repeat (first | refine S0 ?_ | refine S1 ?_ | refine S2 ?_ | refine S3 ?_ | refine S4 ?_ | refine S5 ?_ | refine S6 ?_ | refine S7 ?_ | refine S8 ?_ | refine S9 ?_ | refine S10 ?_ | refine S11 ?_ | refine S12 ?_ | refine S13 ?_ | refine S14 ?_ | refine S15 ?_ | refine S16 ?_ | refine S17 ?_ ?_ | refine S18 ?_ | refine S19 ?_ | refine S20 ?_ | refine S21 ?_ | refine S22 ?_ | refine S23 ?_ | refine S24 ?_ | refine S25 ?_ | refine S26 ?_ | refine S27 ?_ | refine S28 ?_ | refine S29 ?_ | refine S30 ?_ | refine S31 ?_ | refine S32 ?_ | refine S33 ?_ | refine S34 ?_ | refine S35 ?_ | refine S36 ?_ | refine S37 ?_ | refine S38 ?_ | refine S39 ?_ | refine S40 ?_ | refine S41 ?_ | refine S42 ?_ | refine S43 ?_ | refine S44 ?_ | refine S45 ?_ | refine S46 ?_ | refine S47 ?_ | refine S48 ?_ | refine S49 ?_ | refine S50 ?_ | refine S51 ?_ | refine S52 ?_ | refine S53 ?_ | refine S54 ?_ | refine S55 ?_ | refine S56 ?_ | refine S57 ?_ | refine S58 ?_ | refine S59 ?_ | refine S60 ?_ | refine S61 ?_ | refine S62 ?_ | refine S63 ?_ | refine S64 ?_ | refine S65 ?_ | refine S66 ?_ | refine S67 ?_ | refine S68 ?_ | refine S69 ?_ | refine S70 ?_ | refine S71 ?_ | refine S72 ?_ | refine S73 ?_ | refine S74 ?_ | refine S75 ?_ | refine S76 ?_ | refine S77 ?_ | refine S78 ?_ | refine S79 ?_ | refine S80 ?_ | refine S81 ?_ | refine S82 ?_ | refine S83 ?_ | refine S84 ?_ | refine S85 ?_ | refine S86 ?_)
      exact ⟨.inr rfl, Fz.triple2 (.cl rfl) (.nrm rfl) (.cl rfl)⟩
end Go.Proofs.Ytojklacicjopkaa
