/- Words: Reduce, Product, Inverse by lists. No condition of its own. -/
import Derived.Test.YtgjfpmjllpgadaaGGarsideWordsBU
import Derived.Test.YtgjfpmjllpgadaaGGarsideWordsBV
set_option linter.unusedVariables false
set_option linter.unusedSimpArgs false
namespace Go.Proofs.Ytgjfpmjllpgadaa
open Go.RowKit

theorem inverted_s {zs : List Int} (hbd : ∀ x ∈ zs, -9223372036854775807 ≤ x ∧ x ≤ 9223372036854775807) (hlen : zs.length ≤ 1000000) : SC Try.prog 70 [pli zs] (.lst true 1 (invL zs).length (ints (invL zs))) := by
  refine ⟨callable Try.func70 rfl rfl, fun Z w vs hz hl hv => ?_⟩
  obtain ⟨A, cap, e0, hI⟩ := V.isInts (hv 0 (by simp)) (fun x hx => by have := hbd x hx; unfold in64; omega)
  obtain rfl : vs = [Value.slice A zs.length cap].toArray := vs_of (by simpa using hl) (fun i hi => by
    match i, hi with
    | 0, _ => simpa using e0
    | i + 1, h => simp at h)
  have := (callsIn_wide (n := 9)).1 (inverted_in A cap zs w hbd hlen (HInts.of hI))
  rw [negs_inv hbd] at this
  refine this.mono ?_
  rintro e w' ⟨A2, cp, rfl, hrow, hb⟩
  have hil : (invL zs).length = zs.length := by simp [invL]
  refine ⟨_, rfl, ?_, hb⟩
  rcases hrow.2 with ⟨h1, h0⟩ | ⟨g, cp2, cur, h1, h2, h3, h4, h5, h6, h7⟩
  · have : invL zs = [] := List.length_eq_zero_iff.1 h0
    rw [this]
    exact .lst _ _ _ 0 _ _ (fun _ => undef) (Nat.le_refl _) (fun _ => rfl) (Nat.zero_le _) rfl (fun hne => absurd rfl hne) (fun i hi => by simp [ints] at hi)
  · cases h1
    have hcs : (invL zs).length ≤ cur.size := by omega
    refine .lst _ _ _ _ _ _ (fun i => cur.getD (0 + i) undef) (Nat.le_refl _) (fun _ => rfl) (by unfold maxLen; omega) (by simp) (fun _ => ⟨g, 0, rfl, fun hh => by have := hz g hh; omega, lt_of_heap h3, fun i hi => cell_live h3 (by simp at hi; omega)⟩) (fun i hi => ?_)
    have hi' : i < (invL zs).length := by simpa using hi
    rw [getD_of (ints_at hi')]
    have h8 : cur.getD (0 + i) undef = .int .i64 ((invL zs).getD i 0) := by
      have h9 := congrArg (fun l => l[i]?) h7
      simp only [Nat.mul_one, List.getElem?_take, hi', if_true, List.getElem?_map, List.getElem?_eq_getElem hi', Option.map_some] at h9
      rw [getD_lt 0 hi', Nat.zero_add]
      simp [Array.getD, show i < cur.size by omega] at h9 ⊢
      exact h9
    rw [h8]; exact .sc _
/-- out[n-1-j] = F j for all j below k, the rest 0 -/
def fillR (n k : Nat) (F : Nat → Int) : List Int := (List.range n).map fun i => if n ≤ i + k then F (n - 1 - i) else 0
theorem fillR_len (n k : Nat) (F : Nat → Int) : (fillR n k F).length = n := by simp [fillR]
theorem fillR_zero (n : Nat) (F : Nat → Int) : fillR n 0 F = List.replicate n 0 := by
  apply List.ext_getElem
  · simp [fillR]
  · intro i h1 h2
    have : i < n := by simpa [fillR] using h1
    simp [fillR, show ¬ n ≤ i by omega]
theorem fillR_set {n k : Nat} {F : Nat → Int} (hk : k < n) : (fillR n k F).set (n - 1 - k) (F k) = fillR n (k + 1) F := by
  apply List.ext_getElem
  · simp [fillR]
  · intro i h1 h2
    have hi : i < n := by simpa [fillR] using h2
    rw [List.getElem_set]
    by_cases e : n - 1 - k = i
    · rw [if_pos e]
      simp [fillR, show n ≤ i + (k + 1) by omega, show n - 1 - i = k by omega]
    · rw [if_neg e]
      simp only [fillR, List.getElem_map, List.getElem_range]
      by_cases h3 : n ≤ i + k
      · rw [if_pos h3, if_pos (by omega)]
      · rw [if_neg h3, if_neg (by omega)]
theorem fillR_inv (w : List Int) : fillR w.length w.length (fun j => -(w.getD j 0)) = invL w := by
  apply List.ext_getElem
  · simp [fillR, invL]
  · intro i h1 h2
    have hi : i < w.length := by simpa [fillR] using h1
    have hj : w.length - 1 - i < w.length := by omega
    simp only [fillR, invL, List.getElem_map, List.getElem_range, List.getElem_reverse, List.length_map]
    rw [if_pos (by omega), getD_lt 0 hj]
set_option maxHeartbeats 2000000 in
set_option maxRecDepth 100000 in
theorem opposite_s {w : List Int} (hlw : w.length ≤ 1000) (hbd : ∀ k, k < w.length → -1000 ≤ w.getD k 0 ∧ w.getD k 0 ≤ 1000) : SC Try.prog 23 [pli w] (pli (invL w)) := by
  refine SC.go {} tok mixed Try.func23 rfl rfl Try.ntmps23 rfl rfl (by kernel_rfl) ?_
  first | simp only [updS] | simp only [updL, Nat.reduceAdd]
  repeat (first | refine S0 ?_ | refine S1 ?_ | refine S2 ?_ | refine S3 ?_ | refine S4 ?_ | refine S5 ?_ | refine S6 ?_ | refine S7 ?_ | refine S8 ?_ | refine S9 ?_ | refine S10 ?_ | refine S11 ?_ | refine S12 ?_ | refine S13 ?_ | refine S14 ?_ | refine S15 ?_ | refine S16 ?_ | refine S17 ?_ ?_ | refine S18 ?_ | refine S19 ?_ | refine S20 ?_ | refine S21 ?_ | refine S22 ?_ | refine S23 ?_ | refine S24 ?_ | refine S25 ?_ | refine S26 ?_ | refine S27 ?_ | refine S28 ?_ | refine S29 ?_ | refine S30 ?_ | refine S31 ?_ | refine S32 ?_ | refine S33 ?_ | refine S34 ?_ | refine S35 ?_ | refine S36 ?_ | refine S37 ?_ | refine S38 ?_ | refine S39 ?_ | refine S40 ?_ | refine S41 ?_ | refine S42 ?_ | refine S43 ?_ | refine S44 ?_ | refine S45 ?_ | refine S46 ?_ | refine S47 ?_ | refine S48 ?_ | refine S49 ?_ | refine S50 ?_ | refine S51 ?_ | refine S52 ?_ | refine S53 ?_ | refine S54 ?_ | refine S55 ?_ | refine S56 ?_ | refine S57 ?_ | refine S58 ?_ | refine S59 ?_ | refine S60 ?_ | refine S61 ?_ | refine S62 ?_ | refine S63 ?_ | refine S64 ?_ | refine S65 ?_ | refine S66 ?_ | refine S67 ?_ | refine S68 ?_ | refine S69 ?_ | refine S70 ?_ | refine S71 ?_ | refine S72 ?_ | refine S73 ?_ | refine S74 ?_ | refine S75 ?_ | refine S76 ?_ | refine S77 ?_ | refine S78 ?_ | refine S79 ?_ | refine S80 ?_ | refine S81 ?_ | refine S82 ?_ | refine S83 ?_ | refine S84 ?_ | refine S85 ?_ | refine S86 ?_ | refine S87 ?_)
  refine CW.loopS (fun k : Nat => k ≤ w.length) (fun k => [(0, pli w), (3, .ref 0 0 1 w.length), (9, pli w), (10, pint w.length), (11, pint k)]) (fun k h => h.blk 0 = some (ints (fillR w.length k (fun j => -(w.getD j 0))))) (fun k => w.length - k) 0 ⟨by omega, SLx, by rw [fillR_zero]; exact HBx⟩ ?_
  rintro k t hp hk B
  first | simp only [updS] | simp only [updL, Nat.reduceAdd]
  have hl := fillR_len w.length k (fun j => -(w.getD j 0))
  by_cases hk2 : k < w.length
  · have hs : (fillR w.length k (fun j => -(w.getD j 0))).set (w.length - 1 - k) (-(w.getD k 0)) = fillR w.length (k + 1) (fun j => -(w.getD j 0)) := fillR_set hk2
    have hb := hbd k hk2
    repeat (first | refine S0 ?_ | refine S1 ?_ | refine S2 ?_ | refine S3 ?_ | refine S4 ?_ | refine S5 ?_ | refine S6 ?_ | refine S7 ?_ | refine S8 ?_ | refine S9 ?_ | refine S10 ?_ | refine S11 ?_ | refine S12 ?_ | refine S13 ?_ | refine S14 ?_ | refine S15 ?_ | refine S16 ?_ | refine S17 ?_ ?_ | refine S18 ?_ | refine S19 ?_ | refine S20 ?_ | refine S21 ?_ | refine S22 ?_ | refine S23 ?_ | refine S24 ?_ | refine S25 ?_ | refine S26 ?_ | refine S27 ?_ | refine S28 ?_ | refine S29 ?_ | refine S30 ?_ | refine S31 ?_ | refine S32 ?_ | refine S33 ?_ | refine S34 ?_ | refine S35 ?_ | refine S36 ?_ | refine S37 ?_ | refine S38 ?_ | refine S39 ?_ | refine S40 ?_ | refine S41 ?_ | refine S42 ?_ | refine S43 ?_ | refine S44 ?_ | refine S45 ?_ | refine S46 ?_ | refine S47 ?_ | refine S48 ?_ | refine S49 ?_ | refine S50 ?_ | refine S51 ?_ | refine S52 ?_ | refine S53 ?_ | refine S54 ?_ | refine S55 ?_ | refine S56 ?_ | refine S57 ?_ | refine S58 ?_ | refine S59 ?_ | refine S60 ?_ | refine S61 ?_ | refine S62 ?_ | refine S63 ?_ | refine S64 ?_ | refine S65 ?_ | refine S66 ?_ | refine S67 ?_ | refine S68 ?_ | refine S69 ?_ | refine S70 ?_ | refine S71 ?_ | refine S72 ?_ | refine S73 ?_ | refine S74 ?_ | refine S75 ?_ | refine S76 ?_ | refine S77 ?_ | refine S78 ?_ | refine S79 ?_ | refine S80 ?_ | refine S81 ?_ | refine S82 ?_ | refine S83 ?_ | refine S84 ?_ | refine S85 ?_ | refine S86 ?_ | refine S87 ?_)
    simp only [show ((w.length : Int) - 1 - k).toNat = w.length - 1 - k by omega]
    rw [hs]
    exact ⟨k + 1, by omega, SLx, (by (try dsimp only); repeat' (first | exact HBx | exact SBx | refine And.intro ?_ ?_)), by omega⟩
  · obtain rfl : k = w.length := by omega
    rw [fillR_inv] at B
    repeat (first | refine S0 ?_ | refine S1 ?_ | refine S2 ?_ | refine S3 ?_ | refine S4 ?_ | refine S5 ?_ | refine S6 ?_ | refine S7 ?_ | refine S8 ?_ | refine S9 ?_ | refine S10 ?_ | refine S11 ?_ | refine S12 ?_ | refine S13 ?_ | refine S14 ?_ | refine S15 ?_ | refine S16 ?_ | refine S17 ?_ ?_ | refine S18 ?_ | refine S19 ?_ | refine S20 ?_ | refine S21 ?_ | refine S22 ?_ | refine S23 ?_ | refine S24 ?_ | refine S25 ?_ | refine S26 ?_ | refine S27 ?_ | refine S28 ?_ | refine S29 ?_ | refine S30 ?_ | refine S31 ?_ | refine S32 ?_ | refine S33 ?_ | refine S34 ?_ | refine S35 ?_ | refine S36 ?_ | refine S37 ?_ | refine S38 ?_ | refine S39 ?_ | refine S40 ?_ | refine S41 ?_ | refine S42 ?_ | refine S43 ?_ | refine S44 ?_ | refine S45 ?_ | refine S46 ?_ | refine S47 ?_ | refine S48 ?_ | refine S49 ?_ | refine S50 ?_ | refine S51 ?_ | refine S52 ?_ | refine S53 ?_ | refine S54 ?_ | refine S55 ?_ | refine S56 ?_ | refine S57 ?_ | refine S58 ?_ | refine S59 ?_ | refine S60 ?_ | refine S61 ?_ | refine S62 ?_ | refine S63 ?_ | refine S64 ?_ | refine S65 ?_ | refine S66 ?_ | refine S67 ?_ | refine S68 ?_ | refine S69 ?_ | refine S70 ?_ | refine S71 ?_ | refine S72 ?_ | refine S73 ?_ | refine S74 ?_ | refine S75 ?_ | refine S76 ?_ | refine S77 ?_ | refine S78 ?_ | refine S79 ?_ | refine S80 ?_ | refine S81 ?_ | refine S82 ?_ | refine S83 ?_ | refine S84 ?_ | refine S85 ?_ | refine S86 ?_ | refine S87 ?_)
    exact ⟨.inr rfl, Fz.refI HBx (by simp [invL]) rfl⟩
theorem fF_get {w : List Int} (h : fF w = 0) : ∀ k, k < w.length → -1000 ≤ w.getD k 0 ∧ w.getD k 0 ≤ 1000 := fun k hk => by
  obtain ⟨_, h2⟩ := fF_ok h
  have := h2 (w.getD k 0) (by rw [getD_lt 0 hk]; exact List.getElem_mem hk)
  obtain ⟨_, h3, h4⟩ := this
  omega
theorem get_mem {w : List Int} (h : ∀ k, k < w.length → -1000 ≤ w.getD k 0 ∧ w.getD k 0 ≤ 1000) : ∀ x ∈ w, -1000 ≤ x ∧ x ≤ 1000 := fun x hx => by
  obtain ⟨i, hi, rfl⟩ := List.getElem_of_mem hx
  have := h i hi
  rwa [getD_lt 0 hi] at this
theorem mem_get {w : List Int} (h : ∀ x ∈ w, -1000 ≤ x ∧ x ≤ 1000) : ∀ k, k < w.length → -1000 ≤ w.getD k 0 ∧ w.getD k 0 ≤ 1000 := fun k hk => h _ (by rw [getD_lt 0 hk]; exact List.getElem_mem hk)
theorem reduced1 {b : Bool} {w : List Int} (hl : w.length ≤ 1000) (h : ∀ x ∈ w, -1000 ≤ x ∧ x ≤ 1000) : SC Try.prog 124 [.lst true 1 1 [.lst b 1 w.length (ints w)]] (.lst true 1 (red w).length (ints (red w))) := by
  have := reduced_s (cs := [(b, w)]) (by simp) (by simp [flat]; omega) (fun p hp => by simp at hp; subst hp; exact mem_get h)
  simpa [flat, pcl] using this
def bothF (a b : List Int) : Int := if fF a ≠ 0 then fF a else fF b
def prodF (a b : List Int) : Int := if bothF a b ≠ 0 then bothF a b else if 60 < (red (a ++ b)).length then 2 else 0
def prodL (a b : List Int) : List Int := if prodF a b = 0 then red (a ++ b) else []
theorem both_ok {a b : List Int} (h : bothF a b = 0) : fF a = 0 ∧ fF b = 0 := by
  unfold bothF at h
  split at h
  · rename_i h1; exact absurd h h1
  · rename_i h1; exact ⟨by simpa using h1, h⟩
end Go.Proofs.Ytgjfpmjllpgadaa
