/- Lists made entry by entry; permutations turned round. No condition of its own. -/
import Derived.Test.YteecmiagfjjefaaGMatrixSolutionsAD
import Derived.Test.YteecmiagfjjefaaGMatrixSolutionsBK
import Derived.Test.YteecmiagfjjefaaGMatrixSolutionsBV
set_option linter.unusedVariables false
set_option linter.unusedSimpArgs false
namespace Go.Proofs.Yteecmiagfjjefaa
open Go.RowKit

theorem V.pair {ρ : Pl} {Z : Nat → Prop} {w : World} {a b : PV} {x y : Value} (h1 : V ρ Z w a x) (h2 : V ρ Z w b y) : V ρ Z w (.tup [a, b]) (.tuple #[x, y]) := .tup _ _ rfl (fun i hi => by
  match i, hi with
  | 0, _ => exact h1
  | 1, _ => exact h2
  | i + 2, h => simp at h; omega)
/-- out[i] = F i for all i below k, the rest 0 -/
def fillT (n k : Nat) (F : Nat → Int) : List Int := (List.range n).map fun i => if i < k then F i else 0
theorem Fz.pair {h : HP} {a b a' b' : PV} (h1 : Fz h a a') (h2 : Fz h b b') : Fz h (.tup [a, b]) (.tup [a', b']) :=
  .tup rfl (fun i hi => by
    match i, hi with
    | 0, _ => exact h1
    | 1, _ => exact h2
    | i + 2, h => simp at h; omega)
theorem Fz.nil {h : HP} : Fz h (.lst true 0 0 []) (pli []) := Fz.nrm (p := .lst true 0 0 []) rfl
theorem pli_nrm {xs : List Int} {h : HP} : Fz h (.lst true 1 xs.length (ints xs)) (pli xs) := Fz.nrm (p := .lst true 1 xs.length (ints xs)) (by simp [PV.cl, ints_cl])
theorem equal_refl (xs : List Int) : SC Try.prog 16 [pli xs, pli xs] (.sc (.bool true)) := by
  have := equal_s xs xs
  rwa [decide_eq_true rfl] at this
end Go.Proofs.Yteecmiagfjjefaa

/- intmatrix.Smith and Det; the reckoned example of the laws. No condition of its own. -/
set_option linter.unusedVariables false
set_option linter.unusedSimpArgs false
namespace Go.Proofs.Yteecmiagfjjefaa
open Go.RowKit

def gl : List Nat → Nat
  | [] => 0
  | x :: l => Nat.gcd x (gl l)
theorem gl_dvd (g : Nat) : ∀ l, g ∣ gl l ↔ ∀ x ∈ l, g ∣ x
  | [] => by simp [gl]
  | x :: l => by simp only [gl, Nat.dvd_gcd_iff, gl_dvd g l, List.mem_cons, forall_eq_or_imp]
/-- all minors of a size, in order -/
def minors (m : List (List Int)) (n k q : Nat) : List Nat := (List.range (2 ^ n)).flatMap fun R => (List.range (2 ^ k)).flatMap fun C => if (bitsL R n).length = q ∧ (bitsL C k).length = q then [(lap (ent m) (bitsL R n) (bitsL C k)).natAbs] else []
def gD (m : List (List Int)) (n k q : Nat) : Nat := gl (minors m n k q)
theorem gD_dv (m : List (List Int)) (n k : Nat) : Dv m n k (gD m n k) := fun q g => by
  unfold gD
  rw [gl_dvd]
  constructor
  · intro h rs cs h1 h2
    obtain ⟨R, r1, r2⟩ := sub_mask h1
    obtain ⟨C, c1, c2⟩ := sub_mask h2
    rw [Int.ofNat_dvd_left]
    refine h _ (List.mem_flatMap.2 ⟨R, List.mem_range.2 r1, List.mem_flatMap.2 ⟨C, List.mem_range.2 c1, ?_⟩⟩)
    rw [r2, c2, if_pos ⟨h1.2.2, h2.2.2⟩]
    simp
  · intro h x hx
    obtain ⟨R, r1, hx⟩ := List.mem_flatMap.1 hx
    obtain ⟨C, c1, hx⟩ := List.mem_flatMap.1 hx
    by_cases c : (bitsL R n).length = q ∧ (bitsL C k).length = q
    · rw [if_pos c] at hx
      obtain rfl := List.mem_singleton.1 hx
      rw [← Int.ofNat_dvd_left]
      exact h _ _ (c.1 ▸ bits_sub R n) (c.2 ▸ bits_sub C k)
    · rw [if_neg c] at hx; cases hx
theorem facs_len (D : Nat → Nat) (n : Nat) : (facs D n).length = n := by simp [facs]
set_option maxHeartbeats 16000000 in
set_option maxRecDepth 100000 in
theorem smithE_s {m : List (List Int)} {n k : Nat} (h : Mx m n k) (h0 : mF m = 0) {D : Nat → Nat} (hD : Dv m n k D) : SC Try.prog 13 [plls m] (.tup [pli (facs D (min n k)), pint 0]) := by
  have kc := mcheck_s m
  rw [h0] at kc
  have hfl := facs_len D (min n k)
  have ks := (smith_o h hD).sc (by simp [facs])
  rw [show PV.lst false 1 (min n k) (ints (facs D (min n k))) = pli (facs D (min n k)) by unfold pli; rw [hfl]] at ks
  have hn6 := h.hn
  have hk6 := h.hk
  refine SC.go {} tok mixed Try.func13 rfl rfl Try.ntmps13 rfl rfl (by kernel_rfl) ?_
  first | simp only [updS] | simp only [updL, Nat.reduceAdd]
  repeat (first | refine S0 ?_ | refine S1 ?_ | refine S2 ?_ | refine S3 ?_ | refine S5 ?_ | refine S7 ?_ | refine S8 ?_ | refine S9 ?_ | refine S15 ?_ | refine S16 ?_ | refine S19 ?_ | refine S20 ?_ | refine S23 ?_ | refine S29 ?_ | refine S33 ?_ | refine S49 ?_ | refine S64 ?_)
  refine Scall (args := [plls m]) kc ?_
  repeat (first | refine S0 ?_ | refine S1 ?_ | refine S2 ?_ | refine S3 ?_ | refine S5 ?_ | refine S7 ?_ | refine S8 ?_ | refine S9 ?_ | refine S15 ?_ | refine S16 ?_ | refine S19 ?_ | refine S20 ?_ | refine S23 ?_ | refine S29 ?_ | refine S33 ?_ | refine S49 ?_ | refine S64 ?_)
  refine Scall (args := [plls m]) ks ?_
  generalize facs D (min n k) = xs at hfl ⊢
  by_cases hz : min n k = 0
  · obtain rfl : xs = [] := List.length_eq_zero_iff.1 (by omega)
    repeat (first | refine S0 ?_ | refine S1 ?_ | refine S2 ?_ | refine S3 ?_ | refine S5 ?_ | refine S7 ?_ | refine S8 ?_ | refine S9 ?_ | refine S15 ?_ | refine S16 ?_ | refine S19 ?_ | refine S20 ?_ | refine S23 ?_ | refine S29 ?_ | refine S33 ?_ | refine S49 ?_ | refine S64 ?_)
    refine AW.ap0 (by first | exact Or.inl rfl | exact Or.inr ⟨rfl, HP.tok_even _⟩ | exact Or.inr (Or.inl ⟨rfl, HP.tok_even _⟩) | exact Or.inr (Or.inr ⟨rfl, HP.tok_odd _⟩) | exact Or.inr (Or.inl rfl) | exact Or.inr (Or.inr (Or.inl rfl)) | exact Or.inr (Or.inr (Or.inr (Or.inl ⟨rfl, HP.tok_odd _⟩))) | exact Or.inr (Or.inr (Or.inr (Or.inr ⟨rfl, HP.tok_even _⟩))) | exact Or.inr (Or.inr (Or.inr (Or.inr ⟨rfl, by assumption⟩))) | exact Or.inr ⟨rfl, by assumption⟩ | exact Or.inr (Or.inl ⟨rfl, by assumption⟩) | exact Or.inr (Or.inr ⟨rfl, by assumption⟩) | exact Or.inr (Or.inr (Or.inr (Or.inl ⟨rfl, by assumption⟩))) | exact Or.inr (Or.inr (Or.inl ⟨rfl, HP.tok_odd _⟩)) | exact Or.inr (Or.inr (Or.inl ⟨rfl, by assumption⟩)) | exact Or.inr (Or.inr (Or.inr rfl)) | exact Or.inr (Or.inr rfl) | exact Or.inr rfl) (by simp only [evA, upd, putA, ofConst, ofConst.ofCell, Nat.reduceEqDiff, ↓reduceIte, List.map_cons, List.map_nil, List.toList_toArray]; first | done | rfl) rfl (by first | exact ⟨rfl, rfl, .inr rfl⟩ | exact ⟨rfl, rfl, .inl rfl⟩ | (simp only [evA, upd, putA, Nat.reduceEqDiff, ↓reduceIte]; first | exact ⟨rfl, rfl, .inr rfl⟩ | exact ⟨rfl, rfl, .inl rfl⟩)) ?_
    repeat (first | refine S0 ?_ | refine S1 ?_ | refine S2 ?_ | refine S3 ?_ | refine S5 ?_ | refine S7 ?_ | refine S8 ?_ | refine S9 ?_ | refine S15 ?_ | refine S16 ?_ | refine S19 ?_ | refine S20 ?_ | refine S23 ?_ | refine S29 ?_ | refine S33 ?_ | refine S49 ?_ | refine S64 ?_)
    exact ⟨.inr rfl, Fz.pair (pli_nrm (xs := [])) (.cl rfl)⟩
  · repeat (first | refine S0 ?_ | refine S1 ?_ | refine S2 ?_ | refine S3 ?_ | refine S5 ?_ | refine S7 ?_ | refine S8 ?_ | refine S9 ?_ | refine S15 ?_ | refine S16 ?_ | refine S19 ?_ | refine S20 ?_ | refine S23 ?_ | refine S29 ?_ | refine S33 ?_ | refine S49 ?_ | refine S64 ?_)
    exact ⟨.inr rfl, Fz.pair (Fz.refI HBx (by simp) (by simp)) (.cl rfl)⟩
theorem full_bits (n : Nat) : bitsL (2 ^ n - 1) n = List.range n := by
  refine asc_ext (asc_bits _ _) (asc_range n) (fun x => ?_)
  rw [mem_bits, List.mem_range]
  refine ⟨fun h => h.1, fun h => ⟨h, ?_⟩⟩
  have := Nat.testBit_two_pow_sub_one n x
  rw [Nat.testBit_eq_decide_div_mod_eq] at this
  simpa [h] using this
set_option maxHeartbeats 16000000 in
set_option maxRecDepth 100000 in
theorem mdet_s {m : List (List Int)} {n : Nat} (h : Mx m n n) (h0 : mF m = 0) : SC Try.prog 6 [plls m] (.tup [pint (lap (ent m) (List.range n) (List.range n)), pint 0]) := by
  have kc := mcheck_s m
  rw [h0] at kc
  have hlen := h.len
  have hn6 := h.hn
  have t1 := two_le hn6
  have t0 : 0 < 2 ^ n := Nat.pow_pos (by decide)
  have km := minor_s h n (2 ^ n - 1) (2 ^ n - 1) (by omega) (by omega) (by rw [bits_6 (n := n) (by omega) hn6, full_bits]; simp) (fun i hi => by rw [bits_6 (n := n) (by omega) hn6] at hi; exact (mem_bits.1 hi).1) (by rw [full_bits]; simp)
  rw [bits_6 (n := n) (by omega) hn6, full_bits] at km
  have e1 : ((2 ^ n - 1 : Nat) : Int) = ((2 ^ n : Nat) : Int) - 1 := by omega
  rw [e1] at km
  refine SC.go {} tok mixed Try.func6 rfl rfl Try.ntmps6 rfl rfl (by kernel_rfl) ?_
  first | simp only [updS] | simp only [updL, Nat.reduceAdd]
  repeat (first | refine S0 ?_ | refine S1 ?_ | refine S2 ?_ | refine S3 ?_ | refine S5 ?_ | refine S7 ?_ | refine S8 ?_ | refine S9 ?_ | refine S15 ?_ | refine S16 ?_ | refine S19 ?_ | refine S20 ?_ | refine S23 ?_ | refine S29 ?_ | refine S33 ?_ | refine S49 ?_ | refine S64 ?_)
  refine Scall (args := [plls m]) kc ?_
  repeat (first | refine S0 ?_ | refine S1 ?_ | refine S2 ?_ | refine S3 ?_ | refine S5 ?_ | refine S7 ?_ | refine S8 ?_ | refine S9 ?_ | refine S15 ?_ | refine S16 ?_ | refine S19 ?_ | refine S20 ?_ | refine S23 ?_ | refine S29 ?_ | refine S33 ?_ | refine S49 ?_ | refine S64 ?_)
  refine Scall (args := [plls m]) (columns_s h) ?_
  repeat (first | refine S0 ?_ | refine S1 ?_ | refine S2 ?_ | refine S3 ?_ | refine S5 ?_ | refine S7 ?_ | refine S8 ?_ | refine S9 ?_ | refine S15 ?_ | refine S16 ?_ | refine S19 ?_ | refine S20 ?_ | refine S23 ?_ | refine S29 ?_ | refine S33 ?_ | refine S49 ?_ | refine S64 ?_)
  rw [hlen]
  refine AW.binf EVx EVx (bin_shl n (by omega) _ _ _) ?_
  repeat (first | refine S0 ?_ | refine S1 ?_ | refine S2 ?_ | refine S3 ?_ | refine S5 ?_ | refine S7 ?_ | refine S8 ?_ | refine S9 ?_ | refine S15 ?_ | refine S16 ?_ | refine S19 ?_ | refine S20 ?_ | refine S23 ?_ | refine S29 ?_ | refine S33 ?_ | refine S49 ?_ | refine S64 ?_)
  rw [hlen]
  refine AW.binf EVx EVx (bin_shl n (by omega) _ _ _) ?_
  repeat (first | refine S0 ?_ | refine S1 ?_ | refine S2 ?_ | refine S3 ?_ | refine S5 ?_ | refine S7 ?_ | refine S8 ?_ | refine S9 ?_ | refine S15 ?_ | refine S16 ?_ | refine S19 ?_ | refine S20 ?_ | refine S23 ?_ | refine S29 ?_ | refine S33 ?_ | refine S49 ?_ | refine S64 ?_)
  refine Scall (args := [plls m, pint (((2 ^ n : Nat) : Int) - 1), pint (((2 ^ n : Nat) : Int) - 1)]) km ?_
  repeat (first | refine S0 ?_ | refine S1 ?_ | refine S2 ?_ | refine S3 ?_ | refine S5 ?_ | refine S7 ?_ | refine S8 ?_ | refine S9 ?_ | refine S15 ?_ | refine S16 ?_ | refine S19 ?_ | refine S20 ?_ | refine S23 ?_ | refine S29 ?_ | refine S33 ?_ | refine S49 ?_ | refine S64 ?_)
  exact ⟨.inr rfl, .cl rfl⟩
end Go.Proofs.Yteecmiagfjjefaa
