/- Facts and contracts that the claim uses. No condition of its own. -/
import Derived.Test.YtkmkcbkfakoomaaGRingCoursesBK
import Derived.Test.YtkmkcbkfakoomaaGRingCoursesBT
import Derived.Test.YtkmkcbkfakoomaaGRingCoursesBU
set_option linter.unusedVariables false
set_option linter.unusedSimpArgs false
namespace Go.Proofs.Ytkmkcbkfakoomaa
open Go.RowKit
theorem itr_1 (B : Nat → Nat) (n : Nat) : tabN n (itr B 1) = tabN n B := tab_ext (fun i _ => rfl)
theorem permFault_pm {xs : List Int} (h : permFault xs = 0) : xs.length ≤ 9 ∧ Pm xs := by
  obtain ⟨h1, h2, h3⟩ := permFault_range h
  exact ⟨h1, h2, h3⟩
theorem order_bd {xs : List Int} (h : permFault xs = 0) : 1 ≤ orderOf xs ∧ orderOf xs ≤ 2520 := by
  obtain ⟨h9, hr, _⟩ := permFault_range h
  exact ordAt_bd (fun c hc => by have := cyclesOf_lens hr c hc; omega) _ (Nat.le_refl _)
def powT (xs : List Int) (k : Int) : List Int := if 0 ≤ k then tabN xs.length (itr (fn xs) k.toNat) else tabN xs.length (itr (gn xs) (-k).toNat)
end Go.Proofs.Ytkmkcbkfakoomaa

/- Facts and contracts that the claim uses. No condition of its own. -/
set_option linter.unusedVariables false
set_option linter.unusedSimpArgs false
namespace Go.Proofs.Ytkmkcbkfakoomaa
open Go.RowKit
set_option maxHeartbeats 4000000 in
set_option maxRecDepth 100000 in
theorem repeat_e {k : Nat} (hb : k ≤ 20000000) : SCo Try.prog 18 [pli [], pint ((k : Nat) : Int)] 1 0 (ints []) := by
  have hnil : ([] : List Int).length = 0 := rfl
  refine SCo.go {} tok mixed Try.func18 rfl rfl Try.ntmps18 rfl rfl (by kernel_rfl) ?_
  first | simp only [updS] | simp only [updL, Nat.reduceAdd]
  repeat (first | refine S0 ?_ | refine S1 ?_ | refine S2 ?_ | refine S4 ?_ | refine S5 ?_ | refine S6 ?_ | refine S7 ?_ | refine S8 ?_ | refine S10 ?_ | refine S13 ?_ | refine S16 ?_ | refine S19 ?_ | refine S20 ?_ | refine S21 ?_ | refine S23 ?_ | refine S24 ?_ | refine S34 ?_ | refine S37 ?_ | refine S41 ?_ | refine S71 ?_)
  refine AW.conv EVx (conv_ui 0 (by omega)) ?_
  repeat (first | refine S0 ?_ | refine S1 ?_ | refine S2 ?_ | refine S4 ?_ | refine S5 ?_ | refine S6 ?_ | refine S7 ?_ | refine S8 ?_ | refine S10 ?_ | refine S13 ?_ | refine S16 ?_ | refine S19 ?_ | refine S20 ?_ | refine S21 ?_ | refine S23 ?_ | refine S24 ?_ | refine S34 ?_ | refine S37 ?_ | refine S41 ?_ | refine S71 ?_)
  refine AW.conv EVx (conv_ui k (by omega)) ?_
  repeat (first | refine S0 ?_ | refine S1 ?_ | refine S2 ?_ | refine S4 ?_ | refine S5 ?_ | refine S6 ?_ | refine S7 ?_ | refine S8 ?_ | refine S10 ?_ | refine S13 ?_ | refine S16 ?_ | refine S19 ?_ | refine S20 ?_ | refine S21 ?_ | refine S23 ?_ | refine S24 ?_ | refine S34 ?_ | refine S37 ?_ | refine S41 ?_ | refine S71 ?_)
  refine Scall (args := [.sc (.int .u64 ((0 : Nat) : Int)), .sc (.int .u64 (k : Nat))]) (bmul_s _ _ (by omega) (by omega) (by omega)) ?_
  rw [Nat.zero_mul]
  repeat (first | refine S0 ?_ | refine S1 ?_ | refine S2 ?_ | refine S4 ?_ | refine S5 ?_ | refine S6 ?_ | refine S7 ?_ | refine S8 ?_ | refine S10 ?_ | refine S13 ?_ | refine S16 ?_ | refine S19 ?_ | refine S20 ?_ | refine S21 ?_ | refine S23 ?_ | refine S24 ?_ | refine S34 ?_ | refine S37 ?_ | refine S41 ?_ | refine S71 ?_)
  refine AW.binf EVx EVx (gtr_u (by omega) _ _ _) ?_
  repeat (first | refine S0 ?_ | refine S1 ?_ | refine S2 ?_ | refine S4 ?_ | refine S5 ?_ | refine S6 ?_ | refine S7 ?_ | refine S8 ?_ | refine S10 ?_ | refine S13 ?_ | refine S16 ?_ | refine S19 ?_ | refine S20 ?_ | refine S21 ?_ | refine S23 ?_ | refine S24 ?_ | refine S34 ?_ | refine S37 ?_ | refine S41 ?_ | refine S71 ?_)
  refine AW.binf EVx EVx (gtr_u (by omega) _ _ _) ?_
  repeat (first | refine S0 ?_ | refine S1 ?_ | refine S2 ?_ | refine S4 ?_ | refine S5 ?_ | refine S6 ?_ | refine S7 ?_ | refine S8 ?_ | refine S10 ?_ | refine S13 ?_ | refine S16 ?_ | refine S19 ?_ | refine S20 ?_ | refine S21 ?_ | refine S23 ?_ | refine S24 ?_ | refine S34 ?_ | refine S37 ?_ | refine S41 ?_ | refine S71 ?_)
  refine AW.conv EVx (conv_iu 0 (by omega)) ?_
  repeat (first | refine S0 ?_ | refine S1 ?_ | refine S2 ?_ | refine S4 ?_ | refine S5 ?_ | refine S6 ?_ | refine S7 ?_ | refine S8 ?_ | refine S10 ?_ | refine S13 ?_ | refine S16 ?_ | refine S19 ?_ | refine S20 ?_ | refine S21 ?_ | refine S23 ?_ | refine S24 ?_ | refine S34 ?_ | refine S37 ?_ | refine S41 ?_ | refine S71 ?_)
  refine AW.cpy (m := 0) (m2 := 0) (tk := 0) (off := 0) (r := ints []) EVx (.inl rfl) rfl HBx EVx (by first | exact ⟨rfl, rfl, .inr rfl⟩ | exact ⟨rfl, rfl, .inl rfl⟩ | (simp only [evA, upd, putA, Nat.reduceEqDiff, ↓reduceIte]; first | exact ⟨rfl, rfl, .inr rfl⟩ | exact ⟨rfl, rfl, .inl rfl⟩)) (by simp) (fun p hp => ints_ones _ p (List.mem_of_mem_take hp)) (by simp [ints]) ?_
  rw [Nat.zero_min]
  repeat (first | refine S0 ?_ | refine S1 ?_ | refine S2 ?_ | refine S4 ?_ | refine S5 ?_ | refine S6 ?_ | refine S7 ?_ | refine S8 ?_ | refine S10 ?_ | refine S13 ?_ | refine S16 ?_ | refine S19 ?_ | refine S20 ?_ | refine S21 ?_ | refine S23 ?_ | refine S24 ?_ | refine S34 ?_ | refine S37 ?_ | refine S41 ?_ | refine S71 ?_)
  refine CW.loopS (fun _ : Unit => True) (fun _ => [(7, .ref 0 0 1 0), (8, pint ((0 : Nat) : Int))]) (fun _ hp => hp.blk 0 = some (ints [])) (fun _ => 0) () ⟨trivial, SLx, HBx⟩ ?_
  rintro _ t h _ hB
  first | simp only [updS] | simp only [updL, Nat.reduceAdd]
  repeat (first | refine S0 ?_ | refine S1 ?_ | refine S2 ?_ | refine S4 ?_ | refine S5 ?_ | refine S6 ?_ | refine S7 ?_ | refine S8 ?_ | refine S10 ?_ | refine S13 ?_ | refine S16 ?_ | refine S19 ?_ | refine S20 ?_ | refine S21 ?_ | refine S23 ?_ | refine S24 ?_ | refine S34 ?_ | refine S37 ?_ | refine S41 ?_ | refine S71 ?_)
  exact ⟨.inr rfl, Ow.ints (t := 0) (k := 0) (zs := []) (ys := []) hB rfl rfl⟩
theorem rp_nil : ∀ k, rp [] k = []
  | 0 => rfl
  | k + 1 => by rw [rp, rp_nil k]; rfl
theorem repeat_s {d : List Int} {k : Nat} (hk : 1 ≤ k) (hk2 : k ≤ 20000000) (hb : d.length * k ≤ 20000000) : SC Try.prog 18 [pli d, pint k] (pli (rp d k)) := by
  by_cases hd : d = []
  · subst hd
    rw [rp_nil]
    exact (repeat_e hk2).sc (by simp)
  · have hl : 0 < d.length := List.length_pos_iff.2 hd
    have := (repeat_o hl hk hb).sc (by simp [repT])
    rw [repT_rp hl] at this
    unfold pli
    rw [rp_len]
    exact this
theorem Rw.fault {n : Nat} {r : List Int} (h : Rw n r) (hn : n ≤ 9) : permFault r = 0 := by
  obtain ⟨F, hF, rfl⟩ := h
  exact bpermFault_of hF.isP.pm.rng hF.isP.pm.nd (by rw [tab_len]; exact hn)
def crK (n : Int) (l : List Int) : Nat := orderOf (rowN n.toNat l l.length)
def crE (n : Int) (l : List Int) : Int := if chE n l ≠ 0 then chE n l else if 5040 < l.length * crK n l then 2 else 0
def crL (n : Int) (l : List Int) : List Int := if crE n l = 0 then rp l (crK n l) else []
theorem crK_bd {n : Int} {l : List Int} (h : chE n l = 0) : 1 ≤ crK n l ∧ crK n l ≤ 2520 := by
  obtain ⟨h1, h2, _, _⟩ := chE_ok h
  exact order_bd ((rowN_rw l (by omega) _).fault (by omega))
set_option maxHeartbeats 4000000 in
set_option maxRecDepth 100000 in
theorem course_s (n : Int) (l : List Int) : SC Try.prog 16 [pint n, pli l] (.tup [pli (crL n l), pint (crE n l)]) := by
  by_cases h0 : chE n l = 0
  · obtain ⟨h1, h2, h3, h4⟩ := chE_ok h0
    obtain ⟨hk1, hk2⟩ := crK_bd h0
    obtain ⟨m, rfl⟩ : ∃ m : Nat, n = m := ⟨n.toNat, by omega⟩
    have kl := lead_ok h0
    have hf := (rowN_rw (n := m) l (by omega) l.length).fault (by omega)
    have ko := order_s ((rowN_rw (n := m) l (by omega) l.length).bd (by omega))
    rw [hf, if_pos rfl] at ko
    have hcK : crK m l = orderOf (rowN m l l.length) := by unfold crK; rw [Int.toNat_natCast]
    have hE : crE m l = if 5040 < l.length * crK m l then 2 else 0 := if_neg (fun c => c h0)
    rw [← hcK] at ko
    obtain ⟨K, hK⟩ : ∃ K, K = crK m l := ⟨_, rfl⟩
    rw [← hK] at hk1 hk2 hcK hE ko
    have hml : K * l.length ≤ 2520 * 5040 := Nat.mul_le_mul hk2 h3
    have hcm : l.length * K = K * l.length := Nat.mul_comm _ _
    have hmz : ((K : Nat) : Int) * ((l.length : Nat) : Int) = ((K * l.length : Nat) : Int) := by rw [Int.natCast_mul]
    refine SC.go {} tok mixed Try.func16 rfl rfl Try.ntmps16 rfl rfl (by kernel_rfl) ?_
    first | simp only [updS] | simp only [updL, Nat.reduceAdd]
    repeat (first | refine S0 ?_ | refine S1 ?_ | refine S2 ?_ | refine S5 ?_ | refine S7 ?_ | refine S8 ?_ | refine S9 ?_ | refine S15 ?_ | refine S16 ?_ | refine S19 ?_ | refine S20 ?_ | refine S23 ?_ | refine S29 ?_ | refine S30 ?_ | refine S34 ?_ | refine S51 ?_)
    refine Scall (args := [pint m, pli l]) kl ?_
    repeat (first | refine S0 ?_ | refine S1 ?_ | refine S2 ?_ | refine S5 ?_ | refine S7 ?_ | refine S8 ?_ | refine S9 ?_ | refine S15 ?_ | refine S16 ?_ | refine S19 ?_ | refine S20 ?_ | refine S23 ?_ | refine S29 ?_ | refine S30 ?_ | refine S34 ?_ | refine S51 ?_)
    refine Scall (args := [pli (rowN m l l.length)]) ko ?_
    by_cases hl : 5040 < l.length * K
    · rw [if_pos hl] at hE
      rw [show crL m l = [] from if_neg (by rw [hE]; decide), hE]
      have hl2 : (5040 : Int) < ((K : Nat) : Int) * ((l.length : Nat) : Int) := by rw [hmz]; omega
      repeat (first | refine S0 ?_ | refine S1 ?_ | refine S2 ?_ | refine S5 ?_ | refine S7 ?_ | refine S8 ?_ | refine S9 ?_ | refine S15 ?_ | refine S16 ?_ | refine S19 ?_ | refine S20 ?_ | refine S23 ?_ | refine S29 ?_ | refine S30 ?_ | refine S34 ?_ | refine S51 ?_)
      exact ⟨.inr rfl, Fz.pair (.nrm rfl) (.cl rfl)⟩
    · rw [if_neg hl] at hE
      have hcl : crL m l = rp l K := by unfold crL; rw [if_pos hE, hK]
      have kr := repeat_s (d := l) hk1 (by omega) (by omega)
      rw [hcl, hE]
      have hl2 : ¬ (5040 : Int) < ((K : Nat) : Int) * ((l.length : Nat) : Int) := by rw [hmz]; omega
      repeat (first | refine S0 ?_ | refine S1 ?_ | refine S2 ?_ | refine S5 ?_ | refine S7 ?_ | refine S8 ?_ | refine S9 ?_ | refine S15 ?_ | refine S16 ?_ | refine S19 ?_ | refine S20 ?_ | refine S23 ?_ | refine S29 ?_ | refine S30 ?_ | refine S34 ?_ | refine S51 ?_)
      refine Scall (args := [pli l, pint K]) kr ?_
      repeat (first | refine S0 ?_ | refine S1 ?_ | refine S2 ?_ | refine S5 ?_ | refine S7 ?_ | refine S8 ?_ | refine S9 ?_ | refine S15 ?_ | refine S16 ?_ | refine S19 ?_ | refine S20 ?_ | refine S23 ?_ | refine S29 ?_ | refine S30 ?_ | refine S34 ?_ | refine S51 ?_)
      refine Scall (args := [pli (rp l K)]) (clip_s (rp l K)) ?_
      repeat (first | refine S0 ?_ | refine S1 ?_ | refine S2 ?_ | refine S5 ?_ | refine S7 ?_ | refine S8 ?_ | refine S9 ?_ | refine S15 ?_ | refine S16 ?_ | refine S19 ?_ | refine S20 ?_ | refine S23 ?_ | refine S29 ?_ | refine S30 ?_ | refine S34 ?_ | refine S51 ?_)
      exact ⟨.inr rfl, Fz.pair (Fz.clipI _) (.cl rfl)⟩
  · have kl := lead_bad h0
    have hE : crE n l = chE n l := if_pos h0
    rw [show crL n l = [] from if_neg (by rw [hE]; exact h0), hE]
    refine SC.go {} tok mixed Try.func16 rfl rfl Try.ntmps16 rfl rfl (by kernel_rfl) ?_
    first | simp only [updS] | simp only [updL, Nat.reduceAdd]
    repeat (first | refine S0 ?_ | refine S1 ?_ | refine S2 ?_ | refine S5 ?_ | refine S7 ?_ | refine S8 ?_ | refine S9 ?_ | refine S15 ?_ | refine S16 ?_ | refine S19 ?_ | refine S20 ?_ | refine S23 ?_ | refine S29 ?_ | refine S30 ?_ | refine S34 ?_ | refine S51 ?_)
    refine Scall (args := [pint n, pli l]) kl ?_
    repeat (first | refine S0 ?_ | refine S1 ?_ | refine S2 ?_ | refine S5 ?_ | refine S7 ?_ | refine S8 ?_ | refine S9 ?_ | refine S15 ?_ | refine S16 ?_ | refine S19 ?_ | refine S20 ?_ | refine S23 ?_ | refine S29 ?_ | refine S30 ?_ | refine S34 ?_ | refine S51 ?_)
    exact ⟨.inr rfl, Fz.pair (.nrm rfl) (.cl rfl)⟩
end Go.Proofs.Ytkmkcbkfakoomaa
