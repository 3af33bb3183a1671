/- timbref1.Image. No condition of its own. -/
import Derived.Test.YtgjfpmjllpgadaaGGarsideEqualsBF
import Derived.Test.YtgjfpmjllpgadaaGGarsideEqualsAX
import Derived.Test.YtgjfpmjllpgadaaGGarsideEqualsAA
import Derived.Test.YtgjfpmjllpgadaaGGarsideEqualsAY
set_option linter.unusedVariables false
set_option linter.unusedSimpArgs false
namespace Go.Proofs.Ytgjfpmjllpgadaa
open Go.RowKit

theorem img_snoc (w : List Int) (y : Int) (u : List Int) : img (w ++ [y]) u = stp y (img w u) := by rw [img_app]; rfl
theorem abs_pos {y : Int} (h : 0 < y) : absI y = y := by unfold absI; rw [if_neg (by omega)]
theorem abs_neg {y : Int} (h : y < 0) : absI y = -y := by unfold absI; rw [if_pos (by omega)]
set_option maxHeartbeats 16000000 in
set_option maxRecDepth 100000 in
theorem image_g {n x : Int} {w : List Int} (hw : brd n w) (hn : n ≤ 6) (hx : 1 ≤ x ∧ x ≤ n) (hl : w.length ≤ 1000000) (hBd : ∀ k, k ≤ w.length → (img (w.take k) [x]).length ≤ 4000000000000) : SC Try.prog 100 [pint x, pli w] (pli (img w [x])) := by
  refine SC.go {} tok mixed Try.func100 rfl rfl Try.ntmps100 rfl rfl (by kernel_rfl) ?_
  first | simp only [updS] | simp only [updL, Nat.reduceAdd]
  repeat (first | refine S0 ?_ | refine S1 ?_ | refine S2 ?_ | refine S4 ?_ | refine S5 ?_ | refine S6 ?_ | refine S7 ?_ | refine S8 ?_ | refine S10 ?_ | refine S11 ?_ | refine S13 ?_ | refine S15 ?_ | refine S16 ?_ | refine S19 ?_ | refine S20 ?_ | refine S21 ?_ | refine S22 ?_ | refine S23 ?_ | refine S25 ?_ | refine S26 ?_ | refine S28 ?_ | refine S30 ?_ | refine S33 ?_ | refine S35 ?_ | refine S37 ?_ | refine S38 ?_ | refine S40 ?_ | refine S41 ?_ | refine S49 ?_ | refine S63 ?_)
  refine CW.nrmS 5 (v := pli [x]) rfl ?_
  refine CW.loopS (fun k : Nat => k ≤ w.length) (fun k => [(5, pli (img (w.take k) [x])), (15, pli w), (16, pint w.length), (17, pint k)]) (fun _ _ => True) (fun k => w.length - k) 0 ⟨Nat.zero_le _, SLx, trivial⟩ ?_
  rintro k t hp hk _
  first | simp only [updS] | simp only [updL, Nat.reduceAdd]
  by_cases hlt : k < w.length
  · have hy := hw (w.getD k 0) (by rw [getD_lt 0 hlt]; exact List.getElem_mem hlt)
    have htk : w.take (k + 1) = w.take k ++ [w.getD k 0] := by rw [List.take_succ_eq_append_getElem hlt, getD_lt 0 hlt]
    have hst : img (w.take (k + 1)) [x] = stp (w.getD k 0) (img (w.take k) [x]) := by rw [htk, img_snoc]
    have hwk : brd n (w.take k) := fun z hz => hw z (List.mem_of_mem_take hz)
    have hu := inr_img hwk (inr_one hx)
    have hul := img_len (n := n) (w := w.take k) (u := [x]) hwk
    obtain ⟨y, hyd⟩ : ∃ y, y = w.getD k 0 := ⟨_, rfl⟩
    obtain ⟨u, hud⟩ : ∃ u, u = img (w.take k) [x] := ⟨_, rfl⟩
    rw [← hud] at hst hu hul ⊢
    rw [← hyd] at hy hst
    have hul2 : u.length ≤ 4000000000000 := by rw [hud]; exact hBd k hk
    have ki := rindex_s y (by omega)
    have hi : absI y = (if 0 < y then y else -y) := by
      split
      · exact abs_pos (by assumption)
      · exact abs_neg (by omega)
    have hsub : ∀ z, z ∈ u → inr n (sub y z) := fun z hz => inr_sub hy (hu z hz)
    repeat (first | refine S0 ?_ | refine S1 ?_ | refine S2 ?_ | refine S4 ?_ | refine S5 ?_ | refine S6 ?_ | refine S7 ?_ | refine S8 ?_ | refine S10 ?_ | refine S11 ?_ | refine S13 ?_ | refine S15 ?_ | refine S16 ?_ | refine S19 ?_ | refine S20 ?_ | refine S21 ?_ | refine S22 ?_ | refine S23 ?_ | refine S25 ?_ | refine S26 ?_ | refine S28 ?_ | refine S30 ?_ | refine S33 ?_ | refine S35 ?_ | refine S37 ?_ | refine S38 ?_ | refine S40 ?_ | refine S41 ?_ | refine S49 ?_ | refine S63 ?_)
    rw [← hyd]
    refine Scall (args := [pint y]) ki ?_
    repeat (first | refine S0 ?_ | refine S1 ?_ | refine S2 ?_ | refine S4 ?_ | refine S5 ?_ | refine S6 ?_ | refine S7 ?_ | refine S8 ?_ | refine S10 ?_ | refine S11 ?_ | refine S13 ?_ | refine S15 ?_ | refine S16 ?_ | refine S19 ?_ | refine S20 ?_ | refine S21 ?_ | refine S22 ?_ | refine S23 ?_ | refine S25 ?_ | refine S26 ?_ | refine S28 ?_ | refine S30 ?_ | refine S33 ?_ | refine S35 ?_ | refine S37 ?_ | refine S38 ?_ | refine S40 ?_ | refine S41 ?_ | refine S49 ?_ | refine S63 ?_)
    refine CW.own 9 1 rfl ?_
    refine CW.midB (fun _ : Nat => True) (fun b => [(9, .ref b 0 1 (u.flatMap (sub y)).length), (15, pli w), (16, pint w.length), (17, pint k)]) (fun b h => h.blk b = some (ints (u.flatMap (sub y)))) ?_ ?_
    · refine CW.loopS (fun i : Nat × Nat => i.1 ≤ u.length ∧ i.2 % 2 = 0) (fun i => [(7, pint y), (8, pint (absI y)), (9, .ref i.2 0 1 ((u.take i.1).flatMap (sub y)).length), (23, pli u), (24, pint u.length), (25, pint i.1), (15, pli w), (16, pint w.length), (17, pint k)])
        (fun i h => h.blk i.2 = some (ints ((u.take i.1).flatMap (sub y)))) (fun i => u.length - i.1) (0, hp.tok false) ⟨⟨Nat.zero_le _, HP.tok_even _⟩, SLx, HBx⟩ ?_
      rintro ⟨j, b⟩ t hp ⟨hj, hb⟩ hB
      simp only at hj hb hB
      first | simp only [updS] | simp only [updL, Nat.reduceAdd]
      by_cases hjl : j < u.length
      · have hz := hu (u.getD j 0) (by rw [getD_lt 0 hjl]; exact List.getElem_mem hjl)
        have hfl : (u.take (j + 1)).flatMap (sub y) = (u.take j).flatMap (sub y) ++ sub y (u.getD j 0) := by
          rw [List.take_succ_eq_append_getElem hjl, List.flatMap_append, List.flatMap_cons, List.flatMap_nil, List.append_nil, getD_lt 0 hjl]
        have hXl := subs_len y (u.take j)
        rw [List.length_take, Nat.min_eq_left (by omega)] at hXl
        obtain ⟨X, hX⟩ : ∃ X, X = (u.take j).flatMap (sub y) := ⟨_, rfl⟩
        obtain ⟨z, hzd⟩ : ∃ z, z = u.getD j 0 := ⟨_, rfl⟩
        rw [← hX] at hB hfl hXl ⊢
        rw [← hzd] at hz hfl
        have kz := rindex_s z (by omega)
        have hyb : 1 ≤ absI y ∧ absI y ≤ 5 := by rw [hi]; split <;> omega
        have hzb : 1 ≤ absI z ∧ absI z ≤ 6 ∧ (absI z = z ∨ absI z = -z) := by unfold absI; split <;> omega
        have hsz : sub y z = if z < 0 then invL (gen y (absI z)) else gen y (absI z) := by
          unfold sub
          split
          · rw [abs_neg (by assumption)]; rfl
          · rw [abs_pos (by omega)]
        --cases
        by_cases hy0 : 0 < y
        · have hay := abs_pos hy0
          by_cases c1 : absI z = absI y
          · have hg : gen y (absI z) = [absI y, absI y + 1, -absI y] := by
              unfold gen; rw [if_pos hy0, if_pos (by omega), hay]
            rw [hg] at hsz
            by_cases hz0 : z < 0
            · rw [if_pos hz0] at hsz
              have ko : SC Try.prog 23 [plt [absI y, absI y + 1, -absI y]] (pli (invL [absI y, absI y + 1, -absI y])) := SC.weak (opposite_s (by simp) (by intro q hq; simp at hq; (try (rcases (show q = 0 ∨ q = 1 ∨ q = 2 by omega) with rfl | rfl | rfl)) <;> (try subst hq) <;> simp <;> omega)) rfl
              repeat (first | refine S0 ?_ | refine S1 ?_ | refine S2 ?_ | refine S4 ?_ | refine S5 ?_ | refine S6 ?_ | refine S7 ?_ | refine S8 ?_ | refine S10 ?_ | refine S11 ?_ | refine S13 ?_ | refine S15 ?_ | refine S16 ?_ | refine S19 ?_ | refine S20 ?_ | refine S21 ?_ | refine S22 ?_ | refine S23 ?_ | refine S25 ?_ | refine S26 ?_ | refine S28 ?_ | refine S30 ?_ | refine S33 ?_ | refine S35 ?_ | refine S37 ?_ | refine S38 ?_ | refine S40 ?_ | refine S41 ?_ | refine S49 ?_ | refine S63 ?_)
              rw [← hzd]
              refine Scall (args := [pint z]) kz ?_
              repeat (first | refine S0 ?_ | refine S1 ?_ | refine S2 ?_ | refine S4 ?_ | refine S5 ?_ | refine S6 ?_ | refine S7 ?_ | refine S8 ?_ | refine S10 ?_ | refine S11 ?_ | refine S13 ?_ | refine S15 ?_ | refine S16 ?_ | refine S19 ?_ | refine S20 ?_ | refine S21 ?_ | refine S22 ?_ | refine S23 ?_ | refine S25 ?_ | refine S26 ?_ | refine S28 ?_ | refine S30 ?_ | refine S33 ?_ | refine S35 ?_ | refine S37 ?_ | refine S38 ?_ | refine S40 ?_ | refine S41 ?_ | refine S49 ?_ | refine S63 ?_)
              refine Scall (args := [plt [absI y, absI y + 1, -absI y]]) ko ?_
              repeat (first | refine S0 ?_ | refine S1 ?_ | refine S2 ?_ | refine S4 ?_ | refine S5 ?_ | refine S6 ?_ | refine S7 ?_ | refine S8 ?_ | refine S10 ?_ | refine S11 ?_ | refine S13 ?_ | refine S15 ?_ | refine S16 ?_ | refine S19 ?_ | refine S20 ?_ | refine S21 ?_ | refine S22 ?_ | refine S23 ?_ | refine S25 ?_ | refine S26 ?_ | refine S28 ?_ | refine S30 ?_ | refine S33 ?_ | refine S35 ?_ | refine S37 ?_ | refine S38 ?_ | refine S40 ?_ | refine S41 ?_ | refine S49 ?_ | refine S63 ?_)
              have hn3 : (sub y z).length = 3 := by rw [hsz]; simp [invL]
              first
              | refine AW.app (r := ints (X ++ sub y z)) (q := (X ++ sub y z).length) (by simp only [evA, upd, putA, ofConst, ofConst.ofCell, Nat.reduceEqDiff, ↓reduceIte, List.map_cons, List.map_nil, List.toList_toArray]; first | done | rfl) (by first | exact Or.inl rfl | exact Or.inr ⟨rfl, HP.tok_even _⟩ | exact Or.inr (Or.inl ⟨rfl, HP.tok_even _⟩) | exact Or.inr (Or.inr ⟨rfl, HP.tok_odd _⟩) | exact Or.inr (Or.inl rfl) | exact Or.inr (Or.inr (Or.inl rfl)) | exact Or.inr (Or.inr (Or.inr (Or.inl ⟨rfl, HP.tok_odd _⟩))) | exact Or.inr (Or.inr (Or.inr (Or.inr ⟨rfl, HP.tok_even _⟩))) | exact Or.inr (Or.inr (Or.inr (Or.inr ⟨rfl, by assumption⟩))) | exact Or.inr ⟨rfl, by assumption⟩ | exact Or.inr (Or.inl ⟨rfl, by assumption⟩) | exact Or.inr (Or.inr ⟨rfl, by assumption⟩) | exact Or.inr (Or.inr (Or.inr (Or.inl ⟨rfl, by assumption⟩))) | exact Or.inr (Or.inr (Or.inl ⟨rfl, HP.tok_odd _⟩)) | exact Or.inr (Or.inr (Or.inl ⟨rfl, by assumption⟩)) | exact Or.inr (Or.inr (Or.inr rfl)) | exact Or.inr (Or.inr rfl) | exact Or.inr rfl) rfl HBx (by first | exact ⟨rfl, rfl, .inr rfl⟩ | exact ⟨rfl, rfl, .inl rfl⟩ | (simp only [evA, upd, putA, Nat.reduceEqDiff, ↓reduceIte]; first | exact ⟨rfl, rfl, .inr rfl⟩ | exact ⟨rfl, rfl, .inl rfl⟩)) (by simp) (by first | exact (by first | exact ints_ones _ | (intro p hp; simp only [List.mem_singleton] at hp; subst hp; rfl) | (intro p hp; simp at hp; subst hp; rfl)) | (intro p hp; simp only [List.mem_cons, List.not_mem_nil, or_false] at hp; rcases hp with rfl | rfl | rfl <;> rfl)) (by (try simp [invL]); omega) (by rw [hsz, List.drop_zero, Nat.mul_one, List.take_of_length_le (by simp)]; exact ints_append X (invL [absI y, absI y + 1, -absI y])) (by rw [List.length_append, hn3] <;> simp [invL]) ?_
              | skip
              repeat (first | refine S0 ?_ | refine S1 ?_ | refine S2 ?_ | refine S4 ?_ | refine S5 ?_ | refine S6 ?_ | refine S7 ?_ | refine S8 ?_ | refine S10 ?_ | refine S11 ?_ | refine S13 ?_ | refine S15 ?_ | refine S16 ?_ | refine S19 ?_ | refine S20 ?_ | refine S21 ?_ | refine S22 ?_ | refine S23 ?_ | refine S25 ?_ | refine S26 ?_ | refine S28 ?_ | refine S30 ?_ | refine S33 ?_ | refine S35 ?_ | refine S37 ?_ | refine S38 ?_ | refine S40 ?_ | refine S41 ?_ | refine S49 ?_ | refine S63 ?_)
              refine ⟨(j + 1, hp.tok false), ⟨by simp only; omega, HP.tok_even _⟩, ?_, ?_, by simp only; omega⟩
              · first
                | (simp only [hfl]; exact SLx)
                | (simp only [hfl, hsz]; exact SLx)
              · first
                | (simp only [hfl]; exact HBx)
                | (simp only [hfl, hsz]; exact HBx)
            · rw [if_neg hz0] at hsz
              repeat (first | refine S0 ?_ | refine S1 ?_ | refine S2 ?_ | refine S4 ?_ | refine S5 ?_ | refine S6 ?_ | refine S7 ?_ | refine S8 ?_ | refine S10 ?_ | refine S11 ?_ | refine S13 ?_ | refine S15 ?_ | refine S16 ?_ | refine S19 ?_ | refine S20 ?_ | refine S21 ?_ | refine S22 ?_ | refine S23 ?_ | refine S25 ?_ | refine S26 ?_ | refine S28 ?_ | refine S30 ?_ | refine S33 ?_ | refine S35 ?_ | refine S37 ?_ | refine S38 ?_ | refine S40 ?_ | refine S41 ?_ | refine S49 ?_ | refine S63 ?_)
              rw [← hzd]
              refine Scall (args := [pint z]) kz ?_
              repeat (first | refine S0 ?_ | refine S1 ?_ | refine S2 ?_ | refine S4 ?_ | refine S5 ?_ | refine S6 ?_ | refine S7 ?_ | refine S8 ?_ | refine S10 ?_ | refine S11 ?_ | refine S13 ?_ | refine S15 ?_ | refine S16 ?_ | refine S19 ?_ | refine S20 ?_ | refine S21 ?_ | refine S22 ?_ | refine S23 ?_ | refine S25 ?_ | refine S26 ?_ | refine S28 ?_ | refine S30 ?_ | refine S33 ?_ | refine S35 ?_ | refine S37 ?_ | refine S38 ?_ | refine S40 ?_ | refine S41 ?_ | refine S49 ?_ | refine S63 ?_)
              have hn3 : (sub y z).length = 3 := by rw [hsz]; simp [invL]
              first
              | refine AW.app (r := ints (X ++ sub y z)) (q := (X ++ sub y z).length) (by simp only [evA, upd, putA, ofConst, ofConst.ofCell, Nat.reduceEqDiff, ↓reduceIte, List.map_cons, List.map_nil, List.toList_toArray]; first | done | rfl) (by first | exact Or.inl rfl | exact Or.inr ⟨rfl, HP.tok_even _⟩ | exact Or.inr (Or.inl ⟨rfl, HP.tok_even _⟩) | exact Or.inr (Or.inr ⟨rfl, HP.tok_odd _⟩) | exact Or.inr (Or.inl rfl) | exact Or.inr (Or.inr (Or.inl rfl)) | exact Or.inr (Or.inr (Or.inr (Or.inl ⟨rfl, HP.tok_odd _⟩))) | exact Or.inr (Or.inr (Or.inr (Or.inr ⟨rfl, HP.tok_even _⟩))) | exact Or.inr (Or.inr (Or.inr (Or.inr ⟨rfl, by assumption⟩))) | exact Or.inr ⟨rfl, by assumption⟩ | exact Or.inr (Or.inl ⟨rfl, by assumption⟩) | exact Or.inr (Or.inr ⟨rfl, by assumption⟩) | exact Or.inr (Or.inr (Or.inr (Or.inl ⟨rfl, by assumption⟩))) | exact Or.inr (Or.inr (Or.inl ⟨rfl, HP.tok_odd _⟩)) | exact Or.inr (Or.inr (Or.inl ⟨rfl, by assumption⟩)) | exact Or.inr (Or.inr (Or.inr rfl)) | exact Or.inr (Or.inr rfl) | exact Or.inr rfl) rfl HBx (by first | exact ⟨rfl, rfl, .inr rfl⟩ | exact ⟨rfl, rfl, .inl rfl⟩ | (simp only [evA, upd, putA, Nat.reduceEqDiff, ↓reduceIte]; first | exact ⟨rfl, rfl, .inr rfl⟩ | exact ⟨rfl, rfl, .inl rfl⟩)) (by simp) (by first | exact (by first | exact ints_ones _ | (intro p hp; simp only [List.mem_singleton] at hp; subst hp; rfl) | (intro p hp; simp at hp; subst hp; rfl)) | (intro p hp; simp only [List.mem_cons, List.not_mem_nil, or_false] at hp; rcases hp with rfl | rfl | rfl <;> rfl)) (by (try simp [invL]); omega) (by rw [hsz, List.drop_zero, Nat.mul_one, List.take_of_length_le (by simp)]; exact ints_append X [absI y, absI y + 1, -absI y]) (by rw [List.length_append, hn3] <;> simp [invL]) ?_
              | skip
              repeat (first | refine S0 ?_ | refine S1 ?_ | refine S2 ?_ | refine S4 ?_ | refine S5 ?_ | refine S6 ?_ | refine S7 ?_ | refine S8 ?_ | refine S10 ?_ | refine S11 ?_ | refine S13 ?_ | refine S15 ?_ | refine S16 ?_ | refine S19 ?_ | refine S20 ?_ | refine S21 ?_ | refine S22 ?_ | refine S23 ?_ | refine S25 ?_ | refine S26 ?_ | refine S28 ?_ | refine S30 ?_ | refine S33 ?_ | refine S35 ?_ | refine S37 ?_ | refine S38 ?_ | refine S40 ?_ | refine S41 ?_ | refine S49 ?_ | refine S63 ?_)
              refine ⟨(j + 1, hp.tok false), ⟨by simp only; omega, HP.tok_even _⟩, ?_, ?_, by simp only; omega⟩
              · first
                | (simp only [hfl]; exact SLx)
                | (simp only [hfl, hsz]; exact SLx)
              · first
                | (simp only [hfl]; exact HBx)
                | (simp only [hfl, hsz]; exact HBx)
          · by_cases c2 : absI z = absI y + 1
            · have hg : gen y (absI z) = [absI y] := by
                unfold gen; rw [if_pos hy0, if_neg (by omega), if_pos (by omega), hay]
              rw [hg] at hsz
              by_cases hz0 : z < 0
              · rw [if_pos hz0] at hsz
                have ko : SC Try.prog 23 [plt [absI y]] (pli (invL [absI y])) := SC.weak (opposite_s (by simp) (by intro q hq; simp at hq; (try (rcases (show q = 0 ∨ q = 1 ∨ q = 2 by omega) with rfl | rfl | rfl)) <;> (try subst hq) <;> simp <;> omega)) rfl
                repeat (first | refine S0 ?_ | refine S1 ?_ | refine S2 ?_ | refine S4 ?_ | refine S5 ?_ | refine S6 ?_ | refine S7 ?_ | refine S8 ?_ | refine S10 ?_ | refine S11 ?_ | refine S13 ?_ | refine S15 ?_ | refine S16 ?_ | refine S19 ?_ | refine S20 ?_ | refine S21 ?_ | refine S22 ?_ | refine S23 ?_ | refine S25 ?_ | refine S26 ?_ | refine S28 ?_ | refine S30 ?_ | refine S33 ?_ | refine S35 ?_ | refine S37 ?_ | refine S38 ?_ | refine S40 ?_ | refine S41 ?_ | refine S49 ?_ | refine S63 ?_)
                rw [← hzd]
                refine Scall (args := [pint z]) kz ?_
                repeat (first | refine S0 ?_ | refine S1 ?_ | refine S2 ?_ | refine S4 ?_ | refine S5 ?_ | refine S6 ?_ | refine S7 ?_ | refine S8 ?_ | refine S10 ?_ | refine S11 ?_ | refine S13 ?_ | refine S15 ?_ | refine S16 ?_ | refine S19 ?_ | refine S20 ?_ | refine S21 ?_ | refine S22 ?_ | refine S23 ?_ | refine S25 ?_ | refine S26 ?_ | refine S28 ?_ | refine S30 ?_ | refine S33 ?_ | refine S35 ?_ | refine S37 ?_ | refine S38 ?_ | refine S40 ?_ | refine S41 ?_ | refine S49 ?_ | refine S63 ?_)
                refine Scall (args := [pint z]) kz ?_
                repeat (first | refine S0 ?_ | refine S1 ?_ | refine S2 ?_ | refine S4 ?_ | refine S5 ?_ | refine S6 ?_ | refine S7 ?_ | refine S8 ?_ | refine S10 ?_ | refine S11 ?_ | refine S13 ?_ | refine S15 ?_ | refine S16 ?_ | refine S19 ?_ | refine S20 ?_ | refine S21 ?_ | refine S22 ?_ | refine S23 ?_ | refine S25 ?_ | refine S26 ?_ | refine S28 ?_ | refine S30 ?_ | refine S33 ?_ | refine S35 ?_ | refine S37 ?_ | refine S38 ?_ | refine S40 ?_ | refine S41 ?_ | refine S49 ?_ | refine S63 ?_)
                refine Scall (args := [plt [absI y]]) ko ?_
                repeat (first | refine S0 ?_ | refine S1 ?_ | refine S2 ?_ | refine S4 ?_ | refine S5 ?_ | refine S6 ?_ | refine S7 ?_ | refine S8 ?_ | refine S10 ?_ | refine S11 ?_ | refine S13 ?_ | refine S15 ?_ | refine S16 ?_ | refine S19 ?_ | refine S20 ?_ | refine S21 ?_ | refine S22 ?_ | refine S23 ?_ | refine S25 ?_ | refine S26 ?_ | refine S28 ?_ | refine S30 ?_ | refine S33 ?_ | refine S35 ?_ | refine S37 ?_ | refine S38 ?_ | refine S40 ?_ | refine S41 ?_ | refine S49 ?_ | refine S63 ?_)
                have hn3 : (sub y z).length = 1 := by rw [hsz]; simp [invL]
                first
                | refine AW.app (r := ints (X ++ sub y z)) (q := (X ++ sub y z).length) (by simp only [evA, upd, putA, ofConst, ofConst.ofCell, Nat.reduceEqDiff, ↓reduceIte, List.map_cons, List.map_nil, List.toList_toArray]; first | done | rfl) (by first | exact Or.inl rfl | exact Or.inr ⟨rfl, HP.tok_even _⟩ | exact Or.inr (Or.inl ⟨rfl, HP.tok_even _⟩) | exact Or.inr (Or.inr ⟨rfl, HP.tok_odd _⟩) | exact Or.inr (Or.inl rfl) | exact Or.inr (Or.inr (Or.inl rfl)) | exact Or.inr (Or.inr (Or.inr (Or.inl ⟨rfl, HP.tok_odd _⟩))) | exact Or.inr (Or.inr (Or.inr (Or.inr ⟨rfl, HP.tok_even _⟩))) | exact Or.inr (Or.inr (Or.inr (Or.inr ⟨rfl, by assumption⟩))) | exact Or.inr ⟨rfl, by assumption⟩ | exact Or.inr (Or.inl ⟨rfl, by assumption⟩) | exact Or.inr (Or.inr ⟨rfl, by assumption⟩) | exact Or.inr (Or.inr (Or.inr (Or.inl ⟨rfl, by assumption⟩))) | exact Or.inr (Or.inr (Or.inl ⟨rfl, HP.tok_odd _⟩)) | exact Or.inr (Or.inr (Or.inl ⟨rfl, by assumption⟩)) | exact Or.inr (Or.inr (Or.inr rfl)) | exact Or.inr (Or.inr rfl) | exact Or.inr rfl) rfl HBx (by first | exact ⟨rfl, rfl, .inr rfl⟩ | exact ⟨rfl, rfl, .inl rfl⟩ | (simp only [evA, upd, putA, Nat.reduceEqDiff, ↓reduceIte]; first | exact ⟨rfl, rfl, .inr rfl⟩ | exact ⟨rfl, rfl, .inl rfl⟩)) (by simp) (by first | exact (by first | exact ints_ones _ | (intro p hp; simp only [List.mem_singleton] at hp; subst hp; rfl) | (intro p hp; simp at hp; subst hp; rfl)) | (intro p hp; simp only [List.mem_cons, List.not_mem_nil, or_false] at hp; rcases hp with rfl | rfl | rfl <;> rfl)) (by (try simp [invL]); omega) (by rw [hsz, List.drop_zero, Nat.mul_one, List.take_of_length_le (by simp)]; exact ints_append X (invL [absI y])) (by rw [List.length_append, hn3] <;> simp [invL]) ?_
                | skip
                repeat (first | refine S0 ?_ | refine S1 ?_ | refine S2 ?_ | refine S4 ?_ | refine S5 ?_ | refine S6 ?_ | refine S7 ?_ | refine S8 ?_ | refine S10 ?_ | refine S11 ?_ | refine S13 ?_ | refine S15 ?_ | refine S16 ?_ | refine S19 ?_ | refine S20 ?_ | refine S21 ?_ | refine S22 ?_ | refine S23 ?_ | refine S25 ?_ | refine S26 ?_ | refine S28 ?_ | refine S30 ?_ | refine S33 ?_ | refine S35 ?_ | refine S37 ?_ | refine S38 ?_ | refine S40 ?_ | refine S41 ?_ | refine S49 ?_ | refine S63 ?_)
                refine ⟨(j + 1, hp.tok false), ⟨by simp only; omega, HP.tok_even _⟩, ?_, ?_, by simp only; omega⟩
                · first
                  | (simp only [hfl]; exact SLx)
                  | (simp only [hfl, hsz]; exact SLx)
                · first
                  | (simp only [hfl]; exact HBx)
                  | (simp only [hfl, hsz]; exact HBx)
              · rw [if_neg hz0] at hsz
                repeat (first | refine S0 ?_ | refine S1 ?_ | refine S2 ?_ | refine S4 ?_ | refine S5 ?_ | refine S6 ?_ | refine S7 ?_ | refine S8 ?_ | refine S10 ?_ | refine S11 ?_ | refine S13 ?_ | refine S15 ?_ | refine S16 ?_ | refine S19 ?_ | refine S20 ?_ | refine S21 ?_ | refine S22 ?_ | refine S23 ?_ | refine S25 ?_ | refine S26 ?_ | refine S28 ?_ | refine S30 ?_ | refine S33 ?_ | refine S35 ?_ | refine S37 ?_ | refine S38 ?_ | refine S40 ?_ | refine S41 ?_ | refine S49 ?_ | refine S63 ?_)
                rw [← hzd]
                refine Scall (args := [pint z]) kz ?_
                repeat (first | refine S0 ?_ | refine S1 ?_ | refine S2 ?_ | refine S4 ?_ | refine S5 ?_ | refine S6 ?_ | refine S7 ?_ | refine S8 ?_ | refine S10 ?_ | refine S11 ?_ | refine S13 ?_ | refine S15 ?_ | refine S16 ?_ | refine S19 ?_ | refine S20 ?_ | refine S21 ?_ | refine S22 ?_ | refine S23 ?_ | refine S25 ?_ | refine S26 ?_ | refine S28 ?_ | refine S30 ?_ | refine S33 ?_ | refine S35 ?_ | refine S37 ?_ | refine S38 ?_ | refine S40 ?_ | refine S41 ?_ | refine S49 ?_ | refine S63 ?_)
                refine Scall (args := [pint z]) kz ?_
                repeat (first | refine S0 ?_ | refine S1 ?_ | refine S2 ?_ | refine S4 ?_ | refine S5 ?_ | refine S6 ?_ | refine S7 ?_ | refine S8 ?_ | refine S10 ?_ | refine S11 ?_ | refine S13 ?_ | refine S15 ?_ | refine S16 ?_ | refine S19 ?_ | refine S20 ?_ | refine S21 ?_ | refine S22 ?_ | refine S23 ?_ | refine S25 ?_ | refine S26 ?_ | refine S28 ?_ | refine S30 ?_ | refine S33 ?_ | refine S35 ?_ | refine S37 ?_ | refine S38 ?_ | refine S40 ?_ | refine S41 ?_ | refine S49 ?_ | refine S63 ?_)
                have hn3 : (sub y z).length = 1 := by rw [hsz]; simp [invL]
                first
                | refine AW.app (r := ints (X ++ sub y z)) (q := (X ++ sub y z).length) (by simp only [evA, upd, putA, ofConst, ofConst.ofCell, Nat.reduceEqDiff, ↓reduceIte, List.map_cons, List.map_nil, List.toList_toArray]; first | done | rfl) (by first | exact Or.inl rfl | exact Or.inr ⟨rfl, HP.tok_even _⟩ | exact Or.inr (Or.inl ⟨rfl, HP.tok_even _⟩) | exact Or.inr (Or.inr ⟨rfl, HP.tok_odd _⟩) | exact Or.inr (Or.inl rfl) | exact Or.inr (Or.inr (Or.inl rfl)) | exact Or.inr (Or.inr (Or.inr (Or.inl ⟨rfl, HP.tok_odd _⟩))) | exact Or.inr (Or.inr (Or.inr (Or.inr ⟨rfl, HP.tok_even _⟩))) | exact Or.inr (Or.inr (Or.inr (Or.inr ⟨rfl, by assumption⟩))) | exact Or.inr ⟨rfl, by assumption⟩ | exact Or.inr (Or.inl ⟨rfl, by assumption⟩) | exact Or.inr (Or.inr ⟨rfl, by assumption⟩) | exact Or.inr (Or.inr (Or.inr (Or.inl ⟨rfl, by assumption⟩))) | exact Or.inr (Or.inr (Or.inl ⟨rfl, HP.tok_odd _⟩)) | exact Or.inr (Or.inr (Or.inl ⟨rfl, by assumption⟩)) | exact Or.inr (Or.inr (Or.inr rfl)) | exact Or.inr (Or.inr rfl) | exact Or.inr rfl) rfl HBx (by first | exact ⟨rfl, rfl, .inr rfl⟩ | exact ⟨rfl, rfl, .inl rfl⟩ | (simp only [evA, upd, putA, Nat.reduceEqDiff, ↓reduceIte]; first | exact ⟨rfl, rfl, .inr rfl⟩ | exact ⟨rfl, rfl, .inl rfl⟩)) (by simp) (by first | exact (by first | exact ints_ones _ | (intro p hp; simp only [List.mem_singleton] at hp; subst hp; rfl) | (intro p hp; simp at hp; subst hp; rfl)) | (intro p hp; simp only [List.mem_cons, List.not_mem_nil, or_false] at hp; rcases hp with rfl | rfl | rfl <;> rfl)) (by (try simp [invL]); omega) (by rw [hsz, List.drop_zero, Nat.mul_one, List.take_of_length_le (by simp)]; exact ints_append X [absI y]) (by rw [List.length_append, hn3] <;> simp [invL]) ?_
                | skip
                repeat (first | refine S0 ?_ | refine S1 ?_ | refine S2 ?_ | refine S4 ?_ | refine S5 ?_ | refine S6 ?_ | refine S7 ?_ | refine S8 ?_ | refine S10 ?_ | refine S11 ?_ | refine S13 ?_ | refine S15 ?_ | refine S16 ?_ | refine S19 ?_ | refine S20 ?_ | refine S21 ?_ | refine S22 ?_ | refine S23 ?_ | refine S25 ?_ | refine S26 ?_ | refine S28 ?_ | refine S30 ?_ | refine S33 ?_ | refine S35 ?_ | refine S37 ?_ | refine S38 ?_ | refine S40 ?_ | refine S41 ?_ | refine S49 ?_ | refine S63 ?_)
                refine ⟨(j + 1, hp.tok false), ⟨by simp only; omega, HP.tok_even _⟩, ?_, ?_, by simp only; omega⟩
                · first
                  | (simp only [hfl]; exact SLx)
                  | (simp only [hfl, hsz]; exact SLx)
                · first
                  | (simp only [hfl]; exact HBx)
                  | (simp only [hfl, hsz]; exact HBx)
            · have hg : gen y (absI z) = [absI z] := by
                unfold gen; rw [if_pos hy0, if_neg (by omega), if_neg (by omega)]
              rw [hg] at hsz
              by_cases hz0 : z < 0
              · rw [if_pos hz0] at hsz
                have ko : SC Try.prog 23 [plt [absI z]] (pli (invL [absI z])) := SC.weak (opposite_s (by simp) (by intro q hq; simp at hq; (try (rcases (show q = 0 ∨ q = 1 ∨ q = 2 by omega) with rfl | rfl | rfl)) <;> (try subst hq) <;> simp <;> omega)) rfl
                repeat (first | refine S0 ?_ | refine S1 ?_ | refine S2 ?_ | refine S4 ?_ | refine S5 ?_ | refine S6 ?_ | refine S7 ?_ | refine S8 ?_ | refine S10 ?_ | refine S11 ?_ | refine S13 ?_ | refine S15 ?_ | refine S16 ?_ | refine S19 ?_ | refine S20 ?_ | refine S21 ?_ | refine S22 ?_ | refine S23 ?_ | refine S25 ?_ | refine S26 ?_ | refine S28 ?_ | refine S30 ?_ | refine S33 ?_ | refine S35 ?_ | refine S37 ?_ | refine S38 ?_ | refine S40 ?_ | refine S41 ?_ | refine S49 ?_ | refine S63 ?_)
                rw [← hzd]
                refine Scall (args := [pint z]) kz ?_
                repeat (first | refine S0 ?_ | refine S1 ?_ | refine S2 ?_ | refine S4 ?_ | refine S5 ?_ | refine S6 ?_ | refine S7 ?_ | refine S8 ?_ | refine S10 ?_ | refine S11 ?_ | refine S13 ?_ | refine S15 ?_ | refine S16 ?_ | refine S19 ?_ | refine S20 ?_ | refine S21 ?_ | refine S22 ?_ | refine S23 ?_ | refine S25 ?_ | refine S26 ?_ | refine S28 ?_ | refine S30 ?_ | refine S33 ?_ | refine S35 ?_ | refine S37 ?_ | refine S38 ?_ | refine S40 ?_ | refine S41 ?_ | refine S49 ?_ | refine S63 ?_)
                refine Scall (args := [pint z]) kz ?_
                repeat (first | refine S0 ?_ | refine S1 ?_ | refine S2 ?_ | refine S4 ?_ | refine S5 ?_ | refine S6 ?_ | refine S7 ?_ | refine S8 ?_ | refine S10 ?_ | refine S11 ?_ | refine S13 ?_ | refine S15 ?_ | refine S16 ?_ | refine S19 ?_ | refine S20 ?_ | refine S21 ?_ | refine S22 ?_ | refine S23 ?_ | refine S25 ?_ | refine S26 ?_ | refine S28 ?_ | refine S30 ?_ | refine S33 ?_ | refine S35 ?_ | refine S37 ?_ | refine S38 ?_ | refine S40 ?_ | refine S41 ?_ | refine S49 ?_ | refine S63 ?_)
                refine Scall (args := [pint z]) kz ?_
                repeat (first | refine S0 ?_ | refine S1 ?_ | refine S2 ?_ | refine S4 ?_ | refine S5 ?_ | refine S6 ?_ | refine S7 ?_ | refine S8 ?_ | refine S10 ?_ | refine S11 ?_ | refine S13 ?_ | refine S15 ?_ | refine S16 ?_ | refine S19 ?_ | refine S20 ?_ | refine S21 ?_ | refine S22 ?_ | refine S23 ?_ | refine S25 ?_ | refine S26 ?_ | refine S28 ?_ | refine S30 ?_ | refine S33 ?_ | refine S35 ?_ | refine S37 ?_ | refine S38 ?_ | refine S40 ?_ | refine S41 ?_ | refine S49 ?_ | refine S63 ?_)
                refine Scall (args := [plt [absI z]]) ko ?_
                repeat (first | refine S0 ?_ | refine S1 ?_ | refine S2 ?_ | refine S4 ?_ | refine S5 ?_ | refine S6 ?_ | refine S7 ?_ | refine S8 ?_ | refine S10 ?_ | refine S11 ?_ | refine S13 ?_ | refine S15 ?_ | refine S16 ?_ | refine S19 ?_ | refine S20 ?_ | refine S21 ?_ | refine S22 ?_ | refine S23 ?_ | refine S25 ?_ | refine S26 ?_ | refine S28 ?_ | refine S30 ?_ | refine S33 ?_ | refine S35 ?_ | refine S37 ?_ | refine S38 ?_ | refine S40 ?_ | refine S41 ?_ | refine S49 ?_ | refine S63 ?_)
                have hn3 : (sub y z).length = 1 := by rw [hsz]; simp [invL]
                first
                | refine AW.app (r := ints (X ++ sub y z)) (q := (X ++ sub y z).length) (by simp only [evA, upd, putA, ofConst, ofConst.ofCell, Nat.reduceEqDiff, ↓reduceIte, List.map_cons, List.map_nil, List.toList_toArray]; first | done | rfl) (by first | exact Or.inl rfl | exact Or.inr ⟨rfl, HP.tok_even _⟩ | exact Or.inr (Or.inl ⟨rfl, HP.tok_even _⟩) | exact Or.inr (Or.inr ⟨rfl, HP.tok_odd _⟩) | exact Or.inr (Or.inl rfl) | exact Or.inr (Or.inr (Or.inl rfl)) | exact Or.inr (Or.inr (Or.inr (Or.inl ⟨rfl, HP.tok_odd _⟩))) | exact Or.inr (Or.inr (Or.inr (Or.inr ⟨rfl, HP.tok_even _⟩))) | exact Or.inr (Or.inr (Or.inr (Or.inr ⟨rfl, by assumption⟩))) | exact Or.inr ⟨rfl, by assumption⟩ | exact Or.inr (Or.inl ⟨rfl, by assumption⟩) | exact Or.inr (Or.inr ⟨rfl, by assumption⟩) | exact Or.inr (Or.inr (Or.inr (Or.inl ⟨rfl, by assumption⟩))) | exact Or.inr (Or.inr (Or.inl ⟨rfl, HP.tok_odd _⟩)) | exact Or.inr (Or.inr (Or.inl ⟨rfl, by assumption⟩)) | exact Or.inr (Or.inr (Or.inr rfl)) | exact Or.inr (Or.inr rfl) | exact Or.inr rfl) rfl HBx (by first | exact ⟨rfl, rfl, .inr rfl⟩ | exact ⟨rfl, rfl, .inl rfl⟩ | (simp only [evA, upd, putA, Nat.reduceEqDiff, ↓reduceIte]; first | exact ⟨rfl, rfl, .inr rfl⟩ | exact ⟨rfl, rfl, .inl rfl⟩)) (by simp) (by first | exact (by first | exact ints_ones _ | (intro p hp; simp only [List.mem_singleton] at hp; subst hp; rfl) | (intro p hp; simp at hp; subst hp; rfl)) | (intro p hp; simp only [List.mem_cons, List.not_mem_nil, or_false] at hp; rcases hp with rfl | rfl | rfl <;> rfl)) (by (try simp [invL]); omega) (by rw [hsz, List.drop_zero, Nat.mul_one, List.take_of_length_le (by simp)]; exact ints_append X (invL [absI z])) (by rw [List.length_append, hn3] <;> simp [invL]) ?_
                | skip
                repeat (first | refine S0 ?_ | refine S1 ?_ | refine S2 ?_ | refine S4 ?_ | refine S5 ?_ | refine S6 ?_ | refine S7 ?_ | refine S8 ?_ | refine S10 ?_ | refine S11 ?_ | refine S13 ?_ | refine S15 ?_ | refine S16 ?_ | refine S19 ?_ | refine S20 ?_ | refine S21 ?_ | refine S22 ?_ | refine S23 ?_ | refine S25 ?_ | refine S26 ?_ | refine S28 ?_ | refine S30 ?_ | refine S33 ?_ | refine S35 ?_ | refine S37 ?_ | refine S38 ?_ | refine S40 ?_ | refine S41 ?_ | refine S49 ?_ | refine S63 ?_)
                refine ⟨(j + 1, hp.tok false), ⟨by simp only; omega, HP.tok_even _⟩, ?_, ?_, by simp only; omega⟩
                · first
                  | (simp only [hfl]; exact SLx)
                  | (simp only [hfl, hsz]; exact SLx)
                · first
                  | (simp only [hfl]; exact HBx)
                  | (simp only [hfl, hsz]; exact HBx)
              · rw [if_neg hz0] at hsz
                repeat (first | refine S0 ?_ | refine S1 ?_ | refine S2 ?_ | refine S4 ?_ | refine S5 ?_ | refine S6 ?_ | refine S7 ?_ | refine S8 ?_ | refine S10 ?_ | refine S11 ?_ | refine S13 ?_ | refine S15 ?_ | refine S16 ?_ | refine S19 ?_ | refine S20 ?_ | refine S21 ?_ | refine S22 ?_ | refine S23 ?_ | refine S25 ?_ | refine S26 ?_ | refine S28 ?_ | refine S30 ?_ | refine S33 ?_ | refine S35 ?_ | refine S37 ?_ | refine S38 ?_ | refine S40 ?_ | refine S41 ?_ | refine S49 ?_ | refine S63 ?_)
                rw [← hzd]
                refine Scall (args := [pint z]) kz ?_
                repeat (first | refine S0 ?_ | refine S1 ?_ | refine S2 ?_ | refine S4 ?_ | refine S5 ?_ | refine S6 ?_ | refine S7 ?_ | refine S8 ?_ | refine S10 ?_ | refine S11 ?_ | refine S13 ?_ | refine S15 ?_ | refine S16 ?_ | refine S19 ?_ | refine S20 ?_ | refine S21 ?_ | refine S22 ?_ | refine S23 ?_ | refine S25 ?_ | refine S26 ?_ | refine S28 ?_ | refine S30 ?_ | refine S33 ?_ | refine S35 ?_ | refine S37 ?_ | refine S38 ?_ | refine S40 ?_ | refine S41 ?_ | refine S49 ?_ | refine S63 ?_)
                refine Scall (args := [pint z]) kz ?_
                repeat (first | refine S0 ?_ | refine S1 ?_ | refine S2 ?_ | refine S4 ?_ | refine S5 ?_ | refine S6 ?_ | refine S7 ?_ | refine S8 ?_ | refine S10 ?_ | refine S11 ?_ | refine S13 ?_ | refine S15 ?_ | refine S16 ?_ | refine S19 ?_ | refine S20 ?_ | refine S21 ?_ | refine S22 ?_ | refine S23 ?_ | refine S25 ?_ | refine S26 ?_ | refine S28 ?_ | refine S30 ?_ | refine S33 ?_ | refine S35 ?_ | refine S37 ?_ | refine S38 ?_ | refine S40 ?_ | refine S41 ?_ | refine S49 ?_ | refine S63 ?_)
                refine Scall (args := [pint z]) kz ?_
                repeat (first | refine S0 ?_ | refine S1 ?_ | refine S2 ?_ | refine S4 ?_ | refine S5 ?_ | refine S6 ?_ | refine S7 ?_ | refine S8 ?_ | refine S10 ?_ | refine S11 ?_ | refine S13 ?_ | refine S15 ?_ | refine S16 ?_ | refine S19 ?_ | refine S20 ?_ | refine S21 ?_ | refine S22 ?_ | refine S23 ?_ | refine S25 ?_ | refine S26 ?_ | refine S28 ?_ | refine S30 ?_ | refine S33 ?_ | refine S35 ?_ | refine S37 ?_ | refine S38 ?_ | refine S40 ?_ | refine S41 ?_ | refine S49 ?_ | refine S63 ?_)
                have hn3 : (sub y z).length = 1 := by rw [hsz]; simp [invL]
                first
                | refine AW.app (r := ints (X ++ sub y z)) (q := (X ++ sub y z).length) (by simp only [evA, upd, putA, ofConst, ofConst.ofCell, Nat.reduceEqDiff, ↓reduceIte, List.map_cons, List.map_nil, List.toList_toArray]; first | done | rfl) (by first | exact Or.inl rfl | exact Or.inr ⟨rfl, HP.tok_even _⟩ | exact Or.inr (Or.inl ⟨rfl, HP.tok_even _⟩) | exact Or.inr (Or.inr ⟨rfl, HP.tok_odd _⟩) | exact Or.inr (Or.inl rfl) | exact Or.inr (Or.inr (Or.inl rfl)) | exact Or.inr (Or.inr (Or.inr (Or.inl ⟨rfl, HP.tok_odd _⟩))) | exact Or.inr (Or.inr (Or.inr (Or.inr ⟨rfl, HP.tok_even _⟩))) | exact Or.inr (Or.inr (Or.inr (Or.inr ⟨rfl, by assumption⟩))) | exact Or.inr ⟨rfl, by assumption⟩ | exact Or.inr (Or.inl ⟨rfl, by assumption⟩) | exact Or.inr (Or.inr ⟨rfl, by assumption⟩) | exact Or.inr (Or.inr (Or.inr (Or.inl ⟨rfl, by assumption⟩))) | exact Or.inr (Or.inr (Or.inl ⟨rfl, HP.tok_odd _⟩)) | exact Or.inr (Or.inr (Or.inl ⟨rfl, by assumption⟩)) | exact Or.inr (Or.inr (Or.inr rfl)) | exact Or.inr (Or.inr rfl) | exact Or.inr rfl) rfl HBx (by first | exact ⟨rfl, rfl, .inr rfl⟩ | exact ⟨rfl, rfl, .inl rfl⟩ | (simp only [evA, upd, putA, Nat.reduceEqDiff, ↓reduceIte]; first | exact ⟨rfl, rfl, .inr rfl⟩ | exact ⟨rfl, rfl, .inl rfl⟩)) (by simp) (by first | exact (by first | exact ints_ones _ | (intro p hp; simp only [List.mem_singleton] at hp; subst hp; rfl) | (intro p hp; simp at hp; subst hp; rfl)) | (intro p hp; simp only [List.mem_cons, List.not_mem_nil, or_false] at hp; rcases hp with rfl | rfl | rfl <;> rfl)) (by (try simp [invL]); omega) (by rw [hsz, List.drop_zero, Nat.mul_one, List.take_of_length_le (by simp)]; exact ints_append X [absI z]) (by rw [List.length_append, hn3] <;> simp [invL]) ?_
                | skip
                repeat (first | refine S0 ?_ | refine S1 ?_ | refine S2 ?_ | refine S4 ?_ | refine S5 ?_ | refine S6 ?_ | refine S7 ?_ | refine S8 ?_ | refine S10 ?_ | refine S11 ?_ | refine S13 ?_ | refine S15 ?_ | refine S16 ?_ | refine S19 ?_ | refine S20 ?_ | refine S21 ?_ | refine S22 ?_ | refine S23 ?_ | refine S25 ?_ | refine S26 ?_ | refine S28 ?_ | refine S30 ?_ | refine S33 ?_ | refine S35 ?_ | refine S37 ?_ | refine S38 ?_ | refine S40 ?_ | refine S41 ?_ | refine S49 ?_ | refine S63 ?_)
                refine ⟨(j + 1, hp.tok false), ⟨by simp only; omega, HP.tok_even _⟩, ?_, ?_, by simp only; omega⟩
                · first
                  | (simp only [hfl]; exact SLx)
                  | (simp only [hfl, hsz]; exact SLx)
                · first
                  | (simp only [hfl]; exact HBx)
                  | (simp only [hfl, hsz]; exact HBx)
        · have hay := abs_neg (show y < 0 by omega)
          by_cases c1 : absI z = absI y
          · have hg : gen y (absI z) = [absI y + 1] := by
              unfold gen; rw [if_neg hy0, if_pos (by omega), hay]
            rw [hg] at hsz
            by_cases hz0 : z < 0
            · rw [if_pos hz0] at hsz
              have ko : SC Try.prog 23 [plt [absI y + 1]] (pli (invL [absI y + 1])) := SC.weak (opposite_s (by simp) (by intro q hq; simp at hq; (try (rcases (show q = 0 ∨ q = 1 ∨ q = 2 by omega) with rfl | rfl | rfl)) <;> (try subst hq) <;> simp <;> omega)) rfl
              repeat (first | refine S0 ?_ | refine S1 ?_ | refine S2 ?_ | refine S4 ?_ | refine S5 ?_ | refine S6 ?_ | refine S7 ?_ | refine S8 ?_ | refine S10 ?_ | refine S11 ?_ | refine S13 ?_ | refine S15 ?_ | refine S16 ?_ | refine S19 ?_ | refine S20 ?_ | refine S21 ?_ | refine S22 ?_ | refine S23 ?_ | refine S25 ?_ | refine S26 ?_ | refine S28 ?_ | refine S30 ?_ | refine S33 ?_ | refine S35 ?_ | refine S37 ?_ | refine S38 ?_ | refine S40 ?_ | refine S41 ?_ | refine S49 ?_ | refine S63 ?_)
              rw [← hzd]
              refine Scall (args := [pint z]) kz ?_
              repeat (first | refine S0 ?_ | refine S1 ?_ | refine S2 ?_ | refine S4 ?_ | refine S5 ?_ | refine S6 ?_ | refine S7 ?_ | refine S8 ?_ | refine S10 ?_ | refine S11 ?_ | refine S13 ?_ | refine S15 ?_ | refine S16 ?_ | refine S19 ?_ | refine S20 ?_ | refine S21 ?_ | refine S22 ?_ | refine S23 ?_ | refine S25 ?_ | refine S26 ?_ | refine S28 ?_ | refine S30 ?_ | refine S33 ?_ | refine S35 ?_ | refine S37 ?_ | refine S38 ?_ | refine S40 ?_ | refine S41 ?_ | refine S49 ?_ | refine S63 ?_)
              refine Scall (args := [plt [absI y + 1]]) ko ?_
              repeat (first | refine S0 ?_ | refine S1 ?_ | refine S2 ?_ | refine S4 ?_ | refine S5 ?_ | refine S6 ?_ | refine S7 ?_ | refine S8 ?_ | refine S10 ?_ | refine S11 ?_ | refine S13 ?_ | refine S15 ?_ | refine S16 ?_ | refine S19 ?_ | refine S20 ?_ | refine S21 ?_ | refine S22 ?_ | refine S23 ?_ | refine S25 ?_ | refine S26 ?_ | refine S28 ?_ | refine S30 ?_ | refine S33 ?_ | refine S35 ?_ | refine S37 ?_ | refine S38 ?_ | refine S40 ?_ | refine S41 ?_ | refine S49 ?_ | refine S63 ?_)
              have hn3 : (sub y z).length = 1 := by rw [hsz]; simp [invL]
              first
              | refine AW.app (r := ints (X ++ sub y z)) (q := (X ++ sub y z).length) (by simp only [evA, upd, putA, ofConst, ofConst.ofCell, Nat.reduceEqDiff, ↓reduceIte, List.map_cons, List.map_nil, List.toList_toArray]; first | done | rfl) (by first | exact Or.inl rfl | exact Or.inr ⟨rfl, HP.tok_even _⟩ | exact Or.inr (Or.inl ⟨rfl, HP.tok_even _⟩) | exact Or.inr (Or.inr ⟨rfl, HP.tok_odd _⟩) | exact Or.inr (Or.inl rfl) | exact Or.inr (Or.inr (Or.inl rfl)) | exact Or.inr (Or.inr (Or.inr (Or.inl ⟨rfl, HP.tok_odd _⟩))) | exact Or.inr (Or.inr (Or.inr (Or.inr ⟨rfl, HP.tok_even _⟩))) | exact Or.inr (Or.inr (Or.inr (Or.inr ⟨rfl, by assumption⟩))) | exact Or.inr ⟨rfl, by assumption⟩ | exact Or.inr (Or.inl ⟨rfl, by assumption⟩) | exact Or.inr (Or.inr ⟨rfl, by assumption⟩) | exact Or.inr (Or.inr (Or.inr (Or.inl ⟨rfl, by assumption⟩))) | exact Or.inr (Or.inr (Or.inl ⟨rfl, HP.tok_odd _⟩)) | exact Or.inr (Or.inr (Or.inl ⟨rfl, by assumption⟩)) | exact Or.inr (Or.inr (Or.inr rfl)) | exact Or.inr (Or.inr rfl) | exact Or.inr rfl) rfl HBx (by first | exact ⟨rfl, rfl, .inr rfl⟩ | exact ⟨rfl, rfl, .inl rfl⟩ | (simp only [evA, upd, putA, Nat.reduceEqDiff, ↓reduceIte]; first | exact ⟨rfl, rfl, .inr rfl⟩ | exact ⟨rfl, rfl, .inl rfl⟩)) (by simp) (by first | exact (by first | exact ints_ones _ | (intro p hp; simp only [List.mem_singleton] at hp; subst hp; rfl) | (intro p hp; simp at hp; subst hp; rfl)) | (intro p hp; simp only [List.mem_cons, List.not_mem_nil, or_false] at hp; rcases hp with rfl | rfl | rfl <;> rfl)) (by (try simp [invL]); omega) (by rw [hsz, List.drop_zero, Nat.mul_one, List.take_of_length_le (by simp)]; exact ints_append X (invL [absI y + 1])) (by rw [List.length_append, hn3] <;> simp [invL]) ?_
              | skip
              repeat (first | refine S0 ?_ | refine S1 ?_ | refine S2 ?_ | refine S4 ?_ | refine S5 ?_ | refine S6 ?_ | refine S7 ?_ | refine S8 ?_ | refine S10 ?_ | refine S11 ?_ | refine S13 ?_ | refine S15 ?_ | refine S16 ?_ | refine S19 ?_ | refine S20 ?_ | refine S21 ?_ | refine S22 ?_ | refine S23 ?_ | refine S25 ?_ | refine S26 ?_ | refine S28 ?_ | refine S30 ?_ | refine S33 ?_ | refine S35 ?_ | refine S37 ?_ | refine S38 ?_ | refine S40 ?_ | refine S41 ?_ | refine S49 ?_ | refine S63 ?_)
              refine ⟨(j + 1, hp.tok false), ⟨by simp only; omega, HP.tok_even _⟩, ?_, ?_, by simp only; omega⟩
              · first
                | (simp only [hfl]; exact SLx)
                | (simp only [hfl, hsz]; exact SLx)
              · first
                | (simp only [hfl]; exact HBx)
                | (simp only [hfl, hsz]; exact HBx)
            · rw [if_neg hz0] at hsz
              repeat (first | refine S0 ?_ | refine S1 ?_ | refine S2 ?_ | refine S4 ?_ | refine S5 ?_ | refine S6 ?_ | refine S7 ?_ | refine S8 ?_ | refine S10 ?_ | refine S11 ?_ | refine S13 ?_ | refine S15 ?_ | refine S16 ?_ | refine S19 ?_ | refine S20 ?_ | refine S21 ?_ | refine S22 ?_ | refine S23 ?_ | refine S25 ?_ | refine S26 ?_ | refine S28 ?_ | refine S30 ?_ | refine S33 ?_ | refine S35 ?_ | refine S37 ?_ | refine S38 ?_ | refine S40 ?_ | refine S41 ?_ | refine S49 ?_ | refine S63 ?_)
              rw [← hzd]
              refine Scall (args := [pint z]) kz ?_
              repeat (first | refine S0 ?_ | refine S1 ?_ | refine S2 ?_ | refine S4 ?_ | refine S5 ?_ | refine S6 ?_ | refine S7 ?_ | refine S8 ?_ | refine S10 ?_ | refine S11 ?_ | refine S13 ?_ | refine S15 ?_ | refine S16 ?_ | refine S19 ?_ | refine S20 ?_ | refine S21 ?_ | refine S22 ?_ | refine S23 ?_ | refine S25 ?_ | refine S26 ?_ | refine S28 ?_ | refine S30 ?_ | refine S33 ?_ | refine S35 ?_ | refine S37 ?_ | refine S38 ?_ | refine S40 ?_ | refine S41 ?_ | refine S49 ?_ | refine S63 ?_)
              have hn3 : (sub y z).length = 1 := by rw [hsz]; simp [invL]
              first
              | refine AW.app (r := ints (X ++ sub y z)) (q := (X ++ sub y z).length) (by simp only [evA, upd, putA, ofConst, ofConst.ofCell, Nat.reduceEqDiff, ↓reduceIte, List.map_cons, List.map_nil, List.toList_toArray]; first | done | rfl) (by first | exact Or.inl rfl | exact Or.inr ⟨rfl, HP.tok_even _⟩ | exact Or.inr (Or.inl ⟨rfl, HP.tok_even _⟩) | exact Or.inr (Or.inr ⟨rfl, HP.tok_odd _⟩) | exact Or.inr (Or.inl rfl) | exact Or.inr (Or.inr (Or.inl rfl)) | exact Or.inr (Or.inr (Or.inr (Or.inl ⟨rfl, HP.tok_odd _⟩))) | exact Or.inr (Or.inr (Or.inr (Or.inr ⟨rfl, HP.tok_even _⟩))) | exact Or.inr (Or.inr (Or.inr (Or.inr ⟨rfl, by assumption⟩))) | exact Or.inr ⟨rfl, by assumption⟩ | exact Or.inr (Or.inl ⟨rfl, by assumption⟩) | exact Or.inr (Or.inr ⟨rfl, by assumption⟩) | exact Or.inr (Or.inr (Or.inr (Or.inl ⟨rfl, by assumption⟩))) | exact Or.inr (Or.inr (Or.inl ⟨rfl, HP.tok_odd _⟩)) | exact Or.inr (Or.inr (Or.inl ⟨rfl, by assumption⟩)) | exact Or.inr (Or.inr (Or.inr rfl)) | exact Or.inr (Or.inr rfl) | exact Or.inr rfl) rfl HBx (by first | exact ⟨rfl, rfl, .inr rfl⟩ | exact ⟨rfl, rfl, .inl rfl⟩ | (simp only [evA, upd, putA, Nat.reduceEqDiff, ↓reduceIte]; first | exact ⟨rfl, rfl, .inr rfl⟩ | exact ⟨rfl, rfl, .inl rfl⟩)) (by simp) (by first | exact (by first | exact ints_ones _ | (intro p hp; simp only [List.mem_singleton] at hp; subst hp; rfl) | (intro p hp; simp at hp; subst hp; rfl)) | (intro p hp; simp only [List.mem_cons, List.not_mem_nil, or_false] at hp; rcases hp with rfl | rfl | rfl <;> rfl)) (by (try simp [invL]); omega) (by rw [hsz, List.drop_zero, Nat.mul_one, List.take_of_length_le (by simp)]; exact ints_append X [absI y + 1]) (by rw [List.length_append, hn3] <;> simp [invL]) ?_
              | skip
              repeat (first | refine S0 ?_ | refine S1 ?_ | refine S2 ?_ | refine S4 ?_ | refine S5 ?_ | refine S6 ?_ | refine S7 ?_ | refine S8 ?_ | refine S10 ?_ | refine S11 ?_ | refine S13 ?_ | refine S15 ?_ | refine S16 ?_ | refine S19 ?_ | refine S20 ?_ | refine S21 ?_ | refine S22 ?_ | refine S23 ?_ | refine S25 ?_ | refine S26 ?_ | refine S28 ?_ | refine S30 ?_ | refine S33 ?_ | refine S35 ?_ | refine S37 ?_ | refine S38 ?_ | refine S40 ?_ | refine S41 ?_ | refine S49 ?_ | refine S63 ?_)
              refine ⟨(j + 1, hp.tok false), ⟨by simp only; omega, HP.tok_even _⟩, ?_, ?_, by simp only; omega⟩
              · first
                | (simp only [hfl]; exact SLx)
                | (simp only [hfl, hsz]; exact SLx)
              · first
                | (simp only [hfl]; exact HBx)
                | (simp only [hfl, hsz]; exact HBx)
          · by_cases c2 : absI z = absI y + 1
            · have hg : gen y (absI z) = [-absI y - 1, absI y, absI y + 1] := by
                unfold gen; rw [if_neg hy0, if_neg (by omega), if_pos (by omega), hay]; congr 1; omega
              rw [hg] at hsz
              by_cases hz0 : z < 0
              · rw [if_pos hz0] at hsz
                have ko : SC Try.prog 23 [plt [-absI y - 1, absI y, absI y + 1]] (pli (invL [-absI y - 1, absI y, absI y + 1])) := SC.weak (opposite_s (by simp) (by intro q hq; simp at hq; (try (rcases (show q = 0 ∨ q = 1 ∨ q = 2 by omega) with rfl | rfl | rfl)) <;> (try subst hq) <;> simp <;> omega)) rfl
                repeat (first | refine S0 ?_ | refine S1 ?_ | refine S2 ?_ | refine S4 ?_ | refine S5 ?_ | refine S6 ?_ | refine S7 ?_ | refine S8 ?_ | refine S10 ?_ | refine S11 ?_ | refine S13 ?_ | refine S15 ?_ | refine S16 ?_ | refine S19 ?_ | refine S20 ?_ | refine S21 ?_ | refine S22 ?_ | refine S23 ?_ | refine S25 ?_ | refine S26 ?_ | refine S28 ?_ | refine S30 ?_ | refine S33 ?_ | refine S35 ?_ | refine S37 ?_ | refine S38 ?_ | refine S40 ?_ | refine S41 ?_ | refine S49 ?_ | refine S63 ?_)
                rw [← hzd]
                refine Scall (args := [pint z]) kz ?_
                repeat (first | refine S0 ?_ | refine S1 ?_ | refine S2 ?_ | refine S4 ?_ | refine S5 ?_ | refine S6 ?_ | refine S7 ?_ | refine S8 ?_ | refine S10 ?_ | refine S11 ?_ | refine S13 ?_ | refine S15 ?_ | refine S16 ?_ | refine S19 ?_ | refine S20 ?_ | refine S21 ?_ | refine S22 ?_ | refine S23 ?_ | refine S25 ?_ | refine S26 ?_ | refine S28 ?_ | refine S30 ?_ | refine S33 ?_ | refine S35 ?_ | refine S37 ?_ | refine S38 ?_ | refine S40 ?_ | refine S41 ?_ | refine S49 ?_ | refine S63 ?_)
                refine Scall (args := [pint z]) kz ?_
                repeat (first | refine S0 ?_ | refine S1 ?_ | refine S2 ?_ | refine S4 ?_ | refine S5 ?_ | refine S6 ?_ | refine S7 ?_ | refine S8 ?_ | refine S10 ?_ | refine S11 ?_ | refine S13 ?_ | refine S15 ?_ | refine S16 ?_ | refine S19 ?_ | refine S20 ?_ | refine S21 ?_ | refine S22 ?_ | refine S23 ?_ | refine S25 ?_ | refine S26 ?_ | refine S28 ?_ | refine S30 ?_ | refine S33 ?_ | refine S35 ?_ | refine S37 ?_ | refine S38 ?_ | refine S40 ?_ | refine S41 ?_ | refine S49 ?_ | refine S63 ?_)
                refine Scall (args := [plt [-absI y - 1, absI y, absI y + 1]]) ko ?_
                repeat (first | refine S0 ?_ | refine S1 ?_ | refine S2 ?_ | refine S4 ?_ | refine S5 ?_ | refine S6 ?_ | refine S7 ?_ | refine S8 ?_ | refine S10 ?_ | refine S11 ?_ | refine S13 ?_ | refine S15 ?_ | refine S16 ?_ | refine S19 ?_ | refine S20 ?_ | refine S21 ?_ | refine S22 ?_ | refine S23 ?_ | refine S25 ?_ | refine S26 ?_ | refine S28 ?_ | refine S30 ?_ | refine S33 ?_ | refine S35 ?_ | refine S37 ?_ | refine S38 ?_ | refine S40 ?_ | refine S41 ?_ | refine S49 ?_ | refine S63 ?_)
                have hn3 : (sub y z).length = 3 := by rw [hsz]; simp [invL]
                first
                | refine AW.app (r := ints (X ++ sub y z)) (q := (X ++ sub y z).length) (by simp only [evA, upd, putA, ofConst, ofConst.ofCell, Nat.reduceEqDiff, ↓reduceIte, List.map_cons, List.map_nil, List.toList_toArray]; first | done | rfl) (by first | exact Or.inl rfl | exact Or.inr ⟨rfl, HP.tok_even _⟩ | exact Or.inr (Or.inl ⟨rfl, HP.tok_even _⟩) | exact Or.inr (Or.inr ⟨rfl, HP.tok_odd _⟩) | exact Or.inr (Or.inl rfl) | exact Or.inr (Or.inr (Or.inl rfl)) | exact Or.inr (Or.inr (Or.inr (Or.inl ⟨rfl, HP.tok_odd _⟩))) | exact Or.inr (Or.inr (Or.inr (Or.inr ⟨rfl, HP.tok_even _⟩))) | exact Or.inr (Or.inr (Or.inr (Or.inr ⟨rfl, by assumption⟩))) | exact Or.inr ⟨rfl, by assumption⟩ | exact Or.inr (Or.inl ⟨rfl, by assumption⟩) | exact Or.inr (Or.inr ⟨rfl, by assumption⟩) | exact Or.inr (Or.inr (Or.inr (Or.inl ⟨rfl, by assumption⟩))) | exact Or.inr (Or.inr (Or.inl ⟨rfl, HP.tok_odd _⟩)) | exact Or.inr (Or.inr (Or.inl ⟨rfl, by assumption⟩)) | exact Or.inr (Or.inr (Or.inr rfl)) | exact Or.inr (Or.inr rfl) | exact Or.inr rfl) rfl HBx (by first | exact ⟨rfl, rfl, .inr rfl⟩ | exact ⟨rfl, rfl, .inl rfl⟩ | (simp only [evA, upd, putA, Nat.reduceEqDiff, ↓reduceIte]; first | exact ⟨rfl, rfl, .inr rfl⟩ | exact ⟨rfl, rfl, .inl rfl⟩)) (by simp) (by first | exact (by first | exact ints_ones _ | (intro p hp; simp only [List.mem_singleton] at hp; subst hp; rfl) | (intro p hp; simp at hp; subst hp; rfl)) | (intro p hp; simp only [List.mem_cons, List.not_mem_nil, or_false] at hp; rcases hp with rfl | rfl | rfl <;> rfl)) (by (try simp [invL]); omega) (by rw [hsz, List.drop_zero, Nat.mul_one, List.take_of_length_le (by simp)]; exact ints_append X (invL [-absI y - 1, absI y, absI y + 1])) (by rw [List.length_append, hn3] <;> simp [invL]) ?_
                | skip
                repeat (first | refine S0 ?_ | refine S1 ?_ | refine S2 ?_ | refine S4 ?_ | refine S5 ?_ | refine S6 ?_ | refine S7 ?_ | refine S8 ?_ | refine S10 ?_ | refine S11 ?_ | refine S13 ?_ | refine S15 ?_ | refine S16 ?_ | refine S19 ?_ | refine S20 ?_ | refine S21 ?_ | refine S22 ?_ | refine S23 ?_ | refine S25 ?_ | refine S26 ?_ | refine S28 ?_ | refine S30 ?_ | refine S33 ?_ | refine S35 ?_ | refine S37 ?_ | refine S38 ?_ | refine S40 ?_ | refine S41 ?_ | refine S49 ?_ | refine S63 ?_)
                refine ⟨(j + 1, hp.tok false), ⟨by simp only; omega, HP.tok_even _⟩, ?_, ?_, by simp only; omega⟩
                · first
                  | (simp only [hfl]; exact SLx)
                  | (simp only [hfl, hsz]; exact SLx)
                · first
                  | (simp only [hfl]; exact HBx)
                  | (simp only [hfl, hsz]; exact HBx)
              · rw [if_neg hz0] at hsz
                repeat (first | refine S0 ?_ | refine S1 ?_ | refine S2 ?_ | refine S4 ?_ | refine S5 ?_ | refine S6 ?_ | refine S7 ?_ | refine S8 ?_ | refine S10 ?_ | refine S11 ?_ | refine S13 ?_ | refine S15 ?_ | refine S16 ?_ | refine S19 ?_ | refine S20 ?_ | refine S21 ?_ | refine S22 ?_ | refine S23 ?_ | refine S25 ?_ | refine S26 ?_ | refine S28 ?_ | refine S30 ?_ | refine S33 ?_ | refine S35 ?_ | refine S37 ?_ | refine S38 ?_ | refine S40 ?_ | refine S41 ?_ | refine S49 ?_ | refine S63 ?_)
                rw [← hzd]
                refine Scall (args := [pint z]) kz ?_
                repeat (first | refine S0 ?_ | refine S1 ?_ | refine S2 ?_ | refine S4 ?_ | refine S5 ?_ | refine S6 ?_ | refine S7 ?_ | refine S8 ?_ | refine S10 ?_ | refine S11 ?_ | refine S13 ?_ | refine S15 ?_ | refine S16 ?_ | refine S19 ?_ | refine S20 ?_ | refine S21 ?_ | refine S22 ?_ | refine S23 ?_ | refine S25 ?_ | refine S26 ?_ | refine S28 ?_ | refine S30 ?_ | refine S33 ?_ | refine S35 ?_ | refine S37 ?_ | refine S38 ?_ | refine S40 ?_ | refine S41 ?_ | refine S49 ?_ | refine S63 ?_)
                refine Scall (args := [pint z]) kz ?_
                repeat (first | refine S0 ?_ | refine S1 ?_ | refine S2 ?_ | refine S4 ?_ | refine S5 ?_ | refine S6 ?_ | refine S7 ?_ | refine S8 ?_ | refine S10 ?_ | refine S11 ?_ | refine S13 ?_ | refine S15 ?_ | refine S16 ?_ | refine S19 ?_ | refine S20 ?_ | refine S21 ?_ | refine S22 ?_ | refine S23 ?_ | refine S25 ?_ | refine S26 ?_ | refine S28 ?_ | refine S30 ?_ | refine S33 ?_ | refine S35 ?_ | refine S37 ?_ | refine S38 ?_ | refine S40 ?_ | refine S41 ?_ | refine S49 ?_ | refine S63 ?_)
                have hn3 : (sub y z).length = 3 := by rw [hsz]; simp [invL]
                first
                | refine AW.app (r := ints (X ++ sub y z)) (q := (X ++ sub y z).length) (by simp only [evA, upd, putA, ofConst, ofConst.ofCell, Nat.reduceEqDiff, ↓reduceIte, List.map_cons, List.map_nil, List.toList_toArray]; first | done | rfl) (by first | exact Or.inl rfl | exact Or.inr ⟨rfl, HP.tok_even _⟩ | exact Or.inr (Or.inl ⟨rfl, HP.tok_even _⟩) | exact Or.inr (Or.inr ⟨rfl, HP.tok_odd _⟩) | exact Or.inr (Or.inl rfl) | exact Or.inr (Or.inr (Or.inl rfl)) | exact Or.inr (Or.inr (Or.inr (Or.inl ⟨rfl, HP.tok_odd _⟩))) | exact Or.inr (Or.inr (Or.inr (Or.inr ⟨rfl, HP.tok_even _⟩))) | exact Or.inr (Or.inr (Or.inr (Or.inr ⟨rfl, by assumption⟩))) | exact Or.inr ⟨rfl, by assumption⟩ | exact Or.inr (Or.inl ⟨rfl, by assumption⟩) | exact Or.inr (Or.inr ⟨rfl, by assumption⟩) | exact Or.inr (Or.inr (Or.inr (Or.inl ⟨rfl, by assumption⟩))) | exact Or.inr (Or.inr (Or.inl ⟨rfl, HP.tok_odd _⟩)) | exact Or.inr (Or.inr (Or.inl ⟨rfl, by assumption⟩)) | exact Or.inr (Or.inr (Or.inr rfl)) | exact Or.inr (Or.inr rfl) | exact Or.inr rfl) rfl HBx (by first | exact ⟨rfl, rfl, .inr rfl⟩ | exact ⟨rfl, rfl, .inl rfl⟩ | (simp only [evA, upd, putA, Nat.reduceEqDiff, ↓reduceIte]; first | exact ⟨rfl, rfl, .inr rfl⟩ | exact ⟨rfl, rfl, .inl rfl⟩)) (by simp) (by first | exact (by first | exact ints_ones _ | (intro p hp; simp only [List.mem_singleton] at hp; subst hp; rfl) | (intro p hp; simp at hp; subst hp; rfl)) | (intro p hp; simp only [List.mem_cons, List.not_mem_nil, or_false] at hp; rcases hp with rfl | rfl | rfl <;> rfl)) (by (try simp [invL]); omega) (by rw [hsz, List.drop_zero, Nat.mul_one, List.take_of_length_le (by simp)]; exact ints_append X [-absI y - 1, absI y, absI y + 1]) (by rw [List.length_append, hn3] <;> simp [invL]) ?_
                | skip
                repeat (first | refine S0 ?_ | refine S1 ?_ | refine S2 ?_ | refine S4 ?_ | refine S5 ?_ | refine S6 ?_ | refine S7 ?_ | refine S8 ?_ | refine S10 ?_ | refine S11 ?_ | refine S13 ?_ | refine S15 ?_ | refine S16 ?_ | refine S19 ?_ | refine S20 ?_ | refine S21 ?_ | refine S22 ?_ | refine S23 ?_ | refine S25 ?_ | refine S26 ?_ | refine S28 ?_ | refine S30 ?_ | refine S33 ?_ | refine S35 ?_ | refine S37 ?_ | refine S38 ?_ | refine S40 ?_ | refine S41 ?_ | refine S49 ?_ | refine S63 ?_)
                refine ⟨(j + 1, hp.tok false), ⟨by simp only; omega, HP.tok_even _⟩, ?_, ?_, by simp only; omega⟩
                · first
                  | (simp only [hfl]; exact SLx)
                  | (simp only [hfl, hsz]; exact SLx)
                · first
                  | (simp only [hfl]; exact HBx)
                  | (simp only [hfl, hsz]; exact HBx)
            · have hg : gen y (absI z) = [absI z] := by
                unfold gen; rw [if_neg hy0, if_neg (by omega), if_neg (by omega)]
              rw [hg] at hsz
              by_cases hz0 : z < 0
              · rw [if_pos hz0] at hsz
                have ko : SC Try.prog 23 [plt [absI z]] (pli (invL [absI z])) := SC.weak (opposite_s (by simp) (by intro q hq; simp at hq; (try (rcases (show q = 0 ∨ q = 1 ∨ q = 2 by omega) with rfl | rfl | rfl)) <;> (try subst hq) <;> simp <;> omega)) rfl
                repeat (first | refine S0 ?_ | refine S1 ?_ | refine S2 ?_ | refine S4 ?_ | refine S5 ?_ | refine S6 ?_ | refine S7 ?_ | refine S8 ?_ | refine S10 ?_ | refine S11 ?_ | refine S13 ?_ | refine S15 ?_ | refine S16 ?_ | refine S19 ?_ | refine S20 ?_ | refine S21 ?_ | refine S22 ?_ | refine S23 ?_ | refine S25 ?_ | refine S26 ?_ | refine S28 ?_ | refine S30 ?_ | refine S33 ?_ | refine S35 ?_ | refine S37 ?_ | refine S38 ?_ | refine S40 ?_ | refine S41 ?_ | refine S49 ?_ | refine S63 ?_)
                rw [← hzd]
                refine Scall (args := [pint z]) kz ?_
                repeat (first | refine S0 ?_ | refine S1 ?_ | refine S2 ?_ | refine S4 ?_ | refine S5 ?_ | refine S6 ?_ | refine S7 ?_ | refine S8 ?_ | refine S10 ?_ | refine S11 ?_ | refine S13 ?_ | refine S15 ?_ | refine S16 ?_ | refine S19 ?_ | refine S20 ?_ | refine S21 ?_ | refine S22 ?_ | refine S23 ?_ | refine S25 ?_ | refine S26 ?_ | refine S28 ?_ | refine S30 ?_ | refine S33 ?_ | refine S35 ?_ | refine S37 ?_ | refine S38 ?_ | refine S40 ?_ | refine S41 ?_ | refine S49 ?_ | refine S63 ?_)
                refine Scall (args := [pint z]) kz ?_
                repeat (first | refine S0 ?_ | refine S1 ?_ | refine S2 ?_ | refine S4 ?_ | refine S5 ?_ | refine S6 ?_ | refine S7 ?_ | refine S8 ?_ | refine S10 ?_ | refine S11 ?_ | refine S13 ?_ | refine S15 ?_ | refine S16 ?_ | refine S19 ?_ | refine S20 ?_ | refine S21 ?_ | refine S22 ?_ | refine S23 ?_ | refine S25 ?_ | refine S26 ?_ | refine S28 ?_ | refine S30 ?_ | refine S33 ?_ | refine S35 ?_ | refine S37 ?_ | refine S38 ?_ | refine S40 ?_ | refine S41 ?_ | refine S49 ?_ | refine S63 ?_)
                refine Scall (args := [pint z]) kz ?_
                repeat (first | refine S0 ?_ | refine S1 ?_ | refine S2 ?_ | refine S4 ?_ | refine S5 ?_ | refine S6 ?_ | refine S7 ?_ | refine S8 ?_ | refine S10 ?_ | refine S11 ?_ | refine S13 ?_ | refine S15 ?_ | refine S16 ?_ | refine S19 ?_ | refine S20 ?_ | refine S21 ?_ | refine S22 ?_ | refine S23 ?_ | refine S25 ?_ | refine S26 ?_ | refine S28 ?_ | refine S30 ?_ | refine S33 ?_ | refine S35 ?_ | refine S37 ?_ | refine S38 ?_ | refine S40 ?_ | refine S41 ?_ | refine S49 ?_ | refine S63 ?_)
                refine Scall (args := [plt [absI z]]) ko ?_
                repeat (first | refine S0 ?_ | refine S1 ?_ | refine S2 ?_ | refine S4 ?_ | refine S5 ?_ | refine S6 ?_ | refine S7 ?_ | refine S8 ?_ | refine S10 ?_ | refine S11 ?_ | refine S13 ?_ | refine S15 ?_ | refine S16 ?_ | refine S19 ?_ | refine S20 ?_ | refine S21 ?_ | refine S22 ?_ | refine S23 ?_ | refine S25 ?_ | refine S26 ?_ | refine S28 ?_ | refine S30 ?_ | refine S33 ?_ | refine S35 ?_ | refine S37 ?_ | refine S38 ?_ | refine S40 ?_ | refine S41 ?_ | refine S49 ?_ | refine S63 ?_)
                have hn3 : (sub y z).length = 1 := by rw [hsz]; simp [invL]
                first
                | refine AW.app (r := ints (X ++ sub y z)) (q := (X ++ sub y z).length) (by simp only [evA, upd, putA, ofConst, ofConst.ofCell, Nat.reduceEqDiff, ↓reduceIte, List.map_cons, List.map_nil, List.toList_toArray]; first | done | rfl) (by first | exact Or.inl rfl | exact Or.inr ⟨rfl, HP.tok_even _⟩ | exact Or.inr (Or.inl ⟨rfl, HP.tok_even _⟩) | exact Or.inr (Or.inr ⟨rfl, HP.tok_odd _⟩) | exact Or.inr (Or.inl rfl) | exact Or.inr (Or.inr (Or.inl rfl)) | exact Or.inr (Or.inr (Or.inr (Or.inl ⟨rfl, HP.tok_odd _⟩))) | exact Or.inr (Or.inr (Or.inr (Or.inr ⟨rfl, HP.tok_even _⟩))) | exact Or.inr (Or.inr (Or.inr (Or.inr ⟨rfl, by assumption⟩))) | exact Or.inr ⟨rfl, by assumption⟩ | exact Or.inr (Or.inl ⟨rfl, by assumption⟩) | exact Or.inr (Or.inr ⟨rfl, by assumption⟩) | exact Or.inr (Or.inr (Or.inr (Or.inl ⟨rfl, by assumption⟩))) | exact Or.inr (Or.inr (Or.inl ⟨rfl, HP.tok_odd _⟩)) | exact Or.inr (Or.inr (Or.inl ⟨rfl, by assumption⟩)) | exact Or.inr (Or.inr (Or.inr rfl)) | exact Or.inr (Or.inr rfl) | exact Or.inr rfl) rfl HBx (by first | exact ⟨rfl, rfl, .inr rfl⟩ | exact ⟨rfl, rfl, .inl rfl⟩ | (simp only [evA, upd, putA, Nat.reduceEqDiff, ↓reduceIte]; first | exact ⟨rfl, rfl, .inr rfl⟩ | exact ⟨rfl, rfl, .inl rfl⟩)) (by simp) (by first | exact (by first | exact ints_ones _ | (intro p hp; simp only [List.mem_singleton] at hp; subst hp; rfl) | (intro p hp; simp at hp; subst hp; rfl)) | (intro p hp; simp only [List.mem_cons, List.not_mem_nil, or_false] at hp; rcases hp with rfl | rfl | rfl <;> rfl)) (by (try simp [invL]); omega) (by rw [hsz, List.drop_zero, Nat.mul_one, List.take_of_length_le (by simp)]; exact ints_append X (invL [absI z])) (by rw [List.length_append, hn3] <;> simp [invL]) ?_
                | skip
                repeat (first | refine S0 ?_ | refine S1 ?_ | refine S2 ?_ | refine S4 ?_ | refine S5 ?_ | refine S6 ?_ | refine S7 ?_ | refine S8 ?_ | refine S10 ?_ | refine S11 ?_ | refine S13 ?_ | refine S15 ?_ | refine S16 ?_ | refine S19 ?_ | refine S20 ?_ | refine S21 ?_ | refine S22 ?_ | refine S23 ?_ | refine S25 ?_ | refine S26 ?_ | refine S28 ?_ | refine S30 ?_ | refine S33 ?_ | refine S35 ?_ | refine S37 ?_ | refine S38 ?_ | refine S40 ?_ | refine S41 ?_ | refine S49 ?_ | refine S63 ?_)
                refine ⟨(j + 1, hp.tok false), ⟨by simp only; omega, HP.tok_even _⟩, ?_, ?_, by simp only; omega⟩
                · first
                  | (simp only [hfl]; exact SLx)
                  | (simp only [hfl, hsz]; exact SLx)
                · first
                  | (simp only [hfl]; exact HBx)
                  | (simp only [hfl, hsz]; exact HBx)
              · rw [if_neg hz0] at hsz
                repeat (first | refine S0 ?_ | refine S1 ?_ | refine S2 ?_ | refine S4 ?_ | refine S5 ?_ | refine S6 ?_ | refine S7 ?_ | refine S8 ?_ | refine S10 ?_ | refine S11 ?_ | refine S13 ?_ | refine S15 ?_ | refine S16 ?_ | refine S19 ?_ | refine S20 ?_ | refine S21 ?_ | refine S22 ?_ | refine S23 ?_ | refine S25 ?_ | refine S26 ?_ | refine S28 ?_ | refine S30 ?_ | refine S33 ?_ | refine S35 ?_ | refine S37 ?_ | refine S38 ?_ | refine S40 ?_ | refine S41 ?_ | refine S49 ?_ | refine S63 ?_)
                rw [← hzd]
                refine Scall (args := [pint z]) kz ?_
                repeat (first | refine S0 ?_ | refine S1 ?_ | refine S2 ?_ | refine S4 ?_ | refine S5 ?_ | refine S6 ?_ | refine S7 ?_ | refine S8 ?_ | refine S10 ?_ | refine S11 ?_ | refine S13 ?_ | refine S15 ?_ | refine S16 ?_ | refine S19 ?_ | refine S20 ?_ | refine S21 ?_ | refine S22 ?_ | refine S23 ?_ | refine S25 ?_ | refine S26 ?_ | refine S28 ?_ | refine S30 ?_ | refine S33 ?_ | refine S35 ?_ | refine S37 ?_ | refine S38 ?_ | refine S40 ?_ | refine S41 ?_ | refine S49 ?_ | refine S63 ?_)
                refine Scall (args := [pint z]) kz ?_
                repeat (first | refine S0 ?_ | refine S1 ?_ | refine S2 ?_ | refine S4 ?_ | refine S5 ?_ | refine S6 ?_ | refine S7 ?_ | refine S8 ?_ | refine S10 ?_ | refine S11 ?_ | refine S13 ?_ | refine S15 ?_ | refine S16 ?_ | refine S19 ?_ | refine S20 ?_ | refine S21 ?_ | refine S22 ?_ | refine S23 ?_ | refine S25 ?_ | refine S26 ?_ | refine S28 ?_ | refine S30 ?_ | refine S33 ?_ | refine S35 ?_ | refine S37 ?_ | refine S38 ?_ | refine S40 ?_ | refine S41 ?_ | refine S49 ?_ | refine S63 ?_)
                refine Scall (args := [pint z]) kz ?_
                repeat (first | refine S0 ?_ | refine S1 ?_ | refine S2 ?_ | refine S4 ?_ | refine S5 ?_ | refine S6 ?_ | refine S7 ?_ | refine S8 ?_ | refine S10 ?_ | refine S11 ?_ | refine S13 ?_ | refine S15 ?_ | refine S16 ?_ | refine S19 ?_ | refine S20 ?_ | refine S21 ?_ | refine S22 ?_ | refine S23 ?_ | refine S25 ?_ | refine S26 ?_ | refine S28 ?_ | refine S30 ?_ | refine S33 ?_ | refine S35 ?_ | refine S37 ?_ | refine S38 ?_ | refine S40 ?_ | refine S41 ?_ | refine S49 ?_ | refine S63 ?_)
                have hn3 : (sub y z).length = 1 := by rw [hsz]; simp [invL]
                first
                | refine AW.app (r := ints (X ++ sub y z)) (q := (X ++ sub y z).length) (by simp only [evA, upd, putA, ofConst, ofConst.ofCell, Nat.reduceEqDiff, ↓reduceIte, List.map_cons, List.map_nil, List.toList_toArray]; first | done | rfl) (by first | exact Or.inl rfl | exact Or.inr ⟨rfl, HP.tok_even _⟩ | exact Or.inr (Or.inl ⟨rfl, HP.tok_even _⟩) | exact Or.inr (Or.inr ⟨rfl, HP.tok_odd _⟩) | exact Or.inr (Or.inl rfl) | exact Or.inr (Or.inr (Or.inl rfl)) | exact Or.inr (Or.inr (Or.inr (Or.inl ⟨rfl, HP.tok_odd _⟩))) | exact Or.inr (Or.inr (Or.inr (Or.inr ⟨rfl, HP.tok_even _⟩))) | exact Or.inr (Or.inr (Or.inr (Or.inr ⟨rfl, by assumption⟩))) | exact Or.inr ⟨rfl, by assumption⟩ | exact Or.inr (Or.inl ⟨rfl, by assumption⟩) | exact Or.inr (Or.inr ⟨rfl, by assumption⟩) | exact Or.inr (Or.inr (Or.inr (Or.inl ⟨rfl, by assumption⟩))) | exact Or.inr (Or.inr (Or.inl ⟨rfl, HP.tok_odd _⟩)) | exact Or.inr (Or.inr (Or.inl ⟨rfl, by assumption⟩)) | exact Or.inr (Or.inr (Or.inr rfl)) | exact Or.inr (Or.inr rfl) | exact Or.inr rfl) rfl HBx (by first | exact ⟨rfl, rfl, .inr rfl⟩ | exact ⟨rfl, rfl, .inl rfl⟩ | (simp only [evA, upd, putA, Nat.reduceEqDiff, ↓reduceIte]; first | exact ⟨rfl, rfl, .inr rfl⟩ | exact ⟨rfl, rfl, .inl rfl⟩)) (by simp) (by first | exact (by first | exact ints_ones _ | (intro p hp; simp only [List.mem_singleton] at hp; subst hp; rfl) | (intro p hp; simp at hp; subst hp; rfl)) | (intro p hp; simp only [List.mem_cons, List.not_mem_nil, or_false] at hp; rcases hp with rfl | rfl | rfl <;> rfl)) (by (try simp [invL]); omega) (by rw [hsz, List.drop_zero, Nat.mul_one, List.take_of_length_le (by simp)]; exact ints_append X [absI z]) (by rw [List.length_append, hn3] <;> simp [invL]) ?_
                | skip
                repeat (first | refine S0 ?_ | refine S1 ?_ | refine S2 ?_ | refine S4 ?_ | refine S5 ?_ | refine S6 ?_ | refine S7 ?_ | refine S8 ?_ | refine S10 ?_ | refine S11 ?_ | refine S13 ?_ | refine S15 ?_ | refine S16 ?_ | refine S19 ?_ | refine S20 ?_ | refine S21 ?_ | refine S22 ?_ | refine S23 ?_ | refine S25 ?_ | refine S26 ?_ | refine S28 ?_ | refine S30 ?_ | refine S33 ?_ | refine S35 ?_ | refine S37 ?_ | refine S38 ?_ | refine S40 ?_ | refine S41 ?_ | refine S49 ?_ | refine S63 ?_)
                refine ⟨(j + 1, hp.tok false), ⟨by simp only; omega, HP.tok_even _⟩, ?_, ?_, by simp only; omega⟩
                · first
                  | (simp only [hfl]; exact SLx)
                  | (simp only [hfl, hsz]; exact SLx)
                · first
                  | (simp only [hfl]; exact HBx)
                  | (simp only [hfl, hsz]; exact HBx)
        --end
      · obtain rfl : j = u.length := by omega
        rw [List.take_length] at hB ⊢
        repeat (first | refine S0 ?_ | refine S1 ?_ | refine S2 ?_ | refine S4 ?_ | refine S5 ?_ | refine S6 ?_ | refine S7 ?_ | refine S8 ?_ | refine S10 ?_ | refine S11 ?_ | refine S13 ?_ | refine S15 ?_ | refine S16 ?_ | refine S19 ?_ | refine S20 ?_ | refine S21 ?_ | refine S22 ?_ | refine S23 ?_ | refine S25 ?_ | refine S26 ?_ | refine S28 ?_ | refine S30 ?_ | refine S33 ?_ | refine S35 ?_ | refine S37 ?_ | refine S38 ?_ | refine S40 ?_ | refine S41 ?_ | refine S49 ?_ | refine S63 ?_)
        exact ⟨b, trivial, SLx, hB⟩
    · rintro b t hp _ hB
      have hfl3 := subs_len y u
      have hin := inr_flat hy hu
      have ksh := short_s (w := u.flatMap (sub y)) (by omega) (fun i hi => by
        have := hin ((u.flatMap (sub y)).getD i 0) (by rw [getD_lt 0 hi]; exact List.getElem_mem hi)
        omega)
      first | simp only [updS] | simp only [updL, Nat.reduceAdd]
      refine CW.freezeI (xs := u.flatMap (sub y)) 9 EVx hB ?_
      repeat (first | refine S0 ?_ | refine S1 ?_ | refine S2 ?_ | refine S4 ?_ | refine S5 ?_ | refine S6 ?_ | refine S7 ?_ | refine S8 ?_ | refine S10 ?_ | refine S11 ?_ | refine S13 ?_ | refine S15 ?_ | refine S16 ?_ | refine S19 ?_ | refine S20 ?_ | refine S21 ?_ | refine S22 ?_ | refine S23 ?_ | refine S25 ?_ | refine S26 ?_ | refine S28 ?_ | refine S30 ?_ | refine S33 ?_ | refine S35 ?_ | refine S37 ?_ | refine S38 ?_ | refine S40 ?_ | refine S41 ?_ | refine S49 ?_ | refine S63 ?_)
      refine Scall (args := [pli (u.flatMap (sub y))]) ksh ?_
      repeat (first | refine S0 ?_ | refine S1 ?_ | refine S2 ?_ | refine S4 ?_ | refine S5 ?_ | refine S6 ?_ | refine S7 ?_ | refine S8 ?_ | refine S10 ?_ | refine S11 ?_ | refine S13 ?_ | refine S15 ?_ | refine S16 ?_ | refine S19 ?_ | refine S20 ?_ | refine S21 ?_ | refine S22 ?_ | refine S23 ?_ | refine S25 ?_ | refine S26 ?_ | refine S28 ?_ | refine S30 ?_ | refine S33 ?_ | refine S35 ?_ | refine S37 ?_ | refine S38 ?_ | refine S40 ?_ | refine S41 ?_ | refine S49 ?_ | refine S63 ?_)
      refine ⟨k + 1, by omega, ?_, trivial, by omega⟩
      rw [hst]
      exact SLx
  · obtain rfl : k = w.length := by omega
    rw [List.take_length]
    repeat (first | refine S0 ?_ | refine S1 ?_ | refine S2 ?_ | refine S4 ?_ | refine S5 ?_ | refine S6 ?_ | refine S7 ?_ | refine S8 ?_ | refine S10 ?_ | refine S11 ?_ | refine S13 ?_ | refine S15 ?_ | refine S16 ?_ | refine S19 ?_ | refine S20 ?_ | refine S21 ?_ | refine S22 ?_ | refine S23 ?_ | refine S25 ?_ | refine S26 ?_ | refine S28 ?_ | refine S30 ?_ | refine S33 ?_ | refine S35 ?_ | refine S37 ?_ | refine S38 ?_ | refine S40 ?_ | refine S41 ?_ | refine S49 ?_ | refine S63 ?_)
    exact ⟨.inr rfl, .cl (pli_cl _)⟩
end Go.Proofs.Ytgjfpmjllpgadaa
