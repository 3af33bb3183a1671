/- permgroup: Check, Order, Contains; the reference's GroupFault. No condition of its own. -/
import Derived.Test.YthacglggkgmbhaaGGroupOrbitsBK
set_option linter.unusedVariables false
set_option linter.unusedSimpArgs false
namespace Go.Proofs.Ythacglggkgmbhaa
open Go.RowKit

def gfAt (n : Int) (g : List Int) : Int := if permFault g ≠ 0 then permFault g else if (g.length : Int) ≠ n then 3 else 0
def grF (n : Int) (l : List (List Int)) : Int := if n < 0 ∨ 9 < n then 1 else if 6 < l.length then 2 else firstNZ (fun k => gfAt n (l.getD k [])) l.length
theorem pf_perm {g : List Int} (h : permFault g = 0) : g.length ≤ 9 ∧ ∃ F, Pe g.length F ∧ g = tabN g.length F := by
  unfold permFault at h
  by_cases h9 : 9 < g.length
  · rw [if_pos h9] at h; cases h
  rw [if_neg h9] at h
  have h := firstNZ_zero_iff.1 h
  have hr : InRange g := fun i hi => by
    have := h i hi
    unfold pfAt at this
    split at this
    · cases this
    · rename_i c; omega
  have hd : g.Nodup := by
    unfold List.Nodup
    rw [List.pairwise_iff_getElem]
    intro i j hi hj hij e
    have := h j hj
    unfold pfAt at this
    split at this
    · cases this
    · rw [if_pos] at this
      · cases this
      · rw [show g.getD j 0 = g[j] by simp [List.getD, hj], ← e]
        exact List.mem_take_iff_getElem.2 ⟨i, by omega, rfl⟩
  have hp : Pm g := ⟨hr, hd⟩
  refine ⟨by omega, fun i => if i < g.length then fn g i else i, ⟨fun i hi => by simp only [if_pos hi]; exact hp.lt i hi, fun i j hi hj e => ?_, fun i hi => if_neg (by omega)⟩, ?_⟩
  · simp only [if_pos hi, if_pos hj] at e
    exact hp.inj i j hi hj e
  · rw [hp.tabN]
    simp only [tab_len]
    exact tab_ext fun i hi => by rw [if_pos hi, fn_tab hi]
theorem grF_ok {n : Int} {l : List (List Int)} (h : grF n l = 0) : ∃ (N : Nat) (gs : List Fn), n = N ∧ N ≤ 9 ∧ gs.length ≤ 6 ∧ (∀ g ∈ gs, Pe N g) ∧ l = gs.map (tabN N) := by
  unfold grF at h
  by_cases h1 : n < 0 ∨ 9 < n
  · rw [if_pos h1] at h; cases h
  rw [if_neg h1] at h
  by_cases h2 : 6 < l.length
  · rw [if_pos h2] at h; cases h
  rw [if_neg h2] at h
  obtain ⟨N, rfl⟩ : ∃ N : Nat, n = (N : Int) := ⟨n.toNat, by omega⟩
  have h := firstNZ_zero_iff.1 h
  have each : ∀ g ∈ l, ∃ F, Pe N F ∧ g = tabN N F := fun g hg => by
    obtain ⟨k, hk, e⟩ := List.getElem_of_mem hg
    have := h k hk
    rw [show l.getD k [] = g by simp [List.getD, hk, e]] at this
    unfold gfAt at this
    by_cases c : permFault g = 0
    · rw [if_neg (fun h => h c)] at this
      by_cases c2 : (g.length : Int) = N
      · obtain ⟨_, F, f1, f2⟩ := pf_perm c
        have : g.length = N := by omega
        rw [this] at f1 f2
        exact ⟨F, f1, f2⟩
      · rw [if_pos c2] at this; cases this
    · rw [if_pos c] at this; exact absurd this c
  have : ∀ l : List (List Int), (∀ g ∈ l, ∃ F, Pe N F ∧ g = tabN N F) → ∃ gs : List Fn, (∀ g ∈ gs, Pe N g) ∧ l = gs.map (tabN N) := by
    intro l
    induction l with
    | nil => intro _; exact ⟨[], fun _ h => (by cases h), rfl⟩
    | cons g l ih =>
      intro hh
      obtain ⟨F, f1, f2⟩ := hh g (by simp)
      obtain ⟨gs, g1, g2⟩ := ih (fun x hx => hh x (by simp [hx]))
      refine ⟨F :: gs, fun x hx => ?_, by rw [List.map_cons, ← f2, ← g2]⟩
      rcases List.mem_cons.1 hx with rfl | hx
      · exact f1
      · exact g1 x hx
  obtain ⟨gs, g1, g2⟩ := this l each
  refine ⟨N, gs, rfl, by omega, ?_, g1, g2⟩
  rw [g2, List.length_map] at h2
  omega
theorem gL_map (n : Nat) (gs : List Fn) : (gs.map (tabN n)).map pli = gL n gs := by simp [gL, Function.comp_def]
set_option maxHeartbeats 8000000 in
set_option maxRecDepth 100000 in
theorem gcheck_s (n : Int) {c : Bool} {l : List (List Int)} (hb : ∀ r ∈ l, ∀ x ∈ r, in64 x) (hll : l.length ≤ 9223372036854775807) : SC Try.prog 13 [pint n, .lst c 1 l.length (l.map pli)] (pint (grF n l)) := by
  refine SC.go {} tok mixed Try.func13 rfl rfl Try.ntmps13 rfl rfl (by kernel_rfl) ?_
  first | simp only [updS] | simp only [updL, Nat.reduceAdd]
  unfold grF
  by_cases h1 : n < 0
  · rw [if_pos (.inl h1)]
    repeat (first | refine S0 ?_ | refine S1 ?_ | refine S2 ?_ | refine S4 ?_ | refine S5 ?_ | refine S6 ?_ | refine S7 ?_ | refine S8 ?_ | refine S9 ?_ | refine S10 ?_ | refine S11 ?_ | refine S12 ?_ | refine S13 ?_ | refine S15 ?_ | refine S16 ?_ | refine S19 ?_ | refine S20 ?_ | refine S21 ?_ | refine S22 ?_ | refine S23 ?_ | refine S24 ?_ | refine S25 ?_ | refine S26 ?_ | refine S29 ?_ | refine S30 ?_ | refine S37 ?_ | refine S38 ?_ | refine S40 ?_ | refine S41 ?_ | refine S45 ?_ | refine S46 ?_ | refine S51 ?_ | refine S67 ?_)
    exact ⟨.inr rfl, .cl rfl⟩
  by_cases h2 : 9 < n
  · rw [if_pos (.inr h2)]
    repeat (first | refine S0 ?_ | refine S1 ?_ | refine S2 ?_ | refine S4 ?_ | refine S5 ?_ | refine S6 ?_ | refine S7 ?_ | refine S8 ?_ | refine S9 ?_ | refine S10 ?_ | refine S11 ?_ | refine S12 ?_ | refine S13 ?_ | refine S15 ?_ | refine S16 ?_ | refine S19 ?_ | refine S20 ?_ | refine S21 ?_ | refine S22 ?_ | refine S23 ?_ | refine S24 ?_ | refine S25 ?_ | refine S26 ?_ | refine S29 ?_ | refine S30 ?_ | refine S37 ?_ | refine S38 ?_ | refine S40 ?_ | refine S41 ?_ | refine S45 ?_ | refine S46 ?_ | refine S51 ?_ | refine S67 ?_)
    exact ⟨.inr rfl, .cl rfl⟩
  rw [if_neg (by omega)]
  by_cases hl : 6 < l.length
  · rw [if_pos hl]
    repeat (first | refine S0 ?_ | refine S1 ?_ | refine S2 ?_ | refine S4 ?_ | refine S5 ?_ | refine S6 ?_ | refine S7 ?_ | refine S8 ?_ | refine S9 ?_ | refine S10 ?_ | refine S11 ?_ | refine S12 ?_ | refine S13 ?_ | refine S15 ?_ | refine S16 ?_ | refine S19 ?_ | refine S20 ?_ | refine S21 ?_ | refine S22 ?_ | refine S23 ?_ | refine S24 ?_ | refine S25 ?_ | refine S26 ?_ | refine S29 ?_ | refine S30 ?_ | refine S37 ?_ | refine S38 ?_ | refine S40 ?_ | refine S41 ?_ | refine S45 ?_ | refine S46 ?_ | refine S51 ?_ | refine S67 ?_)
    exact ⟨.inr rfl, .cl rfl⟩
  rw [if_neg hl]
  repeat (first | refine S0 ?_ | refine S1 ?_ | refine S2 ?_ | refine S4 ?_ | refine S5 ?_ | refine S6 ?_ | refine S7 ?_ | refine S8 ?_ | refine S9 ?_ | refine S10 ?_ | refine S11 ?_ | refine S12 ?_ | refine S13 ?_ | refine S15 ?_ | refine S16 ?_ | refine S19 ?_ | refine S20 ?_ | refine S21 ?_ | refine S22 ?_ | refine S23 ?_ | refine S24 ?_ | refine S25 ?_ | refine S26 ?_ | refine S29 ?_ | refine S30 ?_ | refine S37 ?_ | refine S38 ?_ | refine S40 ?_ | refine S41 ?_ | refine S45 ?_ | refine S46 ?_ | refine S51 ?_ | refine S67 ?_)
  refine CW.loopS (fun i : Nat => i ≤ l.length ∧ ∀ j, j < i → gfAt n (l.getD j []) = 0) (fun i => [(0, pint n), (17, .lst c 1 l.length (l.map pli)), (18, pint l.length), (19, pint i)]) (fun _ _ => True) (fun i => l.length - i) 0 ⟨⟨Nat.zero_le _, fun j hj => by omega⟩, SLx, trivial⟩ ?_
  rintro i t hp ⟨hi, hg⟩ _
  first | simp only [updS] | simp only [updL, Nat.reduceAdd]
  by_cases hi2 : i < l.length
  · have hmem : l.getD i [] ∈ l := by rw [show l.getD i [] = l[i] by simp [List.getD, hi2]]; exact List.getElem_mem hi2
    have kc := check_s (hb _ hmem)
    repeat (first | refine S0 ?_ | refine S1 ?_ | refine S2 ?_ | refine S4 ?_ | refine S5 ?_ | refine S6 ?_ | refine S7 ?_ | refine S8 ?_ | refine S9 ?_ | refine S10 ?_ | refine S11 ?_ | refine S12 ?_ | refine S13 ?_ | refine S15 ?_ | refine S16 ?_ | refine S19 ?_ | refine S20 ?_ | refine S21 ?_ | refine S22 ?_ | refine S23 ?_ | refine S24 ?_ | refine S25 ?_ | refine S26 ?_ | refine S29 ?_ | refine S30 ?_ | refine S37 ?_ | refine S38 ?_ | refine S40 ?_ | refine S41 ?_ | refine S45 ?_ | refine S46 ?_ | refine S51 ?_ | refine S67 ?_)
    refine Scall (args := [pli (l.getD i [])]) kc ?_
    by_cases hf : permFault (l.getD i []) = 0
    · by_cases hn : ((l.getD i []).length : Int) = n
      · have e : gfAt n (l.getD i []) = 0 := by unfold gfAt; rw [if_neg (fun h => h hf), if_neg (fun h => h hn)]
        repeat (first | refine S0 ?_ | refine S1 ?_ | refine S2 ?_ | refine S4 ?_ | refine S5 ?_ | refine S6 ?_ | refine S7 ?_ | refine S8 ?_ | refine S9 ?_ | refine S10 ?_ | refine S11 ?_ | refine S12 ?_ | refine S13 ?_ | refine S15 ?_ | refine S16 ?_ | refine S19 ?_ | refine S20 ?_ | refine S21 ?_ | refine S22 ?_ | refine S23 ?_ | refine S24 ?_ | refine S25 ?_ | refine S26 ?_ | refine S29 ?_ | refine S30 ?_ | refine S37 ?_ | refine S38 ?_ | refine S40 ?_ | refine S41 ?_ | refine S45 ?_ | refine S46 ?_ | refine S51 ?_ | refine S67 ?_)
        exact ⟨i + 1, ⟨hi2, fun j hj => by
          by_cases c : j = i
          · rw [c]; exact e
          · exact hg j (by omega)⟩, SLx, trivial, by omega⟩
      · have e : gfAt n (l.getD i []) = 3 := by unfold gfAt; rw [if_neg (fun h => h hf), if_pos hn]
        rw [firstNZ_at hi2 hg (by rw [e]; decide), e]
        repeat (first | refine S0 ?_ | refine S1 ?_ | refine S2 ?_ | refine S4 ?_ | refine S5 ?_ | refine S6 ?_ | refine S7 ?_ | refine S8 ?_ | refine S9 ?_ | refine S10 ?_ | refine S11 ?_ | refine S12 ?_ | refine S13 ?_ | refine S15 ?_ | refine S16 ?_ | refine S19 ?_ | refine S20 ?_ | refine S21 ?_ | refine S22 ?_ | refine S23 ?_ | refine S24 ?_ | refine S25 ?_ | refine S26 ?_ | refine S29 ?_ | refine S30 ?_ | refine S37 ?_ | refine S38 ?_ | refine S40 ?_ | refine S41 ?_ | refine S45 ?_ | refine S46 ?_ | refine S51 ?_ | refine S67 ?_)
        exact ⟨.inr rfl, .cl rfl⟩
    · have e : gfAt n (l.getD i []) = permFault (l.getD i []) := by unfold gfAt; rw [if_pos hf]
      rw [firstNZ_at hi2 hg (by rw [e]; exact hf), e]
      repeat (first | refine S0 ?_ | refine S1 ?_ | refine S2 ?_ | refine S4 ?_ | refine S5 ?_ | refine S6 ?_ | refine S7 ?_ | refine S8 ?_ | refine S9 ?_ | refine S10 ?_ | refine S11 ?_ | refine S12 ?_ | refine S13 ?_ | refine S15 ?_ | refine S16 ?_ | refine S19 ?_ | refine S20 ?_ | refine S21 ?_ | refine S22 ?_ | refine S23 ?_ | refine S24 ?_ | refine S25 ?_ | refine S26 ?_ | refine S29 ?_ | refine S30 ?_ | refine S37 ?_ | refine S38 ?_ | refine S40 ?_ | refine S41 ?_ | refine S45 ?_ | refine S46 ?_ | refine S51 ?_ | refine S67 ?_)
      exact ⟨.inr rfl, .cl rfl⟩
  · obtain rfl : i = l.length := by omega
    rw [firstNZ_zero hg]
    repeat (first | refine S0 ?_ | refine S1 ?_ | refine S2 ?_ | refine S4 ?_ | refine S5 ?_ | refine S6 ?_ | refine S7 ?_ | refine S8 ?_ | refine S9 ?_ | refine S10 ?_ | refine S11 ?_ | refine S12 ?_ | refine S13 ?_ | refine S15 ?_ | refine S16 ?_ | refine S19 ?_ | refine S20 ?_ | refine S21 ?_ | refine S22 ?_ | refine S23 ?_ | refine S24 ?_ | refine S25 ?_ | refine S26 ?_ | refine S29 ?_ | refine S30 ?_ | refine S37 ?_ | refine S38 ?_ | refine S40 ?_ | refine S41 ?_ | refine S45 ?_ | refine S46 ?_ | refine S51 ?_ | refine S67 ?_)
    exact ⟨.inr rfl, .cl rfl⟩
set_option maxHeartbeats 8000000 in
set_option maxRecDepth 100000 in
theorem gfault_s (n : Int) {c : Bool} {l : List (List Int)} (hb : ∀ r ∈ l, ∀ x ∈ r, in64 x) (hll : l.length ≤ 9223372036854775807) : SC Try.prog 12 [pint n, .lst c 1 l.length (l.map pli)] (pint (grF n l)) := by
  refine SC.go {} tok mixed Try.func12 rfl rfl Try.ntmps12 rfl rfl (by kernel_rfl) ?_
  first | simp only [updS] | simp only [updL, Nat.reduceAdd]
  unfold grF
  by_cases h1 : n < 0
  · rw [if_pos (.inl h1)]
    repeat (first | refine S0 ?_ | refine S1 ?_ | refine S2 ?_ | refine S4 ?_ | refine S5 ?_ | refine S6 ?_ | refine S7 ?_ | refine S8 ?_ | refine S9 ?_ | refine S10 ?_ | refine S11 ?_ | refine S12 ?_ | refine S13 ?_ | refine S15 ?_ | refine S16 ?_ | refine S19 ?_ | refine S20 ?_ | refine S21 ?_ | refine S22 ?_ | refine S23 ?_ | refine S24 ?_ | refine S25 ?_ | refine S26 ?_ | refine S29 ?_ | refine S30 ?_ | refine S37 ?_ | refine S38 ?_ | refine S40 ?_ | refine S41 ?_ | refine S45 ?_ | refine S46 ?_ | refine S51 ?_ | refine S67 ?_)
    exact ⟨.inr rfl, .cl rfl⟩
  by_cases h2 : 9 < n
  · rw [if_pos (.inr h2)]
    repeat (first | refine S0 ?_ | refine S1 ?_ | refine S2 ?_ | refine S4 ?_ | refine S5 ?_ | refine S6 ?_ | refine S7 ?_ | refine S8 ?_ | refine S9 ?_ | refine S10 ?_ | refine S11 ?_ | refine S12 ?_ | refine S13 ?_ | refine S15 ?_ | refine S16 ?_ | refine S19 ?_ | refine S20 ?_ | refine S21 ?_ | refine S22 ?_ | refine S23 ?_ | refine S24 ?_ | refine S25 ?_ | refine S26 ?_ | refine S29 ?_ | refine S30 ?_ | refine S37 ?_ | refine S38 ?_ | refine S40 ?_ | refine S41 ?_ | refine S45 ?_ | refine S46 ?_ | refine S51 ?_ | refine S67 ?_)
    exact ⟨.inr rfl, .cl rfl⟩
  rw [if_neg (by omega)]
  by_cases hl : 6 < l.length
  · rw [if_pos hl]
    repeat (first | refine S0 ?_ | refine S1 ?_ | refine S2 ?_ | refine S4 ?_ | refine S5 ?_ | refine S6 ?_ | refine S7 ?_ | refine S8 ?_ | refine S9 ?_ | refine S10 ?_ | refine S11 ?_ | refine S12 ?_ | refine S13 ?_ | refine S15 ?_ | refine S16 ?_ | refine S19 ?_ | refine S20 ?_ | refine S21 ?_ | refine S22 ?_ | refine S23 ?_ | refine S24 ?_ | refine S25 ?_ | refine S26 ?_ | refine S29 ?_ | refine S30 ?_ | refine S37 ?_ | refine S38 ?_ | refine S40 ?_ | refine S41 ?_ | refine S45 ?_ | refine S46 ?_ | refine S51 ?_ | refine S67 ?_)
    exact ⟨.inr rfl, .cl rfl⟩
  rw [if_neg hl]
  repeat (first | refine S0 ?_ | refine S1 ?_ | refine S2 ?_ | refine S4 ?_ | refine S5 ?_ | refine S6 ?_ | refine S7 ?_ | refine S8 ?_ | refine S9 ?_ | refine S10 ?_ | refine S11 ?_ | refine S12 ?_ | refine S13 ?_ | refine S15 ?_ | refine S16 ?_ | refine S19 ?_ | refine S20 ?_ | refine S21 ?_ | refine S22 ?_ | refine S23 ?_ | refine S24 ?_ | refine S25 ?_ | refine S26 ?_ | refine S29 ?_ | refine S30 ?_ | refine S37 ?_ | refine S38 ?_ | refine S40 ?_ | refine S41 ?_ | refine S45 ?_ | refine S46 ?_ | refine S51 ?_ | refine S67 ?_)
  refine CW.loopS (fun i : Nat => i ≤ l.length ∧ ∀ j, j < i → gfAt n (l.getD j []) = 0) (fun i => [(0, pint n), (17, .lst c 1 l.length (l.map pli)), (18, pint l.length), (19, pint i)]) (fun _ _ => True) (fun i => l.length - i) 0 ⟨⟨Nat.zero_le _, fun j hj => by omega⟩, SLx, trivial⟩ ?_
  rintro i t hp ⟨hi, hg⟩ _
  first | simp only [updS] | simp only [updL, Nat.reduceAdd]
  by_cases hi2 : i < l.length
  · have hmem : l.getD i [] ∈ l := by rw [show l.getD i [] = l[i] by simp [List.getD, hi2]]; exact List.getElem_mem hi2
    have kc := fault_s (hb _ hmem)
    repeat (first | refine S0 ?_ | refine S1 ?_ | refine S2 ?_ | refine S4 ?_ | refine S5 ?_ | refine S6 ?_ | refine S7 ?_ | refine S8 ?_ | refine S9 ?_ | refine S10 ?_ | refine S11 ?_ | refine S12 ?_ | refine S13 ?_ | refine S15 ?_ | refine S16 ?_ | refine S19 ?_ | refine S20 ?_ | refine S21 ?_ | refine S22 ?_ | refine S23 ?_ | refine S24 ?_ | refine S25 ?_ | refine S26 ?_ | refine S29 ?_ | refine S30 ?_ | refine S37 ?_ | refine S38 ?_ | refine S40 ?_ | refine S41 ?_ | refine S45 ?_ | refine S46 ?_ | refine S51 ?_ | refine S67 ?_)
    refine Scall (args := [pli (l.getD i [])]) kc ?_
    by_cases hf : permFault (l.getD i []) = 0
    · by_cases hn : ((l.getD i []).length : Int) = n
      · have e : gfAt n (l.getD i []) = 0 := by unfold gfAt; rw [if_neg (fun h => h hf), if_neg (fun h => h hn)]
        repeat (first | refine S0 ?_ | refine S1 ?_ | refine S2 ?_ | refine S4 ?_ | refine S5 ?_ | refine S6 ?_ | refine S7 ?_ | refine S8 ?_ | refine S9 ?_ | refine S10 ?_ | refine S11 ?_ | refine S12 ?_ | refine S13 ?_ | refine S15 ?_ | refine S16 ?_ | refine S19 ?_ | refine S20 ?_ | refine S21 ?_ | refine S22 ?_ | refine S23 ?_ | refine S24 ?_ | refine S25 ?_ | refine S26 ?_ | refine S29 ?_ | refine S30 ?_ | refine S37 ?_ | refine S38 ?_ | refine S40 ?_ | refine S41 ?_ | refine S45 ?_ | refine S46 ?_ | refine S51 ?_ | refine S67 ?_)
        exact ⟨i + 1, ⟨hi2, fun j hj => by
          by_cases c : j = i
          · rw [c]; exact e
          · exact hg j (by omega)⟩, SLx, trivial, by omega⟩
      · have e : gfAt n (l.getD i []) = 3 := by unfold gfAt; rw [if_neg (fun h => h hf), if_pos hn]
        rw [firstNZ_at hi2 hg (by rw [e]; decide), e]
        repeat (first | refine S0 ?_ | refine S1 ?_ | refine S2 ?_ | refine S4 ?_ | refine S5 ?_ | refine S6 ?_ | refine S7 ?_ | refine S8 ?_ | refine S9 ?_ | refine S10 ?_ | refine S11 ?_ | refine S12 ?_ | refine S13 ?_ | refine S15 ?_ | refine S16 ?_ | refine S19 ?_ | refine S20 ?_ | refine S21 ?_ | refine S22 ?_ | refine S23 ?_ | refine S24 ?_ | refine S25 ?_ | refine S26 ?_ | refine S29 ?_ | refine S30 ?_ | refine S37 ?_ | refine S38 ?_ | refine S40 ?_ | refine S41 ?_ | refine S45 ?_ | refine S46 ?_ | refine S51 ?_ | refine S67 ?_)
        exact ⟨.inr rfl, .cl rfl⟩
    · have e : gfAt n (l.getD i []) = permFault (l.getD i []) := by unfold gfAt; rw [if_pos hf]
      rw [firstNZ_at hi2 hg (by rw [e]; exact hf), e]
      repeat (first | refine S0 ?_ | refine S1 ?_ | refine S2 ?_ | refine S4 ?_ | refine S5 ?_ | refine S6 ?_ | refine S7 ?_ | refine S8 ?_ | refine S9 ?_ | refine S10 ?_ | refine S11 ?_ | refine S12 ?_ | refine S13 ?_ | refine S15 ?_ | refine S16 ?_ | refine S19 ?_ | refine S20 ?_ | refine S21 ?_ | refine S22 ?_ | refine S23 ?_ | refine S24 ?_ | refine S25 ?_ | refine S26 ?_ | refine S29 ?_ | refine S30 ?_ | refine S37 ?_ | refine S38 ?_ | refine S40 ?_ | refine S41 ?_ | refine S45 ?_ | refine S46 ?_ | refine S51 ?_ | refine S67 ?_)
      exact ⟨.inr rfl, .cl rfl⟩
  · obtain rfl : i = l.length := by omega
    rw [firstNZ_zero hg]
    repeat (first | refine S0 ?_ | refine S1 ?_ | refine S2 ?_ | refine S4 ?_ | refine S5 ?_ | refine S6 ?_ | refine S7 ?_ | refine S8 ?_ | refine S9 ?_ | refine S10 ?_ | refine S11 ?_ | refine S12 ?_ | refine S13 ?_ | refine S15 ?_ | refine S16 ?_ | refine S19 ?_ | refine S20 ?_ | refine S21 ?_ | refine S22 ?_ | refine S23 ?_ | refine S24 ?_ | refine S25 ?_ | refine S26 ?_ | refine S29 ?_ | refine S30 ?_ | refine S37 ?_ | refine S38 ?_ | refine S40 ?_ | refine S41 ?_ | refine S45 ?_ | refine S46 ?_ | refine S51 ?_ | refine S67 ?_)
    exact ⟨.inr rfl, .cl rfl⟩
set_option maxHeartbeats 8000000 in
set_option maxRecDepth 100000 in
theorem size_e {n : Nat} (hn : n ≤ 9) {vt mt et : Nat → Nat} {R : Nat → List (Nat × Fn)} {S : Nat → List Fn} {h : HP} (H : CH n n vt mt et R S h) (G : Good n R S 0) :
    SChE Try.prog 34 [chn n vt] h (fun r h' => h' = h ∧ r = pint (sizes R n 0 : Nat)) := by
  refine SChE.go {} tok mixed Try.func34 rfl rfl Try.ntmps34 rfl rfl (by kernel_rfl) (fun hw => ?_)
  first | simp only [updS] | simp only [updL, Nat.reduceAdd]
  repeat (first | refine S0 ?_ | refine S1 ?_ | refine S2 ?_ | refine S4 ?_ | refine S5 ?_ | refine S6 ?_ | refine S7 ?_ | refine S8 ?_ | refine S9 ?_ | refine S10 ?_ | refine S11 ?_ | refine S12 ?_ | refine S13 ?_ | refine S15 ?_ | refine S16 ?_ | refine S19 ?_ | refine S20 ?_ | refine S21 ?_ | refine S22 ?_ | refine S23 ?_ | refine S24 ?_ | refine S25 ?_ | refine S26 ?_ | refine S29 ?_ | refine S30 ?_ | refine S37 ?_ | refine S38 ?_ | refine S40 ?_ | refine S41 ?_ | refine S45 ?_ | refine S46 ?_ | refine S51 ?_ | refine S67 ?_)
  -- the product of the levels before i, times that of the others, is the whole
  have hsz : ∀ d i, i + d = n → sizes R d i ≤ 387420489 := fun d i hd => Nat.le_trans (sizes_le d i hd (G.up (Nat.zero_le _))) (Nat.le_trans (Nat.pow_le_pow_left hn d) (Nat.pow_le_pow_right (by omega) (show d ≤ 9 by omega)))
  have hpos : ∀ i, i < n → 1 ≤ (R i).length := fun i hi => List.length_pos_of_mem (G.lv i (Nat.zero_le _) hi).one
  have hpos2 : ∀ d i, i + d = n → 1 ≤ sizes R d i := fun d => by
    induction d with
    | zero => intro i _; exact Nat.le_refl _
    | succ d ih => intro i hi; exact Nat.mul_pos (ih (i + 1) (by omega)) (hpos i (by omega))
  refine CW.loopS (fun x : Nat × Nat => x.1 ≤ n ∧ x.2 * sizes R (n - x.1) x.1 = sizes R n 0 ∧ x.2 ≤ 387420489) (fun x => [(3, pint x.2), (6, chn n vt), (7, pint n), (8, pint x.1)]) (fun _ hp => hp = h) (fun x => n - x.1) (0, 1) ⟨⟨Nat.zero_le _, by simp, by decide⟩, SLx, rfl⟩ ?_
  rintro ⟨i, p⟩ t hp ⟨hi, he, hp2⟩ rfl
  simp only at hi he hp2
  first | simp only [updS] | simp only [updL, Nat.reduceAdd]
  by_cases hi2 : i < n
  · have hv := H.v i hi2
    have hlen := keys_len (G.lv i (Nat.zero_le _) hi2) hi2
    have e1 : n - i = (n - (i + 1)) + 1 := by omega
    have e2 : p * (R i).length * sizes R (n - (i + 1)) (i + 1) = sizes R n 0 := by
      rw [← he, e1]
      show _ = p * (sizes R (n - (i + 1)) (i + 1) * (R i).length)
      rw [Nat.mul_assoc, Nat.mul_comm (R i).length]
    have e3 : p * (R i).length ≤ 387420489 := by
      have h1 := hsz n 0 (by omega)
      have h2 := hpos2 (n - (i + 1)) (i + 1) (by omega)
      have := Nat.le_mul_of_pos_right (p * (R i).length) h2
      omega
    have q : in64 ((p : Int) * ((R i).length : Int)) := by
      have : (p : Int) * ((R i).length : Int) = ((p * (R i).length : Nat) : Int) := by simp
      rw [this]
      exact in64_of (by omega)
    repeat (first | refine S0 ?_ | refine S1 ?_ | refine S2 ?_ | refine S4 ?_ | refine S5 ?_ | refine S6 ?_ | refine S7 ?_ | refine S8 ?_ | refine S9 ?_ | refine S10 ?_ | refine S11 ?_ | refine S12 ?_ | refine S13 ?_ | refine S15 ?_ | refine S16 ?_ | refine S19 ?_ | refine S20 ?_ | refine S21 ?_ | refine S22 ?_ | refine S23 ?_ | refine S24 ?_ | refine S25 ?_ | refine S26 ?_ | refine S29 ?_ | refine S30 ?_ | refine S37 ?_ | refine S38 ?_ | refine S40 ?_ | refine S41 ?_ | refine S45 ?_ | refine S46 ?_ | refine S51 ?_ | refine S67 ?_)
    refine AW.ldl EVx rfl (p := .ptr (vt i) 0) (chn_at hi2) ?_
    repeat (first | refine S0 ?_ | refine S1 ?_ | refine S2 ?_ | refine S4 ?_ | refine S5 ?_ | refine S6 ?_ | refine S7 ?_ | refine S8 ?_ | refine S9 ?_ | refine S10 ?_ | refine S11 ?_ | refine S12 ?_ | refine S13 ?_ | refine S15 ?_ | refine S16 ?_ | refine S19 ?_ | refine S20 ?_ | refine S21 ?_ | refine S22 ?_ | refine S23 ?_ | refine S24 ?_ | refine S25 ?_ | refine S26 ?_ | refine S29 ?_ | refine S30 ?_ | refine S37 ?_ | refine S38 ?_ | refine S40 ?_ | refine S41 ?_ | refine S45 ?_ | refine S46 ?_ | refine S51 ?_ | refine S67 ?_)
    rw [show (p : Int) * ((R i).length : Int) = ((p * (R i).length : Nat) : Int) by simp]
    exact ⟨(i + 1, p * (R i).length), ⟨hi2, e2, e3⟩, SLx, rfl, by simp only; omega⟩
  · obtain rfl : i = n := by omega
    rw [Nat.sub_self] at he
    have : p = sizes R i 0 := by rw [← he]; show p = p * 1; omega
    subst this
    repeat (first | refine S0 ?_ | refine S1 ?_ | refine S2 ?_ | refine S4 ?_ | refine S5 ?_ | refine S6 ?_ | refine S7 ?_ | refine S8 ?_ | refine S9 ?_ | refine S10 ?_ | refine S11 ?_ | refine S12 ?_ | refine S13 ?_ | refine S15 ?_ | refine S16 ?_ | refine S19 ?_ | refine S20 ?_ | refine S21 ?_ | refine S22 ?_ | refine S23 ?_ | refine S24 ?_ | refine S25 ?_ | refine S26 ?_ | refine S29 ?_ | refine S30 ?_ | refine S37 ?_ | refine S38 ?_ | refine S40 ?_ | refine S41 ?_ | refine S45 ?_ | refine S46 ?_ | refine S51 ?_ | refine S67 ?_)
    exact ⟨.inr rfl, _, ⟨_, rfl, rfl⟩, rfl, rfl⟩
end Go.Proofs.Ythacglggkgmbhaa
