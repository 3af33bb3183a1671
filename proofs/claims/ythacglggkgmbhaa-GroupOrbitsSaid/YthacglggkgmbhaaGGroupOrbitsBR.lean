/- permgroup.search. No condition of its own. -/
import Derived.Test.YthacglggkgmbhaaGGroupOrbitsBQ
set_option linter.unusedVariables false
set_option linter.unusedSimpArgs false
namespace Go.Proofs.Ythacglggkgmbhaa
open Go.RowKit

def kK (n : Nat) (E : List El) : List (List Int) := E.map fun x => kf n x.1
def vK (E : List El) : List PV := (List.range E.length).map fun (i : Nat) => pint i
@[simp] theorem kK_len (n : Nat) (E : List El) : (kK n E).length = E.length := by simp [kK]
theorem kK_mem {n : Nat} {gs : List Fn} {E : List El} (B : Be n gs E) {p : Fn} (hp : Pe n p) : kf n p ∈ kK n E ↔ p ∈ E.map (·.1) := by
  unfold kK
  constructor
  · intro h
    obtain ⟨x, hx, e⟩ := List.mem_map.1 h
    exact List.mem_map.2 ⟨x, hx, kf_inj (B.ok x hx).1 hp e⟩
  · intro h
    obtain ⟨x, hx, rfl⟩ := List.mem_map.1 h
    exact List.mem_map.2 ⟨x, hx, rfl⟩
theorem vK_snoc (E : List El) (x : El) : vK (E ++ [x]) = vK E ++ [pint E.length] := by
  unfold vK
  rw [List.length_append, List.length_singleton, List.range_succ, List.map_append]
  rfl
theorem vK_sc {n : Nat} (E : List El) (k : List Int) : ∃ v, getP (kK n E) (vK E) k (.sc (.int .i64 0)) = .sc (.int .i64 v) := by
  unfold getP
  split
  · rename_i h
    have hi : (kK n E).idxOf k < E.length := by rw [← kK_len n E]; exact List.idxOf_lt_length_iff.2 h
    exact ⟨(kK n E).idxOf k, by simp [vK, List.getD, hi, pint]⟩
  · exact ⟨0, rfl⟩
theorem Fz.pairR {h : HP} {a b a' b' : PV} (h1 : Fz h a a') (h2 : Fz h b b') : Fz h (.tup [a, b]) (.tup [a', b']) :=
  .tup rfl (fun i hi => by
    match i, hi with
    | 0, _ => exact h1
    | 1, _ => exact h2
    | i + 2, h => simp at h; omega)
theorem fn_pigeon6 {n : Nat} (hn : n ≤ 6) {gs : List Fn} {E : List El} (B : Be n gs E) : E.length ≤ 46656 := by
  have h1 := nat_pigeon (n ^ n) ((E.map (·.1)).map fun g => code n g n) (by
    unfold List.Nodup
    rw [List.pairwise_map]
    refine List.Pairwise.imp_of_mem ?_ B.nd
    intro a b ha hb hne e
    obtain ⟨x, hx, rfl⟩ := List.mem_map.1 ha
    obtain ⟨y, hy, rfl⟩ := List.mem_map.1 hb
    exact hne ((B.ok x hx).1.ext (B.ok y hy).1 (code_inj n (B.ok x hx).1.lt (B.ok y hy).1.lt e))) (fun z hz => by
    obtain ⟨g, hg, rfl⟩ := List.mem_map.1 hz
    obtain ⟨x, hx, rfl⟩ := List.mem_map.1 hg
    exact code_lt n (B.ok x hx).1.lt)
  rw [List.length_map, List.length_map] at h1
  refine Nat.le_trans h1 ?_
  have : n ^ n ≤ 6 ^ 6 := Nat.le_trans (Nat.pow_le_pow_left hn n) (Nat.pow_le_pow_right (by omega) hn)
  exact this
/-- what the search answers -/
def srF (E : List El) (p : Fn) : PV → Prop := fun r => (∃ x, x ∈ E ∧ x.1 = p ∧ r = .tup [pli x.2, .sc (.bool true)]) ∨ p ∉ E.map (·.1) ∧ r = .tup [.lst true 0 0 [], .sc (.bool false)]
set_option maxHeartbeats 16000000 in
set_option maxRecDepth 100000 in
theorem search_s {n : Nat} (hn : n ≤ 6) {c : Bool} {gs : List Fn} (hg : ∀ g ∈ gs, Pe n g) (hl : gs.length ≤ 6) {p : Fn} (hp : Pe n p) {E : List El} (hE : ∃ i, i = (bfs n gs i).length ∧ E = bfs n gs i) {r : PV} (hr : srF E p r) :
    SC Try.prog 24 [pint n, .lst c 1 gs.length (gL n gs), pli (tabN n p)] r := by
  have hn9 : n ≤ 9 := by omega
  have kI := identity_s n hn9
  have kk0 := keyOf_s hn9 id
  refine SC.go { mt := [22] } tok mixed Try.func24 rfl rfl Try.ntmps24 rfl rfl (by kernel_rfl) ?_
  first | simp only [updS] | simp only [updL, Nat.reduceAdd]
  repeat (first | refine S0 ?_ | refine S1 ?_ | refine S2 ?_ | refine S3 ?_ | refine S4 ?_ | refine S5 ?_ | refine S6 ?_ | refine S7 ?_ | refine S8 ?_ | refine S9 ?_ | refine S10 ?_ | refine S11 ?_ | refine S12 ?_ | refine S13 ?_ | refine S15 ?_ | refine S16 ?_ | refine S19 ?_ | refine S20 ?_ | refine S21 ?_ | refine S22 ?_ | refine S23 ?_ | refine S24 ?_ | refine S25 ?_ | refine S26 ?_ | refine S27 ?_ | refine S33 ?_ | refine S34 ?_ | refine S35 ?_ | refine S36 ?_ | refine S45 ?_ | refine S46 ?_ | refine S49 ?_ | refine S50 ?_ | refine S56 ?_ | refine S65 ?_ | refine S68 ?_ | refine S69 ?_ | refine S88 ?_)
  refine Scall (args := [pint n]) kI ?_
  repeat (first | refine S0 ?_ | refine S1 ?_ | refine S2 ?_ | refine S3 ?_ | refine S4 ?_ | refine S5 ?_ | refine S6 ?_ | refine S7 ?_ | refine S8 ?_ | refine S9 ?_ | refine S10 ?_ | refine S11 ?_ | refine S12 ?_ | refine S13 ?_ | refine S15 ?_ | refine S16 ?_ | refine S19 ?_ | refine S20 ?_ | refine S21 ?_ | refine S22 ?_ | refine S23 ?_ | refine S24 ?_ | refine S25 ?_ | refine S26 ?_ | refine S27 ?_ | refine S33 ?_ | refine S34 ?_ | refine S35 ?_ | refine S36 ?_ | refine S45 ?_ | refine S46 ?_ | refine S49 ?_ | refine S50 ?_ | refine S56 ?_ | refine S65 ?_ | refine S68 ?_ | refine S69 ?_ | refine S88 ?_)
  refine Scall (args := [pli (tabN n id)]) kk0 ?_
  rw [show (H0.add false [pli (tabN n id), .sc (.int .i64 0), .sc (.int .i64 0)]).tok true = 3 from rfl, show H0.tok false = 0 from rfl]
  rw [show (((H0.add false [pli (tabN n id), .sc (.int .i64 0), .sc (.int .i64 0)]).add true [.lst true 0 0 []]).set 3 [.ref 0 0 3 1]).tok true = 5 from rfl]
  refine AW.gins (kk := .arr 9) (tk := 5) (key := kf n id) EVx EVx EVx (kf_len hn9 id) rfl rfl SBx ?_
  repeat (first | refine S0 ?_ | refine S1 ?_ | refine S2 ?_ | refine S3 ?_ | refine S4 ?_ | refine S5 ?_ | refine S6 ?_ | refine S7 ?_ | refine S8 ?_ | refine S9 ?_ | refine S10 ?_ | refine S11 ?_ | refine S12 ?_ | refine S13 ?_ | refine S15 ?_ | refine S16 ?_ | refine S19 ?_ | refine S20 ?_ | refine S21 ?_ | refine S22 ?_ | refine S23 ?_ | refine S24 ?_ | refine S25 ?_ | refine S26 ?_ | refine S27 ?_ | refine S33 ?_ | refine S34 ?_ | refine S35 ?_ | refine S36 ?_ | refine S45 ?_ | refine S46 ?_ | refine S49 ?_ | refine S50 ?_ | refine S56 ?_ | refine S65 ?_ | refine S68 ?_ | refine S69 ?_ | refine S88 ?_)
  have hbl : ∀ i, (bfs n gs i).length ≤ 46656 := fun i => fn_pigeon6 hn (Be.bfs hg i)
  refine CW.loopS (fun a : Nat × List (Nat × Int) × Nat => a.1 ≤ (bfs n gs a.1).length ∧ Wy (bfs n gs a.1) a.2.1 ∧ ∀ b, b < a.1 → ((bfs n gs a.1).getD b (id, [])).1 ≠ p) (fun a => [(1, .lst c 1 gs.length (gL n gs)), (2, pli (tabN n p)), (8, .ptr 3 0), (9, .mref 5), (10, .clo 44 [.ptr 3 0]), (11, pint a.1)])
    (fun a hp => hp.sp 5 = some (.gmap (.arr 9) (kK n (bfs n gs a.1)) (vK (bfs n gs a.1))) ∧ hp.blk 3 = some [.ref a.2.2 0 3 (bfs n gs a.1).length] ∧ hp.blk a.2.2 = some (wN n (bfs n gs a.1) a.2.1) ∧ a.2.2 % 2 = 0 ∧ a.2.2 < 2 * hp.next ∧ 3 ≤ hp.next) (fun a => 46657 - a.1) (0, [(0, 0)], 0) ⟨⟨Nat.zero_le _, Wy.start, fun b hb => absurd hb (by omega)⟩, SLx, ⟨HP.setS_same _ _ _, rfl, rfl, rfl, (by show (0 : Nat) < 6; omega), (by show (3 : Nat) ≤ 3; omega)⟩⟩ ?_
  rintro ⟨i, F, wt⟩ t hp0 ⟨hi, hW, hno⟩ ⟨hS, hf, hb, hwe, hwl, h5⟩
  simp only at hi hW hno hS hf hb hwe hwl h5
  first | simp only [updS] | simp only [updL, Nat.reduceAdd]
  have hla := hbl i
  have hB := Be.bfs hg i
  have hFl := hW.len
  by_cases hi2 : i < (bfs n gs i).length
  · obtain ⟨w1, w2, w3⟩ := wN_get n (bfs n gs i) F i hFl hi2
    obtain ⟨x, hx⟩ : ∃ x, x = (bfs n gs i).getD i (id, []) := ⟨_, rfl⟩
    have hxm : x ∈ bfs n gs i := by rw [hx]; exact mem_getD hi2 _
    have hxo := hB.ok x hxm
    have hxw := hB.wl x hxm
    rw [← hx] at w1
    have hc := wN_len n (bfs n gs i) F hFl
    repeat (first | refine S0 ?_ | refine S1 ?_ | refine S2 ?_ | refine S3 ?_ | refine S4 ?_ | refine S5 ?_ | refine S6 ?_ | refine S7 ?_ | refine S8 ?_ | refine S9 ?_ | refine S10 ?_ | refine S11 ?_ | refine S12 ?_ | refine S13 ?_ | refine S15 ?_ | refine S16 ?_ | refine S19 ?_ | refine S20 ?_ | refine S21 ?_ | refine S22 ?_ | refine S23 ?_ | refine S24 ?_ | refine S25 ?_ | refine S26 ?_ | refine S27 ?_ | refine S33 ?_ | refine S34 ?_ | refine S35 ?_ | refine S36 ?_ | refine S45 ?_ | refine S46 ?_ | refine S49 ?_ | refine S50 ?_ | refine S56 ?_ | refine S65 ?_ | refine S68 ?_ | refine S69 ?_ | refine S88 ?_)
    rw [show (i : Int).toNat * 3 = i * 3 by simp]
    refine AW.ldm EVx (by first | exact Or.inl rfl | exact Or.inr ⟨rfl, HP.tok_even _⟩ | exact Or.inr (Or.inl ⟨rfl, HP.tok_even _⟩) | exact Or.inr (Or.inr ⟨rfl, HP.tok_odd _⟩) | exact Or.inr (Or.inl rfl) | exact Or.inr (Or.inr (Or.inl rfl)) | exact Or.inr (Or.inr (Or.inr (Or.inl ⟨rfl, HP.tok_odd _⟩))) | exact Or.inr (Or.inr (Or.inr (Or.inr ⟨rfl, HP.tok_even _⟩))) | exact Or.inr (Or.inr (Or.inr (Or.inr ⟨rfl, by assumption⟩))) | exact Or.inr ⟨rfl, by assumption⟩ | exact Or.inr (Or.inl ⟨rfl, by assumption⟩) | exact Or.inr (Or.inr ⟨rfl, by assumption⟩) | exact Or.inr (Or.inr (Or.inr (Or.inl ⟨rfl, by assumption⟩))) | exact Or.inr (Or.inr (Or.inl ⟨rfl, HP.tok_odd _⟩)) | exact Or.inr (Or.inr (Or.inl ⟨rfl, by assumption⟩)) | exact Or.inr (Or.inr (Or.inr rfl)) | exact Or.inr (Or.inr rfl) | exact Or.inr rfl) rfl hb w1 ?_
    repeat (first | refine S0 ?_ | refine S1 ?_ | refine S2 ?_ | refine S3 ?_ | refine S4 ?_ | refine S5 ?_ | refine S6 ?_ | refine S7 ?_ | refine S8 ?_ | refine S9 ?_ | refine S10 ?_ | refine S11 ?_ | refine S12 ?_ | refine S13 ?_ | refine S15 ?_ | refine S16 ?_ | refine S19 ?_ | refine S20 ?_ | refine S21 ?_ | refine S22 ?_ | refine S23 ?_ | refine S24 ?_ | refine S25 ?_ | refine S26 ?_ | refine S27 ?_ | refine S33 ?_ | refine S34 ?_ | refine S35 ?_ | refine S36 ?_ | refine S45 ?_ | refine S46 ?_ | refine S49 ?_ | refine S50 ?_ | refine S56 ?_ | refine S65 ?_ | refine S68 ?_ | refine S69 ?_ | refine S88 ?_)
    refine Scall (args := [pli (tabN n x.1), pli (tabN n p)]) (equal_s (tabN n x.1) (tabN n p)) ?_
    by_cases hxp : x.1 = p
    · have he : tabN n x.1 = tabN n p := by rw [hxp]
      repeat (first | refine S0 ?_ | refine S1 ?_ | refine S2 ?_ | refine S3 ?_ | refine S4 ?_ | refine S5 ?_ | refine S6 ?_ | refine S7 ?_ | refine S8 ?_ | refine S9 ?_ | refine S10 ?_ | refine S11 ?_ | refine S12 ?_ | refine S13 ?_ | refine S15 ?_ | refine S16 ?_ | refine S19 ?_ | refine S20 ?_ | refine S21 ?_ | refine S22 ?_ | refine S23 ?_ | refine S24 ?_ | refine S25 ?_ | refine S26 ?_ | refine S27 ?_ | refine S33 ?_ | refine S34 ?_ | refine S35 ?_ | refine S36 ?_ | refine S45 ?_ | refine S46 ?_ | refine S49 ?_ | refine S50 ?_ | refine S56 ?_ | refine S65 ?_ | refine S68 ?_ | refine S69 ?_ | refine S88 ?_)
      refine AW.callve (f := 44) (cap := [.ptr 3 0]) (args := [pint i, .ptr 3 0]) rfl rfl rfl (word_e hW (by omega) hB.wl hi2 hf hb) ?_
      rintro rr X ⟨T, rfl, hT⟩
      repeat (first | refine S0 ?_ | refine S1 ?_ | refine S2 ?_ | refine S3 ?_ | refine S4 ?_ | refine S5 ?_ | refine S6 ?_ | refine S7 ?_ | refine S8 ?_ | refine S9 ?_ | refine S10 ?_ | refine S11 ?_ | refine S12 ?_ | refine S13 ?_ | refine S15 ?_ | refine S16 ?_ | refine S19 ?_ | refine S20 ?_ | refine S21 ?_ | refine S22 ?_ | refine S23 ?_ | refine S24 ?_ | refine S25 ?_ | refine S26 ?_ | refine S27 ?_ | refine S33 ?_ | refine S34 ?_ | refine S35 ?_ | refine S36 ?_ | refine S45 ?_ | refine S46 ?_ | refine S49 ?_ | refine S50 ?_ | refine S56 ?_ | refine S65 ?_ | refine S68 ?_ | refine S69 ?_ | refine S88 ?_)
      have hrr : r = .tup [pli x.2, .sc (.bool true)] := by
        obtain ⟨k, hk1, hk2⟩ := hE
        have hxE : x ∈ E := by
          rw [hk2]
          by_cases hik : i ≤ k
          · have pre : ∀ d, ∃ D, bfs n gs (i + d) = bfs n gs i ++ D := fun d => by
              induction d with
              | zero => exact ⟨[], by simp⟩
              | succ d ih =>
                obtain ⟨D, hD⟩ := ih
                obtain ⟨D2, hD2⟩ := bfs_mono n gs (i + d)
                exact ⟨D ++ D2, by show bfs n gs (i + d + 1) = _; rw [hD2, hD, List.append_assoc]⟩
            obtain ⟨D, hD⟩ := pre (k - i)
            rw [show i + (k - i) = k by omega] at hD
            rw [hD]
            exact List.mem_append_left _ hxm
          · have := bfs_stop hk1 (i - k)
            rw [show k + (i - k) = i by omega] at this
            rw [← this]; exact hxm
        rcases hr with ⟨z, z1, z2, z3⟩ | ⟨z1, _⟩
        · have hBE : Be n gs E := by rw [hk2]; exact Be.bfs hg k
          have : z = x := by
            have h1 := List.getElem_of_mem z1
            have h2 := List.getElem_of_mem hxE
            obtain ⟨a, ha, ea⟩ := h1
            obtain ⟨b, hb', eb⟩ := h2
            have hab : a = b := by
              have : (E.map (·.1))[a]'(by simpa using ha) = (E.map (·.1))[b]'(by simpa using hb') := by simp [ea, eb, z2, hxp]
              exact (List.getElem_inj hBE.nd).1 this
            subst hab
            rw [← ea, ← eb]
          rw [z3, this]
        · exact absurd (List.mem_map.2 ⟨x, hxE, hxp⟩) z1
      rw [hrr]
      rw [← hx] at hT ⊢
      exact ⟨.inr rfl, Fz.pairR (Fz.refI hT rfl rfl) (.cl rfl)⟩
    · have he : ¬ tabN n x.1 = tabN n p := fun h => hxp (hxo.1.tab hp h)
      repeat (first | refine S0 ?_ | refine S1 ?_ | refine S2 ?_ | refine S3 ?_ | refine S4 ?_ | refine S5 ?_ | refine S6 ?_ | refine S7 ?_ | refine S8 ?_ | refine S9 ?_ | refine S10 ?_ | refine S11 ?_ | refine S12 ?_ | refine S13 ?_ | refine S15 ?_ | refine S16 ?_ | refine S19 ?_ | refine S20 ?_ | refine S21 ?_ | refine S22 ?_ | refine S23 ?_ | refine S24 ?_ | refine S25 ?_ | refine S26 ?_ | refine S27 ?_ | refine S33 ?_ | refine S34 ?_ | refine S35 ?_ | refine S36 ?_ | refine S45 ?_ | refine S46 ?_ | refine S49 ?_ | refine S50 ?_ | refine S56 ?_ | refine S65 ?_ | refine S68 ?_ | refine S69 ?_ | refine S88 ?_)
      have hxnp : x.1 ≠ p := hxp
      refine CW.loopS (fun y : Nat × List (Nat × Int) × Nat => y.1 ≤ gs.length ∧ Wy (prt n gs x (bfs n gs i) (2 * y.1)) y.2.1) (fun y => [(1, .lst c 1 gs.length (gL n gs)), (2, pli (tabN n p)), (8, .ptr 3 0), (9, .mref 5), (10, .clo 44 [.ptr 3 0]), (11, pint i), (47, .lst c 1 gs.length (gL n gs)), (48, pint gs.length), (49, pint y.1)])
        (fun y hp => hp.sp 5 = some (.gmap (.arr 9) (kK n (prt n gs x (bfs n gs i) (2 * y.1))) (vK (prt n gs x (bfs n gs i) (2 * y.1)))) ∧ hp.blk 3 = some [.ref y.2.2 0 3 (prt n gs x (bfs n gs i) (2 * y.1)).length] ∧ hp.blk y.2.2 = some (wN n (prt n gs x (bfs n gs i) (2 * y.1)) y.2.1) ∧ y.2.2 % 2 = 0 ∧ y.2.2 < 2 * hp.next ∧ 3 ≤ hp.next) (fun y => gs.length - y.1) (0, F, wt) ⟨⟨Nat.zero_le _, hW⟩, SLx, ⟨hS, hf, hb, hwe, hwl, h5⟩⟩ ?_
      clear hS hf hb hwe hwl h5 hW hFl w1 w2 w3 hc F wt hp0
      rintro ⟨y, F, wt⟩ t hp0 ⟨hy, hW⟩ ⟨hS, hf, hb, hwe, hwl, h5⟩
      simp only at hy hW hS hf hb hwe hwl h5
      first | simp only [updS] | simp only [updL, Nat.reduceAdd]
      by_cases hy2 : y < gs.length
      · have hgy := hg _ (mem_getD hy2 id)
        repeat (first | refine S0 ?_ | refine S1 ?_ | refine S2 ?_ | refine S3 ?_ | refine S4 ?_ | refine S5 ?_ | refine S6 ?_ | refine S7 ?_ | refine S8 ?_ | refine S9 ?_ | refine S10 ?_ | refine S11 ?_ | refine S12 ?_ | refine S13 ?_ | refine S15 ?_ | refine S16 ?_ | refine S19 ?_ | refine S20 ?_ | refine S21 ?_ | refine S22 ?_ | refine S23 ?_ | refine S24 ?_ | refine S25 ?_ | refine S26 ?_ | refine S27 ?_ | refine S33 ?_ | refine S34 ?_ | refine S35 ?_ | refine S36 ?_ | refine S45 ?_ | refine S46 ?_ | refine S49 ?_ | refine S50 ?_ | refine S56 ?_ | refine S65 ?_ | refine S68 ?_ | refine S69 ?_ | refine S88 ?_)
        refine AW.ldl EVx rfl (p := pli (tabN n (gs.getD y id))) (gL_at hy2) ?_
        repeat (first | refine S0 ?_ | refine S1 ?_ | refine S2 ?_ | refine S3 ?_ | refine S4 ?_ | refine S5 ?_ | refine S6 ?_ | refine S7 ?_ | refine S8 ?_ | refine S9 ?_ | refine S10 ?_ | refine S11 ?_ | refine S12 ?_ | refine S13 ?_ | refine S15 ?_ | refine S16 ?_ | refine S19 ?_ | refine S20 ?_ | refine S21 ?_ | refine S22 ?_ | refine S23 ?_ | refine S24 ?_ | refine S25 ?_ | refine S26 ?_ | refine S27 ?_ | refine S33 ?_ | refine S34 ?_ | refine S35 ?_ | refine S36 ?_ | refine S45 ?_ | refine S46 ?_ | refine S49 ?_ | refine S50 ?_ | refine S56 ?_ | refine S65 ?_ | refine S68 ?_ | refine S69 ?_ | refine S88 ?_)
        refine CW.loopS (fun z : Nat × List (Nat × Int) × Nat => z.1 ≤ 2 ∧ Wy (prt n gs x (bfs n gs i) (2 * y + z.1)) z.2.1) (fun z => [(1, .lst c 1 gs.length (gL n gs)), (2, pli (tabN n p)), (8, .ptr 3 0), (9, .mref 5), (10, .clo 44 [.ptr 3 0]), (11, pint i), (47, .lst c 1 gs.length (gL n gs)), (48, pint gs.length), (49, pint y), (12, pint y), (13, pli (tabN n (gs.getD y id))), (59, .lst true 1 2 [pint ((y : Int) + 1), pint (-(y : Int) - 1)]), (60, pint 2), (61, pint z.1)])
          (fun z hp => hp.sp 5 = some (.gmap (.arr 9) (kK n (prt n gs x (bfs n gs i) (2 * y + z.1))) (vK (prt n gs x (bfs n gs i) (2 * y + z.1)))) ∧ hp.blk 3 = some [.ref z.2.2 0 3 (prt n gs x (bfs n gs i) (2 * y + z.1)).length] ∧ hp.blk z.2.2 = some (wN n (prt n gs x (bfs n gs i) (2 * y + z.1)) z.2.1) ∧ z.2.2 % 2 = 0 ∧ z.2.2 < 2 * hp.next ∧ 3 ≤ hp.next) (fun z => 2 - z.1) (0, F, wt) ⟨⟨Nat.zero_le _, hW⟩, SLx, ⟨hS, hf, hb, hwe, hwl, h5⟩⟩ ?_
        clear hS hf hb hwe hwl h5 hW F wt hp0
        rintro ⟨z, F, wt⟩ t hp0 ⟨hz, hW⟩ ⟨hS, hf, hb, hwe, hwl, h5⟩
        simp only at hz hW hS hf hb hwe hwl h5
        first | simp only [updS] | simp only [updL, Nat.reduceAdd]
        rcases (show z = 0 ∨ z = 1 ∨ z = 2 by omega) with rfl | rfl | rfl
        · have elt : (ltr n gs (2 * y + 0)).2 = gs.getD y id := by unfold ltr; rw [if_pos (by omega), show (2 * y + 0) / 2 = y by omega]
          have elc : (ltr n gs (2 * y + 0)).1 = (y : Int) + 1 := by unfold ltr; rw [if_pos (by omega), show (2 * y + 0) / 2 = y by omega]
          have kA : SC Try.prog 47 [pli (tabN n x.1), pli (tabN n (gs.getD y id))] (pli (tabN n (cmp x.1 (ltr n gs (2 * y + 0)).2))) := by rw [elt]; exact then_p hxo.1 hn9

          obtain ⟨lt1, lt2⟩ := ltr_ok hg (show 2 * y + 0 < 2 * gs.length by omega)
          have hpp := hxo.1.mul lt1
          have hBp := hB.prt hg hxo hxw (2 * y + 0) (by omega)
          have hll := fn_pigeon6 hn hBp
          have kK2 := keyOf_s hn9 (cmp x.1 (ltr n gs (2 * y + 0)).2)
          have hPl := prt_len n gs x (bfs n gs i) (2 * y + 0)
          have hPx := prt_get n gs x (bfs n gs i) (2 * y + 0) hi2 (id, [])
          generalize hq : cmp x.1 (ltr n gs (2 * y + 0)).2 = q at *
          generalize hPp : prt n gs x (bfs n gs i) (2 * y + 0) = Pp at *
          have hP1 : prt n gs x (bfs n gs i) (2 * y + 1) = stp n x (ltr n gs (2 * y + 0)) Pp := by rw [← hPp]; rfl
          unfold stp at hP1
          rw [hq] at hP1
          obtain ⟨vv, hvv⟩ := vK_sc (n := n) Pp (kf n q)
          have hkl : KT.ok (.arr 9) (kf n q) := kf_len hn9 q
          repeat (first | refine S0 ?_ | refine S1 ?_ | refine S2 ?_ | refine S3 ?_ | refine S4 ?_ | refine S5 ?_ | refine S6 ?_ | refine S7 ?_ | refine S8 ?_ | refine S9 ?_ | refine S10 ?_ | refine S11 ?_ | refine S12 ?_ | refine S13 ?_ | refine S15 ?_ | refine S16 ?_ | refine S19 ?_ | refine S20 ?_ | refine S21 ?_ | refine S22 ?_ | refine S23 ?_ | refine S24 ?_ | refine S25 ?_ | refine S26 ?_ | refine S27 ?_ | refine S33 ?_ | refine S34 ?_ | refine S35 ?_ | refine S36 ?_ | refine S45 ?_ | refine S46 ?_ | refine S49 ?_ | refine S50 ?_ | refine S56 ?_ | refine S65 ?_ | refine S68 ?_ | refine S69 ?_ | refine S88 ?_)
          have hFl := hW.len
          obtain ⟨w1, w2, w3⟩ := wN_get n Pp F i hFl (by omega)
          rw [hPx, ← hx] at w1
          have hc := wN_len n Pp F hFl
          rw [show (i : Int).toNat * 3 = i * 3 by simp]
          refine AW.ldm EVx (by first | exact Or.inl rfl | exact Or.inr ⟨rfl, HP.tok_even _⟩ | exact Or.inr (Or.inl ⟨rfl, HP.tok_even _⟩) | exact Or.inr (Or.inr ⟨rfl, HP.tok_odd _⟩) | exact Or.inr (Or.inl rfl) | exact Or.inr (Or.inr (Or.inl rfl)) | exact Or.inr (Or.inr (Or.inr (Or.inl ⟨rfl, HP.tok_odd _⟩))) | exact Or.inr (Or.inr (Or.inr (Or.inr ⟨rfl, HP.tok_even _⟩))) | exact Or.inr (Or.inr (Or.inr (Or.inr ⟨rfl, by assumption⟩))) | exact Or.inr ⟨rfl, by assumption⟩ | exact Or.inr (Or.inl ⟨rfl, by assumption⟩) | exact Or.inr (Or.inr ⟨rfl, by assumption⟩) | exact Or.inr (Or.inr (Or.inr (Or.inl ⟨rfl, by assumption⟩))) | exact Or.inr (Or.inr (Or.inl ⟨rfl, HP.tok_odd _⟩)) | exact Or.inr (Or.inr (Or.inl ⟨rfl, by assumption⟩)) | exact Or.inr (Or.inr (Or.inr rfl)) | exact Or.inr (Or.inr rfl) | exact Or.inr rfl) rfl hb w1 ?_
          repeat (first | refine S0 ?_ | refine S1 ?_ | refine S2 ?_ | refine S3 ?_ | refine S4 ?_ | refine S5 ?_ | refine S6 ?_ | refine S7 ?_ | refine S8 ?_ | refine S9 ?_ | refine S10 ?_ | refine S11 ?_ | refine S12 ?_ | refine S13 ?_ | refine S15 ?_ | refine S16 ?_ | refine S19 ?_ | refine S20 ?_ | refine S21 ?_ | refine S22 ?_ | refine S23 ?_ | refine S24 ?_ | refine S25 ?_ | refine S26 ?_ | refine S27 ?_ | refine S33 ?_ | refine S34 ?_ | refine S35 ?_ | refine S36 ?_ | refine S45 ?_ | refine S46 ?_ | refine S49 ?_ | refine S50 ?_ | refine S56 ?_ | refine S65 ?_ | refine S68 ?_ | refine S69 ?_ | refine S88 ?_)
          refine Scall (args := [pli (tabN n x.1), pli (tabN n (gs.getD y id))]) kA ?_
          repeat (first | refine S0 ?_ | refine S1 ?_ | refine S2 ?_ | refine S3 ?_ | refine S4 ?_ | refine S5 ?_ | refine S6 ?_ | refine S7 ?_ | refine S8 ?_ | refine S9 ?_ | refine S10 ?_ | refine S11 ?_ | refine S12 ?_ | refine S13 ?_ | refine S15 ?_ | refine S16 ?_ | refine S19 ?_ | refine S20 ?_ | refine S21 ?_ | refine S22 ?_ | refine S23 ?_ | refine S24 ?_ | refine S25 ?_ | refine S26 ?_ | refine S27 ?_ | refine S33 ?_ | refine S34 ?_ | refine S35 ?_ | refine S36 ?_ | refine S45 ?_ | refine S46 ?_ | refine S49 ?_ | refine S50 ?_ | refine S56 ?_ | refine S65 ?_ | refine S68 ?_ | refine S69 ?_ | refine S88 ?_)
          refine Scall (args := [pli (tabN n q)]) kK2 ?_
          refine AW.glkm (kk := .arr 9) (tk := 5) (key := kf n q) (p := .tup [.sc (.int .i64 vv), .sc (.bool (decide (kf n q ∈ kK n Pp)))]) EVx EVx hkl rfl rfl hS (by rw [lkG_t, hvv]) ?_
          repeat (first | refine S0 ?_ | refine S1 ?_ | refine S2 ?_ | refine S3 ?_ | refine S4 ?_ | refine S5 ?_ | refine S6 ?_ | refine S7 ?_ | refine S8 ?_ | refine S9 ?_ | refine S10 ?_ | refine S11 ?_ | refine S12 ?_ | refine S13 ?_ | refine S15 ?_ | refine S16 ?_ | refine S19 ?_ | refine S20 ?_ | refine S21 ?_ | refine S22 ?_ | refine S23 ?_ | refine S24 ?_ | refine S25 ?_ | refine S26 ?_ | refine S27 ?_ | refine S33 ?_ | refine S34 ?_ | refine S35 ?_ | refine S36 ?_ | refine S45 ?_ | refine S46 ?_ | refine S49 ?_ | refine S50 ?_ | refine S56 ?_ | refine S65 ?_ | refine S68 ?_ | refine S69 ?_ | refine S88 ?_)
          by_cases hkn : known n Pp q = true
          · have hmem := (known_iff hBp hpp).1 hkn
            have hmem2 := (kK_mem hBp hpp).2 hmem
            rw [if_pos hkn] at hP1
            repeat (first | refine S0 ?_ | refine S1 ?_ | refine S2 ?_ | refine S3 ?_ | refine S4 ?_ | refine S5 ?_ | refine S6 ?_ | refine S7 ?_ | refine S8 ?_ | refine S9 ?_ | refine S10 ?_ | refine S11 ?_ | refine S12 ?_ | refine S13 ?_ | refine S15 ?_ | refine S16 ?_ | refine S19 ?_ | refine S20 ?_ | refine S21 ?_ | refine S22 ?_ | refine S23 ?_ | refine S24 ?_ | refine S25 ?_ | refine S26 ?_ | refine S27 ?_ | refine S33 ?_ | refine S34 ?_ | refine S35 ?_ | refine S36 ?_ | refine S45 ?_ | refine S46 ?_ | refine S49 ?_ | refine S50 ?_ | refine S56 ?_ | refine S65 ?_ | refine S68 ?_ | refine S69 ?_ | refine S88 ?_)
            refine ⟨(1, F, wt), ⟨by simp only; omega, by simp only; rw [hP1]; exact hW⟩, SLx, ?_, by simp only; omega⟩
            simp only
            rw [hP1]
            exact ⟨hS, hf, hb, hwe, hwl, h5⟩
          · have hnm : q ∉ Pp.map (·.1) := fun h => hkn ((known_iff hBp hpp).2 h)
            have hnm2 : kf n q ∉ kK n Pp := fun h => hnm ((kK_mem hBp hpp).1 h)
            rw [if_neg hkn] at hP1
            have hkk : insK (kK n Pp) (kf n q) = kK n (Pp ++ [(q, x.2 ++ [(ltr n gs (2 * y + 0)).1])]) := by unfold insK; rw [if_neg hnm2]; simp [kK]
            have hvk : insP (kK n Pp) (vK Pp) (kf n q) (pint Pp.length) = vK (Pp ++ [(q, x.2 ++ [(ltr n gs (2 * y + 0)).1])]) := by unfold insP; rw [if_neg hnm2, vK_snoc]
            rw [elc] at hkk hvk hP1
            repeat (first | refine S0 ?_ | refine S1 ?_ | refine S2 ?_ | refine S3 ?_ | refine S4 ?_ | refine S5 ?_ | refine S6 ?_ | refine S7 ?_ | refine S8 ?_ | refine S9 ?_ | refine S10 ?_ | refine S11 ?_ | refine S12 ?_ | refine S13 ?_ | refine S15 ?_ | refine S16 ?_ | refine S19 ?_ | refine S20 ?_ | refine S21 ?_ | refine S22 ?_ | refine S23 ?_ | refine S24 ?_ | refine S25 ?_ | refine S26 ?_ | refine S27 ?_ | refine S33 ?_ | refine S34 ?_ | refine S35 ?_ | refine S36 ?_ | refine S45 ?_ | refine S46 ?_ | refine S49 ?_ | refine S50 ?_ | refine S56 ?_ | refine S65 ?_ | refine S68 ?_ | refine S69 ?_ | refine S88 ?_)
            refine Scall (args := [pli (tabN n q)]) kK2 ?_
            repeat (first | refine S0 ?_ | refine S1 ?_ | refine S2 ?_ | refine S3 ?_ | refine S4 ?_ | refine S5 ?_ | refine S6 ?_ | refine S7 ?_ | refine S8 ?_ | refine S9 ?_ | refine S10 ?_ | refine S11 ?_ | refine S12 ?_ | refine S13 ?_ | refine S15 ?_ | refine S16 ?_ | refine S19 ?_ | refine S20 ?_ | refine S21 ?_ | refine S22 ?_ | refine S23 ?_ | refine S24 ?_ | refine S25 ?_ | refine S26 ?_ | refine S27 ?_ | refine S33 ?_ | refine S34 ?_ | refine S35 ?_ | refine S36 ?_ | refine S45 ?_ | refine S46 ?_ | refine S49 ?_ | refine S50 ?_ | refine S56 ?_ | refine S65 ?_ | refine S68 ?_ | refine S69 ?_ | refine S88 ?_)
            refine AW.gup (kk := .arr 9) (tk := 5) (key := kf n q) EVx EVx EVx hkl rfl rfl hS ?_
            rw [hkk]
            rw [show PV.sc (.int .i64 (Pp.length : Nat)) = pint Pp.length from rfl, hvk]
            repeat (first | refine S0 ?_ | refine S1 ?_ | refine S2 ?_ | refine S3 ?_ | refine S4 ?_ | refine S5 ?_ | refine S6 ?_ | refine S7 ?_ | refine S8 ?_ | refine S9 ?_ | refine S10 ?_ | refine S11 ?_ | refine S12 ?_ | refine S13 ?_ | refine S15 ?_ | refine S16 ?_ | refine S19 ?_ | refine S20 ?_ | refine S21 ?_ | refine S22 ?_ | refine S23 ?_ | refine S24 ?_ | refine S25 ?_ | refine S26 ?_ | refine S27 ?_ | refine S33 ?_ | refine S34 ?_ | refine S35 ?_ | refine S36 ?_ | refine S45 ?_ | refine S46 ?_ | refine S49 ?_ | refine S50 ?_ | refine S56 ?_ | refine S65 ?_ | refine S68 ?_ | refine S69 ?_ | refine S88 ?_)
            refine AW.app (r := wN n (Pp ++ [(q, x.2 ++ [(y : Int) + 1])]) (F ++ [(i, (y : Int) + 1)])) (q := Pp.length + 1) EVx (by first | exact Or.inl rfl | exact Or.inr ⟨rfl, HP.tok_even _⟩ | exact Or.inr (Or.inl ⟨rfl, HP.tok_even _⟩) | exact Or.inr (Or.inr ⟨rfl, HP.tok_odd _⟩) | exact Or.inr (Or.inl rfl) | exact Or.inr (Or.inr (Or.inl rfl)) | exact Or.inr (Or.inr (Or.inr (Or.inl ⟨rfl, HP.tok_odd _⟩))) | exact Or.inr (Or.inr (Or.inr (Or.inr ⟨rfl, HP.tok_even _⟩))) | exact Or.inr (Or.inr (Or.inr (Or.inr ⟨rfl, by assumption⟩))) | exact Or.inr ⟨rfl, by assumption⟩ | exact Or.inr (Or.inl ⟨rfl, by assumption⟩) | exact Or.inr (Or.inr ⟨rfl, by assumption⟩) | exact Or.inr (Or.inr (Or.inr (Or.inl ⟨rfl, by assumption⟩))) | exact Or.inr (Or.inr (Or.inl ⟨rfl, HP.tok_odd _⟩)) | exact Or.inr (Or.inr (Or.inl ⟨rfl, by assumption⟩)) | exact Or.inr (Or.inr (Or.inr rfl)) | exact Or.inr (Or.inr rfl) | exact Or.inr rfl) rfl hb (by first | exact ⟨rfl, rfl, .inr rfl⟩ | exact ⟨rfl, rfl, .inl rfl⟩ | (simp only [evA, upd, putA, Nat.reduceEqDiff, ↓reduceIte]; first | exact ⟨rfl, rfl, .inr rfl⟩ | exact ⟨rfl, rfl, .inl rfl⟩)) (by rw [hc]; omega) (by intro q hq'; simp only [List.mem_cons, List.not_mem_nil, or_false] at hq'; rcases hq' with rfl | rfl | rfl <;> rfl) (by first | omega | (simp only [ints_length, bls_length, List.length_map, List.length_append, List.length_set, List.length_cons, List.length_nil, Int.toNat_natCast]; omega)) (by
              rw [List.drop_zero, List.take_of_length_le (by rw [hc]; omega), wN_snoc n Pp F _ _ hFl]
              rfl) rfl ?_
            repeat (first | refine S0 ?_ | refine S1 ?_ | refine S2 ?_ | refine S3 ?_ | refine S4 ?_ | refine S5 ?_ | refine S6 ?_ | refine S7 ?_ | refine S8 ?_ | refine S9 ?_ | refine S10 ?_ | refine S11 ?_ | refine S12 ?_ | refine S13 ?_ | refine S15 ?_ | refine S16 ?_ | refine S19 ?_ | refine S20 ?_ | refine S21 ?_ | refine S22 ?_ | refine S23 ?_ | refine S24 ?_ | refine S25 ?_ | refine S26 ?_ | refine S27 ?_ | refine S33 ?_ | refine S34 ?_ | refine S35 ?_ | refine S36 ?_ | refine S45 ?_ | refine S46 ?_ | refine S49 ?_ | refine S50 ?_ | refine S56 ?_ | refine S65 ?_ | refine S68 ?_ | refine S69 ?_ | refine S88 ?_)
            have hSn := hW.snoc (show i < Pp.length by omega) q ((y : Int) + 1)
            rw [hPx, ← hx] at hSn
            obtain ⟨Z, hZ⟩ : ∃ Z, Z = Pp ++ [(q, x.2 ++ [(y : Int) + 1])] := ⟨_, rfl⟩
            have hZl : Pp.length + 1 = Z.length := by rw [hZ]; simp
            rw [← hZ] at hSn hP1 ⊢
            rw [hZl]
            have tk1 : (hp0.setS 5 (SpC.gmap (.arr 9) (kK n Z) (vK Z))).tok false = 2 * hp0.next := HP.tokF _
            have tk2 : ((hp0.setS 5 (SpC.gmap (.arr 9) (kK n Z) (vK Z))).kill wt).tok false = 2 * hp0.next := HP.tokF _
            rw [tk1]
            refine ⟨(1, F ++ [(i, (y : Int) + 1)], 2 * hp0.next), ⟨by simp only; omega, by simp only; rw [hP1]; exact hSn⟩, SLx, ?_, by simp only; omega⟩
            simp only
            rw [hP1]
            refine ⟨HP.setS_same hp0 5 (SpC.gmap (.arr 9) (kK n Z) (vK Z)), HP.set_same _ _ _, ?_, by omega, ?_, ?_⟩
            · refine (HP.set_other _ _ (by omega)).trans ?_
              have := HP.add_same ((hp0.setS 5 (SpC.gmap (.arr 9) (kK n Z) (vK Z))).kill wt) false (wN n Z (F ++ [(i, (y : Int) + 1)]))
              rwa [tk2] at this
            · show 2 * hp0.next < 2 * (hp0.next + 1); omega
            · show 3 ≤ hp0.next + 1; omega

        · have elt : (ltr n gs (2 * y + 1)).2 = iv n (gs.getD y id) := by unfold ltr; rw [if_neg (by omega), show (2 * y + 1) / 2 = y by omega]
          have elc : (ltr n gs (2 * y + 1)).1 = -(y : Int) - 1 := by unfold ltr; rw [if_neg (by omega), show (2 * y + 1) / 2 = y by omega]; simp only; omega
          have kA0 : SC Try.prog 47 [pli (tabN n x.1), pli (tabN n (gs.getD y id))] (pli (tabN n (cmp x.1 (gs.getD y id)))) := then_p hxo.1 hn9
          have kA : SC Try.prog 47 [pli (tabN n x.1), pli (tabN n (iv n (gs.getD y id)))] (pli (tabN n (cmp x.1 (ltr n gs (2 * y + 1)).2))) := by rw [elt]; exact then_p hxo.1 hn9

          obtain ⟨lt1, lt2⟩ := ltr_ok hg (show 2 * y + 1 < 2 * gs.length by omega)
          have hpp := hxo.1.mul lt1
          have hBp := hB.prt hg hxo hxw (2 * y + 1) (by omega)
          have hll := fn_pigeon6 hn hBp
          have kK2 := keyOf_s hn9 (cmp x.1 (ltr n gs (2 * y + 1)).2)
          have hPl := prt_len n gs x (bfs n gs i) (2 * y + 1)
          have hPx := prt_get n gs x (bfs n gs i) (2 * y + 1) hi2 (id, [])
          generalize hq : cmp x.1 (ltr n gs (2 * y + 1)).2 = q at *
          generalize hPp : prt n gs x (bfs n gs i) (2 * y + 1) = Pp at *
          have hP1 : prt n gs x (bfs n gs i) (2 * y + 2) = stp n x (ltr n gs (2 * y + 1)) Pp := by rw [← hPp]; rfl
          unfold stp at hP1
          rw [hq] at hP1
          obtain ⟨vv, hvv⟩ := vK_sc (n := n) Pp (kf n q)
          have hkl : KT.ok (.arr 9) (kf n q) := kf_len hn9 q
          repeat (first | refine S0 ?_ | refine S1 ?_ | refine S2 ?_ | refine S3 ?_ | refine S4 ?_ | refine S5 ?_ | refine S6 ?_ | refine S7 ?_ | refine S8 ?_ | refine S9 ?_ | refine S10 ?_ | refine S11 ?_ | refine S12 ?_ | refine S13 ?_ | refine S15 ?_ | refine S16 ?_ | refine S19 ?_ | refine S20 ?_ | refine S21 ?_ | refine S22 ?_ | refine S23 ?_ | refine S24 ?_ | refine S25 ?_ | refine S26 ?_ | refine S27 ?_ | refine S33 ?_ | refine S34 ?_ | refine S35 ?_ | refine S36 ?_ | refine S45 ?_ | refine S46 ?_ | refine S49 ?_ | refine S50 ?_ | refine S56 ?_ | refine S65 ?_ | refine S68 ?_ | refine S69 ?_ | refine S88 ?_)
          have hFl := hW.len
          obtain ⟨w1, w2, w3⟩ := wN_get n Pp F i hFl (by omega)
          rw [hPx, ← hx] at w1
          have hc := wN_len n Pp F hFl
          rw [show (i : Int).toNat * 3 = i * 3 by simp]
          refine AW.ldm EVx (by first | exact Or.inl rfl | exact Or.inr ⟨rfl, HP.tok_even _⟩ | exact Or.inr (Or.inl ⟨rfl, HP.tok_even _⟩) | exact Or.inr (Or.inr ⟨rfl, HP.tok_odd _⟩) | exact Or.inr (Or.inl rfl) | exact Or.inr (Or.inr (Or.inl rfl)) | exact Or.inr (Or.inr (Or.inr (Or.inl ⟨rfl, HP.tok_odd _⟩))) | exact Or.inr (Or.inr (Or.inr (Or.inr ⟨rfl, HP.tok_even _⟩))) | exact Or.inr (Or.inr (Or.inr (Or.inr ⟨rfl, by assumption⟩))) | exact Or.inr ⟨rfl, by assumption⟩ | exact Or.inr (Or.inl ⟨rfl, by assumption⟩) | exact Or.inr (Or.inr ⟨rfl, by assumption⟩) | exact Or.inr (Or.inr (Or.inr (Or.inl ⟨rfl, by assumption⟩))) | exact Or.inr (Or.inr (Or.inl ⟨rfl, HP.tok_odd _⟩)) | exact Or.inr (Or.inr (Or.inl ⟨rfl, by assumption⟩)) | exact Or.inr (Or.inr (Or.inr rfl)) | exact Or.inr (Or.inr rfl) | exact Or.inr rfl) rfl hb w1 ?_
          repeat (first | refine S0 ?_ | refine S1 ?_ | refine S2 ?_ | refine S3 ?_ | refine S4 ?_ | refine S5 ?_ | refine S6 ?_ | refine S7 ?_ | refine S8 ?_ | refine S9 ?_ | refine S10 ?_ | refine S11 ?_ | refine S12 ?_ | refine S13 ?_ | refine S15 ?_ | refine S16 ?_ | refine S19 ?_ | refine S20 ?_ | refine S21 ?_ | refine S22 ?_ | refine S23 ?_ | refine S24 ?_ | refine S25 ?_ | refine S26 ?_ | refine S27 ?_ | refine S33 ?_ | refine S34 ?_ | refine S35 ?_ | refine S36 ?_ | refine S45 ?_ | refine S46 ?_ | refine S49 ?_ | refine S50 ?_ | refine S56 ?_ | refine S65 ?_ | refine S68 ?_ | refine S69 ?_ | refine S88 ?_)
          refine Scall (args := [pli (tabN n x.1), pli (tabN n (gs.getD y id))]) kA0 ?_
          repeat (first | refine S0 ?_ | refine S1 ?_ | refine S2 ?_ | refine S3 ?_ | refine S4 ?_ | refine S5 ?_ | refine S6 ?_ | refine S7 ?_ | refine S8 ?_ | refine S9 ?_ | refine S10 ?_ | refine S11 ?_ | refine S12 ?_ | refine S13 ?_ | refine S15 ?_ | refine S16 ?_ | refine S19 ?_ | refine S20 ?_ | refine S21 ?_ | refine S22 ?_ | refine S23 ?_ | refine S24 ?_ | refine S25 ?_ | refine S26 ?_ | refine S27 ?_ | refine S33 ?_ | refine S34 ?_ | refine S35 ?_ | refine S36 ?_ | refine S45 ?_ | refine S46 ?_ | refine S49 ?_ | refine S50 ?_ | refine S56 ?_ | refine S65 ?_ | refine S68 ?_ | refine S69 ?_ | refine S88 ?_)
          rw [show (i : Int).toNat * 3 = i * 3 by simp]
          refine AW.ldm EVx (by first | exact Or.inl rfl | exact Or.inr ⟨rfl, HP.tok_even _⟩ | exact Or.inr (Or.inl ⟨rfl, HP.tok_even _⟩) | exact Or.inr (Or.inr ⟨rfl, HP.tok_odd _⟩) | exact Or.inr (Or.inl rfl) | exact Or.inr (Or.inr (Or.inl rfl)) | exact Or.inr (Or.inr (Or.inr (Or.inl ⟨rfl, HP.tok_odd _⟩))) | exact Or.inr (Or.inr (Or.inr (Or.inr ⟨rfl, HP.tok_even _⟩))) | exact Or.inr (Or.inr (Or.inr (Or.inr ⟨rfl, by assumption⟩))) | exact Or.inr ⟨rfl, by assumption⟩ | exact Or.inr (Or.inl ⟨rfl, by assumption⟩) | exact Or.inr (Or.inr ⟨rfl, by assumption⟩) | exact Or.inr (Or.inr (Or.inr (Or.inl ⟨rfl, by assumption⟩))) | exact Or.inr (Or.inr (Or.inl ⟨rfl, HP.tok_odd _⟩)) | exact Or.inr (Or.inr (Or.inl ⟨rfl, by assumption⟩)) | exact Or.inr (Or.inr (Or.inr rfl)) | exact Or.inr (Or.inr rfl) | exact Or.inr rfl) rfl hb w1 ?_
          repeat (first | refine S0 ?_ | refine S1 ?_ | refine S2 ?_ | refine S3 ?_ | refine S4 ?_ | refine S5 ?_ | refine S6 ?_ | refine S7 ?_ | refine S8 ?_ | refine S9 ?_ | refine S10 ?_ | refine S11 ?_ | refine S12 ?_ | refine S13 ?_ | refine S15 ?_ | refine S16 ?_ | refine S19 ?_ | refine S20 ?_ | refine S21 ?_ | refine S22 ?_ | refine S23 ?_ | refine S24 ?_ | refine S25 ?_ | refine S26 ?_ | refine S27 ?_ | refine S33 ?_ | refine S34 ?_ | refine S35 ?_ | refine S36 ?_ | refine S45 ?_ | refine S46 ?_ | refine S49 ?_ | refine S50 ?_ | refine S56 ?_ | refine S65 ?_ | refine S68 ?_ | refine S69 ?_ | refine S88 ?_)
          refine Scall (args := [pli (tabN n (gs.getD y id))]) (back_p hgy hn9) ?_
          repeat (first | refine S0 ?_ | refine S1 ?_ | refine S2 ?_ | refine S3 ?_ | refine S4 ?_ | refine S5 ?_ | refine S6 ?_ | refine S7 ?_ | refine S8 ?_ | refine S9 ?_ | refine S10 ?_ | refine S11 ?_ | refine S12 ?_ | refine S13 ?_ | refine S15 ?_ | refine S16 ?_ | refine S19 ?_ | refine S20 ?_ | refine S21 ?_ | refine S22 ?_ | refine S23 ?_ | refine S24 ?_ | refine S25 ?_ | refine S26 ?_ | refine S27 ?_ | refine S33 ?_ | refine S34 ?_ | refine S35 ?_ | refine S36 ?_ | refine S45 ?_ | refine S46 ?_ | refine S49 ?_ | refine S50 ?_ | refine S56 ?_ | refine S65 ?_ | refine S68 ?_ | refine S69 ?_ | refine S88 ?_)
          refine Scall (args := [pli (tabN n x.1), pli (tabN n (iv n (gs.getD y id)))]) kA ?_
          repeat (first | refine S0 ?_ | refine S1 ?_ | refine S2 ?_ | refine S3 ?_ | refine S4 ?_ | refine S5 ?_ | refine S6 ?_ | refine S7 ?_ | refine S8 ?_ | refine S9 ?_ | refine S10 ?_ | refine S11 ?_ | refine S12 ?_ | refine S13 ?_ | refine S15 ?_ | refine S16 ?_ | refine S19 ?_ | refine S20 ?_ | refine S21 ?_ | refine S22 ?_ | refine S23 ?_ | refine S24 ?_ | refine S25 ?_ | refine S26 ?_ | refine S27 ?_ | refine S33 ?_ | refine S34 ?_ | refine S35 ?_ | refine S36 ?_ | refine S45 ?_ | refine S46 ?_ | refine S49 ?_ | refine S50 ?_ | refine S56 ?_ | refine S65 ?_ | refine S68 ?_ | refine S69 ?_ | refine S88 ?_)
          refine Scall (args := [pli (tabN n q)]) kK2 ?_
          refine AW.glkm (kk := .arr 9) (tk := 5) (key := kf n q) (p := .tup [.sc (.int .i64 vv), .sc (.bool (decide (kf n q ∈ kK n Pp)))]) EVx EVx hkl rfl rfl hS (by rw [lkG_t, hvv]) ?_
          repeat (first | refine S0 ?_ | refine S1 ?_ | refine S2 ?_ | refine S3 ?_ | refine S4 ?_ | refine S5 ?_ | refine S6 ?_ | refine S7 ?_ | refine S8 ?_ | refine S9 ?_ | refine S10 ?_ | refine S11 ?_ | refine S12 ?_ | refine S13 ?_ | refine S15 ?_ | refine S16 ?_ | refine S19 ?_ | refine S20 ?_ | refine S21 ?_ | refine S22 ?_ | refine S23 ?_ | refine S24 ?_ | refine S25 ?_ | refine S26 ?_ | refine S27 ?_ | refine S33 ?_ | refine S34 ?_ | refine S35 ?_ | refine S36 ?_ | refine S45 ?_ | refine S46 ?_ | refine S49 ?_ | refine S50 ?_ | refine S56 ?_ | refine S65 ?_ | refine S68 ?_ | refine S69 ?_ | refine S88 ?_)
          by_cases hkn : known n Pp q = true
          · have hmem := (known_iff hBp hpp).1 hkn
            have hmem2 := (kK_mem hBp hpp).2 hmem
            rw [if_pos hkn] at hP1
            repeat (first | refine S0 ?_ | refine S1 ?_ | refine S2 ?_ | refine S3 ?_ | refine S4 ?_ | refine S5 ?_ | refine S6 ?_ | refine S7 ?_ | refine S8 ?_ | refine S9 ?_ | refine S10 ?_ | refine S11 ?_ | refine S12 ?_ | refine S13 ?_ | refine S15 ?_ | refine S16 ?_ | refine S19 ?_ | refine S20 ?_ | refine S21 ?_ | refine S22 ?_ | refine S23 ?_ | refine S24 ?_ | refine S25 ?_ | refine S26 ?_ | refine S27 ?_ | refine S33 ?_ | refine S34 ?_ | refine S35 ?_ | refine S36 ?_ | refine S45 ?_ | refine S46 ?_ | refine S49 ?_ | refine S50 ?_ | refine S56 ?_ | refine S65 ?_ | refine S68 ?_ | refine S69 ?_ | refine S88 ?_)
            refine ⟨(2, F, wt), ⟨by simp only; omega, by simp only; rw [hP1]; exact hW⟩, SLx, ?_, by simp only; omega⟩
            simp only
            rw [hP1]
            exact ⟨hS, hf, hb, hwe, hwl, h5⟩
          · have hnm : q ∉ Pp.map (·.1) := fun h => hkn ((known_iff hBp hpp).2 h)
            have hnm2 : kf n q ∉ kK n Pp := fun h => hnm ((kK_mem hBp hpp).1 h)
            rw [if_neg hkn] at hP1
            have hkk : insK (kK n Pp) (kf n q) = kK n (Pp ++ [(q, x.2 ++ [(ltr n gs (2 * y + 1)).1])]) := by unfold insK; rw [if_neg hnm2]; simp [kK]
            have hvk : insP (kK n Pp) (vK Pp) (kf n q) (pint Pp.length) = vK (Pp ++ [(q, x.2 ++ [(ltr n gs (2 * y + 1)).1])]) := by unfold insP; rw [if_neg hnm2, vK_snoc]
            rw [elc] at hkk hvk hP1
            repeat (first | refine S0 ?_ | refine S1 ?_ | refine S2 ?_ | refine S3 ?_ | refine S4 ?_ | refine S5 ?_ | refine S6 ?_ | refine S7 ?_ | refine S8 ?_ | refine S9 ?_ | refine S10 ?_ | refine S11 ?_ | refine S12 ?_ | refine S13 ?_ | refine S15 ?_ | refine S16 ?_ | refine S19 ?_ | refine S20 ?_ | refine S21 ?_ | refine S22 ?_ | refine S23 ?_ | refine S24 ?_ | refine S25 ?_ | refine S26 ?_ | refine S27 ?_ | refine S33 ?_ | refine S34 ?_ | refine S35 ?_ | refine S36 ?_ | refine S45 ?_ | refine S46 ?_ | refine S49 ?_ | refine S50 ?_ | refine S56 ?_ | refine S65 ?_ | refine S68 ?_ | refine S69 ?_ | refine S88 ?_)
            refine Scall (args := [pli (tabN n q)]) kK2 ?_
            repeat (first | refine S0 ?_ | refine S1 ?_ | refine S2 ?_ | refine S3 ?_ | refine S4 ?_ | refine S5 ?_ | refine S6 ?_ | refine S7 ?_ | refine S8 ?_ | refine S9 ?_ | refine S10 ?_ | refine S11 ?_ | refine S12 ?_ | refine S13 ?_ | refine S15 ?_ | refine S16 ?_ | refine S19 ?_ | refine S20 ?_ | refine S21 ?_ | refine S22 ?_ | refine S23 ?_ | refine S24 ?_ | refine S25 ?_ | refine S26 ?_ | refine S27 ?_ | refine S33 ?_ | refine S34 ?_ | refine S35 ?_ | refine S36 ?_ | refine S45 ?_ | refine S46 ?_ | refine S49 ?_ | refine S50 ?_ | refine S56 ?_ | refine S65 ?_ | refine S68 ?_ | refine S69 ?_ | refine S88 ?_)
            refine AW.gup (kk := .arr 9) (tk := 5) (key := kf n q) EVx EVx EVx hkl rfl rfl hS ?_
            rw [hkk]
            rw [show PV.sc (.int .i64 (Pp.length : Nat)) = pint Pp.length from rfl, hvk]
            repeat (first | refine S0 ?_ | refine S1 ?_ | refine S2 ?_ | refine S3 ?_ | refine S4 ?_ | refine S5 ?_ | refine S6 ?_ | refine S7 ?_ | refine S8 ?_ | refine S9 ?_ | refine S10 ?_ | refine S11 ?_ | refine S12 ?_ | refine S13 ?_ | refine S15 ?_ | refine S16 ?_ | refine S19 ?_ | refine S20 ?_ | refine S21 ?_ | refine S22 ?_ | refine S23 ?_ | refine S24 ?_ | refine S25 ?_ | refine S26 ?_ | refine S27 ?_ | refine S33 ?_ | refine S34 ?_ | refine S35 ?_ | refine S36 ?_ | refine S45 ?_ | refine S46 ?_ | refine S49 ?_ | refine S50 ?_ | refine S56 ?_ | refine S65 ?_ | refine S68 ?_ | refine S69 ?_ | refine S88 ?_)
            refine AW.app (r := wN n (Pp ++ [(q, x.2 ++ [-(y : Int) - 1])]) (F ++ [(i, -(y : Int) - 1)])) (q := Pp.length + 1) EVx (by first | exact Or.inl rfl | exact Or.inr ⟨rfl, HP.tok_even _⟩ | exact Or.inr (Or.inl ⟨rfl, HP.tok_even _⟩) | exact Or.inr (Or.inr ⟨rfl, HP.tok_odd _⟩) | exact Or.inr (Or.inl rfl) | exact Or.inr (Or.inr (Or.inl rfl)) | exact Or.inr (Or.inr (Or.inr (Or.inl ⟨rfl, HP.tok_odd _⟩))) | exact Or.inr (Or.inr (Or.inr (Or.inr ⟨rfl, HP.tok_even _⟩))) | exact Or.inr (Or.inr (Or.inr (Or.inr ⟨rfl, by assumption⟩))) | exact Or.inr ⟨rfl, by assumption⟩ | exact Or.inr (Or.inl ⟨rfl, by assumption⟩) | exact Or.inr (Or.inr ⟨rfl, by assumption⟩) | exact Or.inr (Or.inr (Or.inr (Or.inl ⟨rfl, by assumption⟩))) | exact Or.inr (Or.inr (Or.inl ⟨rfl, HP.tok_odd _⟩)) | exact Or.inr (Or.inr (Or.inl ⟨rfl, by assumption⟩)) | exact Or.inr (Or.inr (Or.inr rfl)) | exact Or.inr (Or.inr rfl) | exact Or.inr rfl) rfl hb (by first | exact ⟨rfl, rfl, .inr rfl⟩ | exact ⟨rfl, rfl, .inl rfl⟩ | (simp only [evA, upd, putA, Nat.reduceEqDiff, ↓reduceIte]; first | exact ⟨rfl, rfl, .inr rfl⟩ | exact ⟨rfl, rfl, .inl rfl⟩)) (by rw [hc]; omega) (by intro q hq'; simp only [List.mem_cons, List.not_mem_nil, or_false] at hq'; rcases hq' with rfl | rfl | rfl <;> rfl) (by first | omega | (simp only [ints_length, bls_length, List.length_map, List.length_append, List.length_set, List.length_cons, List.length_nil, Int.toNat_natCast]; omega)) (by
              rw [List.drop_zero, List.take_of_length_le (by rw [hc]; omega), wN_snoc n Pp F _ _ hFl]
              rfl) rfl ?_
            repeat (first | refine S0 ?_ | refine S1 ?_ | refine S2 ?_ | refine S3 ?_ | refine S4 ?_ | refine S5 ?_ | refine S6 ?_ | refine S7 ?_ | refine S8 ?_ | refine S9 ?_ | refine S10 ?_ | refine S11 ?_ | refine S12 ?_ | refine S13 ?_ | refine S15 ?_ | refine S16 ?_ | refine S19 ?_ | refine S20 ?_ | refine S21 ?_ | refine S22 ?_ | refine S23 ?_ | refine S24 ?_ | refine S25 ?_ | refine S26 ?_ | refine S27 ?_ | refine S33 ?_ | refine S34 ?_ | refine S35 ?_ | refine S36 ?_ | refine S45 ?_ | refine S46 ?_ | refine S49 ?_ | refine S50 ?_ | refine S56 ?_ | refine S65 ?_ | refine S68 ?_ | refine S69 ?_ | refine S88 ?_)
            have hSn := hW.snoc (show i < Pp.length by omega) q (-(y : Int) - 1)
            rw [hPx, ← hx] at hSn
            obtain ⟨Z, hZ⟩ : ∃ Z, Z = Pp ++ [(q, x.2 ++ [-(y : Int) - 1])] := ⟨_, rfl⟩
            have hZl : Pp.length + 1 = Z.length := by rw [hZ]; simp
            rw [← hZ] at hSn hP1 ⊢
            rw [hZl]
            have tk1 : (hp0.setS 5 (SpC.gmap (.arr 9) (kK n Z) (vK Z))).tok false = 2 * hp0.next := HP.tokF _
            have tk2 : ((hp0.setS 5 (SpC.gmap (.arr 9) (kK n Z) (vK Z))).kill wt).tok false = 2 * hp0.next := HP.tokF _
            rw [tk1]
            refine ⟨(2, F ++ [(i, -(y : Int) - 1)], 2 * hp0.next), ⟨by simp only; omega, by simp only; rw [hP1]; exact hSn⟩, SLx, ?_, by simp only; omega⟩
            simp only
            rw [hP1]
            refine ⟨HP.setS_same hp0 5 (SpC.gmap (.arr 9) (kK n Z) (vK Z)), HP.set_same _ _ _, ?_, by omega, ?_, ?_⟩
            · refine (HP.set_other _ _ (by omega)).trans ?_
              have := HP.add_same ((hp0.setS 5 (SpC.gmap (.arr 9) (kK n Z) (vK Z))).kill wt) false (wN n Z (F ++ [(i, -(y : Int) - 1)]))
              rwa [tk2] at this
            · show 2 * hp0.next < 2 * (hp0.next + 1); omega
            · show 3 ≤ hp0.next + 1; omega

        · repeat (first | refine S0 ?_ | refine S1 ?_ | refine S2 ?_ | refine S3 ?_ | refine S4 ?_ | refine S5 ?_ | refine S6 ?_ | refine S7 ?_ | refine S8 ?_ | refine S9 ?_ | refine S10 ?_ | refine S11 ?_ | refine S12 ?_ | refine S13 ?_ | refine S15 ?_ | refine S16 ?_ | refine S19 ?_ | refine S20 ?_ | refine S21 ?_ | refine S22 ?_ | refine S23 ?_ | refine S24 ?_ | refine S25 ?_ | refine S26 ?_ | refine S27 ?_ | refine S33 ?_ | refine S34 ?_ | refine S35 ?_ | refine S36 ?_ | refine S45 ?_ | refine S46 ?_ | refine S49 ?_ | refine S50 ?_ | refine S56 ?_ | refine S65 ?_ | refine S68 ?_ | refine S69 ?_ | refine S88 ?_)
          exact ⟨(y + 1, F, wt), ⟨hy2, hW⟩, SLx, ⟨hS, hf, hb, hwe, hwl, h5⟩, by simp only; omega⟩
      · obtain rfl : y = gs.length := by omega
        have hnext : prt n gs x (bfs n gs i) (2 * gs.length) = bfs n gs (i + 1) := by
          show _ = (if i < (bfs n gs i).length then prt n gs ((bfs n gs i).getD i (id, [])) (bfs n gs i) (2 * gs.length) else bfs n gs i)
          rw [if_pos hi2, hx]
        have hPx := prt_len n gs x (bfs n gs i) (2 * gs.length)
        have hgt : ∀ b, b < (bfs n gs i).length → (bfs n gs (i + 1)).getD b (id, []) = (bfs n gs i).getD b (id, []) := fun b hb' => by rw [← hnext]; exact prt_get _ _ _ _ _ hb' _
        rw [hnext] at hW hS hf hb hPx
        repeat (first | refine S0 ?_ | refine S1 ?_ | refine S2 ?_ | refine S3 ?_ | refine S4 ?_ | refine S5 ?_ | refine S6 ?_ | refine S7 ?_ | refine S8 ?_ | refine S9 ?_ | refine S10 ?_ | refine S11 ?_ | refine S12 ?_ | refine S13 ?_ | refine S15 ?_ | refine S16 ?_ | refine S19 ?_ | refine S20 ?_ | refine S21 ?_ | refine S22 ?_ | refine S23 ?_ | refine S24 ?_ | refine S25 ?_ | refine S26 ?_ | refine S27 ?_ | refine S33 ?_ | refine S34 ?_ | refine S35 ?_ | refine S36 ?_ | refine S45 ?_ | refine S46 ?_ | refine S49 ?_ | refine S50 ?_ | refine S56 ?_ | refine S65 ?_ | refine S68 ?_ | refine S69 ?_ | refine S88 ?_)
        exact ⟨(i + 1, F, wt), ⟨by simp only; omega, hW, fun b hb' => by
          simp only at hb' ⊢
          by_cases hbi : b = i
          · rw [hbi, hgt i hi2, ← hx]; exact hxnp
          · rw [hgt b (by omega)]; exact hno b (by omega)⟩, SLx, ⟨hS, hf, hb, hwe, hwl, h5⟩, by simp only; omega⟩
  · have hae : i = (bfs n gs i).length := by omega
    have hEi : E = bfs n gs i := by
      obtain ⟨k, h1, h2⟩ := hE
      rw [h2]
      exact bfs_one h1 hae
    have hrr : r = .tup [.lst true 0 0 [], .sc (.bool false)] := by
      rcases hr with ⟨z, z1, z2, z3⟩ | ⟨_, z2⟩
      · exfalso
        rw [hEi] at z1
        obtain ⟨a, ha, ea⟩ := List.getElem_of_mem z1
        exact hno a (by omega) (by rw [show (bfs n gs i).getD a (id, []) = z by simp [List.getD, ha, ea]]; exact z2)
      · exact z2
    rw [hrr]
    repeat (first | refine S0 ?_ | refine S1 ?_ | refine S2 ?_ | refine S3 ?_ | refine S4 ?_ | refine S5 ?_ | refine S6 ?_ | refine S7 ?_ | refine S8 ?_ | refine S9 ?_ | refine S10 ?_ | refine S11 ?_ | refine S12 ?_ | refine S13 ?_ | refine S15 ?_ | refine S16 ?_ | refine S19 ?_ | refine S20 ?_ | refine S21 ?_ | refine S22 ?_ | refine S23 ?_ | refine S24 ?_ | refine S25 ?_ | refine S26 ?_ | refine S27 ?_ | refine S33 ?_ | refine S34 ?_ | refine S35 ?_ | refine S36 ?_ | refine S45 ?_ | refine S46 ?_ | refine S49 ?_ | refine S50 ?_ | refine S56 ?_ | refine S65 ?_ | refine S68 ?_ | refine S69 ?_ | refine S88 ?_)
    exact ⟨.inr rfl, .cl rfl⟩
end Go.Proofs.Ythacglggkgmbhaa
