/- Contracts of functions of this seat, and plain facts for them: used by the claims. No condition of its own. -/
import Derived.Test.YthkbcgggbgkfmaaTPred
set_option linter.unusedVariables false
namespace Go.Proofs.Ythkbcgggbgkfmaa
open Go.RowKit

/-- Block g is a variable that holds the fraction p. -/
def Fr (w : World) (g : Nat) (p : Int × Int) : Prop := w.heap[g]? = some (.cells #[.int .i64 p.1, .int .i64 p.2] 24 (0, 0))
theorem Fr.lt {w : World} {g : Nat} {p : Int × Int} (h : Fr w g p) : g < w.heap.size := (Array.getElem?_eq_some_iff.1 h).1
theorem Fr.c0 {w : World} {g : Nat} {p : Int × Int} (h : Fr w g p) : w.cell? ⟨g, 0, none⟩ = some (.int .i64 p.1) := by unfold Fr at h; simp [World.cell?, h]
theorem Fr.c1 {w : World} {g : Nat} {p : Int × Int} (h : Fr w g p) : w.cell? ⟨g, 1, none⟩ = some (.int .i64 p.2) := by unfold Fr at h; simp [World.cell?, h]
theorem Fr.f {w : World} {g : Nat} {p : Int × Int} (h : Fr w g p) (i : Nat) : w.frozen? ⟨g, i, none⟩ = false := by unfold Fr at h; simp [World.frozen?, h]
theorem Fr.of_block {w w' : World} {g : Nat} {p : Int × Int} (h : Fr w g p) (e : w'.heap[g]? = w.heap[g]?) : Fr w' g p := e.trans h
theorem Fr.below {w w' : World} {g B : Nat} {p : Int × Int} (h : Fr w g p) (hb : Below B w w') (hg : g < B) : Fr w' g p := h.of_block (hb.block g hg)
theorem Fr.new (w : World) (p : Int × Int) : Fr (w.alloc (.cells #[.int .i64 p.1, .int .i64 p.2] 24)) w.heap.size p := heap_alloc_new w _
theorem Fr.alloc {w : World} {g : Nat} {p : Int × Int} (h : Fr w g p) (o : Obj) : Fr (w.alloc o) g p := h.of_block (Below.heap_alloc w o g h.lt)
theorem Fr.put {w : World} {g : Nat} {p : Int × Int} (h : Fr w g p) (a b : Int) : Fr ((w.setCell ⟨g, 0, none⟩ (.int .i64 a)).setCell ⟨g, 1, none⟩ (.int .i64 b)) g (a, b) := by
  unfold Fr at h ⊢
  simp [World.setCell, Array.getElem?_modify, h]

set_option maxRecDepth 100000 in
set_option maxHeartbeats 2000000 in
theorem twisted_c (A : Option Addr) (cap : Nat) (xs : List Int) (w : World) (h : IsInts w A cap xs) (h12 : xs.length ≤ 12) (h9 : ∀ a ∈ xs, a.natAbs ≤ 9) :
    Calls Try.prog 14 #[.slice A xs.length cap] w fun e w' => e = .returned (frac (twist xs)) ∧ Below w.heap.size w w' := by
  have h1 := h.len
  have h2 := h.cap_le
  have H9 := Lib.hid h9
  clear h9
  go_enter Try.func14, Try.ntmps14
  go_wp2
  have HF0 : Fr ((w.alloc (.cells #[.int .i64 0, .int .i64 0] 24)).alloc (.cells #[.int .i64 1, .int .i64 0] 24)) (w.heap.size + 1) (1, 0) := by
    have := Fr.new (w.alloc (.cells #[.int .i64 0, .int .i64 0] 24)) (1, 0)
    simpa using this
  have HR0 : Fr ((w.alloc (.cells #[.int .i64 0, .int .i64 0] 24)).alloc (.cells #[.int .i64 1, .int .i64 0] 24)) w.heap.size (0, 0) := (Fr.new w (0, 0)).alloc _
  go_loopw [5, 6, 10] (fun _ _ i wr => ∃ k : Nat, k ≤ xs.length ∧ i = .int .i64 k ∧ Fr wr (w.heap.size + 1) (twist (xs.take k)) ∧ Fr wr w.heap.size (0, 0) ∧ Below w.heap.size w wr) (fun _ _ i _ => xs.length - (intOf i).toNat)
  case atStart => exact ⟨0, Nat.zero_le _, rfl, HF0, HR0, ((Below.refl _ _).alloc (Nat.le_refl _) _).alloc (by simp) _⟩
  case round =>
    obtain ⟨k, hk, rfl, hF, hR, hb⟩ := hrel
    by_cases hlt : k < xs.length
    · obtain ⟨b, o, rfl, hbl, hc⟩ := h.row (by intro e; simp [e] at hlt)
      have hck := (hb.cell (p := ⟨b, o + k, none⟩) hbl).trans (hc k hlt)
      rw [getD_lt 0 hlt] at hck
      clear hc
      have ha9 := H9.out _ (List.getElem_mem hlt)
      have HT := Lib.hid (twist_take hlt)
      have hn := twist_norm (xs.take k)
      have hbd := twist_bd (l := xs.take k) (by simp; omega) (fun a ha => H9.out a (List.mem_of_mem_take ha))
      generalize xs[k] = a at *
      generalize twist (xs.take k) = p at *
      have HV := Lib.hid (low_inv hn)
      have hqn := inv_norm hn
      have hqb := inv_bd (by omega) hbd
      have hpb := plus_bd hqb ha9
      have hpn := plus_norm hqn a
      have HP := Lib.hid (low_norm hpn)
      obtain ⟨n, d⟩ := p
      obtain ⟨hb1', hb2'⟩ := hbd
      generalize inv (n, d) = q at *
      obtain ⟨qn, qd⟩ := q
      obtain ⟨hq1', hq2'⟩ := hqb
      obtain ⟨hp1', hp2'⟩ := hpb
      simp only [plusF] at hb1' hb2' hq1' hq2' hp1' hp2' HP HV HT
      clear hn hqn hpn
      have hm : (a * qd).natAbs ≤ 9 * 1000000000000 := by rw [Int.natAbs_mul]; exact Nat.mul_le_mul ha9 hq2'
      have hm1 : -9000000000000 ≤ a * qd := by omega
      have hm2 : a * qd ≤ 9000000000000 := by omega
      have hq3 : -1000000000000 ≤ qn := by omega
      have hq4 : qn ≤ 1000000000000 := by omega
      have HP' : Hid (low (a * qd + qn) qd = (qn + a * qd, qd)) := by unfold Hid; rw [Int.add_comm]; exact HP.out
      have c0 := hF.c0
      have c1 := hF.c1
      have l0 := hF.lt
      go_wp2_with fail
      refine (lowest_c d n _ (by omega) (by omega)).mono ?_
      rw [HV.out]
      rintro e w1 ⟨rfl, hb1⟩
      have hF1 := hF.below hb1 l0
      have hR1 := hR.below hb1 hR.lt
      have hsz1 := hb1.size
      clear c0 c1 hck
      go_wp2_with fail
      refine (lowest_c (a * qd + qn) qd _ (by omega) (by omega)).mono ?_
      rw [HP'.out]
      rintro e w2 ⟨rfl, hb2⟩
      have hl1 : w.heap.size + 1 < w1.heap.size := by omega
      have hF2 := (hF1.alloc (.cells #[.int .i64 qn, .int .i64 qd] 24)).below hb2 (by simp; omega)
      have hR2 := (hR1.alloc (.cells #[.int .i64 qn, .int .i64 qd] 24)).below hb2 (by simp; omega)
      have c0 := hF2.c0
      have c1 := hF2.c1
      have f0 := hF2.f 0
      have f1 := hF2.f 1
      go_wp2
      go_roundw
      case rel => exact ⟨k + 1, by omega, by go_num, by rw [HT.out]; exact hF2.put _ _, hR2.of_block (by rw [Below.heap_setCell _ _ _ _ (by simp), Below.heap_setCell _ _ _ _ (by simp)]),
        (((hb.trans (hb1.mono hb.size)).alloc (by omega) _).trans (hb2.mono (by simp; omega))).setCell (by simp) _ |>.setCell (by simp) _⟩
      case measure => simp [intOf]; omega
    · obtain rfl : k = xs.length := by omega
      have c0 := hF.c0
      have c1 := hF.c1
      have r0 := hR.c0
      have r1 := hR.c1
      have f0 := hR.f 0
      have f1 := hR.f 1
      rw [List.take_length] at c0 c1
      obtain ⟨⟨n, d⟩, hp⟩ : ∃ p, twist xs = p := ⟨_, rfl⟩
      rw [hp] at c0 c1
      have HP := Lib.hid hp
      clear hp
      have hR' := hR
      go_wp2
      rw [HP.out]
      have hX := hR'.put n d
      exact bodyPost_ret (v := .agg #[.int .i64 n, .int .i64 d]) (by simp [results, Try.results14, go_sem, hX.c0, hX.c1]) rfl ⟨rfl, (hb.setCell (Nat.le_refl _) _).setCell (Nat.le_refl _) _⟩

theorem fitV_agg (n d : Int) : ∃ a b, fitV n d = .agg #[.int .i64 a, .int .i64 b] := by
  unfold fitV
  split
  · exact ⟨_, _, rfl⟩
  · exact ⟨_, _, rfl⟩
/-- What FromTwists gives back. -/
def ftV (xs : List Int) : Value := if 12 < xs.length then .agg #[.int .i64 0, .int .i64 0] else if xs.any big9 = true then .agg #[.int .i64 0, .int .i64 0] else fitV (twist xs).1 (twist xs).2
def ftE (xs : List Int) : Int := if 12 < xs.length then 2 else if xs.any big9 = true then 1 else fitE (twist xs).1 (twist xs).2
theorem small9 {xs : List Int} (h : xs.any big9 = false) : ∀ a ∈ xs, a.natAbs ≤ 9 := by
  intro a ha
  have := List.any_eq_false.1 h a ha
  simp only [big9, decide_eq_true_eq] at this
  omega

set_option maxRecDepth 100000 in
set_option maxHeartbeats 2000000 in
theorem fromTwists_c (A : Option Addr) (cap : Nat) (xs : List Int) (w : World) (h : IsInts w A cap xs) :
    Calls Try.prog 6 #[.slice A xs.length cap] w fun e w' => e = .returned (.tuple #[ftV xs, .int .i64 (ftE xs)]) ∧ Below w.heap.size w w' := by
  have h1 := h.len
  have h2 := h.cap_le
  have ha := h.alloc (.cells #[.int .i64 0, .int .i64 0] 24)
  by_cases h12 : 12 < xs.length
  · have HV : Hid (ftV xs = .agg #[.int .i64 0, .int .i64 0]) := if_pos h12
    have HE : Hid (ftE xs = 2) := if_pos h12
    go_enter Try.func6, Try.ntmps6
    go_wp2
    rw [HV.out, HE.out]
    exact bodyPost_ret (v := .tuple #[.agg #[.int .i64 0, .int .i64 0], .int .i64 2]) (by simp [results, Try.results6, go_sem]) rfl ⟨rfl, (Below.refl _ _).alloc (Nat.le_refl _) _⟩
  · cases hany : xs.any big9
    · have HA := Lib.hid hany
      have H9 := Lib.hid (small9 hany)
      have HV : Hid (ftV xs = fitV (twist xs).1 (twist xs).2) := by unfold Hid ftV; rw [if_neg h12, hany]; rfl
      have HE : Hid (ftE xs = fitE (twist xs).1 (twist xs).2) := by unfold Hid ftE; rw [if_neg h12, hany]; rfl
      clear hany
      go_enter Try.func6, Try.ntmps6
      go_wp2_with (go_at_call 12; refine (containsFunc_a _ _ _ _ ha false HA.out.symm).mono ?_; rintro e w' ⟨rfl, rfl⟩)
      have HF0 : Fr ((w.alloc (.cells #[.int .i64 0, .int .i64 0] 24)).alloc (.cells #[.int .i64 1, .int .i64 0] 24)) (w.heap.size + 1) (1, 0) := by
        have := Fr.new (w.alloc (.cells #[.int .i64 0, .int .i64 0] 24)) (1, 0)
        simpa using this
      have HR0 : Fr ((w.alloc (.cells #[.int .i64 0, .int .i64 0] 24)).alloc (.cells #[.int .i64 1, .int .i64 0] 24)) w.heap.size (0, 0) := (Fr.new w (0, 0)).alloc _
      go_loopw [6, 17] (fun _ i wr => ∃ k : Nat, k ≤ xs.length ∧ i = .int .i64 k ∧ Fr wr (w.heap.size + 1) (twist (xs.take k)) ∧ Fr wr w.heap.size (0, 0) ∧ Below w.heap.size w wr) (fun _ i _ => xs.length - (intOf i).toNat)
      case atStart => exact ⟨0, Nat.zero_le _, rfl, HF0, HR0, ((Below.refl _ _).alloc (Nat.le_refl _) _).alloc (by simp) _⟩
      case round =>
        obtain ⟨k, hk, rfl, hF, hR, hb⟩ := hrel
        by_cases hlt : k < xs.length
        · obtain ⟨b, o, rfl, hbl, hc⟩ := h.row (by intro e; simp [e] at hlt)
          have hck := (hb.cell (p := ⟨b, o + k, none⟩) hbl).trans (hc k hlt)
          rw [getD_lt 0 hlt] at hck
          clear hc
          have ha9 := H9.out _ (List.getElem_mem hlt)
          have HT := Lib.hid (twist_take hlt)
          have hbd := twist_bd (l := xs.take k) (by simp; omega) (fun a ha => H9.out a (List.mem_of_mem_take ha))
          generalize xs[k] = a at *
          generalize twist (xs.take k) = p at *
          have hqb := inv_bd (by omega) hbd
          obtain ⟨n, d⟩ := p
          obtain ⟨hb1', hb2'⟩ := hbd
          have HV : Hid (inv (n, d) = inv (n, d)) := rfl
          obtain ⟨⟨qn, qd⟩, hq⟩ : ∃ q, inv (n, d) = q := ⟨_, rfl⟩
          rw [hq] at hqb HT
          have HQ := Lib.hid hq
          clear hq HV
          obtain ⟨hq1', hq2'⟩ := hqb
          simp only [plusF] at hb1' hb2' hq1' hq2' HT
          have hm : (a * qd).natAbs ≤ 9 * 1000000000000 := by rw [Int.natAbs_mul]; exact Nat.mul_le_mul ha9 hq2'
          have hm1 : -9000000000000 ≤ a * qd := by omega
          have hm2 : a * qd ≤ 9000000000000 := by omega
          have hq3 : -1000000000000 ≤ qn := by omega
          have hq4 : qn ≤ 1000000000000 := by omega
          have c0 := hF.c0
          have c1 := hF.c1
          have l0 := hF.lt
          go_wp2_with fail
          refine (inverse_c n d _ (by omega) (by omega)).mono ?_
          rw [HQ.out]
          rintro e w1 ⟨rfl, hb1⟩
          have hF1 := hF.below hb1 l0
          have hR1 := hR.below hb1 hR.lt
          have hsz1 := hb1.size
          clear c0 c1 hck
          go_wp2_with fail
          refine (plus_c qn qd a _ (by omega) (by omega)).mono ?_
          rintro e w2 ⟨rfl, hb2⟩
          have hl1 : w.heap.size + 1 < w1.heap.size := by omega
          have hF2 := hF1.below hb2 (by omega)
          have hR2 := hR1.below hb2 (by omega)
          have c0 := hF2.c0
          have c1 := hF2.c1
          have f0 := hF2.f 0
          have f1 := hF2.f 1
          go_wp2
          go_roundw
          case rel => exact ⟨k + 1, by omega, by go_num, by rw [HT.out]; exact hF2.put _ _, hR2.of_block (by rw [Below.heap_setCell _ _ _ _ (by simp), Below.heap_setCell _ _ _ _ (by simp)]),
            ((hb.trans (hb1.mono hb.size)).trans (hb2.mono (by omega))).setCell (by simp) _ |>.setCell (by simp) _⟩
          case measure => simp [intOf]; omega
        · obtain rfl : k = xs.length := by omega
          have c0 := hF.c0
          have c1 := hF.c1
          have l0 := hR.lt
          rw [List.take_length] at c0 c1
          obtain ⟨⟨n, d⟩, hp⟩ : ∃ p, twist xs = p := ⟨_, rfl⟩
          rw [hp] at c0 c1
          have HP := Lib.hid hp
          clear hp
          obtain ⟨va, vb, hV⟩ := fitV_agg n d
          have HFV := Lib.hid hV
          clear hV
          go_wp2_with fail
          refine (fit_c n d _).mono ?_
          rw [HFV.out]
          rintro e w1 ⟨rfl, hb1⟩
          have hR1 := hR.below hb1 l0
          have r0 := hR1.c0
          have r1 := hR1.c1
          have f0 := hR1.f 0
          have f1 := hR1.f 1
          clear c0 c1
          go_wp2
          rw [HV.out, HE.out, HP.out, HFV.out]
          have hX := hR1.put va vb
          exact bodyPost_ret (v := .tuple #[.agg #[.int .i64 va, .int .i64 vb], .int .i64 (fitE n d)]) (by simp [results, Try.results6, go_sem, hX.c0, hX.c1]) rfl ⟨rfl, ((hb.trans (hb1.mono hb.size)).setCell (Nat.le_refl _) _).setCell (Nat.le_refl _) _⟩
    · have HA := Lib.hid hany
      have HV : Hid (ftV xs = .agg #[.int .i64 0, .int .i64 0]) := by unfold Hid ftV; rw [if_neg h12, hany]; rfl
      have HE : Hid (ftE xs = 1) := by unfold Hid ftE; rw [if_neg h12, hany]; rfl
      clear hany
      go_enter Try.func6, Try.ntmps6
      go_wp2_with (go_at_call 12; refine (containsFunc_a _ _ _ _ ha true HA.out.symm).mono ?_; rintro e w' ⟨rfl, rfl⟩)
      rw [HV.out, HE.out]
      exact bodyPost_ret (v := .tuple #[.agg #[.int .i64 0, .int .i64 0], .int .i64 1]) (by simp [results, Try.results6, go_sem]) rfl ⟨rfl, (Below.refl _ _).alloc (Nat.le_refl _) _⟩
end Go.Proofs.Ythkbcgggbgkfmaa
