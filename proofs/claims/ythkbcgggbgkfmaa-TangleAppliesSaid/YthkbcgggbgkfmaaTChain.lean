/- Contracts of functions of this seat, and plain facts for them: used by the claims. No condition of its own. -/
import Derived.Test.YthkbcgggbgkfmaaTExpand
import Derived.IntWalk
set_option linter.unusedVariables false
namespace Go.Proofs.Ythkbcgggbgkfmaa
open Go.RowKit

/-- What Chain comes to: a slice of its own that holds l. -/
def ChPost (l : List Int) (w : World) (e : Ending) (w' : World) : Prop := ∃ v, e = .returned v ∧ w'.ownsRow w.heap.size 3 1 v l.length (l.map (Value.int .i64)) ∧ Below w.heap.size w w'
theorem own_mono {w : World} {base base' : Nat} {e : TypeId} {n : Nat} {v : Value} {vs : List Value} {size : Nat} (h : w.ownsRow base e size v n vs) (hb : base' ≤ base) : w.ownsRow base' e size v n vs := by
  refine ⟨h.1, h.2.imp id ?_⟩
  rintro ⟨g, cap, cur, h1, h2, h3⟩
  exact ⟨g, cap, cur, h1, Nat.le_trans hb h2, h3⟩

set_option maxRecDepth 100000 in
set_option maxHeartbeats 2000000 in
theorem chain_n : ∀ (f n d : Nat) (w : World), d ≤ f → n ≤ 1000000 → d ≤ 1000000 →
    Calls Try.prog 11 #[.agg #[.int .i64 n, .int .i64 d]] w (ChPost (cf d n d).reverse w) := by
  intro f
  induction f with
  | zero =>
    intro n d w hf hn hd
    obtain rfl : d = 0 := by omega
    rw [cf_zero]
    go_enter Try.func11, Try.ntmps11
    go_wp2
    go_ret
    exact ⟨_, rfl, World.ownsRow_nil _ _ _ _, (Below.refl _ _).alloc (Nat.le_refl _) _⟩
  | succ f ih =>
    intro n d w hf hn hd
    by_cases h0 : d = 0
    · subst h0
      rw [cf_zero]
      go_enter Try.func11, Try.ntmps11
      go_wp2
      go_ret
      exact ⟨_, rfl, World.ownsRow_nil _ _ _ _, (Below.refl _ _).alloc (Nat.le_refl _) _⟩
    · have hd0 : 0 < d := by omega
      have hm := Nat.mod_lt n hd0
      have hle := cf_len d d (n % d)
      have HST : Hid ((cf d n d).reverse = (cf d d (n % d)).reverse ++ [(n : Int) / (d : Int)]) := by unfold Hid; rw [cf_step hd0 (Nat.le_refl _)]; simp
      have IH : Hid (∀ W : World, Calls Try.prog 11 #[.agg #[.int .i64 d, .int .i64 ((n % d : Nat) : Int)]] W (ChPost (cf d d (n % d)).reverse W)) := by
        intro W
        have := ih d (n % d) W (by omega) hd (by omega)
        rwa [cf_any (n % d) d d (n % d) (Nat.le_refl _) (by omega)] at this
      have hll : (cf d d (n % d)).reverse.length ≤ 1000000 := by rw [List.length_reverse]; omega
      rw [HST.out]
      generalize (cf d d (n % d)).reverse = l at *
      clear ih hle HST
      have hdi : (0 : Int) < (d : Int) := by omega
      have hne : ((d : Int) == 0) = false := by rw [beq_eq_false_iff_ne]; omega
      obtain ⟨i0, hi0, hz0, hz1, hz2⟩ := info_parts info3
      have hq1 : (n : Int) / (d : Int) ≤ n := Int.ediv_le_self _ (by omega)
      have hq0 : 0 ≤ (n : Int) / (d : Int) := Int.ediv_nonneg (by omega) (by omega)
      have hwr : IntKind.i64.wrap ((n : Int) / (d : Int)) = (n : Int) / (d : Int) := IntWalk.i64_in _ (by omega)
      go_enter Try.func11, Try.ntmps11
      go_wp2_with fail
      go_region_held3 (fun w' => w'.cell? ⟨w.heap.size, 0, none⟩ = some (.int .i64 (n : Int)) ∧ w'.cell? ⟨w.heap.size, 1, none⟩ = some (.int .i64 (d : Int))) (go_keep)
        (first | (go_at_call 11; refine (IH.out _).mono ?_; rintro e w1 ⟨v, rfl, ho, hb1⟩; have j0 := hb1.cell (p := ⟨w.heap.size, 0, none⟩) (by (simp; try omega)); have j1 := hb1.cell (p := ⟨w.heap.size, 1, none⟩) (by (simp; try omega))) | (refine step_append_lies _ (by rfl) _ _ _ (by rfl) w.heap.size 3 i0 (.int .i64 0) 1 8 Try.underlying22 hi0 hz0 hz1 hz2 rfl (by omega) v l.length (l.map (Value.int .i64)) (by rfl) (by first | exact own_mono ho (by (simp; try omega)) | exact (own_mono ho (by (simp; try omega))).alloc _) _ 1 1 [.int .i64 ((n : Int) / (d : Int))] (by rfl) rfl (by first | exact cell_one_new _ _ _ | (intro j u hj; cases j with | zero => (simp at hj; subst hj; exact (hb1.cell (p := ⟨w.heap.size + 1, 0, none⟩) (by (simp; try omega))).trans (by first | simp | go_simp)) | succ j => (simp at hj))) (by simp [Value.oneCell']) (by omega) (by unfold maxLen; omega) (by omega) (by have := hb1.size; simp at this; simp; omega) _ rfl ?_; intro g cap w2 ho2 hg2 hat2 hlt2; have hb2 := (Below.refl (w.heap.size + 1) _).grown hg2 (by have := hb1.size; simp at this; simp; omega) (fun k hk => by have := (ho.lt k hk).1; simp at this; omega); have k0 := hb2.cell (p := ⟨w.heap.size, 0, none⟩) (by (simp; try omega)); have k1 := hb2.cell (p := ⟨w.heap.size, 1, none⟩) (by (simp; try omega))))
      all_goals
        have hbw : Below w.heap.size w w2 := by first
          | exact ((((Below.refl _ _).alloc (Nat.le_refl _) _).drew.trans (hb1.mono (by (simp; try omega)))).alloc (by have := hb1.size; simp at this; omega) _).trans (hb2.mono (by omega))
          | exact ((((Below.refl _ _).alloc (Nat.le_refl _) _).alloc (by (simp; try omega)) _).drew.trans (hb1.mono (by (simp; try omega)))).trans (hb2.mono (by omega))
        clear k0 k1 j0 j1
        go_wp2
        go_ret
        exact ⟨_, rfl, by simpa using ho2, hbw⟩

theorem Mine.set {w : World} {B b o cap i : Nat} {xs : List Int} (h : Mine w B (some ⟨b, o, none⟩) cap xs) (hi : i < xs.length) {z : Int} (hz : in64 z) : Mine (w.setCell ⟨b, o + i, none⟩ (.int .i64 z)) B (some ⟨b, o, none⟩) cap (xs.set i z) := by
  have h1 := h.ints.len
  obtain ⟨b', o', e, hbl, hc⟩ := h.ints.row (by rintro rfl; simp at hi)
  cases e
  refine ⟨⟨by simpa using h1, h.ints.cap_le, fun j hj => ?_, fun _ => ⟨b, o, rfl, by simpa [World.setCell] using hbl, fun j hj => ?_⟩⟩, fun b' o' hA => ?_, fun b' o' hA j hj => ?_⟩
  · have hj' : j < xs.length := by simpa using hj
    rw [getD_lt 0 hj, List.getElem_set]
    split
    · exact hz
    · have := h.ints.bd j hj'; rw [getD_lt 0 hj'] at this; exact this
  · have hj' : j < xs.length := by simpa using hj
    rw [getD_lt 0 hj, List.getElem_set]
    by_cases e : i = j
    · subst e
      rw [if_pos rfl]
      exact World.cell?_setCell_same _ _ _ (hc i hi)
    · rw [if_neg e, World.cell?_setCell_other _ _ _ _ (fun e' => e (Nat.add_left_cancel (congrArg Addr.off e'))), hc j hj', getD_lt 0 hj']
  · cases hA; have := h.low b o rfl; exact ⟨this.1, by simpa [World.setCell] using this.2⟩
  · cases hA
    have := h.free b o rfl j (by simpa using hj)
    rw [World.frozen?_setCell]; exact this
/-- The first k elements negated. -/
def negU (l : List Int) (k : Nat) : List Int := (l.take k).map (fun x => -x) ++ l.drop k
theorem negU_zero (l : List Int) : negU l 0 = l := by simp [negU]
theorem negU_all (l : List Int) : negU l l.length = l.map (fun x => -x) := by simp [negU]
theorem negU_len (l : List Int) (k : Nat) : (negU l k).length = l.length := by simp [negU]; omega
theorem negU_get {l : List Int} {k : Nat} (h : k < l.length) : (negU l k).getD k 0 = l[k] := by
  rw [getD_lt 0 (by rw [negU_len]; exact h)]
  simp only [negU]
  rw [List.getElem_append_right (by simp; omega)]
  simp [Nat.min_eq_left (Nat.le_of_lt h)]
theorem negU_succ {l : List Int} {k : Nat} (h : k < l.length) : negU l (k + 1) = (negU l k).set k (-l[k]) := by
  simp only [negU]
  rw [List.take_succ_eq_append_getElem h, List.map_append, List.set_append_right _ _ (by simp; omega)]
  simp only [List.length_map, List.length_take, Nat.min_eq_left (Nat.le_of_lt h), Nat.sub_self]
  have hd := List.drop_eq_getElem_cons h
  generalize l.drop (k + 1) = t at *
  rw [hd]
  simp
theorem chain_nn (n d : Nat) (w : World) (hn : n ≤ 1000000) (hd : d ≤ 1000000) :
    Calls Try.prog 11 #[.agg #[.int .i64 n, .int .i64 d]] w (ChPost (cf d n d).reverse w) := chain_n d n d w (Nat.le_refl _) hn hd

set_option maxRecDepth 100000 in
set_option maxHeartbeats 2000000 in
theorem chain_c (n d : Int) (w : World) (hf : faultF n d = 0) :
    Calls Try.prog 11 #[.agg #[.int .i64 n, .int .i64 d]] w fun e w' => ∃ A cap, e = .returned (.slice A (expand n d).length cap) ∧ IsInts w' A cap (expand n d) ∧ Below w.heap.size w w' := by
  obtain ⟨⟨hn1, hn2⟩, ⟨hd1, hd2⟩, hN⟩ := fault_zero hf
  obtain ⟨D, rfl⟩ : ∃ D : Nat, d = D := ⟨d.toNat, by omega⟩
  clear hf hN
  by_cases h0 : 0 ≤ n
  · obtain ⟨N, rfl⟩ : ∃ N : Nat, n = N := ⟨n.toNat, by omega⟩
    have hE : expand N D = (cf D N D).reverse := by
      unfold expand sgnF
      rw [if_neg (by omega), Int.toNat_natCast, Int.natAbs_natCast]
      simp
    rw [hE]
    refine (chain_nn N D w (by omega) (by omega)).mono fun e w' hh => ?_
    obtain ⟨v, rfl, ho, hb⟩ := hh
    obtain ⟨A, c, rfl, hI⟩ := ints_of_own ho (fun i hi => by
      rw [getD_lt 0 hi]
      have := cf_mem _ _ _ _ (List.mem_reverse.1 (List.getElem_mem hi)) (by omega) (by omega)
      unfold in64; omega)
    exact ⟨A, c, rfl, hI, hb⟩
  · obtain ⟨N, rfl⟩ : ∃ N : Nat, n = -(N : Int) := ⟨n.natAbs, by omega⟩
    have hE : expand (-(N : Int)) D = ((cf D N D).reverse).map (fun x => -x) := by
      unfold expand sgnF
      rw [if_pos (by omega), Int.toNat_natCast, Int.natAbs_neg, Int.natAbs_natCast, ← List.map_reverse]
      simp
    have HB : Hid (∀ x ∈ (cf D N D).reverse, 0 ≤ x ∧ x ≤ 1000000) := fun x hx => cf_mem _ _ _ _ (List.mem_reverse.1 hx) (by omega) (by omega)
    rw [hE]
    have HC := Lib.hid (chain_nn N D · (by omega) (by omega))
    generalize (cf D N D).reverse = l at *
    clear hE
    have hneg : -(N : Int) < 0 := by omega
    go_enter Try.func11, Try.ntmps11
    go_wp2_with (go_at_call 11; refine (HC.out _).mono ?_; rintro e w1 ⟨v, rfl, ho, hb1⟩; obtain ⟨A, c, rfl, hI⟩ := ints_of_own ho (fun i hi => by rw [getD_lt 0 hi]; have := HB.out _ (List.getElem_mem hi); unfold in64; omega))
    have hmine := (Mine.of_own ho hI).mono (B' := w.heap.size) (by (simp; try omega))
    have hbw : Below w.heap.size w w1 := ((Below.refl _ _).alloc (Nat.le_refl _) _).trans (hb1.mono (by (simp; try omega)))
    clear ho hb1 hI
    have hIl := hmine.ints.cap_le
    have hIc := hmine.ints.len
    go_loopw [4, 17] (fun _ i wr => ∃ k : Nat, k ≤ l.length ∧ i = .int .i64 k ∧ Mine wr w.heap.size A c (negU l k) ∧ Below w.heap.size w wr) (fun _ i _ => l.length - (intOf i).toNat)
    case atStart => exact ⟨0, Nat.zero_le _, rfl, by rw [negU_zero]; exact hmine, hbw⟩
    case round =>
      obtain ⟨k, hk, rfl, hm, hb⟩ := hrel
      by_cases hlt : k < l.length
      · have hlk := negU_len l k
        obtain ⟨b, o, rfl, hbl, hc⟩ := hm.ints.row (by intro e; rw [e] at hlk; simp at hlk; omega)
        have hck := hc k (by rw [hlk]; exact hlt)
        rw [negU_get hlt] at hck
        have hfk := hm.free b o rfl k (by rw [hlk]; exact hlt)
        have hlow := (hm.low b o rfl).1
        have hbk := HB.out _ (List.getElem_mem hlt)
        have HS := Lib.hid (negU_succ hlt)
        have hset := hm.set (i := k) (by rw [hlk]; exact hlt) (z := -l[k]) (by unfold in64; omega)
        clear hc hlk
        go_wp2
        go_roundw
        case rel => exact ⟨k + 1, by omega, by go_num, by rw [HS.out]; exact hset, hb.setCell hlow _⟩
        case measure => simp [intOf]; omega
      · obtain rfl : k = l.length := by omega
        have hlk := negU_len l l.length
        go_wp2
        go_ret
        rw [negU_all] at hm
        exact ⟨A, c, by simp, hm.ints, hb⟩
end Go.Proofs.Ythkbcgggbgkfmaa
