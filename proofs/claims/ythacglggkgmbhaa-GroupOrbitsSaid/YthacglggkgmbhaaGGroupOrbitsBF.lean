/- Contracts of functions of this seat, and plain facts for them: used by the claims. No condition of its own. -/
import Derived.Test.YthacglggkgmbhaaGGroupOrbitsBE
import Derived.Test.YthacglggkgmbhaaGGroupOrbitsAZ
import Derived.Test.YthacglggkgmbhaaGGroupOrbitsAU
set_option linter.unusedVariables false
set_option linter.unusedSimpArgs false
namespace Go.Proofs.Ythacglggkgmbhaa
open Go.RowKit

theorem zero_bool (w : World) : (zeroValue 4).run Try.prog w = .ok (.bool false) w := by kernel_rfl

def seenOf (xs : List Int) (k : Nat) (x : Int) : Bool := (xs.take k).contains x

theorem seenOf_mem {xs : List Int} {k : Nat} {x : Int} : seenOf xs k x = true ↔ x ∈ xs.take k := by simp [seenOf]
theorem seenOf_not {xs : List Int} {k : Nat} {x : Int} : seenOf xs k x = false ↔ ¬ x ∈ xs.take k := by simp [seenOf]
theorem seenOf_succ {xs : List Int} {k : Nat} (hk : k < xs.length) (x : Int) : seenOf xs (k + 1) x = (x == xs[k] || seenOf xs k x) := by
  unfold seenOf
  rw [List.take_succ_eq_append_getElem hk, List.contains_eq_any_beq, List.any_append, List.contains_eq_any_beq]
  simp [Bool.or_comm]

set_option maxHeartbeats 400000 in
theorem fault_c (A : Option Addr) (cap : Nat) (xs : List Int) (w : World) (h : IsInts w A cap xs) :
    Calls Try.prog 31 #[.slice A xs.length cap] w fun e w' => e = .returned (.int .i64 (permFault xs)) ∧ Below w.heap.size w w' := by
  have h1 := h.len
  have h2 := h.cap_le
  have hmm := @run_makeMap Try.prog
  go_enter Try.func31, Try.ntmps31
  go_wp2
  · go_ret
    exact ⟨ret_int (by rw [permFault, if_pos (by omega)]), Below.refl _ _⟩
  · go_loopw [5, 12] (fun _ i wr => ∃ k : Nat, k ≤ xs.length ∧ i = .int .i64 k ∧ (∀ j, j < k → pfAt xs j = 0) ∧ ISet Try.prog 3 wr w.heap.size k (seenOf xs k) ∧ Below w.heap.size w wr) (fun _ i _ => xs.length - (intOf i).toNat)
    case atStart => exact ⟨0, Nat.zero_le _, rfl, fun j hj => absurd hj (by omega), (IMap.made w _ _).congr (fun x => by simp [seenOf]), (Below.refl _ _).alloc (Nat.le_refl _) _⟩
    case round =>
      obtain ⟨k, hk, rfl, hz, hs, hb⟩ := hrel
      have HZ := Lib.hid hz
      clear hz
      by_cases hlt : k < xs.length
      · obtain ⟨b, o, rfl, hbl, hc⟩ := h.row (by intro e; simp [e] at hlt)
        have hck := (hb.cell (p := ⟨b, o + k, none⟩) hbl).trans (hc k hlt)
        clear hc
        have hbd := h.bd k hlt
        rw [getD_lt 0 hlt] at hbd hck
        unfold in64 at hbd
        obtain ⟨hb1, hb2⟩ := hbd
        have hwf := wf_of_in64 hb1 hb2
        go_wp2_with (first
          | (at_lookup; refine wpList_lookup_set _ rfl _ _ 81 rfl 3 4 Try.underlying3 Try.underlying81 zero_bool w.heap.size k (seenOf xs k) rfl hs _ rfl hwf ?_)
          | (at_mapUpdate; refine wpList_update_set _ rfl _ _ _ 81 rfl 3 4 Try.underlying3 Try.underlying81 w.heap.size k (seenOf xs k) rfl hs (by unfold maxLen; omega) _ rfl hwf rfl ?_; intro w1 hs1 hg1))
        · go_ret
          exact ⟨ret_int (permFault_at (by omega) hlt HZ.out (pfAt_one hlt ‹_›) (by omega)).symm, hb⟩
        · go_ret
          exact ⟨ret_int (permFault_at (by omega) hlt HZ.out (pfAt_five hlt ‹_› (seenOf_mem.1 ‹_›)) (by omega)).symm, hb⟩
        · have HS := seenOf_succ hlt
          have h0 := pfAt_zero hlt ‹0 ≤ xs[k] ∧ _› (seenOf_not.1 ‹_›)
          go_roundw
          case rel => exact ⟨k + 1, by omega, by go_num, pfAt_more HZ.out h0, hs1.congr (fun x => by rw [HS]), hb.grown hg1 hb.size (fun j hj => by injection hj with hj; omega)⟩
          case measure => simp [intOf]; omega
        · go_ret
          exact ⟨ret_int (permFault_at (by omega) hlt HZ.out (pfAt_one hlt (.inl ‹_›)) (by omega)).symm, hb⟩
      · go_wp2
        go_ret
        obtain rfl : k = xs.length := by omega
        exact ⟨ret_int (permFault_ok (by omega) HZ.out).symm, hb⟩
end Go.Proofs.Ythacglggkgmbhaa

/- Lists made entry by entry; permutations turned round. No condition of its own. -/
set_option linter.unusedVariables false
set_option linter.unusedSimpArgs false
namespace Go.Proofs.Ythacglggkgmbhaa
open Go.RowKit

theorem vs_of {vs : Array Value} {us : List Value} (hl : vs.size = us.length) (h : ∀ i, i < us.length → vs.getD i undef = us.getD i undef) : vs = us.toArray := by
  apply Array.ext
  · simpa using hl
  · intro i h3 h4
    have := h i (by simpa using h4)
    simp at h4
    simpa [Array.getD, h3, List.getD, h4] using this
/-- an elder contract that takes one list -/
theorem SC.ofI {P : Program} {f : FuncId} {xs : List Int} {r : PV} (hb : ∀ x ∈ xs, in64 x) (hc : Callable P f) (h : ∀ (Z : Nat → Prop) (w : World) A cap, IsInts w A cap xs → Calls P f #[.slice A xs.length cap] w fun e w' => ∃ u, e = .returned u ∧ V (fun _ => none) Z w' r u ∧ Below w.heap.size w w') : SC P f [pli xs] r := by
  refine ⟨hc, fun Z w vs hz hl hv => ?_⟩
  obtain ⟨A, cap, e0, hI⟩ := V.isInts (hv 0 (by simp)) hb
  obtain rfl : vs = [Value.slice A xs.length cap].toArray := vs_of (by simpa using hl) (fun i hi => by
    match i, hi with
    | 0, _ => simpa using e0
    | i + 1, h => simp at h)
  exact h Z w A cap hI
theorem V.pair {ρ : Pl} {Z : Nat → Prop} {w : World} {a b : PV} {x y : Value} (h1 : V ρ Z w a x) (h2 : V ρ Z w b y) : V ρ Z w (.tup [a, b]) (.tuple #[x, y]) := .tup _ _ rfl (fun i hi => by
  match i, hi with
  | 0, _ => exact h1
  | 1, _ => exact h2
  | i + 2, h => simp at h; omega)
/-- out[i] = F i for all i below k, the rest 0 -/
def fillT (n k : Nat) (F : Nat → Int) : List Int := (List.range n).map fun i => if i < k then F i else 0
theorem fillT_len (n k : Nat) (F : Nat → Int) : (fillT n k F).length = n := by simp [fillT]
theorem fillT_zero (n : Nat) (F : Nat → Int) : fillT n 0 F = List.replicate n 0 := by
  apply List.ext_getElem
  · simp [fillT]
  · intro i h1 h2; simp [fillT]
theorem fillT_set {n k : Nat} {F : Nat → Int} (hk : k < n) : (fillT n k F).set k (F k) = fillT n (k + 1) F := by
  apply List.ext_getElem
  · simp [fillT]
  · intro i h1 h2
    simp only [fillT, List.length_map, List.length_range] at h2
    rw [List.getElem_set]
    by_cases e : k = i
    · subst e; simp [fillT]
    · rw [if_neg e]
      simp only [fillT, List.getElem_map, List.getElem_range]
      by_cases h3 : i < k
      · rw [if_pos h3, if_pos (by omega)]
      · rw [if_neg h3, if_neg (by omega)]
theorem fillT_all (n : Nat) (F : Nat → Int) : fillT n n F = (List.range n).map F := by
  unfold fillT
  exact List.map_congr_left (fun i hi => by rw [if_pos (by simpa using hi)])
theorem fillT_tab (n : Nat) (F : Nat → Nat) : fillT n n (fun i => (F i : Int)) = tabN n F := fillT_all n _

theorem Fz.pair {h : HP} {a b a' b' : PV} (h1 : Fz h a a') (h2 : Fz h b b') : Fz h (.tup [a, b]) (.tup [a', b']) :=
  .tup rfl (fun i hi => by
    match i, hi with
    | 0, _ => exact h1
    | 1, _ => exact h2
    | i + 2, h => simp at h; omega)
theorem Fz.nil {h : HP} : Fz h (.lst true 0 0 []) (pli []) := Fz.nrm (p := .lst true 0 0 []) rfl
theorem equal_refl (xs : List Int) : SC Try.prog 11 [pli xs, pli xs] (.sc (.bool true)) := by
  have := equal_s xs xs
  rwa [decide_eq_true rfl] at this
set_option maxHeartbeats 1000000 in
set_option maxRecDepth 100000 in
theorem pback_s {n : Nat} {F G : Nat → Nat} {zs : List Int} (hz : zs = tabN n F) (hF : ∀ i, i < n → F i < n) (hG : ∀ i, i < n → G i < n ∧ F (G i) = i ∧ G (F i) = i) (hn : n ≤ 9) : SC Try.prog 48 [pli zs] (pli (tabN n G)) := by
  have hl1 : zs.length = n := by rw [hz]; simp
  refine SC.go {} tok mixed Try.func48 rfl rfl Try.ntmps48 rfl rfl (by kernel_rfl) ?_
  first | simp only [updS] | simp only [updL, Nat.reduceAdd]
  repeat (first | refine S0 ?_ | refine S1 ?_ | refine S2 ?_ | refine S4 ?_ | refine S5 ?_ | refine S6 ?_ | refine S7 ?_ | refine S8 ?_ | refine S10 ?_ | refine S11 ?_ | refine S13 ?_ | refine S15 ?_ | refine S16 ?_ | refine S19 ?_ | refine S20 ?_ | refine S21 ?_ | refine S22 ?_ | refine S23 ?_ | refine S24 ?_ | refine S25 ?_ | refine S26 ?_ | refine S27 ?_ | refine S65 ?_ | refine S71 ?_)
  rw [hl1]
  refine CW.loopS (fun i : Nat × List Int => i.1 ≤ n ∧ i.2.length = n ∧ ∀ j, j < i.1 → i.2.getD (F j) 0 = (j : Int)) (fun i => [(3, .ref 0 0 1 n), (9, pli zs), (10, pint n), (11, pint i.1)]) (fun i h => h.blk 0 = some (ints i.2)) (fun i => n - i.1) (0, List.replicate n 0) ⟨⟨by omega, by simp, fun j hj => by simp at hj⟩, SLx, HBx⟩ ?_
  rintro ⟨k, L⟩ t h ⟨hk, hL, hI⟩ B
  simp only at hk hL hI B
  first | simp only [updS] | simp only [updL, Nat.reduceAdd]
  by_cases hk2 : k < n
  · have e1 : zs.getD k 0 = (F k : Int) := by rw [hz]; exact tabN_get hk2
    have e2 := hF k hk2
    repeat (first | refine S0 ?_ | refine S1 ?_ | refine S2 ?_ | refine S4 ?_ | refine S5 ?_ | refine S6 ?_ | refine S7 ?_ | refine S8 ?_ | refine S10 ?_ | refine S11 ?_ | refine S13 ?_ | refine S15 ?_ | refine S16 ?_ | refine S19 ?_ | refine S20 ?_ | refine S21 ?_ | refine S22 ?_ | refine S23 ?_ | refine S24 ?_ | refine S25 ?_ | refine S26 ?_ | refine S27 ?_ | refine S65 ?_ | refine S71 ?_)
    refine ⟨(k + 1, L.set (zs.getD k 0).toNat k), ⟨by simp only; omega, by simp [hL], fun j hj => ?_⟩, SLx, (by (try dsimp only); repeat' (first | exact HBx | exact SBx | refine And.intro ?_ ?_)), by simp only; omega⟩
    simp only at hj ⊢
    rw [e1, Int.toNat_natCast]
    by_cases e : j = k
    · subst e; simp [List.getD, hL, e2]
    · have hne : F k ≠ F j := fun e3 => e (by rw [← (hG j (by omega)).2.2, ← (hG k hk2).2.2, e3])
      have := hI j (by omega)
      simpa [List.getD, List.getElem?_set_ne hne] using this
  · obtain rfl : k = n := by omega
    have hfin : L = tabN k G := by
      apply List.ext_getElem
      · simp [hL]
      · intro j h1 h2
        have h3 : j < k := by omega
        have := hI (G j) (hG j h3).1
        rw [(hG j h3).2.1, getD_lt 0 h1] at this
        rw [this]; simp [tabN]
    repeat (first | refine S0 ?_ | refine S1 ?_ | refine S2 ?_ | refine S4 ?_ | refine S5 ?_ | refine S6 ?_ | refine S7 ?_ | refine S8 ?_ | refine S10 ?_ | refine S11 ?_ | refine S13 ?_ | refine S15 ?_ | refine S16 ?_ | refine S19 ?_ | refine S20 ?_ | refine S21 ?_ | refine S22 ?_ | refine S23 ?_ | refine S24 ?_ | refine S25 ?_ | refine S26 ?_ | refine S27 ?_ | refine S65 ?_ | refine S71 ?_)
    exact ⟨.inr rfl, Fz.refI HBx hL.symm hfin⟩
end Go.Proofs.Ythacglggkgmbhaa
