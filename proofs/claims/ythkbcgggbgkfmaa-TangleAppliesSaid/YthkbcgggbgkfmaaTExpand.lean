/- Contracts of functions of this seat, and plain facts for them: used by the claims. No condition of its own. -/
import Derived.Test.YthkbcgggbgkfmaaTTwist
import Derived.Deep.RegionHeld3
import Derived.Deep.AppendLies
set_option linter.unusedVariables false
namespace Go.Proofs.Ythkbcgggbgkfmaa
open Go.RowKit

/-- The quotients of p/q, the first one first (f: as many as q at least). -/
def cf : Nat → Nat → Nat → List Int
  | 0, _, _ => []
  | f + 1, p, q => if q = 0 then [] else ((p / q : Nat) : Int) :: cf f q (p % q)
theorem cf_zero (f p : Nat) : cf f p 0 = [] := by cases f <;> simp [cf]
theorem cf_any : ∀ (f f' p q : Nat), q ≤ f → q ≤ f' → cf f p q = cf f' p q
  | 0, f', p, q, h, _ => by obtain rfl : q = 0 := by omega
                            rw [cf_zero, cf_zero]
  | f + 1, 0, p, q, _, h => by obtain rfl : q = 0 := by omega
                               rw [cf_zero, cf_zero]
  | f + 1, f' + 1, p, q, h, h' => by
    by_cases e : q = 0
    · subst e; rw [cf_zero, cf_zero]
    · simp only [cf, e, if_false]
      have := Nat.mod_lt p (show 0 < q by omega)
      rw [cf_any f f' q (p % q) (by omega) (by omega)]
theorem cf_len : ∀ (f p q : Nat), (cf f p q).length ≤ f
  | 0, _, _ => by simp [cf]
  | f + 1, p, q => by
    simp only [cf]
    split
    · simp
    · have := cf_len f q (p % q); simp; omega
theorem cf_step {f p q : Nat} (hq : 0 < q) (hf : q ≤ f) : cf f p q = ((p / q : Nat) : Int) :: cf f q (p % q) := by
  obtain ⟨g, rfl⟩ : ∃ g, f = g + 1 := ⟨f - 1, by omega⟩
  have := Nat.mod_lt p hq
  rw [cf_any (g + 1) g q (p % q) (by omega) (by omega)]
  simp only [cf, show ¬ q = 0 by omega, if_false]
theorem cf_mem : ∀ (f p q : Nat) (x : Int), x ∈ cf f p q → p ≤ 1000000 → q ≤ 1000000 → 0 ≤ x ∧ x ≤ 1000000
  | 0, p, q, x, h, _, _ => by simp [cf] at h
  | f + 1, p, q, x, h, hp, hq => by
    simp only [cf] at h
    split at h
    · cases h
    · rename_i e
      rcases List.mem_cons.1 h with h | h
      · subst h
        have := Nat.div_le_self p q
        have h2 : p / q ≤ 1000000 := Nat.le_trans this hp
        exact ⟨Int.natCast_nonneg _, Int.ofNat_le.2 h2⟩
      · exact cf_mem f q (p % q) x h hq (Nat.le_trans (Nat.le_of_lt (Nat.mod_lt _ (by omega))) hq)
def sgnF (n : Int) : Int := if n < 0 then -1 else 1
/-- What Expand gives back for a right fraction. -/
def expand (n d : Int) : List Int := ((cf d.toNat n.natAbs d.toNat).map (fun x => sgnF n * x)).reverse

theorem fault_zero {n d : Int} (h : faultF n d = 0) : (-1000000 ≤ n ∧ n ≤ 1000000) ∧ (0 ≤ d ∧ d ≤ 1000000) ∧ Norm (n, d) := by
  unfold faultF at h
  split at h
  · cases h
  · rename_i h1
    split at h
    · cases h
    · rename_i h2
      unfold bigI at h1
      refine ⟨by omega, by omega, by show 0 ≤ d; omega, fun e => ?_, ?_⟩
      · apply Classical.byContradiction; intro c; exact h2 (.inr (.inl ⟨e, c⟩))
      · apply Classical.byContradiction; intro c; exact h2 (.inr (.inr c))

set_option maxHeartbeats 1000000 in
theorem expand_fault (n d : Int) (w : World) (hf : faultF n d ≠ 0) :
    Calls Try.prog 7 #[.agg #[.int .i64 n, .int .i64 d]] w fun e w' => e = .returned (.tuple #[.slice none 0 0, .int .i64 (faultF n d)]) ∧ Below w.heap.size w w' := by
  have hf2 : (faultF n d != 0) = true := by simpa using hf
  clear hf
  go_enter Try.func7, Try.ntmps7
  go_wp2_with (go_at_call 10; refine (tcheck_c _ _ _).mono ?_; rintro e w1 ⟨rfl, hb1⟩)
  go_ret2
  exact ⟨rfl, ((Below.refl _ _).alloc (Nat.le_refl _) _).trans (hb1.mono (by simp))⟩

/-- What Expand comes to. -/
def ExpPost (l : List Int) (w : World) (e : Ending) (w' : World) : Prop := ∃ A cap, e = .returned (.tuple #[.slice A l.length cap, .int .i64 0]) ∧ IsInts w' A cap l ∧ Below w.heap.size w w'

theorem exp_mk {l l' : List Int} {w w' : World} {A : Option Addr} {cap n : Nat} (hl : l = l') (hn : l'.length = n) (hI : IsInts w' A cap l') (hb : Below w.heap.size w w') : ExpPost l w (.returned (.tuple #[.slice A n cap, .int .i64 0])) w' := by
  subst hl hn; exact ⟨A, cap, rfl, hI, hb⟩

set_option maxRecDepth 100000 in
set_option maxHeartbeats 2000000 in
theorem expand_ok (n d : Int) (w : World) (hf : faultF n d = 0) :
    Calls Try.prog 7 #[.agg #[.int .i64 n, .int .i64 d]] w (ExpPost (expand n d) w) := by
  obtain ⟨⟨hn1, hn2⟩, ⟨hd1, hd2⟩, hN⟩ := fault_zero hf
  obtain ⟨D, rfl⟩ : ∃ D : Nat, d = D := ⟨d.toNat, by omega⟩
  have HF := Lib.hid hf
  clear hf hN
  obtain ⟨S, hS⟩ : ∃ S, sgnF n = S := ⟨_, rfl⟩
  have HS := Lib.hid hS
  have hS' : S = 1 ∨ S = -1 := by rw [← hS]; unfold sgnF; split <;> omega
  have HX : Hid (expand n D = ((cf D n.natAbs D).map (fun x => S * x)).reverse) := by unfold Hid expand; rw [hS, Int.toNat_natCast]
  have HM : Hid (∀ x ∈ (cf D n.natAbs D).map (fun x => S * x), in64 x) := by
    intro x hx
    obtain ⟨y, hy, rfl⟩ := List.mem_map.1 hx
    have := cf_mem _ _ _ _ hy (by omega) (by omega)
    unfold in64
    rcases hS' with e | e <;> subst e <;> omega
  have HLEN : Hid (((cf D n.natAbs D).map (fun x => S * x)).length ≤ 1000000) := by
    unfold Hid
    rw [List.length_map]; exact Nat.le_trans (cf_len _ _ _) (by omega)
  generalize hfull : (cf D n.natAbs D).map (fun x => S * x) = full at *
  have HFULL := Lib.hid hfull
  clear hfull
  have hs0 : n < 0 ∨ ¬ n < 0 := by omega
  rcases hs0 with hs0 | hs0
  · obtain rfl : S = -1 := by rw [← hS]; unfold sgnF; rw [if_pos hs0]
    clear hS hS'
    go_enter Try.func7, Try.ntmps7
    go_wp2_with (go_at_call 10; refine (tcheck_c _ _ _).mono ?_; rw [HF.out]; rintro e w1 ⟨rfl, hb1⟩; obtain ⟨hc, hfr⟩ := bcell hb1)
    go_quiet ((go_at_call 27; exact Calls.quiet_of_same ((size_c _ _ (by omega)).mono fun _ _ h => ⟨h.1, h.2.symm⟩)))
    go_wp2
    have hB : Below w.heap.size w w1 := ((Below.refl _ _).alloc (Nat.le_refl _) _).trans (hb1.mono (by simp))
    clear hc hfr hb1
    go_loopw [6, 7, 8] (fun out p q wr => ∃ (P Q : Nat) (outs : List Int), p = .int .i64 P ∧ q = .int .i64 Q ∧ P ≤ 1000000 ∧ Q ≤ 1000000 ∧ wr.ownsRow w.heap.size 3 1 out outs.length (outs.map (Value.int .i64)) ∧ Hid (∀ f, Q ≤ f → outs ++ (cf f P Q).map (fun x => -1 * x) = full) ∧ Below w.heap.size w wr) (fun _ _ q _ => (intOf q).toNat)
    case atStart => exact ⟨n.natAbs, D, [], rfl, rfl, by omega, by omega, World.ownsRow_nil _ _ _ _, fun f hf => by rw [← HFULL.out, cf_any f D _ _ hf (Nat.le_refl _)]; rfl, below_drewN hB _⟩
    case round =>
      obtain ⟨P, Q, outs, rfl, rfl, hP, hQ, hown, hall, hb⟩ := hrel
      by_cases hq : 0 < Q
      · have hol : outs.length ≤ 1000000 := by
          have h1 := congrArg List.length (hall.out Q (Nat.le_refl _))
          rw [List.length_append] at h1
          have := HLEN.out
          omega
        have hd1 : (0 : Int) ≤ (P : Int) / (Q : Int) := Int.ediv_nonneg (by omega) (by omega)
        have hd2 : (P : Int) / (Q : Int) ≤ 1000000 := by have := Int.ediv_le_self (Q : Int) (show 0 ≤ (P : Int) by omega); omega
        have hm2 : P % Q < Q := Nat.mod_lt _ hq
        have HST : Hid (∀ f, P % Q ≤ f → (outs ++ [-((P : Int) / (Q : Int))]) ++ (cf f Q (P % Q)).map (fun x => -1 * x) = full) := by
          intro f hf
          rw [← hall.out Q (Nat.le_refl _), cf_step hq (Nat.le_refl _), cf_any f Q _ _ hf (by omega)]
          simp
        have hsz := hb.size
        go_wp2_with ((with_reducible refine at_dst 35 ?_); refine wpList_append1 _ rfl _ _ 22 3 rfl el_int w.heap.size _ outs.length (outs.map (Value.int .i64)) (by rfl) (hown.alloc _) wr.heap.size 1 (by rfl) (.int .i64 _) (cell_new _ _ _ _ rfl) rfl (by omega) (by simp; omega) ?_; intro v' w2 ho2 hg2 hb2 hat2 hnn2)
        go_quiet (fail)
        go_wp2
        go_roundw
        case rel => exact ⟨Q, P % Q, outs ++ [-((P : Int) / (Q : Int))], rfl, rfl, hQ, by omega, by simpa using own_drewN ho2 _, HST, below_drewN ((hb.alloc hsz _).trans hb2) _⟩
        case measure => simp [intOf]; omega
      · obtain rfl : Q = 0 := by omega
        have hfull : outs = full := by have := hall.out 0 (Nat.le_refl _); simpa [cf] using this
        subst hfull
        obtain ⟨A, c, rfl, hI⟩ := ints_of_own hown (fun i hi => by rw [getD_lt 0 hi]; exact HM.out _ (List.getElem_mem hi))
        have hmine := Mine.of_own hown hI
        have hrl : outs.reverse.length = outs.length := List.length_reverse ..
        have HRL := Lib.hid hrl
        clear hrl
        have h1 := hI.len
        have h2 := hI.cap_le
        go_wp2_with (first
          | (go_at_call 28; refine (reverse_c _ _ _ _ _ hmine).mono ?_; rintro e w2 ⟨rfl, hm2, hg2⟩)
          | (go_at_call 29; refine (clip_c _ _ _ _ h1 h2).mono ?_; rintro e w' ⟨rfl, rfl⟩))
        go_ret2
        refine exp_mk (A := A) (cap := outs.length) HX.out HRL.out (hm2.ints.recap (by rw [HRL.out]; exact Nat.le_refl _) (by omega)) (hb.grown hg2 hb.size (fun k hk => ?_))
        cases A with
        | none => cases hk
        | some a => cases hk; exact (hown.lt _ rfl).1
  · obtain rfl : S = 1 := by rw [← hS]; unfold sgnF; rw [if_neg hs0]
    clear hS hS'
    go_enter Try.func7, Try.ntmps7
    go_wp2_with (go_at_call 10; refine (tcheck_c _ _ _).mono ?_; rw [HF.out]; rintro e w1 ⟨rfl, hb1⟩; obtain ⟨hc, hfr⟩ := bcell hb1)
    go_quiet ((go_at_call 27; exact Calls.quiet_of_same ((size_c _ _ (by omega)).mono fun _ _ h => ⟨h.1, h.2.symm⟩)))
    go_wp2
    have hB : Below w.heap.size w w1 := ((Below.refl _ _).alloc (Nat.le_refl _) _).trans (hb1.mono (by simp))
    clear hc hfr hb1
    go_loopw [6, 7, 8] (fun out p q wr => ∃ (P Q : Nat) (outs : List Int), p = .int .i64 P ∧ q = .int .i64 Q ∧ P ≤ 1000000 ∧ Q ≤ 1000000 ∧ wr.ownsRow w.heap.size 3 1 out outs.length (outs.map (Value.int .i64)) ∧ Hid (∀ f, Q ≤ f → outs ++ (cf f P Q).map (fun x => 1 * x) = full) ∧ Below w.heap.size w wr) (fun _ _ q _ => (intOf q).toNat)
    case atStart => exact ⟨n.natAbs, D, [], rfl, rfl, by omega, by omega, World.ownsRow_nil _ _ _ _, fun f hf => by rw [← HFULL.out, cf_any f D _ _ hf (Nat.le_refl _)]; rfl, below_drewN hB _⟩
    case round =>
      obtain ⟨P, Q, outs, rfl, rfl, hP, hQ, hown, hall, hb⟩ := hrel
      by_cases hq : 0 < Q
      · have hol : outs.length ≤ 1000000 := by
          have h1 := congrArg List.length (hall.out Q (Nat.le_refl _))
          rw [List.length_append] at h1
          have := HLEN.out
          omega
        have hd1 : (0 : Int) ≤ (P : Int) / (Q : Int) := Int.ediv_nonneg (by omega) (by omega)
        have hd2 : (P : Int) / (Q : Int) ≤ 1000000 := by have := Int.ediv_le_self (Q : Int) (show 0 ≤ (P : Int) by omega); omega
        have hm2 : P % Q < Q := Nat.mod_lt _ hq
        have HST : Hid (∀ f, P % Q ≤ f → (outs ++ [(P : Int) / (Q : Int)]) ++ (cf f Q (P % Q)).map (fun x => 1 * x) = full) := by
          intro f hf
          rw [← hall.out Q (Nat.le_refl _), cf_step hq (Nat.le_refl _), cf_any f Q _ _ hf (by omega)]
          simp
        have hsz := hb.size
        go_wp2_with ((with_reducible refine at_dst 35 ?_); refine wpList_append1 _ rfl _ _ 22 3 rfl el_int w.heap.size _ outs.length (outs.map (Value.int .i64)) (by rfl) (hown.alloc _) wr.heap.size 1 (by rfl) (.int .i64 _) (cell_new _ _ _ _ rfl) rfl (by omega) (by simp; omega) ?_; intro v' w2 ho2 hg2 hb2 hat2 hnn2)
        go_quiet (fail)
        go_wp2
        go_roundw
        case rel => exact ⟨Q, P % Q, outs ++ [(P : Int) / (Q : Int)], rfl, rfl, hQ, by omega, by simpa using own_drewN ho2 _, HST, below_drewN ((hb.alloc hsz _).trans hb2) _⟩
        case measure => simp [intOf]; omega
      · obtain rfl : Q = 0 := by omega
        have hfull : outs = full := by have := hall.out 0 (Nat.le_refl _); simpa [cf] using this
        subst hfull
        obtain ⟨A, c, rfl, hI⟩ := ints_of_own hown (fun i hi => by rw [getD_lt 0 hi]; exact HM.out _ (List.getElem_mem hi))
        have hmine := Mine.of_own hown hI
        have hrl : outs.reverse.length = outs.length := List.length_reverse ..
        have HRL := Lib.hid hrl
        clear hrl
        have h1 := hI.len
        have h2 := hI.cap_le
        go_wp2_with (first
          | (go_at_call 28; refine (reverse_c _ _ _ _ _ hmine).mono ?_; rintro e w2 ⟨rfl, hm2, hg2⟩)
          | (go_at_call 29; refine (clip_c _ _ _ _ h1 h2).mono ?_; rintro e w' ⟨rfl, rfl⟩))
        go_ret2
        refine exp_mk (A := A) (cap := outs.length) HX.out HRL.out (hm2.ints.recap (by rw [HRL.out]; exact Nat.le_refl _) (by omega)) (hb.grown hg2 hb.size (fun k hk => ?_))
        cases A with
        | none => cases hk
        | some a => cases hk; exact (hown.lt _ rfl).1
end Go.Proofs.Ythkbcgggbgkfmaa
