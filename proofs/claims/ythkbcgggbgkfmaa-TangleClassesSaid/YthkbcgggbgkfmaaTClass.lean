/- Contracts of functions of this seat, and plain facts for them: used by the claims. No condition of its own. -/
import Derived.Test.YthkbcgggbgkfmaaTChain
import Derived.Test.YthkbcgggbgkfmaaEuPlain
import Derived.Test.YthkbcgggbgkfmaaWTangleTwists
set_option linter.unusedVariables false
namespace Go.Proofs.Ythkbcgggbgkfmaa
open Go.RowKit

def pOf (n : Int) : Int := (n.natAbs : Int)
def qOf (n d : Int) : Int := (if n < 0 then -d else d) % pOf n
/-- The invariants of n/d, X the inverse of qOf. -/
def kd (n d X : Int) : Int := if pOf n ≤ 1 then 0 else min (qOf n d) X
def InvOk (n d X : Int) : Prop := 2 ≤ pOf n → InvM (pOf n) (qOf n d) X

/-- What class comes to. -/
def ClPost (n d : Int) (w : World) (e : Ending) (w' : World) : Prop := ∃ X : Int, InvOk n d X ∧ e = .returned (.tuple #[.int .i64 (pOf n), .int .i64 (kd n d X)]) ∧ Below w.heap.size w w'
theorem cl_mk {n d X : Int} {w w' : World} {p m : Int} (hX : InvOk n d X) (hp : p = pOf n) (hm : m = kd n d X) (hb : Below w.heap.size w w') : ClPost n d w (.returned (.tuple #[.int .i64 p, .int .i64 m])) w' := by
  subst hp hm; exact ⟨X, hX, rfl, hb⟩

theorem q_facts {n d : Int} (hN : Norm (n, d)) (hp : 2 ≤ pOf n) : 1 ≤ qOf n d ∧ qOf n d < pOf n ∧ Int.gcd (pOf n) (qOf n d) = 1 := by
  obtain ⟨_, _, h3⟩ := hN
  simp only at h3
  have hlt := Int.emod_lt_of_pos (if n < 0 then -d else d) (show 0 < pOf n by omega)
  have h0 := Int.emod_nonneg (if n < 0 then -d else d) (show pOf n ≠ 0 by omega)
  have hg : Int.gcd (pOf n) (qOf n d) = 1 := by
    unfold qOf
    have e : ∀ z : Int, z % pOf n = z + (-(z / pOf n)) * pOf n := fun z => by
      have := Int.emod_add_mul_ediv z (pOf n); rw [Int.neg_mul, Int.mul_comm]; omega
    rw [e, Int.gcd_add_mul_right_right]
    unfold pOf
    have h4 : Int.gcd (n.natAbs : Int) (if n < 0 then -d else d) = Int.gcd n d := by
      unfold Int.gcd
      split <;> simp
    rw [h4]; exact h3
  refine ⟨?_, hlt, hg⟩
  apply Classical.byContradiction; intro c
  have hz : qOf n d = 0 := by unfold qOf at c ⊢; omega
  rw [hz, Int.gcd_zero_right] at hg
  omega

theorem mod_norm {p : Int} (Y : Int) (hp : 2 ≤ p) (hp2 : p ≤ 1000000) (h1 : -p ≤ Y) (h2 : Y ≤ p) : (wrap64 (Y.tmod p + p)).tmod p = Y % p := by
  have hb : (Y.tmod p).natAbs < p.natAbs := by rw [Int.natAbs_tmod]; exact Nat.mod_lt _ (by omega)
  have hw : wrap64 (Y.tmod p + p) = Y.tmod p + p := by unfold wrap64; omega
  rw [hw, Int.tmod_eq_emod_of_nonneg (by omega), Int.add_emod_right]
  have h3 := Int.tmod_add_mul_tdiv Y p
  have h4 : Y % p = (Y.tmod p + p * Y.tdiv p) % p := by rw [h3]
  rw [h4, Int.add_mul_emod_self_left]

set_option maxRecDepth 100000 in
set_option maxHeartbeats 2000000 in
theorem class_c (n d : Int) (w : World) (hf : faultF n d = 0) :
    Calls Try.prog 35 #[.agg #[.int .i64 n, .int .i64 d]] w (ClPost n d w) := by
  obtain ⟨⟨hn1, hn2⟩, ⟨hd1, hd2⟩, hN⟩ := fault_zero hf
  clear hf
  by_cases hp : 2 ≤ pOf n
  · obtain ⟨q1, q2, q3⟩ := q_facts hN hp
    have HST := Lib.hid (Eu.start hp q1 q2 q3)
    have hpm : pOf n ≤ 1000000 := by unfold pOf; omega
    have hq : ∀ h : n < 0, qOf n d = (-d) % pOf n := fun h => by unfold qOf; rw [if_pos h]
    have hq' : ∀ h : ¬ n < 0, qOf n d = d % pOf n := fun h => by unfold qOf; rw [if_neg h]
    have HNA : Hid ((n.natAbs : Int) = pOf n) := rfl
    have hq0 : 0 ≤ qOf n d := by omega
    by_cases h0 : n < 0
    · have HQ := Lib.hid (hq h0)
      clear hq hq' hN
      generalize hQ : qOf n d = q at *
      have HQD := Lib.hid hQ
      clear hQ
      generalize hP : pOf n = p at *
      have HPD := Lib.hid hP
      clear hP
      obtain ⟨e, he⟩ : ∃ e, d % p = e := ⟨_, rfl⟩
      have he0 : 0 ≤ e := by rw [← he]; exact Int.emod_nonneg _ (by omega)
      have he1 : e < p := by rw [← he]; exact Int.emod_lt_of_pos _ (by omega)
      have hdm : d.tmod p = e := by rw [← he]; exact Int.tmod_eq_emod_of_nonneg (by omega)
      have hdm2 := he
      have hqe2 : (p - e) % p = q := by
        rw [HQ.out, ← he]
        have h1 := Int.emod_add_mul_ediv d p
        have h2 : p - d % p = -d + p * (1 + d / p) := by rw [Int.mul_add]; omega
        rw [h2, Int.add_mul_emod_self_left]
      have hqe : (p - e).tmod p = q := by rw [← hqe2]; exact Int.tmod_eq_emod_of_nonneg (by omega)
      go_enter Try.func35, Try.ntmps35
      go_wp2_with (go_at_call 27; refine (size_c _ _ (by omega)).mono ?_; rw [HNA.out]; rintro e w' ⟨rfl, rfl⟩)
      have HDM := Lib.hid hdm
      clear hdm hdm2 hqe hqe2 he
      go_loop [6, 7, 8, 9, 10] (fun a b x y _ => ∃ A B X Y : Int, a = .int .i64 A ∧ b = .int .i64 B ∧ x = .int .i64 X ∧ y = .int .i64 Y ∧ Hid (Eu p q A B X Y)) (fun _ b _ _ _ => (intOf b).toNat)
      case atStart => exact ⟨p, q, 0, 1, rfl, rfl, rfl, rfl, HST.out⟩
      case round =>
        obtain ⟨A, B, X, Y, rfl, rfl, rfl, rfl, hE⟩ := hrel
        have hb1 := hE.out.b1
        have hab := hE.out.ab
        have hap := hE.out.ap
        obtain ⟨x1, x2, y1, y2⟩ := hE.out.bd
        by_cases hB : 1 < B
        · obtain ⟨f1, f2, f3, f4, f5, f6⟩ := hE.out.facts hB
          have HS := Lib.hid (hE.out.step hB)
          go_wp2
          go_round
          case rel => exact ⟨B, A - A / B * B, Y, X - A / B * Y, rfl, rfl, rfl, rfl, HS.out.1⟩
          case measure =>
            have h1 := HS.out.2
            have h2 := HS.out.1.b1
            simp [intOf]; omega
        · obtain rfl : B = 1 := by omega
          have HI := Lib.hid (hE.out.done hp)
          go_wp2
          go_quiet (fail)
          go_wp2
          go_ret2
          exact cl_mk (X := Y % p) (fun _ => by rw [HPD.out, HQD.out]; exact HI.out) HPD.out.symm (by unfold kd; rw [HPD.out, HQD.out, if_neg (by omega), mod_norm Y hp hpm y1 y2]) (below_drewN ((Below.refl _ _).alloc (Nat.le_refl _) _) _)
    · have HQ := Lib.hid (hq' h0)
      clear hq hq' hN
      generalize hQ : qOf n d = q at *
      have HQD := Lib.hid hQ
      clear hQ
      generalize hP : pOf n = p at *
      have HPD := Lib.hid hP
      clear hP
      have hdm : d.tmod p = q := by rw [HQ.out]; exact Int.tmod_eq_emod_of_nonneg (by omega)
      have hdm2 : d % p = q := HQ.out.symm
      go_enter Try.func35, Try.ntmps35
      go_wp2_with (go_at_call 27; refine (size_c _ _ (by omega)).mono ?_; rw [HNA.out]; rintro e w' ⟨rfl, rfl⟩)
      have HDM := Lib.hid hdm
      clear hdm hdm2
      go_loop [6, 7, 8, 9, 10] (fun a b x y _ => ∃ A B X Y : Int, a = .int .i64 A ∧ b = .int .i64 B ∧ x = .int .i64 X ∧ y = .int .i64 Y ∧ Hid (Eu p q A B X Y)) (fun _ b _ _ _ => (intOf b).toNat)
      case atStart => exact ⟨p, q, 0, 1, rfl, rfl, rfl, rfl, HST.out⟩
      case round =>
        obtain ⟨A, B, X, Y, rfl, rfl, rfl, rfl, hE⟩ := hrel
        have hb1 := hE.out.b1
        have hab := hE.out.ab
        have hap := hE.out.ap
        obtain ⟨x1, x2, y1, y2⟩ := hE.out.bd
        by_cases hB : 1 < B
        · obtain ⟨f1, f2, f3, f4, f5, f6⟩ := hE.out.facts hB
          have HS := Lib.hid (hE.out.step hB)
          go_wp2
          go_round
          case rel => exact ⟨B, A - A / B * B, Y, X - A / B * Y, rfl, rfl, rfl, rfl, HS.out.1⟩
          case measure =>
            have h1 := HS.out.2
            have h2 := HS.out.1.b1
            simp [intOf]; omega
        · obtain rfl : B = 1 := by omega
          have HI := Lib.hid (hE.out.done hp)
          go_wp2
          go_quiet (fail)
          go_wp2
          go_ret2
          exact cl_mk (X := Y % p) (fun _ => by rw [HPD.out, HQD.out]; exact HI.out) HPD.out.symm (by unfold kd; rw [HPD.out, HQD.out, if_neg (by omega), mod_norm Y hp hpm y1 y2]) (below_drewN ((Below.refl _ _).alloc (Nat.le_refl _) _) _)
  · have hp1 : pOf n ≤ 1 := by omega
    have hpn : 0 ≤ pOf n := by unfold pOf; omega
    have HNA : Hid ((n.natAbs : Int) = pOf n) := rfl
    have HK : Hid (kd n d 0 = 0) := by unfold Hid kd; rw [if_pos hp1]
    have HI : Hid (InvOk n d 0) := fun h => absurd h hp
    generalize hP : pOf n = p at *
    have HPD := Lib.hid hP
    clear hP hN
    go_enter Try.func35, Try.ntmps35
    go_wp2_with (go_at_call 27; refine (size_c _ _ (by omega)).mono ?_; rw [HNA.out]; rintro e w' ⟨rfl, rfl⟩)
    go_ret2
    exact cl_mk HI.out HPD.out.symm HK.out.symm ((Below.refl _ _).alloc (Nat.le_refl _) _)

/-! ### the reference's way -/
theorem qmod_neg {n d : Int} (h : n < 0) (hp : 2 ≤ pOf n) : (-(d % n) + -n) % n = qOf n d ∧ 0 ≤ d % n ∧ d % n < -n := by
  have hpn : pOf n = -n := by unfold pOf; omega
  have e0 : d % n = d % (-n) := (Int.emod_neg d n).symm
  have h0 := Int.emod_nonneg d (show n ≠ 0 by omega)
  have h1 := Int.emod_lt_of_pos d (show 0 < -n by omega)
  rw [← e0] at h1
  refine ⟨?_, h0, h1⟩
  unfold qOf
  rw [← Int.emod_neg, Int.add_emod_right, if_pos h, hpn, e0]
  have h3 := Int.emod_add_mul_ediv d (-n)
  have h4 : -d = -(d % -n) + -n * (-(d / -n)) := by rw [Int.mul_neg]; omega
  rw [h4, Int.add_mul_emod_self_left]
theorem qmod_pos {n d : Int} (h : ¬ n < 0) (hp : 2 ≤ pOf n) : (d % n + n) % n = qOf n d ∧ 0 ≤ d % n ∧ d % n < n := by
  have hpn : pOf n = n := by unfold pOf; omega
  rw [Int.add_emod_right, Int.emod_emod_of_dvd _ (Int.dvd_refl _)]
  refine ⟨?_, Int.emod_nonneg d (by omega), Int.emod_lt_of_pos d (by omega)⟩
  unfold qOf; rw [if_neg h, hpn]
theorem step_q {p q k : Int} (hp : 2 ≤ p) : ((k * q) % p + q) % p = ((k + 1) * q) % p := by
  rw [Int.add_mul, Int.one_mul, Int.emod_add_emod]
theorem invM_le {p q x k : Int} (h : InvM p q x) (hk : 1 ≤ k) (hkx : k ≤ x) : (k * q) % p = 1 ↔ k = x :=
  ⟨fun e => InvM.uniq ⟨hk, by have := h.2.1; omega, e⟩ h, fun e => e ▸ h.2.2⟩

/-- The loop's relation: x = k, r = k q mod p. -/
def KRel (p q X k r : Int) : Prop := 1 ≤ k ∧ k ≤ X ∧ r = (k * q) % p
theorem KRel.rb {p q X k r : Int} (h : KRel p q X k r) (hp : 2 ≤ p) : 0 ≤ r ∧ r < p := by
  obtain ⟨_, _, rfl⟩ := h
  exact ⟨Int.emod_nonneg _ (by omega), Int.emod_lt_of_pos _ (by omega)⟩
theorem KRel.next {p q X k r : Int} (h : KRel p q X k r) (hp : 2 ≤ p) (hX : InvM p q X) (h1 : ¬ r = 1) : KRel p q X (k + 1) ((r + q) % p) := by
  obtain ⟨a, b, rfl⟩ := h
  rw [invM_le hX a b] at h1
  exact ⟨by omega, by omega, step_q hp⟩
theorem KRel.done {p q X k : Int} (h : KRel p q X k 1) (hX : InvM p q X) : k = X := (invM_le hX h.1 h.2.1).1 h.2.2.symm

set_option maxRecDepth 100000 in
set_option maxHeartbeats 2000000 in
theorem kind2_c (n d X : Int) (w : World) (hf : faultF n d = 0) (hX : InvOk n d X) :
    Calls Try.prog 18 #[.agg #[.int .i64 n, .int .i64 d]] w fun e w' => e = .returned (.tuple #[.int .i64 (pOf n), .int .i64 (kd n d X)]) ∧ Below w.heap.size w w' := by
  obtain ⟨⟨hn1, hn2⟩, ⟨hd1, hd2⟩, hN⟩ := fault_zero hf
  clear hf
  by_cases hp : 2 ≤ pOf n
  · obtain ⟨q1, q2, q3⟩ := q_facts hN hp
    have hpm : pOf n ≤ 1000000 := by unfold pOf; omega
    have hI := hX hp
    have hx1 := hI.1
    have hx2 := hI.2.1
    have HI := Lib.hid hI
    have HK : Hid (kd n d X = min (qOf n d) X) := by unfold Hid kd; rw [if_neg (by omega)]
    clear hX hI hN
    have hr0 : (1 * qOf n d) % pOf n = qOf n d := by rw [Int.one_mul]; exact Int.emod_eq_of_lt (by omega) q2
    have HS : Hid (KRel (pOf n) (qOf n d) X 1 (qOf n d)) := ⟨by omega, by omega, hr0.symm⟩
    clear hr0
    by_cases h0 : n < 0
    · have hpn : pOf n = -n := by unfold pOf; omega
      obtain ⟨hq, hq1, hq2⟩ := qmod_neg (d := d) h0 hp
      have HQ := Lib.hid hq
      generalize hQd : qOf n d = q at *
      generalize hKd : kd n d X = K at *
      clear hQd hKd hq
      rw [hpn] at HI HS hpm hp hx2 q2 ⊢
      clear hpn q3
      go_enter Try.func18, Try.ntmps18
      go_wp2
      go_quiet (fail)
      go_wp2
      rw [HQ.out]
      go_loopw [6, 7, 29, 30, 31, 32, 33, 34, 35, 36, 37] (fun a b _ _ _ _ _ _ _ _ _ wr => ∃ k r : Int, a = .int .i64 k ∧ b = .int .i64 r ∧ Hid (KRel (-n) q X k r) ∧ Below w.heap.size w wr) (fun a _ _ _ _ _ _ _ _ _ _ _ => (X - intOf a).toNat)
      case atStart => exact ⟨1, q, rfl, rfl, HS, (below_drewN ((Below.refl _ _).alloc (Nat.le_refl _) _) _)⟩
      case round =>
        obtain ⟨k, r, rfl, rfl, hR, hb⟩ := hrel
        obtain ⟨r1, r2⟩ := hR.out.rb hp
        have k1 := hR.out.1
        have k2 := hR.out.2.1
        by_cases h1 : r = 1
        · subst h1
          have hkX := hR.out.done HI.out
          have HX := Lib.hid hkX
          clear hkX
          go_wp2
          go_ret2
          exact ⟨by rw [HK.out, HX.out]; rfl, hb⟩
        · have HN := Lib.hid (hR.out.next hp HI.out h1)
          have HM : Hid (k + 1 ≤ X) := HN.out.2.1
          go_wp2
          go_quiet (fail)
          go_wp2
          go_roundw
          case rel => exact ⟨k + 1, (r + q) % (-n), rfl, by rw [Int.emod_neg], HN, below_drewN hb _⟩
          case measure => have := HM.out; simp [intOf]; omega
    · have hpn : pOf n = n := by unfold pOf; omega
      obtain ⟨hq, hq1, hq2⟩ := qmod_pos (d := d) h0 hp
      have HQ := Lib.hid hq
      generalize hQd : qOf n d = q at *
      generalize hKd : kd n d X = K at *
      clear hQd hKd hq
      rw [hpn] at HI HS hpm hp hx2 q2 ⊢
      clear hpn q3
      go_enter Try.func18, Try.ntmps18
      go_wp2
      go_quiet (fail)
      go_wp2
      rw [HQ.out]
      go_loopw [6, 7, 29, 30, 31, 32, 33, 34, 35, 36, 37] (fun a b _ _ _ _ _ _ _ _ _ wr => ∃ k r : Int, a = .int .i64 k ∧ b = .int .i64 r ∧ Hid (KRel (n) q X k r) ∧ Below w.heap.size w wr) (fun a _ _ _ _ _ _ _ _ _ _ _ => (X - intOf a).toNat)
      case atStart => exact ⟨1, q, rfl, rfl, HS, (below_drewN ((Below.refl _ _).alloc (Nat.le_refl _) _) _)⟩
      case round =>
        obtain ⟨k, r, rfl, rfl, hR, hb⟩ := hrel
        obtain ⟨r1, r2⟩ := hR.out.rb hp
        have k1 := hR.out.1
        have k2 := hR.out.2.1
        by_cases h1 : r = 1
        · subst h1
          have hkX := hR.out.done HI.out
          have HX := Lib.hid hkX
          clear hkX
          go_wp2
          go_ret2
          exact ⟨by rw [HK.out, HX.out]; rfl, hb⟩
        · have HN := Lib.hid (hR.out.next hp HI.out h1)
          have HM : Hid (k + 1 ≤ X) := HN.out.2.1
          go_wp2
          go_quiet (fail)
          go_wp2
          go_roundw
          case rel => exact ⟨k + 1, (r + q) % (n), rfl, rfl, HN, below_drewN hb _⟩
          case measure => have := HM.out; simp [intOf]; omega
  · have hp1 : pOf n ≤ 1 := by omega
    have hk : kd n d X = 0 := by unfold kd; rw [if_pos hp1]
    by_cases h0 : n < 0
    · have hpn : pOf n = -n := by unfold pOf; omega
      rw [hk, hpn]
      rw [hpn] at hp1
      clear hpn hN hX hk hp
      go_enter Try.func18, Try.ntmps18
      go_wp2
      go_quiet (fail)
      go_wp2
      go_ret2
      exact ⟨rfl, (below_drewN ((Below.refl _ _).alloc (Nat.le_refl _) _) _)⟩
    · have hpn : pOf n = n := by unfold pOf; omega
      rw [hk, hpn]
      rw [hpn] at hp1
      clear hpn hN hX hk hp
      go_enter Try.func18, Try.ntmps18
      go_wp2
      go_quiet (fail)
      go_wp2
      go_ret2
      exact ⟨rfl, (below_drewN ((Below.refl _ _).alloc (Nat.le_refl _) _) _)⟩

/-! ### Class and Equivalent -/
def ClassPost (n d : Int) (w : World) (e : Ending) (w' : World) : Prop := ∃ X : Int, InvOk n d X ∧ e = .returned (.tuple #[.int .i64 (pOf n), .int .i64 (kd n d X), .int .i64 0]) ∧ Below w.heap.size w w'
theorem classPost_mk {n d X p m x : Int} {w w' : World} (hX : InvOk n d X) (hp : p = pOf n) (hm : m = kd n d X) (hx : x = 0) (hb : Below w.heap.size w w') : ClassPost n d w (.returned (.tuple #[.int .i64 p, .int .i64 m, .int .i64 x])) w' := by
  subst hp hm hx; exact ⟨X, hX, rfl, hb⟩

set_option maxRecDepth 100000 in
set_option maxHeartbeats 2000000 in
theorem tclass_bad (n d : Int) (w : World) (hf : faultF n d ≠ 0) :
    Calls Try.prog 16 #[.agg #[.int .i64 n, .int .i64 d]] w fun e w' => e = .returned (.tuple #[.int .i64 0, .int .i64 0, .int .i64 (faultF n d)]) ∧ Below w.heap.size w w' := by
  have hf2 : (faultF n d != 0) = true := by simpa using hf
  have hf3 : (faultF n d == 0) = false := by simpa using hf
  clear hf
  go_enter Try.func16, Try.ntmps16
  go_wp2_with (go_at_call 10; refine (tcheck_c n d _).mono ?_; rintro e w1 ⟨rfl, hb1⟩)
  exact bodyPost_ret (v := .tuple #[.int .i64 0, .int .i64 0, .int .i64 (faultF n d)]) (by simp [results, Try.results16, go_sem]) rfl ⟨rfl, ((Below.refl _ _).alloc (Nat.le_refl _) _).trans (hb1.mono (by simp))⟩
set_option maxRecDepth 100000 in
set_option maxHeartbeats 2000000 in
theorem tclass_ok (n d : Int) (w : World) (hf : faultF n d = 0) :
    Calls Try.prog 16 #[.agg #[.int .i64 n, .int .i64 d]] w (ClassPost n d w) := by
  have HF := Lib.hid hf
  clear hf
  have F0 := Fr.new w (n, d)
  have a0 := F0.c0
  have a1 := F0.c1
  go_enter Try.func16, Try.ntmps16
  go_wp2_with (first
    | (go_at_call 10; refine (tcheck_c n d _).mono ?_; rw [HF.out]; rintro e w1 ⟨rfl, hb1⟩; clear a0 a1; have F1 := F0.below hb1 F0.lt; have b0 := F1.c0; have b1 := F1.c1)
    | (go_at_call 35; refine (class_c n d _ HF.out).mono ?_; rintro e w2 ⟨X, hX, rfl, hb2⟩))
  have z1 := hb1.size
  simp at z1
  exact bodyPost_ret (v := .tuple #[.int .i64 (pOf n), .int .i64 (kd n d X), .int .i64 0]) (by simp [results, Try.results16, go_sem]) rfl (classPost_mk hX rfl rfl rfl ((((Below.refl _ _).alloc (Nat.le_refl _) _).trans (hb1.mono (by simp))).trans (hb2.mono (by omega))))

/-- A block with two fractions. -/
def Lit4 (w : World) (g : Nat) (n d m c : Int) : Prop := w.heap[g]? = some (.cells #[.int .i64 n, .int .i64 d, .int .i64 m, .int .i64 c] 24 (0, 0))
theorem Lit4.lt {w : World} {g : Nat} {n d m c : Int} (h : Lit4 w g n d m c) : g < w.heap.size := (Array.getElem?_eq_some_iff.1 h).1
theorem Lit4.cell {w : World} {g : Nat} {n d m c : Int} (h : Lit4 w g n d m c) : w.cell? ⟨g, 0, none⟩ = some (.int .i64 n) ∧ w.cell? ⟨g, 1, none⟩ = some (.int .i64 d) ∧ w.cell? ⟨g, 2, none⟩ = some (.int .i64 m) ∧ w.cell? ⟨g, 3, none⟩ = some (.int .i64 c) := by unfold Lit4 at h; simp [World.cell?, h]
theorem Lit4.below {w w' : World} {g B : Nat} {n d m c : Int} (h : Lit4 w g n d m c) (hb : Below B w w') (hg : g < B) : Lit4 w' g n d m c := (hb.block g hg).trans h
theorem Lit4.alloc {w : World} {g : Nat} {n d m c : Int} (h : Lit4 w g n d m c) (o : Obj) : Lit4 (w.alloc o) g n d m c := (Below.heap_alloc w o g h.lt).trans h
theorem Lit4.new {w : World} {g : Nat} {n d m c : Int} (hg : g = w.heap.size) : Lit4 (w.alloc (.cells #[.int .i64 n, .int .i64 d, .int .i64 m, .int .i64 c] 24)) g n d m c := by subst hg; exact heap_alloc_new w _
theorem Fr.new' {w : World} {g : Nat} {p : Int × Int} (hg : g = w.heap.size) : Fr (w.alloc (.cells #[.int .i64 p.1, .int .i64 p.2] 24)) g p := by subst hg; exact Fr.new w p

/-- What Equivalent comes to. -/
def eqF (n d m c : Int) : Int := if faultF n d ≠ 0 then faultF n d else faultF m c
def EqPost (n d m c : Int) (w : World) (e : Ending) (w' : World) : Prop := (eqF n d m c ≠ 0 → e = .returned (.tuple #[.bool false, .int .i64 (eqF n d m c)])) ∧ (eqF n d m c = 0 → ∃ X Y : Int, InvOk n d X ∧ InvOk m c Y ∧ e = .returned (.tuple #[.bool (pOf n == pOf m && kd n d X == kd m c Y), .int .i64 0])) ∧ Below w.heap.size w w'
theorem eqPost_bad {n d m c x : Int} {w w' : World} (hf : eqF n d m c ≠ 0) (hx : x = eqF n d m c) (hb : Below w.heap.size w w') : EqPost n d m c w (.returned (.tuple #[.bool false, .int .i64 x])) w' := by
  subst hx; exact ⟨fun _ => rfl, fun h => absurd h hf, hb⟩
theorem eqPost_ok {n d m c X Y : Int} {b : Bool} {w w' : World} (hf : eqF n d m c = 0) (hX : InvOk n d X) (hY : InvOk m c Y) (hx : b = (pOf n == pOf m && kd n d X == kd m c Y)) (hb : Below w.heap.size w w') : EqPost n d m c w (.returned (.tuple #[.bool b, .int .i64 0])) w' := by
  subst hx; exact ⟨fun h => absurd hf h, fun _ => ⟨X, Y, hX, hY, rfl⟩, hb⟩

set_option maxRecDepth 100000 in
set_option maxHeartbeats 4000000 in
theorem equiv_c (n d m c : Int) (w : World) :
    Calls Try.prog 17 #[.agg #[.int .i64 n, .int .i64 d], .agg #[.int .i64 m, .int .i64 c]] w (EqPost n d m c w) := by
  go_enter Try.func17, Try.ntmps17
  go_wp2
  go_loopw [7, 8, 17, 18, 19, 20, 21, 22, 23, 24, 26] (fun _ _ i _ _ _ _ _ _ _ _ wr => ∃ k : Nat, k ≤ 2 ∧ i = .int .i64 k ∧ (1 ≤ k → faultF n d = 0) ∧ (2 ≤ k → faultF m c = 0) ∧ Fr wr w.heap.size (n, d) ∧ Fr wr (w.heap.size + 1) (m, c) ∧ Lit4 wr (w.heap.size + 2) n d m c ∧ Below w.heap.size w wr) (fun _ _ i _ _ _ _ _ _ _ _ _ => 2 - (intOf i).toNat)
  case atStart =>
    exact ⟨0, by omega, rfl, fun h => by omega, fun h => by omega, ((Fr.new w (n, d)).alloc _).alloc _, (Fr.new' (p := (m, c)) (by simp)).alloc _, Lit4.new (by simp), (((Below.refl _ _).alloc (Nat.le_refl _) _).alloc (by simp) _).alloc (by simp; omega) _⟩
  case round =>
    obtain ⟨k, hk, rfl, f1, f2, F0, G0, L0, hb⟩ := hrel
    have z := hb.size
    obtain ⟨c0, c1, c2, c3⟩ := L0.cell
    have l0 := L0.lt
    by_cases k0 : k = 0
    · subst k0
      clear f1 f2
      have w0 := Fr.new wr (n, d)
      have w0c := w0.c0
      have w1c := w0.c1
      by_cases hf : faultF n d = 0
      · have HF := Lib.hid hf
        clear hf
        go_wp2_with (go_at_call 10; refine (tcheck_c n d _).mono ?_; rw [HF.out]; rintro e w1 ⟨rfl, hb1⟩)
        go_roundw
        case rel => exact ⟨1, by omega, rfl, fun _ => HF.out, fun h => by omega, (F0.alloc _).below hb1 (by have := F0.lt; simp; omega), (G0.alloc _).below hb1 (by have := G0.lt; simp; omega), (L0.alloc _).below hb1 (by simp; omega), (hb.alloc hb.size _).trans (hb1.mono (by simp; omega))⟩
        case measure => simp [intOf]
      · have hE : eqF n d m c = faultF n d := by unfold eqF; rw [if_pos hf]
        have HE : Hid (eqF n d m c = faultF n d ∧ eqF n d m c ≠ 0) := ⟨hE, by rw [hE]; exact hf⟩
        have hf2 : (faultF n d != 0) = true := by simpa using hf
        have hf3 : (faultF n d == 0) = false := by simpa using hf
        clear hf hE
        go_wp2_with (go_at_call 10; refine (tcheck_c n d _).mono ?_; rintro e w1 ⟨rfl, hb1⟩)
        go_ret2
        exact eqPost_bad HE.out.2 HE.out.1.symm ((hb.alloc hb.size _).trans (hb1.mono (by simp; omega)))
    · have HF := Lib.hid (f1 (by omega))
      by_cases k1 : k = 1
      · subst k1
        clear f1 f2
        have w0 := Fr.new wr (m, c)
        have w0c := w0.c0
        have w1c := w0.c1
        by_cases hf : faultF m c = 0
        · have HG := Lib.hid hf
          clear hf
          go_wp2_with (go_at_call 10; refine (tcheck_c m c _).mono ?_; rw [HG.out]; rintro e w1 ⟨rfl, hb1⟩)
          go_roundw
          case rel => exact ⟨2, by omega, rfl, fun _ => HF.out, fun h => HG.out, (F0.alloc _).below hb1 (by have := F0.lt; simp; omega), (G0.alloc _).below hb1 (by have := G0.lt; simp; omega), (L0.alloc _).below hb1 (by simp; omega), (hb.alloc hb.size _).trans (hb1.mono (by simp; omega))⟩
          case measure => simp [intOf]
        · have hE : eqF n d m c = faultF m c := by unfold eqF; rw [if_neg (by rw [HF.out]; decide)]
          have HE : Hid (eqF n d m c = faultF m c ∧ eqF n d m c ≠ 0) := ⟨hE, by rw [hE]; exact hf⟩
          have hf2 : (faultF m c != 0) = true := by simpa using hf
          have hf3 : (faultF m c == 0) = false := by simpa using hf
          clear hf hE
          go_wp2_with (go_at_call 10; refine (tcheck_c m c _).mono ?_; rintro e w1 ⟨rfl, hb1⟩)
          go_ret2
          exact eqPost_bad HE.out.2 HE.out.1.symm ((hb.alloc hb.size _).trans (hb1.mono (by simp; omega)))
      · obtain rfl : k = 2 := by omega
        have HG := Lib.hid (f2 (by omega))
        clear f1 f2
        have HE : Hid (eqF n d m c = 0) := by unfold Hid eqF; rw [if_neg (by rw [HF.out]; decide)]; exact HG.out
        have a0 := F0.c0
        have a1 := F0.c1
        have tok1 : True := trivial
        go_wp2_with (first
          | (go_at_call 35; have _t := tok1; refine (class_c n d _ HF.out).mono ?_; rintro e w2 ⟨X, hX, rfl, hb2⟩; clear tok1; have z2 := hb2.size; have G2 := G0.below hb2 G0.lt; have b0 := G2.c0; have b1 := G2.c1)
          | (go_at_call 35; refine (class_c m c _ HG.out).mono ?_; rintro e w3 ⟨Y, hY, rfl, hb3⟩))
        all_goals
          rename_i hq
          exact bodyPost_ret (v := .tuple #[.bool (pOf n == pOf m && kd n d X == kd m c Y), .int .i64 0]) (by simp [results, Try.results17, go_sem, hq]) rfl (eqPost_ok HE.out hX hY rfl ((hb.trans (hb2.mono z)).trans (hb3.mono (by omega))))
end Go.Proofs.Ythkbcgggbgkfmaa
