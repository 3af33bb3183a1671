/- Facts and contracts that the claim uses. No condition of its own. -/
import Derived.Test.YtkmkcbkfakoomaaGRingCoursesBJ
import Derived.Test.YtkmkcbkfakoomaaGRingCoursesBA
import Derived.Test.YtkmkcbkfakoomaaGRingCoursesBF
set_option linter.unusedVariables false
set_option linter.unusedSimpArgs false
namespace Go.Proofs.Ytkmkcbkfakoomaa
open Go.RowKit
def tbl (n : Nat) (G : Nat → Int) : List Int := (List.range n).map G
@[simp] theorem tbl_length (n : Nat) (G : Nat → Int) : (tbl n G).length = n := by simp [tbl]
theorem tbl_get {n : Nat} {G : Nat → Int} {i : Nat} (h : i < n) : (tbl n G).getD i 0 = G i := by simp [tbl, List.getD, h]
theorem tbl_eq {n : Nat} {G : Nat → Int} {c : List Int} (h : c.length = n) (hg : ∀ i, i < n → c.getD i 0 = G i) : c = tbl n G := by
  apply List.ext_getElem (by simp [h])
  intro i h1 h2
  rw [← getD_lt 0 h1, ← getD_lt 0 h2, hg i (by omega), tbl_get (by omega)]
theorem tbl_congr {n : Nat} {G G' : Nat → Int} (h : ∀ i, i < n → G i = G' i) : tbl n G = tbl n G' := tbl_eq (by simp) (fun i hi => by rw [tbl_get hi, h i hi])
def repT (d : List Int) (n : Nat) : List Int := tbl n (fun i => d.getD (i % d.length) 0)
theorem conv_ui (n : Nat) (hn : n < 9223372036854775808) (w : World) : (convert 3 46 (.int .i64 n)).run Try.prog w = .ok (.int .u64 n) w := by
  have h1 : IntKind.u64.wrap n = n := by simp [IntKind.wrap, IntKind.signed, IntKind.bits]; omega
  simp [convert, Try.underlying46, Try.underlying3, Conv.intToInt, h1]
theorem conv_iu (n : Nat) (hn : n < 9223372036854775808) (w : World) : (convert 46 3 (.int .u64 n)).run Try.prog w = .ok (.int .i64 n) w := by
  have h1 : IntKind.i64.wrap n = n := by rw [IntKind.wrap_i64]; omega
  simp [convert, Try.underlying46, Try.underlying3, Conv.intToInt, h1]
theorem bmul_s (x y : Nat) (h : x * y < 9223372036854775808) (hx : x < 9223372036854775808) (hy : y < 9223372036854775808) : SC Try.prog 37 [.sc (.int .u64 x), .sc (.int .u64 y)] (.tup [.sc (.int .u64 0), .sc (.int .u64 (x * y : Nat))]) := by
  refine ⟨callable Try.func37 rfl rfl, fun Z w vs hz hl hv => ?_⟩
  have e0 := (hv 0 (by simp)).sc_inv
  have e1 := (hv 1 (by simp)).sc_inv
  obtain rfl : vs = [Value.int .u64 x, .int .u64 y].toArray := vs_of (by simpa using hl) (fun i hi => by
    match i, hi with
    | 0, _ => simpa using e0
    | 1, _ => simpa using e1
    | i + 2, h => simp at h; omega)
  refine (Try.bits_Mul x y (by omega) (by omega) w).mono ?_
  rintro e w' ⟨rfl, rfl⟩
  refine ⟨_, rfl, .tup _ _ rfl (fun i hi => ?_), Below.refl _ _⟩
  have d1 : x * y / 18446744073709551616 = 0 := Nat.div_eq_of_lt (by omega)
  have d2 : x * y % 18446744073709551616 = x * y := Nat.mod_eq_of_lt (by omega)
  match i, hi with
  | 0, _ => rw [d1]; exact .sc _
  | 1, _ => rw [d2]; exact .sc _
  | i + 2, h => simp at h; omega
def repP (d : List Int) (n m : Nat) : List Int := tbl n (fun i => if i < m then d.getD (i % d.length) 0 else 0)
theorem repP_all (d : List Int) (n : Nat) : repP d n n = repT d n := tbl_congr (fun i hi => if_pos hi)
theorem AW.slrFrom {P : Program} {T : TypeId → TI} {M : Hn} {t : Nat → PV} {h : HP} {cl : Oper → Cls} {ops : Array Oper} {l : List Oper} {K : AS → Prop} {d : Nat} {ty : TypeId} {pos : String} {aft : Array Edge} {tt : TypeId} {x lo : Operand} {el bs m tk off q : Nat} {zc : List Value} {k1 : IntKind} {z : Int} (hx : evA t x = .ref tk off 1 m) (ht : T tt = .sl el 1 bs zc) (hl : evA t lo = .sc (.int k1 z)) (hz : z = (q : Int)) (hb : q ≤ m)
    (hk : AW P T M cl ops l ⟨upd t d (.ref tk (off + q) 1 (m - q)), h⟩ K) : AW P T M cl ops (⟨some d, .slice tt x (some lo) none none, ty, pos, aft, none⟩ :: l) ⟨t, h⟩ K := by
  subst hz
  have := AW.slr (P := P) (M := M) (cl := cl) (ops := ops) (l := l) (h := h) (K := K) (d := d) (ty := ty) (pos := pos) (aft := aft) (lo := some lo) (hi := none) hx ht ⟨_, hl⟩ rfl ⟨by omega, by omega, Int.le_refl _⟩
  rw [show off + ((q : Nat) : Int).toNat * 1 = off + q by simp, show ((m : Nat) : Int).toNat - ((q : Nat) : Int).toNat = m - q by simp] at this
  exact this hk
theorem rep_first {d : List Int} {n : Nat} (hd : 0 < d.length) (hn : d.length ≤ n) : d ++ (List.replicate n (0 : Int)).drop d.length = repP d n d.length := by
  refine tbl_eq (by simp; omega) (fun i hi => ?_)
  by_cases h : i < d.length
  · rw [if_pos h, Nat.mod_eq_of_lt h]
    simp [List.getD, List.getElem?_append, h]
  · rw [if_neg h]
    simp only [List.getD, List.getElem?_append_right (show d.length ≤ i by omega), List.getElem?_drop]
    rw [List.getElem?_replicate]
    split <;> rfl
theorem rep_step {d : List Int} {n m q : Nat} (hd : 0 < d.length) (hm : m % d.length = 0) (hq : q = min (n - m) m) (hmn : m ≤ n) : (repP d n m).take m ++ (repP d n m).take q ++ (repP d n m).drop (m + q) = repP d n (m + q) := by
  have hl : (repP d n m).length = n := tbl_length _ _
  refine tbl_eq (by simp [hl]; omega) (fun i hi => ?_)
  have hg : ∀ j, j < n → (repP d n m).getD j 0 = if j < m then d.getD (j % d.length) 0 else 0 := fun j hj => tbl_get hj
  by_cases h1 : i < m
  · rw [if_pos (by omega)]
    have := hg i (by omega)
    rw [if_pos h1] at this
    rw [← this]
    simp only [List.getD]
    rw [List.append_assoc, List.getElem?_append_left (by simp [hl]; omega), List.getElem?_take, if_pos h1]
  · by_cases h2 : i < m + q
    · rw [if_pos h2]
      have := hg (i - m) (by omega)
      rw [if_pos (by omega)] at this
      have hmod : i % d.length = (i - m) % d.length := by
        conv => lhs; rw [show i = (i - m) + m by omega]
        rw [Nat.add_mod, hm, Nat.add_zero, Nat.mod_mod]
      rw [hmod, ← this]
      simp only [List.getD]
      rw [List.append_assoc, List.getElem?_append_right (by simp [hl]; omega), List.getElem?_append_left (by simp [hl]; omega), List.getElem?_take]
      rw [show i - (List.take m (repP d n m)).length = i - m by simp [hl]; omega, if_pos (by omega)]
    · rw [if_neg h2]
      have := hg i hi
      rw [if_neg h1] at this
      rw [← this]
      simp only [List.getD]
      rw [List.getElem?_append_right (by simp [hl]; omega), List.getElem?_drop]
      congr 2
      simp [hl]; omega
theorem gtr_u {a b : Int} (h : ¬ b < a) (t : TypeId) (x y : Operand) (w : World) : (do eqGuard .gtr t x y (.int .u64 a) (.int .u64 b); binOp .gtr t (.int .u64 a) (.int .u64 b) : Sem Value).run Try.prog w = .ok (.bool false) w := by
  have h1 : (eqGuard .gtr t x y (.int .u64 a) (.int .u64 b)).run Try.prog w = .ok () w := rfl
  rw [Sem.run_bind, h1]
  simp [binOp, Op.intCmp, h]
def rp (d : List Int) : Nat → List Int
  | 0 => []
  | k + 1 => rp d k ++ d
theorem rp_len (d : List Int) : ∀ k, (rp d k).length = d.length * k
  | 0 => rfl
  | k + 1 => by simp only [rp, List.length_append, rp_len d k, Nat.mul_succ]
theorem repT_rp {d : List Int} (hd : 0 < d.length) (k : Nat) : repT d (d.length * k) = rp d k := by
  refine (tbl_eq (rp_len d k) ?_).symm
  induction k with
  | zero => intro i hi; simp at hi
  | succ k ih =>
    intro i hi
    show (rp d k ++ d).getD i 0 = _
    by_cases h : i < d.length * k
    · have := ih i h
      rw [← this]
      simp [List.getD, List.getElem?_append_left (show i < (rp d k).length by rw [rp_len]; exact h)]
    · have h2 : i - d.length * k < d.length := by rw [Nat.mul_succ] at hi; omega
      have h3 : i % d.length = i - d.length * k := by
        conv => lhs; rw [show i = d.length * k + (i - d.length * k) by omega]
        rw [Nat.mul_add_mod, Nat.mod_eq_of_lt h2]
      rw [h3]
      simp [List.getD, List.getElem?_append_right (show (rp d k).length ≤ i by rw [rp_len]; omega), rp_len]
set_option maxHeartbeats 4000000 in
set_option maxRecDepth 100000 in
theorem repeat_o {d : List Int} {k : Nat} (hd : 0 < d.length) (hk : 1 ≤ k) (hb : d.length * k ≤ 20000000) : SCo Try.prog 18 [pli d, pint k] 1 (d.length * k) (ints (repT d (d.length * k))) := by
  have hdl : d.length ≤ d.length * k := Nat.le_mul_of_pos_right _ (by omega)
  have hkl : k ≤ d.length * k := Nat.le_mul_of_pos_left _ hd
  obtain ⟨n, hn⟩ : ∃ n, n = d.length * k := ⟨_, rfl⟩
  have hmod : n % d.length = 0 := by rw [hn]; exact Nat.mul_mod_right _ _
  rw [← hn] at hb hdl hkl ⊢
  refine SCo.go {} tok mixed Try.func18 rfl rfl Try.ntmps18 rfl rfl (by kernel_rfl) ?_
  first | simp only [updS] | simp only [updL, Nat.reduceAdd]
  repeat (first | refine S0 ?_ | refine S1 ?_ | refine S2 ?_ | refine S3 ?_ | refine S4 ?_ | refine S5 ?_ | refine S6 ?_ | refine S7 ?_ | refine S8 ?_ | refine S10 ?_ | refine S11 ?_ | refine S13 ?_ | refine S15 ?_ | refine S16 ?_ | refine S19 ?_ | refine S20 ?_ | refine S21 ?_ | refine S22 ?_ | refine S23 ?_ | refine S24 ?_ | refine S34 ?_ | refine S37 ?_ | refine S41 ?_ | refine S71 ?_)
  refine AW.conv EVx (conv_ui d.length (by omega)) ?_
  repeat (first | refine S0 ?_ | refine S1 ?_ | refine S2 ?_ | refine S3 ?_ | refine S4 ?_ | refine S5 ?_ | refine S6 ?_ | refine S7 ?_ | refine S8 ?_ | refine S10 ?_ | refine S11 ?_ | refine S13 ?_ | refine S15 ?_ | refine S16 ?_ | refine S19 ?_ | refine S20 ?_ | refine S21 ?_ | refine S22 ?_ | refine S23 ?_ | refine S24 ?_ | refine S34 ?_ | refine S37 ?_ | refine S41 ?_ | refine S71 ?_)
  refine AW.conv EVx (conv_ui k (by omega)) ?_
  repeat (first | refine S0 ?_ | refine S1 ?_ | refine S2 ?_ | refine S3 ?_ | refine S4 ?_ | refine S5 ?_ | refine S6 ?_ | refine S7 ?_ | refine S8 ?_ | refine S10 ?_ | refine S11 ?_ | refine S13 ?_ | refine S15 ?_ | refine S16 ?_ | refine S19 ?_ | refine S20 ?_ | refine S21 ?_ | refine S22 ?_ | refine S23 ?_ | refine S24 ?_ | refine S34 ?_ | refine S37 ?_ | refine S41 ?_ | refine S71 ?_)
  refine Scall (args := [.sc (.int .u64 d.length), .sc (.int .u64 k)]) (bmul_s _ _ (by rw [← hn]; omega) (by omega) (by omega)) ?_
  rw [← hn]
  repeat (first | refine S0 ?_ | refine S1 ?_ | refine S2 ?_ | refine S3 ?_ | refine S4 ?_ | refine S5 ?_ | refine S6 ?_ | refine S7 ?_ | refine S8 ?_ | refine S10 ?_ | refine S11 ?_ | refine S13 ?_ | refine S15 ?_ | refine S16 ?_ | refine S19 ?_ | refine S20 ?_ | refine S21 ?_ | refine S22 ?_ | refine S23 ?_ | refine S24 ?_ | refine S34 ?_ | refine S37 ?_ | refine S41 ?_ | refine S71 ?_)
  refine AW.binf EVx EVx (gtr_u (by omega) _ _ _) ?_
  repeat (first | refine S0 ?_ | refine S1 ?_ | refine S2 ?_ | refine S3 ?_ | refine S4 ?_ | refine S5 ?_ | refine S6 ?_ | refine S7 ?_ | refine S8 ?_ | refine S10 ?_ | refine S11 ?_ | refine S13 ?_ | refine S15 ?_ | refine S16 ?_ | refine S19 ?_ | refine S20 ?_ | refine S21 ?_ | refine S22 ?_ | refine S23 ?_ | refine S24 ?_ | refine S34 ?_ | refine S37 ?_ | refine S41 ?_ | refine S71 ?_)
  refine AW.binf EVx EVx (gtr_u (by omega) _ _ _) ?_
  repeat (first | refine S0 ?_ | refine S1 ?_ | refine S2 ?_ | refine S3 ?_ | refine S4 ?_ | refine S5 ?_ | refine S6 ?_ | refine S7 ?_ | refine S8 ?_ | refine S10 ?_ | refine S11 ?_ | refine S13 ?_ | refine S15 ?_ | refine S16 ?_ | refine S19 ?_ | refine S20 ?_ | refine S21 ?_ | refine S22 ?_ | refine S23 ?_ | refine S24 ?_ | refine S34 ?_ | refine S37 ?_ | refine S41 ?_ | refine S71 ?_)
  refine AW.conv EVx (conv_iu n (by omega)) ?_
  repeat (first | refine S0 ?_ | refine S1 ?_ | refine S2 ?_ | refine S3 ?_ | refine S4 ?_ | refine S5 ?_ | refine S6 ?_ | refine S7 ?_ | refine S8 ?_ | refine S10 ?_ | refine S11 ?_ | refine S13 ?_ | refine S15 ?_ | refine S16 ?_ | refine S19 ?_ | refine S20 ?_ | refine S21 ?_ | refine S22 ?_ | refine S23 ?_ | refine S24 ?_ | refine S34 ?_ | refine S37 ?_ | refine S41 ?_ | refine S71 ?_)
  have hr0 : (ints (List.replicate n (0 : Int))).take 0 ++ (ints d).take (Min.min n d.length * 1) ++ (ints (List.replicate n (0 : Int))).drop (0 + Min.min n d.length * 1) = ints (repP d n d.length) := by
    rw [Nat.min_eq_right hdl, ← rep_first hd hdl]
    simp only [Nat.mul_one, Nat.zero_add, List.take_zero, List.nil_append, ints_take, ints_drop, ints_append, List.take_length]
  refine AW.cpy (m := n) (m2 := d.length) (tk := 0) (off := 0) (r := ints (repP d n d.length)) EVx (.inl rfl) rfl HBx EVx (by first | exact ⟨rfl, rfl, .inr rfl⟩ | exact ⟨rfl, rfl, .inl rfl⟩ | (simp only [evA, upd, putA, Nat.reduceEqDiff, ↓reduceIte]; first | exact ⟨rfl, rfl, .inr rfl⟩ | exact ⟨rfl, rfl, .inl rfl⟩)) (by rw [ints_length, List.length_replicate]; omega) (fun p hp => ints_ones _ p (List.mem_of_mem_take hp)) hr0 ?_
  rw [Nat.min_eq_right hdl]
  repeat (first | refine S0 ?_ | refine S1 ?_ | refine S2 ?_ | refine S3 ?_ | refine S4 ?_ | refine S5 ?_ | refine S6 ?_ | refine S7 ?_ | refine S8 ?_ | refine S10 ?_ | refine S11 ?_ | refine S13 ?_ | refine S15 ?_ | refine S16 ?_ | refine S19 ?_ | refine S20 ?_ | refine S21 ?_ | refine S22 ?_ | refine S23 ?_ | refine S24 ?_ | refine S34 ?_ | refine S37 ?_ | refine S41 ?_ | refine S71 ?_)
  refine CW.loopS (fun m : Nat => (m % d.length = 0 ∨ m = n) ∧ d.length ≤ m ∧ m ≤ n) (fun m => [(7, .ref 0 0 1 n), (8, pint m)]) (fun m hp => hp.blk 0 = some (ints (repP d n m))) (fun m => n - m) d.length ⟨⟨.inl (Nat.mod_self _), Nat.le_refl _, hdl⟩, SLx, (by (try dsimp only); repeat' (first | exact HBx | exact SBx | refine And.intro ?_ ?_))⟩ ?_
  rintro m t h ⟨hm, hm1, hm2⟩ hB
  first | simp only [updS] | simp only [updL, Nat.reduceAdd]
  by_cases hlt : m < n
  · have hm0 : m % d.length = 0 := hm.resolve_right (by omega)
    obtain ⟨q, hq⟩ : ∃ q, q = min (n - m) m := ⟨_, rfl⟩
    have hs := rep_step hd hm0 hq hm2
    have hRl : (repP d n m).length = n := tbl_length _ _
    have hr1 : (ints (repP d n m)).take (0 + m) ++ ((ints (repP d n m)).drop 0).take (Min.min (n - m) m * 1) ++ (ints (repP d n m)).drop (0 + m + Min.min (n - m) m * 1) = ints (repP d n (m + q)) := by
      rw [← hq, ← hs]
      simp only [Nat.mul_one, Nat.zero_add, List.drop_zero, ints_take, ints_drop, ints_append]
    repeat (first | refine S0 ?_ | refine S1 ?_ | refine S2 ?_ | refine S3 ?_ | refine S4 ?_ | refine S5 ?_ | refine S6 ?_ | refine S7 ?_ | refine S8 ?_ | refine S10 ?_ | refine S11 ?_ | refine S13 ?_ | refine S15 ?_ | refine S16 ?_ | refine S19 ?_ | refine S20 ?_ | refine S21 ?_ | refine S22 ?_ | refine S23 ?_ | refine S24 ?_ | refine S34 ?_ | refine S37 ?_ | refine S41 ?_ | refine S71 ?_)
    refine AW.slrFrom (q := m) EVx rfl EVx rfl hm2 ?_
    repeat (first | refine S0 ?_ | refine S1 ?_ | refine S2 ?_ | refine S3 ?_ | refine S4 ?_ | refine S5 ?_ | refine S6 ?_ | refine S7 ?_ | refine S8 ?_ | refine S10 ?_ | refine S11 ?_ | refine S13 ?_ | refine S15 ?_ | refine S16 ?_ | refine S19 ?_ | refine S20 ?_ | refine S21 ?_ | refine S22 ?_ | refine S23 ?_ | refine S24 ?_ | refine S34 ?_ | refine S37 ?_ | refine S41 ?_ | refine S71 ?_)
    refine AW.slrTo (q := m) EVx rfl EVx rfl hm2 ?_
    repeat (first | refine S0 ?_ | refine S1 ?_ | refine S2 ?_ | refine S3 ?_ | refine S4 ?_ | refine S5 ?_ | refine S6 ?_ | refine S7 ?_ | refine S8 ?_ | refine S10 ?_ | refine S11 ?_ | refine S13 ?_ | refine S15 ?_ | refine S16 ?_ | refine S19 ?_ | refine S20 ?_ | refine S21 ?_ | refine S22 ?_ | refine S23 ?_ | refine S24 ?_ | refine S34 ?_ | refine S37 ?_ | refine S41 ?_ | refine S71 ?_)
    refine AW.cpy (m := n - m) (m2 := m) (tk := 0) (off := 0 + m) (r := ints (repP d n (m + q))) EVx (.inr ⟨rfl, rfl⟩) rfl hB EVx (by simp only [evA, upd, putA, Nat.reduceEqDiff, ↓reduceIte]; exact ⟨rfl, rfl, _, hB, by rw [ints_length, hRl]; omega, rfl⟩) (by rw [ints_length, hRl]; omega) (fun p hp => ints_ones _ p (List.mem_of_mem_drop (List.mem_of_mem_take hp))) hr1 ?_
    rw [← hq]
    repeat (first | refine S0 ?_ | refine S1 ?_ | refine S2 ?_ | refine S3 ?_ | refine S4 ?_ | refine S5 ?_ | refine S6 ?_ | refine S7 ?_ | refine S8 ?_ | refine S10 ?_ | refine S11 ?_ | refine S13 ?_ | refine S15 ?_ | refine S16 ?_ | refine S19 ?_ | refine S20 ?_ | refine S21 ?_ | refine S22 ?_ | refine S23 ?_ | refine S24 ?_ | refine S34 ?_ | refine S37 ?_ | refine S41 ?_ | refine S71 ?_)
    refine ⟨m + q, ⟨?_, by omega, by omega⟩, SLx, (by (try dsimp only); repeat' (first | exact HBx | exact SBx | refine And.intro ?_ ?_)), by omega⟩
    by_cases hc : q = m
    · exact .inl (by rw [hc, Nat.add_mod, hm0]; simp)
    · exact .inr (by omega)
  · obtain rfl : m = n := by omega
    rw [repP_all] at hB
    repeat (first | refine S0 ?_ | refine S1 ?_ | refine S2 ?_ | refine S3 ?_ | refine S4 ?_ | refine S5 ?_ | refine S6 ?_ | refine S7 ?_ | refine S8 ?_ | refine S10 ?_ | refine S11 ?_ | refine S13 ?_ | refine S15 ?_ | refine S16 ?_ | refine S19 ?_ | refine S20 ?_ | refine S21 ?_ | refine S22 ?_ | refine S23 ?_ | refine S24 ?_ | refine S34 ?_ | refine S37 ?_ | refine S41 ?_ | refine S71 ?_)
    have e := Ow.ints (t := 0) (k := m) hB (tbl_length _ _).symm rfl
    rw [show (repT d m).length = m from tbl_length _ _] at e
    exact ⟨.inr rfl, e⟩
end Go.Proofs.Ytkmkcbkfakoomaa
