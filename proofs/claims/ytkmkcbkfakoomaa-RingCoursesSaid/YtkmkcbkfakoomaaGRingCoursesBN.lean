/- Facts and contracts that the claim uses. No condition of its own. -/
import Derived.Test.YtkmkcbkfakoomaaGRingCoursesBA
import Derived.Laws.BytesArg
import Derived.Laws.Strings
import Derived.Laws.Slices
import Derived.Laws.DeepStrings4
import Derived.Test.YtkmkcbkfakoomaaGRingCoursesAD
set_option linter.unusedVariables false
set_option linter.unusedSimpArgs false
namespace Go.Proofs.Ytkmkcbkfakoomaa
open Go.RowKit
def bsB (l : List UInt8) : ByteArray := ⟨l.toArray⟩
abbrev pstr (l : List UInt8) : PV := .sc (.string (bsB l))
@[simp] theorem bsB_size (l : List UInt8) : (bsB l).size = l.length := by simp [bsB, ByteArray.size]
theorem bsB_app (a b : List UInt8) : bsB a ++ bsB b = bsB (a ++ b) := by
  apply ByteArray.ext
  simp [bsB]
theorem bsB_list (l : List UInt8) : (bsB l).data.toList = l := by simp [bsB]
theorem bsB_toList (l : List UInt8) : (bsB l).toList = l := ByteArray.toList_mk l
theorem beq_dec (a b : List UInt8) : (a == b) = decide (a = b) := by by_cases h : a = b <;> simp [h]
section
variable {P : Program}
theorem str_add (a b : List UInt8) (h : a.length + b.length ≤ 1000000000) (t : TypeId) (x y : Operand) (w : World) : (do eqGuard .add t x y (.string (bsB a)) (.string (bsB b)); binOp .add t (.string (bsB a)) (.string (bsB b)) : Sem Value).run P w = .ok (.string (bsB (a ++ b))) w := by
  have h1 : (eqGuard .add t x y (.string (bsB a)) (.string (bsB b))).run P w = .ok () w := rfl
  rw [Sem.run_bind, h1, binOp_string_add]
  have h2 : ¬ ((((bsB a).size + (bsB b).size : Nat) : Int) > IntKind.i64.max) := by rw [bsB_size, bsB_size, show IntKind.i64.max = 9223372036854775807 from rfl]; omega
  simp only [Result.andThen_ok, Op.stringOp, if_neg h2, Sem.run_pure, bsB_app]
theorem str_eql (a b : List UInt8) (t : TypeId) (x y : Operand) (w : World) : (do eqGuard .eql t x y (.string (bsB a)) (.string (bsB b)); binOp .eql t (.string (bsB a)) (.string (bsB b)) : Sem Value).run P w = .ok (.bool (decide (a = b))) w := by
  have h1 : (eqGuard .eql t x y (.string (bsB a)) (.string (bsB b))).run P w = .ok () w := rfl
  rw [Sem.run_bind, h1, binOp_string_eql]
  simp only [Result.andThen_ok, Sem.run_pure, bsB_toList, beq_dec]
theorem str_neq (a b : List UInt8) (t : TypeId) (x y : Operand) (w : World) : (do eqGuard .neq t x y (.string (bsB a)) (.string (bsB b)); binOp .neq t (.string (bsB a)) (.string (bsB b)) : Sem Value).run P w = .ok (.bool (!decide (a = b))) w := by
  have h1 : (eqGuard .neq t x y (.string (bsB a)) (.string (bsB b))).run P w = .ok () w := rfl
  rw [Sem.run_bind, h1, binOp_string_neq]
  simp only [Result.andThen_ok, Sem.run_pure, bsB_toList, beq_dec]
end
section
variable {P : Program} {T : TypeId → TI} {M : Hn} {cl : Oper → Cls} {ops : Array Oper} {l : List Oper} {t : Nat → PV} {h : HP} {K : AS → Prop} {d : Nat} {ty : TypeId} {pos : String} {aft : Array Edge}
theorem AW.lenS {tt : TypeId} {x : Operand} {s : List UInt8} (h0 : cl = (fun _ => Cls.wr)) (hx : evA t x = pstr s) (hu : P.underlying tt = some .string)
    (hk : AW P T M cl ops l ⟨upd t d (.sc (.int .i64 s.length)), h⟩ K) : AW P T M cl ops (⟨some d, .call ⟨.builtin .len, #[x], #[tt]⟩, ty, pos, aft, none⟩ :: l) ⟨t, h⟩ K :=
  ⟨.inr ⟨h0, .inl rfl, (fun _ hh => by cases hh), fun hT => by
    intro w0 Z0 ρ w a Kw Q H he hK
    have e1 := he x
    rw [hx] at e1
    have e2 := e1.sc_inv
    refine wp_val (u := .int .i64 s.length) (w' := w) ?_ (hK _ h _ w ρ hk.out H (.sc _) (fun _ _ h => h))
    have := run_len_string w tt ty (bsB s) hu
    rw [bsB_size] at this
    simp [execOp, resolve, invoke, builtin, e2, this, goInt]⟩⟩
theorem AW.ixS {tt : TypeId} {x ix : Operand} {s : List UInt8} {k : IntKind} {z : Int} {i : Nat} (h0 : cl = (fun _ => Cls.wr)) (hx : evA t x = pstr s) (hi : evA t ix = .sc (.int k z)) (hz : z = (i : Int)) (hu : P.underlying tt = some .string) (hb : i < s.length)
    (hk : AW P T M cl ops l ⟨upd t d (.sc (.int .u8 ((s.getD i 0).toNat : Nat))), h⟩ K) : AW P T M cl ops (⟨some d, .index tt x ix, ty, pos, aft, none⟩ :: l) ⟨t, h⟩ K :=
  ⟨.inr ⟨h0, .inl rfl, (fun _ hh => by cases hh), fun hT => by
    subst hz
    intro w0 Z0 ρ w a Kw Q H he hK
    have e1 := he x
    rw [hx] at e1
    have e2 := e1.sc_inv
    have e3 := he ix
    rw [hi] at e3
    have e4 := e3.sc_inv
    refine wp_val (u := .int .u8 ((s.getD i 0).toNat : Nat)) (w' := w) ?_ (hK _ h _ w ρ hk.out H (.sc _) (fun _ _ h => h))
    have := run_index_string w tt (bsB s) k (i : Int) hu
    rw [dif_pos ⟨by omega, by rw [bsB_size]; omega⟩] at this
    have hg : (bsB s)[((i : Nat) : Int).toNat]'(by rw [bsB_size]; omega) = s.getD i 0 := by
      show (bsB s).data[i]'_ = _
      simp [bsB, List.getD, hb]
    rw [hg] at this
    simp [execOp, e2, e4, this]⟩⟩
theorem AW.slS {tt : TypeId} {x lo hi : Operand} {s : List UInt8} {k1 k2 : IntKind} {z1 z2 : Int} {i j : Nat} (h0 : cl = (fun _ => Cls.wr)) (hx : evA t x = pstr s) (hl : evA t lo = .sc (.int k1 z1)) (hh : evA t hi = .sc (.int k2 z2)) (hz1 : z1 = (i : Int)) (hz2 : z2 = (j : Int)) (hu : P.underlying tt = some .string) (hij : i ≤ j) (hb : j ≤ s.length)
    (hk : AW P T M cl ops l ⟨upd t d (pstr ((s.drop i).take (j - i))), h⟩ K) : AW P T M cl ops (⟨some d, .slice tt x (some lo) (some hi) none, ty, pos, aft, none⟩ :: l) ⟨t, h⟩ K :=
  ⟨.inr ⟨h0, .inl rfl, (fun _ hh => by cases hh), fun hT => by
    subst hz1 hz2
    intro w0 Z0 ρ w a Kw Q H he hK
    have e1 := he x
    rw [hx] at e1
    have e2 := e1.sc_inv
    have e3 := he lo
    rw [hl] at e3
    have e4 := e3.sc_inv
    have e5 := he hi
    rw [hh] at e5
    have e6 := e5.sc_inv
    refine wp_val (u := .string (bsB ((s.drop i).take (j - i)))) (w' := w) ?_ (hK _ h _ w ρ hk.out H (.sc _) (fun _ _ h => h))
    have hx : (bsB s).extract i j = bsB ((s.drop i).take (j - i)) := by
      apply ByteArray.ext
      simp [bsB, ByteArray.data_extract]
    have := run_slice_string_if w tt (bsB s) k1 k2 (i : Int) (j : Int) hu
    rw [if_pos ⟨by omega, by rw [bsB_size]; omega⟩, if_pos ⟨by omega, by omega⟩, Int.toNat_natCast, Int.toNat_natCast, hx] at this
    simp [execOp, e2, e4, e6, run_sliceAt_string w tt _ _ _ _ hu, this]⟩⟩
theorem AW.cvbs {tt td e : TypeId} {x : Operand} {c : Bool} {m : Nat} {xs : List Int} (h0 : cl = (fun _ => Cls.wr)) (hx : evA t x = .lst c 1 m (xs.map fun z => .sc (.int .u8 z))) (hm : m = xs.length) (hne : xs ≠ []) (hs : P.underlying tt = some (.slice e)) (he8 : P.underlying e = some (.int .u8)) (hd : P.underlying td = some .string)
    (hk : AW P T M cl ops l ⟨upd t d (pstr (xs.map fun n => UInt8.ofNat n.toNat)), h⟩ K) : AW P T M cl ops (⟨some d, .convert tt td x, ty, pos, aft, none⟩ :: l) ⟨t, h⟩ K :=
  ⟨.inr ⟨h0, .inl rfl, (fun _ hh => by cases hh), fun hT => by
    subst hm
    intro w0 Z0 ρ w a Kw Q H he hK
    have e1 := he x
    rw [hx] at e1
    obtain ⟨cap, A, f, hev, g1, g2, g3, g4, ha, hv⟩ := e1.lst_inv
    obtain ⟨b, o, rfl, hz, hb, hc⟩ := ha (by simpa using hne)
    refine wp_val (u := .string (strOfNums xs)) (w' := w) ?_ (hK _ h _ w ρ hk.out H (.sc _) (fun _ _ h => h))
    have hr := run_convert_bytes_arg (P := P) w tt e hs he8 b o xs.length cap xs rfl (fun i hi => by
      have h1 := hc i (by simpa using hi)
      have h2 := hv i (by simpa using hi)
      rw [show (xs.map fun z => PV.sc (.int .u8 z)).getD i .junk = .sc (.int .u8 (xs.getD i 0)) by simp [List.getD, hi]] at h2
      rw [h1, h2.sc_inv]) td hd
    simp [execOp, hev, hr]⟩⟩
end
end Go.Proofs.Ytkmkcbkfakoomaa

/- Facts and contracts that the claim uses. No condition of its own. -/
set_option linter.unusedVariables false
set_option linter.unusedSimpArgs false
namespace Go.Proofs.Ytkmkcbkfakoomaa
def stay (c i : Nat) : Bool := !bt c i && (i == 0 || !bt c (i - 1))
def wrA (c : Nat) : Nat → List UInt8
  | 0 => []
  | i + 1 => wrA c i ++ (if stay c i then [UInt8.ofNat (49 + i)] else [])
def wrt (n c : Nat) : List UInt8 := if wrA c n = [] then [120] else wrA c n
theorem wrA_len (c : Nat) : ∀ i, (wrA c i).length ≤ i
  | 0 => Nat.le_refl _
  | i + 1 => by
    have := wrA_len c i
    unfold wrA
    rw [List.length_append]
    split <;> simp <;> omega
theorem wrt_len (n c : Nat) : (wrt n c).length ≤ n + 1 := by
  unfold wrt
  split
  · simp
  · have := wrA_len c n; omega
def bfr (n : Nat) (l : List Int) : Nat → List UInt8
  | 0 => [120]
  | k + 1 => wrt n (l.getD k 0).toNat
def txA (n : Nat) (l : List Int) : Nat → List UInt8
  | 0 => []
  | k + 1 => txA n l k ++ (if wrt n (l.getD k 0).toNat ≠ [120] ∧ bfr n l k ≠ [120] then [46] else []) ++ wrt n (l.getD k 0).toNat
def txt (n : Nat) (l : List Int) : List UInt8 := txA n l l.length
theorem txA_len (n : Nat) (l : List Int) : ∀ k, (txA n l k).length ≤ k * (n + 2)
  | 0 => by simp [txA]
  | k + 1 => by
    have h1 := txA_len n l k
    have h2 := wrt_len n (l.getD k 0).toNat
    unfold txA
    rw [List.length_append, List.length_append, Nat.succ_mul]
    split
    · simp only [List.length_cons, List.length_nil]; omega
    · simp only [List.length_nil]; omega
def coS (n : Nat) (st : Nat → Bool) : Nat → Nat → Nat → Nat
  | 0, _, o => o
  | f + 1, i, o => if i + 1 < n then (if st i = false ∧ st (i + 1) = false then coS n st f (i + 2) (o + 2 ^ i) else coS n st f (i + 1) o) else o
def isIn (s : List UInt8) (k : Nat) : Bool := s.any (· == UInt8.ofNat (49 + k))
def coL (n : Nat) (s : List UInt8) : Nat := coS n (isIn s) n 0 0
theorem coS_lt {n : Nat} (st : Nat → Bool) : ∀ f i o, o < 2 ^ i → o < 2 ^ (n - 1) → coS n st f i o < 2 ^ (n - 1)
  | 0, i, o, _, h => h
  | f + 1, i, o, h, h' => by
    unfold coS
    split
    · rename_i hi
      have e1 : 2 ^ (i + 1) = 2 * 2 ^ i := by rw [Nat.pow_succ]; omega
      have e2 : 2 ^ (i + 2) = 4 * 2 ^ i := by rw [Nat.pow_succ, Nat.pow_succ]; omega
      have e3 : 2 ^ (i + 1) ≤ 2 ^ (n - 1) := Nat.pow_le_pow_right (by decide) (by omega)
      split
      · exact coS_lt st f (i + 2) _ (by omega) (by omega)
      · exact coS_lt st f (i + 1) _ (by omega) h'
    · exact h'
theorem coL_lt {n : Nat} (hn : n ≤ 7) (s : List UInt8) : coL n s < 64 :=
  Nat.lt_of_lt_of_le (coS_lt (isIn s) n 0 0 (by simp) (Nat.pow_pos (by decide))) (by rw [show (64 : Nat) = 2 ^ 6 from rfl]; exact Nat.pow_le_pow_right (by decide) (by omega))
theorem coS_done {n : Nat} {st : Nat → Bool} {f i o : Nat} (h : ¬ i + 1 < n) : coS n st f i o = o := by
  cases f with
  | zero => rfl
  | succ f => unfold coS; rw [if_neg h]
def runT (s : List UInt8) : Nat → Nat → Nat
  | 0, k => k
  | f + 1, k => if k < s.length ∧ s.getD k 0 ≠ 120 ∧ s.getD k 0 ≠ 46 then runT s f (k + 1) else k
def endT (s : List UInt8) (i : Nat) : Nat := if s.getD i 0 = 120 then i + 1 else runT s s.length (i + 1)
def nxtT (s : List UInt8) (k : Nat) : Nat := if k < s.length ∧ s.getD k 0 = 46 then k + 1 else k
theorem runT_le (s : List UInt8) : ∀ f k, k ≤ s.length → k ≤ runT s f k ∧ runT s f k ≤ s.length
  | 0, k, h => ⟨Nat.le_refl _, h⟩
  | f + 1, k, h => by
    unfold runT
    split
    · have := runT_le s f (k + 1) (by omega)
      omega
    · exact ⟨Nat.le_refl _, h⟩
theorem endT_le {s : List UInt8} {i : Nat} (h : i < s.length) : i + 1 ≤ endT s i ∧ endT s i ≤ s.length := by
  unfold endT
  split
  · omega
  · exact runT_le s _ _ (by omega)
theorem nxtT_le {s : List UInt8} {k : Nat} (h : k ≤ s.length) : k ≤ nxtT s k ∧ nxtT s k ≤ s.length := by
  unfold nxtT
  split <;> omega
def prs (n : Nat) (s : List UInt8) : Nat → Nat → List Int
  | 0, _ => []
  | f + 1, i => if i < s.length then ((coL n ((s.drop i).take (endT s i - i)) : Nat) : Int) :: prs n s f (nxtT s (endT s i)) else []
theorem prs_len (n : Nat) (s : List UInt8) : ∀ f i, (prs n s f i).length ≤ f
  | 0, i => by simp [prs]
  | f + 1, i => by
    unfold prs
    split
    · have := prs_len n s f (nxtT s (endT s i)); simp; omega
    · simp
def prsL (n : Nat) (s : List UInt8) : List Int := prs n s s.length 0
def psE (n : Int) (s : List UInt8) : Int := if n < 1 ∨ 7 < n then 1 else if 5040 < s.length then 2 else if txt n.toNat (prsL n.toNat s) = s then 0 else 8
def psL (n : Int) (s : List UInt8) : List Int := if psE n s = 0 then prsL n.toNat s else []
end Go.Proofs.Ytkmkcbkfakoomaa
