/- Facts and contracts that the claim uses. No condition of its own. -/
import Derived.Test.YtkmkcbkfakoomaaDoorGRingTextsBC
import Derived.Laws.BytesArg
import Derived.Laws.Strings
import Derived.Laws.Slices
import Derived.Laws.DeepStrings4
set_option linter.unusedVariables false
set_option linter.unusedSimpArgs false
namespace Go.Proofs.YtkmkcbkfakoomaaDoor
open Go.RowKit
def bsB (l : List UInt8) : ByteArray := ⟨l.toArray⟩
abbrev pstr (l : List UInt8) : PV := .sc (.string (bsB l))
@[simp] theorem bsB_size (l : List UInt8) : (bsB l).size = l.length := by simp [bsB, ByteArray.size]
theorem bsB_app (a b : List UInt8) : bsB a ++ bsB b = bsB (a ++ b) := by
  apply ByteArray.ext
  simp [bsB]
theorem bsB_list (l : List UInt8) : (bsB l).data.toList = l := by simp [bsB]
theorem bsB_toList (l : List UInt8) : (bsB l).toList = l := ByteArray.toList_mk l
theorem beq_dec (a b : List UInt8) : (a == b) = decide (a = b) := by by_cases h : a = b <;> simp [h]
section
variable {P : Program}
theorem str_add (a b : List UInt8) (h : a.length + b.length ≤ 1000000000) (t : TypeId) (x y : Operand) (w : World) : (do eqGuard .add t x y (.string (bsB a)) (.string (bsB b)); binOp .add t (.string (bsB a)) (.string (bsB b)) : Sem Value).run P w = .ok (.string (bsB (a ++ b))) w := by
  have h1 : (eqGuard .add t x y (.string (bsB a)) (.string (bsB b))).run P w = .ok () w := rfl
  rw [Sem.run_bind, h1, binOp_string_add]
  have h2 : ¬ ((((bsB a).size + (bsB b).size : Nat) : Int) > IntKind.i64.max) := by rw [bsB_size, bsB_size, show IntKind.i64.max = 9223372036854775807 from rfl]; omega
  simp only [Result.andThen_ok, Op.stringOp, if_neg h2, Sem.run_pure, bsB_app]
theorem str_eql (a b : List UInt8) (t : TypeId) (x y : Operand) (w : World) : (do eqGuard .eql t x y (.string (bsB a)) (.string (bsB b)); binOp .eql t (.string (bsB a)) (.string (bsB b)) : Sem Value).run P w = .ok (.bool (decide (a = b))) w := by
  have h1 : (eqGuard .eql t x y (.string (bsB a)) (.string (bsB b))).run P w = .ok () w := rfl
  rw [Sem.run_bind, h1, binOp_string_eql]
  simp only [Result.andThen_ok, Sem.run_pure, bsB_toList, beq_dec]
theorem str_neq (a b : List UInt8) (t : TypeId) (x y : Operand) (w : World) : (do eqGuard .neq t x y (.string (bsB a)) (.string (bsB b)); binOp .neq t (.string (bsB a)) (.string (bsB b)) : Sem Value).run P w = .ok (.bool (!decide (a = b))) w := by
  have h1 : (eqGuard .neq t x y (.string (bsB a)) (.string (bsB b))).run P w = .ok () w := rfl
  rw [Sem.run_bind, h1, binOp_string_neq]
  simp only [Result.andThen_ok, Sem.run_pure, bsB_toList, beq_dec]
end
section
variable {P : Program} {T : TypeId → TI} {M : Hn} {cl : Oper → Cls} {ops : Array Oper} {l : List Oper} {t : Nat → PV} {h : HP} {K : AS → Prop} {d : Nat} {ty : TypeId} {pos : String} {aft : Array Edge}
theorem AW.lenS {tt : TypeId} {x : Operand} {s : List UInt8} (h0 : cl = (fun _ => Cls.wr)) (hx : evA t x = pstr s) (hu : P.underlying tt = some .string)
    (hk : AW P T M cl ops l ⟨upd t d (.sc (.int .i64 s.length)), h⟩ K) : AW P T M cl ops (⟨some d, .call ⟨.builtin .len, #[x], #[tt]⟩, ty, pos, aft, none⟩ :: l) ⟨t, h⟩ K :=
  ⟨.inr ⟨h0, .inl rfl, (fun _ hh => by cases hh), fun hT => by
    intro w0 Z0 ρ w a Kw Q H he hK
    have e1 := he x
    rw [hx] at e1
    have e2 := e1.sc_inv
    refine wp_val (u := .int .i64 s.length) (w' := w) ?_ (hK _ h _ w ρ hk.out H (.sc _) (fun _ _ h => h))
    have := run_len_string w tt ty (bsB s) hu
    rw [bsB_size] at this
    simp [execOp, resolve, invoke, builtin, e2, this, goInt]⟩⟩
theorem AW.ixS {tt : TypeId} {x ix : Operand} {s : List UInt8} {k : IntKind} {z : Int} {i : Nat} (h0 : cl = (fun _ => Cls.wr)) (hx : evA t x = pstr s) (hi : evA t ix = .sc (.int k z)) (hz : z = (i : Int)) (hu : P.underlying tt = some .string) (hb : i < s.length)
    (hk : AW P T M cl ops l ⟨upd t d (.sc (.int .u8 ((s.getD i 0).toNat : Nat))), h⟩ K) : AW P T M cl ops (⟨some d, .index tt x ix, ty, pos, aft, none⟩ :: l) ⟨t, h⟩ K :=
  ⟨.inr ⟨h0, .inl rfl, (fun _ hh => by cases hh), fun hT => by
    subst hz
    intro w0 Z0 ρ w a Kw Q H he hK
    have e1 := he x
    rw [hx] at e1
    have e2 := e1.sc_inv
    have e3 := he ix
    rw [hi] at e3
    have e4 := e3.sc_inv
    refine wp_val (u := .int .u8 ((s.getD i 0).toNat : Nat)) (w' := w) ?_ (hK _ h _ w ρ hk.out H (.sc _) (fun _ _ h => h))
    have := run_index_string w tt (bsB s) k (i : Int) hu
    rw [dif_pos ⟨by omega, by rw [bsB_size]; omega⟩] at this
    have hg : (bsB s)[((i : Nat) : Int).toNat]'(by rw [bsB_size]; omega) = s.getD i 0 := by
      show (bsB s).data[i]'_ = _
      simp [bsB, List.getD, hb]
    rw [hg] at this
    simp [execOp, e2, e4, this]⟩⟩
theorem AW.slS {tt : TypeId} {x lo hi : Operand} {s : List UInt8} {k1 k2 : IntKind} {z1 z2 : Int} {i j : Nat} (h0 : cl = (fun _ => Cls.wr)) (hx : evA t x = pstr s) (hl : evA t lo = .sc (.int k1 z1)) (hh : evA t hi = .sc (.int k2 z2)) (hz1 : z1 = (i : Int)) (hz2 : z2 = (j : Int)) (hu : P.underlying tt = some .string) (hij : i ≤ j) (hb : j ≤ s.length)
    (hk : AW P T M cl ops l ⟨upd t d (pstr ((s.drop i).take (j - i))), h⟩ K) : AW P T M cl ops (⟨some d, .slice tt x (some lo) (some hi) none, ty, pos, aft, none⟩ :: l) ⟨t, h⟩ K :=
  ⟨.inr ⟨h0, .inl rfl, (fun _ hh => by cases hh), fun hT => by
    subst hz1 hz2
    intro w0 Z0 ρ w a Kw Q H he hK
    have e1 := he x
    rw [hx] at e1
    have e2 := e1.sc_inv
    have e3 := he lo
    rw [hl] at e3
    have e4 := e3.sc_inv
    have e5 := he hi
    rw [hh] at e5
    have e6 := e5.sc_inv
    refine wp_val (u := .string (bsB ((s.drop i).take (j - i)))) (w' := w) ?_ (hK _ h _ w ρ hk.out H (.sc _) (fun _ _ h => h))
    have hx : (bsB s).extract i j = bsB ((s.drop i).take (j - i)) := by
      apply ByteArray.ext
      simp [bsB, ByteArray.data_extract]
    have := run_slice_string_if w tt (bsB s) k1 k2 (i : Int) (j : Int) hu
    rw [if_pos ⟨by omega, by rw [bsB_size]; omega⟩, if_pos ⟨by omega, by omega⟩, Int.toNat_natCast, Int.toNat_natCast, hx] at this
    simp [execOp, e2, e4, e6, run_sliceAt_string w tt _ _ _ _ hu, this]⟩⟩
theorem AW.cvbs {tt td e : TypeId} {x : Operand} {c : Bool} {m : Nat} {xs : List Int} (h0 : cl = (fun _ => Cls.wr)) (hx : evA t x = .lst c 1 m (xs.map fun z => .sc (.int .u8 z))) (hm : m = xs.length) (hne : xs ≠ []) (hs : P.underlying tt = some (.slice e)) (he8 : P.underlying e = some (.int .u8)) (hd : P.underlying td = some .string)
    (hk : AW P T M cl ops l ⟨upd t d (pstr (xs.map fun n => UInt8.ofNat n.toNat)), h⟩ K) : AW P T M cl ops (⟨some d, .convert tt td x, ty, pos, aft, none⟩ :: l) ⟨t, h⟩ K :=
  ⟨.inr ⟨h0, .inl rfl, (fun _ hh => by cases hh), fun hT => by
    subst hm
    intro w0 Z0 ρ w a Kw Q H he hK
    have e1 := he x
    rw [hx] at e1
    obtain ⟨cap, A, f, hev, g1, g2, g3, g4, ha, hv⟩ := e1.lst_inv
    obtain ⟨b, o, rfl, hz, hb, hc⟩ := ha (by simpa using hne)
    refine wp_val (u := .string (strOfNums xs)) (w' := w) ?_ (hK _ h _ w ρ hk.out H (.sc _) (fun _ _ h => h))
    have hr := run_convert_bytes_arg (P := P) w tt e hs he8 b o xs.length cap xs rfl (fun i hi => by
      have h1 := hc i (by simpa using hi)
      have h2 := hv i (by simpa using hi)
      rw [show (xs.map fun z => PV.sc (.int .u8 z)).getD i .junk = .sc (.int .u8 (xs.getD i 0)) by simp [List.getD, hi]] at h2
      rw [h1, h2.sc_inv]) td hd
    simp [execOp, hev, hr]⟩⟩
end
end Go.Proofs.YtkmkcbkfakoomaaDoor
