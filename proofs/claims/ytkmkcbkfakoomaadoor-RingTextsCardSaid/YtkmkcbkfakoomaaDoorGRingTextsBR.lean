/- Facts and contracts that the claim uses. No condition of its own. -/
import Derived.Test.YtkmkcbkfakoomaaDoorGRingTextsBQ
set_option linter.unusedVariables false
set_option linter.unusedSimpArgs false
namespace Go.Proofs.YtkmkcbkfakoomaaDoor
open Go.RowKit
abbrev Bld (B b : Nat) (l : List UInt8) (w : World) : Prop := Lib.IsBuilder 48 5 B b (Lib.byteCells l) w
theorem cells_str (l : List UInt8) : Lib.strCells (bsB l) = Lib.byteCells l := by simp [Lib.strCells, Lib.byteCells, bsB]
theorem cells_app (a b : List UInt8) : Lib.byteCells (a ++ b) = Lib.byteCells a ++ Lib.byteCells b := by simp [Lib.byteCells]
theorem bld_at {B b : Nat} {p : Value} {bs : List Value} {w w' : World} (h : Lib.BuilderAt 48 5 B b p bs w) (hb : Below w.heap.size w w') : Lib.BuilderAt 48 5 B b p bs w' := by
  have hlt := h.lt
  obtain ⟨h1, v, h2, h3, h4⟩ := h
  have hown : w'.ownsRow B 5 1 v bs.length bs := by
    obtain ⟨q, hq⟩ := h3
    refine ⟨q, hq.imp id ?_⟩
    rintro ⟨g, cap, cur, e1, e2, e3, e4⟩
    exact ⟨g, cap, cur, e1, e2, by rw [hb.block g (Array.getElem?_eq_some_iff.1 e3).1]; exact e3, e4⟩
  exact ⟨h1, v, by rw [hb.block b hlt]; exact h2, hown, h4⟩
theorem Bld.below {B b : Nat} {l : List UInt8} {w w' : World} (h : Bld B b l w) (hb : Below w.heap.size w w') : Bld B b l w' := h.imp (fun h => bld_at h hb) (fun h => bld_at h hb)
theorem bld_write {B b : Nat} {l s : List UInt8} {S : ByteArray} (hS : S = bsB s) {w : World} (h : Bld B b l w) (hlen : l.length + s.length ≤ 1000000000) (hBw : B ≤ w.heap.size) :
    Calls Tryd.prog 26 #[.pointer (some ⟨b, 0, none⟩), .string S] w fun e w' => e = .returned (.tuple #[.int .i64 s.length, .nilIface]) ∧ (Bld B b (l ++ s) w' ∧ Below B w w') := by
  subst hS
  refine (bws B b _ (bsB s) w h (by rw [Lib.byteCells_length, bsB_size]; omega) hBw).mono ?_
  rintro e w' ⟨h1, h2, h3⟩
  rw [bsB_size] at h1
  rw [cells_str, ← cells_app] at h2
  exact ⟨h1, .inr h2, h3⟩
theorem written_c {n : Nat} {c : Int} (hn : n ≤ 7) (hc : 0 ≤ c ∧ c < 64) (w : World) : Calls Tryd.prog 25 #[.int .i64 n, .int .i64 c] w fun e w' => e = .returned (.string (bsB (wrt n c.toNat))) ∧ Below w.heap.size w w' := by
  have h := written_s (n := n) (c := c.toNat) hn (by omega)
  rw [show ((c.toNat : Nat) : Int) = c by omega] at h
  exact h.law w _ rfl (fun i hi => by
    match i, hi with
    | 0, _ => exact .sc _
    | 1, _ => exact .sc _
    | i + 2, h => simp at h; omega)
set_option maxRecDepth 100000 in
set_option maxHeartbeats 4000000 in
theorem text_c (A : Option Addr) (cap : Nat) (n : Nat) (l : List Int) (w : World) (h : IsInts w A cap l) (hn : n ≤ 7) (hl : l.length ≤ 6000) (hg : ∀ x ∈ l, 0 ≤ x ∧ x < 64) :
    Calls Tryd.prog 12 #[.int .i64 n, .slice A l.length cap] w fun e w' => e = .returned (.string (bsB (txt n l))) ∧ Below w.heap.size w w' := by
  have h1 := h.len
  have h2 := h.cap_le
  have HG := Lib.hid hg
  clear hg
  go_enter Tryd.func12, Tryd.ntmps12
  go_wp2
  have HB0 : Bld w.heap.size w.heap.size [] (w.alloc (.cells #[.pointer none, .slice none 0 0] 48)) := Lib.fresh_isBuilder _ _ w
  go_loopw [6, 12] (fun b i wr => ∃ k : Nat, k ≤ l.length ∧ i = .int .i64 k ∧ b = .string (bsB (bfr n l k)) ∧ Bld w.heap.size w.heap.size (txA n l k) wr ∧ Below w.heap.size w wr) (fun _ i _ => l.length - (intOf i).toNat)
  case atStart => exact ⟨0, Nat.zero_le _, rfl, rfl, HB0, (Below.refl _ _).alloc (Nat.le_refl _) _⟩
  case round =>
    obtain ⟨k, hk, rfl, rfl, hB, hb⟩ := hrel
    by_cases hlt : k < l.length
    · obtain ⟨b, o, rfl, hbl, hc⟩ := h.row (by intro e; simp [e] at hlt)
      have hck := (hb.cell (p := ⟨b, o + k, none⟩) hbl).trans (hc k hlt)
      clear hc
      have hx := HG.out (l.getD k 0) (by rw [getD_lt 0 hlt]; exact List.getElem_mem hlt)
      have HT : Hid (txA n l (k + 1) = txA n l k ++ (if wrt n (l.getD k 0).toNat ≠ [120] ∧ bfr n l k ≠ [120] then [46] else []) ++ wrt n (l.getD k 0).toNat) := rfl
      have HL := Lib.hid (txA_len n l k)
      have HW := Lib.hid (wrt_len n (l.getD k 0).toNat)
      have HF : Hid (bfr n l (k + 1) = wrt n (l.getD k 0).toNat) := rfl
      generalize l.getD k 0 = c at *
      have HWc := fun w => written_c (c := c) hn hx w
      have HU := Lib.hid HWc
      clear HWc
      have hl1 : k * (n + 2) ≤ 6000 * 9 := Nat.mul_le_mul (by omega) (by omega)
      have hl2 := HL.out
      have hl3 := HW.out
      have HDa : Hid ((wrt n c.toNat = [120]) = ((bsB (wrt n c.toNat)).toList = [120])) := by unfold Hid; rw [bsB_toList]
      have HDb : Hid ((bfr n l k = [120]) = ((bsB (bfr n l k)).toList = [120])) := by unfold Hid; rw [bsB_toList]
      obtain ⟨P, hP⟩ : ∃ P, P = wrt n c.toNat := ⟨_, rfl⟩
      obtain ⟨R, hR⟩ : ∃ R, R = bfr n l k := ⟨_, rfl⟩
      obtain ⟨X, hX⟩ : ∃ X, X = txA n l k := ⟨_, rfl⟩
      rw [← hP] at HU HT HDa hl3 HW HF
      rw [← hR] at HT HDb ⊢
      rw [← hX] at HT hB hl2
      obtain ⟨sP, hsP⟩ : ∃ s, s = bsB P := ⟨_, rfl⟩
      obtain ⟨sR, hsR⟩ : ∃ s, s = bsB R := ⟨_, rfl⟩
      rw [← hsP] at HU HDa
      rw [← hsR] at HDb ⊢
      have HsP := Lib.hid hsP
      have HsR := Lib.hid hsR
      clear hsP hsR hP hR hX
      by_cases hd : P ≠ [120] ∧ R ≠ [120]
      · have hda : sP.toList ≠ [120] := fun e => hd.1 (by rw [HDa.out]; exact e)
        have hdb : sR.toList ≠ [120] := fun e => hd.2 (by rw [HDb.out]; exact e)
        have HT2 : Hid (txA n l (k + 1) = X ++ [46] ++ P) := by unfold Hid; rw [HT.out, if_pos hd]
        clear hd HT HDa HDb
        go_wp2_with (go_at_call 25; refine (HU.out _).mono ?_)
        rintro e w1 ⟨rfl, hb1⟩
        have hB1 := hB.below hb1
        have hs1 := hb1.size
        have hs0 := hb.size
        have hda1 : (sP.toList == [120]) = false := beq_false_of_ne hda
        have hdb1 : (sR.toList == [120]) = false := beq_false_of_ne hdb
        go_wp2_with (go_at_call 26; refine (bld_write (s := [46]) rfl hB1 (by simp; omega) (by omega)).mono ?_)
        rintro e w2 ⟨rfl, hB2, hb2⟩
        have hs2 := hb2.size
        go_wp2_with (go_at_call 26; refine (bld_write (s := P) HsP.out hB2 (by simp; omega) (by omega)).mono ?_)
        rintro e w3 ⟨rfl, hB3, hb3⟩
        go_wp2
        go_roundw
        case rel => exact ⟨k + 1, by omega, by go_num, by rw [HF.out, ← HsP.out], by rw [HT2.out]; exact hB3, ((hb.trans (hb1.mono hs0)).trans hb2).trans hb3⟩
        case measure => simp [intOf]; omega
      · have HT2 : Hid (txA n l (k + 1) = X ++ P) := by unfold Hid; rw [HT.out, if_neg hd, List.append_nil]
        by_cases hp : P = [120]
        · have hda : sP.toList = [120] := by rw [← HDa.out]; exact hp
          clear hd HT HDa HDb
          go_wp2_with (go_at_call 25; refine (HU.out _).mono ?_)
          rintro e w1 ⟨rfl, hb1⟩
          have hB1 := hB.below hb1
          have hs1 := hb1.size
          have hs0 := hb.size
          have hda1 : (sP.toList == [120]) = true := beq_iff_eq.2 hda
          go_wp2_with (go_at_call 26; refine (bld_write (s := P) HsP.out hB1 (by omega) (by omega)).mono ?_)
          rintro e w3 ⟨rfl, hB3, hb3⟩
          go_wp2
          go_roundw
          case rel => exact ⟨k + 1, by omega, by go_num, by rw [HF.out, ← HsP.out], by rw [HT2.out]; exact hB3, (hb.trans (hb1.mono hs0)).trans hb3⟩
          case measure => simp [intOf]; omega
        · have hr : R = [120] := Classical.byContradiction fun hr => hd ⟨hp, hr⟩
          have hda : sP.toList ≠ [120] := fun e => hp (by rw [HDa.out]; exact e)
          have hdb : sR.toList = [120] := by rw [← HDb.out]; exact hr
          clear hd HT HDa HDb hr
          go_wp2_with (go_at_call 25; refine (HU.out _).mono ?_)
          rintro e w1 ⟨rfl, hb1⟩
          have hB1 := hB.below hb1
          have hs1 := hb1.size
          have hs0 := hb.size
          have hda1 : (sP.toList == [120]) = false := beq_false_of_ne hda
          have hdb1 : (sR.toList == [120]) = true := beq_iff_eq.2 hdb
          go_wp2_with (go_at_call 26; refine (bld_write (s := P) HsP.out hB1 (by omega) (by omega)).mono ?_)
          rintro e w3 ⟨rfl, hB3, hb3⟩
          go_wp2
          go_roundw
          case rel => exact ⟨k + 1, by omega, by go_num, by rw [HF.out, ← HsP.out], by rw [HT2.out]; exact hB3, (hb.trans (hb1.mono hs0)).trans hb3⟩
          case measure => simp [intOf]; omega
    · obtain rfl : k = l.length := by omega
      have hs0 := hb.size
      go_wp2_with (go_at_call 27; refine (Tryd.Builder_String_any _ _ (txA n l l.length) _ hB hs0).mono ?_)
      rintro e w1 ⟨rfl, hb1⟩
      go_wp2
      go_ret
      refine ⟨?_, hb.trans hb1⟩
      rfl
theorem text_s {n : Nat} {l : List Int} (hn : n ≤ 7) (hl : l.length ≤ 6000) (hg : ∀ x ∈ l, 0 ≤ x ∧ x < 64) : SC Tryd.prog 12 [pint n, pli l] (pstr (txt n l)) := by
  refine ⟨callable Tryd.func12 rfl rfl, fun Z w vs hz hlv hv => ?_⟩
  have e0 := (hv 0 (by simp)).sc_inv
  obtain ⟨A, cap, e1, hI⟩ := V.isInts (hv 1 (by simp)) (fun x hx => in64_of (by have := hg x hx; omega))
  obtain rfl : vs = [Value.int .i64 n, .slice A l.length cap].toArray := vs_of (by simpa using hlv) (fun i hi => by
    match i, hi with
    | 0, _ => simpa using e0
    | 1, _ => simpa using e1
    | i + 2, h => simp at h; omega)
  exact (text_c A cap n l w hI hn hl hg).mono fun e w' ⟨h1, h2⟩ => ⟨_, h1, .sc _, h2⟩
end Go.Proofs.YtkmkcbkfakoomaaDoor
