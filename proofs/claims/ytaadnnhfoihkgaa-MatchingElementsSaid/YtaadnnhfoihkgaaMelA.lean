/- temperleylieb.Elements: the closure (written by genMel.py). No condition of its own. -/
import Derived.Test.YtaadnnhfoihkgaaMtA
import Derived.Test.YtaadnnhfoihkgaaMelP
import Derived.Test.YtaadnnhfoihkgaaIdxI
import Derived.Test.YtaadnnhfoihkgaaCloneO
import Derived.Test.YtaadnnhfoihkgaaAbsW
import Derived.Test.YtaadnnhfoihkgaaAbsY
set_option linter.unusedVariables false
set_option linter.unusedSimpArgs false
namespace Go.Proofs.Ytaadnnhfoihkgaa
open Go.RowKit

/-- the tokens of the variables -/
structure Tk4 (Tdv To Tf Td : Nat) : Prop where
  a : Tdv % 2 = 1
  b : To % 2 = 1
  c : Tf % 2 = 1
  d : Td % 2 = 0
  e : Tdv ≠ To
  f : Tdv ≠ Tf
  g : To ≠ Tf
/-- what the variables hold: the matching d, the list L -/
structure FH (n Tdv To Tf Td : Nat) (F : FuncId) (d : List Int) (L : List (List Int)) (T : Nat) (h : HP) : Prop where
  dv : h.blk Tdv = some [.ref Td 0 1 d.length]
  d : h.blk Td = some (ints d)
  o : h.blk To = some [.ref T 0 1 L.length]
  l : h.blk T = some (L.map pli)
  fn : h.blk Tf = some [.clo F [.ptr Tdv 0, .lptr [pint n], .ptr To 0, .ptr Tf 0]]
  ev : T % 2 = 0
  ne : T ≠ Td
  lt : T < 2 * h.next
  l1 : Tdv < 2 * h.next
  l2 : To < 2 * h.next
  l3 : Tf < 2 * h.next
  l4 : Td < 2 * h.next
/-- the heap afterwards -/
def FQ (n Tdv To Tf Td : Nat) (F : FuncId) (d : List Int) (L : List (List Int)) (T : Nat) (h h' : HP) : Prop := ∃ T', FH n Tdv To Tf Td F d L T' h' ∧ (T' = T ∨ 2 * h.next ≤ T') ∧ Fr [Td, To, T] h h'
theorem planar_n {n : Nat} (hn : 1 ≤ n ∧ n ≤ 6) {d : List Int} (hl : d.length = 2 * n) : SC Try.prog 47 [pint n, pli d] (.sc (.bool (plB n d))) := by
  have := planar_s (d := d) (around_s hn) (by rw [ar_len]; omega) (fun k hk => by have := ar_bd k hk; omega)
  have e : decide (((((arL n).foldl (stkS d) []).length : Nat) : Int) = 0) = plB n d := by unfold plB; exact decide_eq_decide.2 (by omega)
  rwa [e] at this
set_option maxHeartbeats 16000000 in
set_option maxRecDepth 100000 in
theorem elleaf_e {n : Nat} (hn : 1 ≤ n ∧ n ≤ 6) {Tdv To Tf Td : Nat} (tk : Tk4 Tdv To Tf Td) (d : List Int) (L : List (List Int)) (T : Nat) (h : HP) (hd : Mch n d) (hf : (-1 : Int) ∉ d) (hL : L.length ≤ 1000000000) (H : FH n Tdv To Tf Td 54 d L T h) :
    SChE Try.prog 54 [.ptr Tdv 0, .lptr [pint n], .ptr To 0, .ptr Tf 0] h (fun _ h' => FQ n Tdv To Tf Td 54 d (L ++ leafL n d) T h h') := by
  obtain ⟨ha, hb, hc, hdd, he, hff, hg⟩ := tk
  have H0 := H
  obtain ⟨b1, b2, b3, b4, b5, ev, ne, lt, l1, l2, l3, l4⟩ := H
  have hl := hd.len
  have hix := index_none (xs := d) (x := -1) (by omega) (fun k hk e => hf (by rw [← e, getD_lt 0 hk]; exact List.getElem_mem hk))
  have hpl := planar_n hn hl
  refine SChE.go { wc := [15], rb := [13, 14, 31, 33, 41, 43], ss := [37, 38, 45, 46] } tok mixed Try.func54 rfl rfl Try.ntmps54 rfl rfl (by kernel_rfl) (fun hw => ?_)
  first | simp only [updS] | simp only [updL, Nat.reduceAdd]
  repeat (first | refine S0 ?_ | refine S1 ?_ | refine S2 ?_ | refine S3 ?_ | refine S4 ?_ | refine S5 ?_ | refine S6 ?_ | refine S7 ?_ | refine S8 ?_ | refine S9 ?_ | refine S10 ?_ | refine S11 ?_ | refine S12 ?_ | refine S13 ?_ | refine S14 ?_ | refine S15 ?_ | refine S16 ?_ | refine S17 ?_ ?_ | refine S18 ?_ | refine S19 ?_ | refine S20 ?_ | refine S21 ?_ | refine S22 ?_ | refine S23 ?_ | refine S24 ?_ | refine S25 ?_ | refine S26 ?_ | refine S27 ?_ | refine S28 ?_ | refine S29 ?_ | refine S30 ?_ | refine S31 ?_ | refine S32 ?_ | refine S33 ?_ | refine S34 ?_ | refine S35 ?_ | refine S36 ?_ | refine S37 ?_ | refine S38 ?_ | refine S39 ?_ | refine S40 ?_ | refine S41 ?_ | refine S42 ?_ | refine S43 ?_ | refine S44 ?_ | refine S45 ?_ | refine S46 ?_ | refine S47 ?_ | refine S48 ?_ | refine S49 ?_ | refine S50 ?_ | refine S51 ?_ | refine S52 ?_ | refine S53 ?_ | refine S54 ?_ | refine S55 ?_ | refine S56 ?_ | refine S57 ?_ | refine S58 ?_ | refine S59 ?_ | refine S60 ?_ | refine S61 ?_ | refine S62 ?_ | refine S63 ?_ | refine S64 ?_ | refine S65 ?_ | refine S66 ?_ | refine S67 ?_ | refine S68 ?_ | refine S69 ?_ | refine S70 ?_ | refine S71 ?_ | refine S72 ?_ | refine S73 ?_ | refine S74 ?_ | refine S75 ?_ | refine S76 ?_ | refine S77 ?_ | refine S78 ?_ | refine S79 ?_ | refine S80 ?_ | refine S81 ?_ | refine S82 ?_ | refine S83 ?_ | refine S84 ?_ | refine S85 ?_ | refine S86 ?_ | refine S87 ?_)
  refine Scallb (args := [pli d, pint (-1)]) hix ?_ (ha := by simp only [evA, upd, Nat.reduceEqDiff, ↓reduceIte, List.map_cons, List.map_nil]; rw [bwI b2]; rfl)
  repeat (first | refine S0 ?_ | refine S1 ?_ | refine S2 ?_ | refine S3 ?_ | refine S4 ?_ | refine S5 ?_ | refine S6 ?_ | refine S7 ?_ | refine S8 ?_ | refine S9 ?_ | refine S10 ?_ | refine S11 ?_ | refine S12 ?_ | refine S13 ?_ | refine S14 ?_ | refine S15 ?_ | refine S16 ?_ | refine S17 ?_ ?_ | refine S18 ?_ | refine S19 ?_ | refine S20 ?_ | refine S21 ?_ | refine S22 ?_ | refine S23 ?_ | refine S24 ?_ | refine S25 ?_ | refine S26 ?_ | refine S27 ?_ | refine S28 ?_ | refine S29 ?_ | refine S30 ?_ | refine S31 ?_ | refine S32 ?_ | refine S33 ?_ | refine S34 ?_ | refine S35 ?_ | refine S36 ?_ | refine S37 ?_ | refine S38 ?_ | refine S39 ?_ | refine S40 ?_ | refine S41 ?_ | refine S42 ?_ | refine S43 ?_ | refine S44 ?_ | refine S45 ?_ | refine S46 ?_ | refine S47 ?_ | refine S48 ?_ | refine S49 ?_ | refine S50 ?_ | refine S51 ?_ | refine S52 ?_ | refine S53 ?_ | refine S54 ?_ | refine S55 ?_ | refine S56 ?_ | refine S57 ?_ | refine S58 ?_ | refine S59 ?_ | refine S60 ?_ | refine S61 ?_ | refine S62 ?_ | refine S63 ?_ | refine S64 ?_ | refine S65 ?_ | refine S66 ?_ | refine S67 ?_ | refine S68 ?_ | refine S69 ?_ | refine S70 ?_ | refine S71 ?_ | refine S72 ?_ | refine S73 ?_ | refine S74 ?_ | refine S75 ?_ | refine S76 ?_ | refine S77 ?_ | refine S78 ?_ | refine S79 ?_ | refine S80 ?_ | refine S81 ?_ | refine S82 ?_ | refine S83 ?_ | refine S84 ?_ | refine S85 ?_ | refine S86 ?_ | refine S87 ?_)
  refine Scallb (args := [pint n, pli d]) hpl ?_ (ha := by simp only [evA, upd, Nat.reduceEqDiff, ↓reduceIte, List.map_cons, List.map_nil]; rw [bwI b2]; rfl)

  by_cases hp : plB n d = true
  · rw [hp]
    repeat (first | refine S0 ?_ | refine S1 ?_ | refine S2 ?_ | refine S3 ?_ | refine S4 ?_ | refine S5 ?_ | refine S6 ?_ | refine S7 ?_ | refine S8 ?_ | refine S9 ?_ | refine S10 ?_ | refine S11 ?_ | refine S12 ?_ | refine S13 ?_ | refine S14 ?_ | refine S15 ?_ | refine S16 ?_ | refine S17 ?_ ?_ | refine S18 ?_ | refine S19 ?_ | refine S20 ?_ | refine S21 ?_ | refine S22 ?_ | refine S23 ?_ | refine S24 ?_ | refine S25 ?_ | refine S26 ?_ | refine S27 ?_ | refine S28 ?_ | refine S29 ?_ | refine S30 ?_ | refine S31 ?_ | refine S32 ?_ | refine S33 ?_ | refine S34 ?_ | refine S35 ?_ | refine S36 ?_ | refine S37 ?_ | refine S38 ?_ | refine S39 ?_ | refine S40 ?_ | refine S41 ?_ | refine S42 ?_ | refine S43 ?_ | refine S44 ?_ | refine S45 ?_ | refine S46 ?_ | refine S47 ?_ | refine S48 ?_ | refine S49 ?_ | refine S50 ?_ | refine S51 ?_ | refine S52 ?_ | refine S53 ?_ | refine S54 ?_ | refine S55 ?_ | refine S56 ?_ | refine S57 ?_ | refine S58 ?_ | refine S59 ?_ | refine S60 ?_ | refine S61 ?_ | refine S62 ?_ | refine S63 ?_ | refine S64 ?_ | refine S65 ?_ | refine S66 ?_ | refine S67 ?_ | refine S68 ?_ | refine S69 ?_ | refine S70 ?_ | refine S71 ?_ | refine S72 ?_ | refine S73 ?_ | refine S74 ?_ | refine S75 ?_ | refine S76 ?_ | refine S77 ?_ | refine S78 ?_ | refine S79 ?_ | refine S80 ?_ | refine S81 ?_ | refine S82 ?_ | refine S83 ?_ | refine S84 ?_ | refine S85 ?_ | refine S86 ?_ | refine S87 ?_)
    refine Scallob (args := [pli d]) (clone_o d (by omega)) ?_ (ha := by simp only [evA, upd, Nat.reduceEqDiff, ↓reduceIte, List.map_cons, List.map_nil]; rw [bwI b2]) (hf := ints_bare d)
    iterate 5 (first | refine S0 ?_ | refine S1 ?_ | refine S2 ?_ | refine S3 ?_ | refine S4 ?_ | refine S5 ?_ | refine S6 ?_ | refine S7 ?_ | refine S8 ?_ | refine S9 ?_ | refine S10 ?_ | refine S11 ?_ | refine S12 ?_ | refine S13 ?_ | refine S14 ?_ | refine S15 ?_ | refine S16 ?_ | refine S17 ?_ ?_ | refine S18 ?_ | refine S19 ?_ | refine S20 ?_ | refine S21 ?_ | refine S22 ?_ | refine S23 ?_ | refine S24 ?_ | refine S25 ?_ | refine S26 ?_ | refine S27 ?_ | refine S28 ?_ | refine S29 ?_ | refine S30 ?_ | refine S31 ?_ | refine S32 ?_ | refine S33 ?_ | refine S34 ?_ | refine S35 ?_ | refine S36 ?_ | refine S37 ?_ | refine S38 ?_ | refine S39 ?_ | refine S40 ?_ | refine S41 ?_ | refine S42 ?_ | refine S43 ?_ | refine S44 ?_ | refine S45 ?_ | refine S46 ?_ | refine S47 ?_ | refine S48 ?_ | refine S49 ?_ | refine S50 ?_ | refine S51 ?_ | refine S52 ?_ | refine S53 ?_ | refine S54 ?_ | refine S55 ?_ | refine S56 ?_ | refine S57 ?_ | refine S58 ?_ | refine S59 ?_ | refine S60 ?_ | refine S61 ?_ | refine S62 ?_ | refine S63 ?_ | refine S64 ?_ | refine S65 ?_ | refine S66 ?_ | refine S67 ?_ | refine S68 ?_ | refine S69 ?_ | refine S70 ?_ | refine S71 ?_ | refine S72 ?_ | refine S73 ?_ | refine S74 ?_ | refine S75 ?_ | refine S76 ?_ | refine S77 ?_ | refine S78 ?_ | refine S79 ?_ | refine S80 ?_ | refine S81 ?_ | refine S82 ?_ | refine S83 ?_ | refine S84 ?_ | refine S85 ?_ | refine S86 ?_ | refine S87 ?_)
    rw [show List.take L.length (List.map pli L) = List.map pli L from List.take_of_length_le (by simp)]
    obtain ⟨T1, hT1⟩ : ∃ T1, T1 = h.tok false := ⟨_, rfl⟩
    obtain ⟨T2, hT2⟩ : ∃ T2, T2 = (h.add false (ints d)).tok false := ⟨_, rfl⟩
    have n1 : T1 = 2 * h.next := by rw [hT1, HP.tokF]
    have n2 : T2 = 2 * h.next + 2 := by rw [hT2, HP.tokF]; show 2 * (h.next + 1) = _; omega
    rw [← hT2, ← hT1]
    have g2 : ((((h.add false (ints d)).kill T).add false (L.map pli ++ [PV.ref T1 0 1 d.length])).set To [PV.ref T2 0 1 (L.length + 1)]).blk T2 = some (L.map pli ++ [PV.ref T1 0 1 d.length]) := by
      refine (HP.set_other _ _ (by omega)).trans ?_
      rw [show T2 = ((h.add false (ints d)).kill T).tok false from hT2]
      exact HP.add_same _ _ _
    have g1 : ((((h.add false (ints d)).kill T).add false (L.map pli ++ [PV.ref T1 0 1 d.length])).set To [PV.ref T2 0 1 (L.length + 1)]).blk T1 = some (ints d) := by
      refine (HP.set_other _ _ (by omega)).trans ?_
      refine (HP.add_other _ _ _ (by rw [show ((h.add false (ints d)).kill T).tok false = T2 from hT2.symm]; omega)).trans ?_
      refine (HP.kill_other _ (by omega)).trans ?_
      rw [hT1]; exact HP.add_same _ _ _
    refine CW.freezeC T2 L.length (tk := T1) (off := 0) (sz := 1) (m := d.length) g2 (by simp) g1 (by simp) (by omega) (r := pli d) (by simp only [List.drop_zero, Nat.mul_one]; rw [List.take_of_length_le (by simp)]; rfl) ?_
    rw [show (L.map pli ++ [PV.ref T1 0 1 d.length]).set L.length (pli d) = (L ++ [d]).map pli by simp]
    repeat (first | refine S0 ?_ | refine S1 ?_ | refine S2 ?_ | refine S3 ?_ | refine S4 ?_ | refine S5 ?_ | refine S6 ?_ | refine S7 ?_ | refine S8 ?_ | refine S9 ?_ | refine S10 ?_ | refine S11 ?_ | refine S12 ?_ | refine S13 ?_ | refine S14 ?_ | refine S15 ?_ | refine S16 ?_ | refine S17 ?_ ?_ | refine S18 ?_ | refine S19 ?_ | refine S20 ?_ | refine S21 ?_ | refine S22 ?_ | refine S23 ?_ | refine S24 ?_ | refine S25 ?_ | refine S26 ?_ | refine S27 ?_ | refine S28 ?_ | refine S29 ?_ | refine S30 ?_ | refine S31 ?_ | refine S32 ?_ | refine S33 ?_ | refine S34 ?_ | refine S35 ?_ | refine S36 ?_ | refine S37 ?_ | refine S38 ?_ | refine S39 ?_ | refine S40 ?_ | refine S41 ?_ | refine S42 ?_ | refine S43 ?_ | refine S44 ?_ | refine S45 ?_ | refine S46 ?_ | refine S47 ?_ | refine S48 ?_ | refine S49 ?_ | refine S50 ?_ | refine S51 ?_ | refine S52 ?_ | refine S53 ?_ | refine S54 ?_ | refine S55 ?_ | refine S56 ?_ | refine S57 ?_ | refine S58 ?_ | refine S59 ?_ | refine S60 ?_ | refine S61 ?_ | refine S62 ?_ | refine S63 ?_ | refine S64 ?_ | refine S65 ?_ | refine S66 ?_ | refine S67 ?_ | refine S68 ?_ | refine S69 ?_ | refine S70 ?_ | refine S71 ?_ | refine S72 ?_ | refine S73 ?_ | refine S74 ?_ | refine S75 ?_ | refine S76 ?_ | refine S77 ?_ | refine S78 ?_ | refine S79 ?_ | refine S80 ?_ | refine S81 ?_ | refine S82 ?_ | refine S83 ?_ | refine S84 ?_ | refine S85 ?_ | refine S86 ?_ | refine S87 ?_)
    refine ⟨.inr rfl, _, rfl, ?_⟩
    rw [show leafL n d = [d] from if_pos hp]
    have ol : ∀ (x : Nat), x < 2 * h.next → x ≠ T → x ≠ To → ((((((h.add false (ints d)).kill T).add false (L.map pli ++ [PV.ref T1 0 1 d.length])).set To [PV.ref T2 0 1 (L.length + 1)]).kill T1).set T2 ((L ++ [d]).map pli)).blk x = h.blk x := fun x hx h1 h2 => by
      refine (HP.set_other _ _ (by omega)).trans ?_
      refine (HP.kill_other _ (by omega)).trans ?_
      refine (HP.set_other _ _ (by omega)).trans ?_
      refine (HP.add_other _ _ _ (by rw [show ((h.add false (ints d)).kill T).tok false = T2 from hT2.symm]; omega)).trans ?_
      refine (HP.kill_other _ (by omega)).trans ?_
      exact HP.add_other _ _ _ (by rw [← hT1]; omega)
    refine ⟨T2, ⟨?_, ?_, ?_, HP.set_same _ _ _, ?_, by omega, by omega, ?_, ?_, ?_, ?_, ?_⟩, .inr (by omega), ?_⟩
    · exact (ol _ l1 (by omega) he).trans b1
    · exact (ol _ l4 (fun e => ne e.symm) (by omega)).trans b2
    · rw [List.length_append]
      refine (HP.set_other _ _ (by omega)).trans ?_
      refine (HP.kill_other _ (by omega)).trans ?_
      exact HP.set_same _ _ _
    · exact (ol _ l3 (by omega) (fun e => hg e.symm)).trans b5
    · show T2 < 2 * (h.next + 1 + 1); omega
    · show Tdv < 2 * (h.next + 1 + 1); omega
    · show To < 2 * (h.next + 1 + 1); omega
    · show Tf < 2 * (h.next + 1 + 1); omega
    · show Td < 2 * (h.next + 1 + 1); omega
    · exact ((((((Fr.refl [Td, To, T] h).add false (ints d)).kill (.inl (by simp))).add false _).set _ (.inl (by simp))).kill (.inr (by omega))).set _ (.inr (by omega))
  · have hp2 : plB n d = false := by simpa using hp
    rw [hp2]
    repeat (first | refine S0 ?_ | refine S1 ?_ | refine S2 ?_ | refine S3 ?_ | refine S4 ?_ | refine S5 ?_ | refine S6 ?_ | refine S7 ?_ | refine S8 ?_ | refine S9 ?_ | refine S10 ?_ | refine S11 ?_ | refine S12 ?_ | refine S13 ?_ | refine S14 ?_ | refine S15 ?_ | refine S16 ?_ | refine S17 ?_ ?_ | refine S18 ?_ | refine S19 ?_ | refine S20 ?_ | refine S21 ?_ | refine S22 ?_ | refine S23 ?_ | refine S24 ?_ | refine S25 ?_ | refine S26 ?_ | refine S27 ?_ | refine S28 ?_ | refine S29 ?_ | refine S30 ?_ | refine S31 ?_ | refine S32 ?_ | refine S33 ?_ | refine S34 ?_ | refine S35 ?_ | refine S36 ?_ | refine S37 ?_ | refine S38 ?_ | refine S39 ?_ | refine S40 ?_ | refine S41 ?_ | refine S42 ?_ | refine S43 ?_ | refine S44 ?_ | refine S45 ?_ | refine S46 ?_ | refine S47 ?_ | refine S48 ?_ | refine S49 ?_ | refine S50 ?_ | refine S51 ?_ | refine S52 ?_ | refine S53 ?_ | refine S54 ?_ | refine S55 ?_ | refine S56 ?_ | refine S57 ?_ | refine S58 ?_ | refine S59 ?_ | refine S60 ?_ | refine S61 ?_ | refine S62 ?_ | refine S63 ?_ | refine S64 ?_ | refine S65 ?_ | refine S66 ?_ | refine S67 ?_ | refine S68 ?_ | refine S69 ?_ | refine S70 ?_ | refine S71 ?_ | refine S72 ?_ | refine S73 ?_ | refine S74 ?_ | refine S75 ?_ | refine S76 ?_ | refine S77 ?_ | refine S78 ?_ | refine S79 ?_ | refine S80 ?_ | refine S81 ?_ | refine S82 ?_ | refine S83 ?_ | refine S84 ?_ | refine S85 ?_ | refine S86 ?_ | refine S87 ?_)
    exact ⟨.inr rfl, _, rfl, by rw [show leafL n d = [] from if_neg hp, List.append_nil]; exact ⟨T, H0, .inl rfl, Fr.refl _ _⟩⟩
set_option maxHeartbeats 16000000 in
set_option maxRecDepth 100000 in
theorem elfill_e {n : Nat} (hn : 1 ≤ n ∧ n ≤ 6) {Tdv To Tf Td : Nat} (tk : Tk4 Tdv To Tf Td) : ∀ (f : Nat) (d : List Int) (L : List (List Int)) (T : Nat) (h : HP), Mch n d → opn d ≤ 2 * f → L.length + (2 * n) ^ f ≤ 1000000000 → FH n Tdv To Tf Td 54 d L T h →
    SChE Try.prog 54 [.ptr Tdv 0, .lptr [pint n], .ptr To 0, .ptr Tf 0] h (fun _ h' => FQ n Tdv To Tf Td 54 d (L ++ fillL n f d) T h h')
  | 0, d, L, T, h, hd, ho, hL, H => by
    have hf := opn_zero (d := d) (by omega)
    rw [fillL_leaf hf]
    exact elleaf_e hn tk d L T h hd hf (by omega) H
  | f + 1, d, L, T, h, hd, ho, hL, H => by
    by_cases hf : (-1 : Int) ∈ d
    case neg =>
      rw [fillL_leaf hf]
      exact elleaf_e hn tk d L T h hd hf (by omega) H
    have tk0 := tk
    obtain ⟨ha, hb, hc, hdd, he, hff, hg⟩ := tk
    have H0 := H
    obtain ⟨b1, b2, b3, b4, b5, ev, ne, lt, l1, l2, l3, l4⟩ := H
    have hl := hd.len
    obtain ⟨x1, x2, x3⟩ := ixm_spec hf
    have hix := index_some (xs := d) (x := -1) (by omega) x1 x2 x3
    have hall := doneF_all (n := n) (f := f) hf
    obtain ⟨i, hi⟩ : ∃ i, i = ixm d := ⟨_, rfl⟩
    rw [← hi] at x1 x2 x3 hix
    rw [← hall]
    refine SChE.go { wc := [15], rb := [13, 14, 31, 33, 41, 43], ss := [37, 38, 45, 46] } tok mixed Try.func54 rfl rfl Try.ntmps54 rfl rfl (by kernel_rfl) (fun hw => ?_)
    first | simp only [updS] | simp only [updL, Nat.reduceAdd]
    repeat (first | refine S0 ?_ | refine S1 ?_ | refine S2 ?_ | refine S3 ?_ | refine S4 ?_ | refine S5 ?_ | refine S6 ?_ | refine S7 ?_ | refine S8 ?_ | refine S9 ?_ | refine S10 ?_ | refine S11 ?_ | refine S12 ?_ | refine S13 ?_ | refine S14 ?_ | refine S15 ?_ | refine S16 ?_ | refine S17 ?_ ?_ | refine S18 ?_ | refine S19 ?_ | refine S20 ?_ | refine S21 ?_ | refine S22 ?_ | refine S23 ?_ | refine S24 ?_ | refine S25 ?_ | refine S26 ?_ | refine S27 ?_ | refine S28 ?_ | refine S29 ?_ | refine S30 ?_ | refine S31 ?_ | refine S32 ?_ | refine S33 ?_ | refine S34 ?_ | refine S35 ?_ | refine S36 ?_ | refine S37 ?_ | refine S38 ?_ | refine S39 ?_ | refine S40 ?_ | refine S41 ?_ | refine S42 ?_ | refine S43 ?_ | refine S44 ?_ | refine S45 ?_ | refine S46 ?_ | refine S47 ?_ | refine S48 ?_ | refine S49 ?_ | refine S50 ?_ | refine S51 ?_ | refine S52 ?_ | refine S53 ?_ | refine S54 ?_ | refine S55 ?_ | refine S56 ?_ | refine S57 ?_ | refine S58 ?_ | refine S59 ?_ | refine S60 ?_ | refine S61 ?_ | refine S62 ?_ | refine S63 ?_ | refine S64 ?_ | refine S65 ?_ | refine S66 ?_ | refine S67 ?_ | refine S68 ?_ | refine S69 ?_ | refine S70 ?_ | refine S71 ?_ | refine S72 ?_ | refine S73 ?_ | refine S74 ?_ | refine S75 ?_ | refine S76 ?_ | refine S77 ?_ | refine S78 ?_ | refine S79 ?_ | refine S80 ?_ | refine S81 ?_ | refine S82 ?_ | refine S83 ?_ | refine S84 ?_ | refine S85 ?_ | refine S86 ?_ | refine S87 ?_)
    refine Scallb (args := [pli d, pint (-1)]) hix ?_ (ha := by simp only [evA, upd, Nat.reduceEqDiff, ↓reduceIte, List.map_cons, List.map_nil]; rw [bwI b2]; rfl)
    repeat (first | refine S0 ?_ | refine S1 ?_ | refine S2 ?_ | refine S3 ?_ | refine S4 ?_ | refine S5 ?_ | refine S6 ?_ | refine S7 ?_ | refine S8 ?_ | refine S9 ?_ | refine S10 ?_ | refine S11 ?_ | refine S12 ?_ | refine S13 ?_ | refine S14 ?_ | refine S15 ?_ | refine S16 ?_ | refine S17 ?_ ?_ | refine S18 ?_ | refine S19 ?_ | refine S20 ?_ | refine S21 ?_ | refine S22 ?_ | refine S23 ?_ | refine S24 ?_ | refine S25 ?_ | refine S26 ?_ | refine S27 ?_ | refine S28 ?_ | refine S29 ?_ | refine S30 ?_ | refine S31 ?_ | refine S32 ?_ | refine S33 ?_ | refine S34 ?_ | refine S35 ?_ | refine S36 ?_ | refine S37 ?_ | refine S38 ?_ | refine S39 ?_ | refine S40 ?_ | refine S41 ?_ | refine S42 ?_ | refine S43 ?_ | refine S44 ?_ | refine S45 ?_ | refine S46 ?_ | refine S47 ?_ | refine S48 ?_ | refine S49 ?_ | refine S50 ?_ | refine S51 ?_ | refine S52 ?_ | refine S53 ?_ | refine S54 ?_ | refine S55 ?_ | refine S56 ?_ | refine S57 ?_ | refine S58 ?_ | refine S59 ?_ | refine S60 ?_ | refine S61 ?_ | refine S62 ?_ | refine S63 ?_ | refine S64 ?_ | refine S65 ?_ | refine S66 ?_ | refine S67 ?_ | refine S68 ?_ | refine S69 ?_ | refine S70 ?_ | refine S71 ?_ | refine S72 ?_ | refine S73 ?_ | refine S74 ?_ | refine S75 ?_ | refine S76 ?_ | refine S77 ?_ | refine S78 ?_ | refine S79 ?_ | refine S80 ?_ | refine S81 ?_ | refine S82 ?_ | refine S83 ?_ | refine S84 ?_ | refine S85 ?_ | refine S86 ?_ | refine S87 ?_)
    refine CW.loopS (fun k : Nat × Nat => i + 1 ≤ k.1 ∧ k.1 ≤ 2 * n) (fun k => [(0, .ptr Tdv 0), (1, .lptr [pint n]), (2, .ptr To 0), (3, .ptr Tf 0), (4, pint i), (5, pint k.1)]) (fun k hp => FH n Tdv To Tf Td 54 d (L ++ doneF n f d k.1) k.2 hp ∧ Fr [Td, To, T] h hp ∧ (k.2 = T ∨ 2 * h.next ≤ k.2)) (fun k => 2 * n - k.1) (i + 1, T) ⟨⟨Nat.le_refl _, by simp only; omega⟩, SLx, ⟨by simp only; rw [hi, doneF_start, List.append_nil]; exact H0, Fr.refl _ _, .inl rfl⟩⟩ ?_
    clear H0 b1 b2 b3 b4 b5 ev ne lt l1 l2 l3 l4
    rintro ⟨k, S⟩ t hp ⟨hk, hk2⟩ ⟨H1, hfr, hor⟩
    simp only at hk hk2 H1 hor
    have H0 := H1
    obtain ⟨b1, b2, b3, b4, b5, ev, ne, lt, l1, l2, l3, l4⟩ := H1
    first | simp only [updS] | simp only [updL, Nat.reduceAdd]
    by_cases hk3 : k < 2 * n
    · by_cases hneg : d.getD k 0 < 0
      · have hn1 := hd.neg hk3 hneg
        repeat (first | refine S0 ?_ | refine S1 ?_ | refine S2 ?_ | refine S3 ?_ | refine S4 ?_ | refine S5 ?_ | refine S6 ?_ | refine S7 ?_ | refine S8 ?_ | refine S9 ?_ | refine S10 ?_ | refine S11 ?_ | refine S12 ?_ | refine S13 ?_ | refine S14 ?_ | refine S15 ?_ | refine S16 ?_ | refine S17 ?_ ?_ | refine S18 ?_ | refine S19 ?_ | refine S20 ?_ | refine S21 ?_ | refine S22 ?_ | refine S23 ?_ | refine S24 ?_ | refine S25 ?_ | refine S26 ?_ | refine S27 ?_ | refine S28 ?_ | refine S29 ?_ | refine S30 ?_ | refine S31 ?_ | refine S32 ?_ | refine S33 ?_ | refine S34 ?_ | refine S35 ?_ | refine S36 ?_ | refine S37 ?_ | refine S38 ?_ | refine S39 ?_ | refine S40 ?_ | refine S41 ?_ | refine S42 ?_ | refine S43 ?_ | refine S44 ?_ | refine S45 ?_ | refine S46 ?_ | refine S47 ?_ | refine S48 ?_ | refine S49 ?_ | refine S50 ?_ | refine S51 ?_ | refine S52 ?_ | refine S53 ?_ | refine S54 ?_ | refine S55 ?_ | refine S56 ?_ | refine S57 ?_ | refine S58 ?_ | refine S59 ?_ | refine S60 ?_ | refine S61 ?_ | refine S62 ?_ | refine S63 ?_ | refine S64 ?_ | refine S65 ?_ | refine S66 ?_ | refine S67 ?_ | refine S68 ?_ | refine S69 ?_ | refine S70 ?_ | refine S71 ?_ | refine S72 ?_ | refine S73 ?_ | refine S74 ?_ | refine S75 ?_ | refine S76 ?_ | refine S77 ?_ | refine S78 ?_ | refine S79 ?_ | refine S80 ?_ | refine S81 ?_ | refine S82 ?_ | refine S83 ?_ | refine S84 ?_ | refine S85 ?_ | refine S86 ?_ | refine S87 ?_)
        obtain ⟨d2, hd2⟩ : ∃ d2, d2 = jn d i k := ⟨_, rfl⟩
        rw [show (d.set i (k : Int)).set k (i : Int) = d2 from hd2.symm]
        obtain ⟨h8, hh8⟩ : ∃ h8, h8 = (hp.set Td (ints (d.set i (k : Int)))).set Td (ints d2) := ⟨_, rfl⟩
        rw [← hh8]
        have hdl2 : d2.length = d.length := by rw [hd2, jn_len]
        have hm2 : Mch n d2 := by rw [hd2]; exact hd.join (by omega) hk3 (by omega) x3 hn1
        have ho2 : opn d2 ≤ 2 * f := by
          have := jn_opn (d := d) (i := i) (k := k) (by omega) (by omega) (by omega) x3 hn1
          rw [hd2]; omega
        have hxn : h8.next = hp.next := by rw [hh8]; rfl
        have h8o : ∀ x, x ≠ Td → h8.blk x = hp.blk x := fun x hx => by
          rw [hh8]
          exact (HP.set_other _ _ hx).trans (HP.set_other _ _ hx)
        have hdone := doneF_len hn.1 f d k
        have hpow : (2 * n) ^ (f + 1) = 2 * n * (2 * n) ^ f := by rw [Nat.pow_succ, Nat.mul_comm]
        have hmul : (k - (ixm d + 1)) * (2 * n) ^ f + (2 * n) ^ f ≤ 2 * n * (2 * n) ^ f := by
          rw [← Nat.succ_mul]
          exact Nat.mul_le_mul_right _ (by omega)
        have H8 : FH n Tdv To Tf Td 54 d2 (L ++ doneF n f d k) S h8 := by
          refine ⟨?_, ?_, ?_, ?_, ?_, ev, ne, by omega, by omega, by omega, by omega, by omega⟩
          · rw [h8o _ (by omega), hdl2]; exact b1
          · rw [hh8]; exact HP.set_same _ _ _
          · rw [h8o _ (by omega)]; exact b3
          · rw [h8o _ ne]; exact b4
          · rw [h8o _ (by omega)]; exact b5
        have ih := elfill_e hn tk0 f d2 (L ++ doneF n f d k) S h8 hm2 ho2 (by rw [List.length_append]; omega) H8
        refine AW.callve (f := 54) (cap := [.ptr Tdv 0, .lptr [pint n], .ptr To 0, .ptr Tf 0]) (args := [.ptr Tdv 0, .lptr [pint n], .ptr To 0, .ptr Tf 0]) rfl rfl rfl ih ?_
        rintro r h' ⟨S', H9, hor9, hfr9⟩
        have hxn9 := hfr9.next
        have fr8 : Fr [Td, To, T] hp h8 := by
          rw [hh8]
          exact ((Fr.refl _ hp).set _ (.inl (by simp))).set _ (.inl (by simp))
        clear b1 b2 b3 b4 b5 ev ne lt l1 l2 l3 l4 H8 hh8 h8o
        obtain ⟨b1, b2, b3, b4, b5, ev, ne, lt, l1, l2, l3, l4⟩ := H9
        rw [hdl2] at b1
        have hback : (d2.set i (-1)).set k (-1) = d := by rw [hd2]; exact jn_back (by omega) (by omega) (by omega) x3 hn1
        repeat (first | refine S0 ?_ | refine S1 ?_ | refine S2 ?_ | refine S3 ?_ | refine S4 ?_ | refine S5 ?_ | refine S6 ?_ | refine S7 ?_ | refine S8 ?_ | refine S9 ?_ | refine S10 ?_ | refine S11 ?_ | refine S12 ?_ | refine S13 ?_ | refine S14 ?_ | refine S15 ?_ | refine S16 ?_ | refine S17 ?_ ?_ | refine S18 ?_ | refine S19 ?_ | refine S20 ?_ | refine S21 ?_ | refine S22 ?_ | refine S23 ?_ | refine S24 ?_ | refine S25 ?_ | refine S26 ?_ | refine S27 ?_ | refine S28 ?_ | refine S29 ?_ | refine S30 ?_ | refine S31 ?_ | refine S32 ?_ | refine S33 ?_ | refine S34 ?_ | refine S35 ?_ | refine S36 ?_ | refine S37 ?_ | refine S38 ?_ | refine S39 ?_ | refine S40 ?_ | refine S41 ?_ | refine S42 ?_ | refine S43 ?_ | refine S44 ?_ | refine S45 ?_ | refine S46 ?_ | refine S47 ?_ | refine S48 ?_ | refine S49 ?_ | refine S50 ?_ | refine S51 ?_ | refine S52 ?_ | refine S53 ?_ | refine S54 ?_ | refine S55 ?_ | refine S56 ?_ | refine S57 ?_ | refine S58 ?_ | refine S59 ?_ | refine S60 ?_ | refine S61 ?_ | refine S62 ?_ | refine S63 ?_ | refine S64 ?_ | refine S65 ?_ | refine S66 ?_ | refine S67 ?_ | refine S68 ?_ | refine S69 ?_ | refine S70 ?_ | refine S71 ?_ | refine S72 ?_ | refine S73 ?_ | refine S74 ?_ | refine S75 ?_ | refine S76 ?_ | refine S77 ?_ | refine S78 ?_ | refine S79 ?_ | refine S80 ?_ | refine S81 ?_ | refine S82 ?_ | refine S83 ?_ | refine S84 ?_ | refine S85 ?_ | refine S86 ?_ | refine S87 ?_)
        rw [hback]
        have hn0 := hfr.next
        refine ⟨(k + 1, S'), ⟨by simp only; omega, by simp only; omega⟩, SLx, ⟨?_, ?_, ?_⟩, by simp only; omega⟩
        · have el : L ++ doneF n f d (k + 1) = L ++ doneF n f d k ++ fillL n f d2 := by
            rw [doneF_succ (by omega), if_pos hneg, List.append_assoc, hd2, hi]
          simp only
          rw [el]
          refine ⟨?_, HP.set_same _ _ _, ?_, ?_, ?_, ev, ne, lt, l1, l2, l3, l4⟩
          · exact (HP.set_other _ _ (by omega)).trans ((HP.set_other _ _ (by omega)).trans b1)
          · exact (HP.set_other _ _ (by omega)).trans ((HP.set_other _ _ (by omega)).trans b3)
          · exact (HP.set_other _ _ ne).trans ((HP.set_other _ _ ne).trans b4)
          · exact (HP.set_other _ _ (by omega)).trans ((HP.set_other _ _ (by omega)).trans b5)
        · refine ((((hfr.trans fr8 (by intro t ht; exact .inl ht)).trans hfr9 ?_).set _ (.inl (by simp))).set _ (.inl (by simp)))
          intro t ht
          simp only [List.mem_cons, List.not_mem_nil, or_false] at ht
          rcases ht with rfl | rfl | rfl
          · exact .inl (by simp)
          · exact .inl (by simp)
          · rcases hor with e | e
            · rw [e]; exact .inl (by simp)
            · exact .inr e
        · simp only
          rcases hor9 with e | e
          · rw [e]; exact hor
          · exact .inr (by omega)
      · repeat (first | refine S0 ?_ | refine S1 ?_ | refine S2 ?_ | refine S3 ?_ | refine S4 ?_ | refine S5 ?_ | refine S6 ?_ | refine S7 ?_ | refine S8 ?_ | refine S9 ?_ | refine S10 ?_ | refine S11 ?_ | refine S12 ?_ | refine S13 ?_ | refine S14 ?_ | refine S15 ?_ | refine S16 ?_ | refine S17 ?_ ?_ | refine S18 ?_ | refine S19 ?_ | refine S20 ?_ | refine S21 ?_ | refine S22 ?_ | refine S23 ?_ | refine S24 ?_ | refine S25 ?_ | refine S26 ?_ | refine S27 ?_ | refine S28 ?_ | refine S29 ?_ | refine S30 ?_ | refine S31 ?_ | refine S32 ?_ | refine S33 ?_ | refine S34 ?_ | refine S35 ?_ | refine S36 ?_ | refine S37 ?_ | refine S38 ?_ | refine S39 ?_ | refine S40 ?_ | refine S41 ?_ | refine S42 ?_ | refine S43 ?_ | refine S44 ?_ | refine S45 ?_ | refine S46 ?_ | refine S47 ?_ | refine S48 ?_ | refine S49 ?_ | refine S50 ?_ | refine S51 ?_ | refine S52 ?_ | refine S53 ?_ | refine S54 ?_ | refine S55 ?_ | refine S56 ?_ | refine S57 ?_ | refine S58 ?_ | refine S59 ?_ | refine S60 ?_ | refine S61 ?_ | refine S62 ?_ | refine S63 ?_ | refine S64 ?_ | refine S65 ?_ | refine S66 ?_ | refine S67 ?_ | refine S68 ?_ | refine S69 ?_ | refine S70 ?_ | refine S71 ?_ | refine S72 ?_ | refine S73 ?_ | refine S74 ?_ | refine S75 ?_ | refine S76 ?_ | refine S77 ?_ | refine S78 ?_ | refine S79 ?_ | refine S80 ?_ | refine S81 ?_ | refine S82 ?_ | refine S83 ?_ | refine S84 ?_ | refine S85 ?_ | refine S86 ?_ | refine S87 ?_)
        refine ⟨(k + 1, S), ⟨by simp only; omega, by simp only; omega⟩, SLx, ⟨?_, hfr, hor⟩, by simp only; omega⟩
        simp only
        rw [doneF_succ (by omega), if_neg hneg, List.append_nil]
        exact H0
    · obtain rfl : k = 2 * n := by omega
      repeat (first | refine S0 ?_ | refine S1 ?_ | refine S2 ?_ | refine S3 ?_ | refine S4 ?_ | refine S5 ?_ | refine S6 ?_ | refine S7 ?_ | refine S8 ?_ | refine S9 ?_ | refine S10 ?_ | refine S11 ?_ | refine S12 ?_ | refine S13 ?_ | refine S14 ?_ | refine S15 ?_ | refine S16 ?_ | refine S17 ?_ ?_ | refine S18 ?_ | refine S19 ?_ | refine S20 ?_ | refine S21 ?_ | refine S22 ?_ | refine S23 ?_ | refine S24 ?_ | refine S25 ?_ | refine S26 ?_ | refine S27 ?_ | refine S28 ?_ | refine S29 ?_ | refine S30 ?_ | refine S31 ?_ | refine S32 ?_ | refine S33 ?_ | refine S34 ?_ | refine S35 ?_ | refine S36 ?_ | refine S37 ?_ | refine S38 ?_ | refine S39 ?_ | refine S40 ?_ | refine S41 ?_ | refine S42 ?_ | refine S43 ?_ | refine S44 ?_ | refine S45 ?_ | refine S46 ?_ | refine S47 ?_ | refine S48 ?_ | refine S49 ?_ | refine S50 ?_ | refine S51 ?_ | refine S52 ?_ | refine S53 ?_ | refine S54 ?_ | refine S55 ?_ | refine S56 ?_ | refine S57 ?_ | refine S58 ?_ | refine S59 ?_ | refine S60 ?_ | refine S61 ?_ | refine S62 ?_ | refine S63 ?_ | refine S64 ?_ | refine S65 ?_ | refine S66 ?_ | refine S67 ?_ | refine S68 ?_ | refine S69 ?_ | refine S70 ?_ | refine S71 ?_ | refine S72 ?_ | refine S73 ?_ | refine S74 ?_ | refine S75 ?_ | refine S76 ?_ | refine S77 ?_ | refine S78 ?_ | refine S79 ?_ | refine S80 ?_ | refine S81 ?_ | refine S82 ?_ | refine S83 ?_ | refine S84 ?_ | refine S85 ?_ | refine S86 ?_ | refine S87 ?_)
      exact ⟨.inl rfl, _, rfl, S, H0, hor, hfr⟩
end Go.Proofs.Ytaadnnhfoihkgaa
