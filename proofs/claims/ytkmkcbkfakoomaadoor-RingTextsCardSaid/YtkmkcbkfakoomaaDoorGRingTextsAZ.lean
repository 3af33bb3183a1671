/- Facts and contracts that the claim uses. No condition of its own. -/
import Derived.Test.YtkmkcbkfakoomaaDoorGRingTextsAR
import Derived.Test.YtkmkcbkfakoomaaDoorProg
namespace Go.Proofs.YtkmkcbkfakoomaaDoor
open Go.RowKit
variable {P : Program}
theorem info_of {t : TypeId} {z : Value} {sz bs : Nat} (h : (P.info? t).map (fun i => (i.zero, i.size, i.bytes)) = some (some z, sz, bs)) : ∃ i, P.info? t = some i ∧ i.zero = some z ∧ i.size = sz ∧ i.bytes = bs := by
  cases hi : P.info? t with
  | none => simp [hi] at h
  | some i => simp [hi] at h; exact ⟨i, rfl, h.1, h.2.1, h.2.2⟩
theorem elt_of {t : TypeId} {d : TypeDesc} {z : Value} {sz bs : Nat} {ag : Bool} (hu : P.underlying t = some d) (ha : isAggD d = ag) (h : (P.info? t).map (fun i => (i.zero, i.size, i.bytes)) = some (some z, sz, bs)) : ElT P t ag sz := by
  obtain ⟨i, h1, h2, h3, h4⟩ := info_of h
  exact ⟨⟨d, hu, ha⟩, ⟨i, h1, h3⟩⟩
theorem elt_of2 {t sz : Nat} {ag : Bool} (hu : (P.underlying t).map isAggD = some ag) (h : (P.info? t).map (·.size) = some sz) : ElT P t ag sz := by
  obtain ⟨d, h1, h2⟩ := Option.map_eq_some_iff.1 hu
  obtain ⟨i, h3, h4⟩ := Option.map_eq_some_iff.1 h
  exact ⟨⟨d, h1, h2⟩, ⟨i, h3, h4⟩⟩
theorem zrt_of {t : TypeId} {z : Value} {sz bs : Nat} {zc : List Value} (h : (P.info? t).map (fun i => (i.zero, i.size, i.bytes)) = some (some z, sz, bs)) (hz : z.cells.toList = zc) : ZrT P t zc := by
  obtain ⟨i, h1, h2, h3, h4⟩ := info_of h
  exact ⟨⟨i, z, h1, h2, hz⟩⟩
theorem slt_of {t el : TypeId} {z : Value} {sz bs : Nat} {zc : List Value} (hu : P.underlying t = some (.slice el)) (h : (P.info? el).map (fun i => (i.zero, i.size, i.bytes)) = some (some z, sz, bs)) (hz : z.cells.toList = zc) (hl : zc.length = sz) (hp : 0 < sz) : SlT P t el sz bs zc := by
  obtain ⟨i, h1, h2, h3, h4⟩ := info_of h
  exact ⟨hu, ⟨i, z, h1, h3, h4, h2, hz⟩, hl, hp⟩
theorem art_of {t len el sz : Nat} (hu : P.underlying t = some (.array len el)) (h : (P.info? el).map (·.size) = some sz) : ArT P t len el sz := by
  obtain ⟨i, h3, h4⟩ := Option.map_eq_some_iff.1 h
  exact ⟨hu, ⟨i, h3, h4⟩⟩
theorem bdt_of {t : TypeId} {fs : Array Field} {z : Value} {sz bs : Nat} {zc : List Value} {pl : List (Nat × Nat)} (hu : P.underlying t = some (.struct fs)) (h : (P.info? t).map (fun i => (i.zero, i.size, i.bytes)) = some (some z, sz, bs)) (hz : z.cells.toList = zc)
    (h1 : fs.toList.map (·.offset) = pl.map (·.1)) (h2 : fs.toList.map (fun f => (P.info? f.type).map (·.size)) = pl.map (fun x => some x.2)) : BdT P t zc pl := by
  obtain ⟨i, g1, g2, g3, g4⟩ := info_of h
  exact ⟨⟨i, z, g1, g2, hz⟩, .inl ⟨fs, hu, h1, h2⟩⟩
theorem bda_of {t len el sz s2 : Nat} {z : Value} {bs : Nat} {zc : List Value} (hu : P.underlying t = some (.array len el)) (h : (P.info? t).map (fun i => (i.zero, i.size, i.bytes)) = some (some z, s2, bs)) (hz : z.cells.toList = zc) (h2 : (P.info? el).map (·.size) = some sz) : BdT P t zc ((List.range len).map fun i => (i * sz, sz)) := by
  obtain ⟨i, g1, g2, g3, g4⟩ := info_of h
  obtain ⟨j, h3, h4⟩ := Option.map_eq_some_iff.1 h2
  exact ⟨⟨i, z, g1, g2, hz⟩, .inr ⟨len, el, sz, hu, ⟨j, h3, h4⟩, rfl⟩⟩
theorem tin1 : (Tryd.prog.info? 1).map (fun i => (i.zero, i.size, i.bytes)) = some (some (.nilFunc), 1, 8) := by kernel_rfl
theorem tin2 : (Tryd.prog.info? 2).map (fun i => (i.zero, i.size, i.bytes)) = some (some (.int .i64 0), 1, 8) := by kernel_rfl
theorem tin3 : (Tryd.prog.info? 3).map (fun i => (i.zero, i.size, i.bytes)) = some (some (.int .i64 0), 1, 8) := by kernel_rfl
theorem tin4 : (Tryd.prog.info? 4).map (fun i => (i.zero, i.size, i.bytes)) = some (some (.bool false), 1, 1) := by kernel_rfl
theorem tin5 : (Tryd.prog.info? 5).map (fun i => (i.zero, i.size, i.bytes)) = some (some (.int .u8 0), 1, 1) := by kernel_rfl
theorem tin6 : (Tryd.prog.info? 6).map (fun i => (i.zero, i.size, i.bytes)) = some (some (.int .u8 0), 1, 1) := by kernel_rfl
theorem tin7 : (Tryd.prog.info? 7).map (fun i => (i.zero, i.size, i.bytes)) = some (some (.agg #[.int .i64 0, .int .i64 0, .bool false, .int .u8 0]), 4, 24) := by kernel_rfl
theorem tfd7_0 : FdT Tryd.prog 7 0 0 2 1 false := ⟨⟨_, Tryd.underlying7, _, rfl, rfl, rfl⟩, elt_of2 (by kernel_rfl) (by kernel_rfl), by decide⟩
theorem tfd7_1 : FdT Tryd.prog 7 1 1 3 1 false := ⟨⟨_, Tryd.underlying7, _, rfl, rfl, rfl⟩, elt_of2 (by kernel_rfl) (by kernel_rfl), by decide⟩
theorem tfd7_2 : FdT Tryd.prog 7 2 2 4 1 false := ⟨⟨_, Tryd.underlying7, _, rfl, rfl, rfl⟩, elt_of2 (by kernel_rfl) (by kernel_rfl), by decide⟩
theorem tfd7_3 : FdT Tryd.prog 7 3 3 6 1 false := ⟨⟨_, Tryd.underlying7, _, rfl, rfl, rfl⟩, elt_of2 (by kernel_rfl) (by kernel_rfl), by decide⟩
theorem tin8 : (Tryd.prog.info? 8).map (fun i => (i.zero, i.size, i.bytes)) = some (some (.agg #[.int .i64 0, .int .i64 0, .bool false, .int .u8 0]), 4, 24) := by kernel_rfl
theorem tfd8_0 : FdT Tryd.prog 8 0 0 2 1 false := ⟨⟨_, Tryd.underlying8, _, rfl, rfl, rfl⟩, elt_of2 (by kernel_rfl) (by kernel_rfl), by decide⟩
theorem tfd8_1 : FdT Tryd.prog 8 1 1 3 1 false := ⟨⟨_, Tryd.underlying8, _, rfl, rfl, rfl⟩, elt_of2 (by kernel_rfl) (by kernel_rfl), by decide⟩
theorem tfd8_2 : FdT Tryd.prog 8 2 2 4 1 false := ⟨⟨_, Tryd.underlying8, _, rfl, rfl, rfl⟩, elt_of2 (by kernel_rfl) (by kernel_rfl), by decide⟩
theorem tfd8_3 : FdT Tryd.prog 8 3 3 6 1 false := ⟨⟨_, Tryd.underlying8, _, rfl, rfl, rfl⟩, elt_of2 (by kernel_rfl) (by kernel_rfl), by decide⟩
theorem tin9 : (Tryd.prog.info? 9).map (fun i => (i.zero, i.size, i.bytes)) = some (some (.string ⟨#[]⟩), 1, 16) := by kernel_rfl
theorem tin10 : (Tryd.prog.info? 10).map (fun i => (i.zero, i.size, i.bytes)) = some (some (.string ⟨#[]⟩), 1, 16) := by kernel_rfl
theorem tin11 : (Tryd.prog.info? 11).map (fun i => (i.zero, i.size, i.bytes)) = some (some (.string ⟨#[]⟩), 1, 16) := by kernel_rfl
theorem tin12 : (Tryd.prog.info? 12).map (fun i => (i.zero, i.size, i.bytes)) = some (some (.int .u64 0), 1, 8) := by kernel_rfl
theorem tin13 : (Tryd.prog.info? 13).map (fun i => (i.zero, i.size, i.bytes)) = some (some (.agg #[.string ⟨#[]⟩, .int .u64 0]), 2, 24) := by kernel_rfl
theorem tfd13_0 : FdT Tryd.prog 13 0 0 9 1 false := ⟨⟨_, Tryd.underlying13, _, rfl, rfl, rfl⟩, elt_of2 (by kernel_rfl) (by kernel_rfl), by decide⟩
theorem tfd13_1 : FdT Tryd.prog 13 1 1 12 1 false := ⟨⟨_, Tryd.underlying13, _, rfl, rfl, rfl⟩, elt_of2 (by kernel_rfl) (by kernel_rfl), by decide⟩
theorem tin14 : (Tryd.prog.info? 14).map (fun i => (i.zero, i.size, i.bytes)) = some (some (.agg #[.string ⟨#[]⟩, .int .u64 0]), 2, 24) := by kernel_rfl
theorem tfd14_0 : FdT Tryd.prog 14 0 0 9 1 false := ⟨⟨_, Tryd.underlying14, _, rfl, rfl, rfl⟩, elt_of2 (by kernel_rfl) (by kernel_rfl), by decide⟩
theorem tfd14_1 : FdT Tryd.prog 14 1 1 12 1 false := ⟨⟨_, Tryd.underlying14, _, rfl, rfl, rfl⟩, elt_of2 (by kernel_rfl) (by kernel_rfl), by decide⟩
theorem tin15 : (Tryd.prog.info? 15).map (fun i => (i.zero, i.size, i.bytes)) = some (some (.pointer none), 1, 8) := by kernel_rfl
theorem tin16 : (Tryd.prog.info? 16).map (fun i => (i.zero, i.size, i.bytes)) = some (some (.pointer none), 1, 8) := by kernel_rfl
theorem tin17 : (Tryd.prog.info? 17).map (fun i => (i.zero, i.size, i.bytes)) = some (some (.pointer none), 1, 8) := by kernel_rfl
theorem tin18 : (Tryd.prog.info? 18).map (fun i => (i.zero, i.size, i.bytes)) = some (some (.agg #[.pointer none]), 1, 8) := by kernel_rfl
theorem tfd18_0 : FdT Tryd.prog 18 0 0 17 1 false := ⟨⟨_, Tryd.underlying18, _, rfl, rfl, rfl⟩, elt_of2 (by kernel_rfl) (by kernel_rfl), by decide⟩
theorem tin19 : (Tryd.prog.info? 19).map (fun i => (i.zero, i.size, i.bytes)) = some (some (.agg #[.pointer none]), 1, 8) := by kernel_rfl
theorem tfd19_0 : FdT Tryd.prog 19 0 0 17 1 false := ⟨⟨_, Tryd.underlying19, _, rfl, rfl, rfl⟩, elt_of2 (by kernel_rfl) (by kernel_rfl), by decide⟩
theorem tin21 : (Tryd.prog.info? 21).map (fun i => (i.zero, i.size, i.bytes)) = some (some (.int .i32 0), 1, 4) := by kernel_rfl
theorem tin22 : (Tryd.prog.info? 22).map (fun i => (i.zero, i.size, i.bytes)) = some (some (.slice none 0 0), 1, 24) := by kernel_rfl
theorem tel22 : (Tryd.prog.info? 3).map (fun i => (i.zero, i.size, i.bytes)) = some (some ((.int .i64 0)), 1, 8) := by kernel_rfl
theorem tin23 : (Tryd.prog.info? 23).map (fun i => (i.zero, i.size, i.bytes)) = some (some (.int .i64 0), 1, 8) := by kernel_rfl
theorem tin25 : (Tryd.prog.info? 25).map (fun i => (i.zero, i.size, i.bytes)) = some (some (.nilFunc), 1, 8) := by kernel_rfl
theorem tin27 : (Tryd.prog.info? 27).map (fun i => (i.zero, i.size, i.bytes)) = some (some (.nilFunc), 1, 8) := by kernel_rfl
theorem tin28 : (Tryd.prog.info? 28).map (fun i => (i.zero, i.size, i.bytes)) = some (some (.nilFunc), 1, 8) := by kernel_rfl
theorem tin29 : (Tryd.prog.info? 29).map (fun i => (i.zero, i.size, i.bytes)) = some (some (.nilFunc), 1, 8) := by kernel_rfl
theorem tin30 : (Tryd.prog.info? 30).map (fun i => (i.zero, i.size, i.bytes)) = some (some (.nilFunc), 1, 8) := by kernel_rfl
theorem tin31 : (Tryd.prog.info? 31).map (fun i => (i.zero, i.size, i.bytes)) = some (some (.nilFunc), 1, 8) := by kernel_rfl
theorem tin32 : (Tryd.prog.info? 32).map (fun i => (i.zero, i.size, i.bytes)) = some (some (.nilFunc), 1, 8) := by kernel_rfl
theorem tin33 : (Tryd.prog.info? 33).map (fun i => (i.zero, i.size, i.bytes)) = some (some (.nilFunc), 1, 8) := by kernel_rfl
theorem tin34 : (Tryd.prog.info? 34).map (fun i => (i.zero, i.size, i.bytes)) = some (some (.nilFunc), 1, 8) := by kernel_rfl
theorem tin35 : (Tryd.prog.info? 35).map (fun i => (i.zero, i.size, i.bytes)) = some (some (.nilFunc), 1, 8) := by kernel_rfl
theorem tin36 : (Tryd.prog.info? 36).map (fun i => (i.zero, i.size, i.bytes)) = some (some (.nilFunc), 1, 8) := by kernel_rfl
theorem tin37 : (Tryd.prog.info? 37).map (fun i => (i.zero, i.size, i.bytes)) = some (some (.nilFunc), 1, 8) := by kernel_rfl
theorem tin38 : (Tryd.prog.info? 38).map (fun i => (i.zero, i.size, i.bytes)) = some (some (.nilFunc), 1, 8) := by kernel_rfl
theorem tin39 : (Tryd.prog.info? 39).map (fun i => (i.zero, i.size, i.bytes)) = some (some (.nilFunc), 1, 8) := by kernel_rfl
theorem tin40 : (Tryd.prog.info? 40).map (fun i => (i.zero, i.size, i.bytes)) = some (some (.slice none 0 0), 1, 24) := by kernel_rfl
theorem tel40 : (Tryd.prog.info? 9).map (fun i => (i.zero, i.size, i.bytes)) = some (some ((.string ⟨#[]⟩)), 1, 16) := by kernel_rfl
theorem tin41 : (Tryd.prog.info? 41).map (fun i => (i.zero, i.size, i.bytes)) = some (some (.nilFunc), 1, 8) := by kernel_rfl
theorem tin42 : (Tryd.prog.info? 42).map (fun i => (i.zero, i.size, i.bytes)) = some (some (.nilFunc), 1, 8) := by kernel_rfl
theorem tin43 : (Tryd.prog.info? 43).map (fun i => (i.zero, i.size, i.bytes)) = some (some (.nilFunc), 1, 8) := by kernel_rfl
theorem tin44 : (Tryd.prog.info? 44).map (fun i => (i.zero, i.size, i.bytes)) = some (some (.int .u64 0), 1, 8) := by kernel_rfl
theorem tin45 : (Tryd.prog.info? 45).map (fun i => (i.zero, i.size, i.bytes)) = some (some (.pointer none), 1, 8) := by kernel_rfl
theorem tin46 : (Tryd.prog.info? 46).map (fun i => (i.zero, i.size, i.bytes)) = some (some (.slice none 0 0), 1, 24) := by kernel_rfl
theorem tel46 : (Tryd.prog.info? 5).map (fun i => (i.zero, i.size, i.bytes)) = some (some ((.int .u8 0)), 1, 1) := by kernel_rfl
theorem tin47 : (Tryd.prog.info? 47).map (fun i => (i.zero, i.size, i.bytes)) = some (some (.agg #[.pointer none, .slice none 0 0]), 2, 32) := by kernel_rfl
theorem tfd47_0 : FdT Tryd.prog 47 0 0 45 1 false := ⟨⟨_, Tryd.underlying47, _, rfl, rfl, rfl⟩, elt_of2 (by kernel_rfl) (by kernel_rfl), by decide⟩
theorem tfd47_1 : FdT Tryd.prog 47 1 1 46 1 false := ⟨⟨_, Tryd.underlying47, _, rfl, rfl, rfl⟩, elt_of2 (by kernel_rfl) (by kernel_rfl), by decide⟩
theorem tin48 : (Tryd.prog.info? 48).map (fun i => (i.zero, i.size, i.bytes)) = some (some (.agg #[.pointer none, .slice none 0 0]), 2, 32) := by kernel_rfl
theorem tfd48_0 : FdT Tryd.prog 48 0 0 45 1 false := ⟨⟨_, Tryd.underlying48, _, rfl, rfl, rfl⟩, elt_of2 (by kernel_rfl) (by kernel_rfl), by decide⟩
theorem tfd48_1 : FdT Tryd.prog 48 1 1 46 1 false := ⟨⟨_, Tryd.underlying48, _, rfl, rfl, rfl⟩, elt_of2 (by kernel_rfl) (by kernel_rfl), by decide⟩
theorem tin52 : (Tryd.prog.info? 52).map (fun i => (i.zero, i.size, i.bytes)) = some (some (.nilFunc), 1, 8) := by kernel_rfl
theorem tin53 : (Tryd.prog.info? 53).map (fun i => (i.zero, i.size, i.bytes)) = some (some (.nilFunc), 1, 8) := by kernel_rfl
theorem tin54 : (Tryd.prog.info? 54).map (fun i => (i.zero, i.size, i.bytes)) = some (some (.nilFunc), 1, 8) := by kernel_rfl
theorem tin55 : (Tryd.prog.info? 55).map (fun i => (i.zero, i.size, i.bytes)) = some (some (.nilFunc), 1, 8) := by kernel_rfl
theorem tin56 : (Tryd.prog.info? 56).map (fun i => (i.zero, i.size, i.bytes)) = some (some (.nilFunc), 1, 8) := by kernel_rfl
theorem tin57 : (Tryd.prog.info? 57).map (fun i => (i.zero, i.size, i.bytes)) = some (some (.nilFunc), 1, 8) := by kernel_rfl
theorem tin58 : (Tryd.prog.info? 58).map (fun i => (i.zero, i.size, i.bytes)) = some (some (.nilFunc), 1, 8) := by kernel_rfl
theorem tin59 : (Tryd.prog.info? 59).map (fun i => (i.zero, i.size, i.bytes)) = some (some (.pointer none), 1, 8) := by kernel_rfl
theorem tin60 : (Tryd.prog.info? 60).map (fun i => (i.zero, i.size, i.bytes)) = some (some (.nilFunc), 1, 8) := by kernel_rfl
theorem tin61 : (Tryd.prog.info? 61).map (fun i => (i.zero, i.size, i.bytes)) = some (some (.nilFunc), 1, 8) := by kernel_rfl
theorem tin62 : (Tryd.prog.info? 62).map (fun i => (i.zero, i.size, i.bytes)) = some (some (.nilFunc), 1, 8) := by kernel_rfl
theorem tin64 : (Tryd.prog.info? 64).map (fun i => (i.zero, i.size, i.bytes)) = some (some (.nilFunc), 1, 8) := by kernel_rfl
theorem tin66 : (Tryd.prog.info? 66).map (fun i => (i.zero, i.size, i.bytes)) = some (some (.nilFunc), 1, 8) := by kernel_rfl
theorem tin67 : (Tryd.prog.info? 67).map (fun i => (i.zero, i.size, i.bytes)) = some (some (.nilFunc), 1, 8) := by kernel_rfl
theorem tin68 : (Tryd.prog.info? 68).map (fun i => (i.zero, i.size, i.bytes)) = some (some (.nilFunc), 1, 8) := by kernel_rfl
theorem tin69 : (Tryd.prog.info? 69).map (fun i => (i.zero, i.size, i.bytes)) = some (some (.agg #[.int .u8 0, .int .u8 0, .int .u8 0, .int .u8 0, .int .u8 0, .int .u8 0, .int .u8 0, .int .u8 0, .int .u8 0, .int .u8 0, .int .u8 0, .int .u8 0, .int .u8 0, .int .u8 0, .int .u8 0, .int .u8 0, .int .u8 0, .int .u8 0, .int .u8 0, .int .u8 0, .int .u8 0, .int .u8 0, .int .u8 0, .int .u8 0]), 24, 24) := by kernel_rfl
theorem tin70 : (Tryd.prog.info? 70).map (fun i => (i.zero, i.size, i.bytes)) = some (some (.int .u64 0), 1, 8) := by kernel_rfl
theorem tin71 : (Tryd.prog.info? 71).map (fun i => (i.zero, i.size, i.bytes)) = some (some (.nilFunc), 1, 8) := by kernel_rfl
theorem tin72 : (Tryd.prog.info? 72).map (fun i => (i.zero, i.size, i.bytes)) = some (some (.nilFunc), 1, 8) := by kernel_rfl
theorem tin74 : (Tryd.prog.info? 74).map (fun i => (i.zero, i.size, i.bytes)) = some (some (.nilFunc), 1, 8) := by kernel_rfl
theorem tin75 : (Tryd.prog.info? 75).map (fun i => (i.zero, i.size, i.bytes)) = some (some (.nilFunc), 1, 8) := by kernel_rfl
theorem tin76 : (Tryd.prog.info? 76).map (fun i => (i.zero, i.size, i.bytes)) = some (some (.nilFunc), 1, 8) := by kernel_rfl
theorem tin78 : (Tryd.prog.info? 78).map (fun i => (i.zero, i.size, i.bytes)) = some (some (.agg #[.int .u8 0, .int .u8 0]), 2, 2) := by kernel_rfl
theorem tfd78_0 : FdT Tryd.prog 78 0 0 5 1 false := ⟨⟨_, Tryd.underlying78, _, rfl, rfl, rfl⟩, elt_of2 (by kernel_rfl) (by kernel_rfl), by decide⟩
theorem tfd78_1 : FdT Tryd.prog 78 1 1 5 1 false := ⟨⟨_, Tryd.underlying78, _, rfl, rfl, rfl⟩, elt_of2 (by kernel_rfl) (by kernel_rfl), by decide⟩
theorem tin79 : (Tryd.prog.info? 79).map (fun i => (i.zero, i.size, i.bytes)) = some (some (.agg #[.int .u8 0, .int .u8 0]), 2, 2) := by kernel_rfl
theorem tfd79_0 : FdT Tryd.prog 79 0 0 5 1 false := ⟨⟨_, Tryd.underlying79, _, rfl, rfl, rfl⟩, elt_of2 (by kernel_rfl) (by kernel_rfl), by decide⟩
theorem tfd79_1 : FdT Tryd.prog 79 1 1 5 1 false := ⟨⟨_, Tryd.underlying79, _, rfl, rfl, rfl⟩, elt_of2 (by kernel_rfl) (by kernel_rfl), by decide⟩
theorem tin81 : (Tryd.prog.info? 81).map (fun i => (i.zero, i.size, i.bytes)) = some (some (.nilFunc), 1, 8) := by kernel_rfl
theorem tin82 : (Tryd.prog.info? 82).map (fun i => (i.zero, i.size, i.bytes)) = some (some (.agg #[.int .u64 0, .int .u64 0, .int .u64 0, .int .u64 0, .int .u64 0, .int .u64 0, .int .u64 0, .int .u64 0, .int .u64 0, .int .u64 0, .int .u64 0, .int .u64 0, .int .u64 0, .int .u64 0, .int .u64 0, .int .u64 0, .int .u64 0, .int .u64 0, .int .u64 0, .int .u64 0]), 20, 160) := by kernel_rfl
theorem tin83 : (Tryd.prog.info? 83).map (fun i => (i.zero, i.size, i.bytes)) = some (some (.int .u32 0), 1, 4) := by kernel_rfl
theorem tin85 : (Tryd.prog.info? 85).map (fun i => (i.zero, i.size, i.bytes)) = some (some (.nilFunc), 1, 8) := by kernel_rfl
theorem tin87 : (Tryd.prog.info? 87).map (fun i => (i.zero, i.size, i.bytes)) = some (some (.nilFunc), 1, 8) := by kernel_rfl
theorem tin88 : (Tryd.prog.info? 88).map (fun i => (i.zero, i.size, i.bytes)) = some (some (.nilFunc), 1, 8) := by kernel_rfl
theorem tin91 : (Tryd.prog.info? 91).map (fun i => (i.zero, i.size, i.bytes)) = some (some (.agg #[.pointer none, .pointer none, .pointer none, .string ⟨#[]⟩]), 4, 40) := by kernel_rfl
theorem tfd91_0 : FdT Tryd.prog 91 0 0 17 1 false := ⟨⟨_, Tryd.underlying91, _, rfl, rfl, rfl⟩, elt_of2 (by kernel_rfl) (by kernel_rfl), by decide⟩
theorem tfd91_1 : FdT Tryd.prog 91 1 1 17 1 false := ⟨⟨_, Tryd.underlying91, _, rfl, rfl, rfl⟩, elt_of2 (by kernel_rfl) (by kernel_rfl), by decide⟩
theorem tfd91_2 : FdT Tryd.prog 91 2 2 17 1 false := ⟨⟨_, Tryd.underlying91, _, rfl, rfl, rfl⟩, elt_of2 (by kernel_rfl) (by kernel_rfl), by decide⟩
theorem tfd91_3 : FdT Tryd.prog 91 3 3 9 1 false := ⟨⟨_, Tryd.underlying91, _, rfl, rfl, rfl⟩, elt_of2 (by kernel_rfl) (by kernel_rfl), by decide⟩
theorem tin92 : (Tryd.prog.info? 92).map (fun i => (i.zero, i.size, i.bytes)) = some (some (.agg #[.pointer none, .pointer none, .pointer none, .string ⟨#[]⟩]), 4, 40) := by kernel_rfl
theorem tfd92_0 : FdT Tryd.prog 92 0 0 17 1 false := ⟨⟨_, Tryd.underlying92, _, rfl, rfl, rfl⟩, elt_of2 (by kernel_rfl) (by kernel_rfl), by decide⟩
theorem tfd92_1 : FdT Tryd.prog 92 1 1 17 1 false := ⟨⟨_, Tryd.underlying92, _, rfl, rfl, rfl⟩, elt_of2 (by kernel_rfl) (by kernel_rfl), by decide⟩
theorem tfd92_2 : FdT Tryd.prog 92 2 2 17 1 false := ⟨⟨_, Tryd.underlying92, _, rfl, rfl, rfl⟩, elt_of2 (by kernel_rfl) (by kernel_rfl), by decide⟩
theorem tfd92_3 : FdT Tryd.prog 92 3 3 9 1 false := ⟨⟨_, Tryd.underlying92, _, rfl, rfl, rfl⟩, elt_of2 (by kernel_rfl) (by kernel_rfl), by decide⟩
theorem tin96 : (Tryd.prog.info? 96).map (fun i => (i.zero, i.size, i.bytes)) = some (some (.nilFunc), 1, 8) := by kernel_rfl
theorem tin97 : (Tryd.prog.info? 97).map (fun i => (i.zero, i.size, i.bytes)) = some (some (.int .u8 0), 1, 1) := by kernel_rfl
theorem tin98 : (Tryd.prog.info? 98).map (fun i => (i.zero, i.size, i.bytes)) = some (some (.int .u8 0), 1, 1) := by kernel_rfl
theorem tin99 : (Tryd.prog.info? 99).map (fun i => (i.zero, i.size, i.bytes)) = some (some (.nilFunc), 1, 8) := by kernel_rfl
theorem tin100 : (Tryd.prog.info? 100).map (fun i => (i.zero, i.size, i.bytes)) = some (some (.int .i32 0), 1, 4) := by kernel_rfl
theorem tin101 : (Tryd.prog.info? 101).map (fun i => (i.zero, i.size, i.bytes)) = some (some (.int .i32 0), 1, 4) := by kernel_rfl
theorem tin102 : (Tryd.prog.info? 102).map (fun i => (i.zero, i.size, i.bytes)) = some (some (.agg #[.int .u64 0, .int .u64 0, .int .u32 0, .int .u8 0, .int .u8 0, .int .u8 0, .int .u8 0, .nilFunc, .pointer none, .int .i32 0, .int .i32 0]), 11, 48) := by kernel_rfl
theorem tfd102_0 : FdT Tryd.prog 102 0 0 12 1 false := ⟨⟨_, Tryd.underlying102, _, rfl, rfl, rfl⟩, elt_of2 (by kernel_rfl) (by kernel_rfl), by decide⟩
theorem tfd102_1 : FdT Tryd.prog 102 1 1 12 1 false := ⟨⟨_, Tryd.underlying102, _, rfl, rfl, rfl⟩, elt_of2 (by kernel_rfl) (by kernel_rfl), by decide⟩
theorem tfd102_2 : FdT Tryd.prog 102 2 2 83 1 false := ⟨⟨_, Tryd.underlying102, _, rfl, rfl, rfl⟩, elt_of2 (by kernel_rfl) (by kernel_rfl), by decide⟩
theorem tfd102_3 : FdT Tryd.prog 102 3 3 97 1 false := ⟨⟨_, Tryd.underlying102, _, rfl, rfl, rfl⟩, elt_of2 (by kernel_rfl) (by kernel_rfl), by decide⟩
theorem tfd102_4 : FdT Tryd.prog 102 4 4 5 1 false := ⟨⟨_, Tryd.underlying102, _, rfl, rfl, rfl⟩, elt_of2 (by kernel_rfl) (by kernel_rfl), by decide⟩
theorem tfd102_5 : FdT Tryd.prog 102 5 5 5 1 false := ⟨⟨_, Tryd.underlying102, _, rfl, rfl, rfl⟩, elt_of2 (by kernel_rfl) (by kernel_rfl), by decide⟩
theorem tfd102_6 : FdT Tryd.prog 102 6 6 98 1 false := ⟨⟨_, Tryd.underlying102, _, rfl, rfl, rfl⟩, elt_of2 (by kernel_rfl) (by kernel_rfl), by decide⟩
theorem tfd102_7 : FdT Tryd.prog 102 7 7 99 1 false := ⟨⟨_, Tryd.underlying102, _, rfl, rfl, rfl⟩, elt_of2 (by kernel_rfl) (by kernel_rfl), by decide⟩
theorem tfd102_8 : FdT Tryd.prog 102 8 8 59 1 false := ⟨⟨_, Tryd.underlying102, _, rfl, rfl, rfl⟩, elt_of2 (by kernel_rfl) (by kernel_rfl), by decide⟩
theorem tfd102_9 : FdT Tryd.prog 102 9 9 100 1 false := ⟨⟨_, Tryd.underlying102, _, rfl, rfl, rfl⟩, elt_of2 (by kernel_rfl) (by kernel_rfl), by decide⟩
theorem tfd102_10 : FdT Tryd.prog 102 10 10 101 1 false := ⟨⟨_, Tryd.underlying102, _, rfl, rfl, rfl⟩, elt_of2 (by kernel_rfl) (by kernel_rfl), by decide⟩
theorem tin103 : (Tryd.prog.info? 103).map (fun i => (i.zero, i.size, i.bytes)) = some (some (.agg #[.int .u64 0, .int .u64 0, .int .u32 0, .int .u8 0, .int .u8 0, .int .u8 0, .int .u8 0, .nilFunc, .pointer none, .int .i32 0, .int .i32 0]), 11, 48) := by kernel_rfl
theorem tfd103_0 : FdT Tryd.prog 103 0 0 12 1 false := ⟨⟨_, Tryd.underlying103, _, rfl, rfl, rfl⟩, elt_of2 (by kernel_rfl) (by kernel_rfl), by decide⟩
theorem tfd103_1 : FdT Tryd.prog 103 1 1 12 1 false := ⟨⟨_, Tryd.underlying103, _, rfl, rfl, rfl⟩, elt_of2 (by kernel_rfl) (by kernel_rfl), by decide⟩
theorem tfd103_2 : FdT Tryd.prog 103 2 2 83 1 false := ⟨⟨_, Tryd.underlying103, _, rfl, rfl, rfl⟩, elt_of2 (by kernel_rfl) (by kernel_rfl), by decide⟩
theorem tfd103_3 : FdT Tryd.prog 103 3 3 97 1 false := ⟨⟨_, Tryd.underlying103, _, rfl, rfl, rfl⟩, elt_of2 (by kernel_rfl) (by kernel_rfl), by decide⟩
theorem tfd103_4 : FdT Tryd.prog 103 4 4 5 1 false := ⟨⟨_, Tryd.underlying103, _, rfl, rfl, rfl⟩, elt_of2 (by kernel_rfl) (by kernel_rfl), by decide⟩
theorem tfd103_5 : FdT Tryd.prog 103 5 5 5 1 false := ⟨⟨_, Tryd.underlying103, _, rfl, rfl, rfl⟩, elt_of2 (by kernel_rfl) (by kernel_rfl), by decide⟩
theorem tfd103_6 : FdT Tryd.prog 103 6 6 98 1 false := ⟨⟨_, Tryd.underlying103, _, rfl, rfl, rfl⟩, elt_of2 (by kernel_rfl) (by kernel_rfl), by decide⟩
theorem tfd103_7 : FdT Tryd.prog 103 7 7 99 1 false := ⟨⟨_, Tryd.underlying103, _, rfl, rfl, rfl⟩, elt_of2 (by kernel_rfl) (by kernel_rfl), by decide⟩
theorem tfd103_8 : FdT Tryd.prog 103 8 8 59 1 false := ⟨⟨_, Tryd.underlying103, _, rfl, rfl, rfl⟩, elt_of2 (by kernel_rfl) (by kernel_rfl), by decide⟩
theorem tfd103_9 : FdT Tryd.prog 103 9 9 100 1 false := ⟨⟨_, Tryd.underlying103, _, rfl, rfl, rfl⟩, elt_of2 (by kernel_rfl) (by kernel_rfl), by decide⟩
theorem tfd103_10 : FdT Tryd.prog 103 10 10 101 1 false := ⟨⟨_, Tryd.underlying103, _, rfl, rfl, rfl⟩, elt_of2 (by kernel_rfl) (by kernel_rfl), by decide⟩
def TT : TypeId → TI
  | 1 => .one (.nilFunc)
  | 2 => .one (.int .i64 0)
  | 3 => .one (.int .i64 0)
  | 4 => .bool
  | 5 => .one (.int .u8 0)
  | 6 => .one (.int .u8 0)
  | 7 => .st 4 [.int .i64 0, .int .i64 0, .bool false, .int .u8 0] [(0, 1, false), (1, 1, false), (2, 1, false), (3, 1, false)]
  | 8 => .st 4 [.int .i64 0, .int .i64 0, .bool false, .int .u8 0] [(0, 1, false), (1, 1, false), (2, 1, false), (3, 1, false)]
  | 9 => .one (.string ⟨#[]⟩)
  | 10 => .one (.string ⟨#[]⟩)
  | 11 => .one (.string ⟨#[]⟩)
  | 12 => .one (.int .u64 0)
  | 13 => .st 2 [.string ⟨#[]⟩, .int .u64 0] [(0, 1, false), (1, 1, false)]
  | 14 => .st 2 [.string ⟨#[]⟩, .int .u64 0] [(0, 1, false), (1, 1, false)]
  | 15 => .one (.pointer none)
  | 16 => .one (.pointer none)
  | 17 => .one (.pointer none)
  | 18 => .st 1 [.pointer none] [(0, 1, false)]
  | 19 => .st 1 [.pointer none] [(0, 1, false)]
  | 21 => .one (.int .i32 0)
  | 22 => .sl 3 1 8 [.int .i64 0]
  | 23 => .one (.int .i64 0)
  | 25 => .one (.nilFunc)
  | 27 => .one (.nilFunc)
  | 28 => .one (.nilFunc)
  | 29 => .one (.nilFunc)
  | 30 => .one (.nilFunc)
  | 31 => .one (.nilFunc)
  | 32 => .one (.nilFunc)
  | 33 => .one (.nilFunc)
  | 34 => .one (.nilFunc)
  | 35 => .one (.nilFunc)
  | 36 => .one (.nilFunc)
  | 37 => .one (.nilFunc)
  | 38 => .one (.nilFunc)
  | 39 => .one (.nilFunc)
  | 40 => .sl 9 1 16 [.string ⟨#[]⟩]
  | 41 => .one (.nilFunc)
  | 42 => .one (.nilFunc)
  | 43 => .one (.nilFunc)
  | 44 => .one (.int .u64 0)
  | 45 => .one (.pointer none)
  | 46 => .sl 5 1 1 [.int .u8 0]
  | 47 => .st 2 [.pointer none, .slice none 0 0] [(0, 1, false), (1, 1, false)]
  | 48 => .st 2 [.pointer none, .slice none 0 0] [(0, 1, false), (1, 1, false)]
  | 52 => .one (.nilFunc)
  | 53 => .one (.nilFunc)
  | 54 => .one (.nilFunc)
  | 55 => .one (.nilFunc)
  | 56 => .one (.nilFunc)
  | 57 => .one (.nilFunc)
  | 58 => .one (.nilFunc)
  | 59 => .one (.pointer none)
  | 60 => .one (.nilFunc)
  | 61 => .one (.nilFunc)
  | 62 => .one (.nilFunc)
  | 64 => .one (.nilFunc)
  | 66 => .one (.nilFunc)
  | 67 => .one (.nilFunc)
  | 68 => .one (.nilFunc)
  | 69 => .ar 24 5 1 24 [.int .u8 0, .int .u8 0, .int .u8 0, .int .u8 0, .int .u8 0, .int .u8 0, .int .u8 0, .int .u8 0, .int .u8 0, .int .u8 0, .int .u8 0, .int .u8 0, .int .u8 0, .int .u8 0, .int .u8 0, .int .u8 0, .int .u8 0, .int .u8 0, .int .u8 0, .int .u8 0, .int .u8 0, .int .u8 0, .int .u8 0, .int .u8 0]
  | 70 => .one (.int .u64 0)
  | 71 => .one (.nilFunc)
  | 72 => .one (.nilFunc)
  | 74 => .one (.nilFunc)
  | 75 => .one (.nilFunc)
  | 76 => .one (.nilFunc)
  | 78 => .st 2 [.int .u8 0, .int .u8 0] [(0, 1, false), (1, 1, false)]
  | 79 => .st 2 [.int .u8 0, .int .u8 0] [(0, 1, false), (1, 1, false)]
  | 81 => .one (.nilFunc)
  | 82 => .ar 20 70 1 20 [.int .u64 0, .int .u64 0, .int .u64 0, .int .u64 0, .int .u64 0, .int .u64 0, .int .u64 0, .int .u64 0, .int .u64 0, .int .u64 0, .int .u64 0, .int .u64 0, .int .u64 0, .int .u64 0, .int .u64 0, .int .u64 0, .int .u64 0, .int .u64 0, .int .u64 0, .int .u64 0]
  | 83 => .one (.int .u32 0)
  | 85 => .one (.nilFunc)
  | 87 => .one (.nilFunc)
  | 88 => .one (.nilFunc)
  | 91 => .st 4 [.pointer none, .pointer none, .pointer none, .string ⟨#[]⟩] [(0, 1, false), (1, 1, false), (2, 1, false), (3, 1, false)]
  | 92 => .st 4 [.pointer none, .pointer none, .pointer none, .string ⟨#[]⟩] [(0, 1, false), (1, 1, false), (2, 1, false), (3, 1, false)]
  | 96 => .one (.nilFunc)
  | 97 => .one (.int .u8 0)
  | 98 => .one (.int .u8 0)
  | 99 => .one (.nilFunc)
  | 100 => .one (.int .i32 0)
  | 101 => .one (.int .i32 0)
  | 102 => .st 11 [.int .u64 0, .int .u64 0, .int .u32 0, .int .u8 0, .int .u8 0, .int .u8 0, .int .u8 0, .nilFunc, .pointer none, .int .i32 0, .int .i32 0] [(0, 1, false), (1, 1, false), (2, 1, false), (3, 1, false), (4, 1, false), (5, 1, false), (6, 1, false), (7, 1, false), (8, 1, false), (9, 1, false), (10, 1, false)]
  | 103 => .st 11 [.int .u64 0, .int .u64 0, .int .u32 0, .int .u8 0, .int .u8 0, .int .u8 0, .int .u8 0, .nilFunc, .pointer none, .int .i32 0, .int .i32 0] [(0, 1, false), (1, 1, false), (2, 1, false), (3, 1, false), (4, 1, false), (5, 1, false), (6, 1, false), (7, 1, false), (8, 1, false), (9, 1, false), (10, 1, false)]
  | _ => .oth
theorem tok : TOk Tryd.prog TT := by
  intro t
  unfold TT
  split
  · exact ⟨elt_of Tryd.underlying1 rfl tin1, zrt_of tin1 rfl⟩
  · exact ⟨elt_of Tryd.underlying2 rfl tin2, zrt_of tin2 rfl⟩
  · exact ⟨elt_of Tryd.underlying3 rfl tin3, zrt_of tin3 rfl⟩
  · exact ⟨elt_of Tryd.underlying4 rfl tin4, zrt_of tin4 rfl, Tryd.underlying4⟩
  · exact ⟨elt_of Tryd.underlying5 rfl tin5, zrt_of tin5 rfl⟩
  · exact ⟨elt_of Tryd.underlying6 rfl tin6, zrt_of tin6 rfl⟩
  · exact ⟨elt_of Tryd.underlying7 rfl tin7, zrt_of tin7 rfl, (fun f x hx => by match f, hx with | 0, hx => (cases hx; exact ⟨_, tfd7_0⟩) | 1, hx => (cases hx; exact ⟨_, tfd7_1⟩) | 2, hx => (cases hx; exact ⟨_, tfd7_2⟩) | 3, hx => (cases hx; exact ⟨_, tfd7_3⟩) | f + 4, hx => (simp at hx)), bdt_of Tryd.underlying7 tin7 rfl rfl (by kernel_rfl)⟩
  · exact ⟨elt_of Tryd.underlying8 rfl tin8, zrt_of tin8 rfl, (fun f x hx => by match f, hx with | 0, hx => (cases hx; exact ⟨_, tfd8_0⟩) | 1, hx => (cases hx; exact ⟨_, tfd8_1⟩) | 2, hx => (cases hx; exact ⟨_, tfd8_2⟩) | 3, hx => (cases hx; exact ⟨_, tfd8_3⟩) | f + 4, hx => (simp at hx)), bdt_of Tryd.underlying8 tin8 rfl rfl (by kernel_rfl)⟩
  · exact ⟨elt_of Tryd.underlying9 rfl tin9, zrt_of tin9 rfl⟩
  · exact ⟨elt_of Tryd.underlying10 rfl tin10, zrt_of tin10 rfl⟩
  · exact ⟨elt_of Tryd.underlying11 rfl tin11, zrt_of tin11 rfl⟩
  · exact ⟨elt_of Tryd.underlying12 rfl tin12, zrt_of tin12 rfl⟩
  · exact ⟨elt_of Tryd.underlying13 rfl tin13, zrt_of tin13 rfl, (fun f x hx => by match f, hx with | 0, hx => (cases hx; exact ⟨_, tfd13_0⟩) | 1, hx => (cases hx; exact ⟨_, tfd13_1⟩) | f + 2, hx => (simp at hx)), bdt_of Tryd.underlying13 tin13 rfl rfl (by kernel_rfl)⟩
  · exact ⟨elt_of Tryd.underlying14 rfl tin14, zrt_of tin14 rfl, (fun f x hx => by match f, hx with | 0, hx => (cases hx; exact ⟨_, tfd14_0⟩) | 1, hx => (cases hx; exact ⟨_, tfd14_1⟩) | f + 2, hx => (simp at hx)), bdt_of Tryd.underlying14 tin14 rfl rfl (by kernel_rfl)⟩
  · exact ⟨elt_of Tryd.underlying15 rfl tin15, zrt_of tin15 rfl⟩
  · exact ⟨elt_of Tryd.underlying16 rfl tin16, zrt_of tin16 rfl⟩
  · exact ⟨elt_of Tryd.underlying17 rfl tin17, zrt_of tin17 rfl⟩
  · exact ⟨elt_of Tryd.underlying18 rfl tin18, zrt_of tin18 rfl, (fun f x hx => by match f, hx with | 0, hx => (cases hx; exact ⟨_, tfd18_0⟩) | f + 1, hx => (simp at hx)), bdt_of Tryd.underlying18 tin18 rfl rfl (by kernel_rfl)⟩
  · exact ⟨elt_of Tryd.underlying19 rfl tin19, zrt_of tin19 rfl, (fun f x hx => by match f, hx with | 0, hx => (cases hx; exact ⟨_, tfd19_0⟩) | f + 1, hx => (simp at hx)), bdt_of Tryd.underlying19 tin19 rfl rfl (by kernel_rfl)⟩
  · exact ⟨elt_of Tryd.underlying21 rfl tin21, zrt_of tin21 rfl⟩
  · exact ⟨elt_of Tryd.underlying22 rfl tin22, zrt_of tin22 rfl, slt_of Tryd.underlying22 tel22 rfl rfl (by decide)⟩
  · exact ⟨elt_of Tryd.underlying23 rfl tin23, zrt_of tin23 rfl⟩
  · exact ⟨elt_of Tryd.underlying25 rfl tin25, zrt_of tin25 rfl⟩
  · exact ⟨elt_of Tryd.underlying27 rfl tin27, zrt_of tin27 rfl⟩
  · exact ⟨elt_of Tryd.underlying28 rfl tin28, zrt_of tin28 rfl⟩
  · exact ⟨elt_of Tryd.underlying29 rfl tin29, zrt_of tin29 rfl⟩
  · exact ⟨elt_of Tryd.underlying30 rfl tin30, zrt_of tin30 rfl⟩
  · exact ⟨elt_of Tryd.underlying31 rfl tin31, zrt_of tin31 rfl⟩
  · exact ⟨elt_of Tryd.underlying32 rfl tin32, zrt_of tin32 rfl⟩
  · exact ⟨elt_of Tryd.underlying33 rfl tin33, zrt_of tin33 rfl⟩
  · exact ⟨elt_of Tryd.underlying34 rfl tin34, zrt_of tin34 rfl⟩
  · exact ⟨elt_of Tryd.underlying35 rfl tin35, zrt_of tin35 rfl⟩
  · exact ⟨elt_of Tryd.underlying36 rfl tin36, zrt_of tin36 rfl⟩
  · exact ⟨elt_of Tryd.underlying37 rfl tin37, zrt_of tin37 rfl⟩
  · exact ⟨elt_of Tryd.underlying38 rfl tin38, zrt_of tin38 rfl⟩
  · exact ⟨elt_of Tryd.underlying39 rfl tin39, zrt_of tin39 rfl⟩
  · exact ⟨elt_of Tryd.underlying40 rfl tin40, zrt_of tin40 rfl, slt_of Tryd.underlying40 tel40 rfl rfl (by decide)⟩
  · exact ⟨elt_of Tryd.underlying41 rfl tin41, zrt_of tin41 rfl⟩
  · exact ⟨elt_of Tryd.underlying42 rfl tin42, zrt_of tin42 rfl⟩
  · exact ⟨elt_of Tryd.underlying43 rfl tin43, zrt_of tin43 rfl⟩
  · exact ⟨elt_of Tryd.underlying44 rfl tin44, zrt_of tin44 rfl⟩
  · exact ⟨elt_of Tryd.underlying45 rfl tin45, zrt_of tin45 rfl⟩
  · exact ⟨elt_of Tryd.underlying46 rfl tin46, zrt_of tin46 rfl, slt_of Tryd.underlying46 tel46 rfl rfl (by decide)⟩
  · exact ⟨elt_of Tryd.underlying47 rfl tin47, zrt_of tin47 rfl, (fun f x hx => by match f, hx with | 0, hx => (cases hx; exact ⟨_, tfd47_0⟩) | 1, hx => (cases hx; exact ⟨_, tfd47_1⟩) | f + 2, hx => (simp at hx)), bdt_of Tryd.underlying47 tin47 rfl rfl (by kernel_rfl)⟩
  · exact ⟨elt_of Tryd.underlying48 rfl tin48, zrt_of tin48 rfl, (fun f x hx => by match f, hx with | 0, hx => (cases hx; exact ⟨_, tfd48_0⟩) | 1, hx => (cases hx; exact ⟨_, tfd48_1⟩) | f + 2, hx => (simp at hx)), bdt_of Tryd.underlying48 tin48 rfl rfl (by kernel_rfl)⟩
  · exact ⟨elt_of Tryd.underlying52 rfl tin52, zrt_of tin52 rfl⟩
  · exact ⟨elt_of Tryd.underlying53 rfl tin53, zrt_of tin53 rfl⟩
  · exact ⟨elt_of Tryd.underlying54 rfl tin54, zrt_of tin54 rfl⟩
  · exact ⟨elt_of Tryd.underlying55 rfl tin55, zrt_of tin55 rfl⟩
  · exact ⟨elt_of Tryd.underlying56 rfl tin56, zrt_of tin56 rfl⟩
  · exact ⟨elt_of Tryd.underlying57 rfl tin57, zrt_of tin57 rfl⟩
  · exact ⟨elt_of Tryd.underlying58 rfl tin58, zrt_of tin58 rfl⟩
  · exact ⟨elt_of Tryd.underlying59 rfl tin59, zrt_of tin59 rfl⟩
  · exact ⟨elt_of Tryd.underlying60 rfl tin60, zrt_of tin60 rfl⟩
  · exact ⟨elt_of Tryd.underlying61 rfl tin61, zrt_of tin61 rfl⟩
  · exact ⟨elt_of Tryd.underlying62 rfl tin62, zrt_of tin62 rfl⟩
  · exact ⟨elt_of Tryd.underlying64 rfl tin64, zrt_of tin64 rfl⟩
  · exact ⟨elt_of Tryd.underlying66 rfl tin66, zrt_of tin66 rfl⟩
  · exact ⟨elt_of Tryd.underlying67 rfl tin67, zrt_of tin67 rfl⟩
  · exact ⟨elt_of Tryd.underlying68 rfl tin68, zrt_of tin68 rfl⟩
  · exact ⟨elt_of Tryd.underlying69 rfl tin69, zrt_of tin69 rfl, art_of Tryd.underlying69 (by kernel_rfl), bda_of Tryd.underlying69 tin69 rfl (by kernel_rfl)⟩
  · exact ⟨elt_of Tryd.underlying70 rfl tin70, zrt_of tin70 rfl⟩
  · exact ⟨elt_of Tryd.underlying71 rfl tin71, zrt_of tin71 rfl⟩
  · exact ⟨elt_of Tryd.underlying72 rfl tin72, zrt_of tin72 rfl⟩
  · exact ⟨elt_of Tryd.underlying74 rfl tin74, zrt_of tin74 rfl⟩
  · exact ⟨elt_of Tryd.underlying75 rfl tin75, zrt_of tin75 rfl⟩
  · exact ⟨elt_of Tryd.underlying76 rfl tin76, zrt_of tin76 rfl⟩
  · exact ⟨elt_of Tryd.underlying78 rfl tin78, zrt_of tin78 rfl, (fun f x hx => by match f, hx with | 0, hx => (cases hx; exact ⟨_, tfd78_0⟩) | 1, hx => (cases hx; exact ⟨_, tfd78_1⟩) | f + 2, hx => (simp at hx)), bdt_of Tryd.underlying78 tin78 rfl rfl (by kernel_rfl)⟩
  · exact ⟨elt_of Tryd.underlying79 rfl tin79, zrt_of tin79 rfl, (fun f x hx => by match f, hx with | 0, hx => (cases hx; exact ⟨_, tfd79_0⟩) | 1, hx => (cases hx; exact ⟨_, tfd79_1⟩) | f + 2, hx => (simp at hx)), bdt_of Tryd.underlying79 tin79 rfl rfl (by kernel_rfl)⟩
  · exact ⟨elt_of Tryd.underlying81 rfl tin81, zrt_of tin81 rfl⟩
  · exact ⟨elt_of Tryd.underlying82 rfl tin82, zrt_of tin82 rfl, art_of Tryd.underlying82 (by kernel_rfl), bda_of Tryd.underlying82 tin82 rfl (by kernel_rfl)⟩
  · exact ⟨elt_of Tryd.underlying83 rfl tin83, zrt_of tin83 rfl⟩
  · exact ⟨elt_of Tryd.underlying85 rfl tin85, zrt_of tin85 rfl⟩
  · exact ⟨elt_of Tryd.underlying87 rfl tin87, zrt_of tin87 rfl⟩
  · exact ⟨elt_of Tryd.underlying88 rfl tin88, zrt_of tin88 rfl⟩
  · exact ⟨elt_of Tryd.underlying91 rfl tin91, zrt_of tin91 rfl, (fun f x hx => by match f, hx with | 0, hx => (cases hx; exact ⟨_, tfd91_0⟩) | 1, hx => (cases hx; exact ⟨_, tfd91_1⟩) | 2, hx => (cases hx; exact ⟨_, tfd91_2⟩) | 3, hx => (cases hx; exact ⟨_, tfd91_3⟩) | f + 4, hx => (simp at hx)), bdt_of Tryd.underlying91 tin91 rfl rfl (by kernel_rfl)⟩
  · exact ⟨elt_of Tryd.underlying92 rfl tin92, zrt_of tin92 rfl, (fun f x hx => by match f, hx with | 0, hx => (cases hx; exact ⟨_, tfd92_0⟩) | 1, hx => (cases hx; exact ⟨_, tfd92_1⟩) | 2, hx => (cases hx; exact ⟨_, tfd92_2⟩) | 3, hx => (cases hx; exact ⟨_, tfd92_3⟩) | f + 4, hx => (simp at hx)), bdt_of Tryd.underlying92 tin92 rfl rfl (by kernel_rfl)⟩
  · exact ⟨elt_of Tryd.underlying96 rfl tin96, zrt_of tin96 rfl⟩
  · exact ⟨elt_of Tryd.underlying97 rfl tin97, zrt_of tin97 rfl⟩
  · exact ⟨elt_of Tryd.underlying98 rfl tin98, zrt_of tin98 rfl⟩
  · exact ⟨elt_of Tryd.underlying99 rfl tin99, zrt_of tin99 rfl⟩
  · exact ⟨elt_of Tryd.underlying100 rfl tin100, zrt_of tin100 rfl⟩
  · exact ⟨elt_of Tryd.underlying101 rfl tin101, zrt_of tin101 rfl⟩
  · exact ⟨elt_of Tryd.underlying102 rfl tin102, zrt_of tin102 rfl, (fun f x hx => by match f, hx with | 0, hx => (cases hx; exact ⟨_, tfd102_0⟩) | 1, hx => (cases hx; exact ⟨_, tfd102_1⟩) | 2, hx => (cases hx; exact ⟨_, tfd102_2⟩) | 3, hx => (cases hx; exact ⟨_, tfd102_3⟩) | 4, hx => (cases hx; exact ⟨_, tfd102_4⟩) | 5, hx => (cases hx; exact ⟨_, tfd102_5⟩) | 6, hx => (cases hx; exact ⟨_, tfd102_6⟩) | 7, hx => (cases hx; exact ⟨_, tfd102_7⟩) | 8, hx => (cases hx; exact ⟨_, tfd102_8⟩) | 9, hx => (cases hx; exact ⟨_, tfd102_9⟩) | 10, hx => (cases hx; exact ⟨_, tfd102_10⟩) | f + 11, hx => (simp at hx)), bdt_of Tryd.underlying102 tin102 rfl rfl (by kernel_rfl)⟩
  · exact ⟨elt_of Tryd.underlying103 rfl tin103, zrt_of tin103 rfl, (fun f x hx => by match f, hx with | 0, hx => (cases hx; exact ⟨_, tfd103_0⟩) | 1, hx => (cases hx; exact ⟨_, tfd103_1⟩) | 2, hx => (cases hx; exact ⟨_, tfd103_2⟩) | 3, hx => (cases hx; exact ⟨_, tfd103_3⟩) | 4, hx => (cases hx; exact ⟨_, tfd103_4⟩) | 5, hx => (cases hx; exact ⟨_, tfd103_5⟩) | 6, hx => (cases hx; exact ⟨_, tfd103_6⟩) | 7, hx => (cases hx; exact ⟨_, tfd103_7⟩) | 8, hx => (cases hx; exact ⟨_, tfd103_8⟩) | 9, hx => (cases hx; exact ⟨_, tfd103_9⟩) | 10, hx => (cases hx; exact ⟨_, tfd103_10⟩) | f + 11, hx => (simp at hx)), bdt_of Tryd.underlying103 tin103 rfl rfl (by kernel_rfl)⟩
  · trivial
theorem mixed : Tryd.prog.follows .mixedOrders = true := by kernel_rfl
end Go.Proofs.YtkmkcbkfakoomaaDoor
