/- Facts and contracts that the claim uses. No condition of its own. -/
import Derived.Test.YtkmkcbkfakoomaaGRingCoursesAR
import Derived.Test.YtkmkcbkfakoomaaProg
namespace Go.Proofs.Ytkmkcbkfakoomaa
open Go.RowKit
variable {P : Program}
theorem info_of {t : TypeId} {z : Value} {sz bs : Nat} (h : (P.info? t).map (fun i => (i.zero, i.size, i.bytes)) = some (some z, sz, bs)) : ∃ i, P.info? t = some i ∧ i.zero = some z ∧ i.size = sz ∧ i.bytes = bs := by
  cases hi : P.info? t with
  | none => simp [hi] at h
  | some i => simp [hi] at h; exact ⟨i, rfl, h.1, h.2.1, h.2.2⟩
theorem elt_of {t : TypeId} {d : TypeDesc} {z : Value} {sz bs : Nat} {ag : Bool} (hu : P.underlying t = some d) (ha : isAggD d = ag) (h : (P.info? t).map (fun i => (i.zero, i.size, i.bytes)) = some (some z, sz, bs)) : ElT P t ag sz := by
  obtain ⟨i, h1, h2, h3, h4⟩ := info_of h
  exact ⟨⟨d, hu, ha⟩, ⟨i, h1, h3⟩⟩
theorem elt_of2 {t sz : Nat} {ag : Bool} (hu : (P.underlying t).map isAggD = some ag) (h : (P.info? t).map (·.size) = some sz) : ElT P t ag sz := by
  obtain ⟨d, h1, h2⟩ := Option.map_eq_some_iff.1 hu
  obtain ⟨i, h3, h4⟩ := Option.map_eq_some_iff.1 h
  exact ⟨⟨d, h1, h2⟩, ⟨i, h3, h4⟩⟩
theorem zrt_of {t : TypeId} {z : Value} {sz bs : Nat} {zc : List Value} (h : (P.info? t).map (fun i => (i.zero, i.size, i.bytes)) = some (some z, sz, bs)) (hz : z.cells.toList = zc) : ZrT P t zc := by
  obtain ⟨i, h1, h2, h3, h4⟩ := info_of h
  exact ⟨⟨i, z, h1, h2, hz⟩⟩
theorem slt_of {t el : TypeId} {z : Value} {sz bs : Nat} {zc : List Value} (hu : P.underlying t = some (.slice el)) (h : (P.info? el).map (fun i => (i.zero, i.size, i.bytes)) = some (some z, sz, bs)) (hz : z.cells.toList = zc) (hl : zc.length = sz) (hp : 0 < sz) : SlT P t el sz bs zc := by
  obtain ⟨i, h1, h2, h3, h4⟩ := info_of h
  exact ⟨hu, ⟨i, z, h1, h3, h4, h2, hz⟩, hl, hp⟩
theorem bdt_of {t : TypeId} {fs : Array Field} {z : Value} {sz bs : Nat} {zc : List Value} {pl : List (Nat × Nat)} (hu : P.underlying t = some (.struct fs)) (h : (P.info? t).map (fun i => (i.zero, i.size, i.bytes)) = some (some z, sz, bs)) (hz : z.cells.toList = zc)
    (h1 : fs.toList.map (·.offset) = pl.map (·.1)) (h2 : fs.toList.map (fun f => (P.info? f.type).map (·.size)) = pl.map (fun x => some x.2)) : BdT P t zc pl := by
  obtain ⟨i, g1, g2, g3, g4⟩ := info_of h
  exact ⟨⟨i, z, g1, g2, hz⟩, .inl ⟨fs, hu, h1, h2⟩⟩
theorem tin1 : (Try.prog.info? 1).map (fun i => (i.zero, i.size, i.bytes)) = some (some (.nilFunc), 1, 8) := by kernel_rfl
theorem tin2 : (Try.prog.info? 2).map (fun i => (i.zero, i.size, i.bytes)) = some (some (.int .i64 0), 1, 8) := by kernel_rfl
theorem tin3 : (Try.prog.info? 3).map (fun i => (i.zero, i.size, i.bytes)) = some (some (.int .i64 0), 1, 8) := by kernel_rfl
theorem tin4 : (Try.prog.info? 4).map (fun i => (i.zero, i.size, i.bytes)) = some (some (.bool false), 1, 1) := by kernel_rfl
theorem tin5 : (Try.prog.info? 5).map (fun i => (i.zero, i.size, i.bytes)) = some (some (.int .u8 0), 1, 1) := by kernel_rfl
theorem tin6 : (Try.prog.info? 6).map (fun i => (i.zero, i.size, i.bytes)) = some (some (.int .u8 0), 1, 1) := by kernel_rfl
theorem tin7 : (Try.prog.info? 7).map (fun i => (i.zero, i.size, i.bytes)) = some (some (.agg #[.int .i64 0, .int .i64 0, .bool false, .int .u8 0]), 4, 24) := by kernel_rfl
theorem tfd7_0 : FdT Try.prog 7 0 0 2 1 false := ⟨⟨_, Try.underlying7, _, rfl, rfl, rfl⟩, elt_of2 (by kernel_rfl) (by kernel_rfl), by decide⟩
theorem tfd7_1 : FdT Try.prog 7 1 1 3 1 false := ⟨⟨_, Try.underlying7, _, rfl, rfl, rfl⟩, elt_of2 (by kernel_rfl) (by kernel_rfl), by decide⟩
theorem tfd7_2 : FdT Try.prog 7 2 2 4 1 false := ⟨⟨_, Try.underlying7, _, rfl, rfl, rfl⟩, elt_of2 (by kernel_rfl) (by kernel_rfl), by decide⟩
theorem tfd7_3 : FdT Try.prog 7 3 3 6 1 false := ⟨⟨_, Try.underlying7, _, rfl, rfl, rfl⟩, elt_of2 (by kernel_rfl) (by kernel_rfl), by decide⟩
theorem tin8 : (Try.prog.info? 8).map (fun i => (i.zero, i.size, i.bytes)) = some (some (.agg #[.int .i64 0, .int .i64 0, .bool false, .int .u8 0]), 4, 24) := by kernel_rfl
theorem tfd8_0 : FdT Try.prog 8 0 0 2 1 false := ⟨⟨_, Try.underlying8, _, rfl, rfl, rfl⟩, elt_of2 (by kernel_rfl) (by kernel_rfl), by decide⟩
theorem tfd8_1 : FdT Try.prog 8 1 1 3 1 false := ⟨⟨_, Try.underlying8, _, rfl, rfl, rfl⟩, elt_of2 (by kernel_rfl) (by kernel_rfl), by decide⟩
theorem tfd8_2 : FdT Try.prog 8 2 2 4 1 false := ⟨⟨_, Try.underlying8, _, rfl, rfl, rfl⟩, elt_of2 (by kernel_rfl) (by kernel_rfl), by decide⟩
theorem tfd8_3 : FdT Try.prog 8 3 3 6 1 false := ⟨⟨_, Try.underlying8, _, rfl, rfl, rfl⟩, elt_of2 (by kernel_rfl) (by kernel_rfl), by decide⟩
theorem tin9 : (Try.prog.info? 9).map (fun i => (i.zero, i.size, i.bytes)) = some (some (.string ⟨#[]⟩), 1, 16) := by kernel_rfl
theorem tin10 : (Try.prog.info? 10).map (fun i => (i.zero, i.size, i.bytes)) = some (some (.string ⟨#[]⟩), 1, 16) := by kernel_rfl
theorem tin11 : (Try.prog.info? 11).map (fun i => (i.zero, i.size, i.bytes)) = some (some (.string ⟨#[]⟩), 1, 16) := by kernel_rfl
theorem tin12 : (Try.prog.info? 12).map (fun i => (i.zero, i.size, i.bytes)) = some (some (.int .u64 0), 1, 8) := by kernel_rfl
theorem tin13 : (Try.prog.info? 13).map (fun i => (i.zero, i.size, i.bytes)) = some (some (.agg #[.string ⟨#[]⟩, .int .u64 0]), 2, 24) := by kernel_rfl
theorem tfd13_0 : FdT Try.prog 13 0 0 9 1 false := ⟨⟨_, Try.underlying13, _, rfl, rfl, rfl⟩, elt_of2 (by kernel_rfl) (by kernel_rfl), by decide⟩
theorem tfd13_1 : FdT Try.prog 13 1 1 12 1 false := ⟨⟨_, Try.underlying13, _, rfl, rfl, rfl⟩, elt_of2 (by kernel_rfl) (by kernel_rfl), by decide⟩
theorem tin14 : (Try.prog.info? 14).map (fun i => (i.zero, i.size, i.bytes)) = some (some (.agg #[.string ⟨#[]⟩, .int .u64 0]), 2, 24) := by kernel_rfl
theorem tfd14_0 : FdT Try.prog 14 0 0 9 1 false := ⟨⟨_, Try.underlying14, _, rfl, rfl, rfl⟩, elt_of2 (by kernel_rfl) (by kernel_rfl), by decide⟩
theorem tfd14_1 : FdT Try.prog 14 1 1 12 1 false := ⟨⟨_, Try.underlying14, _, rfl, rfl, rfl⟩, elt_of2 (by kernel_rfl) (by kernel_rfl), by decide⟩
theorem tin15 : (Try.prog.info? 15).map (fun i => (i.zero, i.size, i.bytes)) = some (some (.pointer none), 1, 8) := by kernel_rfl
theorem tin16 : (Try.prog.info? 16).map (fun i => (i.zero, i.size, i.bytes)) = some (some (.pointer none), 1, 8) := by kernel_rfl
theorem tin17 : (Try.prog.info? 17).map (fun i => (i.zero, i.size, i.bytes)) = some (some (.pointer none), 1, 8) := by kernel_rfl
theorem tin18 : (Try.prog.info? 18).map (fun i => (i.zero, i.size, i.bytes)) = some (some (.agg #[.pointer none]), 1, 8) := by kernel_rfl
theorem tfd18_0 : FdT Try.prog 18 0 0 17 1 false := ⟨⟨_, Try.underlying18, _, rfl, rfl, rfl⟩, elt_of2 (by kernel_rfl) (by kernel_rfl), by decide⟩
theorem tin19 : (Try.prog.info? 19).map (fun i => (i.zero, i.size, i.bytes)) = some (some (.agg #[.pointer none]), 1, 8) := by kernel_rfl
theorem tfd19_0 : FdT Try.prog 19 0 0 17 1 false := ⟨⟨_, Try.underlying19, _, rfl, rfl, rfl⟩, elt_of2 (by kernel_rfl) (by kernel_rfl), by decide⟩
theorem tin21 : (Try.prog.info? 21).map (fun i => (i.zero, i.size, i.bytes)) = some (some (.int .i32 0), 1, 4) := by kernel_rfl
theorem tin22 : (Try.prog.info? 22).map (fun i => (i.zero, i.size, i.bytes)) = some (some (.slice none 0 0), 1, 24) := by kernel_rfl
theorem tel22 : (Try.prog.info? 3).map (fun i => (i.zero, i.size, i.bytes)) = some (some ((.int .i64 0)), 1, 8) := by kernel_rfl
theorem tin23 : (Try.prog.info? 23).map (fun i => (i.zero, i.size, i.bytes)) = some (some (.int .i64 0), 1, 8) := by kernel_rfl
theorem tin24 : (Try.prog.info? 24).map (fun i => (i.zero, i.size, i.bytes)) = some (some (.nilFunc), 1, 8) := by kernel_rfl
theorem tin25 : (Try.prog.info? 25).map (fun i => (i.zero, i.size, i.bytes)) = some (some (.nilFunc), 1, 8) := by kernel_rfl
theorem tin26 : (Try.prog.info? 26).map (fun i => (i.zero, i.size, i.bytes)) = some (some (.slice none 0 0), 1, 24) := by kernel_rfl
theorem tel26 : (Try.prog.info? 22).map (fun i => (i.zero, i.size, i.bytes)) = some (some ((.slice none 0 0)), 1, 24) := by kernel_rfl
theorem tin28 : (Try.prog.info? 28).map (fun i => (i.zero, i.size, i.bytes)) = some (some (.nilFunc), 1, 8) := by kernel_rfl
theorem tin30 : (Try.prog.info? 30).map (fun i => (i.zero, i.size, i.bytes)) = some (some (.nilFunc), 1, 8) := by kernel_rfl
theorem tin32 : (Try.prog.info? 32).map (fun i => (i.zero, i.size, i.bytes)) = some (some (.nilFunc), 1, 8) := by kernel_rfl
theorem tin33 : (Try.prog.info? 33).map (fun i => (i.zero, i.size, i.bytes)) = some (some (.nilFunc), 1, 8) := by kernel_rfl
theorem tin34 : (Try.prog.info? 34).map (fun i => (i.zero, i.size, i.bytes)) = some (some (.map none), 1, 8) := by kernel_rfl
theorem tmk34 : ∃ q, Try.prog.underlying 3 = some (.int q) := ⟨_, Try.underlying3⟩
theorem tml34 : ∃ i, Try.prog.info? 4 = some i ∧ i.zero = some (.bool false) := Option.map_eq_some_iff.1 (show (Try.prog.info? 4).map (fun i => i.zero) = some (some (.bool false)) by kernel_rfl)
theorem tin35 : (Try.prog.info? 35).map (fun i => (i.zero, i.size, i.bytes)) = some (some (.nilFunc), 1, 8) := by kernel_rfl
theorem tin36 : (Try.prog.info? 36).map (fun i => (i.zero, i.size, i.bytes)) = some (some (.nilFunc), 1, 8) := by kernel_rfl
theorem tin37 : (Try.prog.info? 37).map (fun i => (i.zero, i.size, i.bytes)) = some (some (.nilFunc), 1, 8) := by kernel_rfl
theorem tin38 : (Try.prog.info? 38).map (fun i => (i.zero, i.size, i.bytes)) = some (some (.nilFunc), 1, 8) := by kernel_rfl
theorem tin39 : (Try.prog.info? 39).map (fun i => (i.zero, i.size, i.bytes)) = some (some (.nilFunc), 1, 8) := by kernel_rfl
theorem tin40 : (Try.prog.info? 40).map (fun i => (i.zero, i.size, i.bytes)) = some (some (.nilFunc), 1, 8) := by kernel_rfl
theorem tin41 : (Try.prog.info? 41).map (fun i => (i.zero, i.size, i.bytes)) = some (some (.nilFunc), 1, 8) := by kernel_rfl
theorem tin42 : (Try.prog.info? 42).map (fun i => (i.zero, i.size, i.bytes)) = some (some (.nilFunc), 1, 8) := by kernel_rfl
theorem tin43 : (Try.prog.info? 43).map (fun i => (i.zero, i.size, i.bytes)) = some (some (.nilFunc), 1, 8) := by kernel_rfl
theorem tin44 : (Try.prog.info? 44).map (fun i => (i.zero, i.size, i.bytes)) = some (some (.nilFunc), 1, 8) := by kernel_rfl
theorem tin45 : (Try.prog.info? 45).map (fun i => (i.zero, i.size, i.bytes)) = some (some (.nilFunc), 1, 8) := by kernel_rfl
theorem tin46 : (Try.prog.info? 46).map (fun i => (i.zero, i.size, i.bytes)) = some (some (.int .u64 0), 1, 8) := by kernel_rfl
theorem tin47 : (Try.prog.info? 47).map (fun i => (i.zero, i.size, i.bytes)) = some (some (.nilFunc), 1, 8) := by kernel_rfl
theorem tin48 : (Try.prog.info? 48).map (fun i => (i.zero, i.size, i.bytes)) = some (some (.map none), 1, 8) := by kernel_rfl
theorem tmk48 : ∃ q, Try.prog.underlying 3 = some (.int q) := ⟨_, Try.underlying3⟩
theorem tml48 : ∃ i, Try.prog.info? 3 = some i ∧ i.zero = some (.int .i64 0) := Option.map_eq_some_iff.1 (show (Try.prog.info? 3).map (fun i => i.zero) = some (some (.int .i64 0)) by kernel_rfl)
theorem tin50 : (Try.prog.info? 50).map (fun i => (i.zero, i.size, i.bytes)) = some (some (.nilFunc), 1, 8) := by kernel_rfl
theorem tin51 : (Try.prog.info? 51).map (fun i => (i.zero, i.size, i.bytes)) = some (some (.nilFunc), 1, 8) := by kernel_rfl
theorem tin52 : (Try.prog.info? 52).map (fun i => (i.zero, i.size, i.bytes)) = some (some (.nilFunc), 1, 8) := by kernel_rfl
theorem tin53 : (Try.prog.info? 53).map (fun i => (i.zero, i.size, i.bytes)) = some (some (.nilFunc), 1, 8) := by kernel_rfl
theorem tin54 : (Try.prog.info? 54).map (fun i => (i.zero, i.size, i.bytes)) = some (some (.nilFunc), 1, 8) := by kernel_rfl
theorem tin56 : (Try.prog.info? 56).map (fun i => (i.zero, i.size, i.bytes)) = some (some (.nilFunc), 1, 8) := by kernel_rfl
theorem tin57 : (Try.prog.info? 57).map (fun i => (i.zero, i.size, i.bytes)) = some (some (.nilFunc), 1, 8) := by kernel_rfl
theorem tin58 : (Try.prog.info? 58).map (fun i => (i.zero, i.size, i.bytes)) = some (some (.nilFunc), 1, 8) := by kernel_rfl
theorem tin59 : (Try.prog.info? 59).map (fun i => (i.zero, i.size, i.bytes)) = some (some (.nilFunc), 1, 8) := by kernel_rfl
theorem tin60 : (Try.prog.info? 60).map (fun i => (i.zero, i.size, i.bytes)) = some (some (.nilFunc), 1, 8) := by kernel_rfl
theorem tin61 : (Try.prog.info? 61).map (fun i => (i.zero, i.size, i.bytes)) = some (some (.nilFunc), 1, 8) := by kernel_rfl
theorem tin62 : (Try.prog.info? 62).map (fun i => (i.zero, i.size, i.bytes)) = some (some (.nilFunc), 1, 8) := by kernel_rfl
theorem tin63 : (Try.prog.info? 63).map (fun i => (i.zero, i.size, i.bytes)) = some (some (.nilFunc), 1, 8) := by kernel_rfl
theorem tin64 : (Try.prog.info? 64).map (fun i => (i.zero, i.size, i.bytes)) = some (some (.int .u32 0), 1, 4) := by kernel_rfl
theorem tin66 : (Try.prog.info? 66).map (fun i => (i.zero, i.size, i.bytes)) = some (some (.nilFunc), 1, 8) := by kernel_rfl
theorem tin67 : (Try.prog.info? 67).map (fun i => (i.zero, i.size, i.bytes)) = some (some (.int .u64 0), 1, 8) := by kernel_rfl
theorem tin69 : (Try.prog.info? 69).map (fun i => (i.zero, i.size, i.bytes)) = some (some (.nilFunc), 1, 8) := by kernel_rfl
theorem tin70 : (Try.prog.info? 70).map (fun i => (i.zero, i.size, i.bytes)) = some (some (.nilFunc), 1, 8) := by kernel_rfl
theorem tin71 : (Try.prog.info? 71).map (fun i => (i.zero, i.size, i.bytes)) = some (some (.pointer none), 1, 8) := by kernel_rfl
theorem tin72 : (Try.prog.info? 72).map (fun i => (i.zero, i.size, i.bytes)) = some (some (.slice none 0 0), 1, 24) := by kernel_rfl
theorem tel72 : (Try.prog.info? 5).map (fun i => (i.zero, i.size, i.bytes)) = some (some ((.int .u8 0)), 1, 1) := by kernel_rfl
theorem tin73 : (Try.prog.info? 73).map (fun i => (i.zero, i.size, i.bytes)) = some (some (.agg #[.pointer none, .slice none 0 0]), 2, 32) := by kernel_rfl
theorem tfd73_0 : FdT Try.prog 73 0 0 71 1 false := ⟨⟨_, Try.underlying73, _, rfl, rfl, rfl⟩, elt_of2 (by kernel_rfl) (by kernel_rfl), by decide⟩
theorem tfd73_1 : FdT Try.prog 73 1 1 72 1 false := ⟨⟨_, Try.underlying73, _, rfl, rfl, rfl⟩, elt_of2 (by kernel_rfl) (by kernel_rfl), by decide⟩
theorem tin74 : (Try.prog.info? 74).map (fun i => (i.zero, i.size, i.bytes)) = some (some (.agg #[.pointer none, .slice none 0 0]), 2, 32) := by kernel_rfl
theorem tfd74_0 : FdT Try.prog 74 0 0 71 1 false := ⟨⟨_, Try.underlying74, _, rfl, rfl, rfl⟩, elt_of2 (by kernel_rfl) (by kernel_rfl), by decide⟩
theorem tfd74_1 : FdT Try.prog 74 1 1 72 1 false := ⟨⟨_, Try.underlying74, _, rfl, rfl, rfl⟩, elt_of2 (by kernel_rfl) (by kernel_rfl), by decide⟩
theorem tin75 : (Try.prog.info? 75).map (fun i => (i.zero, i.size, i.bytes)) = some (some (.nilFunc), 1, 8) := by kernel_rfl
theorem tin79 : (Try.prog.info? 79).map (fun i => (i.zero, i.size, i.bytes)) = some (some (.nilFunc), 1, 8) := by kernel_rfl
theorem tin80 : (Try.prog.info? 80).map (fun i => (i.zero, i.size, i.bytes)) = some (some (.nilFunc), 1, 8) := by kernel_rfl
theorem tin81 : (Try.prog.info? 81).map (fun i => (i.zero, i.size, i.bytes)) = some (some (.slice none 0 0), 1, 24) := by kernel_rfl
theorem tel81 : (Try.prog.info? 4).map (fun i => (i.zero, i.size, i.bytes)) = some (some ((.bool false)), 1, 1) := by kernel_rfl
theorem tin82 : (Try.prog.info? 82).map (fun i => (i.zero, i.size, i.bytes)) = some (some (.pointer none), 1, 8) := by kernel_rfl
theorem tin84 : (Try.prog.info? 84).map (fun i => (i.zero, i.size, i.bytes)) = some (some (.nilFunc), 1, 8) := by kernel_rfl
theorem tin85 : (Try.prog.info? 85).map (fun i => (i.zero, i.size, i.bytes)) = some (some (.agg #[.pointer none, .pointer none, .pointer none, .string ⟨#[]⟩]), 4, 40) := by kernel_rfl
theorem tfd85_0 : FdT Try.prog 85 0 0 17 1 false := ⟨⟨_, Try.underlying85, _, rfl, rfl, rfl⟩, elt_of2 (by kernel_rfl) (by kernel_rfl), by decide⟩
theorem tfd85_1 : FdT Try.prog 85 1 1 17 1 false := ⟨⟨_, Try.underlying85, _, rfl, rfl, rfl⟩, elt_of2 (by kernel_rfl) (by kernel_rfl), by decide⟩
theorem tfd85_2 : FdT Try.prog 85 2 2 17 1 false := ⟨⟨_, Try.underlying85, _, rfl, rfl, rfl⟩, elt_of2 (by kernel_rfl) (by kernel_rfl), by decide⟩
theorem tfd85_3 : FdT Try.prog 85 3 3 9 1 false := ⟨⟨_, Try.underlying85, _, rfl, rfl, rfl⟩, elt_of2 (by kernel_rfl) (by kernel_rfl), by decide⟩
theorem tin86 : (Try.prog.info? 86).map (fun i => (i.zero, i.size, i.bytes)) = some (some (.agg #[.pointer none, .pointer none, .pointer none, .string ⟨#[]⟩]), 4, 40) := by kernel_rfl
theorem tfd86_0 : FdT Try.prog 86 0 0 17 1 false := ⟨⟨_, Try.underlying86, _, rfl, rfl, rfl⟩, elt_of2 (by kernel_rfl) (by kernel_rfl), by decide⟩
theorem tfd86_1 : FdT Try.prog 86 1 1 17 1 false := ⟨⟨_, Try.underlying86, _, rfl, rfl, rfl⟩, elt_of2 (by kernel_rfl) (by kernel_rfl), by decide⟩
theorem tfd86_2 : FdT Try.prog 86 2 2 17 1 false := ⟨⟨_, Try.underlying86, _, rfl, rfl, rfl⟩, elt_of2 (by kernel_rfl) (by kernel_rfl), by decide⟩
theorem tfd86_3 : FdT Try.prog 86 3 3 9 1 false := ⟨⟨_, Try.underlying86, _, rfl, rfl, rfl⟩, elt_of2 (by kernel_rfl) (by kernel_rfl), by decide⟩
theorem tin90 : (Try.prog.info? 90).map (fun i => (i.zero, i.size, i.bytes)) = some (some (.nilFunc), 1, 8) := by kernel_rfl
theorem tin91 : (Try.prog.info? 91).map (fun i => (i.zero, i.size, i.bytes)) = some (some (.int .u8 0), 1, 1) := by kernel_rfl
theorem tin92 : (Try.prog.info? 92).map (fun i => (i.zero, i.size, i.bytes)) = some (some (.int .u8 0), 1, 1) := by kernel_rfl
theorem tin93 : (Try.prog.info? 93).map (fun i => (i.zero, i.size, i.bytes)) = some (some (.nilFunc), 1, 8) := by kernel_rfl
theorem tin94 : (Try.prog.info? 94).map (fun i => (i.zero, i.size, i.bytes)) = some (some (.int .i32 0), 1, 4) := by kernel_rfl
theorem tin95 : (Try.prog.info? 95).map (fun i => (i.zero, i.size, i.bytes)) = some (some (.int .i32 0), 1, 4) := by kernel_rfl
theorem tin96 : (Try.prog.info? 96).map (fun i => (i.zero, i.size, i.bytes)) = some (some (.agg #[.int .u64 0, .int .u64 0, .int .u32 0, .int .u8 0, .int .u8 0, .int .u8 0, .int .u8 0, .nilFunc, .pointer none, .int .i32 0, .int .i32 0]), 11, 48) := by kernel_rfl
theorem tfd96_0 : FdT Try.prog 96 0 0 12 1 false := ⟨⟨_, Try.underlying96, _, rfl, rfl, rfl⟩, elt_of2 (by kernel_rfl) (by kernel_rfl), by decide⟩
theorem tfd96_1 : FdT Try.prog 96 1 1 12 1 false := ⟨⟨_, Try.underlying96, _, rfl, rfl, rfl⟩, elt_of2 (by kernel_rfl) (by kernel_rfl), by decide⟩
theorem tfd96_2 : FdT Try.prog 96 2 2 64 1 false := ⟨⟨_, Try.underlying96, _, rfl, rfl, rfl⟩, elt_of2 (by kernel_rfl) (by kernel_rfl), by decide⟩
theorem tfd96_3 : FdT Try.prog 96 3 3 91 1 false := ⟨⟨_, Try.underlying96, _, rfl, rfl, rfl⟩, elt_of2 (by kernel_rfl) (by kernel_rfl), by decide⟩
theorem tfd96_4 : FdT Try.prog 96 4 4 5 1 false := ⟨⟨_, Try.underlying96, _, rfl, rfl, rfl⟩, elt_of2 (by kernel_rfl) (by kernel_rfl), by decide⟩
theorem tfd96_5 : FdT Try.prog 96 5 5 5 1 false := ⟨⟨_, Try.underlying96, _, rfl, rfl, rfl⟩, elt_of2 (by kernel_rfl) (by kernel_rfl), by decide⟩
theorem tfd96_6 : FdT Try.prog 96 6 6 92 1 false := ⟨⟨_, Try.underlying96, _, rfl, rfl, rfl⟩, elt_of2 (by kernel_rfl) (by kernel_rfl), by decide⟩
theorem tfd96_7 : FdT Try.prog 96 7 7 93 1 false := ⟨⟨_, Try.underlying96, _, rfl, rfl, rfl⟩, elt_of2 (by kernel_rfl) (by kernel_rfl), by decide⟩
theorem tfd96_8 : FdT Try.prog 96 8 8 82 1 false := ⟨⟨_, Try.underlying96, _, rfl, rfl, rfl⟩, elt_of2 (by kernel_rfl) (by kernel_rfl), by decide⟩
theorem tfd96_9 : FdT Try.prog 96 9 9 94 1 false := ⟨⟨_, Try.underlying96, _, rfl, rfl, rfl⟩, elt_of2 (by kernel_rfl) (by kernel_rfl), by decide⟩
theorem tfd96_10 : FdT Try.prog 96 10 10 95 1 false := ⟨⟨_, Try.underlying96, _, rfl, rfl, rfl⟩, elt_of2 (by kernel_rfl) (by kernel_rfl), by decide⟩
theorem tin97 : (Try.prog.info? 97).map (fun i => (i.zero, i.size, i.bytes)) = some (some (.agg #[.int .u64 0, .int .u64 0, .int .u32 0, .int .u8 0, .int .u8 0, .int .u8 0, .int .u8 0, .nilFunc, .pointer none, .int .i32 0, .int .i32 0]), 11, 48) := by kernel_rfl
theorem tfd97_0 : FdT Try.prog 97 0 0 12 1 false := ⟨⟨_, Try.underlying97, _, rfl, rfl, rfl⟩, elt_of2 (by kernel_rfl) (by kernel_rfl), by decide⟩
theorem tfd97_1 : FdT Try.prog 97 1 1 12 1 false := ⟨⟨_, Try.underlying97, _, rfl, rfl, rfl⟩, elt_of2 (by kernel_rfl) (by kernel_rfl), by decide⟩
theorem tfd97_2 : FdT Try.prog 97 2 2 64 1 false := ⟨⟨_, Try.underlying97, _, rfl, rfl, rfl⟩, elt_of2 (by kernel_rfl) (by kernel_rfl), by decide⟩
theorem tfd97_3 : FdT Try.prog 97 3 3 91 1 false := ⟨⟨_, Try.underlying97, _, rfl, rfl, rfl⟩, elt_of2 (by kernel_rfl) (by kernel_rfl), by decide⟩
theorem tfd97_4 : FdT Try.prog 97 4 4 5 1 false := ⟨⟨_, Try.underlying97, _, rfl, rfl, rfl⟩, elt_of2 (by kernel_rfl) (by kernel_rfl), by decide⟩
theorem tfd97_5 : FdT Try.prog 97 5 5 5 1 false := ⟨⟨_, Try.underlying97, _, rfl, rfl, rfl⟩, elt_of2 (by kernel_rfl) (by kernel_rfl), by decide⟩
theorem tfd97_6 : FdT Try.prog 97 6 6 92 1 false := ⟨⟨_, Try.underlying97, _, rfl, rfl, rfl⟩, elt_of2 (by kernel_rfl) (by kernel_rfl), by decide⟩
theorem tfd97_7 : FdT Try.prog 97 7 7 93 1 false := ⟨⟨_, Try.underlying97, _, rfl, rfl, rfl⟩, elt_of2 (by kernel_rfl) (by kernel_rfl), by decide⟩
theorem tfd97_8 : FdT Try.prog 97 8 8 82 1 false := ⟨⟨_, Try.underlying97, _, rfl, rfl, rfl⟩, elt_of2 (by kernel_rfl) (by kernel_rfl), by decide⟩
theorem tfd97_9 : FdT Try.prog 97 9 9 94 1 false := ⟨⟨_, Try.underlying97, _, rfl, rfl, rfl⟩, elt_of2 (by kernel_rfl) (by kernel_rfl), by decide⟩
theorem tfd97_10 : FdT Try.prog 97 10 10 95 1 false := ⟨⟨_, Try.underlying97, _, rfl, rfl, rfl⟩, elt_of2 (by kernel_rfl) (by kernel_rfl), by decide⟩
def TT : TypeId → TI
  | 1 => .one (.nilFunc)
  | 2 => .one (.int .i64 0)
  | 3 => .one (.int .i64 0)
  | 4 => .bool
  | 5 => .one (.int .u8 0)
  | 6 => .one (.int .u8 0)
  | 7 => .st 4 [.int .i64 0, .int .i64 0, .bool false, .int .u8 0] [(0, 1, false), (1, 1, false), (2, 1, false), (3, 1, false)]
  | 8 => .st 4 [.int .i64 0, .int .i64 0, .bool false, .int .u8 0] [(0, 1, false), (1, 1, false), (2, 1, false), (3, 1, false)]
  | 9 => .one (.string ⟨#[]⟩)
  | 10 => .one (.string ⟨#[]⟩)
  | 11 => .one (.string ⟨#[]⟩)
  | 12 => .one (.int .u64 0)
  | 13 => .st 2 [.string ⟨#[]⟩, .int .u64 0] [(0, 1, false), (1, 1, false)]
  | 14 => .st 2 [.string ⟨#[]⟩, .int .u64 0] [(0, 1, false), (1, 1, false)]
  | 15 => .one (.pointer none)
  | 16 => .one (.pointer none)
  | 17 => .one (.pointer none)
  | 18 => .st 1 [.pointer none] [(0, 1, false)]
  | 19 => .st 1 [.pointer none] [(0, 1, false)]
  | 21 => .one (.int .i32 0)
  | 22 => .sl 3 1 8 [.int .i64 0]
  | 23 => .one (.int .i64 0)
  | 24 => .one (.nilFunc)
  | 25 => .one (.nilFunc)
  | 26 => .sl 22 1 24 [.slice none 0 0]
  | 28 => .one (.nilFunc)
  | 30 => .one (.nilFunc)
  | 32 => .one (.nilFunc)
  | 33 => .one (.nilFunc)
  | 34 => .mp (.bool false)
  | 35 => .one (.nilFunc)
  | 36 => .one (.nilFunc)
  | 37 => .one (.nilFunc)
  | 38 => .one (.nilFunc)
  | 39 => .one (.nilFunc)
  | 40 => .one (.nilFunc)
  | 41 => .one (.nilFunc)
  | 42 => .one (.nilFunc)
  | 43 => .one (.nilFunc)
  | 44 => .one (.nilFunc)
  | 45 => .one (.nilFunc)
  | 46 => .one (.int .u64 0)
  | 47 => .one (.nilFunc)
  | 48 => .mp (.int .i64 0)
  | 50 => .one (.nilFunc)
  | 51 => .one (.nilFunc)
  | 52 => .one (.nilFunc)
  | 53 => .one (.nilFunc)
  | 54 => .one (.nilFunc)
  | 56 => .one (.nilFunc)
  | 57 => .one (.nilFunc)
  | 58 => .one (.nilFunc)
  | 59 => .one (.nilFunc)
  | 60 => .one (.nilFunc)
  | 61 => .one (.nilFunc)
  | 62 => .one (.nilFunc)
  | 63 => .one (.nilFunc)
  | 64 => .one (.int .u32 0)
  | 66 => .one (.nilFunc)
  | 67 => .one (.int .u64 0)
  | 69 => .one (.nilFunc)
  | 70 => .one (.nilFunc)
  | 71 => .one (.pointer none)
  | 72 => .sl 5 1 1 [.int .u8 0]
  | 73 => .st 2 [.pointer none, .slice none 0 0] [(0, 1, false), (1, 1, false)]
  | 74 => .st 2 [.pointer none, .slice none 0 0] [(0, 1, false), (1, 1, false)]
  | 75 => .one (.nilFunc)
  | 79 => .one (.nilFunc)
  | 80 => .one (.nilFunc)
  | 81 => .sl 4 1 1 [.bool false]
  | 82 => .one (.pointer none)
  | 84 => .one (.nilFunc)
  | 85 => .st 4 [.pointer none, .pointer none, .pointer none, .string ⟨#[]⟩] [(0, 1, false), (1, 1, false), (2, 1, false), (3, 1, false)]
  | 86 => .st 4 [.pointer none, .pointer none, .pointer none, .string ⟨#[]⟩] [(0, 1, false), (1, 1, false), (2, 1, false), (3, 1, false)]
  | 90 => .one (.nilFunc)
  | 91 => .one (.int .u8 0)
  | 92 => .one (.int .u8 0)
  | 93 => .one (.nilFunc)
  | 94 => .one (.int .i32 0)
  | 95 => .one (.int .i32 0)
  | 96 => .st 11 [.int .u64 0, .int .u64 0, .int .u32 0, .int .u8 0, .int .u8 0, .int .u8 0, .int .u8 0, .nilFunc, .pointer none, .int .i32 0, .int .i32 0] [(0, 1, false), (1, 1, false), (2, 1, false), (3, 1, false), (4, 1, false), (5, 1, false), (6, 1, false), (7, 1, false), (8, 1, false), (9, 1, false), (10, 1, false)]
  | 97 => .st 11 [.int .u64 0, .int .u64 0, .int .u32 0, .int .u8 0, .int .u8 0, .int .u8 0, .int .u8 0, .nilFunc, .pointer none, .int .i32 0, .int .i32 0] [(0, 1, false), (1, 1, false), (2, 1, false), (3, 1, false), (4, 1, false), (5, 1, false), (6, 1, false), (7, 1, false), (8, 1, false), (9, 1, false), (10, 1, false)]
  | _ => .oth
theorem tok : TOk Try.prog TT := by
  intro t
  unfold TT
  split
  · exact ⟨elt_of Try.underlying1 rfl tin1, zrt_of tin1 rfl⟩
  · exact ⟨elt_of Try.underlying2 rfl tin2, zrt_of tin2 rfl⟩
  · exact ⟨elt_of Try.underlying3 rfl tin3, zrt_of tin3 rfl⟩
  · exact ⟨elt_of Try.underlying4 rfl tin4, zrt_of tin4 rfl, Try.underlying4⟩
  · exact ⟨elt_of Try.underlying5 rfl tin5, zrt_of tin5 rfl⟩
  · exact ⟨elt_of Try.underlying6 rfl tin6, zrt_of tin6 rfl⟩
  · exact ⟨elt_of Try.underlying7 rfl tin7, zrt_of tin7 rfl, (fun f x hx => by match f, hx with | 0, hx => (cases hx; exact ⟨_, tfd7_0⟩) | 1, hx => (cases hx; exact ⟨_, tfd7_1⟩) | 2, hx => (cases hx; exact ⟨_, tfd7_2⟩) | 3, hx => (cases hx; exact ⟨_, tfd7_3⟩) | f + 4, hx => (simp at hx)), bdt_of Try.underlying7 tin7 rfl rfl (by kernel_rfl)⟩
  · exact ⟨elt_of Try.underlying8 rfl tin8, zrt_of tin8 rfl, (fun f x hx => by match f, hx with | 0, hx => (cases hx; exact ⟨_, tfd8_0⟩) | 1, hx => (cases hx; exact ⟨_, tfd8_1⟩) | 2, hx => (cases hx; exact ⟨_, tfd8_2⟩) | 3, hx => (cases hx; exact ⟨_, tfd8_3⟩) | f + 4, hx => (simp at hx)), bdt_of Try.underlying8 tin8 rfl rfl (by kernel_rfl)⟩
  · exact ⟨elt_of Try.underlying9 rfl tin9, zrt_of tin9 rfl⟩
  · exact ⟨elt_of Try.underlying10 rfl tin10, zrt_of tin10 rfl⟩
  · exact ⟨elt_of Try.underlying11 rfl tin11, zrt_of tin11 rfl⟩
  · exact ⟨elt_of Try.underlying12 rfl tin12, zrt_of tin12 rfl⟩
  · exact ⟨elt_of Try.underlying13 rfl tin13, zrt_of tin13 rfl, (fun f x hx => by match f, hx with | 0, hx => (cases hx; exact ⟨_, tfd13_0⟩) | 1, hx => (cases hx; exact ⟨_, tfd13_1⟩) | f + 2, hx => (simp at hx)), bdt_of Try.underlying13 tin13 rfl rfl (by kernel_rfl)⟩
  · exact ⟨elt_of Try.underlying14 rfl tin14, zrt_of tin14 rfl, (fun f x hx => by match f, hx with | 0, hx => (cases hx; exact ⟨_, tfd14_0⟩) | 1, hx => (cases hx; exact ⟨_, tfd14_1⟩) | f + 2, hx => (simp at hx)), bdt_of Try.underlying14 tin14 rfl rfl (by kernel_rfl)⟩
  · exact ⟨elt_of Try.underlying15 rfl tin15, zrt_of tin15 rfl⟩
  · exact ⟨elt_of Try.underlying16 rfl tin16, zrt_of tin16 rfl⟩
  · exact ⟨elt_of Try.underlying17 rfl tin17, zrt_of tin17 rfl⟩
  · exact ⟨elt_of Try.underlying18 rfl tin18, zrt_of tin18 rfl, (fun f x hx => by match f, hx with | 0, hx => (cases hx; exact ⟨_, tfd18_0⟩) | f + 1, hx => (simp at hx)), bdt_of Try.underlying18 tin18 rfl rfl (by kernel_rfl)⟩
  · exact ⟨elt_of Try.underlying19 rfl tin19, zrt_of tin19 rfl, (fun f x hx => by match f, hx with | 0, hx => (cases hx; exact ⟨_, tfd19_0⟩) | f + 1, hx => (simp at hx)), bdt_of Try.underlying19 tin19 rfl rfl (by kernel_rfl)⟩
  · exact ⟨elt_of Try.underlying21 rfl tin21, zrt_of tin21 rfl⟩
  · exact ⟨elt_of Try.underlying22 rfl tin22, zrt_of tin22 rfl, slt_of Try.underlying22 tel22 rfl rfl (by decide)⟩
  · exact ⟨elt_of Try.underlying23 rfl tin23, zrt_of tin23 rfl⟩
  · exact ⟨elt_of Try.underlying24 rfl tin24, zrt_of tin24 rfl⟩
  · exact ⟨elt_of Try.underlying25 rfl tin25, zrt_of tin25 rfl⟩
  · exact ⟨elt_of Try.underlying26 rfl tin26, zrt_of tin26 rfl, slt_of Try.underlying26 tel26 rfl rfl (by decide)⟩
  · exact ⟨elt_of Try.underlying28 rfl tin28, zrt_of tin28 rfl⟩
  · exact ⟨elt_of Try.underlying30 rfl tin30, zrt_of tin30 rfl⟩
  · exact ⟨elt_of Try.underlying32 rfl tin32, zrt_of tin32 rfl⟩
  · exact ⟨elt_of Try.underlying33 rfl tin33, zrt_of tin33 rfl⟩
  · exact ⟨elt_of Try.underlying34 rfl tin34, zrt_of tin34 rfl, ⟨_, _, _, Try.underlying34, tmk34.choose_spec, tml34⟩⟩
  · exact ⟨elt_of Try.underlying35 rfl tin35, zrt_of tin35 rfl⟩
  · exact ⟨elt_of Try.underlying36 rfl tin36, zrt_of tin36 rfl⟩
  · exact ⟨elt_of Try.underlying37 rfl tin37, zrt_of tin37 rfl⟩
  · exact ⟨elt_of Try.underlying38 rfl tin38, zrt_of tin38 rfl⟩
  · exact ⟨elt_of Try.underlying39 rfl tin39, zrt_of tin39 rfl⟩
  · exact ⟨elt_of Try.underlying40 rfl tin40, zrt_of tin40 rfl⟩
  · exact ⟨elt_of Try.underlying41 rfl tin41, zrt_of tin41 rfl⟩
  · exact ⟨elt_of Try.underlying42 rfl tin42, zrt_of tin42 rfl⟩
  · exact ⟨elt_of Try.underlying43 rfl tin43, zrt_of tin43 rfl⟩
  · exact ⟨elt_of Try.underlying44 rfl tin44, zrt_of tin44 rfl⟩
  · exact ⟨elt_of Try.underlying45 rfl tin45, zrt_of tin45 rfl⟩
  · exact ⟨elt_of Try.underlying46 rfl tin46, zrt_of tin46 rfl⟩
  · exact ⟨elt_of Try.underlying47 rfl tin47, zrt_of tin47 rfl⟩
  · exact ⟨elt_of Try.underlying48 rfl tin48, zrt_of tin48 rfl, ⟨_, _, _, Try.underlying48, tmk48.choose_spec, tml48⟩⟩
  · exact ⟨elt_of Try.underlying50 rfl tin50, zrt_of tin50 rfl⟩
  · exact ⟨elt_of Try.underlying51 rfl tin51, zrt_of tin51 rfl⟩
  · exact ⟨elt_of Try.underlying52 rfl tin52, zrt_of tin52 rfl⟩
  · exact ⟨elt_of Try.underlying53 rfl tin53, zrt_of tin53 rfl⟩
  · exact ⟨elt_of Try.underlying54 rfl tin54, zrt_of tin54 rfl⟩
  · exact ⟨elt_of Try.underlying56 rfl tin56, zrt_of tin56 rfl⟩
  · exact ⟨elt_of Try.underlying57 rfl tin57, zrt_of tin57 rfl⟩
  · exact ⟨elt_of Try.underlying58 rfl tin58, zrt_of tin58 rfl⟩
  · exact ⟨elt_of Try.underlying59 rfl tin59, zrt_of tin59 rfl⟩
  · exact ⟨elt_of Try.underlying60 rfl tin60, zrt_of tin60 rfl⟩
  · exact ⟨elt_of Try.underlying61 rfl tin61, zrt_of tin61 rfl⟩
  · exact ⟨elt_of Try.underlying62 rfl tin62, zrt_of tin62 rfl⟩
  · exact ⟨elt_of Try.underlying63 rfl tin63, zrt_of tin63 rfl⟩
  · exact ⟨elt_of Try.underlying64 rfl tin64, zrt_of tin64 rfl⟩
  · exact ⟨elt_of Try.underlying66 rfl tin66, zrt_of tin66 rfl⟩
  · exact ⟨elt_of Try.underlying67 rfl tin67, zrt_of tin67 rfl⟩
  · exact ⟨elt_of Try.underlying69 rfl tin69, zrt_of tin69 rfl⟩
  · exact ⟨elt_of Try.underlying70 rfl tin70, zrt_of tin70 rfl⟩
  · exact ⟨elt_of Try.underlying71 rfl tin71, zrt_of tin71 rfl⟩
  · exact ⟨elt_of Try.underlying72 rfl tin72, zrt_of tin72 rfl, slt_of Try.underlying72 tel72 rfl rfl (by decide)⟩
  · exact ⟨elt_of Try.underlying73 rfl tin73, zrt_of tin73 rfl, (fun f x hx => by match f, hx with | 0, hx => (cases hx; exact ⟨_, tfd73_0⟩) | 1, hx => (cases hx; exact ⟨_, tfd73_1⟩) | f + 2, hx => (simp at hx)), bdt_of Try.underlying73 tin73 rfl rfl (by kernel_rfl)⟩
  · exact ⟨elt_of Try.underlying74 rfl tin74, zrt_of tin74 rfl, (fun f x hx => by match f, hx with | 0, hx => (cases hx; exact ⟨_, tfd74_0⟩) | 1, hx => (cases hx; exact ⟨_, tfd74_1⟩) | f + 2, hx => (simp at hx)), bdt_of Try.underlying74 tin74 rfl rfl (by kernel_rfl)⟩
  · exact ⟨elt_of Try.underlying75 rfl tin75, zrt_of tin75 rfl⟩
  · exact ⟨elt_of Try.underlying79 rfl tin79, zrt_of tin79 rfl⟩
  · exact ⟨elt_of Try.underlying80 rfl tin80, zrt_of tin80 rfl⟩
  · exact ⟨elt_of Try.underlying81 rfl tin81, zrt_of tin81 rfl, slt_of Try.underlying81 tel81 rfl rfl (by decide)⟩
  · exact ⟨elt_of Try.underlying82 rfl tin82, zrt_of tin82 rfl⟩
  · exact ⟨elt_of Try.underlying84 rfl tin84, zrt_of tin84 rfl⟩
  · exact ⟨elt_of Try.underlying85 rfl tin85, zrt_of tin85 rfl, (fun f x hx => by match f, hx with | 0, hx => (cases hx; exact ⟨_, tfd85_0⟩) | 1, hx => (cases hx; exact ⟨_, tfd85_1⟩) | 2, hx => (cases hx; exact ⟨_, tfd85_2⟩) | 3, hx => (cases hx; exact ⟨_, tfd85_3⟩) | f + 4, hx => (simp at hx)), bdt_of Try.underlying85 tin85 rfl rfl (by kernel_rfl)⟩
  · exact ⟨elt_of Try.underlying86 rfl tin86, zrt_of tin86 rfl, (fun f x hx => by match f, hx with | 0, hx => (cases hx; exact ⟨_, tfd86_0⟩) | 1, hx => (cases hx; exact ⟨_, tfd86_1⟩) | 2, hx => (cases hx; exact ⟨_, tfd86_2⟩) | 3, hx => (cases hx; exact ⟨_, tfd86_3⟩) | f + 4, hx => (simp at hx)), bdt_of Try.underlying86 tin86 rfl rfl (by kernel_rfl)⟩
  · exact ⟨elt_of Try.underlying90 rfl tin90, zrt_of tin90 rfl⟩
  · exact ⟨elt_of Try.underlying91 rfl tin91, zrt_of tin91 rfl⟩
  · exact ⟨elt_of Try.underlying92 rfl tin92, zrt_of tin92 rfl⟩
  · exact ⟨elt_of Try.underlying93 rfl tin93, zrt_of tin93 rfl⟩
  · exact ⟨elt_of Try.underlying94 rfl tin94, zrt_of tin94 rfl⟩
  · exact ⟨elt_of Try.underlying95 rfl tin95, zrt_of tin95 rfl⟩
  · exact ⟨elt_of Try.underlying96 rfl tin96, zrt_of tin96 rfl, (fun f x hx => by match f, hx with | 0, hx => (cases hx; exact ⟨_, tfd96_0⟩) | 1, hx => (cases hx; exact ⟨_, tfd96_1⟩) | 2, hx => (cases hx; exact ⟨_, tfd96_2⟩) | 3, hx => (cases hx; exact ⟨_, tfd96_3⟩) | 4, hx => (cases hx; exact ⟨_, tfd96_4⟩) | 5, hx => (cases hx; exact ⟨_, tfd96_5⟩) | 6, hx => (cases hx; exact ⟨_, tfd96_6⟩) | 7, hx => (cases hx; exact ⟨_, tfd96_7⟩) | 8, hx => (cases hx; exact ⟨_, tfd96_8⟩) | 9, hx => (cases hx; exact ⟨_, tfd96_9⟩) | 10, hx => (cases hx; exact ⟨_, tfd96_10⟩) | f + 11, hx => (simp at hx)), bdt_of Try.underlying96 tin96 rfl rfl (by kernel_rfl)⟩
  · exact ⟨elt_of Try.underlying97 rfl tin97, zrt_of tin97 rfl, (fun f x hx => by match f, hx with | 0, hx => (cases hx; exact ⟨_, tfd97_0⟩) | 1, hx => (cases hx; exact ⟨_, tfd97_1⟩) | 2, hx => (cases hx; exact ⟨_, tfd97_2⟩) | 3, hx => (cases hx; exact ⟨_, tfd97_3⟩) | 4, hx => (cases hx; exact ⟨_, tfd97_4⟩) | 5, hx => (cases hx; exact ⟨_, tfd97_5⟩) | 6, hx => (cases hx; exact ⟨_, tfd97_6⟩) | 7, hx => (cases hx; exact ⟨_, tfd97_7⟩) | 8, hx => (cases hx; exact ⟨_, tfd97_8⟩) | 9, hx => (cases hx; exact ⟨_, tfd97_9⟩) | 10, hx => (cases hx; exact ⟨_, tfd97_10⟩) | f + 11, hx => (simp at hx)), bdt_of Try.underlying97 tin97 rfl rfl (by kernel_rfl)⟩
  · trivial
theorem mixed : Try.prog.follows .mixedOrders = true := by kernel_rfl
end Go.Proofs.Ytkmkcbkfakoomaa
