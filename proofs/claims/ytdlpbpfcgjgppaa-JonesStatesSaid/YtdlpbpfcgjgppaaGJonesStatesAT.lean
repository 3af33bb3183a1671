/- Facts and contracts that the claim uses. No condition of its own. -/
import Derived.Test.YtdlpbpfcgjgppaaGJonesStatesAM
import Derived.Test.YtdlpbpfcgjgppaaProg
namespace Go.Proofs.Ytdlpbpfcgjgppaa
open Go.RowKit
variable {P : Program}
theorem info_of {t : TypeId} {z : Value} {sz bs : Nat} (h : (P.info? t).map (fun i => (i.zero, i.size, i.bytes)) = some (some z, sz, bs)) : ∃ i, P.info? t = some i ∧ i.zero = some z ∧ i.size = sz ∧ i.bytes = bs := by
  cases hi : P.info? t with
  | none => simp [hi] at h
  | some i => simp [hi] at h; exact ⟨i, rfl, h.1, h.2.1, h.2.2⟩
theorem elt_of {t : TypeId} {d : TypeDesc} {z : Value} {sz bs : Nat} {ag : Bool} (hu : P.underlying t = some d) (ha : isAggD d = ag) (h : (P.info? t).map (fun i => (i.zero, i.size, i.bytes)) = some (some z, sz, bs)) : ElT P t ag sz := by
  obtain ⟨i, h1, h2, h3, h4⟩ := info_of h
  exact ⟨⟨d, hu, ha⟩, ⟨i, h1, h3⟩⟩
theorem elt_of2 {t sz : Nat} {ag : Bool} (hu : (P.underlying t).map isAggD = some ag) (h : (P.info? t).map (·.size) = some sz) : ElT P t ag sz := by
  obtain ⟨d, h1, h2⟩ := Option.map_eq_some_iff.1 hu
  obtain ⟨i, h3, h4⟩ := Option.map_eq_some_iff.1 h
  exact ⟨⟨d, h1, h2⟩, ⟨i, h3, h4⟩⟩
theorem zrt_of {t : TypeId} {z : Value} {sz bs : Nat} {zc : List Value} (h : (P.info? t).map (fun i => (i.zero, i.size, i.bytes)) = some (some z, sz, bs)) (hz : z.cells.toList = zc) : ZrT P t zc := by
  obtain ⟨i, h1, h2, h3, h4⟩ := info_of h
  exact ⟨⟨i, z, h1, h2, hz⟩⟩
theorem slt_of {t el : TypeId} {z : Value} {sz bs : Nat} {zc : List Value} (hu : P.underlying t = some (.slice el)) (h : (P.info? el).map (fun i => (i.zero, i.size, i.bytes)) = some (some z, sz, bs)) (hz : z.cells.toList = zc) (hl : zc.length = sz) (hp : 0 < sz) : SlT P t el sz bs zc := by
  obtain ⟨i, h1, h2, h3, h4⟩ := info_of h
  exact ⟨hu, ⟨i, z, h1, h3, h4, h2, hz⟩, hl, hp⟩
theorem art_of {t len el sz : Nat} (hu : P.underlying t = some (.array len el)) (h : (P.info? el).map (·.size) = some sz) : ArT P t len el sz := by
  obtain ⟨i, h3, h4⟩ := Option.map_eq_some_iff.1 h
  exact ⟨hu, ⟨i, h3, h4⟩⟩
theorem bdt_of {t : TypeId} {fs : Array Field} {z : Value} {sz bs : Nat} {zc : List Value} {pl : List (Nat × Nat)} (hu : P.underlying t = some (.struct fs)) (h : (P.info? t).map (fun i => (i.zero, i.size, i.bytes)) = some (some z, sz, bs)) (hz : z.cells.toList = zc)
    (h1 : fs.toList.map (·.offset) = pl.map (·.1)) (h2 : fs.toList.map (fun f => (P.info? f.type).map (·.size)) = pl.map (fun x => some x.2)) : BdT P t zc pl := by
  obtain ⟨i, g1, g2, g3, g4⟩ := info_of h
  exact ⟨⟨i, z, g1, g2, hz⟩, .inl ⟨fs, hu, h1, h2⟩⟩
theorem bda_of {t len el sz s2 : Nat} {z : Value} {bs : Nat} {zc : List Value} (hu : P.underlying t = some (.array len el)) (h : (P.info? t).map (fun i => (i.zero, i.size, i.bytes)) = some (some z, s2, bs)) (hz : z.cells.toList = zc) (h2 : (P.info? el).map (·.size) = some sz) : BdT P t zc ((List.range len).map fun i => (i * sz, sz)) := by
  obtain ⟨i, g1, g2, g3, g4⟩ := info_of h
  obtain ⟨j, h3, h4⟩ := Option.map_eq_some_iff.1 h2
  exact ⟨⟨i, z, g1, g2, hz⟩, .inr ⟨len, el, sz, hu, ⟨j, h3, h4⟩, rfl⟩⟩
theorem tin1 : (Try.prog.info? 1).map (fun i => (i.zero, i.size, i.bytes)) = some (some (.nilFunc), 1, 8) := by kernel_rfl
theorem tin2 : (Try.prog.info? 2).map (fun i => (i.zero, i.size, i.bytes)) = some (some (.int .i64 0), 1, 8) := by kernel_rfl
theorem tin3 : (Try.prog.info? 3).map (fun i => (i.zero, i.size, i.bytes)) = some (some (.int .i64 0), 1, 8) := by kernel_rfl
theorem tin4 : (Try.prog.info? 4).map (fun i => (i.zero, i.size, i.bytes)) = some (some (.bool false), 1, 1) := by kernel_rfl
theorem tin5 : (Try.prog.info? 5).map (fun i => (i.zero, i.size, i.bytes)) = some (some (.int .u8 0), 1, 1) := by kernel_rfl
theorem tin6 : (Try.prog.info? 6).map (fun i => (i.zero, i.size, i.bytes)) = some (some (.int .u8 0), 1, 1) := by kernel_rfl
theorem tin7 : (Try.prog.info? 7).map (fun i => (i.zero, i.size, i.bytes)) = some (some (.agg #[.int .i64 0, .int .i64 0, .bool false, .int .u8 0]), 4, 24) := by kernel_rfl
theorem tfd7_0 : FdT Try.prog 7 0 0 2 1 false := ⟨⟨_, Try.underlying7, _, rfl, rfl, rfl⟩, elt_of2 (by kernel_rfl) (by kernel_rfl), by decide⟩
theorem tfd7_1 : FdT Try.prog 7 1 1 3 1 false := ⟨⟨_, Try.underlying7, _, rfl, rfl, rfl⟩, elt_of2 (by kernel_rfl) (by kernel_rfl), by decide⟩
theorem tfd7_2 : FdT Try.prog 7 2 2 4 1 false := ⟨⟨_, Try.underlying7, _, rfl, rfl, rfl⟩, elt_of2 (by kernel_rfl) (by kernel_rfl), by decide⟩
theorem tfd7_3 : FdT Try.prog 7 3 3 6 1 false := ⟨⟨_, Try.underlying7, _, rfl, rfl, rfl⟩, elt_of2 (by kernel_rfl) (by kernel_rfl), by decide⟩
theorem tin8 : (Try.prog.info? 8).map (fun i => (i.zero, i.size, i.bytes)) = some (some (.agg #[.int .i64 0, .int .i64 0, .bool false, .int .u8 0]), 4, 24) := by kernel_rfl
theorem tfd8_0 : FdT Try.prog 8 0 0 2 1 false := ⟨⟨_, Try.underlying8, _, rfl, rfl, rfl⟩, elt_of2 (by kernel_rfl) (by kernel_rfl), by decide⟩
theorem tfd8_1 : FdT Try.prog 8 1 1 3 1 false := ⟨⟨_, Try.underlying8, _, rfl, rfl, rfl⟩, elt_of2 (by kernel_rfl) (by kernel_rfl), by decide⟩
theorem tfd8_2 : FdT Try.prog 8 2 2 4 1 false := ⟨⟨_, Try.underlying8, _, rfl, rfl, rfl⟩, elt_of2 (by kernel_rfl) (by kernel_rfl), by decide⟩
theorem tfd8_3 : FdT Try.prog 8 3 3 6 1 false := ⟨⟨_, Try.underlying8, _, rfl, rfl, rfl⟩, elt_of2 (by kernel_rfl) (by kernel_rfl), by decide⟩
theorem tin9 : (Try.prog.info? 9).map (fun i => (i.zero, i.size, i.bytes)) = some (some (.string ⟨#[]⟩), 1, 16) := by kernel_rfl
theorem tin10 : (Try.prog.info? 10).map (fun i => (i.zero, i.size, i.bytes)) = some (some (.string ⟨#[]⟩), 1, 16) := by kernel_rfl
theorem tin11 : (Try.prog.info? 11).map (fun i => (i.zero, i.size, i.bytes)) = some (some (.string ⟨#[]⟩), 1, 16) := by kernel_rfl
theorem tin12 : (Try.prog.info? 12).map (fun i => (i.zero, i.size, i.bytes)) = some (some (.int .u64 0), 1, 8) := by kernel_rfl
theorem tin13 : (Try.prog.info? 13).map (fun i => (i.zero, i.size, i.bytes)) = some (some (.agg #[.string ⟨#[]⟩, .int .u64 0]), 2, 24) := by kernel_rfl
theorem tfd13_0 : FdT Try.prog 13 0 0 9 1 false := ⟨⟨_, Try.underlying13, _, rfl, rfl, rfl⟩, elt_of2 (by kernel_rfl) (by kernel_rfl), by decide⟩
theorem tfd13_1 : FdT Try.prog 13 1 1 12 1 false := ⟨⟨_, Try.underlying13, _, rfl, rfl, rfl⟩, elt_of2 (by kernel_rfl) (by kernel_rfl), by decide⟩
theorem tin14 : (Try.prog.info? 14).map (fun i => (i.zero, i.size, i.bytes)) = some (some (.agg #[.string ⟨#[]⟩, .int .u64 0]), 2, 24) := by kernel_rfl
theorem tfd14_0 : FdT Try.prog 14 0 0 9 1 false := ⟨⟨_, Try.underlying14, _, rfl, rfl, rfl⟩, elt_of2 (by kernel_rfl) (by kernel_rfl), by decide⟩
theorem tfd14_1 : FdT Try.prog 14 1 1 12 1 false := ⟨⟨_, Try.underlying14, _, rfl, rfl, rfl⟩, elt_of2 (by kernel_rfl) (by kernel_rfl), by decide⟩
theorem tin15 : (Try.prog.info? 15).map (fun i => (i.zero, i.size, i.bytes)) = some (some (.pointer none), 1, 8) := by kernel_rfl
theorem tin16 : (Try.prog.info? 16).map (fun i => (i.zero, i.size, i.bytes)) = some (some (.pointer none), 1, 8) := by kernel_rfl
theorem tin17 : (Try.prog.info? 17).map (fun i => (i.zero, i.size, i.bytes)) = some (some (.pointer none), 1, 8) := by kernel_rfl
theorem tin18 : (Try.prog.info? 18).map (fun i => (i.zero, i.size, i.bytes)) = some (some (.agg #[.pointer none]), 1, 8) := by kernel_rfl
theorem tfd18_0 : FdT Try.prog 18 0 0 17 1 false := ⟨⟨_, Try.underlying18, _, rfl, rfl, rfl⟩, elt_of2 (by kernel_rfl) (by kernel_rfl), by decide⟩
theorem tin19 : (Try.prog.info? 19).map (fun i => (i.zero, i.size, i.bytes)) = some (some (.agg #[.pointer none]), 1, 8) := by kernel_rfl
theorem tfd19_0 : FdT Try.prog 19 0 0 17 1 false := ⟨⟨_, Try.underlying19, _, rfl, rfl, rfl⟩, elt_of2 (by kernel_rfl) (by kernel_rfl), by decide⟩
theorem tin21 : (Try.prog.info? 21).map (fun i => (i.zero, i.size, i.bytes)) = some (some (.int .i32 0), 1, 4) := by kernel_rfl
theorem tin22 : (Try.prog.info? 22).map (fun i => (i.zero, i.size, i.bytes)) = some (some (.slice none 0 0), 1, 24) := by kernel_rfl
theorem tel22 : (Try.prog.info? 3).map (fun i => (i.zero, i.size, i.bytes)) = some (some ((.int .i64 0)), 1, 8) := by kernel_rfl
theorem tin23 : (Try.prog.info? 23).map (fun i => (i.zero, i.size, i.bytes)) = some (some (.agg #[.int .i64 0, .slice none 0 0]), 2, 32) := by kernel_rfl
theorem tfd23_0 : FdT Try.prog 23 0 0 3 1 false := ⟨⟨_, Try.underlying23, _, rfl, rfl, rfl⟩, elt_of2 (by kernel_rfl) (by kernel_rfl), by decide⟩
theorem tfd23_1 : FdT Try.prog 23 1 1 22 1 false := ⟨⟨_, Try.underlying23, _, rfl, rfl, rfl⟩, elt_of2 (by kernel_rfl) (by kernel_rfl), by decide⟩
theorem tin24 : (Try.prog.info? 24).map (fun i => (i.zero, i.size, i.bytes)) = some (some (.agg #[.int .i64 0, .slice none 0 0]), 2, 32) := by kernel_rfl
theorem tfd24_0 : FdT Try.prog 24 0 0 3 1 false := ⟨⟨_, Try.underlying24, _, rfl, rfl, rfl⟩, elt_of2 (by kernel_rfl) (by kernel_rfl), by decide⟩
theorem tfd24_1 : FdT Try.prog 24 1 1 22 1 false := ⟨⟨_, Try.underlying24, _, rfl, rfl, rfl⟩, elt_of2 (by kernel_rfl) (by kernel_rfl), by decide⟩
theorem tin25 : (Try.prog.info? 25).map (fun i => (i.zero, i.size, i.bytes)) = some (some (.int .i64 0), 1, 8) := by kernel_rfl
theorem tin27 : (Try.prog.info? 27).map (fun i => (i.zero, i.size, i.bytes)) = some (some (.nilFunc), 1, 8) := by kernel_rfl
theorem tin28 : (Try.prog.info? 28).map (fun i => (i.zero, i.size, i.bytes)) = some (some (.nilFunc), 1, 8) := by kernel_rfl
theorem tin29 : (Try.prog.info? 29).map (fun i => (i.zero, i.size, i.bytes)) = some (some (.nilFunc), 1, 8) := by kernel_rfl
theorem tin30 : (Try.prog.info? 30).map (fun i => (i.zero, i.size, i.bytes)) = some (some (.map none), 1, 8) := by kernel_rfl
theorem tmk30 : ∃ q, Try.prog.underlying 3 = some (.int q) := ⟨_, Try.underlying3⟩
theorem tml30 : ∃ i, Try.prog.info? 3 = some i ∧ i.zero = some (.int .i64 0) := Option.map_eq_some_iff.1 (show (Try.prog.info? 3).map (fun i => i.zero) = some (some (.int .i64 0)) by kernel_rfl)
theorem tin31 : (Try.prog.info? 31).map (fun i => (i.zero, i.size, i.bytes)) = some (some (.map none), 1, 8) := by kernel_rfl
theorem tmk31 : ∃ q, Try.prog.underlying 3 = some (.int q) := ⟨_, Try.underlying3⟩
theorem tml31 : ∃ i, Try.prog.info? 3 = some i ∧ i.zero = some (.int .i64 0) := Option.map_eq_some_iff.1 (show (Try.prog.info? 3).map (fun i => i.zero) = some (some (.int .i64 0)) by kernel_rfl)
theorem tin32 : (Try.prog.info? 32).map (fun i => (i.zero, i.size, i.bytes)) = some (some (.nilFunc), 1, 8) := by kernel_rfl
theorem tin33 : (Try.prog.info? 33).map (fun i => (i.zero, i.size, i.bytes)) = some (some (.nilFunc), 1, 8) := by kernel_rfl
theorem tin34 : (Try.prog.info? 34).map (fun i => (i.zero, i.size, i.bytes)) = some (some (.nilFunc), 1, 8) := by kernel_rfl
theorem tin35 : (Try.prog.info? 35).map (fun i => (i.zero, i.size, i.bytes)) = some (some (.nilFunc), 1, 8) := by kernel_rfl
theorem tin36 : (Try.prog.info? 36).map (fun i => (i.zero, i.size, i.bytes)) = some (some (.nilFunc), 1, 8) := by kernel_rfl
theorem tin37 : (Try.prog.info? 37).map (fun i => (i.zero, i.size, i.bytes)) = some (some (.slice none 0 0), 1, 24) := by kernel_rfl
theorem tel37 : (Try.prog.info? 40).map (fun i => (i.zero, i.size, i.bytes)) = some (some (.agg #[.int .i64 0, .int .i64 0, .int .i64 0]), 3, 24) := by kernel_rfl
theorem tin38 : (Try.prog.info? 38).map (fun i => (i.zero, i.size, i.bytes)) = some (some (.nilFunc), 1, 8) := by kernel_rfl
theorem tin39 : (Try.prog.info? 39).map (fun i => (i.zero, i.size, i.bytes)) = some (some (.nilFunc), 1, 8) := by kernel_rfl
theorem tin40 : (Try.prog.info? 40).map (fun i => (i.zero, i.size, i.bytes)) = some (some (.agg #[.int .i64 0, .int .i64 0, .int .i64 0]), 3, 24) := by kernel_rfl
theorem tin42 : (Try.prog.info? 42).map (fun i => (i.zero, i.size, i.bytes)) = some (some (.nilFunc), 1, 8) := by kernel_rfl
theorem tin43 : (Try.prog.info? 43).map (fun i => (i.zero, i.size, i.bytes)) = some (some (.agg #[.int .i64 0, .int .i64 0, .int .i64 0]), 3, 24) := by kernel_rfl
theorem tfd43_0 : FdT Try.prog 43 0 0 3 1 false := ⟨⟨_, Try.underlying43, _, rfl, rfl, rfl⟩, elt_of2 (by kernel_rfl) (by kernel_rfl), by decide⟩
theorem tfd43_1 : FdT Try.prog 43 1 1 3 1 false := ⟨⟨_, Try.underlying43, _, rfl, rfl, rfl⟩, elt_of2 (by kernel_rfl) (by kernel_rfl), by decide⟩
theorem tfd43_2 : FdT Try.prog 43 2 2 3 1 false := ⟨⟨_, Try.underlying43, _, rfl, rfl, rfl⟩, elt_of2 (by kernel_rfl) (by kernel_rfl), by decide⟩
theorem tin44 : (Try.prog.info? 44).map (fun i => (i.zero, i.size, i.bytes)) = some (some (.agg #[.int .i64 0, .int .i64 0, .int .i64 0]), 3, 24) := by kernel_rfl
theorem tfd44_0 : FdT Try.prog 44 0 0 3 1 false := ⟨⟨_, Try.underlying44, _, rfl, rfl, rfl⟩, elt_of2 (by kernel_rfl) (by kernel_rfl), by decide⟩
theorem tfd44_1 : FdT Try.prog 44 1 1 3 1 false := ⟨⟨_, Try.underlying44, _, rfl, rfl, rfl⟩, elt_of2 (by kernel_rfl) (by kernel_rfl), by decide⟩
theorem tfd44_2 : FdT Try.prog 44 2 2 3 1 false := ⟨⟨_, Try.underlying44, _, rfl, rfl, rfl⟩, elt_of2 (by kernel_rfl) (by kernel_rfl), by decide⟩
theorem tin45 : (Try.prog.info? 45).map (fun i => (i.zero, i.size, i.bytes)) = some (some (.nilFunc), 1, 8) := by kernel_rfl
theorem tin47 : (Try.prog.info? 47).map (fun i => (i.zero, i.size, i.bytes)) = some (some (.nilFunc), 1, 8) := by kernel_rfl
theorem tin48 : (Try.prog.info? 48).map (fun i => (i.zero, i.size, i.bytes)) = some (some (.slice none 0 0), 1, 24) := by kernel_rfl
theorem tel48 : (Try.prog.info? 22).map (fun i => (i.zero, i.size, i.bytes)) = some (some ((.slice none 0 0)), 1, 24) := by kernel_rfl
theorem tin50 : (Try.prog.info? 50).map (fun i => (i.zero, i.size, i.bytes)) = some (some (.nilFunc), 1, 8) := by kernel_rfl
theorem tin51 : (Try.prog.info? 51).map (fun i => (i.zero, i.size, i.bytes)) = some (some (.nilFunc), 1, 8) := by kernel_rfl
theorem tin52 : (Try.prog.info? 52).map (fun i => (i.zero, i.size, i.bytes)) = some (some (.nilFunc), 1, 8) := by kernel_rfl
theorem tin53 : (Try.prog.info? 53).map (fun i => (i.zero, i.size, i.bytes)) = some (some (.nilFunc), 1, 8) := by kernel_rfl
theorem tin54 : (Try.prog.info? 54).map (fun i => (i.zero, i.size, i.bytes)) = some (some (.nilFunc), 1, 8) := by kernel_rfl
theorem tin55 : (Try.prog.info? 55).map (fun i => (i.zero, i.size, i.bytes)) = some (some (.nilFunc), 1, 8) := by kernel_rfl
theorem tin56 : (Try.prog.info? 56).map (fun i => (i.zero, i.size, i.bytes)) = some (some (.nilFunc), 1, 8) := by kernel_rfl
theorem tin57 : (Try.prog.info? 57).map (fun i => (i.zero, i.size, i.bytes)) = some (some (.nilFunc), 1, 8) := by kernel_rfl
theorem tin58 : (Try.prog.info? 58).map (fun i => (i.zero, i.size, i.bytes)) = some (some (.nilFunc), 1, 8) := by kernel_rfl
theorem tin59 : (Try.prog.info? 59).map (fun i => (i.zero, i.size, i.bytes)) = some (some (.nilFunc), 1, 8) := by kernel_rfl
theorem tin61 : (Try.prog.info? 61).map (fun i => (i.zero, i.size, i.bytes)) = some (some (.nilFunc), 1, 8) := by kernel_rfl
theorem tin62 : (Try.prog.info? 62).map (fun i => (i.zero, i.size, i.bytes)) = some (some (.nilFunc), 1, 8) := by kernel_rfl
theorem tin63 : (Try.prog.info? 63).map (fun i => (i.zero, i.size, i.bytes)) = some (some (.nilFunc), 1, 8) := by kernel_rfl
theorem tin64 : (Try.prog.info? 64).map (fun i => (i.zero, i.size, i.bytes)) = some (some (.nilFunc), 1, 8) := by kernel_rfl
theorem tin65 : (Try.prog.info? 65).map (fun i => (i.zero, i.size, i.bytes)) = some (some (.slice none 0 0), 1, 24) := by kernel_rfl
theorem tel65 : (Try.prog.info? 67).map (fun i => (i.zero, i.size, i.bytes)) = some (some ((.slice none 0 0)), 1, 24) := by kernel_rfl
theorem tin66 : (Try.prog.info? 66).map (fun i => (i.zero, i.size, i.bytes)) = some (some (.nilFunc), 1, 8) := by kernel_rfl
theorem tin67 : (Try.prog.info? 67).map (fun i => (i.zero, i.size, i.bytes)) = some (some (.slice none 0 0), 1, 24) := by kernel_rfl
theorem tel67 : (Try.prog.info? 24).map (fun i => (i.zero, i.size, i.bytes)) = some (some (.agg #[.int .i64 0, .slice none 0 0]), 2, 32) := by kernel_rfl
theorem tin68 : (Try.prog.info? 68).map (fun i => (i.zero, i.size, i.bytes)) = some (some (.nilFunc), 1, 8) := by kernel_rfl
theorem tin69 : (Try.prog.info? 69).map (fun i => (i.zero, i.size, i.bytes)) = some (some (.nilFunc), 1, 8) := by kernel_rfl
theorem tin70 : (Try.prog.info? 70).map (fun i => (i.zero, i.size, i.bytes)) = some (some (.nilFunc), 1, 8) := by kernel_rfl
theorem tin71 : (Try.prog.info? 71).map (fun i => (i.zero, i.size, i.bytes)) = some (some (.nilFunc), 1, 8) := by kernel_rfl
theorem tin72 : (Try.prog.info? 72).map (fun i => (i.zero, i.size, i.bytes)) = some (some (.nilFunc), 1, 8) := by kernel_rfl
theorem tin73 : (Try.prog.info? 73).map (fun i => (i.zero, i.size, i.bytes)) = some (some (.nilFunc), 1, 8) := by kernel_rfl
theorem tin74 : (Try.prog.info? 74).map (fun i => (i.zero, i.size, i.bytes)) = some (some (.nilFunc), 1, 8) := by kernel_rfl
theorem tin75 : (Try.prog.info? 75).map (fun i => (i.zero, i.size, i.bytes)) = some (some (.nilFunc), 1, 8) := by kernel_rfl
theorem tin76 : (Try.prog.info? 76).map (fun i => (i.zero, i.size, i.bytes)) = some (some (.nilFunc), 1, 8) := by kernel_rfl
theorem tin77 : (Try.prog.info? 77).map (fun i => (i.zero, i.size, i.bytes)) = some (some (.agg #[.int .i64 0, .int .i64 0, .int .i64 0, .int .i64 0, .int .i64 0, .int .i64 0, .int .i64 0, .int .i64 0, .int .i64 0, .int .i64 0, .int .i64 0, .int .i64 0]), 12, 96) := by kernel_rfl
theorem tin78 : (Try.prog.info? 78).map (fun i => (i.zero, i.size, i.bytes)) = some (some (.agg #[.int .i64 0, .int .i64 0, .int .i64 0, .int .i64 0, .int .i64 0, .int .i64 0, .int .i64 0, .int .i64 0, .int .i64 0, .int .i64 0, .int .i64 0, .int .i64 0]), 12, 96) := by kernel_rfl
theorem tin79 : (Try.prog.info? 79).map (fun i => (i.zero, i.size, i.bytes)) = some (some (.nilFunc), 1, 8) := by kernel_rfl
theorem tin80 : (Try.prog.info? 80).map (fun i => (i.zero, i.size, i.bytes)) = some (some (.map none), 1, 8) := by kernel_rfl
theorem tme80 : ∃ i, Try.prog.info? 3 = some i ∧ i.size = 1 := Option.map_eq_some_iff.1 (show (Try.prog.info? 3).map (fun i => i.size) = some 1 by kernel_rfl)
theorem tml80 : ∃ i, Try.prog.info? 24 = some i ∧ i.zero = some (.agg #[.int .i64 0, .slice none 0 0]) := Option.map_eq_some_iff.1 (show (Try.prog.info? 24).map (fun i => i.zero) = some (some (.agg #[.int .i64 0, .slice none 0 0])) by kernel_rfl)
theorem tin81 : (Try.prog.info? 81).map (fun i => (i.zero, i.size, i.bytes)) = some (some (.nilFunc), 1, 8) := by kernel_rfl
theorem tin82 : (Try.prog.info? 82).map (fun i => (i.zero, i.size, i.bytes)) = some (some (.nilFunc), 1, 8) := by kernel_rfl
theorem tin83 : (Try.prog.info? 83).map (fun i => (i.zero, i.size, i.bytes)) = some (some (.slice none 0 0), 1, 24) := by kernel_rfl
theorem tel83 : (Try.prog.info? 3).map (fun i => (i.zero, i.size, i.bytes)) = some (some ((.int .i64 0)), 1, 8) := by kernel_rfl
theorem tin84 : (Try.prog.info? 84).map (fun i => (i.zero, i.size, i.bytes)) = some (some (.nilFunc), 1, 8) := by kernel_rfl
theorem tin85 : (Try.prog.info? 85).map (fun i => (i.zero, i.size, i.bytes)) = some (some (.nilFunc), 1, 8) := by kernel_rfl
theorem tin86 : (Try.prog.info? 86).map (fun i => (i.zero, i.size, i.bytes)) = some (some (.map none), 1, 8) := by kernel_rfl
theorem tmk86 : ∃ q, Try.prog.underlying 3 = some (.int q) := ⟨_, Try.underlying3⟩
theorem tml86 : ∃ i, Try.prog.info? 4 = some i ∧ i.zero = some (.bool false) := Option.map_eq_some_iff.1 (show (Try.prog.info? 4).map (fun i => i.zero) = some (some (.bool false)) by kernel_rfl)
theorem tin87 : (Try.prog.info? 87).map (fun i => (i.zero, i.size, i.bytes)) = some (some (.nilFunc), 1, 8) := by kernel_rfl
theorem tin89 : (Try.prog.info? 89).map (fun i => (i.zero, i.size, i.bytes)) = some (some (.nilFunc), 1, 8) := by kernel_rfl
theorem tin90 : (Try.prog.info? 90).map (fun i => (i.zero, i.size, i.bytes)) = some (some (.agg #[.int .i64 0, .slice none 0 0, .int .i64 0, .slice none 0 0]), 4, 64) := by kernel_rfl
theorem tin91 : (Try.prog.info? 91).map (fun i => (i.zero, i.size, i.bytes)) = some (some (.agg #[.int .i64 0, .slice none 0 0, .int .i64 0, .slice none 0 0, .int .i64 0, .slice none 0 0, .int .i64 0, .slice none 0 0]), 8, 128) := by kernel_rfl
theorem tin92 : (Try.prog.info? 92).map (fun i => (i.zero, i.size, i.bytes)) = some (some (.nilFunc), 1, 8) := by kernel_rfl
theorem tin93 : (Try.prog.info? 93).map (fun i => (i.zero, i.size, i.bytes)) = some (some (.nilFunc), 1, 8) := by kernel_rfl
theorem tin94 : (Try.prog.info? 94).map (fun i => (i.zero, i.size, i.bytes)) = some (some (.nilFunc), 1, 8) := by kernel_rfl
theorem tin95 : (Try.prog.info? 95).map (fun i => (i.zero, i.size, i.bytes)) = some (some (.nilFunc), 1, 8) := by kernel_rfl
theorem tin96 : (Try.prog.info? 96).map (fun i => (i.zero, i.size, i.bytes)) = some (some (.nilFunc), 1, 8) := by kernel_rfl
theorem tin97 : (Try.prog.info? 97).map (fun i => (i.zero, i.size, i.bytes)) = some (some (.slice none 0 0), 1, 24) := by kernel_rfl
theorem tel97 : (Try.prog.info? 4).map (fun i => (i.zero, i.size, i.bytes)) = some (some ((.bool false)), 1, 1) := by kernel_rfl
theorem tin98 : (Try.prog.info? 98).map (fun i => (i.zero, i.size, i.bytes)) = some (some (.nilFunc), 1, 8) := by kernel_rfl
theorem tin99 : (Try.prog.info? 99).map (fun i => (i.zero, i.size, i.bytes)) = some (some (.nilFunc), 1, 8) := by kernel_rfl
theorem tin100 : (Try.prog.info? 100).map (fun i => (i.zero, i.size, i.bytes)) = some (some (.nilFunc), 1, 8) := by kernel_rfl
theorem tin101 : (Try.prog.info? 101).map (fun i => (i.zero, i.size, i.bytes)) = some (some (.pointer none), 1, 8) := by kernel_rfl
theorem tin102 : (Try.prog.info? 102).map (fun i => (i.zero, i.size, i.bytes)) = some (some (.nilFunc), 1, 8) := by kernel_rfl
theorem tin103 : (Try.prog.info? 103).map (fun i => (i.zero, i.size, i.bytes)) = some (some (.agg #[.slice none 0 0]), 1, 24) := by kernel_rfl
theorem tfd103_0 : FdT Try.prog 103 0 0 48 1 false := ⟨⟨_, Try.underlying103, _, rfl, rfl, rfl⟩, elt_of2 (by kernel_rfl) (by kernel_rfl), by decide⟩
theorem tin104 : (Try.prog.info? 104).map (fun i => (i.zero, i.size, i.bytes)) = some (some (.agg #[.slice none 0 0]), 1, 24) := by kernel_rfl
theorem tfd104_0 : FdT Try.prog 104 0 0 48 1 false := ⟨⟨_, Try.underlying104, _, rfl, rfl, rfl⟩, elt_of2 (by kernel_rfl) (by kernel_rfl), by decide⟩
theorem tin105 : (Try.prog.info? 105).map (fun i => (i.zero, i.size, i.bytes)) = some (some (.nilFunc), 1, 8) := by kernel_rfl
theorem tin106 : (Try.prog.info? 106).map (fun i => (i.zero, i.size, i.bytes)) = some (some (.nilFunc), 1, 8) := by kernel_rfl
theorem tin108 : (Try.prog.info? 108).map (fun i => (i.zero, i.size, i.bytes)) = some (some (.nilFunc), 1, 8) := by kernel_rfl
theorem tin109 : (Try.prog.info? 109).map (fun i => (i.zero, i.size, i.bytes)) = some (some (.nilFunc), 1, 8) := by kernel_rfl
theorem tin110 : (Try.prog.info? 110).map (fun i => (i.zero, i.size, i.bytes)) = some (some (.nilFunc), 1, 8) := by kernel_rfl
theorem tin111 : (Try.prog.info? 111).map (fun i => (i.zero, i.size, i.bytes)) = some (some (.nilFunc), 1, 8) := by kernel_rfl
theorem tin112 : (Try.prog.info? 112).map (fun i => (i.zero, i.size, i.bytes)) = some (some (.nilFunc), 1, 8) := by kernel_rfl
theorem tin113 : (Try.prog.info? 113).map (fun i => (i.zero, i.size, i.bytes)) = some (some (.int .u64 0), 1, 8) := by kernel_rfl
theorem tin114 : (Try.prog.info? 114).map (fun i => (i.zero, i.size, i.bytes)) = some (some (.nilFunc), 1, 8) := by kernel_rfl
theorem tin115 : (Try.prog.info? 115).map (fun i => (i.zero, i.size, i.bytes)) = some (some (.nilFunc), 1, 8) := by kernel_rfl
theorem tin116 : (Try.prog.info? 116).map (fun i => (i.zero, i.size, i.bytes)) = some (some (.nilFunc), 1, 8) := by kernel_rfl
theorem tin117 : (Try.prog.info? 117).map (fun i => (i.zero, i.size, i.bytes)) = some (some (.int .i64 0), 1, 8) := by kernel_rfl
theorem tin119 : (Try.prog.info? 119).map (fun i => (i.zero, i.size, i.bytes)) = some (some (.nilFunc), 1, 8) := by kernel_rfl
theorem tin120 : (Try.prog.info? 120).map (fun i => (i.zero, i.size, i.bytes)) = some (some (.nilFunc), 1, 8) := by kernel_rfl
theorem tin121 : (Try.prog.info? 121).map (fun i => (i.zero, i.size, i.bytes)) = some (some (.nilFunc), 1, 8) := by kernel_rfl
theorem tin123 : (Try.prog.info? 123).map (fun i => (i.zero, i.size, i.bytes)) = some (some (.nilFunc), 1, 8) := by kernel_rfl
theorem tin124 : (Try.prog.info? 124).map (fun i => (i.zero, i.size, i.bytes)) = some (some (.nilFunc), 1, 8) := by kernel_rfl
theorem tin125 : (Try.prog.info? 125).map (fun i => (i.zero, i.size, i.bytes)) = some (some (.int .u32 0), 1, 4) := by kernel_rfl
theorem tin126 : (Try.prog.info? 126).map (fun i => (i.zero, i.size, i.bytes)) = some (some (.nilFunc), 1, 8) := by kernel_rfl
theorem tin127 : (Try.prog.info? 127).map (fun i => (i.zero, i.size, i.bytes)) = some (some (.int .u64 0), 1, 8) := by kernel_rfl
theorem tin128 : (Try.prog.info? 128).map (fun i => (i.zero, i.size, i.bytes)) = some (some (.int .u64 0), 1, 8) := by kernel_rfl
theorem tin129 : (Try.prog.info? 129).map (fun i => (i.zero, i.size, i.bytes)) = some (some (.nilFunc), 1, 8) := by kernel_rfl
theorem tin130 : (Try.prog.info? 130).map (fun i => (i.zero, i.size, i.bytes)) = some (some (.nilFunc), 1, 8) := by kernel_rfl
theorem tin131 : (Try.prog.info? 131).map (fun i => (i.zero, i.size, i.bytes)) = some (some (.nilFunc), 1, 8) := by kernel_rfl
theorem tin132 : (Try.prog.info? 132).map (fun i => (i.zero, i.size, i.bytes)) = some (some (.pointer none), 1, 8) := by kernel_rfl
theorem tin133 : (Try.prog.info? 133).map (fun i => (i.zero, i.size, i.bytes)) = some (some (.nilFunc), 1, 8) := by kernel_rfl
theorem tin134 : (Try.prog.info? 134).map (fun i => (i.zero, i.size, i.bytes)) = some (some (.pointer none), 1, 8) := by kernel_rfl
theorem tin136 : (Try.prog.info? 136).map (fun i => (i.zero, i.size, i.bytes)) = some (some (.nilFunc), 1, 8) := by kernel_rfl
def TT : TypeId → TI
  | 1 => .one (.nilFunc)
  | 2 => .one (.int .i64 0)
  | 3 => .one (.int .i64 0)
  | 4 => .bool
  | 5 => .one (.int .u8 0)
  | 6 => .one (.int .u8 0)
  | 7 => .st 4 [.int .i64 0, .int .i64 0, .bool false, .int .u8 0] [(0, 1, false), (1, 1, false), (2, 1, false), (3, 1, false)]
  | 8 => .st 4 [.int .i64 0, .int .i64 0, .bool false, .int .u8 0] [(0, 1, false), (1, 1, false), (2, 1, false), (3, 1, false)]
  | 9 => .one (.string ⟨#[]⟩)
  | 10 => .one (.string ⟨#[]⟩)
  | 11 => .one (.string ⟨#[]⟩)
  | 12 => .one (.int .u64 0)
  | 13 => .st 2 [.string ⟨#[]⟩, .int .u64 0] [(0, 1, false), (1, 1, false)]
  | 14 => .st 2 [.string ⟨#[]⟩, .int .u64 0] [(0, 1, false), (1, 1, false)]
  | 15 => .one (.pointer none)
  | 16 => .one (.pointer none)
  | 17 => .one (.pointer none)
  | 18 => .st 1 [.pointer none] [(0, 1, false)]
  | 19 => .st 1 [.pointer none] [(0, 1, false)]
  | 21 => .one (.int .i32 0)
  | 22 => .sl 3 1 8 [.int .i64 0]
  | 23 => .st 2 [.int .i64 0, .slice none 0 0] [(0, 1, false), (1, 1, false)]
  | 24 => .st 2 [.int .i64 0, .slice none 0 0] [(0, 1, false), (1, 1, false)]
  | 25 => .one (.int .i64 0)
  | 27 => .one (.nilFunc)
  | 28 => .one (.nilFunc)
  | 29 => .one (.nilFunc)
  | 30 => .mp (.int .i64 0)
  | 31 => .mp (.int .i64 0)
  | 32 => .one (.nilFunc)
  | 33 => .one (.nilFunc)
  | 34 => .one (.nilFunc)
  | 35 => .one (.nilFunc)
  | 36 => .one (.nilFunc)
  | 37 => .sl 40 3 24 [.int .i64 0, .int .i64 0, .int .i64 0]
  | 38 => .one (.nilFunc)
  | 39 => .one (.nilFunc)
  | 40 => .ar 3 3 1 3 [.int .i64 0, .int .i64 0, .int .i64 0]
  | 42 => .one (.nilFunc)
  | 43 => .st 3 [.int .i64 0, .int .i64 0, .int .i64 0] [(0, 1, false), (1, 1, false), (2, 1, false)]
  | 44 => .st 3 [.int .i64 0, .int .i64 0, .int .i64 0] [(0, 1, false), (1, 1, false), (2, 1, false)]
  | 45 => .one (.nilFunc)
  | 47 => .one (.nilFunc)
  | 48 => .sl 22 1 24 [.slice none 0 0]
  | 50 => .one (.nilFunc)
  | 51 => .one (.nilFunc)
  | 52 => .one (.nilFunc)
  | 53 => .one (.nilFunc)
  | 54 => .one (.nilFunc)
  | 55 => .one (.nilFunc)
  | 56 => .one (.nilFunc)
  | 57 => .one (.nilFunc)
  | 58 => .one (.nilFunc)
  | 59 => .one (.nilFunc)
  | 61 => .one (.nilFunc)
  | 62 => .one (.nilFunc)
  | 63 => .one (.nilFunc)
  | 64 => .one (.nilFunc)
  | 65 => .sl 67 1 24 [.slice none 0 0]
  | 66 => .one (.nilFunc)
  | 67 => .sl 24 2 32 [.int .i64 0, .slice none 0 0]
  | 68 => .one (.nilFunc)
  | 69 => .one (.nilFunc)
  | 70 => .one (.nilFunc)
  | 71 => .one (.nilFunc)
  | 72 => .one (.nilFunc)
  | 73 => .one (.nilFunc)
  | 74 => .one (.nilFunc)
  | 75 => .one (.nilFunc)
  | 76 => .one (.nilFunc)
  | 77 => .ar 12 3 1 12 [.int .i64 0, .int .i64 0, .int .i64 0, .int .i64 0, .int .i64 0, .int .i64 0, .int .i64 0, .int .i64 0, .int .i64 0, .int .i64 0, .int .i64 0, .int .i64 0]
  | 78 => .ar 12 3 1 12 [.int .i64 0, .int .i64 0, .int .i64 0, .int .i64 0, .int .i64 0, .int .i64 0, .int .i64 0, .int .i64 0, .int .i64 0, .int .i64 0, .int .i64 0, .int .i64 0]
  | 79 => .one (.nilFunc)
  | 80 => .gm (.arr 12) (.agg [.sc (.int .i64 0), .lst true 0 0 []])
  | 81 => .one (.nilFunc)
  | 82 => .one (.nilFunc)
  | 83 => .sl 3 1 8 [.int .i64 0]
  | 84 => .one (.nilFunc)
  | 85 => .one (.nilFunc)
  | 86 => .mp (.bool false)
  | 87 => .one (.nilFunc)
  | 89 => .one (.nilFunc)
  | 90 => .ar 2 24 2 4 [.int .i64 0, .slice none 0 0, .int .i64 0, .slice none 0 0]
  | 91 => .ar 2 90 4 8 [.int .i64 0, .slice none 0 0, .int .i64 0, .slice none 0 0, .int .i64 0, .slice none 0 0, .int .i64 0, .slice none 0 0]
  | 92 => .one (.nilFunc)
  | 93 => .one (.nilFunc)
  | 94 => .one (.nilFunc)
  | 95 => .one (.nilFunc)
  | 96 => .one (.nilFunc)
  | 97 => .sl 4 1 1 [.bool false]
  | 98 => .one (.nilFunc)
  | 99 => .one (.nilFunc)
  | 100 => .one (.nilFunc)
  | 101 => .one (.pointer none)
  | 102 => .one (.nilFunc)
  | 103 => .st 1 [.slice none 0 0] [(0, 1, false)]
  | 104 => .st 1 [.slice none 0 0] [(0, 1, false)]
  | 105 => .one (.nilFunc)
  | 106 => .one (.nilFunc)
  | 108 => .one (.nilFunc)
  | 109 => .one (.nilFunc)
  | 110 => .one (.nilFunc)
  | 111 => .one (.nilFunc)
  | 112 => .one (.nilFunc)
  | 113 => .one (.int .u64 0)
  | 114 => .one (.nilFunc)
  | 115 => .one (.nilFunc)
  | 116 => .one (.nilFunc)
  | 117 => .one (.int .i64 0)
  | 119 => .one (.nilFunc)
  | 120 => .one (.nilFunc)
  | 121 => .one (.nilFunc)
  | 123 => .one (.nilFunc)
  | 124 => .one (.nilFunc)
  | 125 => .one (.int .u32 0)
  | 126 => .one (.nilFunc)
  | 127 => .one (.int .u64 0)
  | 128 => .one (.int .u64 0)
  | 129 => .one (.nilFunc)
  | 130 => .one (.nilFunc)
  | 131 => .one (.nilFunc)
  | 132 => .one (.pointer none)
  | 133 => .one (.nilFunc)
  | 134 => .one (.pointer none)
  | 136 => .one (.nilFunc)
  | _ => .oth
theorem tok : TOk Try.prog TT := by
  intro t
  unfold TT
  split
  · exact ⟨elt_of Try.underlying1 rfl tin1, zrt_of tin1 rfl⟩
  · exact ⟨elt_of Try.underlying2 rfl tin2, zrt_of tin2 rfl⟩
  · exact ⟨elt_of Try.underlying3 rfl tin3, zrt_of tin3 rfl⟩
  · exact ⟨elt_of Try.underlying4 rfl tin4, zrt_of tin4 rfl, Try.underlying4⟩
  · exact ⟨elt_of Try.underlying5 rfl tin5, zrt_of tin5 rfl⟩
  · exact ⟨elt_of Try.underlying6 rfl tin6, zrt_of tin6 rfl⟩
  · exact ⟨elt_of Try.underlying7 rfl tin7, zrt_of tin7 rfl, (fun f x hx => by match f, hx with | 0, hx => (cases hx; exact ⟨_, tfd7_0⟩) | 1, hx => (cases hx; exact ⟨_, tfd7_1⟩) | 2, hx => (cases hx; exact ⟨_, tfd7_2⟩) | 3, hx => (cases hx; exact ⟨_, tfd7_3⟩) | f + 4, hx => (simp at hx)), bdt_of Try.underlying7 tin7 rfl rfl (by kernel_rfl)⟩
  · exact ⟨elt_of Try.underlying8 rfl tin8, zrt_of tin8 rfl, (fun f x hx => by match f, hx with | 0, hx => (cases hx; exact ⟨_, tfd8_0⟩) | 1, hx => (cases hx; exact ⟨_, tfd8_1⟩) | 2, hx => (cases hx; exact ⟨_, tfd8_2⟩) | 3, hx => (cases hx; exact ⟨_, tfd8_3⟩) | f + 4, hx => (simp at hx)), bdt_of Try.underlying8 tin8 rfl rfl (by kernel_rfl)⟩
  · exact ⟨elt_of Try.underlying9 rfl tin9, zrt_of tin9 rfl⟩
  · exact ⟨elt_of Try.underlying10 rfl tin10, zrt_of tin10 rfl⟩
  · exact ⟨elt_of Try.underlying11 rfl tin11, zrt_of tin11 rfl⟩
  · exact ⟨elt_of Try.underlying12 rfl tin12, zrt_of tin12 rfl⟩
  · exact ⟨elt_of Try.underlying13 rfl tin13, zrt_of tin13 rfl, (fun f x hx => by match f, hx with | 0, hx => (cases hx; exact ⟨_, tfd13_0⟩) | 1, hx => (cases hx; exact ⟨_, tfd13_1⟩) | f + 2, hx => (simp at hx)), bdt_of Try.underlying13 tin13 rfl rfl (by kernel_rfl)⟩
  · exact ⟨elt_of Try.underlying14 rfl tin14, zrt_of tin14 rfl, (fun f x hx => by match f, hx with | 0, hx => (cases hx; exact ⟨_, tfd14_0⟩) | 1, hx => (cases hx; exact ⟨_, tfd14_1⟩) | f + 2, hx => (simp at hx)), bdt_of Try.underlying14 tin14 rfl rfl (by kernel_rfl)⟩
  · exact ⟨elt_of Try.underlying15 rfl tin15, zrt_of tin15 rfl⟩
  · exact ⟨elt_of Try.underlying16 rfl tin16, zrt_of tin16 rfl⟩
  · exact ⟨elt_of Try.underlying17 rfl tin17, zrt_of tin17 rfl⟩
  · exact ⟨elt_of Try.underlying18 rfl tin18, zrt_of tin18 rfl, (fun f x hx => by match f, hx with | 0, hx => (cases hx; exact ⟨_, tfd18_0⟩) | f + 1, hx => (simp at hx)), bdt_of Try.underlying18 tin18 rfl rfl (by kernel_rfl)⟩
  · exact ⟨elt_of Try.underlying19 rfl tin19, zrt_of tin19 rfl, (fun f x hx => by match f, hx with | 0, hx => (cases hx; exact ⟨_, tfd19_0⟩) | f + 1, hx => (simp at hx)), bdt_of Try.underlying19 tin19 rfl rfl (by kernel_rfl)⟩
  · exact ⟨elt_of Try.underlying21 rfl tin21, zrt_of tin21 rfl⟩
  · exact ⟨elt_of Try.underlying22 rfl tin22, zrt_of tin22 rfl, slt_of Try.underlying22 tel22 rfl rfl (by decide)⟩
  · exact ⟨elt_of Try.underlying23 rfl tin23, zrt_of tin23 rfl, (fun f x hx => by match f, hx with | 0, hx => (cases hx; exact ⟨_, tfd23_0⟩) | 1, hx => (cases hx; exact ⟨_, tfd23_1⟩) | f + 2, hx => (simp at hx)), bdt_of Try.underlying23 tin23 rfl rfl (by kernel_rfl)⟩
  · exact ⟨elt_of Try.underlying24 rfl tin24, zrt_of tin24 rfl, (fun f x hx => by match f, hx with | 0, hx => (cases hx; exact ⟨_, tfd24_0⟩) | 1, hx => (cases hx; exact ⟨_, tfd24_1⟩) | f + 2, hx => (simp at hx)), bdt_of Try.underlying24 tin24 rfl rfl (by kernel_rfl)⟩
  · exact ⟨elt_of Try.underlying25 rfl tin25, zrt_of tin25 rfl⟩
  · exact ⟨elt_of Try.underlying27 rfl tin27, zrt_of tin27 rfl⟩
  · exact ⟨elt_of Try.underlying28 rfl tin28, zrt_of tin28 rfl⟩
  · exact ⟨elt_of Try.underlying29 rfl tin29, zrt_of tin29 rfl⟩
  · exact ⟨elt_of Try.underlying30 rfl tin30, zrt_of tin30 rfl, ⟨_, _, _, Try.underlying30, tmk30.choose_spec, tml30⟩⟩
  · exact ⟨elt_of Try.underlying31 rfl tin31, zrt_of tin31 rfl, ⟨_, _, _, Try.underlying31, tmk31.choose_spec, tml31⟩⟩
  · exact ⟨elt_of Try.underlying32 rfl tin32, zrt_of tin32 rfl⟩
  · exact ⟨elt_of Try.underlying33 rfl tin33, zrt_of tin33 rfl⟩
  · exact ⟨elt_of Try.underlying34 rfl tin34, zrt_of tin34 rfl⟩
  · exact ⟨elt_of Try.underlying35 rfl tin35, zrt_of tin35 rfl⟩
  · exact ⟨elt_of Try.underlying36 rfl tin36, zrt_of tin36 rfl⟩
  · exact ⟨elt_of Try.underlying37 rfl tin37, zrt_of tin37 rfl, slt_of Try.underlying37 tel37 rfl rfl (by decide)⟩
  · exact ⟨elt_of Try.underlying38 rfl tin38, zrt_of tin38 rfl⟩
  · exact ⟨elt_of Try.underlying39 rfl tin39, zrt_of tin39 rfl⟩
  · exact ⟨elt_of Try.underlying40 rfl tin40, zrt_of tin40 rfl, art_of Try.underlying40 (by kernel_rfl), bda_of Try.underlying40 tin40 rfl (by kernel_rfl)⟩
  · exact ⟨elt_of Try.underlying42 rfl tin42, zrt_of tin42 rfl⟩
  · exact ⟨elt_of Try.underlying43 rfl tin43, zrt_of tin43 rfl, (fun f x hx => by match f, hx with | 0, hx => (cases hx; exact ⟨_, tfd43_0⟩) | 1, hx => (cases hx; exact ⟨_, tfd43_1⟩) | 2, hx => (cases hx; exact ⟨_, tfd43_2⟩) | f + 3, hx => (simp at hx)), bdt_of Try.underlying43 tin43 rfl rfl (by kernel_rfl)⟩
  · exact ⟨elt_of Try.underlying44 rfl tin44, zrt_of tin44 rfl, (fun f x hx => by match f, hx with | 0, hx => (cases hx; exact ⟨_, tfd44_0⟩) | 1, hx => (cases hx; exact ⟨_, tfd44_1⟩) | 2, hx => (cases hx; exact ⟨_, tfd44_2⟩) | f + 3, hx => (simp at hx)), bdt_of Try.underlying44 tin44 rfl rfl (by kernel_rfl)⟩
  · exact ⟨elt_of Try.underlying45 rfl tin45, zrt_of tin45 rfl⟩
  · exact ⟨elt_of Try.underlying47 rfl tin47, zrt_of tin47 rfl⟩
  · exact ⟨elt_of Try.underlying48 rfl tin48, zrt_of tin48 rfl, slt_of Try.underlying48 tel48 rfl rfl (by decide)⟩
  · exact ⟨elt_of Try.underlying50 rfl tin50, zrt_of tin50 rfl⟩
  · exact ⟨elt_of Try.underlying51 rfl tin51, zrt_of tin51 rfl⟩
  · exact ⟨elt_of Try.underlying52 rfl tin52, zrt_of tin52 rfl⟩
  · exact ⟨elt_of Try.underlying53 rfl tin53, zrt_of tin53 rfl⟩
  · exact ⟨elt_of Try.underlying54 rfl tin54, zrt_of tin54 rfl⟩
  · exact ⟨elt_of Try.underlying55 rfl tin55, zrt_of tin55 rfl⟩
  · exact ⟨elt_of Try.underlying56 rfl tin56, zrt_of tin56 rfl⟩
  · exact ⟨elt_of Try.underlying57 rfl tin57, zrt_of tin57 rfl⟩
  · exact ⟨elt_of Try.underlying58 rfl tin58, zrt_of tin58 rfl⟩
  · exact ⟨elt_of Try.underlying59 rfl tin59, zrt_of tin59 rfl⟩
  · exact ⟨elt_of Try.underlying61 rfl tin61, zrt_of tin61 rfl⟩
  · exact ⟨elt_of Try.underlying62 rfl tin62, zrt_of tin62 rfl⟩
  · exact ⟨elt_of Try.underlying63 rfl tin63, zrt_of tin63 rfl⟩
  · exact ⟨elt_of Try.underlying64 rfl tin64, zrt_of tin64 rfl⟩
  · exact ⟨elt_of Try.underlying65 rfl tin65, zrt_of tin65 rfl, slt_of Try.underlying65 tel65 rfl rfl (by decide)⟩
  · exact ⟨elt_of Try.underlying66 rfl tin66, zrt_of tin66 rfl⟩
  · exact ⟨elt_of Try.underlying67 rfl tin67, zrt_of tin67 rfl, slt_of Try.underlying67 tel67 rfl rfl (by decide)⟩
  · exact ⟨elt_of Try.underlying68 rfl tin68, zrt_of tin68 rfl⟩
  · exact ⟨elt_of Try.underlying69 rfl tin69, zrt_of tin69 rfl⟩
  · exact ⟨elt_of Try.underlying70 rfl tin70, zrt_of tin70 rfl⟩
  · exact ⟨elt_of Try.underlying71 rfl tin71, zrt_of tin71 rfl⟩
  · exact ⟨elt_of Try.underlying72 rfl tin72, zrt_of tin72 rfl⟩
  · exact ⟨elt_of Try.underlying73 rfl tin73, zrt_of tin73 rfl⟩
  · exact ⟨elt_of Try.underlying74 rfl tin74, zrt_of tin74 rfl⟩
  · exact ⟨elt_of Try.underlying75 rfl tin75, zrt_of tin75 rfl⟩
  · exact ⟨elt_of Try.underlying76 rfl tin76, zrt_of tin76 rfl⟩
  · exact ⟨elt_of Try.underlying77 rfl tin77, zrt_of tin77 rfl, art_of Try.underlying77 (by kernel_rfl), bda_of Try.underlying77 tin77 rfl (by kernel_rfl)⟩
  · exact ⟨elt_of Try.underlying78 rfl tin78, zrt_of tin78 rfl, art_of Try.underlying78 (by kernel_rfl), bda_of Try.underlying78 tin78 rfl (by kernel_rfl)⟩
  · exact ⟨elt_of Try.underlying79 rfl tin79, zrt_of tin79 rfl⟩
  · exact ⟨elt_of Try.underlying80 rfl tin80, zrt_of tin80 rfl, ⟨_, _, Try.underlying80, ⟨_, _, tme80.choose, Try.underlying78, Try.underlying3, tme80.choose_spec.1, tme80.choose_spec.2⟩, tml80.choose, _, tml80.choose_spec.1, tml80.choose_spec.2, rfl⟩⟩
  · exact ⟨elt_of Try.underlying81 rfl tin81, zrt_of tin81 rfl⟩
  · exact ⟨elt_of Try.underlying82 rfl tin82, zrt_of tin82 rfl⟩
  · exact ⟨elt_of Try.underlying83 rfl tin83, zrt_of tin83 rfl, slt_of Try.underlying83 tel83 rfl rfl (by decide)⟩
  · exact ⟨elt_of Try.underlying84 rfl tin84, zrt_of tin84 rfl⟩
  · exact ⟨elt_of Try.underlying85 rfl tin85, zrt_of tin85 rfl⟩
  · exact ⟨elt_of Try.underlying86 rfl tin86, zrt_of tin86 rfl, ⟨_, _, _, Try.underlying86, tmk86.choose_spec, tml86⟩⟩
  · exact ⟨elt_of Try.underlying87 rfl tin87, zrt_of tin87 rfl⟩
  · exact ⟨elt_of Try.underlying89 rfl tin89, zrt_of tin89 rfl⟩
  · exact ⟨elt_of Try.underlying90 rfl tin90, zrt_of tin90 rfl, art_of Try.underlying90 (by kernel_rfl), bda_of Try.underlying90 tin90 rfl (by kernel_rfl)⟩
  · exact ⟨elt_of Try.underlying91 rfl tin91, zrt_of tin91 rfl, art_of Try.underlying91 (by kernel_rfl), bda_of Try.underlying91 tin91 rfl (by kernel_rfl)⟩
  · exact ⟨elt_of Try.underlying92 rfl tin92, zrt_of tin92 rfl⟩
  · exact ⟨elt_of Try.underlying93 rfl tin93, zrt_of tin93 rfl⟩
  · exact ⟨elt_of Try.underlying94 rfl tin94, zrt_of tin94 rfl⟩
  · exact ⟨elt_of Try.underlying95 rfl tin95, zrt_of tin95 rfl⟩
  · exact ⟨elt_of Try.underlying96 rfl tin96, zrt_of tin96 rfl⟩
  · exact ⟨elt_of Try.underlying97 rfl tin97, zrt_of tin97 rfl, slt_of Try.underlying97 tel97 rfl rfl (by decide)⟩
  · exact ⟨elt_of Try.underlying98 rfl tin98, zrt_of tin98 rfl⟩
  · exact ⟨elt_of Try.underlying99 rfl tin99, zrt_of tin99 rfl⟩
  · exact ⟨elt_of Try.underlying100 rfl tin100, zrt_of tin100 rfl⟩
  · exact ⟨elt_of Try.underlying101 rfl tin101, zrt_of tin101 rfl⟩
  · exact ⟨elt_of Try.underlying102 rfl tin102, zrt_of tin102 rfl⟩
  · exact ⟨elt_of Try.underlying103 rfl tin103, zrt_of tin103 rfl, (fun f x hx => by match f, hx with | 0, hx => (cases hx; exact ⟨_, tfd103_0⟩) | f + 1, hx => (simp at hx)), bdt_of Try.underlying103 tin103 rfl rfl (by kernel_rfl)⟩
  · exact ⟨elt_of Try.underlying104 rfl tin104, zrt_of tin104 rfl, (fun f x hx => by match f, hx with | 0, hx => (cases hx; exact ⟨_, tfd104_0⟩) | f + 1, hx => (simp at hx)), bdt_of Try.underlying104 tin104 rfl rfl (by kernel_rfl)⟩
  · exact ⟨elt_of Try.underlying105 rfl tin105, zrt_of tin105 rfl⟩
  · exact ⟨elt_of Try.underlying106 rfl tin106, zrt_of tin106 rfl⟩
  · exact ⟨elt_of Try.underlying108 rfl tin108, zrt_of tin108 rfl⟩
  · exact ⟨elt_of Try.underlying109 rfl tin109, zrt_of tin109 rfl⟩
  · exact ⟨elt_of Try.underlying110 rfl tin110, zrt_of tin110 rfl⟩
  · exact ⟨elt_of Try.underlying111 rfl tin111, zrt_of tin111 rfl⟩
  · exact ⟨elt_of Try.underlying112 rfl tin112, zrt_of tin112 rfl⟩
  · exact ⟨elt_of Try.underlying113 rfl tin113, zrt_of tin113 rfl⟩
  · exact ⟨elt_of Try.underlying114 rfl tin114, zrt_of tin114 rfl⟩
  · exact ⟨elt_of Try.underlying115 rfl tin115, zrt_of tin115 rfl⟩
  · exact ⟨elt_of Try.underlying116 rfl tin116, zrt_of tin116 rfl⟩
  · exact ⟨elt_of Try.underlying117 rfl tin117, zrt_of tin117 rfl⟩
  · exact ⟨elt_of Try.underlying119 rfl tin119, zrt_of tin119 rfl⟩
  · exact ⟨elt_of Try.underlying120 rfl tin120, zrt_of tin120 rfl⟩
  · exact ⟨elt_of Try.underlying121 rfl tin121, zrt_of tin121 rfl⟩
  · exact ⟨elt_of Try.underlying123 rfl tin123, zrt_of tin123 rfl⟩
  · exact ⟨elt_of Try.underlying124 rfl tin124, zrt_of tin124 rfl⟩
  · exact ⟨elt_of Try.underlying125 rfl tin125, zrt_of tin125 rfl⟩
  · exact ⟨elt_of Try.underlying126 rfl tin126, zrt_of tin126 rfl⟩
  · exact ⟨elt_of Try.underlying127 rfl tin127, zrt_of tin127 rfl⟩
  · exact ⟨elt_of Try.underlying128 rfl tin128, zrt_of tin128 rfl⟩
  · exact ⟨elt_of Try.underlying129 rfl tin129, zrt_of tin129 rfl⟩
  · exact ⟨elt_of Try.underlying130 rfl tin130, zrt_of tin130 rfl⟩
  · exact ⟨elt_of Try.underlying131 rfl tin131, zrt_of tin131 rfl⟩
  · exact ⟨elt_of Try.underlying132 rfl tin132, zrt_of tin132 rfl⟩
  · exact ⟨elt_of Try.underlying133 rfl tin133, zrt_of tin133 rfl⟩
  · exact ⟨elt_of Try.underlying134 rfl tin134, zrt_of tin134 rfl⟩
  · exact ⟨elt_of Try.underlying136 rfl tin136, zrt_of tin136 rfl⟩
  · trivial
theorem mixed : Try.prog.follows .mixedOrders = true := by kernel_rfl
end Go.Proofs.Ytdlpbpfcgjgppaa
