/- The seat's types, as the abstract reading takes them. No condition of its own. -/
import Derived.Test.YthacglggkgmbhaaGGroupOrbitsAM
import Derived.Test.YthacglggkgmbhaaProg
namespace Go.Proofs.Ythacglggkgmbhaa
open Go.RowKit
variable {P : Program}
theorem info_of {t : TypeId} {z : Value} {sz bs : Nat} (h : (P.info? t).map (fun i => (i.zero, i.size, i.bytes)) = some (some z, sz, bs)) : ∃ i, P.info? t = some i ∧ i.zero = some z ∧ i.size = sz ∧ i.bytes = bs := by
  cases hi : P.info? t with
  | none => simp [hi] at h
  | some i => simp [hi] at h; exact ⟨i, rfl, h.1, h.2.1, h.2.2⟩
theorem elt_of {t : TypeId} {d : TypeDesc} {z : Value} {sz bs : Nat} {ag : Bool} (hu : P.underlying t = some d) (ha : isAggD d = ag) (h : (P.info? t).map (fun i => (i.zero, i.size, i.bytes)) = some (some z, sz, bs)) : ElT P t ag sz := by
  obtain ⟨i, h1, h2, h3, h4⟩ := info_of h
  exact ⟨⟨d, hu, ha⟩, ⟨i, h1, h3⟩⟩
theorem elt_of2 {t sz : Nat} {ag : Bool} (hu : (P.underlying t).map isAggD = some ag) (h : (P.info? t).map (·.size) = some sz) : ElT P t ag sz := by
  obtain ⟨d, h1, h2⟩ := Option.map_eq_some_iff.1 hu
  obtain ⟨i, h3, h4⟩ := Option.map_eq_some_iff.1 h
  exact ⟨⟨d, h1, h2⟩, ⟨i, h3, h4⟩⟩
theorem zrt_of {t : TypeId} {z : Value} {sz bs : Nat} {zc : List Value} (h : (P.info? t).map (fun i => (i.zero, i.size, i.bytes)) = some (some z, sz, bs)) (hz : z.cells.toList = zc) : ZrT P t zc := by
  obtain ⟨i, h1, h2, h3, h4⟩ := info_of h
  exact ⟨⟨i, z, h1, h2, hz⟩⟩
theorem slt_of {t el : TypeId} {z : Value} {sz bs : Nat} {zc : List Value} (hu : P.underlying t = some (.slice el)) (h : (P.info? el).map (fun i => (i.zero, i.size, i.bytes)) = some (some z, sz, bs)) (hz : z.cells.toList = zc) (hl : zc.length = sz) (hp : 0 < sz) : SlT P t el sz bs zc := by
  obtain ⟨i, h1, h2, h3, h4⟩ := info_of h
  exact ⟨hu, ⟨i, z, h1, h3, h4, h2, hz⟩, hl, hp⟩
theorem art_of {t len el sz : Nat} (hu : P.underlying t = some (.array len el)) (h : (P.info? el).map (·.size) = some sz) : ArT P t len el sz := by
  obtain ⟨i, h3, h4⟩ := Option.map_eq_some_iff.1 h
  exact ⟨hu, ⟨i, h3, h4⟩⟩
theorem bdt_of {t : TypeId} {fs : Array Field} {z : Value} {sz bs : Nat} {zc : List Value} {pl : List (Nat × Nat)} (hu : P.underlying t = some (.struct fs)) (h : (P.info? t).map (fun i => (i.zero, i.size, i.bytes)) = some (some z, sz, bs)) (hz : z.cells.toList = zc)
    (h1 : fs.toList.map (·.offset) = pl.map (·.1)) (h2 : fs.toList.map (fun f => (P.info? f.type).map (·.size)) = pl.map (fun x => some x.2)) : BdT P t zc pl := by
  obtain ⟨i, g1, g2, g3, g4⟩ := info_of h
  exact ⟨⟨i, z, g1, g2, hz⟩, .inl ⟨fs, hu, h1, h2⟩⟩
theorem bda_of {t len el sz s2 : Nat} {z : Value} {bs : Nat} {zc : List Value} (hu : P.underlying t = some (.array len el)) (h : (P.info? t).map (fun i => (i.zero, i.size, i.bytes)) = some (some z, s2, bs)) (hz : z.cells.toList = zc) (h2 : (P.info? el).map (·.size) = some sz) : BdT P t zc ((List.range len).map fun i => (i * sz, sz)) := by
  obtain ⟨i, g1, g2, g3, g4⟩ := info_of h
  obtain ⟨j, h3, h4⟩ := Option.map_eq_some_iff.1 h2
  exact ⟨⟨i, z, g1, g2, hz⟩, .inr ⟨len, el, sz, hu, ⟨j, h3, h4⟩, rfl⟩⟩
theorem tin1 : (Try.prog.info? 1).map (fun i => (i.zero, i.size, i.bytes)) = some (some (.nilFunc), 1, 8) := by kernel_rfl
theorem tin2 : (Try.prog.info? 2).map (fun i => (i.zero, i.size, i.bytes)) = some (some (.int .i64 0), 1, 8) := by kernel_rfl
theorem tin3 : (Try.prog.info? 3).map (fun i => (i.zero, i.size, i.bytes)) = some (some (.int .i64 0), 1, 8) := by kernel_rfl
theorem tin4 : (Try.prog.info? 4).map (fun i => (i.zero, i.size, i.bytes)) = some (some (.bool false), 1, 1) := by kernel_rfl
theorem tin5 : (Try.prog.info? 5).map (fun i => (i.zero, i.size, i.bytes)) = some (some (.int .u8 0), 1, 1) := by kernel_rfl
theorem tin6 : (Try.prog.info? 6).map (fun i => (i.zero, i.size, i.bytes)) = some (some (.int .u8 0), 1, 1) := by kernel_rfl
theorem tin7 : (Try.prog.info? 7).map (fun i => (i.zero, i.size, i.bytes)) = some (some (.agg #[.int .i64 0, .int .i64 0, .bool false, .int .u8 0]), 4, 24) := by kernel_rfl
theorem tfd7_0 : FdT Try.prog 7 0 0 2 1 false := ⟨⟨_, Try.underlying7, _, rfl, rfl, rfl⟩, elt_of2 (by kernel_rfl) (by kernel_rfl), by decide⟩
theorem tfd7_1 : FdT Try.prog 7 1 1 3 1 false := ⟨⟨_, Try.underlying7, _, rfl, rfl, rfl⟩, elt_of2 (by kernel_rfl) (by kernel_rfl), by decide⟩
theorem tfd7_2 : FdT Try.prog 7 2 2 4 1 false := ⟨⟨_, Try.underlying7, _, rfl, rfl, rfl⟩, elt_of2 (by kernel_rfl) (by kernel_rfl), by decide⟩
theorem tfd7_3 : FdT Try.prog 7 3 3 6 1 false := ⟨⟨_, Try.underlying7, _, rfl, rfl, rfl⟩, elt_of2 (by kernel_rfl) (by kernel_rfl), by decide⟩
theorem tin8 : (Try.prog.info? 8).map (fun i => (i.zero, i.size, i.bytes)) = some (some (.agg #[.int .i64 0, .int .i64 0, .bool false, .int .u8 0]), 4, 24) := by kernel_rfl
theorem tfd8_0 : FdT Try.prog 8 0 0 2 1 false := ⟨⟨_, Try.underlying8, _, rfl, rfl, rfl⟩, elt_of2 (by kernel_rfl) (by kernel_rfl), by decide⟩
theorem tfd8_1 : FdT Try.prog 8 1 1 3 1 false := ⟨⟨_, Try.underlying8, _, rfl, rfl, rfl⟩, elt_of2 (by kernel_rfl) (by kernel_rfl), by decide⟩
theorem tfd8_2 : FdT Try.prog 8 2 2 4 1 false := ⟨⟨_, Try.underlying8, _, rfl, rfl, rfl⟩, elt_of2 (by kernel_rfl) (by kernel_rfl), by decide⟩
theorem tfd8_3 : FdT Try.prog 8 3 3 6 1 false := ⟨⟨_, Try.underlying8, _, rfl, rfl, rfl⟩, elt_of2 (by kernel_rfl) (by kernel_rfl), by decide⟩
theorem tin9 : (Try.prog.info? 9).map (fun i => (i.zero, i.size, i.bytes)) = some (some (.string ⟨#[]⟩), 1, 16) := by kernel_rfl
theorem tin10 : (Try.prog.info? 10).map (fun i => (i.zero, i.size, i.bytes)) = some (some (.string ⟨#[]⟩), 1, 16) := by kernel_rfl
theorem tin11 : (Try.prog.info? 11).map (fun i => (i.zero, i.size, i.bytes)) = some (some (.string ⟨#[]⟩), 1, 16) := by kernel_rfl
theorem tin12 : (Try.prog.info? 12).map (fun i => (i.zero, i.size, i.bytes)) = some (some (.int .u64 0), 1, 8) := by kernel_rfl
theorem tin13 : (Try.prog.info? 13).map (fun i => (i.zero, i.size, i.bytes)) = some (some (.agg #[.string ⟨#[]⟩, .int .u64 0]), 2, 24) := by kernel_rfl
theorem tfd13_0 : FdT Try.prog 13 0 0 9 1 false := ⟨⟨_, Try.underlying13, _, rfl, rfl, rfl⟩, elt_of2 (by kernel_rfl) (by kernel_rfl), by decide⟩
theorem tfd13_1 : FdT Try.prog 13 1 1 12 1 false := ⟨⟨_, Try.underlying13, _, rfl, rfl, rfl⟩, elt_of2 (by kernel_rfl) (by kernel_rfl), by decide⟩
theorem tin14 : (Try.prog.info? 14).map (fun i => (i.zero, i.size, i.bytes)) = some (some (.agg #[.string ⟨#[]⟩, .int .u64 0]), 2, 24) := by kernel_rfl
theorem tfd14_0 : FdT Try.prog 14 0 0 9 1 false := ⟨⟨_, Try.underlying14, _, rfl, rfl, rfl⟩, elt_of2 (by kernel_rfl) (by kernel_rfl), by decide⟩
theorem tfd14_1 : FdT Try.prog 14 1 1 12 1 false := ⟨⟨_, Try.underlying14, _, rfl, rfl, rfl⟩, elt_of2 (by kernel_rfl) (by kernel_rfl), by decide⟩
theorem tin15 : (Try.prog.info? 15).map (fun i => (i.zero, i.size, i.bytes)) = some (some (.pointer none), 1, 8) := by kernel_rfl
theorem tin16 : (Try.prog.info? 16).map (fun i => (i.zero, i.size, i.bytes)) = some (some (.pointer none), 1, 8) := by kernel_rfl
theorem tin17 : (Try.prog.info? 17).map (fun i => (i.zero, i.size, i.bytes)) = some (some (.pointer none), 1, 8) := by kernel_rfl
theorem tin18 : (Try.prog.info? 18).map (fun i => (i.zero, i.size, i.bytes)) = some (some (.agg #[.pointer none]), 1, 8) := by kernel_rfl
theorem tfd18_0 : FdT Try.prog 18 0 0 17 1 false := ⟨⟨_, Try.underlying18, _, rfl, rfl, rfl⟩, elt_of2 (by kernel_rfl) (by kernel_rfl), by decide⟩
theorem tin19 : (Try.prog.info? 19).map (fun i => (i.zero, i.size, i.bytes)) = some (some (.agg #[.pointer none]), 1, 8) := by kernel_rfl
theorem tfd19_0 : FdT Try.prog 19 0 0 17 1 false := ⟨⟨_, Try.underlying19, _, rfl, rfl, rfl⟩, elt_of2 (by kernel_rfl) (by kernel_rfl), by decide⟩
theorem tin21 : (Try.prog.info? 21).map (fun i => (i.zero, i.size, i.bytes)) = some (some (.int .i32 0), 1, 4) := by kernel_rfl
theorem tin22 : (Try.prog.info? 22).map (fun i => (i.zero, i.size, i.bytes)) = some (some (.slice none 0 0), 1, 24) := by kernel_rfl
theorem tel22 : (Try.prog.info? 23).map (fun i => (i.zero, i.size, i.bytes)) = some (some ((.slice none 0 0)), 1, 24) := by kernel_rfl
theorem tin23 : (Try.prog.info? 23).map (fun i => (i.zero, i.size, i.bytes)) = some (some (.slice none 0 0), 1, 24) := by kernel_rfl
theorem tel23 : (Try.prog.info? 3).map (fun i => (i.zero, i.size, i.bytes)) = some (some ((.int .i64 0)), 1, 8) := by kernel_rfl
theorem tin24 : (Try.prog.info? 24).map (fun i => (i.zero, i.size, i.bytes)) = some (some (.int .i64 0), 1, 8) := by kernel_rfl
theorem tin25 : (Try.prog.info? 25).map (fun i => (i.zero, i.size, i.bytes)) = some (some (.nilFunc), 1, 8) := by kernel_rfl
theorem tin26 : (Try.prog.info? 26).map (fun i => (i.zero, i.size, i.bytes)) = some (some (.nilFunc), 1, 8) := by kernel_rfl
theorem tin28 : (Try.prog.info? 28).map (fun i => (i.zero, i.size, i.bytes)) = some (some (.nilFunc), 1, 8) := by kernel_rfl
theorem tin29 : (Try.prog.info? 29).map (fun i => (i.zero, i.size, i.bytes)) = some (some (.agg #[.slice none 0 0, .slice none 0 0]), 2, 48) := by kernel_rfl
theorem tfd29_0 : FdT Try.prog 29 0 0 23 1 false := ⟨⟨_, Try.underlying29, _, rfl, rfl, rfl⟩, elt_of2 (by kernel_rfl) (by kernel_rfl), by decide⟩
theorem tfd29_1 : FdT Try.prog 29 1 1 23 1 false := ⟨⟨_, Try.underlying29, _, rfl, rfl, rfl⟩, elt_of2 (by kernel_rfl) (by kernel_rfl), by decide⟩
theorem tin30 : (Try.prog.info? 30).map (fun i => (i.zero, i.size, i.bytes)) = some (some (.agg #[.slice none 0 0, .slice none 0 0]), 2, 48) := by kernel_rfl
theorem tfd30_0 : FdT Try.prog 30 0 0 23 1 false := ⟨⟨_, Try.underlying30, _, rfl, rfl, rfl⟩, elt_of2 (by kernel_rfl) (by kernel_rfl), by decide⟩
theorem tfd30_1 : FdT Try.prog 30 1 1 23 1 false := ⟨⟨_, Try.underlying30, _, rfl, rfl, rfl⟩, elt_of2 (by kernel_rfl) (by kernel_rfl), by decide⟩
theorem tin32 : (Try.prog.info? 32).map (fun i => (i.zero, i.size, i.bytes)) = some (some (.map none), 1, 8) := by kernel_rfl
theorem tml32 : ∃ i, Try.prog.info? 30 = some i ∧ i.zero = some (.agg #[.slice none 0 0, .slice none 0 0]) := Option.map_eq_some_iff.1 (show (Try.prog.info? 30).map (fun i => i.zero) = some (some (.agg #[.slice none 0 0, .slice none 0 0])) by kernel_rfl)
theorem tin33 : (Try.prog.info? 33).map (fun i => (i.zero, i.size, i.bytes)) = some (some (.nilFunc), 1, 8) := by kernel_rfl
theorem tin34 : (Try.prog.info? 34).map (fun i => (i.zero, i.size, i.bytes)) = some (some (.nilFunc), 1, 8) := by kernel_rfl
theorem tin35 : (Try.prog.info? 35).map (fun i => (i.zero, i.size, i.bytes)) = some (some (.nilFunc), 1, 8) := by kernel_rfl
theorem tin36 : (Try.prog.info? 36).map (fun i => (i.zero, i.size, i.bytes)) = some (some (.nilFunc), 1, 8) := by kernel_rfl
theorem tin37 : (Try.prog.info? 37).map (fun i => (i.zero, i.size, i.bytes)) = some (some (.nilFunc), 1, 8) := by kernel_rfl
theorem tin39 : (Try.prog.info? 39).map (fun i => (i.zero, i.size, i.bytes)) = some (some (.nilFunc), 1, 8) := by kernel_rfl
theorem tin41 : (Try.prog.info? 41).map (fun i => (i.zero, i.size, i.bytes)) = some (some (.nilFunc), 1, 8) := by kernel_rfl
theorem tin43 : (Try.prog.info? 43).map (fun i => (i.zero, i.size, i.bytes)) = some (some (.nilFunc), 1, 8) := by kernel_rfl
theorem tin44 : (Try.prog.info? 44).map (fun i => (i.zero, i.size, i.bytes)) = some (some (.nilFunc), 1, 8) := by kernel_rfl
theorem tin45 : (Try.prog.info? 45).map (fun i => (i.zero, i.size, i.bytes)) = some (some (.slice none 0 0), 1, 24) := by kernel_rfl
theorem tel45 : (Try.prog.info? 3).map (fun i => (i.zero, i.size, i.bytes)) = some (some ((.int .i64 0)), 1, 8) := by kernel_rfl
theorem tin46 : (Try.prog.info? 46).map (fun i => (i.zero, i.size, i.bytes)) = some (some (.nilFunc), 1, 8) := by kernel_rfl
theorem tin47 : (Try.prog.info? 47).map (fun i => (i.zero, i.size, i.bytes)) = some (some (.nilFunc), 1, 8) := by kernel_rfl
theorem tin48 : (Try.prog.info? 48).map (fun i => (i.zero, i.size, i.bytes)) = some (some (.nilFunc), 1, 8) := by kernel_rfl
theorem tin49 : (Try.prog.info? 49).map (fun i => (i.zero, i.size, i.bytes)) = some (some (.nilFunc), 1, 8) := by kernel_rfl
theorem tin50 : (Try.prog.info? 50).map (fun i => (i.zero, i.size, i.bytes)) = some (some (.nilFunc), 1, 8) := by kernel_rfl
theorem tin51 : (Try.prog.info? 51).map (fun i => (i.zero, i.size, i.bytes)) = some (some (.nilFunc), 1, 8) := by kernel_rfl
theorem tin52 : (Try.prog.info? 52).map (fun i => (i.zero, i.size, i.bytes)) = some (some (.nilFunc), 1, 8) := by kernel_rfl
theorem tin54 : (Try.prog.info? 54).map (fun i => (i.zero, i.size, i.bytes)) = some (some (.nilFunc), 1, 8) := by kernel_rfl
theorem tin55 : (Try.prog.info? 55).map (fun i => (i.zero, i.size, i.bytes)) = some (some (.nilFunc), 1, 8) := by kernel_rfl
theorem tin56 : (Try.prog.info? 56).map (fun i => (i.zero, i.size, i.bytes)) = some (some (.slice none 0 0), 1, 24) := by kernel_rfl
theorem tel56 : (Try.prog.info? 30).map (fun i => (i.zero, i.size, i.bytes)) = some (some (.agg #[.slice none 0 0, .slice none 0 0]), 2, 48) := by kernel_rfl
theorem tin57 : (Try.prog.info? 57).map (fun i => (i.zero, i.size, i.bytes)) = some (some (.nilFunc), 1, 8) := by kernel_rfl
theorem tin58 : (Try.prog.info? 58).map (fun i => (i.zero, i.size, i.bytes)) = some (some (.nilFunc), 1, 8) := by kernel_rfl
theorem tin59 : (Try.prog.info? 59).map (fun i => (i.zero, i.size, i.bytes)) = some (some (.nilFunc), 1, 8) := by kernel_rfl
theorem tin60 : (Try.prog.info? 60).map (fun i => (i.zero, i.size, i.bytes)) = some (some (.nilFunc), 1, 8) := by kernel_rfl
theorem tin61 : (Try.prog.info? 61).map (fun i => (i.zero, i.size, i.bytes)) = some (some (.nilFunc), 1, 8) := by kernel_rfl
theorem tin62 : (Try.prog.info? 62).map (fun i => (i.zero, i.size, i.bytes)) = some (some (.slice none 0 0), 1, 24) := by kernel_rfl
theorem tel62 : (Try.prog.info? 82).map (fun i => (i.zero, i.size, i.bytes)) = some (some ((.pointer none)), 1, 8) := by kernel_rfl
theorem tin63 : (Try.prog.info? 63).map (fun i => (i.zero, i.size, i.bytes)) = some (some (.slice none 0 0), 1, 24) := by kernel_rfl
theorem tel63 : (Try.prog.info? 82).map (fun i => (i.zero, i.size, i.bytes)) = some (some ((.pointer none)), 1, 8) := by kernel_rfl
theorem tin64 : (Try.prog.info? 64).map (fun i => (i.zero, i.size, i.bytes)) = some (some (.nilFunc), 1, 8) := by kernel_rfl
theorem tin65 : (Try.prog.info? 65).map (fun i => (i.zero, i.size, i.bytes)) = some (some (.nilFunc), 1, 8) := by kernel_rfl
theorem tin67 : (Try.prog.info? 67).map (fun i => (i.zero, i.size, i.bytes)) = some (some (.nilFunc), 1, 8) := by kernel_rfl
theorem tin68 : (Try.prog.info? 68).map (fun i => (i.zero, i.size, i.bytes)) = some (some (.nilFunc), 1, 8) := by kernel_rfl
theorem tin69 : (Try.prog.info? 69).map (fun i => (i.zero, i.size, i.bytes)) = some (some (.nilFunc), 1, 8) := by kernel_rfl
theorem tin70 : (Try.prog.info? 70).map (fun i => (i.zero, i.size, i.bytes)) = some (some (.nilFunc), 1, 8) := by kernel_rfl
theorem tin71 : (Try.prog.info? 71).map (fun i => (i.zero, i.size, i.bytes)) = some (some (.nilFunc), 1, 8) := by kernel_rfl
theorem tin72 : (Try.prog.info? 72).map (fun i => (i.zero, i.size, i.bytes)) = some (some (.agg #[.slice none 0 0, .int .i64 0, .int .i64 0]), 3, 40) := by kernel_rfl
theorem tfd72_0 : FdT Try.prog 72 0 0 23 1 false := ⟨⟨_, Try.underlying72, _, rfl, rfl, rfl⟩, elt_of2 (by kernel_rfl) (by kernel_rfl), by decide⟩
theorem tfd72_1 : FdT Try.prog 72 1 1 3 1 false := ⟨⟨_, Try.underlying72, _, rfl, rfl, rfl⟩, elt_of2 (by kernel_rfl) (by kernel_rfl), by decide⟩
theorem tfd72_2 : FdT Try.prog 72 2 2 3 1 false := ⟨⟨_, Try.underlying72, _, rfl, rfl, rfl⟩, elt_of2 (by kernel_rfl) (by kernel_rfl), by decide⟩
theorem tin73 : (Try.prog.info? 73).map (fun i => (i.zero, i.size, i.bytes)) = some (some (.agg #[.slice none 0 0, .int .i64 0, .int .i64 0]), 3, 40) := by kernel_rfl
theorem tfd73_0 : FdT Try.prog 73 0 0 23 1 false := ⟨⟨_, Try.underlying73, _, rfl, rfl, rfl⟩, elt_of2 (by kernel_rfl) (by kernel_rfl), by decide⟩
theorem tfd73_1 : FdT Try.prog 73 1 1 3 1 false := ⟨⟨_, Try.underlying73, _, rfl, rfl, rfl⟩, elt_of2 (by kernel_rfl) (by kernel_rfl), by decide⟩
theorem tfd73_2 : FdT Try.prog 73 2 2 3 1 false := ⟨⟨_, Try.underlying73, _, rfl, rfl, rfl⟩, elt_of2 (by kernel_rfl) (by kernel_rfl), by decide⟩
theorem tin74 : (Try.prog.info? 74).map (fun i => (i.zero, i.size, i.bytes)) = some (some (.slice none 0 0), 1, 24) := by kernel_rfl
theorem tel74 : (Try.prog.info? 73).map (fun i => (i.zero, i.size, i.bytes)) = some (some (.agg #[.slice none 0 0, .int .i64 0, .int .i64 0]), 3, 40) := by kernel_rfl
theorem tin75 : (Try.prog.info? 75).map (fun i => (i.zero, i.size, i.bytes)) = some (some (.agg #[.int .i64 0, .int .i64 0, .int .i64 0, .int .i64 0, .int .i64 0, .int .i64 0, .int .i64 0, .int .i64 0, .int .i64 0]), 9, 72) := by kernel_rfl
theorem tin76 : (Try.prog.info? 76).map (fun i => (i.zero, i.size, i.bytes)) = some (some (.agg #[.int .i64 0, .int .i64 0, .int .i64 0, .int .i64 0, .int .i64 0, .int .i64 0, .int .i64 0, .int .i64 0, .int .i64 0]), 9, 72) := by kernel_rfl
theorem tin77 : (Try.prog.info? 77).map (fun i => (i.zero, i.size, i.bytes)) = some (some (.nilFunc), 1, 8) := by kernel_rfl
theorem tin78 : (Try.prog.info? 78).map (fun i => (i.zero, i.size, i.bytes)) = some (some (.map none), 1, 8) := by kernel_rfl
theorem tme78 : ∃ i, Try.prog.info? 3 = some i ∧ i.size = 1 := Option.map_eq_some_iff.1 (show (Try.prog.info? 3).map (fun i => i.size) = some 1 by kernel_rfl)
theorem tml78 : ∃ i, Try.prog.info? 3 = some i ∧ i.zero = some (.int .i64 0) := Option.map_eq_some_iff.1 (show (Try.prog.info? 3).map (fun i => i.zero) = some (some (.int .i64 0)) by kernel_rfl)
theorem tin79 : (Try.prog.info? 79).map (fun i => (i.zero, i.size, i.bytes)) = some (some (.nilFunc), 1, 8) := by kernel_rfl
theorem tin81 : (Try.prog.info? 81).map (fun i => (i.zero, i.size, i.bytes)) = some (some (.map none), 1, 8) := by kernel_rfl
theorem tmk81 : ∃ q, Try.prog.underlying 3 = some (.int q) := ⟨_, Try.underlying3⟩
theorem tml81 : ∃ i, Try.prog.info? 4 = some i ∧ i.zero = some (.bool false) := Option.map_eq_some_iff.1 (show (Try.prog.info? 4).map (fun i => i.zero) = some (some (.bool false)) by kernel_rfl)
theorem tin82 : (Try.prog.info? 82).map (fun i => (i.zero, i.size, i.bytes)) = some (some (.pointer none), 1, 8) := by kernel_rfl
theorem tin83 : (Try.prog.info? 83).map (fun i => (i.zero, i.size, i.bytes)) = some (some (.map none), 1, 8) := by kernel_rfl
theorem tml83 : ∃ i, Try.prog.info? 23 = some i ∧ i.zero = some (.slice none 0 0) := Option.map_eq_some_iff.1 (show (Try.prog.info? 23).map (fun i => i.zero) = some (some (.slice none 0 0)) by kernel_rfl)
theorem tin84 : (Try.prog.info? 84).map (fun i => (i.zero, i.size, i.bytes)) = some (some (.agg #[.slice none 0 0, .map none, .slice none 0 0]), 3, 56) := by kernel_rfl
theorem tfd84_0 : FdT Try.prog 84 0 0 22 1 false := ⟨⟨_, Try.underlying84, _, rfl, rfl, rfl⟩, elt_of2 (by kernel_rfl) (by kernel_rfl), by decide⟩
theorem tfd84_1 : FdT Try.prog 84 1 1 83 1 false := ⟨⟨_, Try.underlying84, _, rfl, rfl, rfl⟩, elt_of2 (by kernel_rfl) (by kernel_rfl), by decide⟩
theorem tfd84_2 : FdT Try.prog 84 2 2 23 1 false := ⟨⟨_, Try.underlying84, _, rfl, rfl, rfl⟩, elt_of2 (by kernel_rfl) (by kernel_rfl), by decide⟩
theorem tin85 : (Try.prog.info? 85).map (fun i => (i.zero, i.size, i.bytes)) = some (some (.agg #[.slice none 0 0, .map none, .slice none 0 0]), 3, 56) := by kernel_rfl
theorem tfd85_0 : FdT Try.prog 85 0 0 22 1 false := ⟨⟨_, Try.underlying85, _, rfl, rfl, rfl⟩, elt_of2 (by kernel_rfl) (by kernel_rfl), by decide⟩
theorem tfd85_1 : FdT Try.prog 85 1 1 83 1 false := ⟨⟨_, Try.underlying85, _, rfl, rfl, rfl⟩, elt_of2 (by kernel_rfl) (by kernel_rfl), by decide⟩
theorem tfd85_2 : FdT Try.prog 85 2 2 23 1 false := ⟨⟨_, Try.underlying85, _, rfl, rfl, rfl⟩, elt_of2 (by kernel_rfl) (by kernel_rfl), by decide⟩
theorem tin86 : (Try.prog.info? 86).map (fun i => (i.zero, i.size, i.bytes)) = some (some (.nilFunc), 1, 8) := by kernel_rfl
theorem tin87 : (Try.prog.info? 87).map (fun i => (i.zero, i.size, i.bytes)) = some (some (.nilFunc), 1, 8) := by kernel_rfl
theorem tin88 : (Try.prog.info? 88).map (fun i => (i.zero, i.size, i.bytes)) = some (some (.nilFunc), 1, 8) := by kernel_rfl
theorem tin89 : (Try.prog.info? 89).map (fun i => (i.zero, i.size, i.bytes)) = some (some (.nilFunc), 1, 8) := by kernel_rfl
theorem tin90 : (Try.prog.info? 90).map (fun i => (i.zero, i.size, i.bytes)) = some (some (.nilFunc), 1, 8) := by kernel_rfl
theorem tin91 : (Try.prog.info? 91).map (fun i => (i.zero, i.size, i.bytes)) = some (some (.nilFunc), 1, 8) := by kernel_rfl
theorem tin92 : (Try.prog.info? 92).map (fun i => (i.zero, i.size, i.bytes)) = some (some (.int .u64 0), 1, 8) := by kernel_rfl
theorem tin93 : (Try.prog.info? 93).map (fun i => (i.zero, i.size, i.bytes)) = some (some (.nilFunc), 1, 8) := by kernel_rfl
theorem tin94 : (Try.prog.info? 94).map (fun i => (i.zero, i.size, i.bytes)) = some (some (.int .i64 0), 1, 8) := by kernel_rfl
theorem tin96 : (Try.prog.info? 96).map (fun i => (i.zero, i.size, i.bytes)) = some (some (.nilFunc), 1, 8) := by kernel_rfl
theorem tin97 : (Try.prog.info? 97).map (fun i => (i.zero, i.size, i.bytes)) = some (some (.nilFunc), 1, 8) := by kernel_rfl
theorem tin98 : (Try.prog.info? 98).map (fun i => (i.zero, i.size, i.bytes)) = some (some (.nilFunc), 1, 8) := by kernel_rfl
theorem tin99 : (Try.prog.info? 99).map (fun i => (i.zero, i.size, i.bytes)) = some (some (.nilFunc), 1, 8) := by kernel_rfl
theorem tin100 : (Try.prog.info? 100).map (fun i => (i.zero, i.size, i.bytes)) = some (some (.nilFunc), 1, 8) := by kernel_rfl
theorem tin101 : (Try.prog.info? 101).map (fun i => (i.zero, i.size, i.bytes)) = some (some (.nilFunc), 1, 8) := by kernel_rfl
theorem tin102 : (Try.prog.info? 102).map (fun i => (i.zero, i.size, i.bytes)) = some (some (.int .u32 0), 1, 4) := by kernel_rfl
theorem tin103 : (Try.prog.info? 103).map (fun i => (i.zero, i.size, i.bytes)) = some (some (.nilFunc), 1, 8) := by kernel_rfl
theorem tin104 : (Try.prog.info? 104).map (fun i => (i.zero, i.size, i.bytes)) = some (some (.int .u64 0), 1, 8) := by kernel_rfl
theorem tin105 : (Try.prog.info? 105).map (fun i => (i.zero, i.size, i.bytes)) = some (some (.int .u64 0), 1, 8) := by kernel_rfl
theorem tin106 : (Try.prog.info? 106).map (fun i => (i.zero, i.size, i.bytes)) = some (some (.nilFunc), 1, 8) := by kernel_rfl
theorem tin107 : (Try.prog.info? 107).map (fun i => (i.zero, i.size, i.bytes)) = some (some (.nilFunc), 1, 8) := by kernel_rfl
theorem tin108 : (Try.prog.info? 108).map (fun i => (i.zero, i.size, i.bytes)) = some (some (.nilFunc), 1, 8) := by kernel_rfl
theorem tin109 : (Try.prog.info? 109).map (fun i => (i.zero, i.size, i.bytes)) = some (some (.pointer none), 1, 8) := by kernel_rfl
theorem tin110 : (Try.prog.info? 110).map (fun i => (i.zero, i.size, i.bytes)) = some (some (.nilFunc), 1, 8) := by kernel_rfl
theorem tin111 : (Try.prog.info? 111).map (fun i => (i.zero, i.size, i.bytes)) = some (some (.pointer none), 1, 8) := by kernel_rfl
theorem tin113 : (Try.prog.info? 113).map (fun i => (i.zero, i.size, i.bytes)) = some (some (.nilFunc), 1, 8) := by kernel_rfl
theorem tin114 : (Try.prog.info? 114).map (fun i => (i.zero, i.size, i.bytes)) = some (some (.nilFunc), 1, 8) := by kernel_rfl
theorem tin115 : (Try.prog.info? 115).map (fun i => (i.zero, i.size, i.bytes)) = some (some (.agg #[.pointer none, .pointer none, .pointer none, .string ⟨#[]⟩]), 4, 40) := by kernel_rfl
theorem tfd115_0 : FdT Try.prog 115 0 0 17 1 false := ⟨⟨_, Try.underlying115, _, rfl, rfl, rfl⟩, elt_of2 (by kernel_rfl) (by kernel_rfl), by decide⟩
theorem tfd115_1 : FdT Try.prog 115 1 1 17 1 false := ⟨⟨_, Try.underlying115, _, rfl, rfl, rfl⟩, elt_of2 (by kernel_rfl) (by kernel_rfl), by decide⟩
theorem tfd115_2 : FdT Try.prog 115 2 2 17 1 false := ⟨⟨_, Try.underlying115, _, rfl, rfl, rfl⟩, elt_of2 (by kernel_rfl) (by kernel_rfl), by decide⟩
theorem tfd115_3 : FdT Try.prog 115 3 3 9 1 false := ⟨⟨_, Try.underlying115, _, rfl, rfl, rfl⟩, elt_of2 (by kernel_rfl) (by kernel_rfl), by decide⟩
theorem tin116 : (Try.prog.info? 116).map (fun i => (i.zero, i.size, i.bytes)) = some (some (.agg #[.pointer none, .pointer none, .pointer none, .string ⟨#[]⟩]), 4, 40) := by kernel_rfl
theorem tfd116_0 : FdT Try.prog 116 0 0 17 1 false := ⟨⟨_, Try.underlying116, _, rfl, rfl, rfl⟩, elt_of2 (by kernel_rfl) (by kernel_rfl), by decide⟩
theorem tfd116_1 : FdT Try.prog 116 1 1 17 1 false := ⟨⟨_, Try.underlying116, _, rfl, rfl, rfl⟩, elt_of2 (by kernel_rfl) (by kernel_rfl), by decide⟩
theorem tfd116_2 : FdT Try.prog 116 2 2 17 1 false := ⟨⟨_, Try.underlying116, _, rfl, rfl, rfl⟩, elt_of2 (by kernel_rfl) (by kernel_rfl), by decide⟩
theorem tfd116_3 : FdT Try.prog 116 3 3 9 1 false := ⟨⟨_, Try.underlying116, _, rfl, rfl, rfl⟩, elt_of2 (by kernel_rfl) (by kernel_rfl), by decide⟩
theorem tin120 : (Try.prog.info? 120).map (fun i => (i.zero, i.size, i.bytes)) = some (some (.int .u8 0), 1, 1) := by kernel_rfl
theorem tin121 : (Try.prog.info? 121).map (fun i => (i.zero, i.size, i.bytes)) = some (some (.int .u8 0), 1, 1) := by kernel_rfl
theorem tin122 : (Try.prog.info? 122).map (fun i => (i.zero, i.size, i.bytes)) = some (some (.nilFunc), 1, 8) := by kernel_rfl
theorem tin123 : (Try.prog.info? 123).map (fun i => (i.zero, i.size, i.bytes)) = some (some (.pointer none), 1, 8) := by kernel_rfl
theorem tin124 : (Try.prog.info? 124).map (fun i => (i.zero, i.size, i.bytes)) = some (some (.int .i32 0), 1, 4) := by kernel_rfl
theorem tin125 : (Try.prog.info? 125).map (fun i => (i.zero, i.size, i.bytes)) = some (some (.int .i32 0), 1, 4) := by kernel_rfl
theorem tin126 : (Try.prog.info? 126).map (fun i => (i.zero, i.size, i.bytes)) = some (some (.agg #[.int .u64 0, .int .u64 0, .int .u32 0, .int .u8 0, .int .u8 0, .int .u8 0, .int .u8 0, .nilFunc, .pointer none, .int .i32 0, .int .i32 0]), 11, 48) := by kernel_rfl
theorem tfd126_0 : FdT Try.prog 126 0 0 12 1 false := ⟨⟨_, Try.underlying126, _, rfl, rfl, rfl⟩, elt_of2 (by kernel_rfl) (by kernel_rfl), by decide⟩
theorem tfd126_1 : FdT Try.prog 126 1 1 12 1 false := ⟨⟨_, Try.underlying126, _, rfl, rfl, rfl⟩, elt_of2 (by kernel_rfl) (by kernel_rfl), by decide⟩
theorem tfd126_2 : FdT Try.prog 126 2 2 102 1 false := ⟨⟨_, Try.underlying126, _, rfl, rfl, rfl⟩, elt_of2 (by kernel_rfl) (by kernel_rfl), by decide⟩
theorem tfd126_3 : FdT Try.prog 126 3 3 120 1 false := ⟨⟨_, Try.underlying126, _, rfl, rfl, rfl⟩, elt_of2 (by kernel_rfl) (by kernel_rfl), by decide⟩
theorem tfd126_4 : FdT Try.prog 126 4 4 5 1 false := ⟨⟨_, Try.underlying126, _, rfl, rfl, rfl⟩, elt_of2 (by kernel_rfl) (by kernel_rfl), by decide⟩
theorem tfd126_5 : FdT Try.prog 126 5 5 5 1 false := ⟨⟨_, Try.underlying126, _, rfl, rfl, rfl⟩, elt_of2 (by kernel_rfl) (by kernel_rfl), by decide⟩
theorem tfd126_6 : FdT Try.prog 126 6 6 121 1 false := ⟨⟨_, Try.underlying126, _, rfl, rfl, rfl⟩, elt_of2 (by kernel_rfl) (by kernel_rfl), by decide⟩
theorem tfd126_7 : FdT Try.prog 126 7 7 122 1 false := ⟨⟨_, Try.underlying126, _, rfl, rfl, rfl⟩, elt_of2 (by kernel_rfl) (by kernel_rfl), by decide⟩
theorem tfd126_8 : FdT Try.prog 126 8 8 123 1 false := ⟨⟨_, Try.underlying126, _, rfl, rfl, rfl⟩, elt_of2 (by kernel_rfl) (by kernel_rfl), by decide⟩
theorem tfd126_9 : FdT Try.prog 126 9 9 124 1 false := ⟨⟨_, Try.underlying126, _, rfl, rfl, rfl⟩, elt_of2 (by kernel_rfl) (by kernel_rfl), by decide⟩
theorem tfd126_10 : FdT Try.prog 126 10 10 125 1 false := ⟨⟨_, Try.underlying126, _, rfl, rfl, rfl⟩, elt_of2 (by kernel_rfl) (by kernel_rfl), by decide⟩
theorem tin127 : (Try.prog.info? 127).map (fun i => (i.zero, i.size, i.bytes)) = some (some (.agg #[.int .u64 0, .int .u64 0, .int .u32 0, .int .u8 0, .int .u8 0, .int .u8 0, .int .u8 0, .nilFunc, .pointer none, .int .i32 0, .int .i32 0]), 11, 48) := by kernel_rfl
theorem tfd127_0 : FdT Try.prog 127 0 0 12 1 false := ⟨⟨_, Try.underlying127, _, rfl, rfl, rfl⟩, elt_of2 (by kernel_rfl) (by kernel_rfl), by decide⟩
theorem tfd127_1 : FdT Try.prog 127 1 1 12 1 false := ⟨⟨_, Try.underlying127, _, rfl, rfl, rfl⟩, elt_of2 (by kernel_rfl) (by kernel_rfl), by decide⟩
theorem tfd127_2 : FdT Try.prog 127 2 2 102 1 false := ⟨⟨_, Try.underlying127, _, rfl, rfl, rfl⟩, elt_of2 (by kernel_rfl) (by kernel_rfl), by decide⟩
theorem tfd127_3 : FdT Try.prog 127 3 3 120 1 false := ⟨⟨_, Try.underlying127, _, rfl, rfl, rfl⟩, elt_of2 (by kernel_rfl) (by kernel_rfl), by decide⟩
theorem tfd127_4 : FdT Try.prog 127 4 4 5 1 false := ⟨⟨_, Try.underlying127, _, rfl, rfl, rfl⟩, elt_of2 (by kernel_rfl) (by kernel_rfl), by decide⟩
theorem tfd127_5 : FdT Try.prog 127 5 5 5 1 false := ⟨⟨_, Try.underlying127, _, rfl, rfl, rfl⟩, elt_of2 (by kernel_rfl) (by kernel_rfl), by decide⟩
theorem tfd127_6 : FdT Try.prog 127 6 6 121 1 false := ⟨⟨_, Try.underlying127, _, rfl, rfl, rfl⟩, elt_of2 (by kernel_rfl) (by kernel_rfl), by decide⟩
theorem tfd127_7 : FdT Try.prog 127 7 7 122 1 false := ⟨⟨_, Try.underlying127, _, rfl, rfl, rfl⟩, elt_of2 (by kernel_rfl) (by kernel_rfl), by decide⟩
theorem tfd127_8 : FdT Try.prog 127 8 8 123 1 false := ⟨⟨_, Try.underlying127, _, rfl, rfl, rfl⟩, elt_of2 (by kernel_rfl) (by kernel_rfl), by decide⟩
theorem tfd127_9 : FdT Try.prog 127 9 9 124 1 false := ⟨⟨_, Try.underlying127, _, rfl, rfl, rfl⟩, elt_of2 (by kernel_rfl) (by kernel_rfl), by decide⟩
theorem tfd127_10 : FdT Try.prog 127 10 10 125 1 false := ⟨⟨_, Try.underlying127, _, rfl, rfl, rfl⟩, elt_of2 (by kernel_rfl) (by kernel_rfl), by decide⟩
def TT : TypeId → TI
  | 1 => .one (.nilFunc)
  | 2 => .one (.int .i64 0)
  | 3 => .one (.int .i64 0)
  | 4 => .bool
  | 5 => .one (.int .u8 0)
  | 6 => .one (.int .u8 0)
  | 7 => .st 4 [.int .i64 0, .int .i64 0, .bool false, .int .u8 0] [(0, 1, false), (1, 1, false), (2, 1, false), (3, 1, false)]
  | 8 => .st 4 [.int .i64 0, .int .i64 0, .bool false, .int .u8 0] [(0, 1, false), (1, 1, false), (2, 1, false), (3, 1, false)]
  | 9 => .one (.string ⟨#[]⟩)
  | 10 => .one (.string ⟨#[]⟩)
  | 11 => .one (.string ⟨#[]⟩)
  | 12 => .one (.int .u64 0)
  | 13 => .st 2 [.string ⟨#[]⟩, .int .u64 0] [(0, 1, false), (1, 1, false)]
  | 14 => .st 2 [.string ⟨#[]⟩, .int .u64 0] [(0, 1, false), (1, 1, false)]
  | 15 => .one (.pointer none)
  | 16 => .one (.pointer none)
  | 17 => .one (.pointer none)
  | 18 => .st 1 [.pointer none] [(0, 1, false)]
  | 19 => .st 1 [.pointer none] [(0, 1, false)]
  | 21 => .one (.int .i32 0)
  | 22 => .sl 23 1 24 [.slice none 0 0]
  | 23 => .sl 3 1 8 [.int .i64 0]
  | 24 => .one (.int .i64 0)
  | 25 => .one (.nilFunc)
  | 26 => .one (.nilFunc)
  | 28 => .one (.nilFunc)
  | 29 => .st 2 [.slice none 0 0, .slice none 0 0] [(0, 1, false), (1, 1, false)]
  | 30 => .st 2 [.slice none 0 0, .slice none 0 0] [(0, 1, false), (1, 1, false)]
  | 32 => .gm .int (.agg [.lst true 0 0 [], .lst true 0 0 []])
  | 33 => .one (.nilFunc)
  | 34 => .one (.nilFunc)
  | 35 => .one (.nilFunc)
  | 36 => .one (.nilFunc)
  | 37 => .one (.nilFunc)
  | 39 => .one (.nilFunc)
  | 41 => .one (.nilFunc)
  | 43 => .one (.nilFunc)
  | 44 => .one (.nilFunc)
  | 45 => .sl 3 1 8 [.int .i64 0]
  | 46 => .one (.nilFunc)
  | 47 => .one (.nilFunc)
  | 48 => .one (.nilFunc)
  | 49 => .one (.nilFunc)
  | 50 => .one (.nilFunc)
  | 51 => .one (.nilFunc)
  | 52 => .one (.nilFunc)
  | 54 => .one (.nilFunc)
  | 55 => .one (.nilFunc)
  | 56 => .sl 30 2 48 [.slice none 0 0, .slice none 0 0]
  | 57 => .one (.nilFunc)
  | 58 => .one (.nilFunc)
  | 59 => .one (.nilFunc)
  | 60 => .one (.nilFunc)
  | 61 => .one (.nilFunc)
  | 62 => .sl 82 1 8 [.pointer none]
  | 63 => .sl 82 1 8 [.pointer none]
  | 64 => .one (.nilFunc)
  | 65 => .one (.nilFunc)
  | 67 => .one (.nilFunc)
  | 68 => .one (.nilFunc)
  | 69 => .one (.nilFunc)
  | 70 => .one (.nilFunc)
  | 71 => .one (.nilFunc)
  | 72 => .st 3 [.slice none 0 0, .int .i64 0, .int .i64 0] [(0, 1, false), (1, 1, false), (2, 1, false)]
  | 73 => .st 3 [.slice none 0 0, .int .i64 0, .int .i64 0] [(0, 1, false), (1, 1, false), (2, 1, false)]
  | 74 => .sl 73 3 40 [.slice none 0 0, .int .i64 0, .int .i64 0]
  | 75 => .ar 9 3 1 9 [.int .i64 0, .int .i64 0, .int .i64 0, .int .i64 0, .int .i64 0, .int .i64 0, .int .i64 0, .int .i64 0, .int .i64 0]
  | 76 => .ar 9 3 1 9 [.int .i64 0, .int .i64 0, .int .i64 0, .int .i64 0, .int .i64 0, .int .i64 0, .int .i64 0, .int .i64 0, .int .i64 0]
  | 77 => .one (.nilFunc)
  | 78 => .gm (.arr 9) (.sc (.int .i64 0))
  | 79 => .one (.nilFunc)
  | 81 => .mp (.bool false)
  | 82 => .one (.pointer none)
  | 83 => .gm .int (.lst true 0 0 [])
  | 84 => .st 3 [.slice none 0 0, .map none, .slice none 0 0] [(0, 1, false), (1, 1, false), (2, 1, false)]
  | 85 => .st 3 [.slice none 0 0, .map none, .slice none 0 0] [(0, 1, false), (1, 1, false), (2, 1, false)]
  | 86 => .one (.nilFunc)
  | 87 => .one (.nilFunc)
  | 88 => .one (.nilFunc)
  | 89 => .one (.nilFunc)
  | 90 => .one (.nilFunc)
  | 91 => .one (.nilFunc)
  | 92 => .one (.int .u64 0)
  | 93 => .one (.nilFunc)
  | 94 => .one (.int .i64 0)
  | 96 => .one (.nilFunc)
  | 97 => .one (.nilFunc)
  | 98 => .one (.nilFunc)
  | 99 => .one (.nilFunc)
  | 100 => .one (.nilFunc)
  | 101 => .one (.nilFunc)
  | 102 => .one (.int .u32 0)
  | 103 => .one (.nilFunc)
  | 104 => .one (.int .u64 0)
  | 105 => .one (.int .u64 0)
  | 106 => .one (.nilFunc)
  | 107 => .one (.nilFunc)
  | 108 => .one (.nilFunc)
  | 109 => .one (.pointer none)
  | 110 => .one (.nilFunc)
  | 111 => .one (.pointer none)
  | 113 => .one (.nilFunc)
  | 114 => .one (.nilFunc)
  | 115 => .st 4 [.pointer none, .pointer none, .pointer none, .string ⟨#[]⟩] [(0, 1, false), (1, 1, false), (2, 1, false), (3, 1, false)]
  | 116 => .st 4 [.pointer none, .pointer none, .pointer none, .string ⟨#[]⟩] [(0, 1, false), (1, 1, false), (2, 1, false), (3, 1, false)]
  | 120 => .one (.int .u8 0)
  | 121 => .one (.int .u8 0)
  | 122 => .one (.nilFunc)
  | 123 => .one (.pointer none)
  | 124 => .one (.int .i32 0)
  | 125 => .one (.int .i32 0)
  | 126 => .st 11 [.int .u64 0, .int .u64 0, .int .u32 0, .int .u8 0, .int .u8 0, .int .u8 0, .int .u8 0, .nilFunc, .pointer none, .int .i32 0, .int .i32 0] [(0, 1, false), (1, 1, false), (2, 1, false), (3, 1, false), (4, 1, false), (5, 1, false), (6, 1, false), (7, 1, false), (8, 1, false), (9, 1, false), (10, 1, false)]
  | 127 => .st 11 [.int .u64 0, .int .u64 0, .int .u32 0, .int .u8 0, .int .u8 0, .int .u8 0, .int .u8 0, .nilFunc, .pointer none, .int .i32 0, .int .i32 0] [(0, 1, false), (1, 1, false), (2, 1, false), (3, 1, false), (4, 1, false), (5, 1, false), (6, 1, false), (7, 1, false), (8, 1, false), (9, 1, false), (10, 1, false)]
  | _ => .oth
theorem tok : TOk Try.prog TT := by
  intro t
  unfold TT
  split
  · exact ⟨elt_of Try.underlying1 rfl tin1, zrt_of tin1 rfl⟩
  · exact ⟨elt_of Try.underlying2 rfl tin2, zrt_of tin2 rfl⟩
  · exact ⟨elt_of Try.underlying3 rfl tin3, zrt_of tin3 rfl⟩
  · exact ⟨elt_of Try.underlying4 rfl tin4, zrt_of tin4 rfl, Try.underlying4⟩
  · exact ⟨elt_of Try.underlying5 rfl tin5, zrt_of tin5 rfl⟩
  · exact ⟨elt_of Try.underlying6 rfl tin6, zrt_of tin6 rfl⟩
  · exact ⟨elt_of Try.underlying7 rfl tin7, zrt_of tin7 rfl, (fun f x hx => by match f, hx with | 0, hx => (cases hx; exact ⟨_, tfd7_0⟩) | 1, hx => (cases hx; exact ⟨_, tfd7_1⟩) | 2, hx => (cases hx; exact ⟨_, tfd7_2⟩) | 3, hx => (cases hx; exact ⟨_, tfd7_3⟩) | f + 4, hx => (simp at hx)), bdt_of Try.underlying7 tin7 rfl rfl (by kernel_rfl)⟩
  · exact ⟨elt_of Try.underlying8 rfl tin8, zrt_of tin8 rfl, (fun f x hx => by match f, hx with | 0, hx => (cases hx; exact ⟨_, tfd8_0⟩) | 1, hx => (cases hx; exact ⟨_, tfd8_1⟩) | 2, hx => (cases hx; exact ⟨_, tfd8_2⟩) | 3, hx => (cases hx; exact ⟨_, tfd8_3⟩) | f + 4, hx => (simp at hx)), bdt_of Try.underlying8 tin8 rfl rfl (by kernel_rfl)⟩
  · exact ⟨elt_of Try.underlying9 rfl tin9, zrt_of tin9 rfl⟩
  · exact ⟨elt_of Try.underlying10 rfl tin10, zrt_of tin10 rfl⟩
  · exact ⟨elt_of Try.underlying11 rfl tin11, zrt_of tin11 rfl⟩
  · exact ⟨elt_of Try.underlying12 rfl tin12, zrt_of tin12 rfl⟩
  · exact ⟨elt_of Try.underlying13 rfl tin13, zrt_of tin13 rfl, (fun f x hx => by match f, hx with | 0, hx => (cases hx; exact ⟨_, tfd13_0⟩) | 1, hx => (cases hx; exact ⟨_, tfd13_1⟩) | f + 2, hx => (simp at hx)), bdt_of Try.underlying13 tin13 rfl rfl (by kernel_rfl)⟩
  · exact ⟨elt_of Try.underlying14 rfl tin14, zrt_of tin14 rfl, (fun f x hx => by match f, hx with | 0, hx => (cases hx; exact ⟨_, tfd14_0⟩) | 1, hx => (cases hx; exact ⟨_, tfd14_1⟩) | f + 2, hx => (simp at hx)), bdt_of Try.underlying14 tin14 rfl rfl (by kernel_rfl)⟩
  · exact ⟨elt_of Try.underlying15 rfl tin15, zrt_of tin15 rfl⟩
  · exact ⟨elt_of Try.underlying16 rfl tin16, zrt_of tin16 rfl⟩
  · exact ⟨elt_of Try.underlying17 rfl tin17, zrt_of tin17 rfl⟩
  · exact ⟨elt_of Try.underlying18 rfl tin18, zrt_of tin18 rfl, (fun f x hx => by match f, hx with | 0, hx => (cases hx; exact ⟨_, tfd18_0⟩) | f + 1, hx => (simp at hx)), bdt_of Try.underlying18 tin18 rfl rfl (by kernel_rfl)⟩
  · exact ⟨elt_of Try.underlying19 rfl tin19, zrt_of tin19 rfl, (fun f x hx => by match f, hx with | 0, hx => (cases hx; exact ⟨_, tfd19_0⟩) | f + 1, hx => (simp at hx)), bdt_of Try.underlying19 tin19 rfl rfl (by kernel_rfl)⟩
  · exact ⟨elt_of Try.underlying21 rfl tin21, zrt_of tin21 rfl⟩
  · exact ⟨elt_of Try.underlying22 rfl tin22, zrt_of tin22 rfl, slt_of Try.underlying22 tel22 rfl rfl (by decide)⟩
  · exact ⟨elt_of Try.underlying23 rfl tin23, zrt_of tin23 rfl, slt_of Try.underlying23 tel23 rfl rfl (by decide)⟩
  · exact ⟨elt_of Try.underlying24 rfl tin24, zrt_of tin24 rfl⟩
  · exact ⟨elt_of Try.underlying25 rfl tin25, zrt_of tin25 rfl⟩
  · exact ⟨elt_of Try.underlying26 rfl tin26, zrt_of tin26 rfl⟩
  · exact ⟨elt_of Try.underlying28 rfl tin28, zrt_of tin28 rfl⟩
  · exact ⟨elt_of Try.underlying29 rfl tin29, zrt_of tin29 rfl, (fun f x hx => by match f, hx with | 0, hx => (cases hx; exact ⟨_, tfd29_0⟩) | 1, hx => (cases hx; exact ⟨_, tfd29_1⟩) | f + 2, hx => (simp at hx)), bdt_of Try.underlying29 tin29 rfl rfl (by kernel_rfl)⟩
  · exact ⟨elt_of Try.underlying30 rfl tin30, zrt_of tin30 rfl, (fun f x hx => by match f, hx with | 0, hx => (cases hx; exact ⟨_, tfd30_0⟩) | 1, hx => (cases hx; exact ⟨_, tfd30_1⟩) | f + 2, hx => (simp at hx)), bdt_of Try.underlying30 tin30 rfl rfl (by kernel_rfl)⟩
  · exact ⟨elt_of Try.underlying32 rfl tin32, zrt_of tin32 rfl, ⟨_, _, Try.underlying32, ⟨_, Try.underlying3⟩, tml32.choose, _, tml32.choose_spec.1, tml32.choose_spec.2, rfl⟩⟩
  · exact ⟨elt_of Try.underlying33 rfl tin33, zrt_of tin33 rfl⟩
  · exact ⟨elt_of Try.underlying34 rfl tin34, zrt_of tin34 rfl⟩
  · exact ⟨elt_of Try.underlying35 rfl tin35, zrt_of tin35 rfl⟩
  · exact ⟨elt_of Try.underlying36 rfl tin36, zrt_of tin36 rfl⟩
  · exact ⟨elt_of Try.underlying37 rfl tin37, zrt_of tin37 rfl⟩
  · exact ⟨elt_of Try.underlying39 rfl tin39, zrt_of tin39 rfl⟩
  · exact ⟨elt_of Try.underlying41 rfl tin41, zrt_of tin41 rfl⟩
  · exact ⟨elt_of Try.underlying43 rfl tin43, zrt_of tin43 rfl⟩
  · exact ⟨elt_of Try.underlying44 rfl tin44, zrt_of tin44 rfl⟩
  · exact ⟨elt_of Try.underlying45 rfl tin45, zrt_of tin45 rfl, slt_of Try.underlying45 tel45 rfl rfl (by decide)⟩
  · exact ⟨elt_of Try.underlying46 rfl tin46, zrt_of tin46 rfl⟩
  · exact ⟨elt_of Try.underlying47 rfl tin47, zrt_of tin47 rfl⟩
  · exact ⟨elt_of Try.underlying48 rfl tin48, zrt_of tin48 rfl⟩
  · exact ⟨elt_of Try.underlying49 rfl tin49, zrt_of tin49 rfl⟩
  · exact ⟨elt_of Try.underlying50 rfl tin50, zrt_of tin50 rfl⟩
  · exact ⟨elt_of Try.underlying51 rfl tin51, zrt_of tin51 rfl⟩
  · exact ⟨elt_of Try.underlying52 rfl tin52, zrt_of tin52 rfl⟩
  · exact ⟨elt_of Try.underlying54 rfl tin54, zrt_of tin54 rfl⟩
  · exact ⟨elt_of Try.underlying55 rfl tin55, zrt_of tin55 rfl⟩
  · exact ⟨elt_of Try.underlying56 rfl tin56, zrt_of tin56 rfl, slt_of Try.underlying56 tel56 rfl rfl (by decide)⟩
  · exact ⟨elt_of Try.underlying57 rfl tin57, zrt_of tin57 rfl⟩
  · exact ⟨elt_of Try.underlying58 rfl tin58, zrt_of tin58 rfl⟩
  · exact ⟨elt_of Try.underlying59 rfl tin59, zrt_of tin59 rfl⟩
  · exact ⟨elt_of Try.underlying60 rfl tin60, zrt_of tin60 rfl⟩
  · exact ⟨elt_of Try.underlying61 rfl tin61, zrt_of tin61 rfl⟩
  · exact ⟨elt_of Try.underlying62 rfl tin62, zrt_of tin62 rfl, slt_of Try.underlying62 tel62 rfl rfl (by decide)⟩
  · exact ⟨elt_of Try.underlying63 rfl tin63, zrt_of tin63 rfl, slt_of Try.underlying63 tel63 rfl rfl (by decide)⟩
  · exact ⟨elt_of Try.underlying64 rfl tin64, zrt_of tin64 rfl⟩
  · exact ⟨elt_of Try.underlying65 rfl tin65, zrt_of tin65 rfl⟩
  · exact ⟨elt_of Try.underlying67 rfl tin67, zrt_of tin67 rfl⟩
  · exact ⟨elt_of Try.underlying68 rfl tin68, zrt_of tin68 rfl⟩
  · exact ⟨elt_of Try.underlying69 rfl tin69, zrt_of tin69 rfl⟩
  · exact ⟨elt_of Try.underlying70 rfl tin70, zrt_of tin70 rfl⟩
  · exact ⟨elt_of Try.underlying71 rfl tin71, zrt_of tin71 rfl⟩
  · exact ⟨elt_of Try.underlying72 rfl tin72, zrt_of tin72 rfl, (fun f x hx => by match f, hx with | 0, hx => (cases hx; exact ⟨_, tfd72_0⟩) | 1, hx => (cases hx; exact ⟨_, tfd72_1⟩) | 2, hx => (cases hx; exact ⟨_, tfd72_2⟩) | f + 3, hx => (simp at hx)), bdt_of Try.underlying72 tin72 rfl rfl (by kernel_rfl)⟩
  · exact ⟨elt_of Try.underlying73 rfl tin73, zrt_of tin73 rfl, (fun f x hx => by match f, hx with | 0, hx => (cases hx; exact ⟨_, tfd73_0⟩) | 1, hx => (cases hx; exact ⟨_, tfd73_1⟩) | 2, hx => (cases hx; exact ⟨_, tfd73_2⟩) | f + 3, hx => (simp at hx)), bdt_of Try.underlying73 tin73 rfl rfl (by kernel_rfl)⟩
  · exact ⟨elt_of Try.underlying74 rfl tin74, zrt_of tin74 rfl, slt_of Try.underlying74 tel74 rfl rfl (by decide)⟩
  · exact ⟨elt_of Try.underlying75 rfl tin75, zrt_of tin75 rfl, art_of Try.underlying75 (by kernel_rfl), bda_of Try.underlying75 tin75 rfl (by kernel_rfl)⟩
  · exact ⟨elt_of Try.underlying76 rfl tin76, zrt_of tin76 rfl, art_of Try.underlying76 (by kernel_rfl), bda_of Try.underlying76 tin76 rfl (by kernel_rfl)⟩
  · exact ⟨elt_of Try.underlying77 rfl tin77, zrt_of tin77 rfl⟩
  · exact ⟨elt_of Try.underlying78 rfl tin78, zrt_of tin78 rfl, ⟨_, _, Try.underlying78, ⟨_, _, tme78.choose, Try.underlying76, Try.underlying3, tme78.choose_spec.1, tme78.choose_spec.2⟩, tml78.choose, _, tml78.choose_spec.1, tml78.choose_spec.2, rfl⟩⟩
  · exact ⟨elt_of Try.underlying79 rfl tin79, zrt_of tin79 rfl⟩
  · exact ⟨elt_of Try.underlying81 rfl tin81, zrt_of tin81 rfl, ⟨_, _, _, Try.underlying81, tmk81.choose_spec, tml81⟩⟩
  · exact ⟨elt_of Try.underlying82 rfl tin82, zrt_of tin82 rfl⟩
  · exact ⟨elt_of Try.underlying83 rfl tin83, zrt_of tin83 rfl, ⟨_, _, Try.underlying83, ⟨_, Try.underlying3⟩, tml83.choose, _, tml83.choose_spec.1, tml83.choose_spec.2, rfl⟩⟩
  · exact ⟨elt_of Try.underlying84 rfl tin84, zrt_of tin84 rfl, (fun f x hx => by match f, hx with | 0, hx => (cases hx; exact ⟨_, tfd84_0⟩) | 1, hx => (cases hx; exact ⟨_, tfd84_1⟩) | 2, hx => (cases hx; exact ⟨_, tfd84_2⟩) | f + 3, hx => (simp at hx)), bdt_of Try.underlying84 tin84 rfl rfl (by kernel_rfl)⟩
  · exact ⟨elt_of Try.underlying85 rfl tin85, zrt_of tin85 rfl, (fun f x hx => by match f, hx with | 0, hx => (cases hx; exact ⟨_, tfd85_0⟩) | 1, hx => (cases hx; exact ⟨_, tfd85_1⟩) | 2, hx => (cases hx; exact ⟨_, tfd85_2⟩) | f + 3, hx => (simp at hx)), bdt_of Try.underlying85 tin85 rfl rfl (by kernel_rfl)⟩
  · exact ⟨elt_of Try.underlying86 rfl tin86, zrt_of tin86 rfl⟩
  · exact ⟨elt_of Try.underlying87 rfl tin87, zrt_of tin87 rfl⟩
  · exact ⟨elt_of Try.underlying88 rfl tin88, zrt_of tin88 rfl⟩
  · exact ⟨elt_of Try.underlying89 rfl tin89, zrt_of tin89 rfl⟩
  · exact ⟨elt_of Try.underlying90 rfl tin90, zrt_of tin90 rfl⟩
  · exact ⟨elt_of Try.underlying91 rfl tin91, zrt_of tin91 rfl⟩
  · exact ⟨elt_of Try.underlying92 rfl tin92, zrt_of tin92 rfl⟩
  · exact ⟨elt_of Try.underlying93 rfl tin93, zrt_of tin93 rfl⟩
  · exact ⟨elt_of Try.underlying94 rfl tin94, zrt_of tin94 rfl⟩
  · exact ⟨elt_of Try.underlying96 rfl tin96, zrt_of tin96 rfl⟩
  · exact ⟨elt_of Try.underlying97 rfl tin97, zrt_of tin97 rfl⟩
  · exact ⟨elt_of Try.underlying98 rfl tin98, zrt_of tin98 rfl⟩
  · exact ⟨elt_of Try.underlying99 rfl tin99, zrt_of tin99 rfl⟩
  · exact ⟨elt_of Try.underlying100 rfl tin100, zrt_of tin100 rfl⟩
  · exact ⟨elt_of Try.underlying101 rfl tin101, zrt_of tin101 rfl⟩
  · exact ⟨elt_of Try.underlying102 rfl tin102, zrt_of tin102 rfl⟩
  · exact ⟨elt_of Try.underlying103 rfl tin103, zrt_of tin103 rfl⟩
  · exact ⟨elt_of Try.underlying104 rfl tin104, zrt_of tin104 rfl⟩
  · exact ⟨elt_of Try.underlying105 rfl tin105, zrt_of tin105 rfl⟩
  · exact ⟨elt_of Try.underlying106 rfl tin106, zrt_of tin106 rfl⟩
  · exact ⟨elt_of Try.underlying107 rfl tin107, zrt_of tin107 rfl⟩
  · exact ⟨elt_of Try.underlying108 rfl tin108, zrt_of tin108 rfl⟩
  · exact ⟨elt_of Try.underlying109 rfl tin109, zrt_of tin109 rfl⟩
  · exact ⟨elt_of Try.underlying110 rfl tin110, zrt_of tin110 rfl⟩
  · exact ⟨elt_of Try.underlying111 rfl tin111, zrt_of tin111 rfl⟩
  · exact ⟨elt_of Try.underlying113 rfl tin113, zrt_of tin113 rfl⟩
  · exact ⟨elt_of Try.underlying114 rfl tin114, zrt_of tin114 rfl⟩
  · exact ⟨elt_of Try.underlying115 rfl tin115, zrt_of tin115 rfl, (fun f x hx => by match f, hx with | 0, hx => (cases hx; exact ⟨_, tfd115_0⟩) | 1, hx => (cases hx; exact ⟨_, tfd115_1⟩) | 2, hx => (cases hx; exact ⟨_, tfd115_2⟩) | 3, hx => (cases hx; exact ⟨_, tfd115_3⟩) | f + 4, hx => (simp at hx)), bdt_of Try.underlying115 tin115 rfl rfl (by kernel_rfl)⟩
  · exact ⟨elt_of Try.underlying116 rfl tin116, zrt_of tin116 rfl, (fun f x hx => by match f, hx with | 0, hx => (cases hx; exact ⟨_, tfd116_0⟩) | 1, hx => (cases hx; exact ⟨_, tfd116_1⟩) | 2, hx => (cases hx; exact ⟨_, tfd116_2⟩) | 3, hx => (cases hx; exact ⟨_, tfd116_3⟩) | f + 4, hx => (simp at hx)), bdt_of Try.underlying116 tin116 rfl rfl (by kernel_rfl)⟩
  · exact ⟨elt_of Try.underlying120 rfl tin120, zrt_of tin120 rfl⟩
  · exact ⟨elt_of Try.underlying121 rfl tin121, zrt_of tin121 rfl⟩
  · exact ⟨elt_of Try.underlying122 rfl tin122, zrt_of tin122 rfl⟩
  · exact ⟨elt_of Try.underlying123 rfl tin123, zrt_of tin123 rfl⟩
  · exact ⟨elt_of Try.underlying124 rfl tin124, zrt_of tin124 rfl⟩
  · exact ⟨elt_of Try.underlying125 rfl tin125, zrt_of tin125 rfl⟩
  · exact ⟨elt_of Try.underlying126 rfl tin126, zrt_of tin126 rfl, (fun f x hx => by match f, hx with | 0, hx => (cases hx; exact ⟨_, tfd126_0⟩) | 1, hx => (cases hx; exact ⟨_, tfd126_1⟩) | 2, hx => (cases hx; exact ⟨_, tfd126_2⟩) | 3, hx => (cases hx; exact ⟨_, tfd126_3⟩) | 4, hx => (cases hx; exact ⟨_, tfd126_4⟩) | 5, hx => (cases hx; exact ⟨_, tfd126_5⟩) | 6, hx => (cases hx; exact ⟨_, tfd126_6⟩) | 7, hx => (cases hx; exact ⟨_, tfd126_7⟩) | 8, hx => (cases hx; exact ⟨_, tfd126_8⟩) | 9, hx => (cases hx; exact ⟨_, tfd126_9⟩) | 10, hx => (cases hx; exact ⟨_, tfd126_10⟩) | f + 11, hx => (simp at hx)), bdt_of Try.underlying126 tin126 rfl rfl (by kernel_rfl)⟩
  · exact ⟨elt_of Try.underlying127 rfl tin127, zrt_of tin127 rfl, (fun f x hx => by match f, hx with | 0, hx => (cases hx; exact ⟨_, tfd127_0⟩) | 1, hx => (cases hx; exact ⟨_, tfd127_1⟩) | 2, hx => (cases hx; exact ⟨_, tfd127_2⟩) | 3, hx => (cases hx; exact ⟨_, tfd127_3⟩) | 4, hx => (cases hx; exact ⟨_, tfd127_4⟩) | 5, hx => (cases hx; exact ⟨_, tfd127_5⟩) | 6, hx => (cases hx; exact ⟨_, tfd127_6⟩) | 7, hx => (cases hx; exact ⟨_, tfd127_7⟩) | 8, hx => (cases hx; exact ⟨_, tfd127_8⟩) | 9, hx => (cases hx; exact ⟨_, tfd127_9⟩) | 10, hx => (cases hx; exact ⟨_, tfd127_10⟩) | f + 11, hx => (simp at hx)), bdt_of Try.underlying127 tin127 rfl rfl (by kernel_rfl)⟩
  · trivial
theorem mixed : Try.prog.follows .mixedOrders = true := by kernel_rfl
end Go.Proofs.Ythacglggkgmbhaa
