/- The seat's types, as the abstract reading takes them. No condition of its own. -/
import Derived.Test.YtpmdhkiolgpiaaaGMatchingProductsAR
import Derived.Test.YtpmdhkiolgpiaaaProg
namespace Go.Proofs.Ytpmdhkiolgpiaaa
open Go.RowKit
variable {P : Program}
theorem info_of {t : TypeId} {z : Value} {sz bs : Nat} (h : (P.info? t).map (fun i => (i.zero, i.size, i.bytes)) = some (some z, sz, bs)) : ∃ i, P.info? t = some i ∧ i.zero = some z ∧ i.size = sz ∧ i.bytes = bs := by
  cases hi : P.info? t with
  | none => simp [hi] at h
  | some i => simp [hi] at h; exact ⟨i, rfl, h.1, h.2.1, h.2.2⟩
theorem elt_of {t : TypeId} {d : TypeDesc} {z : Value} {sz bs : Nat} {ag : Bool} (hu : P.underlying t = some d) (ha : isAggD d = ag) (h : (P.info? t).map (fun i => (i.zero, i.size, i.bytes)) = some (some z, sz, bs)) : ElT P t ag sz := by
  obtain ⟨i, h1, h2, h3, h4⟩ := info_of h
  exact ⟨⟨d, hu, ha⟩, ⟨i, h1, h3⟩⟩
theorem elt_of2 {t sz : Nat} {ag : Bool} (hu : (P.underlying t).map isAggD = some ag) (h : (P.info? t).map (·.size) = some sz) : ElT P t ag sz := by
  obtain ⟨d, h1, h2⟩ := Option.map_eq_some_iff.1 hu
  obtain ⟨i, h3, h4⟩ := Option.map_eq_some_iff.1 h
  exact ⟨⟨d, h1, h2⟩, ⟨i, h3, h4⟩⟩
theorem zrt_of {t : TypeId} {z : Value} {sz bs : Nat} {zc : List Value} (h : (P.info? t).map (fun i => (i.zero, i.size, i.bytes)) = some (some z, sz, bs)) (hz : z.cells.toList = zc) : ZrT P t zc := by
  obtain ⟨i, h1, h2, h3, h4⟩ := info_of h
  exact ⟨⟨i, z, h1, h2, hz⟩⟩
theorem slt_of {t el : TypeId} {z : Value} {sz bs : Nat} {zc : List Value} (hu : P.underlying t = some (.slice el)) (h : (P.info? el).map (fun i => (i.zero, i.size, i.bytes)) = some (some z, sz, bs)) (hz : z.cells.toList = zc) (hl : zc.length = sz) (hp : 0 < sz) : SlT P t el sz bs zc := by
  obtain ⟨i, h1, h2, h3, h4⟩ := info_of h
  exact ⟨hu, ⟨i, z, h1, h3, h4, h2, hz⟩, hl, hp⟩
theorem art_of {t len el sz : Nat} (hu : P.underlying t = some (.array len el)) (h : (P.info? el).map (·.size) = some sz) : ArT P t len el sz := by
  obtain ⟨i, h3, h4⟩ := Option.map_eq_some_iff.1 h
  exact ⟨hu, ⟨i, h3, h4⟩⟩
theorem bdt_of {t : TypeId} {fs : Array Field} {z : Value} {sz bs : Nat} {zc : List Value} {pl : List (Nat × Nat)} (hu : P.underlying t = some (.struct fs)) (h : (P.info? t).map (fun i => (i.zero, i.size, i.bytes)) = some (some z, sz, bs)) (hz : z.cells.toList = zc)
    (h1 : fs.toList.map (·.offset) = pl.map (·.1)) (h2 : fs.toList.map (fun f => (P.info? f.type).map (·.size)) = pl.map (fun x => some x.2)) : BdT P t zc pl := by
  obtain ⟨i, g1, g2, g3, g4⟩ := info_of h
  exact ⟨⟨i, z, g1, g2, hz⟩, .inl ⟨fs, hu, h1, h2⟩⟩
theorem bda_of {t len el sz s2 : Nat} {z : Value} {bs : Nat} {zc : List Value} (hu : P.underlying t = some (.array len el)) (h : (P.info? t).map (fun i => (i.zero, i.size, i.bytes)) = some (some z, s2, bs)) (hz : z.cells.toList = zc) (h2 : (P.info? el).map (·.size) = some sz) : BdT P t zc ((List.range len).map fun i => (i * sz, sz)) := by
  obtain ⟨i, g1, g2, g3, g4⟩ := info_of h
  obtain ⟨j, h3, h4⟩ := Option.map_eq_some_iff.1 h2
  exact ⟨⟨i, z, g1, g2, hz⟩, .inr ⟨len, el, sz, hu, ⟨j, h3, h4⟩, rfl⟩⟩
theorem tin1 : (Try.prog.info? 1).map (fun i => (i.zero, i.size, i.bytes)) = some (some (.nilFunc), 1, 8) := by kernel_rfl
theorem tin2 : (Try.prog.info? 2).map (fun i => (i.zero, i.size, i.bytes)) = some (some (.int .i64 0), 1, 8) := by kernel_rfl
theorem tin3 : (Try.prog.info? 3).map (fun i => (i.zero, i.size, i.bytes)) = some (some (.int .i64 0), 1, 8) := by kernel_rfl
theorem tin4 : (Try.prog.info? 4).map (fun i => (i.zero, i.size, i.bytes)) = some (some (.bool false), 1, 1) := by kernel_rfl
theorem tin5 : (Try.prog.info? 5).map (fun i => (i.zero, i.size, i.bytes)) = some (some (.int .u8 0), 1, 1) := by kernel_rfl
theorem tin6 : (Try.prog.info? 6).map (fun i => (i.zero, i.size, i.bytes)) = some (some (.int .u8 0), 1, 1) := by kernel_rfl
theorem tin7 : (Try.prog.info? 7).map (fun i => (i.zero, i.size, i.bytes)) = some (some (.agg #[.int .i64 0, .int .i64 0, .bool false, .int .u8 0]), 4, 24) := by kernel_rfl
theorem tfd7_0 : FdT Try.prog 7 0 0 2 1 false := ⟨⟨_, Try.underlying7, _, rfl, rfl, rfl⟩, elt_of2 (by kernel_rfl) (by kernel_rfl), by decide⟩
theorem tfd7_1 : FdT Try.prog 7 1 1 3 1 false := ⟨⟨_, Try.underlying7, _, rfl, rfl, rfl⟩, elt_of2 (by kernel_rfl) (by kernel_rfl), by decide⟩
theorem tfd7_2 : FdT Try.prog 7 2 2 4 1 false := ⟨⟨_, Try.underlying7, _, rfl, rfl, rfl⟩, elt_of2 (by kernel_rfl) (by kernel_rfl), by decide⟩
theorem tfd7_3 : FdT Try.prog 7 3 3 6 1 false := ⟨⟨_, Try.underlying7, _, rfl, rfl, rfl⟩, elt_of2 (by kernel_rfl) (by kernel_rfl), by decide⟩
theorem tin8 : (Try.prog.info? 8).map (fun i => (i.zero, i.size, i.bytes)) = some (some (.agg #[.int .i64 0, .int .i64 0, .bool false, .int .u8 0]), 4, 24) := by kernel_rfl
theorem tfd8_0 : FdT Try.prog 8 0 0 2 1 false := ⟨⟨_, Try.underlying8, _, rfl, rfl, rfl⟩, elt_of2 (by kernel_rfl) (by kernel_rfl), by decide⟩
theorem tfd8_1 : FdT Try.prog 8 1 1 3 1 false := ⟨⟨_, Try.underlying8, _, rfl, rfl, rfl⟩, elt_of2 (by kernel_rfl) (by kernel_rfl), by decide⟩
theorem tfd8_2 : FdT Try.prog 8 2 2 4 1 false := ⟨⟨_, Try.underlying8, _, rfl, rfl, rfl⟩, elt_of2 (by kernel_rfl) (by kernel_rfl), by decide⟩
theorem tfd8_3 : FdT Try.prog 8 3 3 6 1 false := ⟨⟨_, Try.underlying8, _, rfl, rfl, rfl⟩, elt_of2 (by kernel_rfl) (by kernel_rfl), by decide⟩
theorem tin9 : (Try.prog.info? 9).map (fun i => (i.zero, i.size, i.bytes)) = some (some (.string ⟨#[]⟩), 1, 16) := by kernel_rfl
theorem tin10 : (Try.prog.info? 10).map (fun i => (i.zero, i.size, i.bytes)) = some (some (.string ⟨#[]⟩), 1, 16) := by kernel_rfl
theorem tin11 : (Try.prog.info? 11).map (fun i => (i.zero, i.size, i.bytes)) = some (some (.string ⟨#[]⟩), 1, 16) := by kernel_rfl
theorem tin12 : (Try.prog.info? 12).map (fun i => (i.zero, i.size, i.bytes)) = some (some (.int .u64 0), 1, 8) := by kernel_rfl
theorem tin13 : (Try.prog.info? 13).map (fun i => (i.zero, i.size, i.bytes)) = some (some (.agg #[.string ⟨#[]⟩, .int .u64 0]), 2, 24) := by kernel_rfl
theorem tfd13_0 : FdT Try.prog 13 0 0 9 1 false := ⟨⟨_, Try.underlying13, _, rfl, rfl, rfl⟩, elt_of2 (by kernel_rfl) (by kernel_rfl), by decide⟩
theorem tfd13_1 : FdT Try.prog 13 1 1 12 1 false := ⟨⟨_, Try.underlying13, _, rfl, rfl, rfl⟩, elt_of2 (by kernel_rfl) (by kernel_rfl), by decide⟩
theorem tin14 : (Try.prog.info? 14).map (fun i => (i.zero, i.size, i.bytes)) = some (some (.agg #[.string ⟨#[]⟩, .int .u64 0]), 2, 24) := by kernel_rfl
theorem tfd14_0 : FdT Try.prog 14 0 0 9 1 false := ⟨⟨_, Try.underlying14, _, rfl, rfl, rfl⟩, elt_of2 (by kernel_rfl) (by kernel_rfl), by decide⟩
theorem tfd14_1 : FdT Try.prog 14 1 1 12 1 false := ⟨⟨_, Try.underlying14, _, rfl, rfl, rfl⟩, elt_of2 (by kernel_rfl) (by kernel_rfl), by decide⟩
theorem tin15 : (Try.prog.info? 15).map (fun i => (i.zero, i.size, i.bytes)) = some (some (.pointer none), 1, 8) := by kernel_rfl
theorem tin16 : (Try.prog.info? 16).map (fun i => (i.zero, i.size, i.bytes)) = some (some (.pointer none), 1, 8) := by kernel_rfl
theorem tin17 : (Try.prog.info? 17).map (fun i => (i.zero, i.size, i.bytes)) = some (some (.pointer none), 1, 8) := by kernel_rfl
theorem tin18 : (Try.prog.info? 18).map (fun i => (i.zero, i.size, i.bytes)) = some (some (.agg #[.pointer none]), 1, 8) := by kernel_rfl
theorem tfd18_0 : FdT Try.prog 18 0 0 17 1 false := ⟨⟨_, Try.underlying18, _, rfl, rfl, rfl⟩, elt_of2 (by kernel_rfl) (by kernel_rfl), by decide⟩
theorem tin19 : (Try.prog.info? 19).map (fun i => (i.zero, i.size, i.bytes)) = some (some (.agg #[.pointer none]), 1, 8) := by kernel_rfl
theorem tfd19_0 : FdT Try.prog 19 0 0 17 1 false := ⟨⟨_, Try.underlying19, _, rfl, rfl, rfl⟩, elt_of2 (by kernel_rfl) (by kernel_rfl), by decide⟩
theorem tin21 : (Try.prog.info? 21).map (fun i => (i.zero, i.size, i.bytes)) = some (some (.int .i32 0), 1, 4) := by kernel_rfl
theorem tin22 : (Try.prog.info? 22).map (fun i => (i.zero, i.size, i.bytes)) = some (some (.slice none 0 0), 1, 24) := by kernel_rfl
theorem tel22 : (Try.prog.info? 3).map (fun i => (i.zero, i.size, i.bytes)) = some (some ((.int .i64 0)), 1, 8) := by kernel_rfl
theorem tin23 : (Try.prog.info? 23).map (fun i => (i.zero, i.size, i.bytes)) = some (some (.int .i64 0), 1, 8) := by kernel_rfl
theorem tin25 : (Try.prog.info? 25).map (fun i => (i.zero, i.size, i.bytes)) = some (some (.nilFunc), 1, 8) := by kernel_rfl
theorem tin27 : (Try.prog.info? 27).map (fun i => (i.zero, i.size, i.bytes)) = some (some (.nilFunc), 1, 8) := by kernel_rfl
theorem tin28 : (Try.prog.info? 28).map (fun i => (i.zero, i.size, i.bytes)) = some (some (.nilFunc), 1, 8) := by kernel_rfl
theorem tin30 : (Try.prog.info? 30).map (fun i => (i.zero, i.size, i.bytes)) = some (some (.nilFunc), 1, 8) := by kernel_rfl
theorem tin31 : (Try.prog.info? 31).map (fun i => (i.zero, i.size, i.bytes)) = some (some (.slice none 0 0), 1, 24) := by kernel_rfl
theorem tel31 : (Try.prog.info? 22).map (fun i => (i.zero, i.size, i.bytes)) = some (some ((.slice none 0 0)), 1, 24) := by kernel_rfl
theorem tin32 : (Try.prog.info? 32).map (fun i => (i.zero, i.size, i.bytes)) = some (some (.nilFunc), 1, 8) := by kernel_rfl
theorem tin33 : (Try.prog.info? 33).map (fun i => (i.zero, i.size, i.bytes)) = some (some (.nilFunc), 1, 8) := by kernel_rfl
theorem tin34 : (Try.prog.info? 34).map (fun i => (i.zero, i.size, i.bytes)) = some (some (.nilFunc), 1, 8) := by kernel_rfl
theorem tin35 : (Try.prog.info? 35).map (fun i => (i.zero, i.size, i.bytes)) = some (some (.nilFunc), 1, 8) := by kernel_rfl
theorem tin36 : (Try.prog.info? 36).map (fun i => (i.zero, i.size, i.bytes)) = some (some (.agg #[.int .i64 0, .slice none 0 0]), 2, 32) := by kernel_rfl
theorem tfd36_0 : FdT Try.prog 36 0 0 3 1 false := ⟨⟨_, Try.underlying36, _, rfl, rfl, rfl⟩, elt_of2 (by kernel_rfl) (by kernel_rfl), by decide⟩
theorem tfd36_1 : FdT Try.prog 36 1 1 22 1 false := ⟨⟨_, Try.underlying36, _, rfl, rfl, rfl⟩, elt_of2 (by kernel_rfl) (by kernel_rfl), by decide⟩
theorem tin37 : (Try.prog.info? 37).map (fun i => (i.zero, i.size, i.bytes)) = some (some (.agg #[.int .i64 0, .slice none 0 0]), 2, 32) := by kernel_rfl
theorem tfd37_0 : FdT Try.prog 37 0 0 3 1 false := ⟨⟨_, Try.underlying37, _, rfl, rfl, rfl⟩, elt_of2 (by kernel_rfl) (by kernel_rfl), by decide⟩
theorem tfd37_1 : FdT Try.prog 37 1 1 22 1 false := ⟨⟨_, Try.underlying37, _, rfl, rfl, rfl⟩, elt_of2 (by kernel_rfl) (by kernel_rfl), by decide⟩
theorem tin39 : (Try.prog.info? 39).map (fun i => (i.zero, i.size, i.bytes)) = some (some (.nilFunc), 1, 8) := by kernel_rfl
theorem tin40 : (Try.prog.info? 40).map (fun i => (i.zero, i.size, i.bytes)) = some (some (.nilFunc), 1, 8) := by kernel_rfl
theorem tin41 : (Try.prog.info? 41).map (fun i => (i.zero, i.size, i.bytes)) = some (some (.map none), 1, 8) := by kernel_rfl
theorem tmk41 : ∃ q, Try.prog.underlying 3 = some (.int q) := ⟨_, Try.underlying3⟩
theorem tml41 : ∃ i, Try.prog.info? 3 = some i ∧ i.zero = some (.int .i64 0) := Option.map_eq_some_iff.1 (show (Try.prog.info? 3).map (fun i => i.zero) = some (some (.int .i64 0)) by kernel_rfl)
theorem tin42 : (Try.prog.info? 42).map (fun i => (i.zero, i.size, i.bytes)) = some (some (.map none), 1, 8) := by kernel_rfl
theorem tmk42 : ∃ q, Try.prog.underlying 3 = some (.int q) := ⟨_, Try.underlying3⟩
theorem tml42 : ∃ i, Try.prog.info? 3 = some i ∧ i.zero = some (.int .i64 0) := Option.map_eq_some_iff.1 (show (Try.prog.info? 3).map (fun i => i.zero) = some (some (.int .i64 0)) by kernel_rfl)
theorem tin43 : (Try.prog.info? 43).map (fun i => (i.zero, i.size, i.bytes)) = some (some (.nilFunc), 1, 8) := by kernel_rfl
theorem tin44 : (Try.prog.info? 44).map (fun i => (i.zero, i.size, i.bytes)) = some (some (.nilFunc), 1, 8) := by kernel_rfl
theorem tin45 : (Try.prog.info? 45).map (fun i => (i.zero, i.size, i.bytes)) = some (some (.nilFunc), 1, 8) := by kernel_rfl
theorem tin46 : (Try.prog.info? 46).map (fun i => (i.zero, i.size, i.bytes)) = some (some (.nilFunc), 1, 8) := by kernel_rfl
theorem tin47 : (Try.prog.info? 47).map (fun i => (i.zero, i.size, i.bytes)) = some (some (.nilFunc), 1, 8) := by kernel_rfl
theorem tin48 : (Try.prog.info? 48).map (fun i => (i.zero, i.size, i.bytes)) = some (some (.nilFunc), 1, 8) := by kernel_rfl
theorem tin49 : (Try.prog.info? 49).map (fun i => (i.zero, i.size, i.bytes)) = some (some (.slice none 0 0), 1, 24) := by kernel_rfl
theorem tel49 : (Try.prog.info? 3).map (fun i => (i.zero, i.size, i.bytes)) = some (some ((.int .i64 0)), 1, 8) := by kernel_rfl
theorem tin50 : (Try.prog.info? 50).map (fun i => (i.zero, i.size, i.bytes)) = some (some (.nilFunc), 1, 8) := by kernel_rfl
theorem tin51 : (Try.prog.info? 51).map (fun i => (i.zero, i.size, i.bytes)) = some (some (.nilFunc), 1, 8) := by kernel_rfl
theorem tin52 : (Try.prog.info? 52).map (fun i => (i.zero, i.size, i.bytes)) = some (some (.nilFunc), 1, 8) := by kernel_rfl
theorem tin53 : (Try.prog.info? 53).map (fun i => (i.zero, i.size, i.bytes)) = some (some (.map none), 1, 8) := by kernel_rfl
theorem tmk53 : ∃ q, Try.prog.underlying 3 = some (.int q) := ⟨_, Try.underlying3⟩
theorem tml53 : ∃ i, Try.prog.info? 4 = some i ∧ i.zero = some (.bool false) := Option.map_eq_some_iff.1 (show (Try.prog.info? 4).map (fun i => i.zero) = some (some (.bool false)) by kernel_rfl)
theorem tin55 : (Try.prog.info? 55).map (fun i => (i.zero, i.size, i.bytes)) = some (some (.nilFunc), 1, 8) := by kernel_rfl
theorem tin56 : (Try.prog.info? 56).map (fun i => (i.zero, i.size, i.bytes)) = some (some (.nilFunc), 1, 8) := by kernel_rfl
theorem tin57 : (Try.prog.info? 57).map (fun i => (i.zero, i.size, i.bytes)) = some (some (.nilFunc), 1, 8) := by kernel_rfl
theorem tin58 : (Try.prog.info? 58).map (fun i => (i.zero, i.size, i.bytes)) = some (some (.nilFunc), 1, 8) := by kernel_rfl
theorem tin59 : (Try.prog.info? 59).map (fun i => (i.zero, i.size, i.bytes)) = some (some (.nilFunc), 1, 8) := by kernel_rfl
theorem tin60 : (Try.prog.info? 60).map (fun i => (i.zero, i.size, i.bytes)) = some (some (.nilFunc), 1, 8) := by kernel_rfl
theorem tin61 : (Try.prog.info? 61).map (fun i => (i.zero, i.size, i.bytes)) = some (some (.nilFunc), 1, 8) := by kernel_rfl
theorem tin62 : (Try.prog.info? 62).map (fun i => (i.zero, i.size, i.bytes)) = some (some (.nilFunc), 1, 8) := by kernel_rfl
theorem tin63 : (Try.prog.info? 63).map (fun i => (i.zero, i.size, i.bytes)) = some (some (.pointer none), 1, 8) := by kernel_rfl
theorem tin64 : (Try.prog.info? 64).map (fun i => (i.zero, i.size, i.bytes)) = some (some (.nilFunc), 1, 8) := by kernel_rfl
theorem tin65 : (Try.prog.info? 65).map (fun i => (i.zero, i.size, i.bytes)) = some (some (.agg #[.slice none 0 0]), 1, 24) := by kernel_rfl
theorem tfd65_0 : FdT Try.prog 65 0 0 31 1 false := ⟨⟨_, Try.underlying65, _, rfl, rfl, rfl⟩, elt_of2 (by kernel_rfl) (by kernel_rfl), by decide⟩
theorem tin66 : (Try.prog.info? 66).map (fun i => (i.zero, i.size, i.bytes)) = some (some (.agg #[.slice none 0 0]), 1, 24) := by kernel_rfl
theorem tfd66_0 : FdT Try.prog 66 0 0 31 1 false := ⟨⟨_, Try.underlying66, _, rfl, rfl, rfl⟩, elt_of2 (by kernel_rfl) (by kernel_rfl), by decide⟩
theorem tin67 : (Try.prog.info? 67).map (fun i => (i.zero, i.size, i.bytes)) = some (some (.nilFunc), 1, 8) := by kernel_rfl
theorem tin68 : (Try.prog.info? 68).map (fun i => (i.zero, i.size, i.bytes)) = some (some (.nilFunc), 1, 8) := by kernel_rfl
theorem tin69 : (Try.prog.info? 69).map (fun i => (i.zero, i.size, i.bytes)) = some (some (.nilFunc), 1, 8) := by kernel_rfl
theorem tin70 : (Try.prog.info? 70).map (fun i => (i.zero, i.size, i.bytes)) = some (some (.nilFunc), 1, 8) := by kernel_rfl
theorem tin71 : (Try.prog.info? 71).map (fun i => (i.zero, i.size, i.bytes)) = some (some (.agg #[.int .i64 0, .int .i64 0, .int .i64 0, .int .i64 0, .int .i64 0, .int .i64 0, .int .i64 0, .int .i64 0, .int .i64 0, .int .i64 0, .int .i64 0, .int .i64 0]), 12, 96) := by kernel_rfl
theorem tin72 : (Try.prog.info? 72).map (fun i => (i.zero, i.size, i.bytes)) = some (some (.agg #[.int .i64 0, .int .i64 0, .int .i64 0, .int .i64 0, .int .i64 0, .int .i64 0, .int .i64 0, .int .i64 0, .int .i64 0, .int .i64 0, .int .i64 0, .int .i64 0]), 12, 96) := by kernel_rfl
theorem tin73 : (Try.prog.info? 73).map (fun i => (i.zero, i.size, i.bytes)) = some (some (.nilFunc), 1, 8) := by kernel_rfl
theorem tin74 : (Try.prog.info? 74).map (fun i => (i.zero, i.size, i.bytes)) = some (some (.map none), 1, 8) := by kernel_rfl
theorem tin75 : (Try.prog.info? 75).map (fun i => (i.zero, i.size, i.bytes)) = some (some (.nilFunc), 1, 8) := by kernel_rfl
theorem tin76 : (Try.prog.info? 76).map (fun i => (i.zero, i.size, i.bytes)) = some (some (.nilFunc), 1, 8) := by kernel_rfl
theorem tin77 : (Try.prog.info? 77).map (fun i => (i.zero, i.size, i.bytes)) = some (some (.nilFunc), 1, 8) := by kernel_rfl
theorem tin78 : (Try.prog.info? 78).map (fun i => (i.zero, i.size, i.bytes)) = some (some (.nilFunc), 1, 8) := by kernel_rfl
theorem tin79 : (Try.prog.info? 79).map (fun i => (i.zero, i.size, i.bytes)) = some (some (.nilFunc), 1, 8) := by kernel_rfl
theorem tin80 : (Try.prog.info? 80).map (fun i => (i.zero, i.size, i.bytes)) = some (some (.nilFunc), 1, 8) := by kernel_rfl
theorem tin81 : (Try.prog.info? 81).map (fun i => (i.zero, i.size, i.bytes)) = some (some (.nilFunc), 1, 8) := by kernel_rfl
theorem tin82 : (Try.prog.info? 82).map (fun i => (i.zero, i.size, i.bytes)) = some (some (.agg #[.pointer none, .pointer none, .pointer none, .string ⟨#[]⟩]), 4, 40) := by kernel_rfl
theorem tfd82_0 : FdT Try.prog 82 0 0 17 1 false := ⟨⟨_, Try.underlying82, _, rfl, rfl, rfl⟩, elt_of2 (by kernel_rfl) (by kernel_rfl), by decide⟩
theorem tfd82_1 : FdT Try.prog 82 1 1 17 1 false := ⟨⟨_, Try.underlying82, _, rfl, rfl, rfl⟩, elt_of2 (by kernel_rfl) (by kernel_rfl), by decide⟩
theorem tfd82_2 : FdT Try.prog 82 2 2 17 1 false := ⟨⟨_, Try.underlying82, _, rfl, rfl, rfl⟩, elt_of2 (by kernel_rfl) (by kernel_rfl), by decide⟩
theorem tfd82_3 : FdT Try.prog 82 3 3 9 1 false := ⟨⟨_, Try.underlying82, _, rfl, rfl, rfl⟩, elt_of2 (by kernel_rfl) (by kernel_rfl), by decide⟩
theorem tin83 : (Try.prog.info? 83).map (fun i => (i.zero, i.size, i.bytes)) = some (some (.agg #[.pointer none, .pointer none, .pointer none, .string ⟨#[]⟩]), 4, 40) := by kernel_rfl
theorem tfd83_0 : FdT Try.prog 83 0 0 17 1 false := ⟨⟨_, Try.underlying83, _, rfl, rfl, rfl⟩, elt_of2 (by kernel_rfl) (by kernel_rfl), by decide⟩
theorem tfd83_1 : FdT Try.prog 83 1 1 17 1 false := ⟨⟨_, Try.underlying83, _, rfl, rfl, rfl⟩, elt_of2 (by kernel_rfl) (by kernel_rfl), by decide⟩
theorem tfd83_2 : FdT Try.prog 83 2 2 17 1 false := ⟨⟨_, Try.underlying83, _, rfl, rfl, rfl⟩, elt_of2 (by kernel_rfl) (by kernel_rfl), by decide⟩
theorem tfd83_3 : FdT Try.prog 83 3 3 9 1 false := ⟨⟨_, Try.underlying83, _, rfl, rfl, rfl⟩, elt_of2 (by kernel_rfl) (by kernel_rfl), by decide⟩
theorem tin87 : (Try.prog.info? 87).map (fun i => (i.zero, i.size, i.bytes)) = some (some (.int .u32 0), 1, 4) := by kernel_rfl
theorem tin88 : (Try.prog.info? 88).map (fun i => (i.zero, i.size, i.bytes)) = some (some (.int .u8 0), 1, 1) := by kernel_rfl
theorem tin89 : (Try.prog.info? 89).map (fun i => (i.zero, i.size, i.bytes)) = some (some (.int .u8 0), 1, 1) := by kernel_rfl
theorem tin90 : (Try.prog.info? 90).map (fun i => (i.zero, i.size, i.bytes)) = some (some (.nilFunc), 1, 8) := by kernel_rfl
theorem tin91 : (Try.prog.info? 91).map (fun i => (i.zero, i.size, i.bytes)) = some (some (.pointer none), 1, 8) := by kernel_rfl
theorem tin92 : (Try.prog.info? 92).map (fun i => (i.zero, i.size, i.bytes)) = some (some (.int .i32 0), 1, 4) := by kernel_rfl
theorem tin93 : (Try.prog.info? 93).map (fun i => (i.zero, i.size, i.bytes)) = some (some (.int .i32 0), 1, 4) := by kernel_rfl
theorem tin94 : (Try.prog.info? 94).map (fun i => (i.zero, i.size, i.bytes)) = some (some (.agg #[.int .u64 0, .int .u64 0, .int .u32 0, .int .u8 0, .int .u8 0, .int .u8 0, .int .u8 0, .nilFunc, .pointer none, .int .i32 0, .int .i32 0]), 11, 48) := by kernel_rfl
theorem tfd94_0 : FdT Try.prog 94 0 0 12 1 false := ⟨⟨_, Try.underlying94, _, rfl, rfl, rfl⟩, elt_of2 (by kernel_rfl) (by kernel_rfl), by decide⟩
theorem tfd94_1 : FdT Try.prog 94 1 1 12 1 false := ⟨⟨_, Try.underlying94, _, rfl, rfl, rfl⟩, elt_of2 (by kernel_rfl) (by kernel_rfl), by decide⟩
theorem tfd94_2 : FdT Try.prog 94 2 2 87 1 false := ⟨⟨_, Try.underlying94, _, rfl, rfl, rfl⟩, elt_of2 (by kernel_rfl) (by kernel_rfl), by decide⟩
theorem tfd94_3 : FdT Try.prog 94 3 3 88 1 false := ⟨⟨_, Try.underlying94, _, rfl, rfl, rfl⟩, elt_of2 (by kernel_rfl) (by kernel_rfl), by decide⟩
theorem tfd94_4 : FdT Try.prog 94 4 4 5 1 false := ⟨⟨_, Try.underlying94, _, rfl, rfl, rfl⟩, elt_of2 (by kernel_rfl) (by kernel_rfl), by decide⟩
theorem tfd94_5 : FdT Try.prog 94 5 5 5 1 false := ⟨⟨_, Try.underlying94, _, rfl, rfl, rfl⟩, elt_of2 (by kernel_rfl) (by kernel_rfl), by decide⟩
theorem tfd94_6 : FdT Try.prog 94 6 6 89 1 false := ⟨⟨_, Try.underlying94, _, rfl, rfl, rfl⟩, elt_of2 (by kernel_rfl) (by kernel_rfl), by decide⟩
theorem tfd94_7 : FdT Try.prog 94 7 7 90 1 false := ⟨⟨_, Try.underlying94, _, rfl, rfl, rfl⟩, elt_of2 (by kernel_rfl) (by kernel_rfl), by decide⟩
theorem tfd94_8 : FdT Try.prog 94 8 8 91 1 false := ⟨⟨_, Try.underlying94, _, rfl, rfl, rfl⟩, elt_of2 (by kernel_rfl) (by kernel_rfl), by decide⟩
theorem tfd94_9 : FdT Try.prog 94 9 9 92 1 false := ⟨⟨_, Try.underlying94, _, rfl, rfl, rfl⟩, elt_of2 (by kernel_rfl) (by kernel_rfl), by decide⟩
theorem tfd94_10 : FdT Try.prog 94 10 10 93 1 false := ⟨⟨_, Try.underlying94, _, rfl, rfl, rfl⟩, elt_of2 (by kernel_rfl) (by kernel_rfl), by decide⟩
theorem tin95 : (Try.prog.info? 95).map (fun i => (i.zero, i.size, i.bytes)) = some (some (.agg #[.int .u64 0, .int .u64 0, .int .u32 0, .int .u8 0, .int .u8 0, .int .u8 0, .int .u8 0, .nilFunc, .pointer none, .int .i32 0, .int .i32 0]), 11, 48) := by kernel_rfl
theorem tfd95_0 : FdT Try.prog 95 0 0 12 1 false := ⟨⟨_, Try.underlying95, _, rfl, rfl, rfl⟩, elt_of2 (by kernel_rfl) (by kernel_rfl), by decide⟩
theorem tfd95_1 : FdT Try.prog 95 1 1 12 1 false := ⟨⟨_, Try.underlying95, _, rfl, rfl, rfl⟩, elt_of2 (by kernel_rfl) (by kernel_rfl), by decide⟩
theorem tfd95_2 : FdT Try.prog 95 2 2 87 1 false := ⟨⟨_, Try.underlying95, _, rfl, rfl, rfl⟩, elt_of2 (by kernel_rfl) (by kernel_rfl), by decide⟩
theorem tfd95_3 : FdT Try.prog 95 3 3 88 1 false := ⟨⟨_, Try.underlying95, _, rfl, rfl, rfl⟩, elt_of2 (by kernel_rfl) (by kernel_rfl), by decide⟩
theorem tfd95_4 : FdT Try.prog 95 4 4 5 1 false := ⟨⟨_, Try.underlying95, _, rfl, rfl, rfl⟩, elt_of2 (by kernel_rfl) (by kernel_rfl), by decide⟩
theorem tfd95_5 : FdT Try.prog 95 5 5 5 1 false := ⟨⟨_, Try.underlying95, _, rfl, rfl, rfl⟩, elt_of2 (by kernel_rfl) (by kernel_rfl), by decide⟩
theorem tfd95_6 : FdT Try.prog 95 6 6 89 1 false := ⟨⟨_, Try.underlying95, _, rfl, rfl, rfl⟩, elt_of2 (by kernel_rfl) (by kernel_rfl), by decide⟩
theorem tfd95_7 : FdT Try.prog 95 7 7 90 1 false := ⟨⟨_, Try.underlying95, _, rfl, rfl, rfl⟩, elt_of2 (by kernel_rfl) (by kernel_rfl), by decide⟩
theorem tfd95_8 : FdT Try.prog 95 8 8 91 1 false := ⟨⟨_, Try.underlying95, _, rfl, rfl, rfl⟩, elt_of2 (by kernel_rfl) (by kernel_rfl), by decide⟩
theorem tfd95_9 : FdT Try.prog 95 9 9 92 1 false := ⟨⟨_, Try.underlying95, _, rfl, rfl, rfl⟩, elt_of2 (by kernel_rfl) (by kernel_rfl), by decide⟩
theorem tfd95_10 : FdT Try.prog 95 10 10 93 1 false := ⟨⟨_, Try.underlying95, _, rfl, rfl, rfl⟩, elt_of2 (by kernel_rfl) (by kernel_rfl), by decide⟩
def TT : TypeId → TI
  | 1 => .one (.nilFunc)
  | 2 => .one (.int .i64 0)
  | 3 => .one (.int .i64 0)
  | 4 => .bool
  | 5 => .one (.int .u8 0)
  | 6 => .one (.int .u8 0)
  | 7 => .st 4 [.int .i64 0, .int .i64 0, .bool false, .int .u8 0] [(0, 1, false), (1, 1, false), (2, 1, false), (3, 1, false)]
  | 8 => .st 4 [.int .i64 0, .int .i64 0, .bool false, .int .u8 0] [(0, 1, false), (1, 1, false), (2, 1, false), (3, 1, false)]
  | 9 => .one (.string ⟨#[]⟩)
  | 10 => .one (.string ⟨#[]⟩)
  | 11 => .one (.string ⟨#[]⟩)
  | 12 => .one (.int .u64 0)
  | 13 => .st 2 [.string ⟨#[]⟩, .int .u64 0] [(0, 1, false), (1, 1, false)]
  | 14 => .st 2 [.string ⟨#[]⟩, .int .u64 0] [(0, 1, false), (1, 1, false)]
  | 15 => .one (.pointer none)
  | 16 => .one (.pointer none)
  | 17 => .one (.pointer none)
  | 18 => .st 1 [.pointer none] [(0, 1, false)]
  | 19 => .st 1 [.pointer none] [(0, 1, false)]
  | 21 => .one (.int .i32 0)
  | 22 => .sl 3 1 8 [.int .i64 0]
  | 23 => .one (.int .i64 0)
  | 25 => .one (.nilFunc)
  | 27 => .one (.nilFunc)
  | 28 => .one (.nilFunc)
  | 30 => .one (.nilFunc)
  | 31 => .sl 22 1 24 [.slice none 0 0]
  | 32 => .one (.nilFunc)
  | 33 => .one (.nilFunc)
  | 34 => .one (.nilFunc)
  | 35 => .one (.nilFunc)
  | 36 => .st 2 [.int .i64 0, .slice none 0 0] [(0, 1, false), (1, 1, false)]
  | 37 => .st 2 [.int .i64 0, .slice none 0 0] [(0, 1, false), (1, 1, false)]
  | 39 => .one (.nilFunc)
  | 40 => .one (.nilFunc)
  | 41 => .mp (.int .i64 0)
  | 42 => .mp (.int .i64 0)
  | 43 => .one (.nilFunc)
  | 44 => .one (.nilFunc)
  | 45 => .one (.nilFunc)
  | 46 => .one (.nilFunc)
  | 47 => .one (.nilFunc)
  | 48 => .one (.nilFunc)
  | 49 => .sl 3 1 8 [.int .i64 0]
  | 50 => .one (.nilFunc)
  | 51 => .one (.nilFunc)
  | 52 => .one (.nilFunc)
  | 53 => .mp (.bool false)
  | 55 => .one (.nilFunc)
  | 56 => .one (.nilFunc)
  | 57 => .one (.nilFunc)
  | 58 => .one (.nilFunc)
  | 59 => .one (.nilFunc)
  | 60 => .one (.nilFunc)
  | 61 => .one (.nilFunc)
  | 62 => .one (.nilFunc)
  | 63 => .one (.pointer none)
  | 64 => .one (.nilFunc)
  | 65 => .st 1 [.slice none 0 0] [(0, 1, false)]
  | 66 => .st 1 [.slice none 0 0] [(0, 1, false)]
  | 67 => .one (.nilFunc)
  | 68 => .one (.nilFunc)
  | 69 => .one (.nilFunc)
  | 70 => .one (.nilFunc)
  | 71 => .ar 12 3 1 12 [.int .i64 0, .int .i64 0, .int .i64 0, .int .i64 0, .int .i64 0, .int .i64 0, .int .i64 0, .int .i64 0, .int .i64 0, .int .i64 0, .int .i64 0, .int .i64 0]
  | 72 => .ar 12 3 1 12 [.int .i64 0, .int .i64 0, .int .i64 0, .int .i64 0, .int .i64 0, .int .i64 0, .int .i64 0, .int .i64 0, .int .i64 0, .int .i64 0, .int .i64 0, .int .i64 0]
  | 73 => .one (.nilFunc)
  | 74 => .one (.map none)
  | 75 => .one (.nilFunc)
  | 76 => .one (.nilFunc)
  | 77 => .one (.nilFunc)
  | 78 => .one (.nilFunc)
  | 79 => .one (.nilFunc)
  | 80 => .one (.nilFunc)
  | 81 => .one (.nilFunc)
  | 82 => .st 4 [.pointer none, .pointer none, .pointer none, .string ⟨#[]⟩] [(0, 1, false), (1, 1, false), (2, 1, false), (3, 1, false)]
  | 83 => .st 4 [.pointer none, .pointer none, .pointer none, .string ⟨#[]⟩] [(0, 1, false), (1, 1, false), (2, 1, false), (3, 1, false)]
  | 87 => .one (.int .u32 0)
  | 88 => .one (.int .u8 0)
  | 89 => .one (.int .u8 0)
  | 90 => .one (.nilFunc)
  | 91 => .one (.pointer none)
  | 92 => .one (.int .i32 0)
  | 93 => .one (.int .i32 0)
  | 94 => .st 11 [.int .u64 0, .int .u64 0, .int .u32 0, .int .u8 0, .int .u8 0, .int .u8 0, .int .u8 0, .nilFunc, .pointer none, .int .i32 0, .int .i32 0] [(0, 1, false), (1, 1, false), (2, 1, false), (3, 1, false), (4, 1, false), (5, 1, false), (6, 1, false), (7, 1, false), (8, 1, false), (9, 1, false), (10, 1, false)]
  | 95 => .st 11 [.int .u64 0, .int .u64 0, .int .u32 0, .int .u8 0, .int .u8 0, .int .u8 0, .int .u8 0, .nilFunc, .pointer none, .int .i32 0, .int .i32 0] [(0, 1, false), (1, 1, false), (2, 1, false), (3, 1, false), (4, 1, false), (5, 1, false), (6, 1, false), (7, 1, false), (8, 1, false), (9, 1, false), (10, 1, false)]
  | _ => .oth
theorem tok : TOk Try.prog TT := by
  intro t
  unfold TT
  split
  · exact ⟨elt_of Try.underlying1 rfl tin1, zrt_of tin1 rfl⟩
  · exact ⟨elt_of Try.underlying2 rfl tin2, zrt_of tin2 rfl⟩
  · exact ⟨elt_of Try.underlying3 rfl tin3, zrt_of tin3 rfl⟩
  · exact ⟨elt_of Try.underlying4 rfl tin4, zrt_of tin4 rfl, Try.underlying4⟩
  · exact ⟨elt_of Try.underlying5 rfl tin5, zrt_of tin5 rfl⟩
  · exact ⟨elt_of Try.underlying6 rfl tin6, zrt_of tin6 rfl⟩
  · exact ⟨elt_of Try.underlying7 rfl tin7, zrt_of tin7 rfl, (fun f x hx => by match f, hx with | 0, hx => (cases hx; exact ⟨_, tfd7_0⟩) | 1, hx => (cases hx; exact ⟨_, tfd7_1⟩) | 2, hx => (cases hx; exact ⟨_, tfd7_2⟩) | 3, hx => (cases hx; exact ⟨_, tfd7_3⟩) | f + 4, hx => (simp at hx)), bdt_of Try.underlying7 tin7 rfl rfl (by kernel_rfl)⟩
  · exact ⟨elt_of Try.underlying8 rfl tin8, zrt_of tin8 rfl, (fun f x hx => by match f, hx with | 0, hx => (cases hx; exact ⟨_, tfd8_0⟩) | 1, hx => (cases hx; exact ⟨_, tfd8_1⟩) | 2, hx => (cases hx; exact ⟨_, tfd8_2⟩) | 3, hx => (cases hx; exact ⟨_, tfd8_3⟩) | f + 4, hx => (simp at hx)), bdt_of Try.underlying8 tin8 rfl rfl (by kernel_rfl)⟩
  · exact ⟨elt_of Try.underlying9 rfl tin9, zrt_of tin9 rfl⟩
  · exact ⟨elt_of Try.underlying10 rfl tin10, zrt_of tin10 rfl⟩
  · exact ⟨elt_of Try.underlying11 rfl tin11, zrt_of tin11 rfl⟩
  · exact ⟨elt_of Try.underlying12 rfl tin12, zrt_of tin12 rfl⟩
  · exact ⟨elt_of Try.underlying13 rfl tin13, zrt_of tin13 rfl, (fun f x hx => by match f, hx with | 0, hx => (cases hx; exact ⟨_, tfd13_0⟩) | 1, hx => (cases hx; exact ⟨_, tfd13_1⟩) | f + 2, hx => (simp at hx)), bdt_of Try.underlying13 tin13 rfl rfl (by kernel_rfl)⟩
  · exact ⟨elt_of Try.underlying14 rfl tin14, zrt_of tin14 rfl, (fun f x hx => by match f, hx with | 0, hx => (cases hx; exact ⟨_, tfd14_0⟩) | 1, hx => (cases hx; exact ⟨_, tfd14_1⟩) | f + 2, hx => (simp at hx)), bdt_of Try.underlying14 tin14 rfl rfl (by kernel_rfl)⟩
  · exact ⟨elt_of Try.underlying15 rfl tin15, zrt_of tin15 rfl⟩
  · exact ⟨elt_of Try.underlying16 rfl tin16, zrt_of tin16 rfl⟩
  · exact ⟨elt_of Try.underlying17 rfl tin17, zrt_of tin17 rfl⟩
  · exact ⟨elt_of Try.underlying18 rfl tin18, zrt_of tin18 rfl, (fun f x hx => by match f, hx with | 0, hx => (cases hx; exact ⟨_, tfd18_0⟩) | f + 1, hx => (simp at hx)), bdt_of Try.underlying18 tin18 rfl rfl (by kernel_rfl)⟩
  · exact ⟨elt_of Try.underlying19 rfl tin19, zrt_of tin19 rfl, (fun f x hx => by match f, hx with | 0, hx => (cases hx; exact ⟨_, tfd19_0⟩) | f + 1, hx => (simp at hx)), bdt_of Try.underlying19 tin19 rfl rfl (by kernel_rfl)⟩
  · exact ⟨elt_of Try.underlying21 rfl tin21, zrt_of tin21 rfl⟩
  · exact ⟨elt_of Try.underlying22 rfl tin22, zrt_of tin22 rfl, slt_of Try.underlying22 tel22 rfl rfl (by decide)⟩
  · exact ⟨elt_of Try.underlying23 rfl tin23, zrt_of tin23 rfl⟩
  · exact ⟨elt_of Try.underlying25 rfl tin25, zrt_of tin25 rfl⟩
  · exact ⟨elt_of Try.underlying27 rfl tin27, zrt_of tin27 rfl⟩
  · exact ⟨elt_of Try.underlying28 rfl tin28, zrt_of tin28 rfl⟩
  · exact ⟨elt_of Try.underlying30 rfl tin30, zrt_of tin30 rfl⟩
  · exact ⟨elt_of Try.underlying31 rfl tin31, zrt_of tin31 rfl, slt_of Try.underlying31 tel31 rfl rfl (by decide)⟩
  · exact ⟨elt_of Try.underlying32 rfl tin32, zrt_of tin32 rfl⟩
  · exact ⟨elt_of Try.underlying33 rfl tin33, zrt_of tin33 rfl⟩
  · exact ⟨elt_of Try.underlying34 rfl tin34, zrt_of tin34 rfl⟩
  · exact ⟨elt_of Try.underlying35 rfl tin35, zrt_of tin35 rfl⟩
  · exact ⟨elt_of Try.underlying36 rfl tin36, zrt_of tin36 rfl, (fun f x hx => by match f, hx with | 0, hx => (cases hx; exact ⟨_, tfd36_0⟩) | 1, hx => (cases hx; exact ⟨_, tfd36_1⟩) | f + 2, hx => (simp at hx)), bdt_of Try.underlying36 tin36 rfl rfl (by kernel_rfl)⟩
  · exact ⟨elt_of Try.underlying37 rfl tin37, zrt_of tin37 rfl, (fun f x hx => by match f, hx with | 0, hx => (cases hx; exact ⟨_, tfd37_0⟩) | 1, hx => (cases hx; exact ⟨_, tfd37_1⟩) | f + 2, hx => (simp at hx)), bdt_of Try.underlying37 tin37 rfl rfl (by kernel_rfl)⟩
  · exact ⟨elt_of Try.underlying39 rfl tin39, zrt_of tin39 rfl⟩
  · exact ⟨elt_of Try.underlying40 rfl tin40, zrt_of tin40 rfl⟩
  · exact ⟨elt_of Try.underlying41 rfl tin41, zrt_of tin41 rfl, ⟨_, _, _, Try.underlying41, tmk41.choose_spec, tml41⟩⟩
  · exact ⟨elt_of Try.underlying42 rfl tin42, zrt_of tin42 rfl, ⟨_, _, _, Try.underlying42, tmk42.choose_spec, tml42⟩⟩
  · exact ⟨elt_of Try.underlying43 rfl tin43, zrt_of tin43 rfl⟩
  · exact ⟨elt_of Try.underlying44 rfl tin44, zrt_of tin44 rfl⟩
  · exact ⟨elt_of Try.underlying45 rfl tin45, zrt_of tin45 rfl⟩
  · exact ⟨elt_of Try.underlying46 rfl tin46, zrt_of tin46 rfl⟩
  · exact ⟨elt_of Try.underlying47 rfl tin47, zrt_of tin47 rfl⟩
  · exact ⟨elt_of Try.underlying48 rfl tin48, zrt_of tin48 rfl⟩
  · exact ⟨elt_of Try.underlying49 rfl tin49, zrt_of tin49 rfl, slt_of Try.underlying49 tel49 rfl rfl (by decide)⟩
  · exact ⟨elt_of Try.underlying50 rfl tin50, zrt_of tin50 rfl⟩
  · exact ⟨elt_of Try.underlying51 rfl tin51, zrt_of tin51 rfl⟩
  · exact ⟨elt_of Try.underlying52 rfl tin52, zrt_of tin52 rfl⟩
  · exact ⟨elt_of Try.underlying53 rfl tin53, zrt_of tin53 rfl, ⟨_, _, _, Try.underlying53, tmk53.choose_spec, tml53⟩⟩
  · exact ⟨elt_of Try.underlying55 rfl tin55, zrt_of tin55 rfl⟩
  · exact ⟨elt_of Try.underlying56 rfl tin56, zrt_of tin56 rfl⟩
  · exact ⟨elt_of Try.underlying57 rfl tin57, zrt_of tin57 rfl⟩
  · exact ⟨elt_of Try.underlying58 rfl tin58, zrt_of tin58 rfl⟩
  · exact ⟨elt_of Try.underlying59 rfl tin59, zrt_of tin59 rfl⟩
  · exact ⟨elt_of Try.underlying60 rfl tin60, zrt_of tin60 rfl⟩
  · exact ⟨elt_of Try.underlying61 rfl tin61, zrt_of tin61 rfl⟩
  · exact ⟨elt_of Try.underlying62 rfl tin62, zrt_of tin62 rfl⟩
  · exact ⟨elt_of Try.underlying63 rfl tin63, zrt_of tin63 rfl⟩
  · exact ⟨elt_of Try.underlying64 rfl tin64, zrt_of tin64 rfl⟩
  · exact ⟨elt_of Try.underlying65 rfl tin65, zrt_of tin65 rfl, (fun f x hx => by match f, hx with | 0, hx => (cases hx; exact ⟨_, tfd65_0⟩) | f + 1, hx => (simp at hx)), bdt_of Try.underlying65 tin65 rfl rfl (by kernel_rfl)⟩
  · exact ⟨elt_of Try.underlying66 rfl tin66, zrt_of tin66 rfl, (fun f x hx => by match f, hx with | 0, hx => (cases hx; exact ⟨_, tfd66_0⟩) | f + 1, hx => (simp at hx)), bdt_of Try.underlying66 tin66 rfl rfl (by kernel_rfl)⟩
  · exact ⟨elt_of Try.underlying67 rfl tin67, zrt_of tin67 rfl⟩
  · exact ⟨elt_of Try.underlying68 rfl tin68, zrt_of tin68 rfl⟩
  · exact ⟨elt_of Try.underlying69 rfl tin69, zrt_of tin69 rfl⟩
  · exact ⟨elt_of Try.underlying70 rfl tin70, zrt_of tin70 rfl⟩
  · exact ⟨elt_of Try.underlying71 rfl tin71, zrt_of tin71 rfl, art_of Try.underlying71 (by kernel_rfl), bda_of Try.underlying71 tin71 rfl (by kernel_rfl)⟩
  · exact ⟨elt_of Try.underlying72 rfl tin72, zrt_of tin72 rfl, art_of Try.underlying72 (by kernel_rfl), bda_of Try.underlying72 tin72 rfl (by kernel_rfl)⟩
  · exact ⟨elt_of Try.underlying73 rfl tin73, zrt_of tin73 rfl⟩
  · exact ⟨elt_of Try.underlying74 rfl tin74, zrt_of tin74 rfl⟩
  · exact ⟨elt_of Try.underlying75 rfl tin75, zrt_of tin75 rfl⟩
  · exact ⟨elt_of Try.underlying76 rfl tin76, zrt_of tin76 rfl⟩
  · exact ⟨elt_of Try.underlying77 rfl tin77, zrt_of tin77 rfl⟩
  · exact ⟨elt_of Try.underlying78 rfl tin78, zrt_of tin78 rfl⟩
  · exact ⟨elt_of Try.underlying79 rfl tin79, zrt_of tin79 rfl⟩
  · exact ⟨elt_of Try.underlying80 rfl tin80, zrt_of tin80 rfl⟩
  · exact ⟨elt_of Try.underlying81 rfl tin81, zrt_of tin81 rfl⟩
  · exact ⟨elt_of Try.underlying82 rfl tin82, zrt_of tin82 rfl, (fun f x hx => by match f, hx with | 0, hx => (cases hx; exact ⟨_, tfd82_0⟩) | 1, hx => (cases hx; exact ⟨_, tfd82_1⟩) | 2, hx => (cases hx; exact ⟨_, tfd82_2⟩) | 3, hx => (cases hx; exact ⟨_, tfd82_3⟩) | f + 4, hx => (simp at hx)), bdt_of Try.underlying82 tin82 rfl rfl (by kernel_rfl)⟩
  · exact ⟨elt_of Try.underlying83 rfl tin83, zrt_of tin83 rfl, (fun f x hx => by match f, hx with | 0, hx => (cases hx; exact ⟨_, tfd83_0⟩) | 1, hx => (cases hx; exact ⟨_, tfd83_1⟩) | 2, hx => (cases hx; exact ⟨_, tfd83_2⟩) | 3, hx => (cases hx; exact ⟨_, tfd83_3⟩) | f + 4, hx => (simp at hx)), bdt_of Try.underlying83 tin83 rfl rfl (by kernel_rfl)⟩
  · exact ⟨elt_of Try.underlying87 rfl tin87, zrt_of tin87 rfl⟩
  · exact ⟨elt_of Try.underlying88 rfl tin88, zrt_of tin88 rfl⟩
  · exact ⟨elt_of Try.underlying89 rfl tin89, zrt_of tin89 rfl⟩
  · exact ⟨elt_of Try.underlying90 rfl tin90, zrt_of tin90 rfl⟩
  · exact ⟨elt_of Try.underlying91 rfl tin91, zrt_of tin91 rfl⟩
  · exact ⟨elt_of Try.underlying92 rfl tin92, zrt_of tin92 rfl⟩
  · exact ⟨elt_of Try.underlying93 rfl tin93, zrt_of tin93 rfl⟩
  · exact ⟨elt_of Try.underlying94 rfl tin94, zrt_of tin94 rfl, (fun f x hx => by match f, hx with | 0, hx => (cases hx; exact ⟨_, tfd94_0⟩) | 1, hx => (cases hx; exact ⟨_, tfd94_1⟩) | 2, hx => (cases hx; exact ⟨_, tfd94_2⟩) | 3, hx => (cases hx; exact ⟨_, tfd94_3⟩) | 4, hx => (cases hx; exact ⟨_, tfd94_4⟩) | 5, hx => (cases hx; exact ⟨_, tfd94_5⟩) | 6, hx => (cases hx; exact ⟨_, tfd94_6⟩) | 7, hx => (cases hx; exact ⟨_, tfd94_7⟩) | 8, hx => (cases hx; exact ⟨_, tfd94_8⟩) | 9, hx => (cases hx; exact ⟨_, tfd94_9⟩) | 10, hx => (cases hx; exact ⟨_, tfd94_10⟩) | f + 11, hx => (simp at hx)), bdt_of Try.underlying94 tin94 rfl rfl (by kernel_rfl)⟩
  · exact ⟨elt_of Try.underlying95 rfl tin95, zrt_of tin95 rfl, (fun f x hx => by match f, hx with | 0, hx => (cases hx; exact ⟨_, tfd95_0⟩) | 1, hx => (cases hx; exact ⟨_, tfd95_1⟩) | 2, hx => (cases hx; exact ⟨_, tfd95_2⟩) | 3, hx => (cases hx; exact ⟨_, tfd95_3⟩) | 4, hx => (cases hx; exact ⟨_, tfd95_4⟩) | 5, hx => (cases hx; exact ⟨_, tfd95_5⟩) | 6, hx => (cases hx; exact ⟨_, tfd95_6⟩) | 7, hx => (cases hx; exact ⟨_, tfd95_7⟩) | 8, hx => (cases hx; exact ⟨_, tfd95_8⟩) | 9, hx => (cases hx; exact ⟨_, tfd95_9⟩) | 10, hx => (cases hx; exact ⟨_, tfd95_10⟩) | f + 11, hx => (simp at hx)), bdt_of Try.underlying95 tin95 rfl rfl (by kernel_rfl)⟩
  · trivial
theorem mixed : Try.prog.follows .mixedOrders = true := by kernel_rfl
end Go.Proofs.Ytpmdhkiolgpiaaa
