/- The contracts of the library functions that this seat calls, laid by the shelf at its translation. No condition of its own. -/
import Derived.Shelf.Small.Bits
import Derived.Shelf.Small.Wraps
import Derived.Shelf.Strconv.Itoa0
import Derived.Shelf.Sort.Plain
import Derived.Shelf.Bits.Mul64
import Derived.Shelf.Slices.Turned
import Derived.Shelf.Slices.Reverse
import Derived.Shelf.Slices.Equal
import Derived.Ground.Names2Prog
import Derived.Shelf.Slices.Clone
import Derived.Shelf.Slices.SearchI
import Derived.Shelf.Slices.Delete
import Derived.Shelf.Slices.Cells
import Derived.Shelf.Slices.In.SortNone
import Derived.Shelf.Slices.Empties
import Derived.Shelf.Slices.Empties2
import Derived.Test.YtgjfpmjllpgadaaProg
import Derived.Test.YtgjfpmjllpgadaaGLinkPartsBE
import Derived.Test.YtgjfpmjllpgadaaGLinkPartsAZ
import Derived.Test.YtgjfpmjllpgadaaGLinkPartsAU
import Derived.Test.YtgjfpmjllpgadaaGLinkPartsAW
namespace Go.Proofs
open Go.Shelf
def Try.lays128_ren : Go.Shelf.Ren := ⟨fun | 128 => 160 | n => n, fun | 51 => 133 | 3 => 3 | 4 => 4 | 46 => 127 | 5 => 5 | 9 => 9 | n => n, fun | n => n⟩
def Try.lays125_ren : Go.Shelf.Ren := ⟨fun | 125 => 146 | 128 => 160 | 129 => 161 | n => n, fun | 46 => 127 | 3 => 3 | 51 => 133 | 53 => 136 | 4 => 4 | 5 => 5 | 9 => 9 | n => n, fun | n => n⟩
theorem Try.lays125 : Go.Proofs.Lays.n125 Try.prog Try.lays125_ren := {
  mixed := by kernel_rfl
  f125 := Try.func146.trans (congrArg some (by kernel_rfl))
  f128 := Try.func160.trans (congrArg some (by kernel_rfl))
  f129 := Try.func161.trans (congrArg some (by kernel_rfl))
  t3 := Try.underlying3
  a3 := Try.isAgg3
  z3 := Try.sizeOf3
  v3 := Try.zeroValue3
  t4 := Try.underlying4
  a4 := Try.isAgg4
  z4 := Try.sizeOf4
  v4 := Try.zeroValue4
  t5 := Try.underlying5
  a5 := Try.isAgg5
  z5 := Try.sizeOf5
  v5 := Try.zeroValue5
  t9 := Try.underlying9
  a9 := Try.isAgg9
  z9 := Try.sizeOf9
  v9 := Try.zeroValue9
  t46 := Try.underlying127
  a46 := Try.isAgg127
  z46 := Try.sizeOf127
  v46 := Try.zeroValue127
  t51 := Try.underlying133
  a51 := Try.isAgg133
  z51 := Try.sizeOf133
  v51 := Try.zeroValue133
  t53 := Try.underlying136
  a53 := Try.isAgg136
  z53 := Try.sizeOf136
  v53 := Try.zeroValue136 }
theorem Try.bits_Len (x : Int) (w : World) (h0 : 0 ≤ x) (h1 : x ≤ 18446744073709551615) :
    Calls Try.prog 146 #[.int .u64 x] w fun e w' => e = .returned (.int .i64 (Lib.bitLen x.toNat)) ∧ w' = w := Any.bits_Len Try.lays125 x w h0 h1
def Try.lays215_ren : Go.Shelf.Ren := ⟨fun | 215 => 170 | n => n, fun | 3 => 3 | 4 => 4 | n => n, fun | n => n⟩
def Try.lays129_ren : Go.Shelf.Ren := ⟨fun | 129 => 161 | n => n, fun | 53 => 136 | 3 => 3 | 4 => 4 | 46 => 127 | 5 => 5 | 9 => 9 | n => n, fun | n => n⟩
def Try.lays189_ren : Go.Shelf.Ren := ⟨fun | 189 => 134 | 125 => 146 | 257 => 145 | 128 => 160 | 129 => 161 | 294 => 151 | 295 => 152 | 296 => 153 | 297 => 154 | 298 => 155 | 299 => 156 | 216 => 157 | 300 => 158 | 301 => 159 | 328 => 165 | 329 => 166 | 330 => 167 | 331 => 168 | 332 => 169 | 215 => 170 | 343 => 171 | n => n, fun | 28 => 22 | 3 => 3 | 46 => 127 | 0 => 0 | 51 => 133 | 53 => 136 | 4 => 4 | 183 => 141 | 182 => 140 | 131 => 145 | 5 => 5 | 9 => 9 | 218 => 150 | 222 => 154 | 228 => 156 | 229 => 157 | n => n, fun | n => n⟩
def Try.lays264_ren : Go.Shelf.Ren := ⟨fun | 264 => 150 | n => n, fun | 53 => 136 | 46 => 127 | n => n, fun | n => n⟩
def Try.lays212_ren : Go.Shelf.Ren := ⟨fun | 212 => 138 | 263 => 149 | 264 => 150 | n => n, fun | 46 => 127 | 51 => 133 | 146 => 134 | 53 => 136 | 148 => 137 | n => n, fun | n => n⟩
def Try.lays108_ren : Go.Shelf.Ren := ⟨fun | 108 => 98 | n => n, fun | 28 => 22 | 3 => 3 | 0 => 0 | 4 => 4 | n => n, fun | n => n⟩
def Try.lays107_ren : Go.Shelf.Ren := ⟨fun | 107 => 97 | 108 => 98 | n => n, fun | 28 => 22 | 3 => 3 | 4 => 4 | 0 => 0 | n => n, fun | n => n⟩
def Try.lays112_ren : Go.Shelf.Ren := ⟨fun | 112 => 136 | n => n, fun | 28 => 22 | 3 => 3 | 4 => 4 | 0 => 0 | n => n, fun | n => n⟩
def Try.lays111_ren : Go.Shelf.Ren := ⟨fun | 111 => 20 | n => n, fun | 28 => 22 | 3 => 3 | 4 => 4 | 0 => 0 | n => n, fun | n => n⟩
def Try.laysNm215_ren : Go.Shelf.Ren := ⟨fun | 15 => 76 | n => n, fun | 22 => 22 | 3 => 3 | 4 => 4 | n => n, fun | n => n⟩
def Try.laysNm237_ren : Go.Shelf.Ren := ⟨fun | 37 => 170 | n => n, fun | 3 => 3 | 4 => 4 | n => n, fun | n => n⟩
def Try.laysNm231_ren : Go.Shelf.Ren := ⟨fun | 31 => 157 | 37 => 170 | n => n, fun | 3 => 3 | 4 => 4 | n => n, fun | n => n⟩
def Try.laysNm223_ren : Go.Shelf.Ren := ⟨fun | 23 => 129 | n => n, fun | 22 => 22 | 3 => 3 | 4 => 4 | 0 => 0 | n => n, fun | n => n⟩
end Go.Proofs

/- slices.Repeat, as a list of the caller's own. No condition of its own. -/
set_option linter.unusedVariables false
set_option linter.unusedSimpArgs false
namespace Go.Proofs.Ytgjfpmjllpgadaa
open Go.RowKit

/-- a list by its elements -/
def tbl (n : Nat) (G : Nat → Int) : List Int := (List.range n).map G
@[simp] theorem tbl_length (n : Nat) (G : Nat → Int) : (tbl n G).length = n := by simp [tbl]
theorem tbl_get {n : Nat} {G : Nat → Int} {i : Nat} (h : i < n) : (tbl n G).getD i 0 = G i := by simp [tbl, List.getD, h]
/-- d, over and over, up to the length n -/
def repT (d : List Int) (n : Nat) : List Int := tbl n (fun i => d.getD (i % d.length) 0)

theorem conv_ui (n : Nat) (hn : n < 9223372036854775808) (w : World) : (convert 3 127 (.int .i64 n)).run Try.prog w = .ok (.int .u64 n) w := by
  have h1 : IntKind.u64.wrap n = n := by simp [IntKind.wrap, IntKind.signed, IntKind.bits]; omega
  simp [convert, Try.underlying127, Try.underlying3, Conv.intToInt, h1]
/-- .. so far m -/
def repP (d : List Int) (n m : Nat) : List Int := tbl n (fun i => if i < m then d.getD (i % d.length) 0 else 0)
/-- d, k times -/
def rp (d : List Int) : Nat → List Int
  | 0 => []
  | k + 1 => rp d k ++ d
end Go.Proofs.Ytgjfpmjllpgadaa

/- slices.Reverse at a slice of the caller's own. No condition of its own. -/
set_option linter.unusedVariables false
set_option linter.unusedSimpArgs false
namespace Go.Proofs.Ytgjfpmjllpgadaa
open Go.RowKit

end Go.Proofs.Ytgjfpmjllpgadaa
