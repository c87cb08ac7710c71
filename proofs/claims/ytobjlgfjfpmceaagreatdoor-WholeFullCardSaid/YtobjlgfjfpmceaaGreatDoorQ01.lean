/- DERIVED: THE SHELF's CONTRACTS AT THIS DUMP, IN PLAIN WORDS (tools/lay-plain.mjs out of 'TryzShelf.lean', which tools/lay-shelf.mjs wrote): THE SAME D -/
import Derived.Shelf.Strings.Builder1
import Derived.Shelf.Strings.Builder2
import Derived.Shelf.Strings.Trim
import Derived.Shelf.Small.Utf8
import Derived.Shelf.Small.Bits
import Derived.Shelf.Small.Strs
import Derived.Shelf.Small.Wraps
import Derived.Shelf.Strings.BuilderF
import Derived.Shelf.Strconv.Itoa0
import Derived.Shelf.Strings.Search1
import Derived.Shelf.Strings.Search2
import Derived.Shelf.Strings.Search3
import Derived.Shelf.LaysM
import Derived.Shelf.Strings.Shaped
import Derived.Shelf.Strings.Prefix
import Derived.Shelf.Strings.Runes
import Derived.Shelf.Strings.AsciiSet
import Derived.Shelf.Bits.Mul64
import Derived.Shelf.Strings.Repeat
import Derived.Shelf.Unicode.DecodeSlow
import Derived.Ground.Names2Prog
import Derived.Shelf.Slices.CompactI
import Derived.Ground.SlgfProg
import Derived.Shelf.SlicesE.IndexFunc
import Derived.Ground.SlgmProg
import Derived.Shelf.SortM.Plain
import Derived.Shelf.SortM.SortNone
import Derived.Shelf.Bytes.SlEqualAll
import Derived.Shelf.Bytes.Small
import Derived.Test.YtobjlgfjfpmceaaGreatDoorProg
set_option linter.unusedVariables false
set_option maxRecDepth 100000
set_option maxHeartbeats 16000000
namespace Go.Proofs
open Go.Shelf
def Tryz.lays160_ren : Go.Shelf.Ren := ⟨fun | 160 => 177 | 232 => 242 | 231 => 241 | 227 => 243 | 234 => 245 | 233 => 244 | 236 => 247 | 235 => 246 | 228 => 298 | 271 => 301 | 151 => 300 | 197 => 299 | 120 => 333 | 152 => 332 | 260 => 331 | 137 => 360 | 119 => 361 | 224 => 336 | 225 => 335 | 217 => 334 | 266 => 362 | n => n, fun | 9 => 9 | 4 => 4 | 3 => 3 | 5 => 5 | 117 => 318 | 116 => 317 | 0 => 0 | 124 => 321 | 21 => 21 | 105 => 376 | 46 => 105 | 119 => 425 | 139 => 428 | 138 => 427 | n => n, fun | 3 => 3 | 4 => 4 | n => n⟩
theorem Tryz.lays160 : Go.Proofs.Lays.n160 Tryz.prog Tryz.lays160_ren := {
  mixed := by kernel_rfl
  f119 := Tryz.func361.trans (congrArg some (by kernel_rfl))
  f120 := Tryz.func333.trans (congrArg some (by kernel_rfl))
  f137 := Tryz.func360.trans (congrArg some (by kernel_rfl))
  f151 := Tryz.func300.trans (congrArg some (by kernel_rfl))
  f152 := Tryz.func332.trans (congrArg some (by kernel_rfl))
  f160 := Tryz.func177.trans (congrArg some (by kernel_rfl))
  f197 := Tryz.func299.trans (congrArg some (by kernel_rfl))
  f217 := Tryz.func334.trans (congrArg some (by kernel_rfl))
  f224 := Tryz.func336.trans (congrArg some (by kernel_rfl))
  f225 := Tryz.func335.trans (congrArg some (by kernel_rfl))
  f227 := Tryz.func243.trans (congrArg some (by kernel_rfl))
  f228 := Tryz.func298.trans (congrArg some (by kernel_rfl))
  f231 := Tryz.func241.trans (congrArg some (by kernel_rfl))
  f232 := Tryz.func242.trans (congrArg some (by kernel_rfl))
  f233 := Tryz.func244.trans (congrArg some (by kernel_rfl))
  f234 := Tryz.func245.trans (congrArg some (by kernel_rfl))
  f235 := Tryz.func246.trans (congrArg some (by kernel_rfl))
  f236 := Tryz.func247.trans (congrArg some (by kernel_rfl))
  f260 := Tryz.func331.trans (congrArg some (by kernel_rfl))
  f266 := Tryz.func362.trans (congrArg some (by kernel_rfl))
  f271 := Tryz.func301.trans (congrArg some (by kernel_rfl))
  t0 := Tryz.underlying0
  a0 := Tryz.isAgg0
  z0 := Tryz.sizeOf0
  v0 := Tryz.zeroValue0
  t3 := Tryz.underlying3
  a3 := Tryz.isAgg3
  z3 := Tryz.sizeOf3
  v3 := Tryz.zeroValue3
  t4 := Tryz.underlying4
  a4 := Tryz.isAgg4
  z4 := Tryz.sizeOf4
  v4 := Tryz.zeroValue4
  t5 := Tryz.underlying5
  a5 := Tryz.isAgg5
  z5 := Tryz.sizeOf5
  v5 := Tryz.zeroValue5
  t9 := Tryz.underlying9
  a9 := Tryz.isAgg9
  z9 := Tryz.sizeOf9
  v9 := Tryz.zeroValue9
  t21 := Tryz.underlying21
  a21 := Tryz.isAgg21
  z21 := Tryz.sizeOf21
  v21 := Tryz.zeroValue21
  t46 := Tryz.underlying105
  a46 := Tryz.isAgg105
  z46 := Tryz.sizeOf105
  v46 := Tryz.zeroValue105
  t105 := Tryz.underlying376
  a105 := Tryz.isAgg376
  z105 := Tryz.sizeOf376
  v105 := Tryz.zeroValue376
  t116 := Tryz.underlying317
  a116 := Tryz.isAgg317
  z116 := Tryz.sizeOf317
  t117 := Tryz.underlying318
  a117 := Tryz.isAgg318
  z117 := Tryz.sizeOf318
  v117 := Tryz.zeroValue318
  t119 := Tryz.underlying425
  a119 := Tryz.isAgg425
  z119 := Tryz.sizeOf425
  t124 := Tryz.underlying321
  a124 := Tryz.isAgg321
  z124 := Tryz.sizeOf321
  v124 := Tryz.zeroValue321
  t138 := Tryz.underlying427
  a138 := Tryz.isAgg427
  z138 := Tryz.sizeOf427
  v138 := Tryz.zeroValue427
  t139 := Tryz.underlying428
  a139 := Tryz.isAgg428
  z139 := Tryz.sizeOf428
  v139 := Tryz.zeroValue428
  g3 := by kernel_rfl
  g4 := by kernel_rfl }
def Tryz.lays144_ren : Go.Shelf.Ren := ⟨fun | 144 => 178 | 143 => 248 | 219 => 302 | 217 => 334 | 225 => 335 | 224 => 336 | 267 => 337 | 266 => 362 | 314 => 363 | n => n, fun | 9 => 9 | 4 => 4 | 3 => 3 | 5 => 5 | 46 => 105 | 146 => 324 | 51 => 300 | n => n, fun | 1 => 0 | n => n⟩
theorem Tryz.lays144 : Go.Proofs.Lays.n144 Tryz.prog Tryz.lays144_ren := {
  mixed := by kernel_rfl
  f143 := Tryz.func248.trans (congrArg some (by kernel_rfl))
  f144 := Tryz.func178.trans (congrArg some (by kernel_rfl))
  f217 := Tryz.func334.trans (congrArg some (by kernel_rfl))
  f219 := Tryz.func302.trans (congrArg some (by kernel_rfl))
  f224 := Tryz.func336.trans (congrArg some (by kernel_rfl))
  f225 := Tryz.func335.trans (congrArg some (by kernel_rfl))
  f266 := Tryz.func362.trans (congrArg some (by kernel_rfl))
  f267 := Tryz.func337.trans (congrArg some (by kernel_rfl))
  f314 := Tryz.func363.trans (congrArg some (by kernel_rfl))
  t3 := Tryz.underlying3
  a3 := Tryz.isAgg3
  z3 := Tryz.sizeOf3
  v3 := Tryz.zeroValue3
  t4 := Tryz.underlying4
  a4 := Tryz.isAgg4
  z4 := Tryz.sizeOf4
  v4 := Tryz.zeroValue4
  t5 := Tryz.underlying5
  a5 := Tryz.isAgg5
  z5 := Tryz.sizeOf5
  v5 := Tryz.zeroValue5
  t9 := Tryz.underlying9
  a9 := Tryz.isAgg9
  z9 := Tryz.sizeOf9
  v9 := Tryz.zeroValue9
  t46 := Tryz.underlying105
  a46 := Tryz.isAgg105
  z46 := Tryz.sizeOf105
  v46 := Tryz.zeroValue105
  t51 := Tryz.underlying300
  a51 := Tryz.isAgg300
  z51 := Tryz.sizeOf300
  v51 := Tryz.zeroValue300
  t146 := Tryz.underlying324
  a146 := Tryz.isAgg324
  z146 := Tryz.sizeOf324
  v146 := Tryz.zeroValue324
  g1 := by kernel_rfl }
open Go.RowKit Go.Lib in
/-- strings.Contains: "Contains reports whether substr is within s.": AT A substr OF ONE BYTE c: IT RETURNS 'decide (0 ≤ Lib.indexByte s c)'; the world is as it was. (LAID: no walk: one application.) -/
theorem Tryz.strings_Contains_one (s : ByteArray) (c : UInt8) (w : World) :
    Calls Tryz.prog 178 #[.string s, .string ⟨#[c]⟩] w fun e w' => e = .returned (.bool (decide (0 ≤ Lib.indexByte s.data.toList c))) ∧ w' = w := Any.strings_Contains_one Tryz.lays144 s c w
def Tryz.lays99_ren : Go.Shelf.Ren := ⟨fun | 99 => 61 | 206 => 115 | n => n, fun | 9 => 9 | 4 => 4 | 3 => 3 | n => n, fun | n => n⟩
theorem Tryz.lays99 : Go.Proofs.Lays.n99 Tryz.prog Tryz.lays99_ren := {
  mixed := by kernel_rfl
  f99 := Tryz.func61.trans (congrArg some (by kernel_rfl))
  f206 := Tryz.func115.trans (congrArg some (by kernel_rfl))
  t3 := Tryz.underlying3
  a3 := Tryz.isAgg3
  z3 := Tryz.sizeOf3
  v3 := Tryz.zeroValue3
  t4 := Tryz.underlying4
  a4 := Tryz.isAgg4
  z4 := Tryz.sizeOf4
  v4 := Tryz.zeroValue4
  t9 := Tryz.underlying9
  a9 := Tryz.isAgg9
  z9 := Tryz.sizeOf9
  v9 := Tryz.zeroValue9 }
open Go.RowKit Go.Lib in
/-- strings.HasPrefix: "HasPrefix reports whether the string s begins with prefix.": IT RETURNS 'Lib.hasPrefix s prefix'; the world is as it was. (LAID: no walk: one application.) -/
theorem Tryz.strings_HasPrefix (s p : ByteArray) (w : World) :
    Calls Tryz.prog 61 #[.string s, .string p] w fun e w' => e = .returned (.bool (Lib.hasPrefix s.data.toList p.data.toList)) ∧ w' = w := Any.strings_HasPrefix Tryz.lays99 s p w
def Tryz.lays212_ren : Go.Shelf.Ren := ⟨fun | 212 => 180 | 263 => 250 | 264 => 251 | n => n, fun | 46 => 105 | 51 => 300 | 146 => 324 | 53 => 141 | 148 => 326 | n => n, fun | n => n⟩
theorem Tryz.lays212 : Go.Proofs.Lays.n212 Tryz.prog Tryz.lays212_ren := {
  mixed := by kernel_rfl
  f212 := Tryz.func180.trans (congrArg some (by kernel_rfl))
  f263 := Tryz.func250.trans (congrArg some (by kernel_rfl))
  f264 := Tryz.func251.trans (congrArg some (by kernel_rfl))
  t46 := Tryz.underlying105
  a46 := Tryz.isAgg105
  z46 := Tryz.sizeOf105
  v46 := Tryz.zeroValue105
  t51 := Tryz.underlying300
  a51 := Tryz.isAgg300
  z51 := Tryz.sizeOf300
  v51 := Tryz.zeroValue300
  t53 := Tryz.underlying141
  a53 := Tryz.isAgg141
  z53 := Tryz.sizeOf141
  v53 := Tryz.zeroValue141
  t146 := Tryz.underlying324
  a146 := Tryz.isAgg324
  z146 := Tryz.sizeOf324
  v146 := Tryz.zeroValue324
  t148 := Tryz.underlying326
  a148 := Tryz.isAgg326
  z148 := Tryz.sizeOf326
  v148 := Tryz.zeroValue326 }
open Go.RowKit Go.Lib in
/-- math/bits.Mul: "Mul returns the full-width product of x and y": on a machine of 64 bits: Mul64's. (LAID: no walk: one application.) -/
theorem Tryz.bits_Mul (x y : Nat) (hx : x < 18446744073709551616) (hy : y < 18446744073709551616) (w : World) :
    Calls Tryz.prog 180 #[.int .u64 x, .int .u64 y] w fun e w' => e = .returned (.tuple #[.int .u64 ((x * y / 18446744073709551616 : Nat) : Int), .int .u64 ((x * y % 18446744073709551616 : Nat) : Int)]) ∧ w' = w := Any.bits_Mul Tryz.lays212 x y hx hy w
def Tryz.lays105_ren : Go.Shelf.Ren := ⟨fun | 105 => 122 | 212 => 180 | 99 => 61 | 165 => 181 | 166 => 182 | 170 => 183 | 169 => 184 | 263 => 250 | 264 => 251 | 206 => 115 | 240 => 252 | 241 => 253 | 276 => 307 | 277 => 308 | n => n, fun | 9 => 9 | 3 => 3 | 4 => 4 | 20 => 20 | 0 => 0 | 46 => 105 | 109 => 258 | 5 => 5 | 72 => 262 | 76 => 41 | 51 => 300 | 146 => 324 | 53 => 141 | 148 => 326 | 70 => 260 | 37 => 53 | 75 => 31 | 127 => 328 | 164 => 383 | 80 => 265 | n => n, fun | n => n⟩
theorem Tryz.lays105 : Go.Proofs.Lays.n105 Tryz.prog Tryz.lays105_ren := {
  mixed := by kernel_rfl
  f99 := Tryz.func61.trans (congrArg some (by kernel_rfl))
  f105 := Tryz.func122.trans (congrArg some (by kernel_rfl))
  f165 := Tryz.func181.trans (congrArg some (by kernel_rfl))
  f166 := Tryz.func182.trans (congrArg some (by kernel_rfl))
  f169 := Tryz.func184.trans (congrArg some (by kernel_rfl))
  f170 := Tryz.func183.trans (congrArg some (by kernel_rfl))
  f206 := Tryz.func115.trans (congrArg some (by kernel_rfl))
  f212 := Tryz.func180.trans (congrArg some (by kernel_rfl))
  f240 := Tryz.func252.trans (congrArg some (by kernel_rfl))
  f241 := Tryz.func253.trans (congrArg some (by kernel_rfl))
  f263 := Tryz.func250.trans (congrArg some (by kernel_rfl))
  f264 := Tryz.func251.trans (congrArg some (by kernel_rfl))
  f276 := Tryz.func307.trans (congrArg some (by kernel_rfl))
  f277 := Tryz.func308.trans (congrArg some (by kernel_rfl))
  t0 := Tryz.underlying0
  a0 := Tryz.isAgg0
  z0 := Tryz.sizeOf0
  v0 := Tryz.zeroValue0
  t3 := Tryz.underlying3
  a3 := Tryz.isAgg3
  z3 := Tryz.sizeOf3
  v3 := Tryz.zeroValue3
  t4 := Tryz.underlying4
  a4 := Tryz.isAgg4
  z4 := Tryz.sizeOf4
  v4 := Tryz.zeroValue4
  t5 := Tryz.underlying5
  a5 := Tryz.isAgg5
  z5 := Tryz.sizeOf5
  v5 := Tryz.zeroValue5
  t9 := Tryz.underlying9
  a9 := Tryz.isAgg9
  z9 := Tryz.sizeOf9
  v9 := Tryz.zeroValue9
  t20 := Tryz.underlying20
  a20 := Tryz.isAgg20
  z20 := Tryz.sizeOf20
  v20 := Tryz.zeroValue20
  t37 := Tryz.underlying53
  a37 := Tryz.isAgg53
  z37 := Tryz.sizeOf53
  v37 := Tryz.zeroValue53
  t46 := Tryz.underlying105
  a46 := Tryz.isAgg105
  z46 := Tryz.sizeOf105
  v46 := Tryz.zeroValue105
  t51 := Tryz.underlying300
  a51 := Tryz.isAgg300
  z51 := Tryz.sizeOf300
  v51 := Tryz.zeroValue300
  t53 := Tryz.underlying141
  a53 := Tryz.isAgg141
  z53 := Tryz.sizeOf141
  v53 := Tryz.zeroValue141
  t70 := Tryz.underlying260
  a70 := Tryz.isAgg260
  z70 := Tryz.sizeOf260
  v70 := Tryz.zeroValue260
  t72 := Tryz.underlying262
  a72 := Tryz.isAgg262
  z72 := Tryz.sizeOf262
  v72 := Tryz.zeroValue262
  t75 := Tryz.underlying31
  a75 := Tryz.isAgg31
  z75 := Tryz.sizeOf31
  v75 := Tryz.zeroValue31
  t76 := Tryz.underlying41
  a76 := Tryz.isAgg41
  z76 := Tryz.sizeOf41
  v76 := Tryz.zeroValue41
  t109 := Tryz.underlying258
  a109 := Tryz.isAgg258
  z109 := Tryz.sizeOf258
  v109 := Tryz.zeroValue258
  t127 := Tryz.underlying328
  a127 := Tryz.isAgg328
  z127 := Tryz.sizeOf328
  v127 := Tryz.zeroValue328
  t146 := Tryz.underlying324
  a146 := Tryz.isAgg324
  z146 := Tryz.sizeOf324
  v146 := Tryz.zeroValue324
  t148 := Tryz.underlying326
  a148 := Tryz.isAgg326
  z148 := Tryz.sizeOf326
  v148 := Tryz.zeroValue326
  t164 := Tryz.underlying383
  a164 := Tryz.isAgg383
  z164 := Tryz.sizeOf383
  v164 := Tryz.zeroValue383 }
theorem Tryz.Builder_Extra_105 : Builder.Extra Tryz.prog Tryz.lays105_ren := {
  sizeBuilder := by kernel_rfl
  liesBuilder := by kernel_rfl
  t5 := Tryz.underlying5
  a5 := Tryz.isAgg5
  z5 := Tryz.sizeOf5
  v5 := Tryz.zeroValue5
  infoByte := by kernel_rfl
  cellsByte := by kernel_rfl
  sizeByte := by kernel_rfl
  neB5 := by decide }
open Go.RowKit Go.Lib in
/-- **strings.Repeat: count ≥ 0, the result within one allocation: count copies of s.** (LAID: no walk: one application.) -/
theorem Tryz.strings_Repeat (s : ByteArray) (c : Nat) (w : World) (hc : c ≤ 9223372036854775807) (hlen : s.size * c ≤ 140737488355328) :
    Calls Tryz.prog 122 #[.string s, .int .i64 c] w fun e w' => e = .returned (.string ⟨(Lib.repeatL s.data.toList c).toArray⟩) ∧ Below w.heap.size w w' := Any.strings_Repeat Tryz.lays105 Tryz.Builder_Extra_105 s c w hc hlen
def Tryz.laysNm220_ren : Go.Shelf.Ren := ⟨fun | 20 => 101 | n => n, fun | 22 => 64 | 3 => 3 | 4 => 4 | 0 => 0 | n => n, fun | n => n⟩
theorem Tryz.laysNm220 : Go.Proofs.Lays2.n20 Tryz.prog Tryz.laysNm220_ren := {
  mixed := by kernel_rfl
  f20 := Tryz.func101.trans (congrArg some (by kernel_rfl))
  t0 := Tryz.underlying0
  a0 := Tryz.isAgg0
  z0 := Tryz.sizeOf0
  v0 := Tryz.zeroValue0
  t3 := Tryz.underlying3
  a3 := Tryz.isAgg3
  z3 := Tryz.sizeOf3
  v3 := Tryz.zeroValue3
  t4 := Tryz.underlying4
  a4 := Tryz.isAgg4
  z4 := Tryz.sizeOf4
  v4 := Tryz.zeroValue4
  t22 := Tryz.underlying64
  a22 := Tryz.isAgg64
  z22 := Tryz.sizeOf64
  v22 := Tryz.zeroValue64
  i3 := by kernel_rfl }
open Go.RowKit Go.Lib Go.Sort in
/-- slices.Compact at []int: "Compact replaces consecutive runs of equal elements with a single copy. This is like the uniq command found on Unix. Compact modifies the contents of the slice s and returns the modified slice, which may have a smaller length. Compact zeroes the elements between the new length and the original length. The result preserves the nilness of s.": IT RETURNS THE SLICE CUT TO 'Lib.compact zs'; ITS CELLS HOLD 'Lib.compact zs', THEN ZERO VALUES up to the old length; all else is as it was, but for the count of draws. IN THE WORDS OF slices.Sort's CONTRACT ('Holds', 'putRow'): so the everyday 'slices.Sort(xs); xs = slices.Compact(xs)' goes from the one contract to the other. It asks 'zs.length ≤ cap' (every slice's: the reslicing 's[:k]' looks at it). Length 0, nil: '.._empty'. (LAID: no walk: one application.) -/
theorem Tryz.slices_Compact_int (blk off cap : Nat) (zs : List Int) (w : World) (hH : Holds (Value.int .i64) w blk off zs.toArray) (hsz : zs.length ≤ 9223372036854775807) (hcap : zs.length ≤ cap) :
    Calls Tryz.prog 101 #[.slice (some ⟨blk, off, none⟩) zs.length cap] w fun e w' => e = .returned (.slice (some ⟨blk, off, none⟩) (Lib.compact zs).length cap) ∧ ∃ q, w' = putRow (Value.int .i64) (Sort.ahead w q) blk off (Lib.compact zs ++ List.replicate (zs.length - (Lib.compact zs).length) 0).toArray := Any.slices_Compact_int Tryz.laysNm220 blk off cap zs w hH hsz hcap
def Tryz.laysSlM5_f100_ren : Go.Shelf.Ren := ⟨fun | 5 => 100 | 8 => 161 | 7 => 160 | 19 => 223 | 20 => 224 | 10 => 214 | 11 => 215 | 12 => 216 | 13 => 217 | 14 => 218 | 15 => 219 | 16 => 220 | 17 => 221 | 18 => 222 | 30 => 269 | 31 => 270 | 32 => 271 | 33 => 272 | 34 => 273 | 35 => 274 | 40 => 318 | n => n, fun | 23 => 64 | 25 => 3 | 3 => 3 | 32 => 105 | 22 => 64 | 0 => 0 | 44 => 300 | 46 => 141 | 4 => 4 | 36 => 293 | 35 => 292 | 41 => 297 | 5 => 5 | 9 => 9 | 53 => 352 | 57 => 355 | 63 => 391 | 64 => 392 | n => n, fun | n => n⟩
theorem Tryz.laysSlM5_f100 : Go.Proofs.SlLaysM.n5 Tryz.prog Tryz.laysSlM5_f100_ren := {
  mixed := by kernel_rfl
  f5 := ⟨Tryz.f100.name, by decide, Tryz.func100.trans (congrArg some (by kernel_rfl))⟩
  f7 := ⟨Tryz.f160.name, by decide, Tryz.func160.trans (congrArg some (by kernel_rfl))⟩
  f8 := Tryz.func161.trans (congrArg some (by kernel_rfl))
  f10 := ⟨Tryz.f214.name, by decide, Tryz.func214.trans (congrArg some (by kernel_rfl))⟩
  f11 := ⟨Tryz.f215.name, by decide, Tryz.func215.trans (congrArg some (by kernel_rfl))⟩
  f12 := ⟨Tryz.f216.name, by decide, Tryz.func216.trans (congrArg some (by kernel_rfl))⟩
  f13 := ⟨Tryz.f217.name, by decide, Tryz.func217.trans (congrArg some (by kernel_rfl))⟩
  f14 := ⟨Tryz.f218.name, by decide, Tryz.func218.trans (congrArg some (by kernel_rfl))⟩
  f15 := ⟨Tryz.f219.name, by decide, Tryz.func219.trans (congrArg some (by kernel_rfl))⟩
  f16 := ⟨Tryz.f220.name, by decide, Tryz.func220.trans (congrArg some (by kernel_rfl))⟩
  f17 := ⟨Tryz.f221.name, by decide, Tryz.func221.trans (congrArg some (by kernel_rfl))⟩
  f18 := ⟨Tryz.f222.name, by decide, Tryz.func222.trans (congrArg some (by kernel_rfl))⟩
  f19 := Tryz.func223.trans (congrArg some (by kernel_rfl))
  f20 := Tryz.func224.trans (congrArg some (by kernel_rfl))
  f30 := ⟨Tryz.f269.name, by decide, Tryz.func269.trans (congrArg some (by kernel_rfl))⟩
  f31 := Tryz.func270.trans (congrArg some (by kernel_rfl))
  f32 := Tryz.func271.trans (congrArg some (by kernel_rfl))
  f33 := ⟨Tryz.f272.name, by decide, Tryz.func272.trans (congrArg some (by kernel_rfl))⟩
  f34 := ⟨Tryz.f273.name, by decide, Tryz.func273.trans (congrArg some (by kernel_rfl))⟩
  f35 := ⟨Tryz.f274.name, by decide, Tryz.func274.trans (congrArg some (by kernel_rfl))⟩
  f40 := ⟨Tryz.f318.name, by decide, Tryz.func318.trans (congrArg some (by kernel_rfl))⟩
  t0 := Tryz.underlying0
  a0 := Tryz.isAgg0
  z0 := Tryz.sizeOf0
  v0 := Tryz.zeroValue0
  t3 := Tryz.underlying3
  a3 := Tryz.isAgg3
  z3 := Tryz.sizeOf3
  v3 := Tryz.zeroValue3
  t4 := Tryz.underlying4
  a4 := Tryz.isAgg4
  z4 := Tryz.sizeOf4
  v4 := Tryz.zeroValue4
  t5 := Tryz.underlying5
  a5 := Tryz.isAgg5
  z5 := Tryz.sizeOf5
  v5 := Tryz.zeroValue5
  t9 := Tryz.underlying9
  a9 := Tryz.isAgg9
  z9 := Tryz.sizeOf9
  v9 := Tryz.zeroValue9
  t22 := Tryz.underlying64
  a22 := Tryz.isAgg64
  z22 := Tryz.sizeOf64
  v22 := Tryz.zeroValue64
  t23 := Tryz.underlying64
  a23 := Tryz.isAgg64
  z23 := Tryz.sizeOf64
  v23 := Tryz.zeroValue64
  t25 := Tryz.underlying3
  a25 := Tryz.isAgg3
  z25 := Tryz.sizeOf3
  v25 := Tryz.zeroValue3
  t32 := Tryz.underlying105
  a32 := Tryz.isAgg105
  z32 := Tryz.sizeOf105
  v32 := Tryz.zeroValue105
  t35 := Tryz.underlying292
  a35 := Tryz.isAgg292
  z35 := Tryz.sizeOf292
  v35 := Tryz.zeroValue292
  t36 := Tryz.underlying293
  a36 := Tryz.isAgg293
  z36 := Tryz.sizeOf293
  v36 := Tryz.zeroValue293
  t41 := Tryz.underlying297
  a41 := Tryz.isAgg297
  z41 := Tryz.sizeOf297
  v41 := Tryz.zeroValue297
  t44 := Tryz.underlying300
  a44 := Tryz.isAgg300
  z44 := Tryz.sizeOf300
  v44 := Tryz.zeroValue300
  t46 := Tryz.underlying141
  a46 := Tryz.isAgg141
  z46 := Tryz.sizeOf141
  v46 := Tryz.zeroValue141
  t53 := Tryz.underlying352
  a53 := Tryz.isAgg352
  z53 := Tryz.sizeOf352
  v53 := Tryz.zeroValue352
  t57 := Tryz.underlying355
  a57 := Tryz.isAgg355
  z57 := Tryz.sizeOf355
  v57 := Tryz.zeroValue355
  t63 := Tryz.underlying391
  a63 := Tryz.isAgg391
  z63 := Tryz.sizeOf391
  v63 := Tryz.zeroValue391
  t64 := Tryz.underlying392
  a64 := Tryz.isAgg392
  z64 := Tryz.sizeOf392
  v64 := Tryz.zeroValue392 }
open Go.Sort Go.RowKit in
theorem Tryz.slices_Sort_int (blk off cap : Nat) (zs : List Int) (w : World) (hH : Holds (Value.int .i64) w blk off zs.toArray) (hblk : blk < w.heap.size) (hsz : zs.length < 4611686018427387904) :
    Calls Tryz.prog 100 #[.slice (some ⟨blk, off, none⟩) zs.length cap] w fun e w' =>
      e = .returned (.tuple #[]) ∧ ∃ n os, w' = grow (putRow (Value.int .i64) (Sort.ahead w n) blk off (zs.mergeSort fun x y => decide (x ≤ y)).toArray) os := AnyM.slices_Sort_int Tryz.laysSlM5_f100 blk off cap zs w hH hblk hsz
def Tryz.laysSlM6_f175_ren : Go.Shelf.Ren := ⟨fun | 6 => 175 | 8 => 161 | 9 => 240 | 19 => 223 | 20 => 224 | 21 => 289 | 22 => 290 | 23 => 291 | 24 => 292 | 25 => 293 | 26 => 294 | 27 => 295 | 28 => 296 | 29 => 297 | 36 => 327 | 31 => 270 | 32 => 271 | 37 => 328 | 38 => 329 | 39 => 330 | 41 => 359 | n => n, fun | 27 => 128 | 29 => 9 | 3 => 3 | 32 => 105 | 26 => 128 | 0 => 0 | 44 => 300 | 46 => 141 | 4 => 4 | 36 => 293 | 35 => 292 | 41 => 297 | 5 => 5 | 9 => 9 | 53 => 352 | 57 => 355 | 63 => 391 | 64 => 392 | n => n, fun | n => n⟩
theorem Tryz.laysSlM6_f175 : Go.Proofs.SlLaysM.n6 Tryz.prog Tryz.laysSlM6_f175_ren := {
  mixed := by kernel_rfl
  f6 := ⟨Tryz.f175.name, by decide, Tryz.func175.trans (congrArg some (by kernel_rfl))⟩
  f8 := Tryz.func161.trans (congrArg some (by kernel_rfl))
  f9 := ⟨Tryz.f240.name, by decide, Tryz.func240.trans (congrArg some (by kernel_rfl))⟩
  f19 := Tryz.func223.trans (congrArg some (by kernel_rfl))
  f20 := Tryz.func224.trans (congrArg some (by kernel_rfl))
  f21 := ⟨Tryz.f289.name, by decide, Tryz.func289.trans (congrArg some (by kernel_rfl))⟩
  f22 := ⟨Tryz.f290.name, by decide, Tryz.func290.trans (congrArg some (by kernel_rfl))⟩
  f23 := ⟨Tryz.f291.name, by decide, Tryz.func291.trans (congrArg some (by kernel_rfl))⟩
  f24 := ⟨Tryz.f292.name, by decide, Tryz.func292.trans (congrArg some (by kernel_rfl))⟩
  f25 := ⟨Tryz.f293.name, by decide, Tryz.func293.trans (congrArg some (by kernel_rfl))⟩
  f26 := ⟨Tryz.f294.name, by decide, Tryz.func294.trans (congrArg some (by kernel_rfl))⟩
  f27 := ⟨Tryz.f295.name, by decide, Tryz.func295.trans (congrArg some (by kernel_rfl))⟩
  f28 := ⟨Tryz.f296.name, by decide, Tryz.func296.trans (congrArg some (by kernel_rfl))⟩
  f29 := ⟨Tryz.f297.name, by decide, Tryz.func297.trans (congrArg some (by kernel_rfl))⟩
  f31 := Tryz.func270.trans (congrArg some (by kernel_rfl))
  f32 := Tryz.func271.trans (congrArg some (by kernel_rfl))
  f36 := ⟨Tryz.f327.name, by decide, Tryz.func327.trans (congrArg some (by kernel_rfl))⟩
  f37 := ⟨Tryz.f328.name, by decide, Tryz.func328.trans (congrArg some (by kernel_rfl))⟩
  f38 := ⟨Tryz.f329.name, by decide, Tryz.func329.trans (congrArg some (by kernel_rfl))⟩
  f39 := ⟨Tryz.f330.name, by decide, Tryz.func330.trans (congrArg some (by kernel_rfl))⟩
  f41 := ⟨Tryz.f359.name, by decide, Tryz.func359.trans (congrArg some (by kernel_rfl))⟩
  t0 := Tryz.underlying0
  a0 := Tryz.isAgg0
  z0 := Tryz.sizeOf0
  v0 := Tryz.zeroValue0
  t3 := Tryz.underlying3
  a3 := Tryz.isAgg3
  z3 := Tryz.sizeOf3
  v3 := Tryz.zeroValue3
  t4 := Tryz.underlying4
  a4 := Tryz.isAgg4
  z4 := Tryz.sizeOf4
  v4 := Tryz.zeroValue4
  t5 := Tryz.underlying5
  a5 := Tryz.isAgg5
  z5 := Tryz.sizeOf5
  v5 := Tryz.zeroValue5
  t9 := Tryz.underlying9
  a9 := Tryz.isAgg9
  z9 := Tryz.sizeOf9
  v9 := Tryz.zeroValue9
  t26 := Tryz.underlying128
  a26 := Tryz.isAgg128
  z26 := Tryz.sizeOf128
  v26 := Tryz.zeroValue128
  t27 := Tryz.underlying128
  a27 := Tryz.isAgg128
  z27 := Tryz.sizeOf128
  v27 := Tryz.zeroValue128
  t29 := Tryz.underlying9
  a29 := Tryz.isAgg9
  z29 := Tryz.sizeOf9
  v29 := Tryz.zeroValue9
  t32 := Tryz.underlying105
  a32 := Tryz.isAgg105
  z32 := Tryz.sizeOf105
  v32 := Tryz.zeroValue105
  t35 := Tryz.underlying292
  a35 := Tryz.isAgg292
  z35 := Tryz.sizeOf292
  v35 := Tryz.zeroValue292
  t36 := Tryz.underlying293
  a36 := Tryz.isAgg293
  z36 := Tryz.sizeOf293
  v36 := Tryz.zeroValue293
  t41 := Tryz.underlying297
  a41 := Tryz.isAgg297
  z41 := Tryz.sizeOf297
  v41 := Tryz.zeroValue297
  t44 := Tryz.underlying300
  a44 := Tryz.isAgg300
  z44 := Tryz.sizeOf300
  v44 := Tryz.zeroValue300
  t46 := Tryz.underlying141
  a46 := Tryz.isAgg141
  z46 := Tryz.sizeOf141
  v46 := Tryz.zeroValue141
  t53 := Tryz.underlying352
  a53 := Tryz.isAgg352
  z53 := Tryz.sizeOf352
  v53 := Tryz.zeroValue352
  t57 := Tryz.underlying355
  a57 := Tryz.isAgg355
  z57 := Tryz.sizeOf355
  v57 := Tryz.zeroValue355
  t63 := Tryz.underlying391
  a63 := Tryz.isAgg391
  z63 := Tryz.sizeOf391
  v63 := Tryz.zeroValue391
  t64 := Tryz.underlying392
  a64 := Tryz.isAgg392
  z64 := Tryz.sizeOf392
  v64 := Tryz.zeroValue392 }
open Go.Sort Go.RowKit in
theorem Tryz.slices_Sort_string (blk off cap : Nat) (ss : List (List UInt8)) (w : World) (hH : Holds encStr w blk off ss.toArray) (hblk : blk < w.heap.size) (hsz : ss.length < 4611686018427387904) :
    Calls Tryz.prog 175 #[.slice (some ⟨blk, off, none⟩) ss.length cap] w fun e w' =>
      e = .returned (.tuple #[]) ∧ ∃ n os, w' = grow (putRow encStr (Sort.ahead w n) blk off (ss.mergeSort fun x y => decide (x ≤ y)).toArray) os := AnyM.slices_Sort_string Tryz.laysSlM6_f175 blk off cap ss w hH hblk hsz
open Go.RowKit Go.Sort in
/-- .. and plain. (LAID AT THE INSTANCE 'slices.Sort[[]string,string]': no walk: one application.) -/
theorem Tryz.slices_Sort_string_none (p : Option Addr) (cap : Nat) (w : World) :
    Calls Tryz.prog 175 #[.slice p 0 cap] w fun e w' => e = .returned (.tuple #[]) ∧ w' = w := AnyM.slices_Sort_string_none Tryz.laysSlM6_f175 p cap w
end Go.Proofs
