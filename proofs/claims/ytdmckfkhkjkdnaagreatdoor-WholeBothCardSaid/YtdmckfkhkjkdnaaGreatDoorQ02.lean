/- DERIVED: THE SHELF's CONTRACTS AT THIS DUMP, IN PLAIN WORDS (tools/lay-plain.mjs out of 'TryzShelf.lean', which tools/lay-shelf.mjs wrote): THE SAME D -/
import Derived.Shelf.Strings.Builder1
import Derived.Shelf.Strings.Builder2
import Derived.Shelf.Strings.Trim
import Derived.Shelf.Small.Utf8
import Derived.Shelf.Small.Bits
import Derived.Shelf.Small.Strs
import Derived.Shelf.Small.Wraps
import Derived.Shelf.Strings.BuilderF
import Derived.Shelf.Strconv.Itoa0
import Derived.Shelf.Strings.Search1
import Derived.Shelf.Strings.Search2
import Derived.Shelf.Strings.Search3
import Derived.Shelf.LaysM
import Derived.Shelf.Strings.Shaped
import Derived.Shelf.Strings.Prefix
import Derived.Shelf.Strings.Runes
import Derived.Shelf.Strings.AsciiSet
import Derived.Shelf.Bits.Mul64
import Derived.Shelf.Strings.Repeat
import Derived.Shelf.Unicode.DecodeSlow
import Derived.Ground.Names2Prog
import Derived.Shelf.Slices.CompactI
import Derived.Ground.SlgfProg
import Derived.Shelf.SlicesE.IndexFunc
import Derived.Ground.SlgmProg
import Derived.Shelf.SortM.Plain
import Derived.Shelf.SortM.SortNone
import Derived.Shelf.Bytes.SlEqualAll
import Derived.Shelf.Bytes.Small
import Derived.Test.YtdmckfkhkjkdnaaGreatDoorProg
set_option linter.unusedVariables false
set_option maxRecDepth 100000
set_option maxHeartbeats 16000000
namespace Go.Proofs
open Go.Shelf
def Tryz.lays160_ren : Go.Shelf.Ren := ⟨fun | 160 => 251 | 232 => 299 | 231 => 298 | 227 => 300 | 234 => 302 | 233 => 301 | 236 => 304 | 235 => 303 | 228 => 336 | 271 => 339 | 151 => 338 | 197 => 337 | 120 => 362 | 152 => 361 | 260 => 360 | 137 => 377 | 119 => 378 | 224 => 365 | 225 => 364 | 217 => 363 | 266 => 379 | n => n, fun | 9 => 9 | 4 => 4 | 3 => 3 | 5 => 5 | 117 => 404 | 116 => 403 | 0 => 0 | 124 => 407 | 21 => 21 | 105 => 432 | 46 => 37 | 119 => 464 | 139 => 467 | 138 => 466 | n => n, fun | 3 => 6 | 4 => 7 | n => n⟩
theorem Tryz.lays160 : Go.Proofs.Lays.n160 Tryz.prog Tryz.lays160_ren := {
  mixed := by kernel_rfl
  f119 := Tryz.func378.trans (congrArg some (by kernel_rfl))
  f120 := Tryz.func362.trans (congrArg some (by kernel_rfl))
  f137 := Tryz.func377.trans (congrArg some (by kernel_rfl))
  f151 := Tryz.func338.trans (congrArg some (by kernel_rfl))
  f152 := Tryz.func361.trans (congrArg some (by kernel_rfl))
  f160 := Tryz.func251.trans (congrArg some (by kernel_rfl))
  f197 := Tryz.func337.trans (congrArg some (by kernel_rfl))
  f217 := Tryz.func363.trans (congrArg some (by kernel_rfl))
  f224 := Tryz.func365.trans (congrArg some (by kernel_rfl))
  f225 := Tryz.func364.trans (congrArg some (by kernel_rfl))
  f227 := Tryz.func300.trans (congrArg some (by kernel_rfl))
  f228 := Tryz.func336.trans (congrArg some (by kernel_rfl))
  f231 := Tryz.func298.trans (congrArg some (by kernel_rfl))
  f232 := Tryz.func299.trans (congrArg some (by kernel_rfl))
  f233 := Tryz.func301.trans (congrArg some (by kernel_rfl))
  f234 := Tryz.func302.trans (congrArg some (by kernel_rfl))
  f235 := Tryz.func303.trans (congrArg some (by kernel_rfl))
  f236 := Tryz.func304.trans (congrArg some (by kernel_rfl))
  f260 := Tryz.func360.trans (congrArg some (by kernel_rfl))
  f266 := Tryz.func379.trans (congrArg some (by kernel_rfl))
  f271 := Tryz.func339.trans (congrArg some (by kernel_rfl))
  t0 := Tryz.underlying0
  a0 := Tryz.isAgg0
  z0 := Tryz.sizeOf0
  v0 := Tryz.zeroValue0
  t3 := Tryz.underlying3
  a3 := Tryz.isAgg3
  z3 := Tryz.sizeOf3
  v3 := Tryz.zeroValue3
  t4 := Tryz.underlying4
  a4 := Tryz.isAgg4
  z4 := Tryz.sizeOf4
  v4 := Tryz.zeroValue4
  t5 := Tryz.underlying5
  a5 := Tryz.isAgg5
  z5 := Tryz.sizeOf5
  v5 := Tryz.zeroValue5
  t9 := Tryz.underlying9
  a9 := Tryz.isAgg9
  z9 := Tryz.sizeOf9
  v9 := Tryz.zeroValue9
  t21 := Tryz.underlying21
  a21 := Tryz.isAgg21
  z21 := Tryz.sizeOf21
  v21 := Tryz.zeroValue21
  t46 := Tryz.underlying37
  a46 := Tryz.isAgg37
  z46 := Tryz.sizeOf37
  v46 := Tryz.zeroValue37
  t105 := Tryz.underlying432
  a105 := Tryz.isAgg432
  z105 := Tryz.sizeOf432
  v105 := Tryz.zeroValue432
  t116 := Tryz.underlying403
  a116 := Tryz.isAgg403
  z116 := Tryz.sizeOf403
  t117 := Tryz.underlying404
  a117 := Tryz.isAgg404
  z117 := Tryz.sizeOf404
  v117 := Tryz.zeroValue404
  t119 := Tryz.underlying464
  a119 := Tryz.isAgg464
  z119 := Tryz.sizeOf464
  t124 := Tryz.underlying407
  a124 := Tryz.isAgg407
  z124 := Tryz.sizeOf407
  v124 := Tryz.zeroValue407
  t138 := Tryz.underlying466
  a138 := Tryz.isAgg466
  z138 := Tryz.sizeOf466
  v138 := Tryz.zeroValue466
  t139 := Tryz.underlying467
  a139 := Tryz.isAgg467
  z139 := Tryz.sizeOf467
  v139 := Tryz.zeroValue467
  g3 := by kernel_rfl
  g4 := by kernel_rfl }
def Tryz.lays144_ren : Go.Shelf.Ren := ⟨fun | 144 => 252 | 143 => 305 | 219 => 340 | 217 => 363 | 225 => 364 | 224 => 365 | 267 => 366 | 266 => 379 | 314 => 380 | n => n, fun | 9 => 9 | 4 => 4 | 3 => 3 | 5 => 5 | 46 => 37 | 146 => 410 | 51 => 316 | n => n, fun | 1 => 2 | n => n⟩
theorem Tryz.lays144 : Go.Proofs.Lays.n144 Tryz.prog Tryz.lays144_ren := {
  mixed := by kernel_rfl
  f143 := Tryz.func305.trans (congrArg some (by kernel_rfl))
  f144 := Tryz.func252.trans (congrArg some (by kernel_rfl))
  f217 := Tryz.func363.trans (congrArg some (by kernel_rfl))
  f219 := Tryz.func340.trans (congrArg some (by kernel_rfl))
  f224 := Tryz.func365.trans (congrArg some (by kernel_rfl))
  f225 := Tryz.func364.trans (congrArg some (by kernel_rfl))
  f266 := Tryz.func379.trans (congrArg some (by kernel_rfl))
  f267 := Tryz.func366.trans (congrArg some (by kernel_rfl))
  f314 := Tryz.func380.trans (congrArg some (by kernel_rfl))
  t3 := Tryz.underlying3
  a3 := Tryz.isAgg3
  z3 := Tryz.sizeOf3
  v3 := Tryz.zeroValue3
  t4 := Tryz.underlying4
  a4 := Tryz.isAgg4
  z4 := Tryz.sizeOf4
  v4 := Tryz.zeroValue4
  t5 := Tryz.underlying5
  a5 := Tryz.isAgg5
  z5 := Tryz.sizeOf5
  v5 := Tryz.zeroValue5
  t9 := Tryz.underlying9
  a9 := Tryz.isAgg9
  z9 := Tryz.sizeOf9
  v9 := Tryz.zeroValue9
  t46 := Tryz.underlying37
  a46 := Tryz.isAgg37
  z46 := Tryz.sizeOf37
  v46 := Tryz.zeroValue37
  t51 := Tryz.underlying316
  a51 := Tryz.isAgg316
  z51 := Tryz.sizeOf316
  v51 := Tryz.zeroValue316
  t146 := Tryz.underlying410
  a146 := Tryz.isAgg410
  z146 := Tryz.sizeOf410
  v146 := Tryz.zeroValue410
  g1 := by kernel_rfl }
open Go.RowKit Go.Lib in
/-- strings.Contains: "Contains reports whether substr is within s.": AT A substr OF ONE BYTE c: IT RETURNS 'decide (0 ≤ Lib.indexByte s c)'; the world is as it was. (LAID: no walk: one application.) -/
theorem Tryz.strings_Contains_one (s : ByteArray) (c : UInt8) (w : World) :
    Calls Tryz.prog 252 #[.string s, .string ⟨#[c]⟩] w fun e w' => e = .returned (.bool (decide (0 ≤ Lib.indexByte s.data.toList c))) ∧ w' = w := Any.strings_Contains_one Tryz.lays144 s c w
def Tryz.lays99_ren : Go.Shelf.Ren := ⟨fun | 99 => 100 | 206 => 168 | n => n, fun | 9 => 9 | 4 => 4 | 3 => 3 | n => n, fun | n => n⟩
theorem Tryz.lays99 : Go.Proofs.Lays.n99 Tryz.prog Tryz.lays99_ren := {
  mixed := by kernel_rfl
  f99 := Tryz.func100.trans (congrArg some (by kernel_rfl))
  f206 := Tryz.func168.trans (congrArg some (by kernel_rfl))
  t3 := Tryz.underlying3
  a3 := Tryz.isAgg3
  z3 := Tryz.sizeOf3
  v3 := Tryz.zeroValue3
  t4 := Tryz.underlying4
  a4 := Tryz.isAgg4
  z4 := Tryz.sizeOf4
  v4 := Tryz.zeroValue4
  t9 := Tryz.underlying9
  a9 := Tryz.isAgg9
  z9 := Tryz.sizeOf9
  v9 := Tryz.zeroValue9 }
open Go.RowKit Go.Lib in
/-- strings.HasPrefix: "HasPrefix reports whether the string s begins with prefix.": IT RETURNS 'Lib.hasPrefix s prefix'; the world is as it was. (LAID: no walk: one application.) -/
theorem Tryz.strings_HasPrefix (s p : ByteArray) (w : World) :
    Calls Tryz.prog 100 #[.string s, .string p] w fun e w' => e = .returned (.bool (Lib.hasPrefix s.data.toList p.data.toList)) ∧ w' = w := Any.strings_HasPrefix Tryz.lays99 s p w
def Tryz.lays212_ren : Go.Shelf.Ren := ⟨fun | 212 => 254 | 263 => 307 | 264 => 308 | n => n, fun | 46 => 37 | 51 => 316 | 146 => 410 | 53 => 217 | 148 => 412 | n => n, fun | n => n⟩
theorem Tryz.lays212 : Go.Proofs.Lays.n212 Tryz.prog Tryz.lays212_ren := {
  mixed := by kernel_rfl
  f212 := Tryz.func254.trans (congrArg some (by kernel_rfl))
  f263 := Tryz.func307.trans (congrArg some (by kernel_rfl))
  f264 := Tryz.func308.trans (congrArg some (by kernel_rfl))
  t46 := Tryz.underlying37
  a46 := Tryz.isAgg37
  z46 := Tryz.sizeOf37
  v46 := Tryz.zeroValue37
  t51 := Tryz.underlying316
  a51 := Tryz.isAgg316
  z51 := Tryz.sizeOf316
  v51 := Tryz.zeroValue316
  t53 := Tryz.underlying217
  a53 := Tryz.isAgg217
  z53 := Tryz.sizeOf217
  v53 := Tryz.zeroValue217
  t146 := Tryz.underlying410
  a146 := Tryz.isAgg410
  z146 := Tryz.sizeOf410
  v146 := Tryz.zeroValue410
  t148 := Tryz.underlying412
  a148 := Tryz.isAgg412
  z148 := Tryz.sizeOf412
  v148 := Tryz.zeroValue412 }
open Go.RowKit Go.Lib in
/-- math/bits.Mul: "Mul returns the full-width product of x and y": on a machine of 64 bits: Mul64's. (LAID: no walk: one application.) -/
theorem Tryz.bits_Mul (x y : Nat) (hx : x < 18446744073709551616) (hy : y < 18446744073709551616) (w : World) :
    Calls Tryz.prog 254 #[.int .u64 x, .int .u64 y] w fun e w' => e = .returned (.tuple #[.int .u64 ((x * y / 18446744073709551616 : Nat) : Int), .int .u64 ((x * y % 18446744073709551616 : Nat) : Int)]) ∧ w' = w := Any.bits_Mul Tryz.lays212 x y hx hy w
def Tryz.lays105_ren : Go.Shelf.Ren := ⟨fun | 105 => 174 | 212 => 254 | 99 => 100 | 165 => 255 | 166 => 256 | 170 => 257 | 169 => 258 | 263 => 307 | 264 => 308 | 206 => 168 | 240 => 309 | 241 => 310 | 276 => 345 | 277 => 346 | n => n, fun | 9 => 9 | 3 => 3 | 4 => 4 | 20 => 20 | 0 => 0 | 46 => 37 | 109 => 346 | 5 => 5 | 72 => 350 | 76 => 35 | 51 => 316 | 146 => 410 | 53 => 217 | 148 => 412 | 70 => 348 | 37 => 48 | 75 => 34 | 127 => 414 | 164 => 439 | 80 => 353 | n => n, fun | n => n⟩
theorem Tryz.lays105 : Go.Proofs.Lays.n105 Tryz.prog Tryz.lays105_ren := {
  mixed := by kernel_rfl
  f99 := Tryz.func100.trans (congrArg some (by kernel_rfl))
  f105 := Tryz.func174.trans (congrArg some (by kernel_rfl))
  f165 := Tryz.func255.trans (congrArg some (by kernel_rfl))
  f166 := Tryz.func256.trans (congrArg some (by kernel_rfl))
  f169 := Tryz.func258.trans (congrArg some (by kernel_rfl))
  f170 := Tryz.func257.trans (congrArg some (by kernel_rfl))
  f206 := Tryz.func168.trans (congrArg some (by kernel_rfl))
  f212 := Tryz.func254.trans (congrArg some (by kernel_rfl))
  f240 := Tryz.func309.trans (congrArg some (by kernel_rfl))
  f241 := Tryz.func310.trans (congrArg some (by kernel_rfl))
  f263 := Tryz.func307.trans (congrArg some (by kernel_rfl))
  f264 := Tryz.func308.trans (congrArg some (by kernel_rfl))
  f276 := Tryz.func345.trans (congrArg some (by kernel_rfl))
  f277 := Tryz.func346.trans (congrArg some (by kernel_rfl))
  t0 := Tryz.underlying0
  a0 := Tryz.isAgg0
  z0 := Tryz.sizeOf0
  v0 := Tryz.zeroValue0
  t3 := Tryz.underlying3
  a3 := Tryz.isAgg3
  z3 := Tryz.sizeOf3
  v3 := Tryz.zeroValue3
  t4 := Tryz.underlying4
  a4 := Tryz.isAgg4
  z4 := Tryz.sizeOf4
  v4 := Tryz.zeroValue4
  t5 := Tryz.underlying5
  a5 := Tryz.isAgg5
  z5 := Tryz.sizeOf5
  v5 := Tryz.zeroValue5
  t9 := Tryz.underlying9
  a9 := Tryz.isAgg9
  z9 := Tryz.sizeOf9
  v9 := Tryz.zeroValue9
  t20 := Tryz.underlying20
  a20 := Tryz.isAgg20
  z20 := Tryz.sizeOf20
  v20 := Tryz.zeroValue20
  t37 := Tryz.underlying48
  a37 := Tryz.isAgg48
  z37 := Tryz.sizeOf48
  v37 := Tryz.zeroValue48
  t46 := Tryz.underlying37
  a46 := Tryz.isAgg37
  z46 := Tryz.sizeOf37
  v46 := Tryz.zeroValue37
  t51 := Tryz.underlying316
  a51 := Tryz.isAgg316
  z51 := Tryz.sizeOf316
  v51 := Tryz.zeroValue316
  t53 := Tryz.underlying217
  a53 := Tryz.isAgg217
  z53 := Tryz.sizeOf217
  v53 := Tryz.zeroValue217
  t70 := Tryz.underlying348
  a70 := Tryz.isAgg348
  z70 := Tryz.sizeOf348
  v70 := Tryz.zeroValue348
  t72 := Tryz.underlying350
  a72 := Tryz.isAgg350
  z72 := Tryz.sizeOf350
  v72 := Tryz.zeroValue350
  t75 := Tryz.underlying34
  a75 := Tryz.isAgg34
  z75 := Tryz.sizeOf34
  v75 := Tryz.zeroValue34
  t76 := Tryz.underlying35
  a76 := Tryz.isAgg35
  z76 := Tryz.sizeOf35
  v76 := Tryz.zeroValue35
  t109 := Tryz.underlying346
  a109 := Tryz.isAgg346
  z109 := Tryz.sizeOf346
  v109 := Tryz.zeroValue346
  t127 := Tryz.underlying414
  a127 := Tryz.isAgg414
  z127 := Tryz.sizeOf414
  v127 := Tryz.zeroValue414
  t146 := Tryz.underlying410
  a146 := Tryz.isAgg410
  z146 := Tryz.sizeOf410
  v146 := Tryz.zeroValue410
  t148 := Tryz.underlying412
  a148 := Tryz.isAgg412
  z148 := Tryz.sizeOf412
  v148 := Tryz.zeroValue412
  t164 := Tryz.underlying439
  a164 := Tryz.isAgg439
  z164 := Tryz.sizeOf439
  v164 := Tryz.zeroValue439 }
theorem Tryz.Builder_Extra_105 : Builder.Extra Tryz.prog Tryz.lays105_ren := {
  sizeBuilder := by kernel_rfl
  liesBuilder := by kernel_rfl
  t5 := Tryz.underlying5
  a5 := Tryz.isAgg5
  z5 := Tryz.sizeOf5
  v5 := Tryz.zeroValue5
  infoByte := by kernel_rfl
  cellsByte := by kernel_rfl
  sizeByte := by kernel_rfl
  neB5 := by decide }
open Go.RowKit Go.Lib in
/-- **strings.Repeat: count ≥ 0, the result within one allocation: count copies of s.** (LAID: no walk: one application.) -/
theorem Tryz.strings_Repeat (s : ByteArray) (c : Nat) (w : World) (hc : c ≤ 9223372036854775807) (hlen : s.size * c ≤ 140737488355328) :
    Calls Tryz.prog 174 #[.string s, .int .i64 c] w fun e w' => e = .returned (.string ⟨(Lib.repeatL s.data.toList c).toArray⟩) ∧ Below w.heap.size w w' := Any.strings_Repeat Tryz.lays105 Tryz.Builder_Extra_105 s c w hc hlen
def Tryz.laysNm220_ren : Go.Shelf.Ren := ⟨fun | 20 => 93 | n => n, fun | 22 => 55 | 3 => 3 | 4 => 4 | 0 => 0 | n => n, fun | n => n⟩
theorem Tryz.laysNm220 : Go.Proofs.Lays2.n20 Tryz.prog Tryz.laysNm220_ren := {
  mixed := by kernel_rfl
  f20 := Tryz.func93.trans (congrArg some (by kernel_rfl))
  t0 := Tryz.underlying0
  a0 := Tryz.isAgg0
  z0 := Tryz.sizeOf0
  v0 := Tryz.zeroValue0
  t3 := Tryz.underlying3
  a3 := Tryz.isAgg3
  z3 := Tryz.sizeOf3
  v3 := Tryz.zeroValue3
  t4 := Tryz.underlying4
  a4 := Tryz.isAgg4
  z4 := Tryz.sizeOf4
  v4 := Tryz.zeroValue4
  t22 := Tryz.underlying55
  a22 := Tryz.isAgg55
  z22 := Tryz.sizeOf55
  v22 := Tryz.zeroValue55
  i3 := by kernel_rfl }
open Go.RowKit Go.Lib Go.Sort in
/-- slices.Compact at []int: "Compact replaces consecutive runs of equal elements with a single copy. This is like the uniq command found on Unix. Compact modifies the contents of the slice s and returns the modified slice, which may have a smaller length. Compact zeroes the elements between the new length and the original length. The result preserves the nilness of s.": IT RETURNS THE SLICE CUT TO 'Lib.compact zs'; ITS CELLS HOLD 'Lib.compact zs', THEN ZERO VALUES up to the old length; all else is as it was, but for the count of draws. IN THE WORDS OF slices.Sort's CONTRACT ('Holds', 'putRow'): so the everyday 'slices.Sort(xs); xs = slices.Compact(xs)' goes from the one contract to the other. It asks 'zs.length ≤ cap' (every slice's: the reslicing 's[:k]' looks at it). Length 0, nil: '.._empty'. (LAID: no walk: one application.) -/
theorem Tryz.slices_Compact_int (blk off cap : Nat) (zs : List Int) (w : World) (hH : Holds (Value.int .i64) w blk off zs.toArray) (hsz : zs.length ≤ 9223372036854775807) (hcap : zs.length ≤ cap) :
    Calls Tryz.prog 93 #[.slice (some ⟨blk, off, none⟩) zs.length cap] w fun e w' => e = .returned (.slice (some ⟨blk, off, none⟩) (Lib.compact zs).length cap) ∧ ∃ q, w' = putRow (Value.int .i64) (Sort.ahead w q) blk off (Lib.compact zs ++ List.replicate (zs.length - (Lib.compact zs).length) 0).toArray := Any.slices_Compact_int Tryz.laysNm220 blk off cap zs w hH hsz hcap
def Tryz.laysSlM5_f92_ren : Go.Shelf.Ren := ⟨fun | 5 => 92 | 8 => 156 | 7 => 155 | 19 => 234 | 20 => 235 | 10 => 225 | 11 => 226 | 12 => 227 | 13 => 228 | 14 => 229 | 15 => 230 | 16 => 231 | 17 => 232 | 18 => 233 | 30 => 277 | 31 => 278 | 32 => 279 | 33 => 280 | 34 => 281 | 35 => 282 | 40 => 318 | n => n, fun | 23 => 55 | 25 => 3 | 3 => 3 | 32 => 37 | 22 => 55 | 0 => 0 | 44 => 316 | 46 => 217 | 4 => 4 | 36 => 327 | 35 => 326 | 41 => 331 | 5 => 5 | 9 => 9 | 53 => 382 | 57 => 385 | 63 => 418 | 64 => 419 | n => n, fun | n => n⟩
theorem Tryz.laysSlM5_f92 : Go.Proofs.SlLaysM.n5 Tryz.prog Tryz.laysSlM5_f92_ren := {
  mixed := by kernel_rfl
  f5 := ⟨Tryz.f92.name, by decide, Tryz.func92.trans (congrArg some (by kernel_rfl))⟩
  f7 := ⟨Tryz.f155.name, by decide, Tryz.func155.trans (congrArg some (by kernel_rfl))⟩
  f8 := Tryz.func156.trans (congrArg some (by kernel_rfl))
  f10 := ⟨Tryz.f225.name, by decide, Tryz.func225.trans (congrArg some (by kernel_rfl))⟩
  f11 := ⟨Tryz.f226.name, by decide, Tryz.func226.trans (congrArg some (by kernel_rfl))⟩
  f12 := ⟨Tryz.f227.name, by decide, Tryz.func227.trans (congrArg some (by kernel_rfl))⟩
  f13 := ⟨Tryz.f228.name, by decide, Tryz.func228.trans (congrArg some (by kernel_rfl))⟩
  f14 := ⟨Tryz.f229.name, by decide, Tryz.func229.trans (congrArg some (by kernel_rfl))⟩
  f15 := ⟨Tryz.f230.name, by decide, Tryz.func230.trans (congrArg some (by kernel_rfl))⟩
  f16 := ⟨Tryz.f231.name, by decide, Tryz.func231.trans (congrArg some (by kernel_rfl))⟩
  f17 := ⟨Tryz.f232.name, by decide, Tryz.func232.trans (congrArg some (by kernel_rfl))⟩
  f18 := ⟨Tryz.f233.name, by decide, Tryz.func233.trans (congrArg some (by kernel_rfl))⟩
  f19 := Tryz.func234.trans (congrArg some (by kernel_rfl))
  f20 := Tryz.func235.trans (congrArg some (by kernel_rfl))
  f30 := ⟨Tryz.f277.name, by decide, Tryz.func277.trans (congrArg some (by kernel_rfl))⟩
  f31 := Tryz.func278.trans (congrArg some (by kernel_rfl))
  f32 := Tryz.func279.trans (congrArg some (by kernel_rfl))
  f33 := ⟨Tryz.f280.name, by decide, Tryz.func280.trans (congrArg some (by kernel_rfl))⟩
  f34 := ⟨Tryz.f281.name, by decide, Tryz.func281.trans (congrArg some (by kernel_rfl))⟩
  f35 := ⟨Tryz.f282.name, by decide, Tryz.func282.trans (congrArg some (by kernel_rfl))⟩
  f40 := ⟨Tryz.f318.name, by decide, Tryz.func318.trans (congrArg some (by kernel_rfl))⟩
  t0 := Tryz.underlying0
  a0 := Tryz.isAgg0
  z0 := Tryz.sizeOf0
  v0 := Tryz.zeroValue0
  t3 := Tryz.underlying3
  a3 := Tryz.isAgg3
  z3 := Tryz.sizeOf3
  v3 := Tryz.zeroValue3
  t4 := Tryz.underlying4
  a4 := Tryz.isAgg4
  z4 := Tryz.sizeOf4
  v4 := Tryz.zeroValue4
  t5 := Tryz.underlying5
  a5 := Tryz.isAgg5
  z5 := Tryz.sizeOf5
  v5 := Tryz.zeroValue5
  t9 := Tryz.underlying9
  a9 := Tryz.isAgg9
  z9 := Tryz.sizeOf9
  v9 := Tryz.zeroValue9
  t22 := Tryz.underlying55
  a22 := Tryz.isAgg55
  z22 := Tryz.sizeOf55
  v22 := Tryz.zeroValue55
  t23 := Tryz.underlying55
  a23 := Tryz.isAgg55
  z23 := Tryz.sizeOf55
  v23 := Tryz.zeroValue55
  t25 := Tryz.underlying3
  a25 := Tryz.isAgg3
  z25 := Tryz.sizeOf3
  v25 := Tryz.zeroValue3
  t32 := Tryz.underlying37
  a32 := Tryz.isAgg37
  z32 := Tryz.sizeOf37
  v32 := Tryz.zeroValue37
  t35 := Tryz.underlying326
  a35 := Tryz.isAgg326
  z35 := Tryz.sizeOf326
  v35 := Tryz.zeroValue326
  t36 := Tryz.underlying327
  a36 := Tryz.isAgg327
  z36 := Tryz.sizeOf327
  v36 := Tryz.zeroValue327
  t41 := Tryz.underlying331
  a41 := Tryz.isAgg331
  z41 := Tryz.sizeOf331
  v41 := Tryz.zeroValue331
  t44 := Tryz.underlying316
  a44 := Tryz.isAgg316
  z44 := Tryz.sizeOf316
  v44 := Tryz.zeroValue316
  t46 := Tryz.underlying217
  a46 := Tryz.isAgg217
  z46 := Tryz.sizeOf217
  v46 := Tryz.zeroValue217
  t53 := Tryz.underlying382
  a53 := Tryz.isAgg382
  z53 := Tryz.sizeOf382
  v53 := Tryz.zeroValue382
  t57 := Tryz.underlying385
  a57 := Tryz.isAgg385
  z57 := Tryz.sizeOf385
  v57 := Tryz.zeroValue385
  t63 := Tryz.underlying418
  a63 := Tryz.isAgg418
  z63 := Tryz.sizeOf418
  v63 := Tryz.zeroValue418
  t64 := Tryz.underlying419
  a64 := Tryz.isAgg419
  z64 := Tryz.sizeOf419
  v64 := Tryz.zeroValue419 }
open Go.Sort Go.RowKit in
theorem Tryz.slices_Sort_int (blk off cap : Nat) (zs : List Int) (w : World) (hH : Holds (Value.int .i64) w blk off zs.toArray) (hblk : blk < w.heap.size) (hsz : zs.length < 4611686018427387904) :
    Calls Tryz.prog 92 #[.slice (some ⟨blk, off, none⟩) zs.length cap] w fun e w' =>
      e = .returned (.tuple #[]) ∧ ∃ n os, w' = grow (putRow (Value.int .i64) (Sort.ahead w n) blk off (zs.mergeSort fun x y => decide (x ≤ y)).toArray) os := AnyM.slices_Sort_int Tryz.laysSlM5_f92 blk off cap zs w hH hblk hsz
def Tryz.laysSlM6_f249_ren : Go.Shelf.Ren := ⟨fun | 6 => 249 | 8 => 156 | 9 => 297 | 19 => 234 | 20 => 235 | 21 => 327 | 22 => 328 | 23 => 329 | 24 => 330 | 25 => 331 | 26 => 332 | 27 => 333 | 28 => 334 | 29 => 335 | 36 => 356 | 31 => 278 | 32 => 279 | 37 => 357 | 38 => 358 | 39 => 359 | 41 => 376 | n => n, fun | 27 => 204 | 29 => 9 | 3 => 3 | 32 => 37 | 26 => 204 | 0 => 0 | 44 => 316 | 46 => 217 | 4 => 4 | 36 => 327 | 35 => 326 | 41 => 331 | 5 => 5 | 9 => 9 | 53 => 382 | 57 => 385 | 63 => 418 | 64 => 419 | n => n, fun | n => n⟩
theorem Tryz.laysSlM6_f249 : Go.Proofs.SlLaysM.n6 Tryz.prog Tryz.laysSlM6_f249_ren := {
  mixed := by kernel_rfl
  f6 := ⟨Tryz.f249.name, by decide, Tryz.func249.trans (congrArg some (by kernel_rfl))⟩
  f8 := Tryz.func156.trans (congrArg some (by kernel_rfl))
  f9 := ⟨Tryz.f297.name, by decide, Tryz.func297.trans (congrArg some (by kernel_rfl))⟩
  f19 := Tryz.func234.trans (congrArg some (by kernel_rfl))
  f20 := Tryz.func235.trans (congrArg some (by kernel_rfl))
  f21 := ⟨Tryz.f327.name, by decide, Tryz.func327.trans (congrArg some (by kernel_rfl))⟩
  f22 := ⟨Tryz.f328.name, by decide, Tryz.func328.trans (congrArg some (by kernel_rfl))⟩
  f23 := ⟨Tryz.f329.name, by decide, Tryz.func329.trans (congrArg some (by kernel_rfl))⟩
  f24 := ⟨Tryz.f330.name, by decide, Tryz.func330.trans (congrArg some (by kernel_rfl))⟩
  f25 := ⟨Tryz.f331.name, by decide, Tryz.func331.trans (congrArg some (by kernel_rfl))⟩
  f26 := ⟨Tryz.f332.name, by decide, Tryz.func332.trans (congrArg some (by kernel_rfl))⟩
  f27 := ⟨Tryz.f333.name, by decide, Tryz.func333.trans (congrArg some (by kernel_rfl))⟩
  f28 := ⟨Tryz.f334.name, by decide, Tryz.func334.trans (congrArg some (by kernel_rfl))⟩
  f29 := ⟨Tryz.f335.name, by decide, Tryz.func335.trans (congrArg some (by kernel_rfl))⟩
  f31 := Tryz.func278.trans (congrArg some (by kernel_rfl))
  f32 := Tryz.func279.trans (congrArg some (by kernel_rfl))
  f36 := ⟨Tryz.f356.name, by decide, Tryz.func356.trans (congrArg some (by kernel_rfl))⟩
  f37 := ⟨Tryz.f357.name, by decide, Tryz.func357.trans (congrArg some (by kernel_rfl))⟩
  f38 := ⟨Tryz.f358.name, by decide, Tryz.func358.trans (congrArg some (by kernel_rfl))⟩
  f39 := ⟨Tryz.f359.name, by decide, Tryz.func359.trans (congrArg some (by kernel_rfl))⟩
  f41 := ⟨Tryz.f376.name, by decide, Tryz.func376.trans (congrArg some (by kernel_rfl))⟩
  t0 := Tryz.underlying0
  a0 := Tryz.isAgg0
  z0 := Tryz.sizeOf0
  v0 := Tryz.zeroValue0
  t3 := Tryz.underlying3
  a3 := Tryz.isAgg3
  z3 := Tryz.sizeOf3
  v3 := Tryz.zeroValue3
  t4 := Tryz.underlying4
  a4 := Tryz.isAgg4
  z4 := Tryz.sizeOf4
  v4 := Tryz.zeroValue4
  t5 := Tryz.underlying5
  a5 := Tryz.isAgg5
  z5 := Tryz.sizeOf5
  v5 := Tryz.zeroValue5
  t9 := Tryz.underlying9
  a9 := Tryz.isAgg9
  z9 := Tryz.sizeOf9
  v9 := Tryz.zeroValue9
  t26 := Tryz.underlying204
  a26 := Tryz.isAgg204
  z26 := Tryz.sizeOf204
  v26 := Tryz.zeroValue204
  t27 := Tryz.underlying204
  a27 := Tryz.isAgg204
  z27 := Tryz.sizeOf204
  v27 := Tryz.zeroValue204
  t29 := Tryz.underlying9
  a29 := Tryz.isAgg9
  z29 := Tryz.sizeOf9
  v29 := Tryz.zeroValue9
  t32 := Tryz.underlying37
  a32 := Tryz.isAgg37
  z32 := Tryz.sizeOf37
  v32 := Tryz.zeroValue37
  t35 := Tryz.underlying326
  a35 := Tryz.isAgg326
  z35 := Tryz.sizeOf326
  v35 := Tryz.zeroValue326
  t36 := Tryz.underlying327
  a36 := Tryz.isAgg327
  z36 := Tryz.sizeOf327
  v36 := Tryz.zeroValue327
  t41 := Tryz.underlying331
  a41 := Tryz.isAgg331
  z41 := Tryz.sizeOf331
  v41 := Tryz.zeroValue331
  t44 := Tryz.underlying316
  a44 := Tryz.isAgg316
  z44 := Tryz.sizeOf316
  v44 := Tryz.zeroValue316
  t46 := Tryz.underlying217
  a46 := Tryz.isAgg217
  z46 := Tryz.sizeOf217
  v46 := Tryz.zeroValue217
  t53 := Tryz.underlying382
  a53 := Tryz.isAgg382
  z53 := Tryz.sizeOf382
  v53 := Tryz.zeroValue382
  t57 := Tryz.underlying385
  a57 := Tryz.isAgg385
  z57 := Tryz.sizeOf385
  v57 := Tryz.zeroValue385
  t63 := Tryz.underlying418
  a63 := Tryz.isAgg418
  z63 := Tryz.sizeOf418
  v63 := Tryz.zeroValue418
  t64 := Tryz.underlying419
  a64 := Tryz.isAgg419
  z64 := Tryz.sizeOf419
  v64 := Tryz.zeroValue419 }
open Go.Sort Go.RowKit in
theorem Tryz.slices_Sort_string (blk off cap : Nat) (ss : List (List UInt8)) (w : World) (hH : Holds encStr w blk off ss.toArray) (hblk : blk < w.heap.size) (hsz : ss.length < 4611686018427387904) :
    Calls Tryz.prog 249 #[.slice (some ⟨blk, off, none⟩) ss.length cap] w fun e w' =>
      e = .returned (.tuple #[]) ∧ ∃ n os, w' = grow (putRow encStr (Sort.ahead w n) blk off (ss.mergeSort fun x y => decide (x ≤ y)).toArray) os := AnyM.slices_Sort_string Tryz.laysSlM6_f249 blk off cap ss w hH hblk hsz
open Go.RowKit Go.Sort in
/-- .. and plain. (LAID AT THE INSTANCE 'slices.Sort[[]string,string]': no walk: one application.) -/
theorem Tryz.slices_Sort_string_none (p : Option Addr) (cap : Nat) (w : World) :
    Calls Tryz.prog 249 #[.slice p 0 cap] w fun e w' => e = .returned (.tuple #[]) ∧ w' = w := AnyM.slices_Sort_string_none Tryz.laysSlM6_f249 p cap w
end Go.Proofs
