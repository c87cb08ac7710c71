/- DERIVED: THE SHELF's CONTRACTS AT THIS DUMP, IN PLAIN WORDS (tools/lay-plain.mjs out of 'TryzShelf.lean', which tools/lay-shelf.mjs wrote): THE SAME D -/
import Derived.Shelf.Strings.Builder1
import Derived.Shelf.Strings.Builder2
import Derived.Shelf.Strings.Trim
import Derived.Shelf.Small.Utf8
import Derived.Shelf.Small.Bits
import Derived.Shelf.Small.Strs
import Derived.Shelf.Small.Wraps
import Derived.Shelf.Strings.BuilderF
import Derived.Shelf.Strconv.Itoa0
import Derived.Shelf.Strings.Search1
import Derived.Shelf.Strings.Search2
import Derived.Shelf.Strings.Search3
import Derived.Shelf.LaysM
import Derived.Shelf.Strings.Shaped
import Derived.Shelf.Strings.Prefix
import Derived.Shelf.Strings.Runes
import Derived.Shelf.Strings.AsciiSet
import Derived.Shelf.Bits.Mul64
import Derived.Shelf.Strings.Repeat
import Derived.Shelf.Unicode.DecodeSlow
import Derived.Ground.Names2Prog
import Derived.Shelf.Slices.CompactI
import Derived.Ground.SlgfProg
import Derived.Shelf.SlicesE.IndexFunc
import Derived.Ground.SlgmProg
import Derived.Shelf.SortM.Plain
import Derived.Shelf.SortM.SortNone
import Derived.Shelf.Bytes.SlEqualAll
import Derived.Shelf.Bytes.Small
import Derived.Test.YtnboipdpccnedaaGreatDoorProg
import Derived.Shelf.Strconv.Itoa1
import Derived.Shelf.Strconv.Itoa2
import Derived.Shelf.Strconv.Itoa3
import Derived.Ground.SlgnProg
import Derived.Shelf.SlicesE.Clone
set_option linter.unusedVariables false
set_option maxRecDepth 100000
set_option maxHeartbeats 16000000
namespace Go.Proofs
open Go.Shelf
def Tryz.lays160_ren:Go.Shelf.Ren:=⟨fun | 160=>143 | 232=>203 | 231=>202 | 227=>204 | 234=>206 | 233=>205 | 236=>208 | 235=>207 | 228=>278 | 271=>281 | 151=>280 | 197=>279 | 120=>333 | 152=>332 | 260=>331 | 137=>363 | 119=>364 | 224=>284 | 225=>283 | 217=>282 | 266=>334 | n=>n,fun | 9=>9 | 4=>4 | 3=>3 | 5=>5 | 117=>298 | 116=>297 | 0=>0 | 124=>301 | 21=>21 | 105=>362 | 46=>43 | 119=>431 | 139=>434 | 138=>433 | n=>n,fun | 3=>3 | 4=>4 | n=>n⟩
theorem Tryz.lays160:Go.Proofs.Lays.n160 Tryz.prog Tryz.lays160_ren:={
  mixed:=by kernel_rfl
  f119:=Tryz.func364.trans (congrArg some (by kernel_rfl))
  f120:=Tryz.func333.trans (congrArg some (by kernel_rfl))
  f137:=Tryz.func363.trans (congrArg some (by kernel_rfl))
  f151:=Tryz.func280.trans (congrArg some (by kernel_rfl))
  f152:=Tryz.func332.trans (congrArg some (by kernel_rfl))
  f160:=Tryz.func143.trans (congrArg some (by kernel_rfl))
  f197:=Tryz.func279.trans (congrArg some (by kernel_rfl))
  f217:=Tryz.func282.trans (congrArg some (by kernel_rfl))
  f224:=Tryz.func284.trans (congrArg some (by kernel_rfl))
  f225:=Tryz.func283.trans (congrArg some (by kernel_rfl))
  f227:=Tryz.func204.trans (congrArg some (by kernel_rfl))
  f228:=Tryz.func278.trans (congrArg some (by kernel_rfl))
  f231:=Tryz.func202.trans (congrArg some (by kernel_rfl))
  f232:=Tryz.func203.trans (congrArg some (by kernel_rfl))
  f233:=Tryz.func205.trans (congrArg some (by kernel_rfl))
  f234:=Tryz.func206.trans (congrArg some (by kernel_rfl))
  f235:=Tryz.func207.trans (congrArg some (by kernel_rfl))
  f236:=Tryz.func208.trans (congrArg some (by kernel_rfl))
  f260:=Tryz.func331.trans (congrArg some (by kernel_rfl))
  f266:=Tryz.func334.trans (congrArg some (by kernel_rfl))
  f271:=Tryz.func281.trans (congrArg some (by kernel_rfl))
  t0:=Tryz.underlying0
  a0:=Tryz.isAgg0
  z0:=Tryz.sizeOf0
  v0:=Tryz.zeroValue0
  t3:=Tryz.underlying3
  a3:=Tryz.isAgg3
  z3:=Tryz.sizeOf3
  v3:=Tryz.zeroValue3
  t4:=Tryz.underlying4
  a4:=Tryz.isAgg4
  z4:=Tryz.sizeOf4
  v4:=Tryz.zeroValue4
  t5:=Tryz.underlying5
  a5:=Tryz.isAgg5
  z5:=Tryz.sizeOf5
  v5:=Tryz.zeroValue5
  t9:=Tryz.underlying9
  a9:=Tryz.isAgg9
  z9:=Tryz.sizeOf9
  v9:=Tryz.zeroValue9
  t21:=Tryz.underlying21
  a21:=Tryz.isAgg21
  z21:=Tryz.sizeOf21
  v21:=Tryz.zeroValue21
  t46:=Tryz.underlying43
  a46:=Tryz.isAgg43
  z46:=Tryz.sizeOf43
  v46:=Tryz.zeroValue43
  t105:=Tryz.underlying362
  a105:=Tryz.isAgg362
  z105:=Tryz.sizeOf362
  v105:=Tryz.zeroValue362
  t116:=Tryz.underlying297
  a116:=Tryz.isAgg297
  z116:=Tryz.sizeOf297
  t117:=Tryz.underlying298
  a117:=Tryz.isAgg298
  z117:=Tryz.sizeOf298
  v117:=Tryz.zeroValue298
  t119:=Tryz.underlying431
  a119:=Tryz.isAgg431
  z119:=Tryz.sizeOf431
  t124:=Tryz.underlying301
  a124:=Tryz.isAgg301
  z124:=Tryz.sizeOf301
  v124:=Tryz.zeroValue301
  t138:=Tryz.underlying433
  a138:=Tryz.isAgg433
  z138:=Tryz.sizeOf433
  v138:=Tryz.zeroValue433
  t139:=Tryz.underlying434
  a139:=Tryz.isAgg434
  z139:=Tryz.sizeOf434
  v139:=Tryz.zeroValue434
  g3:=by kernel_rfl
  g4:=by kernel_rfl }
def Tryz.lays144_ren:Go.Shelf.Ren:=⟨fun | 144=>78 | 143=>144 | 219=>209 | 217=>282 | 225=>283 | 224=>284 | 267=>285 | 266=>334 | 314=>335 | n=>n,fun | 9=>9 | 4=>4 | 3=>3 | 5=>5 | 46=>43 | 146=>369 | 51=>167 | n=>n,fun | 1=>0 | n=>n⟩
theorem Tryz.lays144:Go.Proofs.Lays.n144 Tryz.prog Tryz.lays144_ren:={
  mixed:=by kernel_rfl
  f143:=Tryz.func144.trans (congrArg some (by kernel_rfl))
  f144:=Tryz.func78.trans (congrArg some (by kernel_rfl))
  f217:=Tryz.func282.trans (congrArg some (by kernel_rfl))
  f219:=Tryz.func209.trans (congrArg some (by kernel_rfl))
  f224:=Tryz.func284.trans (congrArg some (by kernel_rfl))
  f225:=Tryz.func283.trans (congrArg some (by kernel_rfl))
  f266:=Tryz.func334.trans (congrArg some (by kernel_rfl))
  f267:=Tryz.func285.trans (congrArg some (by kernel_rfl))
  f314:=Tryz.func335.trans (congrArg some (by kernel_rfl))
  t3:=Tryz.underlying3
  a3:=Tryz.isAgg3
  z3:=Tryz.sizeOf3
  v3:=Tryz.zeroValue3
  t4:=Tryz.underlying4
  a4:=Tryz.isAgg4
  z4:=Tryz.sizeOf4
  v4:=Tryz.zeroValue4
  t5:=Tryz.underlying5
  a5:=Tryz.isAgg5
  z5:=Tryz.sizeOf5
  v5:=Tryz.zeroValue5
  t9:=Tryz.underlying9
  a9:=Tryz.isAgg9
  z9:=Tryz.sizeOf9
  v9:=Tryz.zeroValue9
  t46:=Tryz.underlying43
  a46:=Tryz.isAgg43
  z46:=Tryz.sizeOf43
  v46:=Tryz.zeroValue43
  t51:=Tryz.underlying167
  a51:=Tryz.isAgg167
  z51:=Tryz.sizeOf167
  v51:=Tryz.zeroValue167
  t146:=Tryz.underlying369
  a146:=Tryz.isAgg369
  z146:=Tryz.sizeOf369
  v146:=Tryz.zeroValue369
  g1:=by kernel_rfl }
open Go.RowKit Go.Lib in
/-- strings.Contains: "Contains reports whether substr is within s.": AT A substr OF ONE BYTE c: IT RETURNS 'decide (0≤Lib.indexByte s c)';the world is as it was. (LAID: no walk: one application.) -/
theorem Tryz.strings_Contains_one (s:ByteArray) (c:UInt8) (w:World) :
    Calls Tryz.prog 78 #[.string s,.string ⟨#[c]⟩] w fun e w'=>e = .returned (.bool (decide (0≤Lib.indexByte s.data.toList c)))∧w'=w:=Any.strings_Contains_one Tryz.lays144 s c w
def Tryz.lays99_ren:Go.Shelf.Ren:=⟨fun | 99=>32 | 206=>79 | n=>n,fun | 9=>9 | 4=>4 | 3=>3 | n=>n,fun | n=>n⟩
theorem Tryz.lays99:Go.Proofs.Lays.n99 Tryz.prog Tryz.lays99_ren:={
  mixed:=by kernel_rfl
  f99:=Tryz.func32.trans (congrArg some (by kernel_rfl))
  f206:=Tryz.func79.trans (congrArg some (by kernel_rfl))
  t3:=Tryz.underlying3
  a3:=Tryz.isAgg3
  z3:=Tryz.sizeOf3
  v3:=Tryz.zeroValue3
  t4:=Tryz.underlying4
  a4:=Tryz.isAgg4
  z4:=Tryz.sizeOf4
  v4:=Tryz.zeroValue4
  t9:=Tryz.underlying9
  a9:=Tryz.isAgg9
  z9:=Tryz.sizeOf9
  v9:=Tryz.zeroValue9 }
open Go.RowKit Go.Lib in
/-- strings.HasPrefix: "HasPrefix reports whether the string s begins with prefix.": IT RETURNS 'Lib.hasPrefix s prefix';the world is as it was. (LAID: no walk: one application.) -/
theorem Tryz.strings_HasPrefix (s p:ByteArray) (w:World) :
    Calls Tryz.prog 32 #[.string s,.string p] w fun e w'=>e = .returned (.bool (Lib.hasPrefix s.data.toList p.data.toList))∧w'=w:=Any.strings_HasPrefix Tryz.lays99 s p w
def Tryz.lays212_ren:Go.Shelf.Ren:=⟨fun | 212=>213 | 263=>289 | 264=>290 | n=>n,fun | 46=>43 | 51=>167 | 146=>369 | 53=>162 | 148=>244 | n=>n,fun | n=>n⟩
theorem Tryz.lays212:Go.Proofs.Lays.n212 Tryz.prog Tryz.lays212_ren:={
  mixed:=by kernel_rfl
  f212:=Tryz.func213.trans (congrArg some (by kernel_rfl))
  f263:=Tryz.func289.trans (congrArg some (by kernel_rfl))
  f264:=Tryz.func290.trans (congrArg some (by kernel_rfl))
  t46:=Tryz.underlying43
  a46:=Tryz.isAgg43
  z46:=Tryz.sizeOf43
  v46:=Tryz.zeroValue43
  t51:=Tryz.underlying167
  a51:=Tryz.isAgg167
  z51:=Tryz.sizeOf167
  v51:=Tryz.zeroValue167
  t53:=Tryz.underlying162
  a53:=Tryz.isAgg162
  z53:=Tryz.sizeOf162
  v53:=Tryz.zeroValue162
  t146:=Tryz.underlying369
  a146:=Tryz.isAgg369
  z146:=Tryz.sizeOf369
  v146:=Tryz.zeroValue369
  t148:=Tryz.underlying244
  a148:=Tryz.isAgg244
  z148:=Tryz.sizeOf244
  v148:=Tryz.zeroValue244 }
open Go.RowKit Go.Lib in
/-- math/bits.Mul: "Mul returns the full-width product of x and y": on a machine of 64 bits: Mul64's. (LAID: no walk: one application.) -/
theorem Tryz.bits_Mul (x y:Nat) (hx:x < 18446744073709551616) (hy:y < 18446744073709551616) (w:World) :
    Calls Tryz.prog 213 #[.int .u64 x,.int .u64 y] w fun e w'=>e = .returned (.tuple #[.int .u64 ((x * y / 18446744073709551616:Nat):Int),.int .u64 ((x * y % 18446744073709551616:Nat):Int)])∧w'=w:=Any.bits_Mul Tryz.lays212 x y hx hy w
def Tryz.lays105_ren:Go.Shelf.Ren:=⟨fun | 105=>151 | 212=>213 | 99=>32 | 165=>214 | 166=>215 | 170=>216 | 169=>217 | 263=>289 | 264=>290 | 206=>79 | 240=>291 | 241=>292 | 276=>342 | 277=>343 | n=>n,fun | 9=>9 | 3=>3 | 4=>4 | 20=>20 | 0=>0 | 46=>43 | 109=>304 | 5=>5 | 72=>308 | 76=>56 | 51=>167 | 146=>369 | 53=>162 | 148=>244 | 70=>306 | 37=>44 | 75=>36 | 127=>371 | 164=>414 | 80=>311 | n=>n,fun | n=>n⟩
theorem Tryz.lays105:Go.Proofs.Lays.n105 Tryz.prog Tryz.lays105_ren:={
  mixed:=by kernel_rfl
  f99:=Tryz.func32.trans (congrArg some (by kernel_rfl))
  f105:=Tryz.func151.trans (congrArg some (by kernel_rfl))
  f165:=Tryz.func214.trans (congrArg some (by kernel_rfl))
  f166:=Tryz.func215.trans (congrArg some (by kernel_rfl))
  f169:=Tryz.func217.trans (congrArg some (by kernel_rfl))
  f170:=Tryz.func216.trans (congrArg some (by kernel_rfl))
  f206:=Tryz.func79.trans (congrArg some (by kernel_rfl))
  f212:=Tryz.func213.trans (congrArg some (by kernel_rfl))
  f240:=Tryz.func291.trans (congrArg some (by kernel_rfl))
  f241:=Tryz.func292.trans (congrArg some (by kernel_rfl))
  f263:=Tryz.func289.trans (congrArg some (by kernel_rfl))
  f264:=Tryz.func290.trans (congrArg some (by kernel_rfl))
  f276:=Tryz.func342.trans (congrArg some (by kernel_rfl))
  f277:=Tryz.func343.trans (congrArg some (by kernel_rfl))
  t0:=Tryz.underlying0
  a0:=Tryz.isAgg0
  z0:=Tryz.sizeOf0
  v0:=Tryz.zeroValue0
  t3:=Tryz.underlying3
  a3:=Tryz.isAgg3
  z3:=Tryz.sizeOf3
  v3:=Tryz.zeroValue3
  t4:=Tryz.underlying4
  a4:=Tryz.isAgg4
  z4:=Tryz.sizeOf4
  v4:=Tryz.zeroValue4
  t5:=Tryz.underlying5
  a5:=Tryz.isAgg5
  z5:=Tryz.sizeOf5
  v5:=Tryz.zeroValue5
  t9:=Tryz.underlying9
  a9:=Tryz.isAgg9
  z9:=Tryz.sizeOf9
  v9:=Tryz.zeroValue9
  t20:=Tryz.underlying20
  a20:=Tryz.isAgg20
  z20:=Tryz.sizeOf20
  v20:=Tryz.zeroValue20
  t37:=Tryz.underlying44
  a37:=Tryz.isAgg44
  z37:=Tryz.sizeOf44
  v37:=Tryz.zeroValue44
  t46:=Tryz.underlying43
  a46:=Tryz.isAgg43
  z46:=Tryz.sizeOf43
  v46:=Tryz.zeroValue43
  t51:=Tryz.underlying167
  a51:=Tryz.isAgg167
  z51:=Tryz.sizeOf167
  v51:=Tryz.zeroValue167
  t53:=Tryz.underlying162
  a53:=Tryz.isAgg162
  z53:=Tryz.sizeOf162
  v53:=Tryz.zeroValue162
  t70:=Tryz.underlying306
  a70:=Tryz.isAgg306
  z70:=Tryz.sizeOf306
  v70:=Tryz.zeroValue306
  t72:=Tryz.underlying308
  a72:=Tryz.isAgg308
  z72:=Tryz.sizeOf308
  v72:=Tryz.zeroValue308
  t75:=Tryz.underlying36
  a75:=Tryz.isAgg36
  z75:=Tryz.sizeOf36
  v75:=Tryz.zeroValue36
  t76:=Tryz.underlying56
  a76:=Tryz.isAgg56
  z76:=Tryz.sizeOf56
  v76:=Tryz.zeroValue56
  t109:=Tryz.underlying304
  a109:=Tryz.isAgg304
  z109:=Tryz.sizeOf304
  v109:=Tryz.zeroValue304
  t127:=Tryz.underlying371
  a127:=Tryz.isAgg371
  z127:=Tryz.sizeOf371
  v127:=Tryz.zeroValue371
  t146:=Tryz.underlying369
  a146:=Tryz.isAgg369
  z146:=Tryz.sizeOf369
  v146:=Tryz.zeroValue369
  t148:=Tryz.underlying244
  a148:=Tryz.isAgg244
  z148:=Tryz.sizeOf244
  v148:=Tryz.zeroValue244
  t164:=Tryz.underlying414
  a164:=Tryz.isAgg414
  z164:=Tryz.sizeOf414
  v164:=Tryz.zeroValue414 }
theorem Tryz.Builder_Extra_105:Builder.Extra Tryz.prog Tryz.lays105_ren:={
  sizeBuilder:=by kernel_rfl
  liesBuilder:=by kernel_rfl
  t5:=Tryz.underlying5
  a5:=Tryz.isAgg5
  z5:=Tryz.sizeOf5
  v5:=Tryz.zeroValue5
  infoByte:=by kernel_rfl
  cellsByte:=by kernel_rfl
  sizeByte:=by kernel_rfl
  neB5:=by decide }
open Go.RowKit Go.Lib in
/-- **strings.Repeat: count ≥ 0,the result within one allocation: count copies of s.** (LAID: no walk: one application.) -/
theorem Tryz.strings_Repeat (s:ByteArray) (c:Nat) (w:World) (hc:c≤9223372036854775807) (hlen:s.size * c≤140737488355328) :
    Calls Tryz.prog 151 #[.string s,.int .i64 c] w fun e w'=>e = .returned (.string ⟨(Lib.repeatL s.data.toList c).toArray⟩)∧Below w.heap.size w w':=Any.strings_Repeat Tryz.lays105 Tryz.Builder_Extra_105 s c w hc hlen
def Tryz.laysNm220_ren:Go.Shelf.Ren:=⟨fun | 20=>117 | n=>n,fun | 22=>23 | 3=>3 | 4=>4 | 0=>0 | n=>n,fun | n=>n⟩
theorem Tryz.laysNm220:Go.Proofs.Lays2.n20 Tryz.prog Tryz.laysNm220_ren:={
  mixed:=by kernel_rfl
  f20:=Tryz.func117.trans (congrArg some (by kernel_rfl))
  t0:=Tryz.underlying0
  a0:=Tryz.isAgg0
  z0:=Tryz.sizeOf0
  v0:=Tryz.zeroValue0
  t3:=Tryz.underlying3
  a3:=Tryz.isAgg3
  z3:=Tryz.sizeOf3
  v3:=Tryz.zeroValue3
  t4:=Tryz.underlying4
  a4:=Tryz.isAgg4
  z4:=Tryz.sizeOf4
  v4:=Tryz.zeroValue4
  t22:=Tryz.underlying23
  a22:=Tryz.isAgg23
  z22:=Tryz.sizeOf23
  v22:=Tryz.zeroValue23
  i3:=by kernel_rfl }
open Go.RowKit Go.Lib Go.Sort in
/-- slices.Compact at []int: "Compact replaces consecutive runs of equal elements with a single copy. This is like the uniq command found on Unix. Compact modifies the contents of the slice s and returns the modified slice, which may have a smaller length. Compact zeroes the elements between the new length and the original length. The result preserves the nilness of s.": IT RETURNS THE SLICE CUT TO 'Lib.compact zs';ITS CELLS HOLD 'Lib.compact zs',THEN ZERO VALUES up to the old length;all else is as it was,but for the count of draws. IN THE WORDS OF slices.Sort's CONTRACT ('Holds','putRow'): so the everyday 'slices.Sort(xs);xs=slices.Compact(xs)' goes from the one contract to the other. It asks 'zs.length≤cap' (every slice's: the reslicing 's[:k]' looks at it). Length 0,nil: '.._empty'. (LAID: no walk: one application.) -/
theorem Tryz.slices_Compact_int (blk off cap:Nat) (zs:List Int) (w:World) (hH:Holds (Value.int .i64) w blk off zs.toArray) (hsz:zs.length≤9223372036854775807) (hcap:zs.length≤cap) :
    Calls Tryz.prog 117 #[.slice (some ⟨blk,off,none⟩) zs.length cap] w fun e w'=>e = .returned (.slice (some ⟨blk,off,none⟩) (Lib.compact zs).length cap)∧∃ q,w'=putRow (Value.int .i64) (Sort.ahead w q) blk off (Lib.compact zs ++ List.replicate (zs.length - (Lib.compact zs).length) 0).toArray:=Any.slices_Compact_int Tryz.laysNm220 blk off cap zs w hH hsz hcap
def Tryz.laysSlM5_f116_ren:Go.Shelf.Ren:=⟨fun | 5=>116 | 8=>174 | 7=>173 | 19=>243 | 20=>244 | 10=>234 | 11=>235 | 12=>236 | 13=>237 | 14=>238 | 15=>239 | 16=>240 | 17=>241 | 18=>242 | 30=>305 | 31=>306 | 32=>307 | 33=>308 | 34=>309 | 35=>310 | 40=>352 | n=>n,fun | 23=>23 | 25=>3 | 3=>3 | 32=>43 | 22=>23 | 0=>0 | 44=>167 | 46=>162 | 4=>4 | 36=>327 | 35=>326 | 41=>331 | 5=>5 | 9=>9 | 53=>386 | 57=>389 | 63=>421 | 64=>422 | n=>n,fun | n=>n⟩
theorem Tryz.laysSlM5_f116:Go.Proofs.SlLaysM.n5 Tryz.prog Tryz.laysSlM5_f116_ren:={
  mixed:=by kernel_rfl
  f5:=⟨Tryz.f116.name,by decide,Tryz.func116.trans (congrArg some (by kernel_rfl))⟩
  f7:=⟨Tryz.f173.name,by decide,Tryz.func173.trans (congrArg some (by kernel_rfl))⟩
  f8:=Tryz.func174.trans (congrArg some (by kernel_rfl))
  f10:=⟨Tryz.f234.name,by decide,Tryz.func234.trans (congrArg some (by kernel_rfl))⟩
  f11:=⟨Tryz.f235.name,by decide,Tryz.func235.trans (congrArg some (by kernel_rfl))⟩
  f12:=⟨Tryz.f236.name,by decide,Tryz.func236.trans (congrArg some (by kernel_rfl))⟩
  f13:=⟨Tryz.f237.name,by decide,Tryz.func237.trans (congrArg some (by kernel_rfl))⟩
  f14:=⟨Tryz.f238.name,by decide,Tryz.func238.trans (congrArg some (by kernel_rfl))⟩
  f15:=⟨Tryz.f239.name,by decide,Tryz.func239.trans (congrArg some (by kernel_rfl))⟩
  f16:=⟨Tryz.f240.name,by decide,Tryz.func240.trans (congrArg some (by kernel_rfl))⟩
  f17:=⟨Tryz.f241.name,by decide,Tryz.func241.trans (congrArg some (by kernel_rfl))⟩
  f18:=⟨Tryz.f242.name,by decide,Tryz.func242.trans (congrArg some (by kernel_rfl))⟩
  f19:=Tryz.func243.trans (congrArg some (by kernel_rfl))
  f20:=Tryz.func244.trans (congrArg some (by kernel_rfl))
  f30:=⟨Tryz.f305.name,by decide,Tryz.func305.trans (congrArg some (by kernel_rfl))⟩
  f31:=Tryz.func306.trans (congrArg some (by kernel_rfl))
  f32:=Tryz.func307.trans (congrArg some (by kernel_rfl))
  f33:=⟨Tryz.f308.name,by decide,Tryz.func308.trans (congrArg some (by kernel_rfl))⟩
  f34:=⟨Tryz.f309.name,by decide,Tryz.func309.trans (congrArg some (by kernel_rfl))⟩
  f35:=⟨Tryz.f310.name,by decide,Tryz.func310.trans (congrArg some (by kernel_rfl))⟩
  f40:=⟨Tryz.f352.name,by decide,Tryz.func352.trans (congrArg some (by kernel_rfl))⟩
  t0:=Tryz.underlying0
  a0:=Tryz.isAgg0
  z0:=Tryz.sizeOf0
  v0:=Tryz.zeroValue0
  t3:=Tryz.underlying3
  a3:=Tryz.isAgg3
  z3:=Tryz.sizeOf3
  v3:=Tryz.zeroValue3
  t4:=Tryz.underlying4
  a4:=Tryz.isAgg4
  z4:=Tryz.sizeOf4
  v4:=Tryz.zeroValue4
  t5:=Tryz.underlying5
  a5:=Tryz.isAgg5
  z5:=Tryz.sizeOf5
  v5:=Tryz.zeroValue5
  t9:=Tryz.underlying9
  a9:=Tryz.isAgg9
  z9:=Tryz.sizeOf9
  v9:=Tryz.zeroValue9
  t22:=Tryz.underlying23
  a22:=Tryz.isAgg23
  z22:=Tryz.sizeOf23
  v22:=Tryz.zeroValue23
  t23:=Tryz.underlying23
  a23:=Tryz.isAgg23
  z23:=Tryz.sizeOf23
  v23:=Tryz.zeroValue23
  t25:=Tryz.underlying3
  a25:=Tryz.isAgg3
  z25:=Tryz.sizeOf3
  v25:=Tryz.zeroValue3
  t32:=Tryz.underlying43
  a32:=Tryz.isAgg43
  z32:=Tryz.sizeOf43
  v32:=Tryz.zeroValue43
  t35:=Tryz.underlying326
  a35:=Tryz.isAgg326
  z35:=Tryz.sizeOf326
  v35:=Tryz.zeroValue326
  t36:=Tryz.underlying327
  a36:=Tryz.isAgg327
  z36:=Tryz.sizeOf327
  v36:=Tryz.zeroValue327
  t41:=Tryz.underlying331
  a41:=Tryz.isAgg331
  z41:=Tryz.sizeOf331
  v41:=Tryz.zeroValue331
  t44:=Tryz.underlying167
  a44:=Tryz.isAgg167
  z44:=Tryz.sizeOf167
  v44:=Tryz.zeroValue167
  t46:=Tryz.underlying162
  a46:=Tryz.isAgg162
  z46:=Tryz.sizeOf162
  v46:=Tryz.zeroValue162
  t53:=Tryz.underlying386
  a53:=Tryz.isAgg386
  z53:=Tryz.sizeOf386
  v53:=Tryz.zeroValue386
  t57:=Tryz.underlying389
  a57:=Tryz.isAgg389
  z57:=Tryz.sizeOf389
  v57:=Tryz.zeroValue389
  t63:=Tryz.underlying421
  a63:=Tryz.isAgg421
  z63:=Tryz.sizeOf421
  v63:=Tryz.zeroValue421
  t64:=Tryz.underlying422
  a64:=Tryz.isAgg422
  z64:=Tryz.sizeOf422
  v64:=Tryz.zeroValue422 }
open Go.Sort Go.RowKit in
theorem Tryz.slices_Sort_int (blk off cap:Nat) (zs:List Int) (w:World) (hH:Holds (Value.int .i64) w blk off zs.toArray) (hblk:blk < w.heap.size) (hsz:zs.length < 4611686018427387904) :
    Calls Tryz.prog 116 #[.slice (some ⟨blk,off,none⟩) zs.length cap] w fun e w' =>
      e = .returned (.tuple #[])∧∃ n os,w'=grow (putRow (Value.int .i64) (Sort.ahead w n) blk off (zs.mergeSort fun x y=>decide (x≤y)).toArray) os:=AnyM.slices_Sort_int Tryz.laysSlM5_f116 blk off cap zs w hH hblk hsz
def Tryz.laysSlM6_f141_ren:Go.Shelf.Ren:=⟨fun | 6=>141 | 8=>174 | 9=>201 | 19=>243 | 20=>244 | 21=>269 | 22=>270 | 23=>271 | 24=>272 | 25=>273 | 26=>274 | 27=>275 | 28=>276 | 29=>277 | 36=>327 | 31=>306 | 32=>307 | 37=>328 | 38=>329 | 39=>330 | 41=>362 | n=>n,fun | 27=>34 | 29=>9 | 3=>3 | 32=>43 | 26=>34 | 0=>0 | 44=>167 | 46=>162 | 4=>4 | 36=>327 | 35=>326 | 41=>331 | 5=>5 | 9=>9 | 53=>386 | 57=>389 | 63=>421 | 64=>422 | n=>n,fun | n=>n⟩
theorem Tryz.laysSlM6_f141:Go.Proofs.SlLaysM.n6 Tryz.prog Tryz.laysSlM6_f141_ren:={
  mixed:=by kernel_rfl
  f6:=⟨Tryz.f141.name,by decide,Tryz.func141.trans (congrArg some (by kernel_rfl))⟩
  f8:=Tryz.func174.trans (congrArg some (by kernel_rfl))
  f9:=⟨Tryz.f201.name,by decide,Tryz.func201.trans (congrArg some (by kernel_rfl))⟩
  f19:=Tryz.func243.trans (congrArg some (by kernel_rfl))
  f20:=Tryz.func244.trans (congrArg some (by kernel_rfl))
  f21:=⟨Tryz.f269.name,by decide,Tryz.func269.trans (congrArg some (by kernel_rfl))⟩
  f22:=⟨Tryz.f270.name,by decide,Tryz.func270.trans (congrArg some (by kernel_rfl))⟩
  f23:=⟨Tryz.f271.name,by decide,Tryz.func271.trans (congrArg some (by kernel_rfl))⟩
  f24:=⟨Tryz.f272.name,by decide,Tryz.func272.trans (congrArg some (by kernel_rfl))⟩
  f25:=⟨Tryz.f273.name,by decide,Tryz.func273.trans (congrArg some (by kernel_rfl))⟩
  f26:=⟨Tryz.f274.name,by decide,Tryz.func274.trans (congrArg some (by kernel_rfl))⟩
  f27:=⟨Tryz.f275.name,by decide,Tryz.func275.trans (congrArg some (by kernel_rfl))⟩
  f28:=⟨Tryz.f276.name,by decide,Tryz.func276.trans (congrArg some (by kernel_rfl))⟩
  f29:=⟨Tryz.f277.name,by decide,Tryz.func277.trans (congrArg some (by kernel_rfl))⟩
  f31:=Tryz.func306.trans (congrArg some (by kernel_rfl))
  f32:=Tryz.func307.trans (congrArg some (by kernel_rfl))
  f36:=⟨Tryz.f327.name,by decide,Tryz.func327.trans (congrArg some (by kernel_rfl))⟩
  f37:=⟨Tryz.f328.name,by decide,Tryz.func328.trans (congrArg some (by kernel_rfl))⟩
  f38:=⟨Tryz.f329.name,by decide,Tryz.func329.trans (congrArg some (by kernel_rfl))⟩
  f39:=⟨Tryz.f330.name,by decide,Tryz.func330.trans (congrArg some (by kernel_rfl))⟩
  f41:=⟨Tryz.f362.name,by decide,Tryz.func362.trans (congrArg some (by kernel_rfl))⟩
  t0:=Tryz.underlying0
  a0:=Tryz.isAgg0
  z0:=Tryz.sizeOf0
  v0:=Tryz.zeroValue0
  t3:=Tryz.underlying3
  a3:=Tryz.isAgg3
  z3:=Tryz.sizeOf3
  v3:=Tryz.zeroValue3
  t4:=Tryz.underlying4
  a4:=Tryz.isAgg4
  z4:=Tryz.sizeOf4
  v4:=Tryz.zeroValue4
  t5:=Tryz.underlying5
  a5:=Tryz.isAgg5
  z5:=Tryz.sizeOf5
  v5:=Tryz.zeroValue5
  t9:=Tryz.underlying9
  a9:=Tryz.isAgg9
  z9:=Tryz.sizeOf9
  v9:=Tryz.zeroValue9
  t26:=Tryz.underlying34
  a26:=Tryz.isAgg34
  z26:=Tryz.sizeOf34
  v26:=Tryz.zeroValue34
  t27:=Tryz.underlying34
  a27:=Tryz.isAgg34
  z27:=Tryz.sizeOf34
  v27:=Tryz.zeroValue34
  t29:=Tryz.underlying9
  a29:=Tryz.isAgg9
  z29:=Tryz.sizeOf9
  v29:=Tryz.zeroValue9
  t32:=Tryz.underlying43
  a32:=Tryz.isAgg43
  z32:=Tryz.sizeOf43
  v32:=Tryz.zeroValue43
  t35:=Tryz.underlying326
  a35:=Tryz.isAgg326
  z35:=Tryz.sizeOf326
  v35:=Tryz.zeroValue326
  t36:=Tryz.underlying327
  a36:=Tryz.isAgg327
  z36:=Tryz.sizeOf327
  v36:=Tryz.zeroValue327
  t41:=Tryz.underlying331
  a41:=Tryz.isAgg331
  z41:=Tryz.sizeOf331
  v41:=Tryz.zeroValue331
  t44:=Tryz.underlying167
  a44:=Tryz.isAgg167
  z44:=Tryz.sizeOf167
  v44:=Tryz.zeroValue167
  t46:=Tryz.underlying162
  a46:=Tryz.isAgg162
  z46:=Tryz.sizeOf162
  v46:=Tryz.zeroValue162
  t53:=Tryz.underlying386
  a53:=Tryz.isAgg386
  z53:=Tryz.sizeOf386
  v53:=Tryz.zeroValue386
  t57:=Tryz.underlying389
  a57:=Tryz.isAgg389
  z57:=Tryz.sizeOf389
  v57:=Tryz.zeroValue389
  t63:=Tryz.underlying421
  a63:=Tryz.isAgg421
  z63:=Tryz.sizeOf421
  v63:=Tryz.zeroValue421
  t64:=Tryz.underlying422
  a64:=Tryz.isAgg422
  z64:=Tryz.sizeOf422
  v64:=Tryz.zeroValue422 }
open Go.Sort Go.RowKit in
theorem Tryz.slices_Sort_string (blk off cap:Nat) (ss:List (List UInt8)) (w:World) (hH:Holds encStr w blk off ss.toArray) (hblk:blk < w.heap.size) (hsz:ss.length < 4611686018427387904) :
    Calls Tryz.prog 141 #[.slice (some ⟨blk,off,none⟩) ss.length cap] w fun e w' =>
      e = .returned (.tuple #[])∧∃ n os,w'=grow (putRow encStr (Sort.ahead w n) blk off (ss.mergeSort fun x y=>decide (x≤y)).toArray) os:=AnyM.slices_Sort_string Tryz.laysSlM6_f141 blk off cap ss w hH hblk hsz
open Go.RowKit Go.Sort in
/-- .. and plain. (LAID AT THE INSTANCE 'slices.Sort[[]string,string]': no walk: one application.) -/
theorem Tryz.slices_Sort_string_none (p:Option Addr) (cap:Nat) (w:World) :
    Calls Tryz.prog 141 #[.slice p 0 cap] w fun e w'=>e = .returned (.tuple #[])∧w'=w:=AnyM.slices_Sort_string_none Tryz.laysSlM6_f141 p cap w
def Tryz.laysM171_ren:Go.Shelf.Ren:=⟨fun | 171=>150 | 243=>212 | 246=>288 | 283=>338 | 284=>339 | 285=>340 | 286=>341 | 129=>244 | 317=>368 | 318=>369 | 319=>370 | 320=>371 | 337=>386 | 338=>387 | n=>n,fun | 3=>3 | 9=>9 | 2=>2 | 4=>4 | 171=>410 | 0=>0 | 53=>162 | 37=>44 | 5=>5 | 173=>412 | 212=>439 | 51=>167 | 20=>20 | 213=>440 | 46=>43 | 232=>48 | 233=>462 | n=>n,fun | 17=>5 | 18=>8 | 19=>9 | n=>n⟩
theorem Tryz.laysM171:Go.Proofs.LaysM.n171 Tryz.prog Tryz.laysM171_ren:={
  mixed:=by kernel_rfl
  f129:=Tryz.func244.trans (congrArg some (by kernel_rfl))
  f171:=Tryz.func150.trans (congrArg some (by kernel_rfl))
  f243:=Tryz.func212.trans (congrArg some (by kernel_rfl))
  f246:=Tryz.func288.trans (congrArg some (by kernel_rfl))
  f283:=Tryz.func338.trans (congrArg some (by kernel_rfl))
  f284:=Tryz.func339.trans (congrArg some (by kernel_rfl))
  f285:=Tryz.func340.trans (congrArg some (by kernel_rfl))
  f286:=Tryz.func341.trans (congrArg some (by kernel_rfl))
  f317:=Tryz.func368.trans (congrArg some (by kernel_rfl))
  f318:=Tryz.func369.trans (congrArg some (by kernel_rfl))
  f319:=Tryz.func370.trans (congrArg some (by kernel_rfl))
  f320:=Tryz.func371.trans (congrArg some (by kernel_rfl))
  f337:=Tryz.func386.trans (congrArg some (by kernel_rfl))
  f338:=Tryz.func387.trans (congrArg some (by kernel_rfl))
  t0:=Tryz.underlying0
  a0:=Tryz.isAgg0
  z0:=Tryz.sizeOf0
  v0:=Tryz.zeroValue0
  t2:=Tryz.underlying2
  a2:=Tryz.isAgg2
  z2:=Tryz.sizeOf2
  v2:=Tryz.zeroValue2
  t3:=Tryz.underlying3
  a3:=Tryz.isAgg3
  z3:=Tryz.sizeOf3
  v3:=Tryz.zeroValue3
  t4:=Tryz.underlying4
  a4:=Tryz.isAgg4
  z4:=Tryz.sizeOf4
  v4:=Tryz.zeroValue4
  t5:=Tryz.underlying5
  a5:=Tryz.isAgg5
  z5:=Tryz.sizeOf5
  v5:=Tryz.zeroValue5
  t9:=Tryz.underlying9
  a9:=Tryz.isAgg9
  z9:=Tryz.sizeOf9
  v9:=Tryz.zeroValue9
  t20:=Tryz.underlying20
  a20:=Tryz.isAgg20
  z20:=Tryz.sizeOf20
  v20:=Tryz.zeroValue20
  t37:=Tryz.underlying44
  a37:=Tryz.isAgg44
  z37:=Tryz.sizeOf44
  v37:=Tryz.zeroValue44
  t46:=Tryz.underlying43
  a46:=Tryz.isAgg43
  z46:=Tryz.sizeOf43
  v46:=Tryz.zeroValue43
  t51:=Tryz.underlying167
  a51:=Tryz.isAgg167
  z51:=Tryz.sizeOf167
  v51:=Tryz.zeroValue167
  t53:=Tryz.underlying162
  a53:=Tryz.isAgg162
  z53:=Tryz.sizeOf162
  v53:=Tryz.zeroValue162
  t171:=Tryz.underlying410
  a171:=Tryz.isAgg410
  z171:=Tryz.sizeOf410
  v171:=Tryz.zeroValue410
  t173:=Tryz.underlying412
  a173:=Tryz.isAgg412
  z173:=Tryz.sizeOf412
  v173:=Tryz.zeroValue412
  t212:=Tryz.underlying439
  a212:=Tryz.isAgg439
  z212:=Tryz.sizeOf439
  v212:=Tryz.zeroValue439
  t213:=Tryz.underlying440
  a213:=Tryz.isAgg440
  z213:=Tryz.sizeOf440
  t232:=Tryz.underlying48
  a232:=Tryz.isAgg48
  z232:=Tryz.sizeOf48
  v232:=Tryz.zeroValue48
  t233:=Tryz.underlying462
  a233:=Tryz.isAgg462
  z233:=Tryz.sizeOf462
  v233:=Tryz.zeroValue462
  g17:=by kernel_rfl
  g18:=by kernel_rfl
  g19:=by kernel_rfl
  i0:=by kernel_rfl
  i2:=by kernel_rfl
  i3:=by kernel_rfl
  i4:=by kernel_rfl
  i5:=by kernel_rfl
  i9:=by kernel_rfl
  i20:=by kernel_rfl
  i37:=by kernel_rfl
  i46:=by kernel_rfl
  i51:=by kernel_rfl
  i53:=by kernel_rfl
  i171:=by kernel_rfl
  i173:=by kernel_rfl
  i212:=by kernel_rfl
  i232:=by kernel_rfl
  i233:=by kernel_rfl
  m17:=by kernel_rfl
  m18:=by kernel_rfl
  m19:=by kernel_rfl }
open Go.RowKit Go.Sort Go.Lib in
/-- strconv.Itoa: "Itoa is equivalent to FormatInt(int64(i), 10).": i's DECIMAL NUMERAL ('Lib.itoa': a '-' where i is negative,then the digits),FOR EVERY int. The world behind the call: the world before it,new blocks behind the heap (the library's 'var a [24]byte'),draws. (LAID: no walk: one application.) -/
theorem Tryz.strconv_Itoa (n:Int) (h0 : -9223372036854775808≤n) (h1:n≤9223372036854775807) (w:World) (htab:Lib.TabIs Tryz.prog w "internal/strconv.uint64pow10" .u64 Lib.pow10Tab) :
    Calls Tryz.prog 150 #[.int .i64 n] w fun e w'=>e = .returned (.string ⟨(Lib.itoa n).toArray⟩)∧∃ k os,w'=grow (w.drewN k) os:=Any.strconv_Itoa Tryz.laysM171 n h0 h1 w htab
def Tryz.lays171_ren:Go.Shelf.Ren:=⟨fun | 171=>150 | 243=>212 | 246=>288 | 283=>338 | 284=>339 | 285=>340 | 286=>341 | 129=>244 | 317=>368 | 318=>369 | 319=>370 | 320=>371 | 337=>386 | 338=>387 | n=>n,fun | 3=>3 | 9=>9 | 2=>2 | 4=>4 | 171=>410 | 0=>0 | 53=>162 | 37=>44 | 5=>5 | 173=>412 | 212=>439 | 51=>167 | 20=>20 | 213=>440 | 46=>43 | 232=>48 | 233=>462 | n=>n,fun | 17=>5 | 18=>8 | 19=>9 | n=>n⟩
theorem Tryz.lays171:Go.Proofs.Lays.n171 Tryz.prog Tryz.lays171_ren:={
  mixed:=by kernel_rfl
  f129:=Tryz.func244.trans (congrArg some (by kernel_rfl))
  f171:=Tryz.func150.trans (congrArg some (by kernel_rfl))
  f243:=Tryz.func212.trans (congrArg some (by kernel_rfl))
  f246:=Tryz.func288.trans (congrArg some (by kernel_rfl))
  f283:=Tryz.func338.trans (congrArg some (by kernel_rfl))
  f284:=Tryz.func339.trans (congrArg some (by kernel_rfl))
  f285:=Tryz.func340.trans (congrArg some (by kernel_rfl))
  f286:=Tryz.func341.trans (congrArg some (by kernel_rfl))
  f317:=Tryz.func368.trans (congrArg some (by kernel_rfl))
  f318:=Tryz.func369.trans (congrArg some (by kernel_rfl))
  f319:=Tryz.func370.trans (congrArg some (by kernel_rfl))
  f320:=Tryz.func371.trans (congrArg some (by kernel_rfl))
  f337:=Tryz.func386.trans (congrArg some (by kernel_rfl))
  f338:=Tryz.func387.trans (congrArg some (by kernel_rfl))
  t0:=Tryz.underlying0
  a0:=Tryz.isAgg0
  z0:=Tryz.sizeOf0
  v0:=Tryz.zeroValue0
  t2:=Tryz.underlying2
  a2:=Tryz.isAgg2
  z2:=Tryz.sizeOf2
  v2:=Tryz.zeroValue2
  t3:=Tryz.underlying3
  a3:=Tryz.isAgg3
  z3:=Tryz.sizeOf3
  v3:=Tryz.zeroValue3
  t4:=Tryz.underlying4
  a4:=Tryz.isAgg4
  z4:=Tryz.sizeOf4
  v4:=Tryz.zeroValue4
  t5:=Tryz.underlying5
  a5:=Tryz.isAgg5
  z5:=Tryz.sizeOf5
  v5:=Tryz.zeroValue5
  t9:=Tryz.underlying9
  a9:=Tryz.isAgg9
  z9:=Tryz.sizeOf9
  v9:=Tryz.zeroValue9
  t20:=Tryz.underlying20
  a20:=Tryz.isAgg20
  z20:=Tryz.sizeOf20
  v20:=Tryz.zeroValue20
  t37:=Tryz.underlying44
  a37:=Tryz.isAgg44
  z37:=Tryz.sizeOf44
  v37:=Tryz.zeroValue44
  t46:=Tryz.underlying43
  a46:=Tryz.isAgg43
  z46:=Tryz.sizeOf43
  v46:=Tryz.zeroValue43
  t51:=Tryz.underlying167
  a51:=Tryz.isAgg167
  z51:=Tryz.sizeOf167
  v51:=Tryz.zeroValue167
  t53:=Tryz.underlying162
  a53:=Tryz.isAgg162
  z53:=Tryz.sizeOf162
  v53:=Tryz.zeroValue162
  t171:=Tryz.underlying410
  a171:=Tryz.isAgg410
  z171:=Tryz.sizeOf410
  v171:=Tryz.zeroValue410
  t173:=Tryz.underlying412
  a173:=Tryz.isAgg412
  z173:=Tryz.sizeOf412
  v173:=Tryz.zeroValue412
  t212:=Tryz.underlying439
  a212:=Tryz.isAgg439
  z212:=Tryz.sizeOf439
  v212:=Tryz.zeroValue439
  t213:=Tryz.underlying440
  a213:=Tryz.isAgg440
  z213:=Tryz.sizeOf440
  t232:=Tryz.underlying48
  a232:=Tryz.isAgg48
  z232:=Tryz.sizeOf48
  v232:=Tryz.zeroValue48
  t233:=Tryz.underlying462
  a233:=Tryz.isAgg462
  z233:=Tryz.sizeOf462
  v233:=Tryz.zeroValue462
  g17:=by kernel_rfl
  g18:=by kernel_rfl
  g19:=by kernel_rfl }
open Go.RowKit Go.Sort Go.Lib in
/-- THE ROAD WITHOUT THE TABLE: 0 <= i < 100: NO PREMISE ON THE WORLD,AND THE WORLD IS AS IT WAS: a row that keeps its argument in that range need list no table ('laid = []'). (LAID: no walk: one application.) -/
theorem Tryz.strconv_Itoa_small (i:Nat) (hi:i < 100) (w:World) :
    Calls Tryz.prog 150 #[.int .i64 i] w fun e w'=>e = .returned (.string ⟨(Lib.decDigits i).toArray⟩)∧w'=w:=Any.strconv_Itoa_small Tryz.lays171 i hi w
end Go.Proofs
