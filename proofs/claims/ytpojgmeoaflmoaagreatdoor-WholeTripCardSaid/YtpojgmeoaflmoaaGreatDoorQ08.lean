/- All changes of a disk become sure: walke -/
import Derived.Shelf.Strings.Builder1
import Derived.Shelf.Strings.Builder2
import Derived.Shelf.Strings.Trim
import Derived.Shelf.Small.Utf8
import Derived.Shelf.Small.Bits
import Derived.Shelf.Small.Strs
import Derived.Shelf.Small.Wraps
import Derived.Shelf.Strings.BuilderF
import Derived.Shelf.Strconv.Itoa0
import Derived.Shelf.Strings.Search1
import Derived.Shelf.Strings.Search2
import Derived.Shelf.Strings.Search3
import Derived.Shelf.LaysM
import Derived.Shelf.Strings.Shaped
import Derived.Shelf.Strings.Prefix
import Derived.Shelf.Strings.Runes
import Derived.Shelf.Strings.AsciiSet
import Derived.Shelf.Bits.Mul64
import Derived.Shelf.Strings.Repeat
import Derived.Shelf.Unicode.DecodeSlow
import Derived.Ground.Names2Prog
import Derived.Shelf.Slices.CompactI
import Derived.Ground.SlgfProg
import Derived.Shelf.SlicesE.IndexFunc
import Derived.Shelf.Bytes.SlEqualAll
import Derived.Shelf.Bytes.Small
import Derived.Shelf.Strings.SlTrimAscii
import Derived.Test.YtpojgmeoaflmoaaGreatDoorQ05
import Derived.Test.YtpojgmeoaflmoaaGreatDoorQ07
set_option linter.unusedVariables false
set_option maxRecDepth 100000
set_option maxHeartbeats 16000000
namespace Go.Proofs.YtpojgmeoaflmoaaGreatDoor
open Go.RowKit Go.Maps
theorem zW (X:Dk):X.works.2.room=X.room∧X.works.2.shown=X.shown∧X.works.2.pend=X.pend∧X.works.2.sure=X.sure:=by
 unfold Dk.works
 split
 ·exact⟨rfl,rfl,rfl,rfl⟩
 ·split<;>exact⟨rfl,rfl,rfl,rfl⟩
theorem zcO (X:Dk):X.works.1=0∨X.works.1=14:=by
 unfold Dk.works
 split
 ·exact .inr rfl
 ·split
  ·exact .inr rfl
  ·exact .inl rfl
theorem znA (F T:Nat→Prop)(p s h:Nat)(pv:Value)(X:Dk)(w:World)(d:zq F T w p s h pv X)(hf:X.fuse≤1000000000)(hw:X.works.1=14) :
 Calls Tryz.prog 76 #[.pointer (some ⟨p,0,none⟩)] w fun e w'=>e = .returned (.iface 89 (.int .i64 14))∧za (zq3 p) w w'∧zq F T w' p s h pv X.works.2:=by
 have W:=zap F T p s h pv X w d hf;rw[hw] at W;have W2:Hid (Calls Tryz.prog 129 #[.pointer (some ⟨p,0,none⟩)] w fun e w'=>e = .returned (.iface 89 (.int .i64 14))∧za (zq3 p) w w'∧zq F T w' p s h pv X.works.2):=W
 clear W d
 go_enter Tryz.func76,Tryz.ntmps76
 go_wp2_with(go_at_call 129;refine W2.out.mono ?_;rintro e w1 ⟨rfl,k1,d1⟩;have K1:=zz0 k1;have D1:=zz0 d1;clear k1 d1)
 go_ret;exact⟨rfl,K1.out,D1.out⟩
theorem znB (F T:Nat→Prop)(p s h:Nat)(pv:Value)(X:Dk)(w:World)(d:zq F T w p s h pv X)(hf:X.fuse≤1000000000)(hw:X.works.1=0) :
 Calls Tryz.prog 76 #[.pointer (some ⟨p,0,none⟩)] w fun e w'=>e = .returned .nilIface∧za (zq3 p) w w'∧∃s',w.heap.size≤s'∧zq (fun g=>F g∨g=s') T w' p s' h (.slice none 0 0) { X.works.2 with sure:=X.shown,pend:=[] }:=by
 have W:=zap F T p s h pv X w d hf;rw[hw] at W;have W2:Hid (Calls Tryz.prog 129 #[.pointer (some ⟨p,0,none⟩)] w fun e w'=>e = .returned .nilIface∧za (zq3 p) w w'∧zq F T w' p s h pv X.works.2):=W
 clear W d
 go_enter Tryz.func76,Tryz.ntmps76
 go_wp2_with(first
  |(go_at_call 129;refine W2.out.mono ?_;rintro e w1 ⟨rfl,k1,d1⟩;obtain⟨es,clock,hes,m1,m2⟩:=zcs d1.shown;have B1:=zz0 d1.blk;have c2:=dk_2 d1.blk;have b2:=zi d1.blk (.map es clock);have e1:=dk_1 b2;have f1:=dk_f b2 1;have b3:=zpo b2 w1.heap.size;have e3:=dk_3 b3;have f3:=dk_f b3 3;have b4:=zcW b3 (.slice none 0 0);have B4:=zz0 b4;have M1:=zz0 m1;have M2:=zz0 m2;have K1:=zz0 k1;have D1:=zz0 d1;clear k1 d1 m1 m2 b2 b3 b4)
  |(go_at_call 69;refine(zcc h es clock _ hes).mono ?_;rintro e w2 ⟨rfl,rfl⟩))
 go_ret;have kA:za zq2 w1 (w1.alloc (.map es clock)):=(za.refl _ _).alloc _;have kS:za (zq3 p) w1 (((w1.alloc (.map es clock)).setCell ⟨p,1,none⟩ (.map (some w1.heap.size))).setCell ⟨p,3,none⟩ (.slice none 0 0)):=(((za.refl (zq3 p) w1).alloc _).setOne 1 _).setOne 3 _;have kT:za (zq3 p) (w1.alloc (.map es clock)) (((w1.alloc (.map es clock)).setCell ⟨p,1,none⟩ (.map (some w1.heap.size))).setCell ⟨p,3,none⟩ (.slice none 0 0)):=((za.refl (zq3 p) _).setOne 1 _).setOne 3 _;obtain⟨i1,i2,i3,i4,i5⟩:=D1.out.inF;obtain⟨a1,a2,a3,a4⟩:=D1.out.apart;obtain⟨o1,o2,o3,o4,o5⟩:=D1.out.outT;obtain⟨r1,r2,r3,r4⟩:=zW X;have hpl:=lt_of_block B1.out;have hhl:=zF.lt D1.out.shown;have hT:=zq3.notT o1;refine⟨rfl,K1.out.trans1 kS,w1.heap.size,K1.out.size,B4.out,?_,?_,⟨[],World.ownsRow_nil _ _ _ _,rfl,fun i c l hc=>by simp at hc⟩,⟨.inl i1,.inr rfl,.inl i3,fun g e=>(by cases e),fun g e=>.inl (i5 g e)⟩,⟨by omega,by omega,a3,fun g e=>(by cases e)⟩,⟨o1,fun e=>by have:=o5 _ e;omega,o3,fun g e=>(by cases e),fun g e=>kS.lt (o5 g e)⟩,D1.out.room⟩
 ·show zbA _ T w1.heap.size X.shown
  rw[←r2];exact zF.keep M1.out kT (fun e=>by unfold zq3 at e;omega) (zbT.fun1 _ _) (fun v x hx=>hx.keep kS hT (fun _ e=>e))
 ·exact zF.keep M2.out kT (fun e=>a3 e.symm) (zbT.fun1 _ _) (fun v x hx=>hx.keep kS hT (fun _ e=>e))
theorem zgK {F:Nat→Prop}{p:Nat}{X:Dk}{w:World}(d:zQ F w p X)(hd:X.down=false):Calls Tryz.prog 125 #[.pointer (some ⟨p,0,none⟩)] w fun e w'=>e = .returned .nilIface∧w'=w:=by
 have h:=zfX F p X w d;have e:zbU X.looks = .nilIface:=by unfold Dk.looks;rw[hd];rfl
 rw[e] at h;exact h
theorem zj6 (F:Nat→Prop)(p:Nat)(X:Dk)(n:zqY)(w:World)(d:zQ F w p X)(hd:X.down=false)(hn:n.length≤1000)(hh:zz X.shown n=false) :
 Calls Tryz.prog 94 #[.pointer (some ⟨p,0,none⟩),sv n] w fun e w'=>e = .returned (.tuple #[.slice none 0 0,.iface 89 (.int .i64 4)])∧w'=w:=by
 have L:=zz0 (zgK d hd);have law:=string_keyed Tryz.underlying9;have hkey:=zb1 n (by unfold maxLen;omega)
 have hz:=fun w=>Tryz.zeroValue43 w
 have hhas:has X.shown (.string n)=false:=hh;obtain⟨T,s,h,pv,d⟩:=d;have c2:=dk_2 d.blk;have M:=zz0 d.shown;clear d;unfold sv at hkey ⊢
 go_enter Tryz.func94,Tryz.ntmps94
 go_wp2_with(first
  |(go_at_call 125;refine L.out.mono ?_;rintro e w1 ⟨rfl,e1⟩;subst e1)
  |(at_lookup;refine zu rfl _ _ 104 rfl 43 law Tryz.underlying104 (hz _) [] (zbT.fun1 _ T) (zau _ _) rfl M.out _ _ rfl hkey ?_;rw[hhas];intro lv ly hlv hat;obtain⟨⟨la,lc,rfl,_⟩,_⟩:=hlv;clear hat))
 go_ret2;exact⟨rfl,rfl⟩
theorem znz (F:Nat→Prop)(p:Nat)(X:Dk)(n:zqY)(w:World)(d:zQ F w p X)(hd:X.down=false)(hn:n.length≤1000)(hh:zz X.shown n=true)(hl:(zat X.shown n).length≤1000000000) :
 Calls Tryz.prog 94 #[.pointer (some ⟨p,0,none⟩),sv n] w fun e w'=>∃v',e = .returned (.tuple #[v',.nilIface])∧za zq2 w w'∧w'.ownsRow w.heap.size 5 1 v' (zat X.shown n).length ((zat X.shown n).map bv):=by
 have L:=zz0 (zgK d hd);have law:=string_keyed Tryz.underlying9;have hkey:=zb1 n (by unfold maxLen;omega)
 have hz:=fun w=>Tryz.zeroValue43 w
 have hhas:has X.shown (.string n)=true:=hh;obtain⟨T,s,h,pv,d⟩:=d;have c2:=dk_2 d.blk;have M:=zz0 d.shown;clear d;unfold sv at hkey ⊢;generalize hB:zat X.shown n=B at hl ⊢;have HB:=zz0 hB;clear hB
 go_enter Tryz.func94,Tryz.ntmps94
 go_wp2_with(first
  |(go_at_call 125;refine L.out.mono ?_;rintro e w1 ⟨rfl,e1⟩;subst e1)
  |(at_lookup;refine zu rfl _ _ 104 rfl 43 law Tryz.underlying104 (hz _) [] (zbT.fun1 _ T) (zau _ _) rfl M.out _ _ rfl hkey ?_;rw[hhas];intro lv ly hlv hat;obtain rfl:ly=B:=(by have e:=HB.out;unfold zat at e;rw[hat] at e;exact e);have LV:=zz0 hlv.1;clear hat hlv)
  |(go_at_call 150;refine(za7 _ ly _ LV.out (by omega)).mono ?_;rintro e w2 ⟨v2,rfl,k2,o2⟩;have K2:=zz0 k2;have O2:=zz0 o2;clear k2 o2))
 go_ret2;exact⟨_,rfl,K2.out,O2.out⟩
end Go.Proofs.YtpojgmeoaflmoaaGreatDoor
namespace Go.Proofs
open Go.Shelf
def Tryz.lays160_ren:Go.Shelf.Ren:=⟨fun|160=>196|232=>248|231=>247|227=>249|234=>251|233=>250|236=>253|235=>252|228=>296|271=>299|151=>298|197=>297|120=>329|152=>328|260=>327|137=>356|119=>357|224=>341|225=>340|217=>339|266=>363|n=>n,fun|9=>9|4=>4|3=>3|5=>5|117=>324|116=>323|0=>0|124=>327|21=>21|105=>378|46=>37|119=>424|139=>427|138=>426|n=>n,fun|3=>3|4=>4|n=>n⟩
theorem Tryz.lays160:Go.Proofs.Lays.n160 Tryz.prog Tryz.lays160_ren:={
 mixed:=by kernel_rfl
 f119:=Tryz.func357.trans (congrArg some (by kernel_rfl))
 f120:=Tryz.func329.trans (congrArg some (by kernel_rfl))
 f137:=Tryz.func356.trans (congrArg some (by kernel_rfl))
 f151:=Tryz.func298.trans (congrArg some (by kernel_rfl))
 f152:=Tryz.func328.trans (congrArg some (by kernel_rfl))
 f160:=Tryz.func196.trans (congrArg some (by kernel_rfl))
 f197:=Tryz.func297.trans (congrArg some (by kernel_rfl))
 f217:=Tryz.func339.trans (congrArg some (by kernel_rfl))
 f224:=Tryz.func341.trans (congrArg some (by kernel_rfl))
 f225:=Tryz.func340.trans (congrArg some (by kernel_rfl))
 f227:=Tryz.func249.trans (congrArg some (by kernel_rfl))
 f228:=Tryz.func296.trans (congrArg some (by kernel_rfl))
 f231:=Tryz.func247.trans (congrArg some (by kernel_rfl))
 f232:=Tryz.func248.trans (congrArg some (by kernel_rfl))
 f233:=Tryz.func250.trans (congrArg some (by kernel_rfl))
 f234:=Tryz.func251.trans (congrArg some (by kernel_rfl))
 f235:=Tryz.func252.trans (congrArg some (by kernel_rfl))
 f236:=Tryz.func253.trans (congrArg some (by kernel_rfl))
 f260:=Tryz.func327.trans (congrArg some (by kernel_rfl))
 f266:=Tryz.func363.trans (congrArg some (by kernel_rfl))
 f271:=Tryz.func299.trans (congrArg some (by kernel_rfl))
 t0:=Tryz.underlying0
 a0:=Tryz.isAgg0
 z0:=Tryz.sizeOf0
 v0:=Tryz.zeroValue0
 t3:=Tryz.underlying3
 a3:=Tryz.isAgg3
 z3:=Tryz.sizeOf3
 v3:=Tryz.zeroValue3
 t4:=Tryz.underlying4
 a4:=Tryz.isAgg4
 z4:=Tryz.sizeOf4
 v4:=Tryz.zeroValue4
 t5:=Tryz.underlying5
 a5:=Tryz.isAgg5
 z5:=Tryz.sizeOf5
 v5:=Tryz.zeroValue5
 t9:=Tryz.underlying9
 a9:=Tryz.isAgg9
 z9:=Tryz.sizeOf9
 v9:=Tryz.zeroValue9
 t21:=Tryz.underlying21
 a21:=Tryz.isAgg21
 z21:=Tryz.sizeOf21
 v21:=Tryz.zeroValue21
 t46:=Tryz.underlying37
 a46:=Tryz.isAgg37
 z46:=Tryz.sizeOf37
 v46:=Tryz.zeroValue37
 t105:=Tryz.underlying378
 a105:=Tryz.isAgg378
 z105:=Tryz.sizeOf378
 v105:=Tryz.zeroValue378
 t116:=Tryz.underlying323
 a116:=Tryz.isAgg323
 z116:=Tryz.sizeOf323
 t117:=Tryz.underlying324
 a117:=Tryz.isAgg324
 z117:=Tryz.sizeOf324
 v117:=Tryz.zeroValue324
 t119:=Tryz.underlying424
 a119:=Tryz.isAgg424
 z119:=Tryz.sizeOf424
 t124:=Tryz.underlying327
 a124:=Tryz.isAgg327
 z124:=Tryz.sizeOf327
 v124:=Tryz.zeroValue327
 t138:=Tryz.underlying426
 a138:=Tryz.isAgg426
 z138:=Tryz.sizeOf426
 v138:=Tryz.zeroValue426
 t139:=Tryz.underlying427
 a139:=Tryz.isAgg427
 z139:=Tryz.sizeOf427
 v139:=Tryz.zeroValue427
 g3:=by kernel_rfl
 g4:=by kernel_rfl }
def Tryz.lays144_ren:Go.Shelf.Ren:=⟨fun|144=>217|143=>273|219=>311|217=>339|225=>340|224=>341|267=>342|266=>363|314=>364|n=>n,fun|9=>9|4=>4|3=>3|5=>5|46=>37|146=>346|51=>252|n=>n,fun|1=>0|n=>n⟩
theorem Tryz.lays144:Go.Proofs.Lays.n144 Tryz.prog Tryz.lays144_ren:={
 mixed:=by kernel_rfl
 f143:=Tryz.func273.trans (congrArg some (by kernel_rfl))
 f144:=Tryz.func217.trans (congrArg some (by kernel_rfl))
 f217:=Tryz.func339.trans (congrArg some (by kernel_rfl))
 f219:=Tryz.func311.trans (congrArg some (by kernel_rfl))
 f224:=Tryz.func341.trans (congrArg some (by kernel_rfl))
 f225:=Tryz.func340.trans (congrArg some (by kernel_rfl))
 f266:=Tryz.func363.trans (congrArg some (by kernel_rfl))
 f267:=Tryz.func342.trans (congrArg some (by kernel_rfl))
 f314:=Tryz.func364.trans (congrArg some (by kernel_rfl))
 t3:=Tryz.underlying3
 a3:=Tryz.isAgg3
 z3:=Tryz.sizeOf3
 v3:=Tryz.zeroValue3
 t4:=Tryz.underlying4
 a4:=Tryz.isAgg4
 z4:=Tryz.sizeOf4
 v4:=Tryz.zeroValue4
 t5:=Tryz.underlying5
 a5:=Tryz.isAgg5
 z5:=Tryz.sizeOf5
 v5:=Tryz.zeroValue5
 t9:=Tryz.underlying9
 a9:=Tryz.isAgg9
 z9:=Tryz.sizeOf9
 v9:=Tryz.zeroValue9
 t46:=Tryz.underlying37
 a46:=Tryz.isAgg37
 z46:=Tryz.sizeOf37
 v46:=Tryz.zeroValue37
 t51:=Tryz.underlying252
 a51:=Tryz.isAgg252
 z51:=Tryz.sizeOf252
 v51:=Tryz.zeroValue252
 t146:=Tryz.underlying346
 a146:=Tryz.isAgg346
 z146:=Tryz.sizeOf346
 v146:=Tryz.zeroValue346
 g1:=by kernel_rfl }
open Go.RowKit Go.Lib in
/-- strings.Contains: "Contains reports whether substr is within s.": AT A substr OF ONE BYTE c: IT RETURNS 'decide (0≤Lib.indexByte s c)';the world is as it was. (LAID: no walk: one application.) -/
theorem Tryz.strings_Contains_one (s:ByteArray)(c:UInt8)(w:World) :
 Calls Tryz.prog 217 #[.string s,.string ⟨#[c]⟩] w fun e w'=>e = .returned (.bool (decide (0≤Lib.indexByte s.data.toList c)))∧w'=w:=Any.strings_Contains_one Tryz.lays144 s c w
def Tryz.lays99_ren:Go.Shelf.Ren:=⟨fun|99=>74|206=>128|n=>n,fun|9=>9|4=>4|3=>3|n=>n,fun|n=>n⟩
theorem Tryz.lays99:Go.Proofs.Lays.n99 Tryz.prog Tryz.lays99_ren:={
 mixed:=by kernel_rfl
 f99:=Tryz.func74.trans (congrArg some (by kernel_rfl))
 f206:=Tryz.func128.trans (congrArg some (by kernel_rfl))
 t3:=Tryz.underlying3
 a3:=Tryz.isAgg3
 z3:=Tryz.sizeOf3
 v3:=Tryz.zeroValue3
 t4:=Tryz.underlying4
 a4:=Tryz.isAgg4
 z4:=Tryz.sizeOf4
 v4:=Tryz.zeroValue4
 t9:=Tryz.underlying9
 a9:=Tryz.isAgg9
 z9:=Tryz.sizeOf9
 v9:=Tryz.zeroValue9 }
open Go.RowKit Go.Lib in
/-- strings.HasPrefix: "HasPrefix reports whether the string s begins with prefix.": IT RETURNS 'Lib.hasPrefix s prefix';the world is as it was. (LAID: no walk: one application.) -/
theorem Tryz.strings_HasPrefix (s p:ByteArray)(w:World) :
 Calls Tryz.prog 74 #[.string s,.string p] w fun e w'=>e = .returned (.bool (Lib.hasPrefix s.data.toList p.data.toList))∧w'=w:=Any.strings_HasPrefix Tryz.lays99 s p w
def Tryz.lays212_ren:Go.Shelf.Ren:=⟨fun|212=>219|263=>275|264=>276|n=>n,fun|46=>37|51=>252|146=>346|53=>184|148=>348|n=>n,fun|n=>n⟩
theorem Tryz.lays212:Go.Proofs.Lays.n212 Tryz.prog Tryz.lays212_ren:={
 mixed:=by kernel_rfl
 f212:=Tryz.func219.trans (congrArg some (by kernel_rfl))
 f263:=Tryz.func275.trans (congrArg some (by kernel_rfl))
 f264:=Tryz.func276.trans (congrArg some (by kernel_rfl))
 t46:=Tryz.underlying37
 a46:=Tryz.isAgg37
 z46:=Tryz.sizeOf37
 v46:=Tryz.zeroValue37
 t51:=Tryz.underlying252
 a51:=Tryz.isAgg252
 z51:=Tryz.sizeOf252
 v51:=Tryz.zeroValue252
 t53:=Tryz.underlying184
 a53:=Tryz.isAgg184
 z53:=Tryz.sizeOf184
 v53:=Tryz.zeroValue184
 t146:=Tryz.underlying346
 a146:=Tryz.isAgg346
 z146:=Tryz.sizeOf346
 v146:=Tryz.zeroValue346
 t148:=Tryz.underlying348
 a148:=Tryz.isAgg348
 z148:=Tryz.sizeOf348
 v148:=Tryz.zeroValue348 }
open Go.RowKit Go.Lib in
/-- math/bits.Mul: "Mul returns the full-width product of x and y": on a machine of 64 bits: Mul64's. (LAID: no walk: one application.) -/
theorem Tryz.bits_Mul (x y:Nat)(hx:x<18446744073709551616)(hy:y<18446744073709551616)(w:World) :
 Calls Tryz.prog 219 #[.int .u64 x,.int .u64 y] w fun e w'=>e = .returned (.tuple #[.int .u64 ((x*y / 18446744073709551616:Nat):Int),.int .u64 ((x*y%18446744073709551616:Nat):Int)])∧w'=w:=Any.bits_Mul Tryz.lays212 x y hx hy w
def Tryz.lays105_ren:Go.Shelf.Ren:=⟨fun|105=>152|212=>219|99=>74|165=>220|166=>221|170=>222|169=>223|263=>275|264=>276|206=>128|240=>277|241=>278|276=>316|277=>317|n=>n,fun|9=>9|3=>3|4=>4|20=>20|0=>0|46=>37|109=>293|5=>5|72=>297|76=>56|51=>252|146=>346|53=>184|148=>348|70=>295|37=>43|75=>35|127=>350|164=>391|80=>300|n=>n,fun|n=>n⟩
theorem Tryz.lays105:Go.Proofs.Lays.n105 Tryz.prog Tryz.lays105_ren:={
 mixed:=by kernel_rfl
 f99:=Tryz.func74.trans (congrArg some (by kernel_rfl))
 f105:=Tryz.func152.trans (congrArg some (by kernel_rfl))
 f165:=Tryz.func220.trans (congrArg some (by kernel_rfl))
 f166:=Tryz.func221.trans (congrArg some (by kernel_rfl))
 f169:=Tryz.func223.trans (congrArg some (by kernel_rfl))
 f170:=Tryz.func222.trans (congrArg some (by kernel_rfl))
 f206:=Tryz.func128.trans (congrArg some (by kernel_rfl))
 f212:=Tryz.func219.trans (congrArg some (by kernel_rfl))
 f240:=Tryz.func277.trans (congrArg some (by kernel_rfl))
 f241:=Tryz.func278.trans (congrArg some (by kernel_rfl))
 f263:=Tryz.func275.trans (congrArg some (by kernel_rfl))
 f264:=Tryz.func276.trans (congrArg some (by kernel_rfl))
 f276:=Tryz.func316.trans (congrArg some (by kernel_rfl))
 f277:=Tryz.func317.trans (congrArg some (by kernel_rfl))
 t0:=Tryz.underlying0
 a0:=Tryz.isAgg0
 z0:=Tryz.sizeOf0
 v0:=Tryz.zeroValue0
 t3:=Tryz.underlying3
 a3:=Tryz.isAgg3
 z3:=Tryz.sizeOf3
 v3:=Tryz.zeroValue3
 t4:=Tryz.underlying4
 a4:=Tryz.isAgg4
 z4:=Tryz.sizeOf4
 v4:=Tryz.zeroValue4
 t5:=Tryz.underlying5
 a5:=Tryz.isAgg5
 z5:=Tryz.sizeOf5
 v5:=Tryz.zeroValue5
 t9:=Tryz.underlying9
 a9:=Tryz.isAgg9
 z9:=Tryz.sizeOf9
 v9:=Tryz.zeroValue9
 t20:=Tryz.underlying20
 a20:=Tryz.isAgg20
 z20:=Tryz.sizeOf20
 v20:=Tryz.zeroValue20
 t37:=Tryz.underlying43
 a37:=Tryz.isAgg43
 z37:=Tryz.sizeOf43
 v37:=Tryz.zeroValue43
 t46:=Tryz.underlying37
 a46:=Tryz.isAgg37
 z46:=Tryz.sizeOf37
 v46:=Tryz.zeroValue37
 t51:=Tryz.underlying252
 a51:=Tryz.isAgg252
 z51:=Tryz.sizeOf252
 v51:=Tryz.zeroValue252
 t53:=Tryz.underlying184
 a53:=Tryz.isAgg184
 z53:=Tryz.sizeOf184
 v53:=Tryz.zeroValue184
 t70:=Tryz.underlying295
 a70:=Tryz.isAgg295
 z70:=Tryz.sizeOf295
 v70:=Tryz.zeroValue295
 t72:=Tryz.underlying297
 a72:=Tryz.isAgg297
 z72:=Tryz.sizeOf297
 v72:=Tryz.zeroValue297
 t75:=Tryz.underlying35
 a75:=Tryz.isAgg35
 z75:=Tryz.sizeOf35
 v75:=Tryz.zeroValue35
 t76:=Tryz.underlying56
 a76:=Tryz.isAgg56
 z76:=Tryz.sizeOf56
 v76:=Tryz.zeroValue56
 t109:=Tryz.underlying293
 a109:=Tryz.isAgg293
 z109:=Tryz.sizeOf293
 v109:=Tryz.zeroValue293
 t127:=Tryz.underlying350
 a127:=Tryz.isAgg350
 z127:=Tryz.sizeOf350
 v127:=Tryz.zeroValue350
 t146:=Tryz.underlying346
 a146:=Tryz.isAgg346
 z146:=Tryz.sizeOf346
 v146:=Tryz.zeroValue346
 t148:=Tryz.underlying348
 a148:=Tryz.isAgg348
 z148:=Tryz.sizeOf348
 v148:=Tryz.zeroValue348
 t164:=Tryz.underlying391
 a164:=Tryz.isAgg391
 z164:=Tryz.sizeOf391
 v164:=Tryz.zeroValue391 }
theorem Tryz.Builder_Extra_105:Builder.Extra Tryz.prog Tryz.lays105_ren:={
 sizeBuilder:=by kernel_rfl
 liesBuilder:=by kernel_rfl
 t5:=Tryz.underlying5
 a5:=Tryz.isAgg5
 z5:=Tryz.sizeOf5
 v5:=Tryz.zeroValue5
 infoByte:=by kernel_rfl
 cellsByte:=by kernel_rfl
 sizeByte:=by kernel_rfl
 neB5:=by decide }
open Go.RowKit Go.Lib in
/-- **strings.Repeat: count ≥ 0,the result within one allocation: count copies of s.** (LAID: no walk: one application.) -/
theorem Tryz.strings_Repeat (s:ByteArray)(c:Nat)(w:World)(hc:c≤9223372036854775807)(hlen:s.size*c≤140737488355328) :
 Calls Tryz.prog 152 #[.string s,.int .i64 c] w fun e w'=>e = .returned (.string ⟨(Lib.repeatL s.data.toList c).toArray⟩)∧Below w.heap.size w w':=Any.strings_Repeat Tryz.lays105 Tryz.Builder_Extra_105 s c w hc hlen
def Tryz.laysNm220_ren:Go.Shelf.Ren:=⟨fun|20=>59|n=>n,fun|22=>23|3=>3|4=>4|0=>0|n=>n,fun|n=>n⟩
theorem Tryz.laysNm220:Go.Proofs.Lays2.n20 Tryz.prog Tryz.laysNm220_ren:={
 mixed:=by kernel_rfl
 f20:=Tryz.func59.trans (congrArg some (by kernel_rfl))
 t0:=Tryz.underlying0
 a0:=Tryz.isAgg0
 z0:=Tryz.sizeOf0
 v0:=Tryz.zeroValue0
 t3:=Tryz.underlying3
 a3:=Tryz.isAgg3
 z3:=Tryz.sizeOf3
 v3:=Tryz.zeroValue3
 t4:=Tryz.underlying4
 a4:=Tryz.isAgg4
 z4:=Tryz.sizeOf4
 v4:=Tryz.zeroValue4
 t22:=Tryz.underlying23
 a22:=Tryz.isAgg23
 z22:=Tryz.sizeOf23
 v22:=Tryz.zeroValue23
 i3:=by kernel_rfl }
open Go.RowKit Go.Lib Go.Sort in
/-- slices.Compact at []int: "Compact replaces consecutive runs of equal elements with a single copy. This is like the uniq command found on Unix. Compact modifies the contents of the slice s and returns the modified slice, which may have a smaller length. Compact zeroes the elements between the new length and the original length. The result preserves the nilness of s.": IT RETURNS THE SLICE CUT TO 'Lib.compact zs';ITS CELLS HOLD 'Lib.compact zs',THEN ZERO VALUES up to the old length;all else is as it was,but for the count of draws. IN THE WORDS OF slices.Sort's CONTRACT ('Holds','putRow'): so the everyday 'slices.Sort(xs);xs=slices.Compact(xs)' goes from the one contract to the other. It asks 'zs.length≤cap' (every slice's: the reslicing 's[:k]' looks at it). Length 0,nil: '.._empty'. (LAID: no walk: one application.) -/
theorem Tryz.slices_Compact_int (blk off cap:Nat)(zs:List Int)(w:World)(hH:Holds (Value.int .i64) w blk off zs.toArray)(hsz:zs.length≤9223372036854775807)(hcap:zs.length≤cap) :
 Calls Tryz.prog 59 #[.slice (some ⟨blk,off,none⟩) zs.length cap] w fun e w'=>e = .returned (.slice (some ⟨blk,off,none⟩) (Lib.compact zs).length cap)∧∃q,w'=putRow (Value.int .i64) (Sort.ahead w q) blk off (Lib.compact zs++List.replicate (zs.length-(Lib.compact zs).length) 0).toArray:=Any.slices_Compact_int Tryz.laysNm220 blk off cap zs w hH hsz hcap
end Go.Proofs
namespace Go.Proofs.YtpojgmeoaflmoaaGreatDoor
open Go.RowKit Go.Maps
def signsL:List UInt8:=[97,98,99,100,101,102,103,104,105,106,107,108,109,110,111,112,113,114,115,116,117,118,119,120,121,122,48,49,50,51,52,53,54,55,56,57,45,46,126]
def za5 (n:zqY):Prop:=1≤n.length∧n.length≤24∧∀c ∈ n,c ∈ signsL
theorem zdI (p:UInt8→Bool):∀l:List UInt8,(∀c ∈ l,p c=true)→l.dropWhile p = []
 |[],_=>rfl
 |x::r,h=>by rw[List.dropWhile_cons_of_pos (h x (by simp))];exact zdI p r (fun c hc=>h c (by simp[hc]))
theorem zmS (n cs:List UInt8)(h:∀c ∈ n,c ∈ cs):Lib.trimS n cs = []:=by
 unfold Lib.trimS Lib.trimRightS;rw[zdI _ n.reverse (fun c hc=>by simpa using h c (by simpa using hc))]
 rfl
theorem zgk (n:zqY)(w:World)(hn:n.length≤1000)(h:∀c ∈ n,c ∈ signsL) :
 Calls Tryz.prog 196 #[.string ⟨n.toArray⟩,.string ⟨signsL.toArray⟩] w fun e w'=>e = .returned (.string ⟨#[]⟩)∧za zq2 w w':=by
 refine(Any.strings_Trim_laid Tryz.lays160 (by kernel_rfl) ⟨n.toArray⟩ ⟨signsL.toArray⟩ w (by show n.toArray.size≤_;simp;omega) (by decide) (ascii_of_all (by decide))).mono ?_
 rintro e w' ⟨rfl,hb⟩;refine⟨?_,za.ofBelow hb⟩;have:Lib.trimS (⟨n.toArray⟩:ByteArray).data.toList (⟨signsL.toArray⟩:ByteArray).data.toList = []:=by
  show Lib.trimS n.toArray.toList signsL.toArray.toList = []
  rw[List.toList_toArray,List.toList_toArray];exact zmS n signsL h
 rw[this]
theorem zbP (n:zqY)(w:World)(h:za5 n) :
 Calls Tryz.prog 130 #[sv n] w fun e w'=>e = .returned (.bool true)∧za zq2 w w':=by
 obtain⟨h1,h2,h3⟩:=h;have TR:=zz0 (zgk n w (by omega) h3)
 have TRd:=zz0 (zgk n w.drew (by omega) h3)
 have hs:(⟨n.toArray⟩:ByteArray).size=n.length:=by show n.toArray.size=_;simp
 unfold sv
 go_enter Tryz.func130,Tryz.ntmps130
 go_wp2_with(go_at_call 196;refine TR.out.mono ?_;rintro e w1 ⟨rfl,k1⟩;have K1:=zz0 k1;clear k1)
 go_ret;exact⟨rfl,K1.out⟩
theorem zq.grow {F T:Nat→Prop}{w:World}{p s h:Nat}{pv v:Value}{X:Dk}(d:zq F T w p s h pv X){B:Nat}(hB:p<B∧s<B∧h<B∧∀g,pv.ownBlock=some g→g<B)(hv:∀g,v.ownBlock=some g→B≤g∧g<w.heap.size) :
 zq (fun g=>F g∨v.ownBlock=some g) (fun g=>T g∨v.ownBlock=some g) w p s h pv X:=by
 obtain⟨i1,i2,i3,i4,i5⟩:=d.inF;obtain⟨o1,o2,o3,o4,o5⟩:=d.outT;have k:za zq2 w w:=za.refl _ _;refine⟨d.blk,d.sure.keep k (fun e=>e) (fun _ _ e=>e) (fun _ e=>.inl e),d.shown.keep k (fun e=>e) (fun _ _ e=>e) (fun _ e=>.inl e),d.pend.keep k (fun _ _ e=>e) (fun _ _ e=>e) (fun _ e=>.inl e),⟨.inl i1,.inl i2,.inl i3,fun g e=>.inl (i4 g e),fun g e=>by rcases e with e|e;exact .inl (i5 g e);exact .inr e⟩,d.apart,⟨?_,?_,?_,?_,?_⟩,d.room⟩
 ·rintro(e|e);exact o1 e;have:=(hv _ e).1;omega
 ·rintro(e|e);exact o2 e;have:=(hv _ e).1;omega
 ·rintro(e|e);exact o3 e;have:=(hv _ e).1;omega
 ·rintro g e (e2|e2);exact o4 g e e2;have h1:=(hv g e2).1;have h2:=hB.2.2.2 g e;omega
 ·rintro g (e|e);exact o5 g e;exact(hv g e).2
theorem zdP {α:Type}{w:World}{kt:TypeId}{R:Value→α→Prop}{b:Nat}{D:DataW α}(h:zF w kt R b D):∃es clock,w.heap[b]? = some (.map es clock)∧es.size=size D:=by
 obtain⟨es,clock,hb,F,hs,rfl⟩:=h;exact⟨es,clock,hb,by simp[size,length_sorted]⟩
theorem zjk {w2 W W':World}{p h:Nat}{r:Int}{es:Array MapEntry}{clock:Nat}(hS:W.cell? ⟨p,0,none⟩=some (.int .i64 r)∧W.cell? ⟨p,2,none⟩=some (.map (some h))∧W.heap[h]? = some (.map es clock)∧za zq2 w2 W)(k:za zq2 W W') :
 W'.cell? ⟨p,0,none⟩=some (.int .i64 r)∧W'.cell? ⟨p,2,none⟩=some (.map (some h))∧W'.heap[h]? = some (.map es clock)∧za zq2 w2 W':=by
 obtain⟨h1,h2,h3,h4⟩:=hS;exact⟨(World.cell?_of_block (k.block p (World.block_lt_of_cell? _ _ h1) (fun e=>e))).trans h1,(World.cell?_of_block (k.block p (World.block_lt_of_cell? _ _ h2) (fun e=>e))).trans h2,k.at h3 (fun e=>e),h4.trans1 k⟩
theorem zq.lts {F T:Nat→Prop}{w:World}{p s h:Nat}{pv:Value}{X:Dk}(d:zq F T w p s h pv X):p<w.heap.size∧s<w.heap.size∧h<w.heap.size∧∀g,pv.ownBlock=some g→g<w.heap.size:=by
 obtain⟨xs,h1,_⟩:=d.pend;exact⟨lt_of_block d.blk,zF.lt d.sure,zF.lt d.shown,fun g e=>(h1.lt g e).2⟩
theorem ze2 {F T:Nat→Prop}{w w1 w4 w5:World}{p s h:Nat}{pv v4:Value}{X:Dk}(d:zq F T w p s h pv X)(k1:za (zq3 p) w w1)(k4:za zq2 w1 w4)(hv:∀g,v4.ownBlock=some g→w.heap.size≤g)(k5:za (fun g=>F g∨v4.ownBlock=some g) w4 w5):za F w w5 :=
 ((k1.mono (fun i _ e=>by have e':i=p:=e;rw[e'];exact d.inF.1)).trans1 k4.ofNon).trans k5 (fun _ _ e=>e) (fun i hi e=>by
   rcases e with e|e
   ·exact e
   ·have:=hv i e;omega)
theorem zfY {F:Nat→Prop}{A B g:Nat}{v4 pv':Value}(hAB:A≤B)(hv:∀g,v4.ownBlock=some g→A≤g)(hpv:∀g,pv'.ownBlock=some g→(F g∨v4.ownBlock=some g)∨B≤g)(h:(F g∨v4.ownBlock=some g)∨pv'.ownBlock=some g):F g∨A≤g:=by
 rcases h with (h|h)|h
 ·exact .inl h
 ·exact .inr (hv g h)
 ·rcases hpv g h with (q|q)|q
  ·exact .inl q
  ·exact .inr (hv g q)
  ·exact .inr (by omega)
theorem zlu (F T:Nat→Prop)(p s h:Nat)(pv v:Value)(n b:zqY)(X:Dk)(w:World)(d:zq F T w p s h pv X)(hw:X.works.1=0)(hfu:X.fuse≤1000000000)(hv:Bs w v b)(hn:za5 n)(hb:b.length≤65536)(hs:size X.shown≤100000)(hp:X.pend.length≤1000000)(hu:fused X.shown≤1000000000)(hg:(zat X.shown n).length≤1000000000)(hfull:¬X.works.2.full n b)(hnp:∀g,v.ownBlock=some g→g≠p) :
 Calls Tryz.prog 181 #[.pointer (some ⟨p,0,none⟩),sv n,v] w fun e w'=>e = .returned .nilIface∧za F w w'∧∃F',(∀g,F' g→F g∨w.heap.size≤g)∧zQ F' w' p (X.works.2.add (.write n b)):=by
 have W:=zap F T p s h pv X w d hfu;rw[hw] at W;have W2:Hid (Calls Tryz.prog 129 #[.pointer (some ⟨p,0,none⟩)] w fun e w'=>e = .returned .nilIface∧za (zq3 p) w w'∧zq F T w' p s h pv X.works.2):=W
 have V:=zz0 hv;have D:=zz0 d;have NP:=zz0 hnp;clear hnp;obtain⟨r1,r2,r3,r4⟩:=zW X;have hX2:size X.works.2.shown≤100000:=by rw[r2];exact hs
 have hP2:X.works.2.pend.length≤1000000:=by rw[r3];exact hp
 have hU2:fused X.works.2.shown≤1000000000:=by rw[r2];exact hu
 have hG2:(zat X.works.2.shown n).length≤1000000000:=by rw[r2];exact hg
 obtain⟨a,c,rfl,_⟩:=zY hv;have NP:Hid (∀g,(Value.slice a b.length c).ownBlock=some g→¬zq3 p g):=zz0 (fun g e e2=>NP.out g e e2)
 have law:=string_keyed Tryz.underlying9;have hkey:=zb1 n (by unfold maxLen;have:=hn.2.1;omega)
 have hz:=fun w=>Tryz.zeroValue43 w
 have hnl:n.length≤1000:=by have:=hn.2.1;omega
 have NM:=zz0 (fun w=>zbP n w hn)
 clear W d hv;generalize X.works.2=Y at W2 hfull hX2 hP2 hU2 hG2 ⊢;have hY:=zz0 hfull;unfold Dk.full at hfull;rw[not_or] at hfull;obtain⟨hf1,hf2⟩:=hfull;cases hhas:zz Y.shown n with
 |true =>
  have hh:has Y.shown (.string n)=true:=hhas;unfold sv at hkey NM ⊢;generalize hold:zat Y.shown n=old at hf2 hG2;have HOLD:=zz0 hold;clear hold hf1;generalize hus:fused Y.shown=us at hf2 hU2;have HUS:=zz0 hus;clear hus
  go_enter Tryz.func181,Tryz.ntmps181
  go_wp2_with(first
   |(go_at_call 129;refine W2.out.mono ?_;rintro e w1 ⟨rfl,k1,d1⟩;have c2:=dk_2 d1.blk;have c0:=dk_0 d1.blk;have M1:=zz0 d1.shown;have K1:=zz0 k1;have D1:=zz0 d1;clear k1 d1)
   |(at_lookup;refine zu rfl _ _ 104 rfl 43 law Tryz.underlying104 (hz _) [] (zbT.fun1 _ T) (zau _ _) rfl M1.out _ _ rfl hkey ?_;rw[hh];intro lv ly hlv hat;obtain rfl:ly=old:=(by have e:=HOLD.out;unfold zat at e;rw[hat] at e;exact e);obtain⟨⟨la,lc,rfl,_⟩,_⟩:=hlv;rw[List.length_map];clear hat)
   |(go_at_call 130;refine(NM.out _).mono ?_;rintro e w2 ⟨rfl,k2⟩;have K2:=zz0 k2;clear k2;have B2:=K2.out.at D1.out.blk (fun e=>e);have e2:=dk_2 B2;have e0:=dk_0 B2;have M2:=zz0 (zbA.keep M1.out K2.out (fun e=>e) (fun _ _ e=>e) (fun _ e=>e));clear B2))
  obtain⟨es,clock,hes,hsz⟩:=zdP M2.out;have S0:w2.drew.cell? ⟨p,0,none⟩=some (.int .i64 Y.room)∧w2.drew.cell? ⟨p,2,none⟩=some (.map (some h))∧w2.drew.heap[h]? = some (.map es clock)∧za zq2 w2 w2.drew:=⟨e0,e2,hes,(za.refl _ _).drew⟩;have USED:Hid (∀W,(W.cell? ⟨p,0,none⟩=some (.int .i64 Y.room)∧W.cell? ⟨p,2,none⟩=some (.map (some h))∧W.heap[h]? = some (.map es clock)∧za zq2 w2 W)→Calls Tryz.prog 238 #[.map (some h)] W fun e w'=>e = .returned (.int .i64 us)∧za zq2 W w'):=zz0 (fun W hW=>by
   have:=zeC T h Y.shown W (zbA.keep M2.out hW.2.2.2 (fun e=>e) (fun _ _ e=>e) (fun _ e=>e)) (by rw[HUS.out];omega)
   rw[HUS.out] at this;exact this)
  have wr1:IntKind.i64.wrap ((us:Int)-(ly.length:Int))=(us:Int)-(ly.length:Int):=IntWalk.i64_in _ (by omega)
  have wr2:IntKind.i64.wrap ((us:Int)-(ly.length:Int)+(b.length:Int))=(us:Int)-(ly.length:Int)+(b.length:Int):=IntWalk.i64_in _ (by omega)
  have wr3:(us:Int)-(ly.length:Int)+(b.length:Int)≤(Y.room:Int):=by omega
  refine wp_region_noPanic ?_;refine wp_region_held_drew (S:=fun W=>W.cell? ⟨p,0,none⟩=some (.int .i64 Y.room)∧W.cell? ⟨p,2,none⟩=some (.map (some h))∧W.heap[h]? = some (.map es clock)∧za zq2 w2 W) (by as_aux_lemma=>kernel_rfl) S0 (fun hHeld=>?_)
  refine tq 0 ?_;refine tq 1 ?_;refine tq 2 ?_;refine tu (i:=3) ?_;simp only[Act.put,List.setIfInBounds_toArray,List.set_cons_zero,List.set_cons_succ];refine tu (i:=4) ?_;simp only[Act.put,List.setIfInBounds_toArray,List.set_cons_zero,List.set_cons_succ];refine tu (i:=5) ?_;simp only[Act.put,List.setIfInBounds_toArray,List.set_cons_zero,List.set_cons_succ];refine tu (i:=6) ?_;simp only[Act.put,List.setIfInBounds_toArray,List.set_cons_zero,List.set_cons_succ];refine tu (i:=7) ?_;simp only[Act.put,List.setIfInBounds_toArray,List.set_cons_zero,List.set_cons_succ];refine tu (i:=8) ?_;simp only[Act.put,List.setIfInBounds_toArray,List.set_cons_zero,List.set_cons_succ];refine tq 9 ?_;refine tq 10 ?_;refine tq 11 ?_;refine tq 12 ?_;refine tq 13 ?_;refine tq 14 ?_;refine tq 16 ?_;refine tq 17 ?_;refine tq 19 ?_;refine tq 20 ?_;refine tq 22 ?_;refine tq 23 ?_;refine tq 24 ?_;refine tq 25 ?_;refine rc (i:=15) (fun K hK=>?_)
  go_simp;refine(USED.out _ (by assumption)).mono ?_
  rintro e w3 ⟨rfl,k3⟩
  go_wp2_with fail
  refine hK.out _ _ (zjk (by assumption) k3) (fun hHeld24=>?_)
  clear hK K
  try simp only[Act.put,List.setIfInBounds_toArray,List.set_cons_zero,List.set_cons_succ]
  refine tq 18 ?_;refine tq 21 ?_;refine tq 26 ?_;refine tq 27 ?_;refine tq 28 ?_;refine wpAnyH_done (by as_aux_lemma=>kernel_rfl) ?_ _
  refine NoPanic.normal ?_;go_simp;have K3:=zz0 (zR k3);clear k3 hHeld
  go_wp2_with(first
   |(go_at_call 150;refine(za7 _ b _ ((Rd.keep V.out K1.out NP.out).keepNon (K2.out.trans1 K3.out)) (by omega)).mono ?_;rintro e w4 ⟨v4,rfl,k4,o4⟩;obtain⟨a4,c4,rfl,_,_⟩:=zb o4;have K4:=zz0 k4;have O4:=zz0 o4;clear k4 o4)
   |(go_at_call 131;refine(zfW _ _ p s h pv (.slice a4 b.length c4) n b Y _ ((D1.out.keep ((K2.out.trans1 K3.out).trans1 K4.out) (fun _ _ e=>e)).grow (B:=w3.heap.size) ?g1 (fun g e=>O4.out.lt g e)) ⟨Rd.ofOwns O4.out,fun g e=>.inr e⟩ (by omega) hP2 hnl).mono ?_;rotate_left 1;rintro e w5 ⟨rfl,k5,hex⟩;have K5:=zz0 k5;have EX:=zz0 hex;clear k5 hex))
  ·go_ret
   obtain⟨pv',hpv,dd⟩:=EX.out;exact⟨rfl,ze2 D.out K1.out ((K2.out.trans1 K3.out).trans1 K4.out) (fun g e=>Nat.le_trans (Nat.le_trans K1.out.size (K2.out.trans1 K3.out).size) (O4.out.lt g e).1) K5.out,_,fun g e=>zfY (Nat.le_trans K1.out.size ((K2.out.trans1 K3.out).trans1 K4.out).size) (fun g e=>Nat.le_trans (Nat.le_trans K1.out.size (K2.out.trans1 K3.out).size) (O4.out.lt g e).1) hpv e,⟨_,s,h,pv',dd⟩⟩
  ·obtain⟨l1,l2,l3,l4⟩:=D1.out.lts
   have hsz:=(K2.out.trans1 K3.out).size;exact⟨by omega,by omega,by omega,fun g e=>by have:=l4 g e;omega⟩
 |false =>
  have hh:has Y.shown (.string n)=false:=hhas;have hs5:size Y.shown<512:=Nat.lt_of_not_le (fun e=>hf1 ⟨hhas,e⟩)
  unfold sv at hkey NM ⊢;generalize hold:zat Y.shown n=old at hf2 hG2;have HOLD:=zz0 hold;clear hold hf1;generalize hus:fused Y.shown=us at hf2 hU2;have HUS:=zz0 hus;clear hus
  go_enter Tryz.func181,Tryz.ntmps181
  go_wp2_with(first
   |(go_at_call 129;refine W2.out.mono ?_;rintro e w1 ⟨rfl,k1,d1⟩;have c2:=dk_2 d1.blk;have c0:=dk_0 d1.blk;have M1:=zz0 d1.shown;have K1:=zz0 k1;have D1:=zz0 d1;clear k1 d1)
   |(at_lookup;refine zu rfl _ _ 104 rfl 43 law Tryz.underlying104 (hz _) [] (zbT.fun1 _ T) (zau _ _) rfl M1.out _ _ rfl hkey ?_;rw[hh];intro lv ly hlv hat;obtain rfl:ly=old:=(by have e:=HOLD.out;unfold zat at e;rw[hat] at e;exact e);obtain⟨⟨la,lc,rfl,_⟩,_⟩:=hlv;rw[List.length_map];clear hat)
   |(go_at_call 130;refine(NM.out _).mono ?_;rintro e w2 ⟨rfl,k2⟩;have K2:=zz0 k2;clear k2;have B2:=K2.out.at D1.out.blk (fun e=>e);have e2:=dk_2 B2;have e0:=dk_0 B2;have M2:=zz0 (zbA.keep M1.out K2.out (fun e=>e) (fun _ _ e=>e) (fun _ e=>e));clear B2))
  obtain⟨es,clock,hes,hsz⟩:=zdP M2.out;have LEN:∀W:World,W.heap[h]? = some (.map es clock)→(Builtin.len_ #[104] 3 #[.map (some h)]).run Tryz.prog W = .ok (.int .i64 es.size) W:=fun W hW=>by simp[Builtin.len_,run_underlying Tryz.underlying104,MapKept.run_getObj_map hW,goInt,Result.andThen]
  have hs8:¬(512:Int)≤(size Y.shown:Int):=by omega
  have hs6:¬(512:Int)≤(es.size:Int):=by omega
  have hs7:¬512≤es.size:=by omega
  have S0:w2.drew.cell? ⟨p,0,none⟩=some (.int .i64 Y.room)∧w2.drew.cell? ⟨p,2,none⟩=some (.map (some h))∧w2.drew.heap[h]? = some (.map es clock)∧za zq2 w2 w2.drew:=⟨e0,e2,hes,(za.refl _ _).drew⟩;have USED:Hid (∀W,(W.cell? ⟨p,0,none⟩=some (.int .i64 Y.room)∧W.cell? ⟨p,2,none⟩=some (.map (some h))∧W.heap[h]? = some (.map es clock)∧za zq2 w2 W)→Calls Tryz.prog 238 #[.map (some h)] W fun e w'=>e = .returned (.int .i64 us)∧za zq2 W w'):=zz0 (fun W hW=>by
   have:=zeC T h Y.shown W (zbA.keep M2.out hW.2.2.2 (fun e=>e) (fun _ _ e=>e) (fun _ e=>e)) (by rw[HUS.out];omega)
   rw[HUS.out] at this;exact this)
  have wr1:IntKind.i64.wrap ((us:Int)-(ly.length:Int))=(us:Int)-(ly.length:Int):=IntWalk.i64_in _ (by omega)
  have wr2:IntKind.i64.wrap ((us:Int)-(ly.length:Int)+(b.length:Int))=(us:Int)-(ly.length:Int)+(b.length:Int):=IntWalk.i64_in _ (by omega)
  have wr3:(us:Int)-(ly.length:Int)+(b.length:Int)≤(Y.room:Int):=by omega
  refine wp_region_noPanic ?_;refine wp_region_held_drew (S:=fun W=>W.cell? ⟨p,0,none⟩=some (.int .i64 Y.room)∧W.cell? ⟨p,2,none⟩=some (.map (some h))∧W.heap[h]? = some (.map es clock)∧za zq2 w2 W) (by as_aux_lemma=>kernel_rfl) S0 (fun hHeld=>?_)
  refine tq 0 ?_;refine tq 1 ?_;refine tq 2 ?_;refine tq 3 ?_;refine tq 4 ?_;refine tq 5 ?_;refine tq 6 ?_;refine tq 7 ?_;refine tq 8 ?_;refine tq 9 ?_;refine tq 10 ?_;refine tq 11 ?_;refine tq 12 ?_;refine tq 13 ?_;refine tq 14 ?_;refine tq 16 ?_;refine tq 17 ?_;refine tq 19 ?_;refine tq 20 ?_;refine tq 22 ?_;refine tq 23 ?_;refine tq 24 ?_;refine tq 25 ?_;refine rc (i:=15) (fun K hK=>?_)
  go_simp;refine(USED.out _ (by assumption)).mono ?_
  rintro e w3 ⟨rfl,k3⟩
  go_wp2_with fail
  refine hK.out _ _ (zjk (by assumption) k3) (fun hHeld53=>?_)
  clear hK K
  try simp only[Act.put,List.setIfInBounds_toArray,List.set_cons_zero,List.set_cons_succ]
  refine tq 18 ?_;refine tq 21 ?_;refine tq 26 ?_;refine tq 27 ?_;refine tq 28 ?_;refine wpAnyH_done (by as_aux_lemma=>kernel_rfl) ?_ _
  refine NoPanic.normal ?_;go_simp;have K3:=zz0 (zR k3);clear k3 hHeld
  go_wp2_with(first
   |(go_at_call 150;refine(za7 _ b _ ((Rd.keep V.out K1.out NP.out).keepNon (K2.out.trans1 K3.out)) (by omega)).mono ?_;rintro e w4 ⟨v4,rfl,k4,o4⟩;obtain⟨a4,c4,rfl,_,_⟩:=zb o4;have K4:=zz0 k4;have O4:=zz0 o4;clear k4 o4)
   |(go_at_call 131;refine(zfW _ _ p s h pv (.slice a4 b.length c4) n b Y _ ((D1.out.keep ((K2.out.trans1 K3.out).trans1 K4.out) (fun _ _ e=>e)).grow (B:=w3.heap.size) ?g2 (fun g e=>O4.out.lt g e)) ⟨Rd.ofOwns O4.out,fun g e=>.inr e⟩ (by omega) hP2 hnl).mono ?_;rotate_left 1;rintro e w5 ⟨rfl,k5,hex⟩;have K5:=zz0 k5;have EX:=zz0 hex;clear k5 hex))
  ·go_ret
   obtain⟨pv',hpv,dd⟩:=EX.out;exact⟨rfl,ze2 D.out K1.out ((K2.out.trans1 K3.out).trans1 K4.out) (fun g e=>Nat.le_trans (Nat.le_trans K1.out.size (K2.out.trans1 K3.out).size) (O4.out.lt g e).1) K5.out,_,fun g e=>zfY (Nat.le_trans K1.out.size ((K2.out.trans1 K3.out).trans1 K4.out).size) (fun g e=>Nat.le_trans (Nat.le_trans K1.out.size (K2.out.trans1 K3.out).size) (O4.out.lt g e).1) hpv e,⟨_,s,h,pv',dd⟩⟩
  ·obtain⟨l1,l2,l3,l4⟩:=D1.out.lts
   have hsz:=(K2.out.trans1 K3.out).size;exact⟨by omega,by omega,by omega,fun g e=>by have:=l4 g e;omega⟩
theorem zlt (F T:Nat→Prop)(p s h:Nat)(pv v:Value)(n:zqY)(X:Dk)(w:World)(d:zq F T w p s h pv X)(hf:X.fuse≤1000000000)(hw:X.works.1=14) :
 Calls Tryz.prog 181 #[.pointer (some ⟨p,0,none⟩),sv n,v] w fun e w'=>e = .returned (.iface 89 (.int .i64 14))∧za (zq3 p) w w'∧zq F T w' p s h pv X.works.2:=by
 have W:=zap F T p s h pv X w d hf;rw[hw] at W;have W2:Hid (Calls Tryz.prog 129 #[.pointer (some ⟨p,0,none⟩)] w fun e w'=>e = .returned (.iface 89 (.int .i64 14))∧za (zq3 p) w w'∧zq F T w' p s h pv X.works.2):=W
 clear W d
 go_enter Tryz.func181,Tryz.ntmps181
 go_wp2_with(go_at_call 129;refine W2.out.mono ?_;rintro e w1 ⟨rfl,k1,d1⟩;have K1:=zz0 k1;have D1:=zz0 d1;clear k1 d1)
 go_ret;exact⟨rfl,K1.out,D1.out⟩
theorem zik (F T:Nat→Prop)(p s h:Nat)(pv v:Value)(n b:zqY)(X:Dk)(w:World)(d:zq F T w p s h pv X)(hw:X.works.1=0)(hfu:X.fuse≤1000000000)(hv:Bs w v b)(hn:za5 n)(hb:b.length≤65536)(hs:size X.shown≤100000)(hp:X.pend.length≤1000000)(hu:fused X.shown≤1000000000)(hg:(zat X.shown n).length≤1000000000)(hs5:size X.shown<512)(hover:X.works.2.room+(zat X.works.2.shown n).length<fused X.works.2.shown+b.length) :
 Calls Tryz.prog 181 #[.pointer (some ⟨p,0,none⟩),sv n,v] w fun e w'=>e = .returned (.iface 89 (.int .i64 5))∧za F w w'∧zq F T w' p s h pv X.works.2:=by
 have W:=zap F T p s h pv X w d hfu;rw[hw] at W;have W2:Hid (Calls Tryz.prog 129 #[.pointer (some ⟨p,0,none⟩)] w fun e w'=>e = .returned .nilIface∧za (zq3 p) w w'∧zq F T w' p s h pv X.works.2):=W
 have V:=zz0 hv;have D:=zz0 d;obtain⟨r1,r2,r3,r4⟩:=zW X;have hX2:size X.works.2.shown≤100000:=by rw[r2];exact hs
 have hP2:X.works.2.pend.length≤1000000:=by rw[r3];exact hp
 have hU2:fused X.works.2.shown≤1000000000:=by rw[r2];exact hu
 have hG2:(zat X.works.2.shown n).length≤1000000000:=by rw[r2];exact hg
 obtain⟨a,c,rfl,_⟩:=zY hv;have law:=string_keyed Tryz.underlying9;have hkey:=zb1 n (by unfold maxLen;have:=hn.2.1;omega)
 have hz:=fun w=>Tryz.zeroValue43 w
 have hnl:n.length≤1000:=by have:=hn.2.1;omega
 have NM:=zz0 (fun w=>zbP n w hn)
 clear W d hv;have hs5':size X.works.2.shown<512:=by rw[r2];exact hs5
 have rm:X.works.2.room≤1073741824:=by rw[r1];exact D.out.room
 generalize X.works.2=Y at W2 hover hX2 hP2 hU2 hG2 hs5' rm ⊢;have hf2:=hover;clear hover;cases hhas:zz Y.shown n with
 |true =>
  have hh:has Y.shown (.string n)=true:=hhas;unfold sv at hkey NM ⊢;generalize hold:zat Y.shown n=old at hf2 hG2;have HOLD:=zz0 hold;clear hold;generalize hus:fused Y.shown=us at hf2 hU2;have HUS:=zz0 hus;clear hus
  go_enter Tryz.func181,Tryz.ntmps181
  go_wp2_with(first
   |(go_at_call 129;refine W2.out.mono ?_;rintro e w1 ⟨rfl,k1,d1⟩;have c2:=dk_2 d1.blk;have c0:=dk_0 d1.blk;have M1:=zz0 d1.shown;have K1:=zz0 k1;have D1:=zz0 d1;clear k1 d1)
   |(at_lookup;refine zu rfl _ _ 104 rfl 43 law Tryz.underlying104 (hz _) [] (zbT.fun1 _ T) (zau _ _) rfl M1.out _ _ rfl hkey ?_;rw[hh];intro lv ly hlv hat;obtain rfl:ly=old:=(by have e:=HOLD.out;unfold zat at e;rw[hat] at e;exact e);obtain⟨⟨la,lc,rfl,_⟩,_⟩:=hlv;rw[List.length_map];clear hat)
   |(go_at_call 130;refine(NM.out _).mono ?_;rintro e w2 ⟨rfl,k2⟩;have K2:=zz0 k2;clear k2;have B2:=K2.out.at D1.out.blk (fun e=>e);have e2:=dk_2 B2;have e0:=dk_0 B2;have M2:=zz0 (zbA.keep M1.out K2.out (fun e=>e) (fun _ _ e=>e) (fun _ e=>e));clear B2))
  obtain⟨es,clock,hes,hsz⟩:=zdP M2.out;have S0:w2.drew.cell? ⟨p,0,none⟩=some (.int .i64 Y.room)∧w2.drew.cell? ⟨p,2,none⟩=some (.map (some h))∧w2.drew.heap[h]? = some (.map es clock)∧za zq2 w2 w2.drew:=⟨e0,e2,hes,(za.refl _ _).drew⟩;have USED:Hid (∀W,(W.cell? ⟨p,0,none⟩=some (.int .i64 Y.room)∧W.cell? ⟨p,2,none⟩=some (.map (some h))∧W.heap[h]? = some (.map es clock)∧za zq2 w2 W)→Calls Tryz.prog 238 #[.map (some h)] W fun e w'=>e = .returned (.int .i64 us)∧za zq2 W w'):=zz0 (fun W hW=>by
   have:=zeC T h Y.shown W (zbA.keep M2.out hW.2.2.2 (fun e=>e) (fun _ _ e=>e) (fun _ e=>e)) (by rw[HUS.out];omega)
   rw[HUS.out] at this;exact this)
  have wr1:IntKind.i64.wrap ((us:Int)-(ly.length:Int))=(us:Int)-(ly.length:Int):=IntWalk.i64_in _ (by omega)
  have wr2:IntKind.i64.wrap ((us:Int)-(ly.length:Int)+(b.length:Int))=(us:Int)-(ly.length:Int)+(b.length:Int):=IntWalk.i64_in _ (by omega)
  have wr3:(Y.room:Int)<(us:Int)-(ly.length:Int)+(b.length:Int):=by omega
  refine wp_region_noPanic ?_;refine wp_region_held_drew (S:=fun W=>W.cell? ⟨p,0,none⟩=some (.int .i64 Y.room)∧W.cell? ⟨p,2,none⟩=some (.map (some h))∧W.heap[h]? = some (.map es clock)∧za zq2 w2 W) (by as_aux_lemma=>kernel_rfl) S0 (fun hHeld=>?_)
  refine tq 0 ?_;refine tq 1 ?_;refine tq 2 ?_;refine tu (i:=3) ?_;simp only[Act.put,List.setIfInBounds_toArray,List.set_cons_zero,List.set_cons_succ];refine tu (i:=4) ?_;simp only[Act.put,List.setIfInBounds_toArray,List.set_cons_zero,List.set_cons_succ];refine tu (i:=5) ?_;simp only[Act.put,List.setIfInBounds_toArray,List.set_cons_zero,List.set_cons_succ];refine tu (i:=6) ?_;simp only[Act.put,List.setIfInBounds_toArray,List.set_cons_zero,List.set_cons_succ];refine tu (i:=7) ?_;simp only[Act.put,List.setIfInBounds_toArray,List.set_cons_zero,List.set_cons_succ];refine tu (i:=8) ?_;simp only[Act.put,List.setIfInBounds_toArray,List.set_cons_zero,List.set_cons_succ];refine tq 9 ?_;refine tq 10 ?_;refine tq 11 ?_;refine tq 12 ?_;refine tq 13 ?_;refine tq 14 ?_;refine tq 16 ?_;refine tq 17 ?_;refine tq 19 ?_;refine tq 20 ?_;refine tq 22 ?_;refine tq 23 ?_;refine tq 24 ?_;refine tq 25 ?_;refine rc (i:=15) (fun K hK=>?_)
  go_simp;refine(USED.out _ (by assumption)).mono ?_
  rintro e w3 ⟨rfl,k3⟩
  go_wp2_with fail
  refine hK.out _ _ (zjk (by assumption) k3) (fun hHeld82=>?_)
  clear hK K
  try simp only[Act.put,List.setIfInBounds_toArray,List.set_cons_zero,List.set_cons_succ]
  refine tq 18 ?_;refine tq 21 ?_;refine tq 26 ?_;refine tq 27 ?_;refine tq 28 ?_;refine wpAnyH_done (by as_aux_lemma=>kernel_rfl) ?_ _
  refine NoPanic.normal ?_;go_simp;have K3:=zz0 (zR k3);clear k3 hHeld
  go_wp2_with fail
  go_ret;exact⟨rfl,(K1.out.mono (fun i _ e=>by have e':i=p:=e;rw[e'];exact D.out.inF.1)).trans1 (K2.out.trans1 K3.out).ofNon,D1.out.keep (K2.out.trans1 K3.out) (fun _ _ e=>e)⟩
 |false =>
  have hh:has Y.shown (.string n)=false:=hhas;unfold sv at hkey NM ⊢;generalize hold:zat Y.shown n=old at hf2 hG2;have HOLD:=zz0 hold;clear hold;generalize hus:fused Y.shown=us at hf2 hU2;have HUS:=zz0 hus;clear hus
  go_enter Tryz.func181,Tryz.ntmps181
  go_wp2_with(first
   |(go_at_call 129;refine W2.out.mono ?_;rintro e w1 ⟨rfl,k1,d1⟩;have c2:=dk_2 d1.blk;have c0:=dk_0 d1.blk;have M1:=zz0 d1.shown;have K1:=zz0 k1;have D1:=zz0 d1;clear k1 d1)
   |(at_lookup;refine zu rfl _ _ 104 rfl 43 law Tryz.underlying104 (hz _) [] (zbT.fun1 _ T) (zau _ _) rfl M1.out _ _ rfl hkey ?_;rw[hh];intro lv ly hlv hat;obtain rfl:ly=old:=(by have e:=HOLD.out;unfold zat at e;rw[hat] at e;exact e);obtain⟨⟨la,lc,rfl,_⟩,_⟩:=hlv;rw[List.length_map];clear hat)
   |(go_at_call 130;refine(NM.out _).mono ?_;rintro e w2 ⟨rfl,k2⟩;have K2:=zz0 k2;clear k2;have B2:=K2.out.at D1.out.blk (fun e=>e);have e2:=dk_2 B2;have e0:=dk_0 B2;have M2:=zz0 (zbA.keep M1.out K2.out (fun e=>e) (fun _ _ e=>e) (fun _ e=>e));clear B2))
  obtain⟨es,clock,hes,hsz⟩:=zdP M2.out;have LEN:∀W:World,W.heap[h]? = some (.map es clock)→(Builtin.len_ #[104] 3 #[.map (some h)]).run Tryz.prog W = .ok (.int .i64 es.size) W:=fun W hW=>by simp[Builtin.len_,run_underlying Tryz.underlying104,MapKept.run_getObj_map hW,goInt,Result.andThen]
  have hs8:¬(512:Int)≤(size Y.shown:Int):=by omega
  have hs6:¬(512:Int)≤(es.size:Int):=by omega
  have hs7:¬512≤es.size:=by omega
  have S0:w2.drew.cell? ⟨p,0,none⟩=some (.int .i64 Y.room)∧w2.drew.cell? ⟨p,2,none⟩=some (.map (some h))∧w2.drew.heap[h]? = some (.map es clock)∧za zq2 w2 w2.drew:=⟨e0,e2,hes,(za.refl _ _).drew⟩;have USED:Hid (∀W,(W.cell? ⟨p,0,none⟩=some (.int .i64 Y.room)∧W.cell? ⟨p,2,none⟩=some (.map (some h))∧W.heap[h]? = some (.map es clock)∧za zq2 w2 W)→Calls Tryz.prog 238 #[.map (some h)] W fun e w'=>e = .returned (.int .i64 us)∧za zq2 W w'):=zz0 (fun W hW=>by
   have:=zeC T h Y.shown W (zbA.keep M2.out hW.2.2.2 (fun e=>e) (fun _ _ e=>e) (fun _ e=>e)) (by rw[HUS.out];omega)
   rw[HUS.out] at this;exact this)
  have wr1:IntKind.i64.wrap ((us:Int)-(ly.length:Int))=(us:Int)-(ly.length:Int):=IntWalk.i64_in _ (by omega)
  have wr2:IntKind.i64.wrap ((us:Int)-(ly.length:Int)+(b.length:Int))=(us:Int)-(ly.length:Int)+(b.length:Int):=IntWalk.i64_in _ (by omega)
  have wr3:(Y.room:Int)<(us:Int)-(ly.length:Int)+(b.length:Int):=by omega
  refine wp_region_noPanic ?_;refine wp_region_held_drew (S:=fun W=>W.cell? ⟨p,0,none⟩=some (.int .i64 Y.room)∧W.cell? ⟨p,2,none⟩=some (.map (some h))∧W.heap[h]? = some (.map es clock)∧za zq2 w2 W) (by as_aux_lemma=>kernel_rfl) S0 (fun hHeld=>?_)
  refine tq 0 ?_;refine tq 1 ?_;refine tq 2 ?_;refine tq 3 ?_;refine tq 4 ?_;refine tq 5 ?_;refine tq 6 ?_;refine tq 7 ?_;refine tq 8 ?_;refine tq 9 ?_;refine tq 10 ?_;refine tq 11 ?_;refine tq 12 ?_;refine tq 13 ?_;refine tq 14 ?_;refine tq 16 ?_;refine tq 17 ?_;refine tq 19 ?_;refine tq 20 ?_;refine tq 22 ?_;refine tq 23 ?_;refine tq 24 ?_;refine tq 25 ?_;refine rc (i:=15) (fun K hK=>?_)
  go_simp;refine(USED.out _ (by assumption)).mono ?_
  rintro e w3 ⟨rfl,k3⟩
  go_wp2_with fail
  refine hK.out _ _ (zjk (by assumption) k3) (fun hHeld111=>?_)
  clear hK K
  try simp only[Act.put,List.setIfInBounds_toArray,List.set_cons_zero,List.set_cons_succ]
  refine tq 18 ?_;refine tq 21 ?_;refine tq 26 ?_;refine tq 27 ?_;refine tq 28 ?_;refine wpAnyH_done (by as_aux_lemma=>kernel_rfl) ?_ _
  refine NoPanic.normal ?_;go_simp;have K3:=zz0 (zR k3);clear k3 hHeld
  go_wp2_with fail
  go_ret;exact⟨rfl,(K1.out.mono (fun i _ e=>by have e':i=p:=e;rw[e'];exact D.out.inF.1)).trans1 (K2.out.trans1 K3.out).ofNon,D1.out.keep (K2.out.trans1 K3.out) (fun _ _ e=>e)⟩
end Go.Proofs.YtpojgmeoaflmoaaGreatDoor
