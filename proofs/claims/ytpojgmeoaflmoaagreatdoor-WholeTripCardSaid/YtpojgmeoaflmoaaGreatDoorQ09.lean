/- DERIVED: THE SHELF's CONTRACTS AT THIS D -/
import Derived.Shelf.SlIter.Nil
import Derived.Shelf.SortM.Plain
import Derived.Shelf.SortM.SortNone
import Derived.Ground.GgzProg
import Derived.Ground.SlgmProg
import Derived.Test.YtpojgmeoaflmoaaGreatDoorQ08
set_option linter.unusedVariables false
set_option maxRecDepth 100000
set_option maxHeartbeats 16000000
namespace Go.Proofs
open Go.RowKit Go.Maps Go.Sort Go.Shelf
def Tryz.keys127_ren:Go.Shelf.Ren:=⟨fun|7=>127|10=>195|n=>n,fun|23=>104|26=>9|3=>43|28=>210|0=>0|27=>209|33=>212|4=>4|n=>n,fun|n=>n⟩
theorem Tryz.keys127:Go.Proofs.SlLaysZ.n7 Tryz.prog Tryz.keys127_ren:={
 mixed:=by kernel_rfl
 f7:=⟨Tryz.f127.name,by decide,Tryz.func127.trans (congrArg some (by kernel_rfl))⟩
 f10:=⟨Tryz.f195.name,by decide,Tryz.func195.trans (congrArg some (by kernel_rfl))⟩
 t0:=Tryz.underlying0
 a0:=Tryz.isAgg0
 z0:=Tryz.sizeOf0
 v0:=Tryz.zeroValue0
 t4:=Tryz.underlying4
 a4:=Tryz.isAgg4
 z4:=Tryz.sizeOf4
 v4:=Tryz.zeroValue4
 t23:=Tryz.underlying104
 a23:=Tryz.isAgg104
 z23:=Tryz.sizeOf104
 v23:=Tryz.zeroValue104
 t26:=Tryz.underlying9
 a26:=Tryz.isAgg9
 z26:=Tryz.sizeOf9
 v26:=Tryz.zeroValue9
 t27:=Tryz.underlying209
 a27:=Tryz.isAgg209
 z27:=Tryz.sizeOf209
 v27:=Tryz.zeroValue209
 t28:=Tryz.underlying210
 a28:=Tryz.isAgg210
 z28:=Tryz.sizeOf210
 v28:=Tryz.zeroValue210
 t33:=Tryz.underlying212
 a33:=Tryz.isAgg212
 z33:=Tryz.sizeOf212
 v33:=Tryz.zeroValue212 }
def Tryz.sorted126_ren:Go.Shelf.Ren:=⟨fun|6=>126|8=>193|9=>194|11=>245|13=>110|12=>246|23=>172|24=>173|14=>287|15=>288|16=>289|17=>290|18=>291|19=>292|20=>293|21=>294|22=>295|25=>323|26=>228|27=>229|28=>324|29=>325|30=>326|31=>355|n=>n,fun|26=>9|28=>210|24=>145|0=>0|3=>3|37=>37|48=>252|50=>184|4=>4|40=>245|39=>244|45=>249|5=>5|9=>9|51=>304|55=>307|57=>366|58=>367|33=>212|n=>n,fun|n=>n⟩
theorem Tryz.sorted126:Go.Proofs.SlLaysZ.n6 Tryz.prog Tryz.sorted126_ren:={
 mixed:=by kernel_rfl
 f6:=⟨Tryz.f126.name,by decide,Tryz.func126.trans (congrArg some (by kernel_rfl))⟩
 f8:=⟨Tryz.f193.name,by decide,Tryz.func193.trans (congrArg some (by kernel_rfl))⟩
 f11:=⟨Tryz.f245.name,by decide,Tryz.func245.trans (congrArg some (by kernel_rfl))⟩
 t0:=Tryz.underlying0
 a0:=Tryz.isAgg0
 z0:=Tryz.sizeOf0
 v0:=Tryz.zeroValue0
 t24:=Tryz.underlying145
 a24:=Tryz.isAgg145
 z24:=Tryz.sizeOf145
 v24:=Tryz.zeroValue145
 t26:=Tryz.underlying9
 a26:=Tryz.isAgg9
 z26:=Tryz.sizeOf9
 v26:=Tryz.zeroValue9
 t28:=Tryz.underlying210
 a28:=Tryz.isAgg210
 z28:=Tryz.sizeOf210
 v28:=Tryz.zeroValue210
 i26:=by kernel_rfl }
def Tryz.sort194_ren:Go.Shelf.Ren:=⟨fun|6=>194|8=>110|9=>246|19=>172|20=>173|21=>287|22=>288|23=>289|24=>290|25=>291|26=>292|27=>293|28=>294|29=>295|36=>323|31=>228|32=>229|37=>324|38=>325|39=>326|41=>355|n=>n,fun|27=>145|29=>9|3=>3|32=>37|26=>145|0=>0|44=>252|46=>184|4=>4|36=>245|35=>244|41=>249|5=>5|9=>9|53=>304|57=>307|63=>366|64=>367|n=>n,fun|n=>n⟩
theorem Tryz.sort194:Go.Proofs.SlLaysM.n6 Tryz.prog Tryz.sort194_ren:={
 mixed:=by kernel_rfl
 f6:=⟨Tryz.f194.name,by decide,Tryz.func194.trans (congrArg some (by kernel_rfl))⟩
 f8:=Tryz.func110.trans (congrArg some (by kernel_rfl))
 f9:=⟨Tryz.f246.name,by decide,Tryz.func246.trans (congrArg some (by kernel_rfl))⟩
 f19:=Tryz.func172.trans (congrArg some (by kernel_rfl))
 f20:=Tryz.func173.trans (congrArg some (by kernel_rfl))
 f21:=⟨Tryz.f287.name,by decide,Tryz.func287.trans (congrArg some (by kernel_rfl))⟩
 f22:=⟨Tryz.f288.name,by decide,Tryz.func288.trans (congrArg some (by kernel_rfl))⟩
 f23:=⟨Tryz.f289.name,by decide,Tryz.func289.trans (congrArg some (by kernel_rfl))⟩
 f24:=⟨Tryz.f290.name,by decide,Tryz.func290.trans (congrArg some (by kernel_rfl))⟩
 f25:=⟨Tryz.f291.name,by decide,Tryz.func291.trans (congrArg some (by kernel_rfl))⟩
 f26:=⟨Tryz.f292.name,by decide,Tryz.func292.trans (congrArg some (by kernel_rfl))⟩
 f27:=⟨Tryz.f293.name,by decide,Tryz.func293.trans (congrArg some (by kernel_rfl))⟩
 f28:=⟨Tryz.f294.name,by decide,Tryz.func294.trans (congrArg some (by kernel_rfl))⟩
 f29:=⟨Tryz.f295.name,by decide,Tryz.func295.trans (congrArg some (by kernel_rfl))⟩
 f31:=Tryz.func228.trans (congrArg some (by kernel_rfl))
 f32:=Tryz.func229.trans (congrArg some (by kernel_rfl))
 f36:=⟨Tryz.f323.name,by decide,Tryz.func323.trans (congrArg some (by kernel_rfl))⟩
 f37:=⟨Tryz.f324.name,by decide,Tryz.func324.trans (congrArg some (by kernel_rfl))⟩
 f38:=⟨Tryz.f325.name,by decide,Tryz.func325.trans (congrArg some (by kernel_rfl))⟩
 f39:=⟨Tryz.f326.name,by decide,Tryz.func326.trans (congrArg some (by kernel_rfl))⟩
 f41:=⟨Tryz.f355.name,by decide,Tryz.func355.trans (congrArg some (by kernel_rfl))⟩
 t0:=Tryz.underlying0
 a0:=Tryz.isAgg0
 z0:=Tryz.sizeOf0
 v0:=Tryz.zeroValue0
 t3:=Tryz.underlying3
 a3:=Tryz.isAgg3
 z3:=Tryz.sizeOf3
 v3:=Tryz.zeroValue3
 t4:=Tryz.underlying4
 a4:=Tryz.isAgg4
 z4:=Tryz.sizeOf4
 v4:=Tryz.zeroValue4
 t5:=Tryz.underlying5
 a5:=Tryz.isAgg5
 z5:=Tryz.sizeOf5
 v5:=Tryz.zeroValue5
 t9:=Tryz.underlying9
 a9:=Tryz.isAgg9
 z9:=Tryz.sizeOf9
 v9:=Tryz.zeroValue9
 t26:=Tryz.underlying145
 a26:=Tryz.isAgg145
 z26:=Tryz.sizeOf145
 v26:=Tryz.zeroValue145
 t27:=Tryz.underlying145
 a27:=Tryz.isAgg145
 z27:=Tryz.sizeOf145
 v27:=Tryz.zeroValue145
 t29:=Tryz.underlying9
 a29:=Tryz.isAgg9
 z29:=Tryz.sizeOf9
 v29:=Tryz.zeroValue9
 t32:=Tryz.underlying37
 a32:=Tryz.isAgg37
 z32:=Tryz.sizeOf37
 v32:=Tryz.zeroValue37
 t35:=Tryz.underlying244
 a35:=Tryz.isAgg244
 z35:=Tryz.sizeOf244
 v35:=Tryz.zeroValue244
 t36:=Tryz.underlying245
 a36:=Tryz.isAgg245
 z36:=Tryz.sizeOf245
 v36:=Tryz.zeroValue245
 t41:=Tryz.underlying249
 a41:=Tryz.isAgg249
 z41:=Tryz.sizeOf249
 v41:=Tryz.zeroValue249
 t44:=Tryz.underlying252
 a44:=Tryz.isAgg252
 z44:=Tryz.sizeOf252
 v44:=Tryz.zeroValue252
 t46:=Tryz.underlying184
 a46:=Tryz.isAgg184
 z46:=Tryz.sizeOf184
 v46:=Tryz.zeroValue184
 t53:=Tryz.underlying304
 a53:=Tryz.isAgg304
 z53:=Tryz.sizeOf304
 v53:=Tryz.zeroValue304
 t57:=Tryz.underlying307
 a57:=Tryz.isAgg307
 z57:=Tryz.sizeOf307
 v57:=Tryz.zeroValue307
 t63:=Tryz.underlying366
 a63:=Tryz.isAgg366
 z63:=Tryz.sizeOf366
 v63:=Tryz.zeroValue366
 t64:=Tryz.underlying367
 a64:=Tryz.isAgg367
 z64:=Tryz.sizeOf367
 v64:=Tryz.zeroValue367 }
theorem Tryz.sorts126 (m:Nat):AnyZ.SortsIn Tryz.prog Tryz.sorted126_ren Fence.wide m :=
 ⟨fun blk off cap ss W hH hblk hsz=>callsIn_wide.2 (AnyM.slices_Sort_string Tryz.sort194 blk off cap ss W hH hblk hsz),
  fun p cap W=>callsIn_wide.2 (AnyM.slices_Sort_string_none Tryz.sort194 p cap W)⟩
theorem Tryz.maps_Keys_127 (mb:Option Nat)(W:World):CallsIn Fence.wide 5 Tryz.prog 127 #[.map mb] W fun e w'=>e = .returned (.func (.func 195) #[] #[.pointer (some ⟨W.heap.size,0,none⟩)])∧w'=W.alloc (.cells #[.map mb] 104) :=
 AnyZ.keys_in Tryz.keys127 Fence.wide 5 trivial rfl mb W
theorem Tryz.slices_Sorted_keys_126_127 {H:Type}(b nn:Nat)(D0:DataW H)(R:Value→Option (DataW H×List MemPlace))(w:World)(hown:w.ownsMap Tryz.prog 9 R b nn D0)(hmax:Maps.size D0≤maxLen)(hbytes:Maps.size D0*16≤140737488355328) :
 CallsIn Fence.wide 5 Tryz.prog 126 #[.func (.func 195) #[] #[.pointer (some ⟨w.heap.size,0,none⟩)]] (w.alloc (.cells #[.map (some b)] 104)) fun e w'=>∃(v:Value) (ss:List (List UInt8)),e = .returned v∧ss.Perm (strKeys D0) ∧
  w'.ownsRow (w.alloc (.cells #[.map (some b)] 104)).heap.size 9 1 v ss.length ((ss.mergeSort (fun x y=>decide (x≤y))).map encStr)∧(v = .slice none 0 0↔ss = [])∧Below (w.alloc (.cells #[.map (some b)] 104)).heap.size (w.alloc (.cells #[.map (some b)] 104)) w':=by
 have hbl:=hown.lt;have hseq:SeqGives Fence.wide 2 Tryz.prog 195 #[.pointer (some ⟨w.heap.size,0,none⟩)] encStr (fun ss=>ss.Perm (strKeys D0)) (Maps.size D0) (w.alloc (.cells #[.map (some b)] 104)) :=
  AnyZ.keys_gives (ρ:=Tryz.keys127_ren) { Tryz.keys127 with } Fence.wide _ trivial rfl (by omega) w.heap.size b nn D0 _ (by simp) (by simp) (by
   obtain⟨es,clock,hb,Ft,hs,hD⟩:=hown;exact⟨es,clock,(Below.heap_alloc _ _ b hbl).trans hb,Ft,hs,hD⟩)
 exact AnyZ.sorted_in Tryz.sorted126 Fence.wide 5 trivial trivial trivial trivial rfl (by omega) (Tryz.sorts126 _) (enters_of Tryz.func194 (by kernel_rfl) rfl) 195 #[.pointer (some ⟨w.heap.size,0,none⟩)] trivial (enters_of Tryz.func195 (by kernel_rfl) rfl) _ _ hmax hbytes _ hseq
end Go.Proofs
namespace Go.Proofs.YtpojgmeoaflmoaaGreatDoor
open Go.RowKit Go.Maps
theorem zka (F T:Nat→Prop)(p s h:Nat)(pv:Value)(n m:zqY)(X:Dk)(w:World)(d:zq F T w p s h pv X)(hw:X.works.1=0)(hfu:X.fuse≤1000000000)(hn:za5 n)(hm:za5 m)(hs:size X.shown≤100000)(hp:X.pend.length≤1000000)(hh:zz X.shown n=true) :
 Calls Tryz.prog 182 #[.pointer (some ⟨p,0,none⟩),sv n,sv m] w fun e w'=>e = .returned .nilIface∧za F w w'∧∃F',(∀g,F' g→F g∨w.heap.size≤g)∧zQ F' w' p (X.works.2.add (.rename n m)):=by
 have W:=zap F T p s h pv X w d hfu;rw[hw] at W;have W2:Hid (Calls Tryz.prog 129 #[.pointer (some ⟨p,0,none⟩)] w fun e w'=>e = .returned .nilIface∧za (zq3 p) w w'∧zq F T w' p s h pv X.works.2):=W
 have D:=zz0 d;obtain⟨r1,r2,r3,r4⟩:=zW X;have hX2:size X.works.2.shown≤100000:=by rw[r2];exact hs
 have hP2:X.works.2.pend.length≤1000000:=by rw[r3];exact hp
 have hH2:zz X.works.2.shown n=true:=by rw[r2];exact hh
 have law:=string_keyed Tryz.underlying9;have hkey:=zb1 n (by unfold maxLen;have:=hn.2.1;omega)
 have hz:=fun w=>Tryz.zeroValue43 w
 have hnl:n.length≤1000:=by have:=hn.2.1;omega
 have hml:m.length≤1000:=by have:=hm.2.1;omega
 have NM:=zz0 (fun w=>zbP n w hn)
 have NM2:=zz0 (fun w=>zbP m w hm)
 clear W d;generalize X.works.2=Y at W2 hX2 hP2 hH2 ⊢;have hhas:has Y.shown (.string n)=true:=hH2;unfold sv at hkey NM NM2 ⊢
 go_enter Tryz.func182,Tryz.ntmps182
 go_wp2_with(first
  |(go_at_call 129;refine W2.out.mono ?_;rintro e w1 ⟨rfl,k1,d1⟩;have K1:=zz0 k1;have D1:=zz0 d1;clear k1 d1)
  |(go_at_call 130;first
     |(with_reducible refine(NM.out _).mono ?_;rintro e w2 ⟨rfl,k2⟩;have K2:=zz0 k2;clear k2)
     |(with_reducible refine(NM2.out _).mono ?_;rintro e w3 ⟨rfl,k3⟩;have K3:=zz0 (K2.out.trans1 k3);clear k3;have B3:=K3.out.at D1.out.blk (fun e=>e);have c2:=dk_2 B3;have M3:=zz0 (zbA.keep D1.out.shown K3.out (fun e=>e) (fun _ _ e=>e) (fun _ e=>e));clear B3))
  |(at_lookup;refine zu rfl _ _ 104 rfl 43 law Tryz.underlying104 (hz _) [] (zbT.fun1 _ T) (zau _ _) rfl M3.out _ _ rfl hkey ?_;rw[hhas];intro lv ly hlv hat;obtain⟨⟨la,lc,rfl,_⟩,_⟩:=hlv;clear hat)
  |(go_at_call 131;refine(zih F T p s h pv n m Y _ (D1.out.keep K3.out (fun _ _ e=>e)) (by omega) hP2 hnl hml hH2).mono ?_;rintro e w5 ⟨rfl,k5,hex⟩;have K5:=zz0 k5;have EX:=zz0 hex;clear k5 hex))
 go_ret;obtain⟨pv',hpv,dd⟩:=EX.out;exact⟨rfl,((K1.out.mono (fun i _ e=>by have e':i=p:=e;rw[e'];exact D.out.inF.1)).trans1 K3.out.ofNon).trans1 K5.out,_,fun g e=>by rcases e with e|e;exact .inl e;rcases hpv g e with q|q;exact .inl q;exact .inr (Nat.le_trans (Nat.le_trans K1.out.size K3.out.size) q),⟨_,s,h,pv',dd⟩⟩
theorem zhn (F T:Nat→Prop)(p s h:Nat)(pv:Value)(n m:zqY)(X:Dk)(w:World)(d:zq F T w p s h pv X)(hw:X.works.1=0)(hfu:X.fuse≤1000000000)(hn:za5 n)(hm:za5 m)(hs:size X.shown≤100000)(hp:X.pend.length≤1000000)(hh:zz X.shown n=false) :
 Calls Tryz.prog 182 #[.pointer (some ⟨p,0,none⟩),sv n,sv m] w fun e w'=>e = .returned (.iface 89 (.int .i64 4))∧za (zq3 p) w w'∧zq F T w' p s h pv X.works.2:=by
 have W:=zap F T p s h pv X w d hfu;rw[hw] at W;have W2:Hid (Calls Tryz.prog 129 #[.pointer (some ⟨p,0,none⟩)] w fun e w'=>e = .returned .nilIface∧za (zq3 p) w w'∧zq F T w' p s h pv X.works.2):=W
 have D:=zz0 d;obtain⟨r1,r2,r3,r4⟩:=zW X;have hX2:size X.works.2.shown≤100000:=by rw[r2];exact hs
 have hP2:X.works.2.pend.length≤1000000:=by rw[r3];exact hp
 have hH2:zz X.works.2.shown n=false:=by rw[r2];exact hh
 have law:=string_keyed Tryz.underlying9;have hkey:=zb1 n (by unfold maxLen;have:=hn.2.1;omega)
 have hz:=fun w=>Tryz.zeroValue43 w
 have hnl:n.length≤1000:=by have:=hn.2.1;omega
 have hml:m.length≤1000:=by have:=hm.2.1;omega
 have NM:=zz0 (fun w=>zbP n w hn)
 have NM2:=zz0 (fun w=>zbP m w hm)
 clear W d;generalize X.works.2=Y at W2 hX2 hP2 hH2 ⊢;have hhas:has Y.shown (.string n)=false:=hH2;unfold sv at hkey NM NM2 ⊢
 go_enter Tryz.func182,Tryz.ntmps182
 go_wp2_with(first
  |(go_at_call 129;refine W2.out.mono ?_;rintro e w1 ⟨rfl,k1,d1⟩;have K1:=zz0 k1;have D1:=zz0 d1;clear k1 d1)
  |(go_at_call 130;first
     |(with_reducible refine(NM.out _).mono ?_;rintro e w2 ⟨rfl,k2⟩;have K2:=zz0 k2;clear k2)
     |(with_reducible refine(NM2.out _).mono ?_;rintro e w3 ⟨rfl,k3⟩;have K3:=zz0 (K2.out.trans1 k3);clear k3;have B3:=K3.out.at D1.out.blk (fun e=>e);have c2:=dk_2 B3;have M3:=zz0 (zbA.keep D1.out.shown K3.out (fun e=>e) (fun _ _ e=>e) (fun _ e=>e));clear B3))
  |(at_lookup;refine zu rfl _ _ 104 rfl 43 law Tryz.underlying104 (hz _) [] (zbT.fun1 _ T) (zau _ _) rfl M3.out _ _ rfl hkey ?_;rw[hhas];intro lv ly hlv hat;obtain⟨⟨la,lc,rfl,_⟩,_⟩:=hlv;clear hat))
 go_ret;exact⟨rfl,K1.out.trans1 K3.out.ofNon,D1.out.keep K3.out (fun _ _ e=>e)⟩
theorem zj8 (F T:Nat→Prop)(p s h:Nat)(pv:Value)(n:zqY)(X:Dk)(w:World)(d:zq F T w p s h pv X)(hw:X.works.1=0)(hfu:X.fuse≤1000000000)(hn:za5 n)(hs:size X.shown≤100000)(hp:X.pend.length≤1000000)(hh:zz X.shown n=true) :
 Calls Tryz.prog 75 #[.pointer (some ⟨p,0,none⟩),sv n] w fun e w'=>e = .returned .nilIface∧za F w w'∧∃F',(∀g,F' g→F g∨w.heap.size≤g)∧zQ F' w' p (X.works.2.add (.remove n)):=by
 have W:=zap F T p s h pv X w d hfu;rw[hw] at W;have W2:Hid (Calls Tryz.prog 129 #[.pointer (some ⟨p,0,none⟩)] w fun e w'=>e = .returned .nilIface∧za (zq3 p) w w'∧zq F T w' p s h pv X.works.2):=W
 have D:=zz0 d;obtain⟨r1,r2,r3,r4⟩:=zW X;have hX2:size X.works.2.shown≤100000:=by rw[r2];exact hs
 have hP2:X.works.2.pend.length≤1000000:=by rw[r3];exact hp
 have hH2:zz X.works.2.shown n=true:=by rw[r2];exact hh
 have law:=string_keyed Tryz.underlying9;have hkey:=zb1 n (by unfold maxLen;have:=hn.2.1;omega)
 have hz:=fun w=>Tryz.zeroValue43 w
 have hnl:n.length≤1000:=by have:=hn.2.1;omega
 have NM:=zz0 (fun w=>zbP n w hn)
 clear W d;generalize X.works.2=Y at W2 hX2 hP2 hH2 ⊢;have hhas:has Y.shown (.string n)=true:=hH2;unfold sv at hkey NM ⊢
 go_enter Tryz.func75,Tryz.ntmps75
 go_wp2_with(first
  |(go_at_call 129;refine W2.out.mono ?_;rintro e w1 ⟨rfl,k1,d1⟩;have K1:=zz0 k1;have D1:=zz0 d1;clear k1 d1)
  |(go_at_call 130;refine(NM.out _).mono ?_;rintro e w3 ⟨rfl,k3⟩;have K3:=zz0 k3;clear k3;have B3:=K3.out.at D1.out.blk (fun e=>e);have c2:=dk_2 B3;have M3:=zz0 (zbA.keep D1.out.shown K3.out (fun e=>e) (fun _ _ e=>e) (fun _ e=>e));clear B3)
  |(at_lookup;refine zu rfl _ _ 104 rfl 43 law Tryz.underlying104 (hz _) [] (zbT.fun1 _ T) (zau _ _) rfl M3.out _ _ rfl hkey ?_;rw[hhas];intro lv ly hlv hat;obtain⟨⟨la,lc,rfl,_⟩,_⟩:=hlv;clear hat)
  |(go_at_call 131;refine(zig F T p s h pv n Y _ (D1.out.keep K3.out (fun _ _ e=>e)) (by omega) hP2 hnl hH2).mono ?_;rintro e w5 ⟨rfl,k5,hex⟩;have K5:=zz0 k5;have EX:=zz0 hex;clear k5 hex))
 go_ret;obtain⟨pv',hpv,dd⟩:=EX.out;exact⟨rfl,((K1.out.mono (fun i _ e=>by have e':i=p:=e;rw[e'];exact D.out.inF.1)).trans1 K3.out.ofNon).trans1 K5.out,_,fun g e=>by rcases e with e|e;exact .inl e;rcases hpv g e with q|q;exact .inl q;exact .inr (Nat.le_trans (Nat.le_trans K1.out.size K3.out.size) q),⟨_,s,h,pv',dd⟩⟩
theorem zhl (F T:Nat→Prop)(p s h:Nat)(pv:Value)(n:zqY)(X:Dk)(w:World)(d:zq F T w p s h pv X)(hw:X.works.1=0)(hfu:X.fuse≤1000000000)(hn:za5 n)(hs:size X.shown≤100000)(hp:X.pend.length≤1000000)(hh:zz X.shown n=false) :
 Calls Tryz.prog 75 #[.pointer (some ⟨p,0,none⟩),sv n] w fun e w'=>e = .returned (.iface 89 (.int .i64 4))∧za (zq3 p) w w'∧zq F T w' p s h pv X.works.2:=by
 have W:=zap F T p s h pv X w d hfu;rw[hw] at W;have W2:Hid (Calls Tryz.prog 129 #[.pointer (some ⟨p,0,none⟩)] w fun e w'=>e = .returned .nilIface∧za (zq3 p) w w'∧zq F T w' p s h pv X.works.2):=W
 have D:=zz0 d;obtain⟨r1,r2,r3,r4⟩:=zW X;have hX2:size X.works.2.shown≤100000:=by rw[r2];exact hs
 have hP2:X.works.2.pend.length≤1000000:=by rw[r3];exact hp
 have hH2:zz X.works.2.shown n=false:=by rw[r2];exact hh
 have law:=string_keyed Tryz.underlying9;have hkey:=zb1 n (by unfold maxLen;have:=hn.2.1;omega)
 have hz:=fun w=>Tryz.zeroValue43 w
 have hnl:n.length≤1000:=by have:=hn.2.1;omega
 have NM:=zz0 (fun w=>zbP n w hn)
 clear W d;generalize X.works.2=Y at W2 hX2 hP2 hH2 ⊢;have hhas:has Y.shown (.string n)=false:=hH2;unfold sv at hkey NM ⊢
 go_enter Tryz.func75,Tryz.ntmps75
 go_wp2_with(first
  |(go_at_call 129;refine W2.out.mono ?_;rintro e w1 ⟨rfl,k1,d1⟩;have K1:=zz0 k1;have D1:=zz0 d1;clear k1 d1)
  |(go_at_call 130;refine(NM.out _).mono ?_;rintro e w3 ⟨rfl,k3⟩;have K3:=zz0 k3;clear k3;have B3:=K3.out.at D1.out.blk (fun e=>e);have c2:=dk_2 B3;have M3:=zz0 (zbA.keep D1.out.shown K3.out (fun e=>e) (fun _ _ e=>e) (fun _ e=>e));clear B3)
  |(at_lookup;refine zu rfl _ _ 104 rfl 43 law Tryz.underlying104 (hz _) [] (zbT.fun1 _ T) (zau _ _) rfl M3.out _ _ rfl hkey ?_;rw[hhas];intro lv ly hlv hat;obtain⟨⟨la,lc,rfl,_⟩,_⟩:=hlv;clear hat))
 go_ret;exact⟨rfl,K1.out.trans1 K3.out.ofNon,D1.out.keep K3.out (fun _ _ e=>e)⟩
theorem zlB (D:Fl)(n:zqY):(zat D n).length≤fused D:=by
 cases D with
 |map es =>
  unfold zat fused;simp only[DataW.atKey]
  induction es with
  |nil=>simp[heldB]
  |cons y r ih =>
   rw[List.find?_cons]
   split
   ·rename_i q h
    split at h
    ·injection h with h;subst h;simp
    ·rename_i h2
     have h3:(heldB q.2).length≤(r.map (fun p=>(heldB p.2).length)).sum:=by
      have:=ih;rw[h] at this;exact this
     simp only[List.map_cons,List.sum_cons];omega
   ·simp[heldB]
 |_=>simp[zat,DataW.atKey,heldB]
def Dk.mild (X:Dk):Prop:=size X.shown<512∧X.pend.length≤1000∧fused X.shown≤500000000∧X.fuse≤1000000000
def zaW (F:Nat→Prop)(w:World)(p:Nat)(X:Dk)(w':World):Prop:=za F w w'∧∃F',zq5 F' F w∧zQ F' w' p X
theorem zcK {F T:Nat→Prop}{w w':World}{p s h:Nat}{pv:Value}{X:Dk}(d:zq F T w p s h pv X)(k:za (zq3 p) w w'):za F w w':=k.mono (fun i _ e=>by have e':i=p:=e;rw[e'];exact d.inF.1)
theorem znC (F:Nat→Prop)(p:Nat)(v:Value)(n b:zqY)(X:Dk)(w:World)(d:zQ F w p X)(hm:X.mild)(hn:za5 n)(hv:Bs w v b)(hb:b.length≤65536)(hnp:∀g,v.ownBlock=some g→¬F g) :
 Calls Tryz.prog 181 #[.pointer (some ⟨p,0,none⟩),sv n,v] w fun e w'=>e = .returned (zbU (X.write n b).1)∧zaW F w p (X.write n b).2 w':=by
 obtain⟨T,s,h,pv,d⟩:=d;obtain⟨m1,m2,m3,m4⟩:=hm;obtain⟨r1,r2,r3,r4⟩:=zW X;rcases zcO X with hw|hw
 ·by_cases hf:X.works.2.full n b
  ·have e:X.write n b=(5,X.works.2):=by unfold Dk.write;rw[if_neg (by omega),if_neg (by omega),if_pos hf]
   rw[e];have hover:X.works.2.room+(zat X.works.2.shown n).length<fused X.works.2.shown+b.length:=by
    rcases hf with ⟨_,h2⟩|h2
    ·rw[r2] at h2;omega
    ·exact h2
   refine(zik F T p s h pv v n b X w d hw m4 hv hn hb (by omega) (by omega) (by omega) (by have:=zlB X.shown n;omega) m1 hover).mono ?_
   rintro e w' ⟨rfl,k,d'⟩;exact⟨rfl,k,F,zq5.refl _ _,T,s,h,pv,d'⟩
  ·have e:X.write n b=(0,X.works.2.add (.write n b)):=by unfold Dk.write;rw[if_neg (by omega),if_neg (by omega),if_neg hf]
   rw[e];refine(zlu F T p s h pv v n b X w d hw m4 hv hn hb (by omega) (by omega) (by omega) (by have:=zlB X.shown n;omega) hf (fun g e e2=>hnp g e (e2 ▸ d.inF.1))).mono ?_
   rintro e w' ⟨rfl,k,F',hF',d'⟩;exact⟨rfl,k,F',hF',d'⟩
 ·have e:X.write n b=X.works:=by unfold Dk.write;rw[if_pos (by omega)]
  rw[e,hw];refine(zlt F T p s h pv v n X w d m4 hw).mono ?_;rintro e w' ⟨rfl,k,d'⟩;exact⟨rfl,zcK d k,F,zq5.refl _ _,T,s,h,pv,d'⟩
theorem zij (F:Nat→Prop)(p:Nat)(X:Dk)(w:World)(d:zQ F w p X)(hm:X.fuse≤1000000000) :
 Calls Tryz.prog 76 #[.pointer (some ⟨p,0,none⟩)] w fun e w'=>e = .returned (zbU X.sync.1)∧zaW F w p X.sync.2 w':=by
 obtain⟨T,s,h,pv,d⟩:=d;obtain⟨r1,r2,r3,r4⟩:=zW X;rcases zcO X with hw|hw
 ·have e:X.sync=(0,{ X.works.2 with sure:=X.works.2.shown,pend:=[] }):=by unfold Dk.sync;rw[if_neg (by omega)]
  rw[e,r2];refine(znB F T p s h pv X w d hm hw).mono ?_;rintro e w' ⟨rfl,k,s',hs',d'⟩;exact⟨rfl,zcK d k,_,fun g e=>by rcases e with e|e;exact .inl e;exact .inr (by omega),T,s',h,_,d'⟩
 ·have e:X.sync=X.works:=by unfold Dk.sync;rw[if_pos (by omega)]
  rw[e,hw];refine(znA F T p s h pv X w d hm hw).mono ?_;rintro e w' ⟨rfl,k,d'⟩;exact⟨rfl,zcK d k,F,zq5.refl _ _,T,s,h,pv,d'⟩
theorem zj9 (F T:Nat→Prop)(p s h:Nat)(pv:Value)(n m:zqY)(X:Dk)(w:World)(d:zq F T w p s h pv X)(hf:X.fuse≤1000000000)(hw:X.works.1=14) :
 Calls Tryz.prog 182 #[.pointer (some ⟨p,0,none⟩),sv n,sv m] w fun e w'=>e = .returned (.iface 89 (.int .i64 14))∧za (zq3 p) w w'∧zq F T w' p s h pv X.works.2:=by
 have W:=zap F T p s h pv X w d hf;rw[hw] at W;have W2:Hid (Calls Tryz.prog 129 #[.pointer (some ⟨p,0,none⟩)] w fun e w'=>e = .returned (.iface 89 (.int .i64 14))∧za (zq3 p) w w'∧zq F T w' p s h pv X.works.2):=W
 clear W d
 go_enter Tryz.func182,Tryz.ntmps182
 go_wp2_with(go_at_call 129;refine W2.out.mono ?_;rintro e w1 ⟨rfl,k1,d1⟩;have K1:=zz0 k1;have D1:=zz0 d1;clear k1 d1)
 go_ret;exact⟨rfl,K1.out,D1.out⟩
theorem zj7 (F T:Nat→Prop)(p s h:Nat)(pv:Value)(n:zqY)(X:Dk)(w:World)(d:zq F T w p s h pv X)(hf:X.fuse≤1000000000)(hw:X.works.1=14) :
 Calls Tryz.prog 75 #[.pointer (some ⟨p,0,none⟩),sv n] w fun e w'=>e = .returned (.iface 89 (.int .i64 14))∧za (zq3 p) w w'∧zq F T w' p s h pv X.works.2:=by
 have W:=zap F T p s h pv X w d hf;rw[hw] at W;have W2:Hid (Calls Tryz.prog 129 #[.pointer (some ⟨p,0,none⟩)] w fun e w'=>e = .returned (.iface 89 (.int .i64 14))∧za (zq3 p) w w'∧zq F T w' p s h pv X.works.2):=W
 clear W d
 go_enter Tryz.func75,Tryz.ntmps75
 go_wp2_with(go_at_call 129;refine W2.out.mono ?_;rintro e w1 ⟨rfl,k1,d1⟩;have K1:=zz0 k1;have D1:=zz0 d1;clear k1 d1)
 go_ret;exact⟨rfl,K1.out,D1.out⟩
theorem zlr (F:Nat→Prop)(p:Nat)(n m:zqY)(X:Dk)(w:World)(d:zQ F w p X)(hm:X.mild)(hn:za5 n)(hn2:za5 m) :
 Calls Tryz.prog 182 #[.pointer (some ⟨p,0,none⟩),sv n,sv m] w fun e w'=>e = .returned (zbU (X.rename n m).1)∧zaW F w p (X.rename n m).2 w':=by
 obtain⟨T,s,h,pv,d⟩:=d;obtain⟨m1,m2,m3,m4⟩:=hm;obtain⟨r1,r2,r3,r4⟩:=zW X;rcases zcO X with hw|hw
 ·cases hh:zz X.shown n with
  |true =>
   have e:X.rename n m=(0,X.works.2.add (.rename n m)):=by unfold Dk.rename;rw[if_neg (by omega),if_pos (by rw[r2];exact hh)]
   rw[e];refine(zka F T p s h pv n m X w d hw m4 hn hn2 (by omega) (by omega) hh).mono ?_
   rintro e w' ⟨rfl,k,F',hF',d'⟩;exact⟨rfl,k,F',hF',d'⟩
  |false =>
   have e:X.rename n m=(4,X.works.2):=by unfold Dk.rename;rw[if_neg (by omega),if_neg (by rw[r2,hh];decide)]
   rw[e];refine(zhn F T p s h pv n m X w d hw m4 hn hn2 (by omega) (by omega) hh).mono ?_
   rintro e w' ⟨rfl,k,d'⟩;exact⟨rfl,zcK d k,F,zq5.refl _ _,T,s,h,pv,d'⟩
 ·have e:X.rename n m=X.works:=by unfold Dk.rename;rw[if_pos (by omega)]
  rw[e,hw];refine(zj9 F T p s h pv n m X w d m4 hw).mono ?_;rintro e w' ⟨rfl,k,d'⟩;exact⟨rfl,zcK d k,F,zq5.refl _ _,T,s,h,pv,d'⟩
theorem zhm (F:Nat→Prop)(p:Nat)(n:zqY)(X:Dk)(w:World)(d:zQ F w p X)(hm:X.mild)(hn:za5 n) :
 Calls Tryz.prog 75 #[.pointer (some ⟨p,0,none⟩),sv n] w fun e w'=>e = .returned (zbU (X.remove n).1)∧zaW F w p (X.remove n).2 w':=by
 obtain⟨T,s,h,pv,d⟩:=d;obtain⟨m1,m2,m3,m4⟩:=hm;obtain⟨r1,r2,r3,r4⟩:=zW X;rcases zcO X with hw|hw
 ·cases hh:zz X.shown n with
  |true =>
   have e:X.remove n=(0,X.works.2.add (.remove n)):=by unfold Dk.remove;rw[if_neg (by omega),if_pos (by rw[r2];exact hh)]
   rw[e];refine(zj8 F T p s h pv n X w d hw m4 hn (by omega) (by omega) hh).mono ?_
   rintro e w' ⟨rfl,k,F',hF',d'⟩;exact⟨rfl,k,F',hF',d'⟩
  |false =>
   have e:X.remove n=(4,X.works.2):=by unfold Dk.remove;rw[if_neg (by omega),if_neg (by rw[r2,hh];decide)]
   rw[e];refine(zhl F T p s h pv n X w d hw m4 hn (by omega) (by omega) hh).mono ?_
   rintro e w' ⟨rfl,k,d'⟩;exact⟨rfl,zcK d k,F,zq5.refl _ _,T,s,h,pv,d'⟩
 ·have e:X.remove n=X.works:=by unfold Dk.remove;rw[if_pos (by omega)]
  rw[e,hw];refine(zj7 F T p s h pv n X w d m4 hw).mono ?_;rintro e w' ⟨rfl,k,d'⟩;exact⟨rfl,zcK d k,F,zq5.refl _ _,T,s,h,pv,d'⟩
def zbg (n:zqY):Prop:=za5 n∧n.length≤20∧126 ∉ n
theorem zbg.tilde {n:zqY}(h:zbg n):za5 (tilde n):=by
 obtain⟨⟨h1,h2,h3⟩,h4,h5⟩:=h;refine⟨by simp[Go.Proofs.YtpojgmeoaflmoaaGreatDoor.tilde],by simp[Go.Proofs.YtpojgmeoaflmoaaGreatDoor.tilde];omega,?_⟩
 intro c hc;simp only[Go.Proofs.YtpojgmeoaflmoaaGreatDoor.tilde,List.mem_cons] at hc;rcases hc with rfl|hc
 ·decide
 ·exact h3 c hc
theorem zgE:∀(l:List UInt8)(c:UInt8),c ∉ l→Lib.indexByte l c = -1:=by
 intro l c h;have h2:=Lib.contains_iff_indexByte l c;have h3:l.contains c=false:=by simpa using h
 rw[h3] at h2;have h4:¬0≤Lib.indexByte l c:=by
  intro h5;rw[decide_eq_true h5] at h2;cases h2
 have:=Lib.indexByte_ge l c;omega
theorem zgF:∀(l:List UInt8)(c:UInt8),c ∈ l→0≤Lib.indexByte l c:=by
 intro l c h;have h2:=Lib.contains_iff_indexByte l c;have h3:l.contains c=true:=by simpa using h
 rw[h3] at h2;exact of_decide_eq_true h2.symm
theorem zkI (n:zqY)(w:World)(h:za5 n) :
 Calls Tryz.prog 149 #[sv n] w fun e w'=>e = .returned (.bool (decide (n.length≤20∧126 ∉ n)))∧za zq2 w w':=by
 have NM:=zz0 (zbP n w h);have hs:(⟨n.toArray⟩:ByteArray).size=n.length:=by show n.toArray.size=_;simp
 have hct:=fun w=>Tryz.strings_Contains_one ⟨n.toArray⟩ 126 w
 unfold sv at NM ⊢;by_cases h1:n.length≤20
 ·by_cases h2:126 ∈ n
  ·have e:decide (n.length≤20∧126 ∉ n)=false:=decide_eq_false (fun k=>k.2 h2)
   have e2:decide (0≤Lib.indexByte (⟨n.toArray⟩:ByteArray).data.toList 126)=true:=decide_eq_true (zgF _ _ (by simpa using h2))
   simp only[e2] at hct;have CT:=zz0 hct;rw[e];clear e e2 hct
   go_enter Tryz.func149,Tryz.ntmps149
   go_wp2_with(first
    |(go_at_call 130;refine NM.out.mono ?_;rintro e w1 ⟨rfl,k1⟩;have K1:=zz0 k1;clear k1)
    |(go_at_call 217;refine(CT.out _).mono ?_;rintro e w2 ⟨rfl,e2⟩;subst e2))
   go_ret;exact⟨rfl,K1.out⟩
  ·have e:decide (n.length≤20∧126 ∉ n)=true:=decide_eq_true ⟨h1,h2⟩
   have e2:decide (0≤Lib.indexByte (⟨n.toArray⟩:ByteArray).data.toList 126)=false:=decide_eq_false (by rw[zgE _ _ (by simpa using h2)];omega)
   simp only[e2] at hct;have CT:=zz0 hct;rw[e];clear e e2 hct
   go_enter Tryz.func149,Tryz.ntmps149
   go_wp2_with(first
    |(go_at_call 130;refine NM.out.mono ?_;rintro e w1 ⟨rfl,k1⟩;have K1:=zz0 k1;clear k1)
    |(go_at_call 217;refine(CT.out _).mono ?_;rintro e w2 ⟨rfl,e2⟩;subst e2))
   go_ret;exact⟨rfl,K1.out⟩
 ·have e:decide (n.length≤20∧126 ∉ n)=false:=decide_eq_false (fun k=>h1 k.1)
  rw[e];clear e hct
  go_enter Tryz.func149,Tryz.ntmps149
  go_wp2_with fail
  go_ret;exact⟨rfl,za.refl _ _⟩
theorem zez (q:Nat)(n:zqY)(w:World)(h:zbg n) :
 Calls Tryz.prog 93 #[.pointer (some ⟨q,0,none⟩),sv n] w fun e w'=>e = .returned .nilIface∧za zq2 w w':=by
 have NM:=zkI n w h.1;rw[decide_eq_true h.2] at NM;have NM2:=zz0 NM;clear NM;unfold sv at NM2 ⊢
 go_enter Tryz.func93,Tryz.ntmps93
 go_wp2_with(go_at_call 149;refine NM2.out.mono ?_;rintro e w1 ⟨rfl,k1⟩;have K1:=zz0 k1;clear k1)
 go_ret;exact⟨rfl,K1.out⟩
def StB (p:Nat):Obj:=.cells #[.pointer (some ⟨p,0,none⟩)] 152 (0,0)
theorem st_0 {w:World}{q p:Nat}(e:w.heap[q]? = some (StB p)):w.cell? ⟨q,0,none⟩=some (.pointer (some ⟨p,0,none⟩)):=by simp[World.cell?,e,StB]
structure zk (F:Nat→Prop)(w:World)(q p:Nat)(X:Dk):Prop where
 blk:w.heap[q]? = some (StB p)
 inF:F q
 dk:∃G,zQ G w p X∧∀g,G g→F g∧g≠q
def zn (F:Nat→Prop)(w:World)(q p:Nat)(X:Dk)(w':World):Prop:=za F w w'∧∃F',zq5 F' F w∧zk F' w' q p X
theorem zfg {w:World}{q:Nat}{o:Obj}(h:w.heap[q]? = some o):q<w.heap.size:=by
 rcases Nat.lt_or_ge q w.heap.size with h2|h2
 ·exact h2
 ·rw[Array.getElem?_eq_none h2] at h;cases h
theorem zk.keep {F S:Nat→Prop}{w w':World}{q p:Nat}{X:Dk}(d:zk F w q p X)(k:za S w w')(hn:∀g,F g→¬S g):zk F w' q p X:=by
 obtain⟨b,i,G,dg,hg⟩:=d;exact⟨k.at b (hn _ i),i,G,dg.keep k (fun g e=>hn g (hg g e).1),hg⟩
theorem zn.of {F G:Nat→Prop}{w w':World}{q p:Nat}{X:Dk}(d:zaW G w p X w')(b:w.heap[q]? = some (StB p))(i:F q)(hg:∀g,G g→F g∧g≠q):zn F w q p X w':=by
 obtain⟨k,G',s,dg⟩:=d;have hlt:=zfg b;refine⟨k.mono (fun i _ e=>(hg i e).1),fun g=>g=q∨G' g,?_,k.at b (fun e=>(hg q e).2 rfl),.inl rfl,G',dg,?_⟩
 ·rintro g (rfl|e)
  ·exact .inl i
  ·rcases s g e with e|e
   ·exact .inl (hg g e).1
   ·exact .inr e
 ·intro g e
  refine⟨.inr e,?_⟩;rcases s g e with e|e
  ·exact(hg g e).2
  ·omega
theorem zn.refl {F:Nat→Prop}{w w':World}{q p:Nat}{X:Dk}(d:zk F w q p X)(k:za zq2 w w'):zn F w q p X w' :=
 ⟨k.mono (fun _ _ e=>e.elim),F,zq5.refl _ _,d.keep k (fun _ _ e=>e)⟩
theorem zn.trans {F F':Nat→Prop}{w w' w'':World}{q p:Nat}{X:Dk}(s:zq5 F' F w)(k:za F w w')(d:zn F' w' q p X w''):zn F w q p X w'':=by
 obtain⟨k2,F'',s2,d2⟩:=d;exact⟨zbu k s k2,F'',s.trans s2 k.size,d2⟩
structure Dk.lim (X:Dk)(a k f:Nat):Prop where
 files:size X.shown≤a
 pend:X.pend.length≤k
 used:fused X.shown≤f
 fuse:X.fuse≤1000000000
 map:IsMap X.shown
theorem Dk.lim.mild {X:Dk}{a k f:Nat}(h:X.lim a k f)(ha:a≤511)(hk:k≤1000)(hf:f≤500000000):X.mild :=
 ⟨by have:=h.files;omega,by have:=h.pend;omega,by have:=h.used;omega,h.fuse⟩
theorem Dk.lim.mono {X:Dk}{a k f a' k' f':Nat}(h:X.lim a k f)(ha:a≤a')(hk:k≤k')(hf:f≤f'):X.lim a' k' f' :=
 ⟨by have:=h.files;omega,by have:=h.pend;omega,by have:=h.used;omega,h.fuse,h.map⟩
theorem zk0 (X:Dk):X.works.2.fuse≤X.fuse:=by
 unfold Dk.works
 split
 ·exact Int.le_refl _
 ·split
  ·exact Int.le_refl _
  ·show(if 0<X.fuse then X.fuse-1 else X.fuse)≤X.fuse
   split<;>omega
theorem Dk.lim.works {X:Dk}{a k f:Nat}(h:X.lim a k f):X.works.2.lim a k f:=by
 obtain⟨r1,r2,r3,r4⟩:=zW X;exact⟨by rw[r2];exact h.files,by rw[r3];exact h.pend,by rw[r2];exact h.used,by have:=zk0 X;have:=h.fuse;omega,by rw[r2];exact h.map⟩
theorem Dk.lim.write {X:Dk}{a k f:Nat}(h:X.lim a k f)(n b:zqY):(X.write n b).2.lim (a+1) (k+1) (f+b.length):=by
 have hw:=h.works;unfold Dk.write
 split
 ·exact hw.mono (by omega) (by omega) (by omega)
 ·split
  ·exact hw.mono (by omega) (by omega) (by omega)
  ·split
   ·exact hw.mono (by omega) (by omega) (by omega)
   ·refine⟨?_,?_,?_,hw.fuse,zcq hw.map⟩
    ·exact Nat.le_trans (zdB hw.map) (by have:=hw.files;omega)
    ·show(X.works.2.pend ++ [_]).length≤_
     have:=hw.pend;simp;omega
    ·exact Nat.le_trans (zc0 hw.map) (by have:=hw.used;omega)
theorem Dk.lim.sync {X:Dk}{a k f:Nat}(h:X.lim a k f):X.sync.2.lim a k f:=by
 have hw:=h.works;unfold Dk.sync
 split
 ·exact hw
 ·exact⟨hw.files,by simp,hw.used,hw.fuse,hw.map⟩
theorem Dk.lim.rename {X:Dk}{a k f:Nat}(h:X.lim a k f)(n m:zqY):(X.rename n m).2.lim (a+1) (k+1) (f+(zat X.shown n).length):=by
 have hw:=h.works;obtain⟨r1,r2,r3,r4⟩:=zW X;unfold Dk.rename
 split
 ·exact hw.mono (by omega) (by omega) (by omega)
 ·split
  ·rename_i h1 h2
   have e:Chg.on (.rename n m) X.works.2.shown=zcz (zcp X.works.2.shown n) m (zat X.works.2.shown n):=by show(if _ then _ else _)=_;rw[if_pos h2]
   refine⟨?_,?_,?_,hw.fuse,?_⟩
   ·show size (Chg.on (.rename n m) X.works.2.shown)≤_
    rw[e];have:=zdB (n:=m) (b:=zat X.works.2.shown n) (zb0 (n:=n) hw.map);have:=zcN (n:=n) hw.map;have:=hw.files;omega
   ·show(X.works.2.pend ++ [_]).length≤_
    have:=hw.pend;simp;omega
   ·show fused (Chg.on (.rename n m) X.works.2.shown)≤_
    rw[e];have:=zc0 (n:=m) (b:=zat X.works.2.shown n) (zb0 (n:=n) hw.map);have:=zcZ (n:=n) hw.map;have:=hw.used;rw[r2] at *;omega
   ·show IsMap (Chg.on (.rename n m) X.works.2.shown)
    rw[e];exact zcq (zb0 hw.map)
  ·exact hw.mono (by omega) (by omega) (by omega)
theorem Dk.lim.remove {X:Dk}{a k f:Nat}(h:X.lim a k f)(n:zqY):(X.remove n).2.lim a (k+1) f:=by
 have hw:=h.works;unfold Dk.remove
 split
 ·exact hw.mono (by omega) (by omega) (by omega)
 ·split
  ·rename_i h1 h2
   have e:Chg.on (.remove n) X.works.2.shown=zcp X.works.2.shown n:=by show(if _ then _ else _)=_;rw[if_pos h2]
   refine⟨?_,?_,?_,hw.fuse,?_⟩
   ·show size (Chg.on (.remove n) X.works.2.shown)≤_
    rw[e];exact Nat.le_trans (zcN hw.map) hw.files
   ·show(X.works.2.pend ++ [_]).length≤_
    have:=hw.pend;simp;omega
   ·show fused (Chg.on (.remove n) X.works.2.shown)≤_
    rw[e];exact Nat.le_trans (zcZ hw.map) hw.used
   ·show IsMap (Chg.on (.remove n) X.works.2.shown)
    rw[e];exact zb0 hw.map
  ·exact hw.mono (by omega) (by omega) (by omega)
theorem zk5 (n:zqY)(hn:n.length≤1000)(w:World):(Op.stringOp .add ⟨#[126]⟩ ⟨n.toArray⟩).run Tryz.prog w = .ok (.string ⟨(tilde n).toArray⟩) w :=
 run_string_add_lists (P:=Tryz.prog) w [126] n (by decide) (by omega)
theorem Dk.lim.sput {X:Dk}{a k f:Nat}(h:X.lim a k f)(n b:zqY):(X.sput n b).2.lim (a+2) (k+2) (f+2*b.length):=by
 have h1:=h.write (tilde n) b;have h2:=h1.sync;unfold Dk.sput
 split
 ·exact h1.mono (by omega) (by omega) (by omega)
 ·rename_i hc1
  split
  ·exact h2.mono (by omega) (by omega) (by omega)
  ·have hg:(zat (X.write (tilde n) b).2.sync.2.shown (tilde n)).length≤b.length:=by
    have e1:(X.write (tilde n) b).2.sync.2.shown=(X.write (tilde n) b).2.shown:=by
     obtain⟨r1,r2,r3,r4⟩:=zW (X.write (tilde n) b).2;unfold Dk.sync
     split
     ·exact r2
     ·exact r2
    rw[e1];have e2:(X.write (tilde n) b).2.shown=zcz X.works.2.shown (tilde n) b:=by
     unfold Dk.write at hc1 ⊢
     split at hc1
     ·exact absurd ‹_› hc1
     ·split at hc1
      ·exact absurd (show(3:Int)≠0 by decide) hc1
      ·split at hc1
       ·exact absurd (show(5:Int)≠0 by decide) hc1
       ·rename_i g1 g2 g3
        rw[if_neg g1,if_neg g2,if_neg g3]
        rfl
    rw[e2,za9 h.works.map];exact Nat.le_refl _
   have h3:=h2.rename (tilde n) n
   split
   ·exact h3.mono (by omega) (by omega) (by omega)
   ·exact h3.sync.mono (by omega) (by omega) (by omega)
theorem zdn (F:Nat→Prop)(q p:Nat)(v:Value)(n b:zqY)(X:Dk)(a k f:Nat)(w:World)(d:zk F w q p X)(hl:X.lim a k f)(ha:a≤505)(hk:k≤990)(hf:f≤400000000)
 (hn:zbg n) (hv:Bs w v b) (hb:b.length≤65536) (hnp:∀g,v.ownBlock=some g→¬F g) :
 Calls Tryz.prog 117 #[.pointer (some ⟨q,0,none⟩),sv n,v] w fun e w'=>e = .returned (zbU (X.sput n b).1)∧zn F w q p (X.sput n b).2 w':=by
 have hadd:=zk5 n (by have:=hn.2.1;omega)
 have SA:=zz0 (zez q n w hn);obtain⟨blk,inF,G,dg,hg⟩:=d;have c0:=st_0 blk;have B:=zz0 blk;have IF:=zz0 inF;have HG:=zz0 hg;have H1:=zz0 (hl.write (tilde n) b);have F1:=zz0 H1.out.fuse;have H2:=zz0 H1.out.sync;have M1:=zz0 (hl.mild (by omega) (by omega) (by omega))
 have M3:=zz0 (H2.out.mild (by omega) (by omega) (by omega))
 have H3:=zz0 (H2.out.rename (tilde n) n);have hq:q<w.heap.size:=zfg blk
 -- the worlds,one after another
 have W1:Hid (∀w1,za zq2 w w1→Calls Tryz.prog 181 #[.pointer (some ⟨p,0,none⟩),.string ⟨(tilde n).toArray⟩,v] w1 fun e w2=>e = .returned (zbU (X.write (tilde n) b).1)∧zaW G w p (X.write (tilde n) b).2 w2):=zz0 (by
  intro w1 k1;refine(znC G p v (tilde n) b X w1 (dg.keep k1 (fun _ _ e=>e)) M1.out hn.tilde (hv.keep k1 (fun _ _ e=>e)) hb (fun g e e2=>hnp g e (hg g e2).1)).mono ?_
  rintro e w2 ⟨r,kk,G',s,dd⟩;exact⟨r,zbu (k1.mono (fun _ _ e=>e.elim)) (zq5.refl _ _) kk,G',fun g e=>by rcases s g e with e|e;exact .inl e;exact .inr (by have:=k1.size;omega),dd⟩)
 have W2:Hid (∀w1 (Y:Dk),Y.fuse≤1000000000→zaW G w p Y w1→Calls Tryz.prog 76 #[.pointer (some ⟨p,0,none⟩)] w1 fun e w2=>e = .returned (zbU Y.sync.1)∧zaW G w p Y.sync.2 w2):=zz0 (by
  rintro w1 Y hy ⟨k1,G',s,dd⟩;refine(zij G' p Y w1 dd hy).mono ?_;rintro e w2 ⟨r,kk,G2,s2,dd2⟩;exact⟨r,zbu k1 s kk,G2,s.trans s2 k1.size,dd2⟩)
 have W3:Hid (∀w1 (Y:Dk),Y.mild→zaW G w p Y w1→Calls Tryz.prog 182 #[.pointer (some ⟨p,0,none⟩),.string ⟨(tilde n).toArray⟩,.string ⟨n.toArray⟩] w1 fun e w2=>e = .returned (zbU (Y.rename (tilde n) n).1)∧zaW G w p (Y.rename (tilde n) n).2 w2):=zz0 (by
  rintro w1 Y hy ⟨k1,G',s,dd⟩;refine(zlr G' p (tilde n) n Y w1 dd hy hn.tilde hn.1).mono ?_;rintro e w2 ⟨r,kk,G2,s2,dd2⟩;exact⟨r,zbu k1 s kk,G2,s.trans s2 k1.size,dd2⟩)
 have CC:Hid (∀w1 (Y:Dk),zaW G w p Y w1→w1.cell? ⟨q,0,none⟩=some (.pointer (some ⟨p,0,none⟩))):=zz0 (fun w1 Y dd=>st_0 (dd.1.at B.out (fun e=>(HG.out q e).2 rfl)))
 have FIN:Hid (∀w1 (Y:Dk),zaW G w p Y w1→zn F w q p Y w1):=zz0 (fun w1 Y dd=>zn.of dd B.out IF.out HG.out)
 clear blk inF dg hg hl hn hv hnp H1 M1;unfold Dk.sput;generalize hX1:X.write (tilde n) b=X1 at W1 M3 H3 H2 F1 ⊢;by_cases h1:X1.1=0
 ·skip
  generalize hX2:X1.2.sync=X2 at M3 H3 H2 ⊢;by_cases h2:X2.1=0
  ·generalize hX3:X2.2.rename (tilde n) n=X3 at H3 ⊢
   have F3:Hid (X3.2.fuse≤1000000000):=zz0 H3.out.fuse;by_cases h3:X3.1=0
   ·rw[if_neg (fun e=>e h1),if_neg (fun e=>e h2),if_neg (fun e=>e h3)]
    unfold sv at SA ⊢
    go_enter Tryz.func117,Tryz.ntmps117
    go_wp2_with(first
     |(go_at_call 93;refine SA.out.mono ?_;rintro e w1 ⟨rfl,k1⟩;have c1:=st_0 (k1.at B.out (fun e=>e));have K1:=zz0 k1;clear k1)
     |(go_at_call 181;refine(W1.out _ K1.out).mono ?_;rw[zbH h1];rintro e w2 ⟨rfl,d2⟩;have c2:=CC.out _ _ d2;have D2:=zz0 d2;clear d2)
     |(go_at_call 182;refine(W3.out _ _ M3.out D3.out).mono ?_;rw[hX3,zbH h3];rintro e w4 ⟨rfl,d4⟩;have c4:=CC.out _ _ d4;have D4:=zz0 d4;clear d4)
     |(go_at_call 76;with_reducible refine(W2.out _ _ F3.out D4.out).mono ?_;rintro e w5 ⟨rfl,d5⟩;have D5:=zz0 d5;clear d5)
     |(go_at_call 76;with_reducible refine(W2.out _ _ F1.out D2.out).mono ?_;rw[hX2,zbH h2];rintro e w3 ⟨rfl,d3⟩;have c3:=CC.out _ _ d3;have D3:=zz0 d3;clear d3))
    go_ret;exact⟨rfl,FIN.out _ _ D5.out⟩
   ·rw[if_neg (fun e=>e h1),if_neg (fun e=>e h2),if_pos h3]
    rw[zaA h3];unfold sv at SA ⊢
    go_enter Tryz.func117,Tryz.ntmps117
    go_wp2_with(first
     |(go_at_call 93;refine SA.out.mono ?_;rintro e w1 ⟨rfl,k1⟩;have c1:=st_0 (k1.at B.out (fun e=>e));have K1:=zz0 k1;clear k1)
     |(go_at_call 181;refine(W1.out _ K1.out).mono ?_;rw[zbH h1];rintro e w2 ⟨rfl,d2⟩;have c2:=CC.out _ _ d2;have D2:=zz0 d2;clear d2)
     |(go_at_call 182;refine(W3.out _ _ M3.out D3.out).mono ?_;rw[hX3,zaA h3];rintro e w4 ⟨rfl,d4⟩;have D4:=zz0 d4;clear d4)
     |(go_at_call 76;with_reducible refine(W2.out _ _ F1.out D2.out).mono ?_;rw[hX2,zbH h2];rintro e w3 ⟨rfl,d3⟩;have c3:=CC.out _ _ d3;have D3:=zz0 d3;clear d3))
    go_ret;exact⟨rfl,FIN.out _ _ D4.out⟩
  ·rw[if_neg (fun e=>e h1),if_pos h2]
   rw[zaA h2];unfold sv at SA ⊢
   go_enter Tryz.func117,Tryz.ntmps117
   go_wp2_with(first
    |(go_at_call 93;refine SA.out.mono ?_;rintro e w1 ⟨rfl,k1⟩;have c1:=st_0 (k1.at B.out (fun e=>e));have K1:=zz0 k1;clear k1)
    |(go_at_call 181;refine(W1.out _ K1.out).mono ?_;rw[zbH h1];rintro e w2 ⟨rfl,d2⟩;have c2:=CC.out _ _ d2;have D2:=zz0 d2;clear d2)
    |(go_at_call 76;with_reducible refine(W2.out _ _ F1.out D2.out).mono ?_;rw[hX2,zaA h2];rintro e w3 ⟨rfl,d3⟩;have D3:=zz0 d3;clear d3))
   go_ret;exact⟨rfl,FIN.out _ _ D3.out⟩
 ·rw[if_pos h1]
  rw[zaA h1];unfold sv at SA ⊢
  go_enter Tryz.func117,Tryz.ntmps117
  go_wp2_with(first
   |(go_at_call 93;refine SA.out.mono ?_;rintro e w1 ⟨rfl,k1⟩;have c1:=st_0 (k1.at B.out (fun e=>e));have K1:=zz0 k1;clear k1)
   |(go_at_call 181;refine(W1.out _ K1.out).mono ?_;rw[zaA h1];rintro e w2 ⟨rfl,d2⟩;have D2:=zz0 d2;clear d2))
  go_ret;exact⟨rfl,FIN.out _ _ D2.out⟩
theorem zk.disk {F:Nat→Prop}{w:World}{q p:Nat}{X:Dk}(d:zk F w q p X):∃G,zQ G w p X∧∀g,G g→F g∧g≠q:=d.dk
theorem zdX (F:Nat→Prop)(q p:Nat)(n:zqY)(X:Dk)(w:World)(d:zk F w q p X)(hn:zbg n)(hd:X.down=false)(hh:zz X.shown n=false) :
 Calls Tryz.prog 48 #[.pointer (some ⟨q,0,none⟩),sv n] w fun e w'=>e = .returned (.tuple #[.slice none 0 0,.iface 89 (.int .i64 4)])∧za zq2 w w':=by
 have SA:=zz0 (zez q n w hn);obtain⟨blk,inF,G,dg,hg⟩:=d;have B:=zz0 blk;have R:=zz0 (fun w1 (k:za zq2 w w1)=>zj6 G p X n w1 (dg.keep k (fun _ _ e=>e)) hd (by have:=hn.2.1;omega) hh)
 clear blk dg hg hd;unfold sv at SA R ⊢
 go_enter Tryz.func48,Tryz.ntmps48
 go_wp2_with(first
  |(go_at_call 93;refine SA.out.mono ?_;rintro e w1 ⟨rfl,k1⟩;have c1:=st_0 (k1.at B.out (fun e=>e));have K1:=zz0 k1;clear k1)
  |(go_at_call 94;refine(R.out _ K1.out).mono ?_;rintro e w2 ⟨rfl,e2⟩;subst e2))
 go_ret2;exact⟨rfl,K1.out⟩
theorem zgW (F:Nat→Prop)(q p:Nat)(n:zqY)(X:Dk)(w:World)(d:zk F w q p X)(hn:zbg n)(hd:X.down=false)(hh:zz X.shown n=true)(hl:(zat X.shown n).length≤1000000000) :
 Calls Tryz.prog 48 #[.pointer (some ⟨q,0,none⟩),sv n] w fun e w'=>∃v',e = .returned (.tuple #[v',.nilIface])∧za zq2 w w'∧w'.ownsRow w.heap.size 5 1 v' (zat X.shown n).length ((zat X.shown n).map bv):=by
 have SA:=zz0 (zez q n w hn);obtain⟨blk,inF,G,dg,hg⟩:=d;have B:=zz0 blk;have R:=zz0 (fun w1 (k:za zq2 w w1)=>znz G p X n w1 (dg.keep k (fun _ _ e=>e)) hd (by have:=hn.2.1;omega) hh hl)
 clear blk dg hg hd hl;generalize zat X.shown n=D at R ⊢;unfold sv at SA R ⊢
 go_enter Tryz.func48,Tryz.ntmps48
 go_wp2_with(first
  |(go_at_call 93;refine SA.out.mono ?_;rintro e w1 ⟨rfl,k1⟩;have c1:=st_0 (k1.at B.out (fun e=>e));have K1:=zz0 k1;clear k1)
  |(go_at_call 94;refine(R.out _ K1.out).mono ?_;rintro e w2 ⟨v2,rfl,k2,o2⟩;have K2:=zz0 k2;have O2:=zz0 o2;clear k2 o2))
 go_ret2;exact⟨_,rfl,K1.out.trans1 K2.out,zg O2.out K1.out.size⟩
theorem zop (F:Nat→Prop)(q p:Nat)(n:zqY)(X:Dk)(w:World)(d:zk F w q p X)(hm:X.mild)(hmap:IsMap X.shown)(hn:zbg n) :
 Calls Tryz.prog 122 #[.pointer (some ⟨q,0,none⟩),sv n] w fun e w'=>e = .returned (zbU (X.sdel n).1)∧zn F w q p (X.sdel n).2 w':=by
 have SA:=zz0 (zez q n w hn);have F1:=zz0 ((Dk.lim.mk (Nat.le_refl _) (Nat.le_refl _) (Nat.le_refl _) hm.2.2.2 hmap).remove n).fuse;obtain⟨blk,inF,G,dg,hg⟩:=d;have B:=zz0 blk;have IF:=zz0 inF;have HG:=zz0 hg;have W1:Hid (∀w1,za zq2 w w1→Calls Tryz.prog 75 #[.pointer (some ⟨p,0,none⟩),.string ⟨n.toArray⟩] w1 fun e w2=>e = .returned (zbU (X.remove n).1)∧zaW G w p (X.remove n).2 w2):=zz0 (by
  intro w1 k1;refine(zhm G p n X w1 (dg.keep k1 (fun _ _ e=>e)) hm hn.1).mono ?_
  rintro e w2 ⟨r,kk,G',s,dd⟩;exact⟨r,zbu (k1.mono (fun _ _ e=>e.elim)) (zq5.refl _ _) kk,G',fun g e=>by rcases s g e with e|e;exact .inl e;exact .inr (by have:=k1.size;omega),dd⟩)
 have W2:Hid (∀w1 (Y:Dk),Y.fuse≤1000000000→zaW G w p Y w1→Calls Tryz.prog 76 #[.pointer (some ⟨p,0,none⟩)] w1 fun e w2=>e = .returned (zbU Y.sync.1)∧zaW G w p Y.sync.2 w2):=zz0 (by
  rintro w1 Y hy ⟨k1,G',s,dd⟩;refine(zij G' p Y w1 dd hy).mono ?_;rintro e w2 ⟨r,kk,G2,s2,dd2⟩;exact⟨r,zbu k1 s kk,G2,s.trans s2 k1.size,dd2⟩)
 have CC:Hid (∀w1 (Y:Dk),zaW G w p Y w1→w1.cell? ⟨q,0,none⟩=some (.pointer (some ⟨p,0,none⟩))):=zz0 (fun w1 Y dd=>st_0 (dd.1.at B.out (fun e=>(HG.out q e).2 rfl)))
 have FIN:Hid (∀w1 (Y:Dk),zaW G w p Y w1→zn F w q p Y w1):=zz0 (fun w1 Y dd=>zn.of dd B.out IF.out HG.out)
 clear blk inF dg hg hm hn;unfold Dk.sdel;generalize hX1:X.remove n=X1 at W1 F1 ⊢;unfold sv at SA ⊢;by_cases h1:X1.1=0
 ·rw[if_neg (fun e=>e h1)]
  go_enter Tryz.func122,Tryz.ntmps122
  go_wp2_with(first
   |(go_at_call 93;refine SA.out.mono ?_;rintro e w1 ⟨rfl,k1⟩;have c1:=st_0 (k1.at B.out (fun e=>e));have K1:=zz0 k1;clear k1)
   |(go_at_call 75;refine(W1.out _ K1.out).mono ?_;rw[zbH h1];rintro e w2 ⟨rfl,d2⟩;have c2:=CC.out _ _ d2;have D2:=zz0 d2;clear d2)
   |(go_at_call 76;refine(W2.out _ _ F1.out D2.out).mono ?_;rintro e w3 ⟨rfl,d3⟩;have D3:=zz0 d3;clear d3))
  go_ret;exact⟨rfl,FIN.out _ _ D3.out⟩
 ·rw[if_pos h1]
  rw[zaA h1]
  go_enter Tryz.func122,Tryz.ntmps122
  go_wp2_with(first
   |(go_at_call 93;refine SA.out.mono ?_;rintro e w1 ⟨rfl,k1⟩;have c1:=st_0 (k1.at B.out (fun e=>e));have K1:=zz0 k1;clear k1)
   |(go_at_call 75;refine(W1.out _ K1.out).mono ?_;rw[zaA h1];rintro e w2 ⟨rfl,d2⟩;have D2:=zz0 d2;clear d2))
  go_ret;exact⟨rfl,FIN.out _ _ D2.out⟩
theorem zki (mb:Option Nat)(W:World):Calls Tryz.prog 127 #[.map mb] W fun e w'=>e = .returned (.func (.func 195) #[] #[.pointer (some ⟨W.heap.size,0,none⟩)])∧w'=W.alloc (.cells #[.map mb] 104) :=
 (callsIn_wide (n:=5)).1 (Tryz.maps_Keys_127 mb W)
theorem zhW {T:Nat→Prop}{w:World}{b:Nat}{D:Fl}(h:zbA w T b D)(hs:size D≤1000) :
 Calls Tryz.prog 126 #[.func (.func 195) #[] #[.pointer (some ⟨w.heap.size,0,none⟩)]] (w.alloc (.cells #[.map (some b)] 104)) fun e w'=>∃v,∃ns:List zqY,e = .returned v∧ns.Perm (Go.strKeys D)∧za zq2 w w'∧w'.ownsRow w.heap.size 9 1 v ns.length (ns.map sv):=by
 refine((callsIn_wide (n:=5)).1 (Tryz.slices_Sorted_keys_126_127 b (size D) D _ w h (by simp only[maxLen];omega) (by omega))).mono ?_
 rintro e w' ⟨v,ss,rfl,hp,ho,hn,hb⟩;refine⟨v,ss.mergeSort (fun x y=>decide (x≤y)),rfl,(List.mergeSort_perm ss _).trans hp,((za.refl zq2 w).alloc _).trans1 (za.ofBelow hb),?_⟩
 rw[List.length_mergeSort];exact zg ho (by simp)
theorem zjg (F:Nat→Prop)(p:Nat)(X:Dk)(w:World)(d:zQ F w p X)(hd:X.down=false)(hs:size X.shown≤1000) :
 Calls Tryz.prog 73 #[.pointer (some ⟨p,0,none⟩)] w fun e w'=>∃v,∃ns:List zqY,e = .returned (.tuple #[v,.nilIface])∧ns.Perm (Go.strKeys X.shown)∧za zq2 w w'∧w'.ownsRow w.heap.size 9 1 v ns.length (ns.map sv):=by
 have L:=zz0 (zgK d hd);obtain⟨T,s,h,pv,d⟩:=d;have c2:=dk_2 d.blk;have S:=zz0 (zhW d.shown hs);clear d
 go_enter Tryz.func73,Tryz.ntmps73
 go_wp2_with(first
  |(go_at_call 125;refine L.out.mono ?_;rintro e w1 ⟨rfl,e1⟩;subst e1)
  |(go_at_call 127;refine(zki _ _).mono ?_;rintro e w1 ⟨rfl,e1⟩;subst e1)
  |(go_at_call 126;refine S.out.mono ?_;rintro e w2 ⟨v,ns,rfl,p2,k2,o2⟩;have P2:=zz0 p2;have K2:=zz0 k2;have O2:=zz0 o2;clear p2 k2 o2))
 go_ret2;exact⟨v,ns,rfl,P2.out,K2.out,O2.out⟩
theorem zls (F:Nat→Prop)(p:Nat)(X:Dk)(w:World)(d:zQ F w p X)(hd:X.down=false) :
 Calls Tryz.prog 30 #[.pointer (some ⟨p,0,none⟩)] w fun e w'=>e = .returned (.tuple #[])∧zaW F w p { X with fuse:=-1 } w':=by
 obtain⟨T,s,h,pv,d⟩:=d;have D:=zz0 d;have c5:=dk_5 d.blk;have c4:=dk_4 d.blk;have f5:=dk_f d.blk 5;have f4:=dk_f d.blk 4;have B:=zz0 d.blk;clear d;rw[hd] at c5;obtain⟨room,sure,shown,pend,fuse,down⟩:=X;simp only at hd;subst hd;have D1:=D.out.turn (i:=5) (u:=.bool false) (Y:=Dk.mk room sure shown pend fuse false) (ze1 B.out false) rfl rfl rfl rfl;have D2:=zz0 (D1.2.turn (i:=4) (u:=.int .i64 (-1)) (Y:=Dk.mk room sure shown pend (-1) false) (zgu D1.2.blk (-1)) rfl rfl rfl rfl);have D3:=zz0 D1;clear D1
 go_enter Tryz.func30,Tryz.ntmps30
 go_wp2_with fail
 go_end0
 exact⟨rfl,zcK D.out (D3.out.1.trans1 D2.out.1),F,zq5.refl _ _,T,s,h,pv,D2.out.2⟩
theorem zeY (F:Nat→Prop)(p:Nat)(X:Dk)(w:World)(d:zQ F w p X) :
 Calls Tryz.prog 31 #[.pointer (some ⟨p,0,none⟩)] w fun e w'=>e = .returned (.bool X.down)∧w'=w:=by
 obtain⟨T,s,h,pv,d⟩:=d;have c5:=dk_5 d.blk;clear d
 go_enter Tryz.func31,Tryz.ntmps31
 go_wp2_with fail
 go_ret;exact⟨rfl,rfl⟩
theorem zbA.empty (w:World)(T:Nat→Prop):zbA (w.alloc (.map #[] 0)) T w.heap.size (.map []):=zF.new w _ _
theorem zdH (room:Nat)(w:World)(h:room≤1073741824) :
 Calls Tryz.prog 17 #[.int .i64 room] w fun e w'=>∃p,e = .returned (.tuple #[.pointer (some ⟨p,0,none⟩),.nilIface])∧za zq2 w w'∧zQ (fun g=>w.heap.size≤g∧g<w'.heap.size) w' p (dk0 room):=by
 have hmm:=@run_makeMap Tryz.prog
 go_enter Tryz.func17,Tryz.ntmps17
 go_wp2_with fail
 go_ret2;have m1:=zbA.empty w (fun _=>False)
 have m2:=zbA.empty (w.alloc (.map #[] 0)) (fun _=>False)
 have e1:(w.alloc (.map #[] 0)).heap.size=w.heap.size+1:=by simp
 rw[e1] at m2;have ka:∀(w:World) o,za zq2 w (w.alloc o):=fun w o=>(za.refl _ _).alloc _
 have e2:((w.alloc (.map #[] 0)).alloc (.map #[] 0)).heap.size=w.heap.size+1+1:=by simp
 have m1':=((m1.keep (ka _ (.map #[] 0)) (fun e=>e) (fun _ _ e=>e) (fun _ e=>e)).keep (ka _ (DkB room w.heap.size (w.heap.size+1) (.slice none 0 0) (-1) false)) (fun e=>e) (fun _ _ e=>e) (fun _ e=>e))
 have m2':=m2.keep (ka _ (DkB room w.heap.size (w.heap.size+1) (.slice none 0 0) (-1) false)) (fun e=>e) (fun _ _ e=>e) (fun _ e=>e)
 have b3:=ze ((w.alloc (.map #[] 0)).alloc (.map #[] 0)) (DkB room w.heap.size (w.heap.size+1) (.slice none 0 0) (-1) false);rw[e2] at b3;refine⟨w.heap.size+1+1,rfl,(((za.refl _ _).alloc _).alloc _).alloc _,fun _=>False,w.heap.size,w.heap.size+1,.slice none 0 0,b3,m1',m2',⟨[],World.ownsRow_nil _ _ _ _,rfl,fun i c l hc=>by simp[dk0] at hc⟩,?_,?_,?_,h⟩
 ·exact⟨⟨by omega,by simp<;>omega⟩,⟨by omega,by simp<;>omega⟩,⟨by omega,by simp<;>omega⟩,fun g e=>(by cases e),fun g e=>False.elim e⟩
 ·exact⟨by omega,by omega,by omega,fun g e=>by cases e⟩
 ·exact⟨fun e=>e,fun e=>e,fun e=>e,fun g e=>(by cases e),fun g e=>False.elim e⟩
def zb6 (n:zqY):Bool:=Lib.hasPrefix n [126]
def zaO (X:Dk)(n:zqY):Dk:=if zb6 n then (X.remove n).2 else X
def zbi (ns:List zqY)(X:Dk):Dk:=ns.foldl zaO X
def openD (ns:List zqY)(X:Dk):Dk:=if ns.any zb6 then (zbi ns X).sync.2 else zbi ns X
theorem zqG {w:World}{T:Nat→Prop}{b:Nat}{D:Fl}(h:zbA w T b D):∃es,D = .map es∧es.Pairwise (fun p q=>p.1≠q.1)∧∀p ∈ es,∃x,p.1 = .string x:=by
 have K:=string_keyed Tryz.underlying9;obtain⟨es,hD,hpw,_⟩:=World.ownsMap.entries h K;obtain⟨es',hD',hko⟩:=World.ownsMap.keysOf h;obtain rfl:es=es':=by rw[hD] at hD';simpa using hD'
 exact⟨es,hD,hpw,fun p hp=>by obtain⟨v,hv⟩:=hko p hp;obtain⟨x,_,hx,_⟩:=Maps.keyOf_str Tryz.underlying9 hv;exact⟨x,hx⟩⟩
theorem zgO {D:Fl}(h:∃es,D = .map es∧es.Pairwise (fun p q=>p.1≠q.1)∧∀p ∈ es,∃x,p.1 = .string x){ns:List zqY}(hp:ns.Perm (Go.strKeys D)):ns.Nodup∧∀n,n ∈ ns↔zz D n=true:=by
 obtain⟨es,rfl,hpw,hk⟩:=h
 constructor
 ·refine hp.nodup_iff.2 ?_
  show(es.map fun p=>strOf p.1).Nodup
  refine List.pairwise_map.2 (hpw.imp_of_mem fun {p q} hp' hq' hne e=>hne ?_)
  obtain⟨a,ha⟩:=hk p hp';obtain⟨b,hb⟩:=hk q hq';rw[ha,hb] at e ⊢;exact congrArg _ e
 ·intro x
  rw[hp.mem_iff];unfold zz;rw[has_eq,List.any_eq_true];show x ∈ es.map (fun p=>strOf p.1)↔_
  rw[List.mem_map]
  constructor
  ·rintro⟨p,hp',rfl⟩
   obtain⟨a,ha⟩:=hk p hp';exact⟨p,hp',by rw[ha];simp[Lit.sameKey,strOf]⟩
  ·rintro⟨p,hp',hs⟩
   obtain⟨a,ha⟩:=hk p hp';rw[ha] at hs;exact⟨p,hp',by rw[ha];simpa [Lit.sameKey,strOf] using hs⟩
theorem zQ.low {F:Nat→Prop}{w:World}{p:Nat}{X:Dk}(d:zQ F w p X):zQ (fun g=>F g∧g<w.heap.size) w p X:=by
 obtain⟨T,s,h,pv,d⟩:=d;obtain⟨i1,i2,i3,i4,i5⟩:=d.inF;have hpv:∀g,pv.ownBlock=some g→g<w.heap.size:=by
  obtain⟨xs,h1,_⟩:=d.pend;exact fun g e=>(World.ownsRow.lt h1 g e).2
 exact⟨T,s,h,pv,d.blk,d.sure,d.shown,d.pend,⟨⟨i1,zfg d.blk⟩,⟨i2,d.sure.lt⟩,⟨i3,d.shown.lt⟩,fun g e=>⟨i4 g e,hpv g e⟩,fun g e=>⟨i5 g e,d.outT.2.2.2.2 g e⟩⟩,d.apart,d.outT,d.room⟩
theorem zQ.str {F:Nat→Prop}{w:World}{p:Nat}{X:Dk}(d:zQ F w p X):∃es,X.shown = .map es∧es.Pairwise (fun p q=>p.1≠q.1)∧∀p ∈ es,∃x,p.1 = .string x:=by
 obtain⟨T,s,h,pv,d⟩:=d;exact zqG d.shown
def Dk.free (X:Dk):Prop:=X.down=false∧X.fuse<0
theorem Dk.free.works {X:Dk}(h:X.free):X.works=(0,X):=by
 unfold Dk.works;rw[if_neg (by rw[h.1];decide),if_neg (by have:=h.2;omega),if_neg (by have:=h.2;omega)]
theorem Dk.free.remove {X:Dk}(h:X.free){n:zqY}(hn:zz X.shown n=true):X.remove n=(0,X.add (.remove n)):=by
 unfold Dk.remove;rw[h.works,if_neg (fun e=>e rfl),if_pos hn]
theorem Dk.free.sync {X:Dk}(h:X.free):X.sync=(0,{ X with sure:=X.shown,pend:=[] }):=by
 unfold Dk.sync;rw[h.works,if_neg (fun e=>e rfl)]
theorem ziS {X:Dk}(h:X.free){n:zqY}(hn:zz X.shown n=true):(zaO X n).free:=by
 unfold zaO
 split
 ·rw[h.remove hn];exact h
 ·exact h
theorem zkL {X:Dk}(h:X.free){n m:zqY}(hn:zz X.shown n=true)(hm:m≠n):zz (zaO X n).shown m=zz X.shown m:=by
 unfold zaO
 split
 ·rw[h.remove hn]
  show zz (Chg.on (.remove n) X.shown) m=_
  unfold Chg.on;simp only[hn,if_true];exact zM hm
 ·rfl
theorem zeB (F0:Nat→Prop)(p:Nat)(X:Dk)(a k f:Nat)(w:World)(d0:zQ F0 w p X)(hd:X.free)(hl:X.lim a k f)(ha:a≤505)(hk:k+a≤990)(hf:f≤400000000)(hok:∀n,zz X.shown n=true→za5 n) :
 Calls Tryz.prog 37 #[.pointer (some ⟨p,0,none⟩)] w fun e w'=>∃(q:Nat) (ns:List zqY),e = .returned (.tuple #[.pointer (some ⟨q,0,none⟩),.nilIface])∧w.heap.size≤q∧ns.Perm (Go.strKeys X.shown)∧zn F0 w q p (openD ns X) w':=by
 have d:=d0.low;clear d0;have hF:∀g,(F0 g∧g<w.heap.size)→g<w.heap.size:=fun g e=>e.2
 have hF0:∀g,(F0 g∧g<w.heap.size)→(F0 g∧g<w.heap.size):=fun g e=>e
 generalize hFF:(fun g=>F0 g∧g<w.heap.size)=F at d
 have hF:∀g,F g→g<w.heap.size:=fun g e=>by rw[←hFF] at e;exact e.2
 have hF1:∀g,F g→F0 g:=fun g e=>by rw[←hFF] at e;exact e.1
 have L:=zz0 (zjg F p X w d hd.1 (by have:=hl.files;omega))
 have D:=zz0 d;have HF:=zz0 hF;have HL:=zz0 hl;have HD:=zz0 hd;have ST:=zz0 d.str;clear d hF hF0 hl hd
 go_enter Tryz.func37,Tryz.ntmps37
 go_wp2_with(go_at_call 73;refine L.out.mono ?_;rintro e w1 ⟨v,ns,rfl,p1,k1,o1⟩;obtain⟨a1,c1,rfl,_,_⟩:=zb o1;have K1:=zz0 k1;have P1:=zz0 p1;have O1:=zz0 o1;clear p1 k1 o1)
 obtain⟨nd,hmem⟩:=zgO ST.out P1.out;have ND:=zz0 nd;have HM:=zz0 hmem;clear nd hmem;have hnl:ns.length≤a:=by
  have h1:=P1.out.length_eq;obtain⟨es,e,_⟩:=ST.out;have h2:=HL.out.files;rw[e] at h1 h2;rw[h1];show(es.map _).length≤_;rw[List.length_map];have h3:size (DataW.map es:Fl)=es.length:=rfl;omega
 obtain⟨wl,hwl⟩:∃wl,wl=w1:=⟨_,rfl⟩
 go_loopw [6,24] (fun sw i wr=>∃(j:Nat) (Y:Dk) (F':Nat→Prop),j≤ns.length∧i = .int .i64 j∧sw = .bool ((ns.take j).any zb6)∧Y=zbi (ns.take j) X∧Y.free∧Y.lim a (k+j) f∧(∀n ∈ ns.drop j,zz Y.shown n=true)∧za F wl wr∧zq5 F' F wl∧zQ F' wr p Y) (fun _ i _=>ns.length-(intOf i).toNat)
 case atStart =>
  subst hwl;exact⟨0,X,F,by omega,rfl,rfl,rfl,HD.out,HL.out,fun n hn=>(HM.out n).1 (by simpa using hn),za.refl _ _,zq5.refl _ _,D.out.keep K1.out (fun _ _ e=>e)⟩
 case round =>
  obtain⟨j,Y,F',hj,rfl,rfl,hY,hfr,hlim,hrest,kw,hs,dY⟩:=hrel;have KW:=zz0 kw;have HS:=zz0 hs;have DY:=zz0 dY;clear kw hs dY;by_cases hlt:j<ns.length
  ·have O2:=Rd.ofOwns (zc (hwl ▸ O1.out) KW.out (fun g e e2=>by have h1:=(O1.out.lt g e).1;have h2:=HF.out g e2;omega))
   obtain⟨g,off,hc⟩:∃g off,a1=some (⟨g,off,none⟩:Addr)∧∀j u,(ns.map sv)[j]? = some u→wr.cell? ⟨g,off+j,none⟩=some u:=by
    obtain⟨a',c',e,hx⟩:=O2;injection e with e1 e2 e3
    obtain⟨g,off,e4,hc⟩:=hx (by intro e;rw[List.map_eq_nil_iff] at e;rw[e] at hlt;exact absurd hlt (by simp))
    exact⟨g,off,e1.trans e4,hc⟩
   obtain⟨rfl,hc⟩:=hc;have hcell:=hc j (sv ns[j]) (by rw[List.getElem?_map,List.getElem?_eq_getElem hlt];rfl)
   have hin:ns[j] ∈ ns:=List.getElem_mem hlt;have hdr:ns.drop j=ns[j]::ns.drop (j+1):=List.drop_eq_getElem_cons hlt;have hnj:zz Y.shown ns[j]=true:=hrest _ (by rw[hdr];exact List.mem_cons_self)
   have hnok:=hok _ ((HM.out _).1 hin);have hY1:zbi (ns.take (j+1)) X=zaO Y ns[j]:=by rw[List.take_succ_eq_append_getElem hlt,hY];unfold zbi;rw[List.foldl_append];rfl
   have hany:(ns.take (j+1)).any zb6=((ns.take j).any zb6||zb6 ns[j]):=by rw[List.take_succ_eq_append_getElem hlt,List.any_append];simp
   have hrest1:∀n ∈ ns.drop (j+1),zz (zaO Y ns[j]).shown n=true:=by
    intro n hn;have hne:n≠ns[j]:=by
     have h1:=ND.out;rw[←List.take_append_drop j ns,hdr,List.nodup_append] at h1;have h2:=(List.nodup_cons.1 h1.2.1).1;intro e;exact h2 (e ▸ hn)
    rw[zkL hfr hnj hne];exact hrest n (by rw[hdr];exact List.mem_cons_of_mem _ hn)
   have H1:=zz0 (And.intro hY1 (And.intro hany (And.intro hrest1 (ziS hfr hnj))));have hhp:=Tryz.strings_HasPrefix ⟨ns[j].toArray⟩ ⟨#[126]⟩;clear hY1 hany hrest1 hdr hrest hin hc O2;have hb0:Lib.hasPrefix (⟨ns[j].toArray⟩:ByteArray).data.toList (⟨#[126]⟩:ByteArray).data.toList=zb6 ns[j]:=rfl;rw[hb0] at hhp;have HP:=zz0 hhp;clear hhp hb0;unfold sv at hcell;have RM:=zz0 (zhm F' p ns[j] Y wr DY.out (hlim.mild (by omega) (by omega) (by omega)) hnok)
   have hrm:=hfr.remove hnj;unfold sv at RM;cases hb:zb6 ns[j] with
   |false =>
    rw[hb] at HP
    go_wp2_with(go_at_call 74;refine(HP.out _).mono ?_;rintro e w3 ⟨rfl,e3⟩;subst e3)
    have hY2:zaO Y ns[j]=Y:=by unfold zaO;rw[hb];rfl
    refine⟨⟨j+1,Y,F',by omega,by go_num,by rw[H1.out.2.1,hb,Bool.or_false],by rw[H1.out.1,hY2],hfr,hlim.mono (by omega) (by omega) (by omega),by have:=H1.out.2.2.1;rw[hY2] at this;exact this,KW.out,HS.out,DY.out⟩,by simp[intOf];omega⟩
   |true =>
    rw[hb] at HP;rw[hrm] at RM;have e0:zbU ((0:Int),Y.add (.remove ns[j])).1 = .nilIface:=rfl;rw[e0] at RM;have RM2:=zz0 RM.out;have hY2:zaO Y ns[j]=Y.add (.remove ns[j]):=by unfold zaO;rw[hb,if_pos rfl,hrm]
    have hl2:=hlim.remove ns[j];rw[hrm] at hl2;have HL2:=zz0 hl2;clear hl2 hrm RM
    go_wp2_with(first
     |(go_at_call 74;refine(HP.out _).mono ?_;rintro e w3 ⟨rfl,e3⟩;subst e3)
     |(go_at_call 75;refine RM2.out.mono ?_;rintro e w3 ⟨rfl,k3,F3,s3,d3⟩;have K3:=zz0 k3;have S3:=zz0 s3;have D3:=zz0 d3;clear k3 s3 d3))
    refine⟨⟨j+1,Y.add (.remove ns[j]),F3,by omega,by go_num,by rw[H1.out.2.1,hb,Bool.or_true],by rw[H1.out.1,hY2],by have:=H1.out.2.2.2;rw[hY2] at this;exact this,HL2.out.mono (by omega) (by omega) (by omega),by have:=H1.out.2.2.1;rw[hY2] at this;exact this,zbu KW.out HS.out K3.out,HS.out.trans S3.out KW.out.size,D3.out⟩,by simp[intOf];omega⟩
  ·obtain rfl:j=ns.length:=by omega
   rw[List.take_length] at hY ⊢;have FIN:Hid (∀w3 Z,zaW F' wr p Z w3→zn F0 w w3.heap.size p Z (w3.alloc (StB p))):=zz0 (by
    intro w3 Z dz;obtain⟨k3,F3,s3,d3⟩:=dz;subst hwl;have kk:za F w w3:=zbu (K1.out.ofNon.trans1 KW.out) (fun g e=>by rcases HS.out g e with e|e;exact .inl e;exact .inr (by have:=K1.out.size;omega)) k3
    refine⟨(kk.mono (fun i _ e=>hF1 i e)).alloc _,fun g=>g=w3.heap.size∨(F3 g∧g<w3.heap.size),?_,ze _ _,.inl rfl,_,d3.low.keep ((za.refl zq2 _).alloc _) (fun _ _ e=>e),fun g e=>⟨.inr e,by have:=e.2;omega⟩⟩
    have z1:=kk.size;rintro g (rfl|⟨e,_⟩)
    ·exact .inr z1
    ·rcases s3 g e with e|e
     ·rcases HS.out g e with e|e
      ·exact .inl (hF1 g e)
      ·exact .inr (by have:=K1.out.size;omega)
     ·exact .inr (by have:=K1.out.size;have:=KW.out.size;omega))
   have SY:=zz0 (zij F' p Y wr DY.out hlim.fuse);have hsy:=hfr.sync;cases hb:ns.any zb6 with
   |true =>
    rw[hsy] at SY;have e0:zbU ((0:Int),({ Y with sure:=Y.shown,pend:=[] }:Dk)).1 = .nilIface:=rfl
    rw[e0] at SY;have SY2:=zz0 SY.out;clear SY
    go_wp2_with(go_at_call 76;refine SY2.out.mono ?_;rintro e w3 ⟨rfl,d3⟩;have D3:=zz0 d3;clear d3)
    go_ret2;refine⟨_,ns,rfl,?_,P1.out,?_⟩
    ·have h1:=K1.out.size
     have h2:=KW.out.size;have h3:=D3.out.1.size;subst hwl;omega
    ·have e:openD ns X = { Y with sure:=Y.shown,pend:=[] }:=by unfold openD;rw[hb,if_pos rfl,←hY,hsy]
     rw[e];exact FIN.out _ _ D3.out
   |false =>
    go_wp2_with fail
    go_ret2;refine⟨_,ns,rfl,?_,P1.out,?_⟩
    ·have h1:=K1.out.size
     have h2:=KW.out.size;subst hwl;omega
    ·have e:openD ns X=Y:=by unfold openD;rw[hb,←hY];rfl
     rw[e];exact FIN.out _ _ ⟨za.refl _ _,F',zq5.refl _ _,DY.out⟩
end Go.Proofs.YtpojgmeoaflmoaaGreatDoor
