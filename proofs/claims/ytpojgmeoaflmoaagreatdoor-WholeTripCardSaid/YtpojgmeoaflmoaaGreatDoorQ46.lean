/- vault.Open of a disk whose power has com -/
import Derived.Test.YtpojgmeoaflmoaaGreatDoorQ36
set_option linter.unusedVariables false
set_option maxRecDepth 100000
set_option maxHeartbeats 16000000
namespace Go.Proofs.YtpojgmeoaflmoaaGreatDoor
open Go.RowKit Go.Maps
section
attribute [local go_sem ↓] zbB zU zbC zbD zV zbE zab zbK hBS52 hBS39
theorem tvopen (F0:Nat→Prop)(p:Nat)(ms:List Mf)(X0:Dk)(w:World)(d0:zQ F0 w p X0)(hX:TUp X0)(hms:HasMs X0 ms)(och:okCh ms)(hlen:ms.length<90)(hlay:Lay w)(h10:∀g,F0 g→10≤g) :
 Calls Tryz.prog 18 #[.pointer (some ⟨p,0,none⟩)] w fun e w'=>∃X,TDk X∧like X0.shown X.shown∧X.fuse<0∧VoOk F0 w p X ms e w':=by
 have SO:Hid (Calls Tryz.prog 37 #[.pointer (some ⟨p,0,none⟩)] w fun e w'=>∃q X,(TDk X∧like X0.shown X.shown∧X.fuse<0)∧e = .returned (.tuple #[.pointer (some ⟨q,0,none⟩),.nilIface])∧w.heap.size≤q∧∃F',zq5 F' F0 w∧(∀g,F' g→g<w'.heap.size)∧za F0 w w'∧zk F' w' q p X):=zz0 (by
  have hl:X0.lim 100 0 1000000:=⟨hX.files.size,by rw[hX.pend];exact Nat.zero_le _,hX.files.used,by rw[hX.fuse];decide,hX.files.fl.map⟩
  refine(zeB F0 p X0 100 0 1000000 w d0 ⟨hX.down,by rw[hX.fuse];decide⟩ hl (by omega) (by omega) (by omega) (fun n h=>(hX.files.names n h).name)).mono ?_
  rintro e w' ⟨q,ns,rfl,hq,hp,t⟩;have ho:=zn5 hX ns hp;obtain⟨k1,F1,s1,d⟩:=t;obtain⟨b1,i1,G,dg,hg⟩:=d;exact⟨q,_,ho,rfl,hq,fun g=>F1 g∧g<w'.heap.size,fun g x=>s1 g x.1,fun g x=>x.2,k1,b1,⟨i1,lt_of_block b1⟩,fun g=>G g∧g<w'.heap.size,dg.low,fun g x=>⟨⟨(hg g x.1).1,x.2⟩,(hg g x.1).2⟩⟩)
 have HM0:=zz0 hms;have OC:=zz0 och;have LY:=zz0 hlay;have H10:=zz0 h10;obtain⟨i0,hi0,hz0,hz1,hz2⟩:=info_parts infoMf;have I0:=zz0 (And.intro hi0 (And.intro hz0 (And.intro hz1 hz2)));have EE:=ze4 4 4;have EN:=zdx 4;have L10:Hid (10≤w.heap.size):=zz0 (by
  obtain⟨T,s,h,pv,di⟩:=d0;have:=h10 p di.inF.1;have:=lt_of_block di.blk;omega)
 clear d0 hX hms och hlay h10 hi0 hz0 hz1 hz2
 go_enter Tryz.func18,Tryz.ntmps18
 go_wp2_with(go_at_call 37;refine SO.out.mono ?_;rintro r w1 ⟨q,X,pX,rfl,hq,F1,s1,f1,k1,d1⟩;have PX:=zz0 pX;have HD:Hid X.free:=zz0 ⟨pX.1.calm.down,pX.2.2⟩;have HM:Hid (∀(j:Nat) m,ms[j]? = some m→zz X.shown (zw j)=true∧zat X.shown (zw j)=zb2 m):=zz0 (fun j m hj=>by have hjl:=zr hj;obtain⟨q1,q2⟩:=pX.2.1.obj (zaD j (by omega));obtain⟨q3,q4⟩:=HM0.out.has j m hj;exact⟨q1 ▸ q3,q2 ▸ q4⟩);have HN:Hid (zz X.shown (zw ms.length)=false):=zz0 (by obtain⟨q1,q2⟩:=pX.2.1.obj (zaD ms.length (by omega));exact q1 ▸ HM0.out.no);clear pX;have K1:=zz0 k1;have S1:=zz0 s1;have D1:=zz0 d1;have FL1:=zz0 f1;clear k1 s1 d1 f1)
 have kB:za zq2 w1 (w1.alloc (VtB q (.slice none 0 0))):=(za.refl _ _).alloc _;have BB:=zz0 (ze w1 (VtB q (.slice none 0 0)));have DB:=zz0 (D1.out.keep kB (fun _ _ e=>e))
 have KB:=zz0 kB;obtain⟨wB,hwB⟩:∃wB,wB=w1.alloc (VtB q (.slice none 0 0)):=⟨_,rfl⟩;have hsB:wB.heap.size=w1.heap.size+1:=by rw[hwB];simp
 rw[←hwB] at BB DB KB;unfold VtB at hwB;rw[←hwB];clear hwB kB;have SB:=zz0 hsB;have LX:Hid (10≤w1.heap.size):=zz0 (Nat.le_trans L10.out K1.out.size);clear hsB
 go_loopw [] (fun wr=>∃j,j≤ms.length∧VoLp w1.heap.size q p F1 wB X ms j wr) (fun wr=>ms.length-vtLen wr w1.heap.size)
 case atStart=>exact⟨0,by omega,none,0,[],BB.out,MsOwn.nil _ _,DB.out,za.refl _ _⟩
 case round =>
  obtain⟨j,hj,oa,oc,xs,vb,ow,st,kr⟩:=hrel;have VB:=zz0 vb;have OW:=zz0 ow;have ST:=zz0 st;have KR:=zz0 kr;have x0:=vt_1 vb;have VL:=zz0 (zjS vb);have GT:=zz0 (fun W (k:za zq2 wr W)=>ST.out.keep k (fun _ _ e=>e))
  have XB:=zz0 (fun W (k:za zq2 wr W)=>vt_1 (zh k VB.out))
  have TT:=zz0 (zd3 j wr (by omega))
  clear vb ow st kr;by_cases hlt:j<ms.length
  ·obtain⟨m,hm⟩:∃m,ms[j]? = some m:=⟨_,List.getElem?_eq_getElem (by omega)⟩
   obtain⟨t1,t2⟩:=HM.out j m hm;obtain⟨m1,m2,m3,m4⟩:=OC.out j m hm;have h32:=m1.prev;have GG:=zz0 (fun W (k:za zq2 wr W)=>zgW F1 q p (zw j) X W (GT.out W k) (zaD j (by omega)) HD.out.1 t1 (by rw[t2];omega))
   rw[t2] at GG;have MT:=zz0 (fun W B v (h:World.ownsRow W B 5 1 v (zb2 m).length ((zb2 m).map bv))=>zn1 v m W (Rd.ofOwns h) (zdA h) (fun g e=>(h.lt g e).2) m1 m3 (zqJ m _ m4))
   have M1:=zz0 m1;have M3:=zz0 m3;have HMJ:=zz0 hm;clear t1 t2 m1 m2 m3 m4 hm;unfold sv at TT GG
   go_wp2_with(first
    |(go_at_call 49;refine TT.out.mono ?_;rintro r w2 ⟨rfl,k2⟩;have K2:=zz0 k2;clear k2)
    |(go_at_call 48;refine(GG.out w2 K2.out).mono ?_;rintro r w3 ⟨v3,rfl,k3,o3⟩;have MTW:=zz0 (MT.out w3 _ v3 o3);obtain⟨a3,c3,rfl,_,_⟩:=zb o3;have K3:=zz0 (K2.out.trans1 k3);clear k3 o3)
    |(go_at_call 50;refine MTW.out.mono ?_;rintro r w4 ⟨v4,rfl,k4,o4⟩;obtain⟨a4,c4,rfl,_,_⟩:=zb o4;have hst:=zaZ w4 m a4 m.parts.length c4 h32;dsimp only[zra] at hst;have O4:=zz0 (zg o4 K3.out.size);have K4:=zz0 (K3.out.trans1 k4);clear k4 o4))
   have OR:Hid (wr.ownsRow (w1.heap.size+1) 54 37 (.slice oa j oc) j xs):=zz0 (by have:=OW.out.1;rwa [show(ms.take j).length=j by rw[List.length_take];omega] at this)
   have P32:zbI m.parts:=fun x hx=>by
    obtain⟨i,hi,rfl⟩:=List.getElem_of_mem hx;exact(zay m.parts m.lo i _ M1.out.parts (List.getElem?_eq_getElem hi)).1.2.2.2.2
   have kA:za zq2 w4 (w4.alloc (zq1 m (.slice a4 m.parts.length c4))):=(za.refl _ _).alloc _;have PT:Hid (zC (w4.alloc (zq1 m (.slice a4 m.parts.length c4))) (.slice a4 m.parts.length c4) m.parts):=zz0 ((zC.of O4.out P32).keepNon kA);have PO:Hid (∀g,(Value.slice a4 m.parts.length c4).ownBlock=some g→wr.heap.size≤g∧g<(w4.alloc (zq1 m (.slice a4 m.parts.length c4))).heap.size):=zz0 (fun g e=>by have:=O4.out.lt g e;simp;omega)
   have BK:=zz0 (ze w4 (zq1 m (.slice a4 m.parts.length c4)));have KA:=zz0 (K4.out.trans1 kA);obtain⟨WA,hWA⟩:∃WA,WA=w4.alloc (zq1 m (.slice a4 m.parts.length c4)):=⟨_,rfl⟩;rw[←hWA] at KA BK PT PO;rw[←hWA];clear hWA hst kA MTW O4;obtain⟨b4,hb4⟩:∃b4,b4=w4.heap.size:=⟨_,rfl⟩;rw[←hb4] at BK;rw[←hb4];clear hb4;have kB:za zq2 WA (WA.alloc (zq1 m (.slice a4 m.parts.length c4))):=(za.refl _ _).alloc _;have l0:=zO BK.out h32;have l1:=zO (w:=WA.drew) BK.out h32;have b0:=zaQ m a4 m.parts.length c4 h32 WA;have b1:=zaQ m a4 m.parts.length c4 h32 WA.drew;have x2:=XB.out _ KA.out;have x3:=XB.out _ (KA.out.trans1 kB);have BN:=zz0 (ze WA (zq1 m (.slice a4 m.parts.length c4)));have KB':=zz0 (KA.out.trans1 kB);have PT2:Hid (zC (WA.alloc (zq1 m (.slice a4 m.parts.length c4))).drew (.slice a4 m.parts.length c4) m.parts):=zz0 (PT.out.keepNon kB.drew);have PO2:Hid (∀g,(Value.slice a4 m.parts.length c4).ownBlock=some g→wr.heap.size≤g∧g<(WA.alloc (zq1 m (.slice a4 m.parts.length c4))).drew.heap.size):=zz0 (fun g e=>⟨(PO.out g e).1,Nat.lt_of_lt_of_le (PO.out g e).2 kB.drew.size⟩)
   have SZ:Hid (w1.heap.size+1≤(WA.alloc (zq1 m (.slice a4 m.parts.length c4))).drew.heap.size):=zz0 (by have h1:=KR.out.size;have h2:=KA.out.size;have h3:=kB.drew.size;have h4:=SB.out;omega)
   have HB:=zz0 (lt_of_block VB.out);clear kB;unfold zq7 at l0 l1 b0 b1;dsimp only[zq1] at b0 b1 x3;unfold zq7
   go_region_law(refine zl (by rfl) (.tmp 52) (.tmp 54) 39 (by rfl) (w1.heap.size+1) 54 i0 (.agg zra) 37 88 Tryz.underlying39 I0.out.1 I0.out.2.1 I0.out.2.2.1 I0.out.2.2.2 rfl (by decide) (.slice oa j oc) j xs (by first|rfl|simp[Act.eval,Act.put]) (zc OR.out KB'.out.drew (fun _ _ e=>e)) ⟨WA.heap.size,0,none⟩ 1 1 (zq6 m (.slice a4 m.parts.length c4)) (by first|rfl|simp[Act.eval,Act.put]) (by rw[zaV h32]) (by exact zdi BN.out) (zcJ m a4 m.parts.length c4) (by unfold maxLen;omega) (by omega) (by exact SZ.out) ?_;intro v9 w9 ho hg hpp;obtain⟨a9,c9,rfl,_,_⟩:=zb ho;obtain⟨nx,b9,vl⟩:=zqv SB.out HB.out (show j≤ms.length by omega) FL1.out HMJ.out h32 VB.out OW.out ST.out KR.out KB'.out.drew PT2.out PO2.out ho hg hpp;have x9:=vt_1 b9;have f9:=vt_f b9 1;have NX:=zz0 nx;have VN:=zz0 vl;clear ho hg hpp nx b9 vl)
   all_goals
    refine⟨?_,by rw[VN.out,VL.out];omega⟩
    repeat apply Exists.intro
    exact⟨⟨j+1,by omega,NX.out⟩,rfl⟩
  ·obtain rfl:j=ms.length:=by omega
   have hno:=HN.out;have GG:=zz0 (fun W (k:za zq2 wr W)=>zdX F1 q p (zw ms.length) X W (GT.out W k) (zaD ms.length (by omega)) HD.out.1 hno)
   have MA:=OW.out.at;rw[List.take_length] at MA;have CC:=zz0 (fun W (k:za zq2 wr W)=>zbl _ _ ms W (MA.keepNon k) OC.out (by omega) ((LY.out.keep (K1.out.trans1 KB.out.ofNon) (fun g h x=>by have:=H10.out g x;omega)).keep (KR.out.trans1 k.ofNon) (fun g h x=>by have e:g=w1.heap.size:=x;have:=LX.out;omega)).kon ((LY.out.keep (K1.out.trans1 KB.out.ofNon) (fun g h x=>by have:=H10.out g x;omega)).keep (KR.out.trans1 k.ofNon) (fun g h x=>by have e:g=w1.heap.size:=x;have:=LX.out;omega)).frs)
   have MA':=zz0 MA;clear MA;unfold sv at TT GG
   go_wp2_with(first
    |(go_at_call 49;refine TT.out.mono ?_;rintro r w2 ⟨rfl,k2⟩;have K2:=zz0 k2;clear k2)
    |(go_at_call 48;refine(GG.out w2 K2.out).mono ?_;rintro r w3 ⟨rfl,k3⟩;have x3:=XB.out _ (K2.out.trans1 k3);have K3:=zz0 (K2.out.trans1 k3);clear k3)
    |(go_at_call 51;refine(CC.out w3 K3.out).mono ?_;rintro r w4 ⟨rfl,k4⟩;have K4:=zz0 (K3.out.trans1 k4);clear k4))
   go_ret2;have kF:za F0 w w4:=(K1.out.trans1 KB.out.ofNon).trans (KR.out.trans1 K4.out.ofNon) (fun _ _ x=>x) (fun g hg x=>by have e:g=w1.heap.size:=x;have:=K1.out.size;omega)
   have ok:VoOk F0 w p X ms _ w4:=⟨w1.heap.size,q,oa,oc,rfl,K4.out.at VB.out (fun e=>e),zai.widen (MA'.out.keepNon K4.out) (fun g x=>⟨by omega,by have:=K4.out.size;omega⟩),kF,K1.out.size,F1,S1.out,FL1.out,ST.out.keep K4.out (fun _ _ e=>e)⟩
   exact⟨X,PX.out.1,PX.out.2.1,PX.out.2.2,ok⟩
end
end Go.Proofs.YtpojgmeoaflmoaaGreatDoor
namespace Go.Proofs.YtpojgmeoaflmoaaGreatDoor
open Go.RowKit Go.Maps
theorem zkR {F T:Nat→Prop}{b lb q p:Nat}{lv:Value}{ms:List Mf}{X:Dk}{c:Cu}(w:World)(hb:w.heap[b]? = some (VtB q lv))(hm:zai T w lv ms)(hp32:∀m ∈ ms,zbI m.parts∧m.parts.length≤10000)(hms:ms.length<90)(d:zk F w q p X)(hd:X.down=false)(hcur:zz X.shown zx=true∧zat X.shown zx=zco c)(hok:zdQ c)(lo:Nat)(hlo:lo=zbr ms)(he:c.lo=lo) :
 Calls Tryz.prog 33 #[.pointer (some ⟨b,0,none⟩),.pointer (some ⟨lb,0,none⟩)] w fun e w'=>∃x v',e = .returned (.tuple #[.pointer (some ⟨x,0,none⟩),.nilIface])∧za zq2 w w'∧w.heap.size≤x∧w'.heap[x]? = some (ExB b lb c v' false)∧w'.ownsRow w.heap.size 125 35 v' c.parts.length (zaP c.parts)∧∀g,v'.ownBlock=some g→g<x:=by
 have LD:=zz0 (zjT F b lb q p lv c X w hb d hd hcur.1 hcur.2 hok);have CH:=zz0 (fun W (k:za zq2 w W)=>zar T b q lv ms W (zh k hb) (hm.keepNon k) hp32 (by omega))
 have EN:Hid (∀W v (T':Nat→Prop),zai T' W v ms→Calls Tryz.prog 8 #[v] W fun e w'=>e = .returned (.int .i64 lo)∧za zq2 W w'):=zz0 (fun W v T' y=>by rw[hlo];exact zbN T' v ms W y (by omega))
 have eq0:((c.lo:Int) != (lo:Int))=false:=by rw[he];simp
 clear hb hm hp32 d hd hcur hok hlo he;unfold cuV at LD
 go_enter Tryz.func33,Tryz.ntmps33
 go_wp2_with(go_at_call 62;((with_reducible refine LD.out.mono ?_);rintro e w1 ⟨v1,rfl,k1,o1⟩);obtain⟨a1,c1,rfl,_,_⟩:=zb o1;have K1:=zz0 k1;have O1:=zz0 o1;clear k1 o1)
 have k2:za zq2 w1 (w1.alloc (zq0 c (.slice a1 c.parts.length c1))):=(za.refl _ _).alloc _;have b2:=ze w1 (zq0 c (.slice a1 c.parts.length c1));have K2:=zz0 (K1.out.trans1 k2);have LF:Hid (∀W,za zq2 (w1.alloc (zq0 c (.slice a1 c.parts.length c1))) W→W.heap[w1.heap.size]? = some (zq0 c (.slice a1 c.parts.length c1))):=zz0 (fun W k=>zh k (ze w1 _))
 obtain⟨W2,hW2⟩:∃W2,W2=w1.alloc (zq0 c (.slice a1 c.parts.length c1)):=⟨_,rfl⟩;rw[←hW2] at K2 LF;have O2:Hid (W2.ownsRow w.heap.size 125 35 (.slice a1 c.parts.length c1) c.parts.length (zaP c.parts)):=zz0 (by rw[hW2];exact zc O1.out k2 (fun _ _ e=>e))
 unfold zq0 at hW2;rw[←hW2];have CHW:=zz0 (CH.out W2.drew K2.out.drew);have l0:=cu_0 (LF.out W2.drew (za.refl zq2 W2).drew);clear k2 b2 hW2 CH
 go_region_law(go_simp;first
  |(go_at_call 9;((with_reducible refine CHW.out.mono ?_);rintro e w3 ⟨v3,rfl,k3,m3⟩);have M3:=zz0 m3;clear m3;have K3:=zz0 ((za.refl zq2 W2).drew.trans1 k3);have l3:=cu_0 (LF.out w3 K3.out);clear k3)
  |(go_at_call 8;refine(EN.out _ v3 _ M3.out).mono ?_;rintro e w4 ⟨rfl,k4⟩;have K4:=zz0 (K3.out.trans1 k4);have l4:=cu_0 (LF.out w4 K4.out);clear k4))
 all_goals
  have b4:=LF.out w4 K4.out;have y1:=cu_1 b4;have y2:=cu_2 b4;have y3:=cu_3 b4;have y4:=cu_4 b4;clear b4
  go_wp2_with fail
 all_goals
  go_ret2;have k4:=K2.out.trans1 K4.out;exact⟨w4.heap.size,.slice a1 c.parts.length c1,rfl,k4.alloc _,k4.size,ze w4 _,zc (zc O2.out K4.out (fun _ _ e=>e)) ((za.refl zq2 w4).alloc _) (fun _ _ e=>e),fun g e=>Nat.lt_of_lt_of_le (O2.out.lt g e).2 K4.out.size⟩
theorem ziU {F T:Nat→Prop}{b lb q p:Nat}{lv:Value}{ms:List Mf}{X:Dk}{c:Cu}(w:World)(hb:w.heap[b]? = some (VtB q lv))(hm:zai T w lv ms)(hp32:∀m ∈ ms,zbI m.parts∧m.parts.length≤10000)(hms:ms.length<90)(d:zk F w q p X)(hd:X.down=false)(hcur:zz X.shown zx=true∧zat X.shown zx=zco c)(hok:zdQ c)(hXm:X.mild)(hXp:IsMap X.shown)(hdel:(X.sdel zx).1=0)(lo:Nat)(hlo:lo=zbr ms)(he:c.lo≠lo) :
 Calls Tryz.prog 33 #[.pointer (some ⟨b,0,none⟩),.pointer (some ⟨lb,0,none⟩)] w fun e w'=>e = .returned (.tuple #[.pointer none,.iface 89 (.int .i64 4)])∧zn F w q p (X.sdel zx).2 w':=by
 have LD:=zz0 (zjT F b lb q p lv c X w hb d hd hcur.1 hcur.2 hok);have CH:=zz0 (fun W (k:za zq2 w W)=>zar T b q lv ms W (zh k hb) (hm.keepNon k) hp32 (by omega))
 have EN:Hid (∀W v (T':Nat→Prop),zai T' W v ms→Calls Tryz.prog 8 #[v] W fun e w'=>e = .returned (.int .i64 lo)∧za zq2 W w'):=zz0 (fun W v T' y=>by rw[hlo];exact zbN T' v ms W y (by omega))
 have eq0:((c.lo:Int) != (lo:Int))=true:=by simp;omega
 have ST:=zz0 (fun W (k:za zq2 w W)=>zcy b q lv W (zh k hb))
 have CL:Hid (∀W,za zq2 w W→Calls Tryz.prog 70 #[.pointer (some ⟨q,0,none⟩),.string ⟨zx.toArray⟩] W fun e w'=>e = .returned .nilIface∧zn F W q p (X.sdel zx).2 w'):=zz0 (fun W k=>by
  refine(zdv F q p zx X W (d.keep k (fun _ _ e=>e)) hXm hXp zal).mono ?_
  rintro e w' ⟨rfl,t⟩;rw[hdel];exact⟨rfl,t⟩)
 clear hb hm hp32 d hd hcur hok hlo he hXm hXp hdel;unfold cuV at LD;unfold zx at CL
 go_enter Tryz.func33,Tryz.ntmps33
 go_wp2_with(go_at_call 62;((with_reducible refine LD.out.mono ?_);rintro e w1 ⟨v1,rfl,k1,o1⟩);obtain⟨a1,c1,rfl,_,_⟩:=zb o1;have K1:=zz0 k1;have O1:=zz0 o1;clear k1 o1)
 have k2:za zq2 w1 (w1.alloc (zq0 c (.slice a1 c.parts.length c1))):=(za.refl _ _).alloc _;have b2:=ze w1 (zq0 c (.slice a1 c.parts.length c1));have K2:=zz0 (K1.out.trans1 k2);have LF:Hid (∀W,za zq2 (w1.alloc (zq0 c (.slice a1 c.parts.length c1))) W→W.heap[w1.heap.size]? = some (zq0 c (.slice a1 c.parts.length c1))):=zz0 (fun W k=>zh k (ze w1 _))
 obtain⟨W2,hW2⟩:∃W2,W2=w1.alloc (zq0 c (.slice a1 c.parts.length c1)):=⟨_,rfl⟩;rw[←hW2] at K2 LF;have O2:Hid (W2.ownsRow w.heap.size 125 35 (.slice a1 c.parts.length c1) c.parts.length (zaP c.parts)):=zz0 (by rw[hW2];exact zc O1.out k2 (fun _ _ e=>e))
 unfold zq0 at hW2;rw[←hW2];have CHW:=zz0 (CH.out W2.drew K2.out.drew);have l0:=cu_0 (LF.out W2.drew (za.refl zq2 W2).drew);clear k2 b2 hW2 CH
 go_region_law(go_simp;first
  |(go_at_call 9;((with_reducible refine CHW.out.mono ?_);rintro e w3 ⟨v3,rfl,k3,m3⟩);have M3:=zz0 m3;clear m3;have K3:=zz0 ((za.refl zq2 W2).drew.trans1 k3);have l3:=cu_0 (LF.out w3 K3.out);clear k3)
  |(go_at_call 8;refine(EN.out _ v3 _ M3.out).mono ?_;rintro e w4 ⟨rfl,k4⟩;have K4:=zz0 (K3.out.trans1 k4);have l4:=cu_0 (LF.out w4 K4.out);clear k4))
 all_goals go_wp2_with(first
  |(go_at_call 66;refine(ST.out _ (K2.out.trans1 K4.out)).mono ?_;rintro e w5 ⟨rfl,rfl⟩)
  |(go_at_call 70;refine(CL.out _ (K2.out.trans1 K4.out)).mono ?_;rintro e w6 ⟨rfl,t6⟩))
 all_goals
  go_ret2;exact⟨rfl,zn.after (K2.out.trans1 K4.out) t6⟩
theorem zh4 {F:Nat→Prop}{b lb q p:Nat}{lv:Value}{X:Dk}(w:World)(hb:w.heap[b]? = some (VtB q lv))(d:zk F w q p X)(hd:X.down=false)(hh:zz X.shown zx=false) :
 Calls Tryz.prog 33 #[.pointer (some ⟨b,0,none⟩),.pointer (some ⟨lb,0,none⟩)] w fun e w'=>e = .returned (.tuple #[.pointer none,.iface 89 (.int .i64 4)])∧za zq2 w w':=by
 have LD:=zz0 (zef F b lb q p lv X w hb d hd hh);clear hb d hd hh
 go_enter Tryz.func33,Tryz.ntmps33
 go_wp2_with(go_at_call 62;((with_reducible refine LD.out.mono ?_);rintro e w1 ⟨rfl,k1⟩);have K1:=zz0 k1;clear k1)
 go_ret2;exact⟨rfl,K1.out.alloc _⟩
end Go.Proofs.YtpojgmeoaflmoaaGreatDoor
