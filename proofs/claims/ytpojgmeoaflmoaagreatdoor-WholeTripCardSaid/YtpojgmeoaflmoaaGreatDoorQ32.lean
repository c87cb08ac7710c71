/- vault.held, at any manifest: walked (tur -/
import Derived.Test.YtpojgmeoaflmoaaGreatDoorQ19
import Derived.Test.YtpojgmeoaflmoaaGreatDoorQ20
import Derived.Test.YtpojgmeoaflmoaaGreatDoorQ21
import Derived.Test.YtpojgmeoaflmoaaGreatDoorQ30
set_option linter.unusedVariables false
set_option maxRecDepth 100000
set_option maxHeartbeats 16000000
namespace Go.Proofs.YtpojgmeoaflmoaaGreatDoor
open Go.RowKit Go.Maps
def HasSegsN (X:Dk)(num:Nat)(ps:List Pt):Prop:=∀(i:Nat) pt,ps[i]? = some pt→∃f cl,pt=zaI f cl∧zz X.shown (zt num i)=true∧zat X.shown (zt num i)=zaC f cl∧cl≠[]∧cl.length≤64∧(∀x ∈ cl,zcl x)∧f+cl.length≤1048576
section
attribute [local go_sem ↓] zbB zU zbC zbD zV zbE zab zbK
theorem zh6 (F:Nat→Prop)(b q p:Nat)(lv:Value)(m:Mf)(pv:Value)(X:Dk)(w:World)(hb:w.heap[b]? = some (VtB q lv))(d:zk F w q p X)(hdn:X.down=false)(hlay:Lay w)(hp:zC w pv m.parts)(h32:m.prev.length=32)(num:Nat)(hnum:m.num=num)(hn:num<100)(h64:m.parts.length≤64)(hS:HasSegsN X num m.parts) :
 Calls Tryz.prog 242 #[.pointer (some ⟨b,0,none⟩),zq7 m pv] w fun e w'=>e = .returned .nilIface∧za zq2 w w':=by
 have PA:=zz0 hp;have VS:Hid (∀W,za zq2 w W→W.cell? ⟨b,0,none⟩=some (.pointer (some ⟨q,0,none⟩))):=zz0 (fun W k=>vt_0 (zh k hb))
 have B:=zz0 hb;have HS:=zz0 hS;have LY:=zz0 hlay;have LB:=zz0 (fun W i (hi:i<64)=>zd1 num i W (by omega) (by omega))
 have GT:=zz0 (fun W i (k:za zq2 w W) f cl (h1:zz X.shown (zt num i)=true) (h2:zat X.shown (zt num i)=zaC f cl) (hi:i<64) (hl:(zaC f cl).length≤131072)=>by
  have:=zgW F q p (zt num i) X W (d.keep k (fun _ _ e=>e)) (zcb num i (by omega) (by omega)) hdn h1 (by rw[h2];omega)
  rw[h2] at this;exact this)
 obtain⟨a,c,rfl,hc,ha,hx⟩:=hp;have q36:=zhA m (.slice a m.parts.length c) h32;have MB:Hid (∀W,za zq2 (w.alloc (zq1 m (.slice a m.parts.length c))) W→W.cell? ⟨w.heap.size,0,none⟩=some (.int .i64 m.num)∧W.cell? ⟨w.heap.size,36,none⟩=some (.slice a m.parts.length c)):=zz0 (fun W k=>⟨mf_0 (zh k (ze w _)),mf_36 (zh k (ze w _)) h32⟩)
 have m36:=mf_36 (ze w (zq1 m (.slice a m.parts.length c))) h32;have KA:=zz0 ((za.refl zq2 w).alloc (zq1 m (.slice a m.parts.length c)));rw[hnum] at MB;clear hx ha hb d hdn hlay hS;unfold zq7;unfold zq1 at m36;unfold sv at LB GT
 go_enter Tryz.func242,Tryz.ntmps242
 go_wp2_with fail
 have K0:Hid (za zq2 w (w.alloc (zq1 m (.slice a m.parts.length c)))):=KA;obtain⟨w0,hw0⟩:∃w0,w0=w.alloc (zq1 m (.slice a m.parts.length c)):=⟨_,rfl⟩;rw[←hw0] at MB K0;unfold zq1 at hw0;rw[←hw0];clear KA m36 hw0
 go_loopw [14] (fun i wr=>∃j:Nat,j≤m.parts.length∧i = .int .i64 j∧za zq2 w0 wr) (fun i _=>m.parts.length-(intOf i).toNat)
 case atStart=>exact⟨0,by omega,rfl,za.refl _ _⟩
 case round =>
  obtain⟨j,hj,rfl,hk⟩:=hrel;have K:=zz0 hk;clear hk;by_cases hlt:j<m.parts.length
  ·have hlj:(j:Int)<(m.parts.length:Int):=by omega
   obtain⟨pt,hpj⟩:∃pt,m.parts[j]? = some pt:=⟨_,List.getElem?_eq_getElem hlt⟩;obtain⟨f,cl,rfl,f1,f2,hne,hcl,hokc,hfl⟩:=HS.out j pt hpj;obtain⟨a1,c1,e1,_,_,hx⟩:=PA.out.keepNon (K0.out.trans1 K.out);injection e1 with e1 e3 e4
   subst e1;subst e4;obtain⟨g,off,rfl,hcell⟩:=hx j _ hpj;have p5:(zaI f cl).sum.length=32:=zJ _;have hsl:=zeb hokc hcl (show f≤1048576 by omega)
   have hrl:=zfC hokc hcl (show f≤1048576 by omega)
   have MH:=zz0 (fun W v (k:za zq2 w W) (hb:Bs W v (zaC f cl)) (ho:okc v) (hv:∀g,v.ownBlock=some g→g<W.heap.size)=>zhB f v cl W hb ho hv hcl hokc hfl (by omega) (by omega) (LY.out.keepNon k).kon (LY.out.keepNon k).frs)
   have GTJ:=zz0 (fun W (k:za zq2 w W)=>GT.out W j k f cl f1 f2 (by omega) (by omega))
   have hlen:(zaC f cl).length≤6207:=hsl;generalize hpt:zaI f cl=pt at hcell p5 MH;generalize hsb:zaC f cl=sb at MH GTJ hlen;have hld:=load101 wr g (off+j*35) pt p5 hcell;have hsp:=zac wr pt p5;have kwp:za zq2 w (wr.alloc (zq4 pt)):=(K0.out.trans1 K.out).alloc _;have k0p:za zq2 w0 (wr.alloc (zq4 pt)):=K.out.alloc _;have v0:=VS.out _ kwp;have n0:=(MB.out _ k0p).1;have LBJ:=zz0 (LB.out (wr.alloc (zq4 pt)).drew j (by omega))
   have PL:Hid (∀W,za zq2 (wr.alloc (zq4 pt)) W→(zZ 125 ⟨wr.heap.size,0,none⟩).run Tryz.prog W = .ok (ptV pt) W):=zz0 (fun W k=>zaB (zh k (ze wr (zq4 pt))) p5)
   have KWP:=zz0 kwp;clear hx hpj hne hcl hokc hfl hsl hrl f1 f2 p5 kwp k0p hpt hsb;dsimp only[zrb,zq4] at hsp;dsimp only[zq4] at v0 n0 LBJ
   go_wp2_with fail
   have kpd:za zq2 (wr.alloc (zq4 pt)) (wr.alloc (zq4 pt)).drew:=(za.refl _ _).drew;have KPD:=zz0 kpd;clear kpd
   go_region_law(go_simp;first
    |(go_at_call 240;refine LBJ.out.mono ?_;rintro r w2 ⟨rfl,k2⟩;have k2':=KPD.out.trans1 k2;have v2:=VS.out _ (KWP.out.trans1 k2');have GTW:=zz0 (GTJ.out w2 (KWP.out.trans1 k2'));have K2:=zz0 k2';clear k2 k2')
    |(go_at_call 48;refine GTW.out.mono ?_;rintro r w3 ⟨v3,rfl,k3,o3⟩;obtain⟨a3,c3,rfl,_,_⟩:=zb o3;have k3':=K2.out.trans1 k3;have hl3:=PL.out _ k3';have MHW:=zz0 (MH.out w3 _ (KWP.out.trans1 k3') (Rd.ofOwns o3) (zdA o3) (fun g e=>(o3.lt g e).2));have K3:=zz0 (KWP.out.trans1 k3');have K3':=zz0 k3';clear k3 o3 k3'))
   all_goals go_wp2_with(go_at_call 256;refine MHW.out.mono ?_;rintro r w4 ⟨v4,rfl,k4,xs,o4,_⟩;obtain⟨a4,c4,rfl,_,_⟩:=zb o4;have K4:=zz0 k4;clear k4 o4)
   all_goals exact⟨⟨j+1,by omega,by first|rfl|go_num,((K.out.alloc _).trans1 (K3'.out.trans1 K4.out)).alloc _⟩,by simp[intOf];omega⟩
  ·obtain rfl:j=m.parts.length:=by omega
   go_wp2_with fail
   go_ret;exact⟨rfl,K0.out.trans1 K.out⟩
end
end Go.Proofs.YtpojgmeoaflmoaaGreatDoor
namespace Go.Proofs.YtpojgmeoaflmoaaGreatDoor
open Go.RowKit
theorem znp {w:World}{b g c n:Nat}{D:List UInt8}(h3:D.length=32)(hb:w.heap[b]? = some (.cells zq9 51 (0,0)))(o:w.ownsRow n 5 1 (.slice (some ⟨g,0,none⟩) 32 c) 32 (D.map bv)) :
 (Builtin.copy_ #[43,43] 3 #[.slice (some ⟨b,0,none⟩) 32 32,.slice (some ⟨g,0,none⟩) 32 c]).run Tryz.prog w = .ok (.int .i64 32) (w.setRow b (D.map bv).toArray):=by
 have hr:=Rd.ofOwns o;have h:=zbQ (P:=Tryz.prog) w 43 43 3 5 1 b 0 32 32 ⟨g,0,none⟩ 32 c zq9 51 (D.map bv) Tryz.underlying43 zlS hb (by rw[List.length_map,h3];rfl)
  (by
    obtain⟨a,c',e,hx⟩:=hr;injection e with e1 e2 e3
    obtain⟨g',off,e4,hc⟩:=hx (by intro e;have:=congrArg List.length e;rw[List.length_map,h3] at this;cases this)
    rw[←e1] at e4;injection e4 with e4
    injection e4 with e4 e5
    subst e4;subst e5;intro j v hv;rw[zag];exact hc j v hv)
  (by rw[List.length_map,h3];decide) (zy _)
 rw[h];have e:zq9.toList.take 0++D.map bv++zq9.toList.drop (0+(D.map bv).length)=D.map bv:=by
  have hd:zq9.toList.drop (0+32) = []:=by rfl
  rw[List.length_map,h3,hd,List.append_nil]
  rfl
 rw[e]
 rfl
section
attribute [local go_sem ↓] zbB zU zbC zbD zV zbE zab zbK
theorem zl2 (F:Nat→Prop)(q:Nat)(D r:List UInt8)(w:World)(h:zbf F w q (D++r))(h3:D.length=32)(hF:∀g,F g→g<w.heap.size) :
 Calls Tryz.prog 99 #[.pointer (some ⟨q,0,none⟩)] w fun e w'=>e = .returned (zbY D)∧za (zq3 q) w w'∧zbf F w' q r:=by
 have hq:q<w.heap.size:=by obtain⟨_,q1,_⟩:=h;exact lt_of_block q1
 have H:=zz0 h;have HF:=zz0 hF;clear h hF
 go_enter Tryz.func99,Tryz.ntmps99
 go_wp2_with fail
 have kA:za zq2 w ((w.alloc (.cells zq9 51)).alloc (.cells zq9 51)):=((za.refl _ _).alloc _).alloc _;have gA:((w.alloc (.cells zq9 51)).alloc (.cells zq9 51)).heap[w.heap.size]? = some (.cells zq9 51 (0,0)):=zi (ze w _) _;have zA:((w.alloc (.cells zq9 51)).alloc (.cells zq9 51)).heap[w.heap.size+1]? = some (.cells zq9 51 (0,0)):=zaa _ _ _;have sA:w.heap.size+2=((w.alloc (.cells zq9 51)).alloc (.cells zq9 51)).heap.size:=by simp
 obtain⟨wA,hwA⟩:∃wA,wA=((w.alloc (.cells zq9 51)).alloc (.cells zq9 51)):=⟨_,rfl⟩;rw[←hwA] at kA gA zA sA;unfold zq9 at hwA;rw[←hwA];clear hwA;have FX:=zz0 (zgy F q D r wA.drew (H.out.keep kA.drew (fun _ _ e=>e)) (by rw[h3];omega))
 rw[h3] at FX;have KA:=zz0 kA;have GA:=zz0 gA;have ZA:=zz0 zA;clear kA gA zA
 go_region_law(go_simp;go_at_call 154;refine FX.out.mono ?_;rintro e w5 ⟨v5,rfl,k5',r5,o5⟩;obtain⟨g5,c5,rfl,_,y5,_⟩:=zcd o5 (by omega);have k5:za (zq3 q) wA w5:=((za.refl zq2 wA).drew).ofNon.trans1 k5';have z5:=zL k5 ZA.out (by omega);have g5':=zL k5 GA.out (by omega);have hcp:=znp h3 z5 o5;have hlp:=zdh (w:=w5.setRow (w.heap.size+1) (D.map bv).toArray) (setRow_heap _ _ _ _ _ _ z5) h3;have kS:za (zq3 (w.heap.size+1)) w5 (w5.setRow (w.heap.size+1) (D.map bv).toArray):=(za.refl (zq3 (w.heap.size+1)) _).setRow (.inl (zK _)) _;have g6:=zL kS g5' (by omega);have hsp:=zc7 (w5.setRow (w.heap.size+1) (D.map bv).toArray) w.heap.size D zq9 h3 rfl g6;have Q4:=zz0 (zdh (setRow_heap _ _ _ (D.map bv).toArray _ _ g6) h3);have kT:za (zq3 w.heap.size) (w5.setRow (w.heap.size+1) (D.map bv).toArray) ((w5.setRow (w.heap.size+1) (D.map bv).toArray).setRow w.heap.size (D.map bv).toArray):=(za.refl (zq3 w.heap.size) _).setRow (.inl (zK _)) _;have Q5:Hid (za (zq3 q) w ((w5.setRow (w.heap.size+1) (D.map bv).toArray).setRow w.heap.size (D.map bv).toArray)):=zz0 (((KA.out.ofNon.trans1 k5).trans kS (fun _ _ e=>e) (fun g hg e=>by have e':g=w.heap.size+1:=e;omega)).trans kT (fun _ _ e=>e) (fun g hg e=>by have e':g=w.heap.size:=e;omega));have Q6:Hid (zbf F ((w5.setRow (w.heap.size+1) (D.map bv).toArray).setRow w.heap.size (D.map bv).toArray) q r):=zz0 ((r5.keep kS (fun g hg e=>by have e':g=w.heap.size+1:=e;have:=HF.out g hg;omega)).keep kT (fun g hg e=>by have e':g=w.heap.size:=e;have:=HF.out g hg;omega));clear k5' k5 r5 o5 y5 z5 g5' g6 kS kT)
 go_wp2_with fail
 have hlv:=Q4.out;unfold zZ at hlv;refine bodyPost_ret (v:=zbY D) (by simp[results,Tryz.results99,asAddr,hlv]) rfl ?_
 exact⟨rfl,Q5.out,Q6.out⟩
theorem znZ (F:Nat→Prop)(q:Nat)(p:Pt)(r:List UInt8)(w:World)(h:zbf F w q (zo p.many++(zo p.size++(p.sum++r))))(h1:p.many≤64)(h2:p.size≤65536)(h3:p.sum.length=32)(hF:∀g,F g→g<w.heap.size) :
 Calls Tryz.prog 102 #[.pointer (some ⟨q,0,none⟩),.int .i64 p.first] w fun e w'=>e = .returned (ptV p)∧za (zq3 q) w w'∧zbf F w' q r:=by
 have hq:q<w.heap.size:=by obtain⟨_,q1,_⟩:=h;exact lt_of_block q1
 have B0:=zz0 (ze w (.cells zrb 125 (0,0)));have K0:Hid (za zq2 w (w.alloc (.cells zrb 125))):=zz0 ((za.refl _ _).alloc _);have Z0:Hid ((w.alloc (.cells zrb 125)).heap.size=w.heap.size+1):=zz0 (by simp)
 have W1':Calls Tryz.prog 98 #[.pointer (some ⟨q,0,none⟩),.int .u64 64] (w.alloc (.cells zrb 125)) fun e w'=>e = .returned (.int .i64 p.many)∧za (zq3 q) (w.alloc (.cells zrb 125)) w'∧zbf F w' q (zo p.size++(p.sum++r)):=zaz F q p.many 64 _ _ (h.keep K0.out (fun _ _ e=>e)) h1 (by omega)
 have W2':∀W1,zbf F W1 q (zo p.size++(p.sum++r))→Calls Tryz.prog 98 #[.pointer (some ⟨q,0,none⟩),.int .u64 65536] W1 fun e w'=>e = .returned (.int .i64 p.size)∧za (zq3 q) W1 w'∧zbf F w' q (p.sum++r):=fun W1 x=>zaz F q p.size 65536 _ W1 x h2 (by omega)
 dsimp only[zrb] at W1';have W1:=zz0 W1';have W2:=zz0 W2';clear W1' W2';have W3:=zz0 (fun W2 (x:zbf F W2 q (p.sum++r)) (y:∀g,F g→g<W2.heap.size)=>zl2 F q p.sum r W2 x h3 y)
 have hbu:∀W:World,(holdB 125 #[(0,.int .i64 p.first),(1,.int .i64 p.many),(2,.int .i64 p.size),(3,zbY p.sum)]).run Tryz.prog W = .ok (ptV p) W:=fun W=>zi6 p.first p.many p.size p.sum h3 W
 have HF:=zz0 hF;clear h hF
 go_enter Tryz.func102,Tryz.ntmps102
 go_wp2_with(first
  |(go_at_call 98;first
   |((with_reducible refine W1.out.mono ?_);rintro e w1 ⟨rfl,k1,r1⟩;have K1:Hid (za (zq3 q) (w.alloc (.cells zrb 125)) w1):=zz0 k1;have R1:=zz0 r1;clear k1 r1)
   |((with_reducible refine(W2.out _ R1.out).mono ?_);rintro e w2 ⟨rfl,k2,r2⟩;have K2:=zz0 (K1.out.trans1 k2);have R2:=zz0 r2;clear k2 r2))
  |(go_at_call 99;refine(W3.out _ R2.out (fun g e=>by have:=HF.out g e;have:=K2.out.size;have:=Z0.out;omega)).mono ?_;rintro e w3 ⟨rfl,k3,r3⟩;have k3':=K2.out.trans1 k3;have b3:=zL k3' B0.out (by omega);have hst:=zbR w3 w.heap.size p zrb h3 rfl b3;have Q4:=zz0 (zaB (setRow_heap _ _ _ (zq8 p).toArray _ _ b3) h3);have kS:za (zq3 w.heap.size) w3 (w3.setRow w.heap.size (zq8 p).toArray):=(za.refl (zq3 w.heap.size) _).setRow (.inl (zK _)) _;have Q5:Hid (za (zq3 q) w (w3.setRow w.heap.size (zq8 p).toArray)):=zz0 ((K0.out.ofNon.trans1 k3').trans kS (fun _ _ e=>e) (fun g hg e=>by have e':g=w.heap.size:=e;omega));have Q6:Hid (zbf F (w3.setRow w.heap.size (zq8 p).toArray) q r):=zz0 (r3.keep kS (fun g hg e=>by have e':g=w.heap.size:=e;have:=HF.out g hg;omega));clear k3 k3' r3 b3 kS))
 have hlv:=Q4.out;unfold zZ at hlv;refine bodyPost_ret (v:=ptV p) (by simp[results,Tryz.results102,asAddr,hlv]) rfl ?_
 exact⟨rfl,Q5.out,Q6.out⟩
end
end Go.Proofs.YtpojgmeoaflmoaaGreatDoor
namespace Go.Proofs.YtpojgmeoaflmoaaGreatDoor
open Go.RowKit Go.Maps
theorem znk (num lo hi trim:Nat)(D:List UInt8)(h:D.length=32)(ps:List Pt)(w:World):(holdB 54 #[(0,.int .i64 num),(1,.int .i64 lo),(2,.int .i64 hi),(3,.int .i64 trim),(4,zbY D)]).run Tryz.prog w = .ok (zq7 ⟨num,lo,hi,trim,D,ps⟩ (.slice none 0 0)) w:=by
 obtain⟨d0,d1,d2,d3,d4,d5,d6,d7,d8,d9,d10,d11,d12,d13,d14,d15,d16,d17,d18,d19,d20,d21,d22,d23,d24,d25,d26,d27,d28,d29,d30,d31,rfl⟩:=list32 D h;exact run_build w 54 _ _ (by kernel_rfl)
def zMfB:Obj:=.cells zra 54 (0,0)
structure MtLp (F:Nat→Prop)(W5:World)(q rb b4:Nat)(m:Mf)(j:Nat)(ov:Value)(W:World):Prop where
 rs:W.heap[rb]? = some zMfB
 bx:W.heap[b4]? = some (zq1 m ov)
 row:W.ownsRow W5.heap.size 125 35 ov j (zaP (m.parts.take j))
 rd:zbf F W q (za6 (m.parts.drop j))
 kp:za (fun g=>g=q∨g=b4) W5 W
theorem zpI {F:Nat→Prop}{W5 wr w6 w9:World}{q rb b4 j oc:Nat}{oa:Option Addr}{m:Mf}{p:Pt}{v3:Value}(hpr:m.prev.length=32)(h:MtLp F W5 q rb b4 m j (.slice oa j oc) wr)(hF:∀g,F g→g<W5.heap.size∧g≠b4)(hne:q≠rb∧q≠b4∧rb≠b4∧q<W5.heap.size∧rb<W5.heap.size∧b4<W5.heap.size)(hp:m.parts[j]? = some p)(k6:za (zq3 q) wr w6)(r6:zbf F w6 q (za6 (m.parts.drop (j+1))))
 (ho:w9.ownsRow W5.heap.size 125 35 v3 (j+1) (zaP (m.parts.take j)++zq8 p)) (hg:((w6.alloc (zq4 p)).alloc (zq4 p)).grownBy w9 (Value.slice oa j oc).ownBlock) :
 MtLp F W5 q rb b4 m (j+1) v3 (w9.setCell ⟨b4,36,none⟩ v3)∧w9.heap[b4]? = some (zq1 m (.slice oa j oc)):=by
 have ka:za zq2 w6 ((w6.alloc (zq4 p)).alloc (zq4 p)):=((za.refl _ _).alloc _).alloc _;have kg:za (fun g=>(Value.slice oa j oc).ownBlock=some g) ((w6.alloc (zq4 p)).alloc (zq4 p)) w9:=(za.refl _ _).grown hg (fun k e=>.inl e)
 have kb:za (zq3 b4) w9 (w9.setCell ⟨b4,36,none⟩ v3):=(za.refl _ _).setOne _ _;have lo:∀g,(Value.slice oa j oc).ownBlock=some g→W5.heap.size≤g:=fun g e=>(h.row.lt g e).1
 have at9:∀{g:Nat} {o:Obj},g<W5.heap.size→g≠q→wr.heap[g]? = some o→w9.heap[g]? = some o:=fun hg' hq ho=>kg.at (zh ka (zL k6 ho hq)) (fun e=>by have:=lo _ e;omega)
 have b9:=at9 hne.2.2.2.2.2 (fun e=>hne.2.1 e.symm) h.bx
 have s5:=h.kp.size;have s6:=k6.size;refine⟨⟨kb.at (at9 hne.2.2.2.2.1 (fun e=>hne.1 e.symm) h.rs) (fun e=>hne.2.2.1 e),zjt b9 hpr v3,?_,?_,?_⟩,b9⟩
 ·have e1:zaP (m.parts.take (j+1))=zaP (m.parts.take j)++zq8 p:=by
   rw[List.take_add_one,hp];simp[zaP]
  rw[e1];exact zc ho kb (fun g e e2=>by have e':g=b4:=e2;have:=(ho.lt g e).1;omega)
 ·exact((r6.keep ka (fun _ _ e=>e)).keep kg (fun g x e=>by have:=lo g e;have:=(hF g x).1;omega)).keep kb (fun g x e=>(hF g x).2 e)
 ·refine((h.kp.trans k6 (fun _ _ x=>x) (fun g _ x=>.inl x)).trans1 ka.ofNon).trans (kg.trans kb (U:=fun g=>(Value.slice oa j oc).ownBlock=some g∨g=b4) (fun _ _ x=>.inl x) (fun _ _ x=>.inr x)) (fun _ _ x=>x) (fun g hg' x=>?_)
  rcases x with x|x
  ·have:=lo g x;omega
  ·exact .inr x
section
attribute [local go_sem ↓] zbB zU zbC zbD zV zbE zab zbK hBS52
theorem zn1 (v:Value)(m:Mf)(w:World)(h:Bs w v (zb2 m))(hc:okc v)(hv:∀g,v.ownBlock=some g→g<w.heap.size)(ok:okMf m)(h64:m.parts.length≤64)(hl:(mfT m).length≤65536) :
 Calls Tryz.prog 50 #[v] w fun e w'=>∃v',e = .returned (.tuple #[zq7 m v',.nilIface])∧za zq2 w w'∧w'.ownsRow w.heap.size 125 35 v' m.parts.length (zaP m.parts):=by
 have FO:=zz0 (fun w1 (k:za zq2 w w1)=>zio v (mfT m) w1 (h.keepNon k) hc hl (fun g e=>k.lt (hv g e)))
 obtain⟨a,k,rfl,_⟩:=zY h;clear h hc hv;have B0:Hid ((w.alloc (.cells zra 54)).heap[w.heap.size]? = some zMfB):=zz0 (ze w zMfB);have K0:Hid (za zq2 w (w.alloc (.cells zra 54))):=zz0 ((za.refl _ _).alloc _);have hpr:=ok.prev;have hb1:=ok.num;have hb2:=ok.hi;have hb3:=ok.trim;have hb4:=(zaq m.parts m.lo 0).2;rw[ok.stop] at hb4;simp only[List.take_zero,zp] at hb4;have hT:mfT m=zo m.num++(zo m.lo++(zo m.hi++(zo m.trim++(m.prev++(zo m.parts.length++za6 m.parts))))):=by simp[mfT,List.append_assoc]
 have HT:=zz0 hT;have hbu:=fun(W:World)=>znk m.num m.lo m.hi m.trim m.prev hpr m.parts W
 have OK:=zz0 ok;clear ok hT;have FK0:=zz0 (FO.out _ K0.out);dsimp only[zra] at FK0
 go_enter Tryz.func50,Tryz.ntmps50
 go_wp2_with(first
  |(go_at_call 96;refine FK0.out.mono ?_;rintro e w1 ⟨k1',v1,rfl,n1⟩;have k1:za zq2 (w.alloc (.cells zra 54)) w1:=k1';obtain⟨b1,b2,b3⟩:=n1;have K1:=zz0 (K0.out.trans1 k1);have G1:=zz0 (zh k1 B0.out);have Z1:Hid (w.heap.size+1≤w1.heap.size):=zz0 (by have:=k1.size;simpa using this);have B1:=zz0 b1;have B2:=zz0 b2;have B3:Hid (∀g,v1.ownBlock=some g→w.heap.size<g∧g<w1.heap.size):=zz0 (fun g e=>⟨by have:=(b3 g e).1;simp at this;omega,(b3 g e).2⟩);clear k1 k1' b1 b2 b3)
  |(go_at_call 97;refine(ziL (fun g=>w.heap.size<g∧g<w1.heap.size) v1 (mfT m) w1 B1.out B2.out (fun g e=>⟨(B3.out g e).2,B3.out g e⟩)).mono ?_;rintro e w2 ⟨rfl,k2,r2⟩;have K2:=zz0 (K1.out.trans1 k2);have G2:=zz0 (zh k2 G1.out);have Z2:Hid (w1.heap.size<w2.heap.size):=zz0 (by obtain⟨_,q,_⟩:=r2;exact lt_of_block q);have r2':=r2;rw[HT.out] at r2'
    have HF2:Hid (∀g,((w.heap.size<g∧g<w1.heap.size)∨g=w1.heap.size)→g<w2.heap.size):=zz0 (fun g x=>by have:=Z2.out;rcases x with x|x<;>omega)
    have N1:Hid (Calls Tryz.prog 98 #[.pointer (some ⟨w1.heap.size,0,none⟩),.int .u64 999999] w2 fun e w'=>e = .returned (.int .i64 m.num)∧za (zq3 w1.heap.size) w2 w'∧zbf (fun g=>(w.heap.size<g∧g<w1.heap.size)∨g=w1.heap.size) w' w1.heap.size (zo m.lo++(zo m.hi++(zo m.trim++(m.prev++(zo m.parts.length++za6 m.parts)))))):=zz0 (zaz _ _ m.num 999999 _ w2 r2' hb1 (by omega))
    clear k2 r2 r2')
  |(go_at_call 98;first
   |((with_reducible refine N1.out.mono ?_);rintro e w3 ⟨rfl,k3,r3⟩;have K3:=zz0 k3;have N2:Hid (Calls Tryz.prog 98 #[.pointer (some ⟨w1.heap.size,0,none⟩),.int .u64 1048576] w3 fun e w'=>e = .returned (.int .i64 m.lo)∧za (zq3 w1.heap.size) w3 w'∧zbf (fun g=>(w.heap.size<g∧g<w1.heap.size)∨g=w1.heap.size) w' w1.heap.size (zo m.hi++(zo m.trim++(m.prev++(zo m.parts.length++za6 m.parts))))):=zz0 (zaz _ _ m.lo 1048576 _ w3 r3 (by omega) (by omega));clear k3 r3)
   |((with_reducible refine N2.out.mono ?_);rintro e w4 ⟨rfl,k4,r4⟩;have K4:=zz0 (K3.out.trans1 k4);have N3:Hid (Calls Tryz.prog 98 #[.pointer (some ⟨w1.heap.size,0,none⟩),.int .u64 1048576] w4 fun e w'=>e = .returned (.int .i64 m.hi)∧za (zq3 w1.heap.size) w4 w'∧zbf (fun g=>(w.heap.size<g∧g<w1.heap.size)∨g=w1.heap.size) w' w1.heap.size (zo m.trim++(m.prev++(zo m.parts.length++za6 m.parts)))):=zz0 (zaz _ _ m.hi 1048576 _ w4 r4 (by omega) (by omega));clear k4 r4)
   |((with_reducible refine N3.out.mono ?_);rintro e w5 ⟨rfl,k5,r5⟩;have K5:=zz0 (K4.out.trans1 k5);have N4:Hid (Calls Tryz.prog 98 #[.pointer (some ⟨w1.heap.size,0,none⟩),.int .u64 1048576] w5 fun e w'=>e = .returned (.int .i64 m.trim)∧za (zq3 w1.heap.size) w5 w'∧zbf (fun g=>(w.heap.size<g∧g<w1.heap.size)∨g=w1.heap.size) w' w1.heap.size (m.prev++(zo m.parts.length++za6 m.parts))):=zz0 (zaz _ _ m.trim 1048576 _ w5 r5 (by omega) (by omega));clear k5 r5)
   |((with_reducible refine N4.out.mono ?_);rintro e w6 ⟨rfl,k6,r6⟩;have K6:=zz0 (K5.out.trans1 k6);have N5:Hid (Calls Tryz.prog 99 #[.pointer (some ⟨w1.heap.size,0,none⟩)] w6 fun e w'=>e = .returned (zbY m.prev)∧za (zq3 w1.heap.size) w6 w'∧zbf (fun g=>(w.heap.size<g∧g<w1.heap.size)∨g=w1.heap.size) w' w1.heap.size (zo m.parts.length++za6 m.parts)):=zz0 (zl2 _ _ m.prev _ w6 r6 hpr (fun g x=>by have:=HF2.out g x;have:=K6.out.size;omega));clear k6 r6))
  |(go_at_call 99;refine N5.out.mono ?_;rintro e w7 ⟨rfl,k7,r7⟩;have K7:=zz0 (K6.out.trans1 k7);have R7:=zz0 r7;have hst:=zaZ w7 m none 0 0 hpr;dsimp only[zra] at hst
    have ka:za zq2 w7 (w7.alloc (zq1 m (.slice none 0 0))):=(za.refl _ _).alloc _;have KA:=zz0 (K7.out.trans1 ka.ofNon);have BA:=zz0 (ze w7 (zq1 m (.slice none 0 0)));have NB:=zz0 (zei _ w1.heap.size m.parts.length (za6 m.parts) (w7.alloc (zq1 m (.slice none 0 0))) (r7.keep ka (fun _ _ e=>e)) (by omega));clear k7 r7 ka)
  |(go_at_call 100;refine NB.out.mono ?_;rintro e w8 ⟨rfl,k8,r8⟩;have K8:=zz0 (KA.out.trans1 k8);have R8:=zz0 r8;have b8:=zL k8 BA.out (by have:=K7.out.size;have:=Z2.out;omega);have e81:=mf_1 b8;have B8:=zz0 b8;have hmany:¬(1024:Int)<(m.parts.length:Int):=(by omega);have G8:=zz0 (zL K8.out G2.out (by have:=Z1.out;omega));clear k8 r8 b8))
 obtain⟨i0,hi0,hz0,hz1,hz2⟩:=info_parts infoPt;have I0:=zz0 (And.intro hi0 (And.intro hz0 (And.intro hz1 hz2)));clear hi0 hz0 hz1 hz2 N1 N2 N3 N4 N5 FK0 FO NB hbu hst;have NE:Hid (w1.heap.size≠w.heap.size∧w1.heap.size≠w7.heap.size∧w.heap.size≠w7.heap.size∧w1.heap.size<w8.heap.size∧w.heap.size<w8.heap.size∧w7.heap.size<w8.heap.size):=zz0 (by
  have z1:=Z1.out;have z2:=Z2.out;have z3:=K7.out.size;have z4:=K8.out.size;have z7:=lt_of_block B8.out;refine⟨?_,?_,?_,?_,?_,?_⟩<;>omega)
 have HFF:Hid (∀g,((w.heap.size<g∧g<w1.heap.size)∨g=w1.heap.size)→g<w8.heap.size∧g≠w7.heap.size):=zz0 (fun g x=>by have:=NE.out;have:=K7.out.size;have:=Z2.out;rcases x with x|x<;>constructor<;>omega)
 have L0:Hid (MtLp (fun g=>(w.heap.size<g∧g<w1.heap.size)∨g=w1.heap.size) w8 w1.heap.size w.heap.size w7.heap.size m 0 (.slice none 0 0) w8):=zz0 ⟨G8.out,B8.out,by simpa [zaP] using World.ownsRow_nil _ _ _ _,R8.out,za.refl _ _⟩
 clear e81
 go_loopw [9,46] (fun at_ i wr=>∃j:Nat,j≤m.parts.length∧i = .int .u64 j∧at_ = .int .i64 (zp m.lo (m.parts.take j))∧∃ov,MtLp (fun g=>(w.heap.size<g∧g<w1.heap.size)∨g=w1.heap.size) w8 w1.heap.size w.heap.size w7.heap.size m j ov wr) (fun _ i _=>m.parts.length-(intOf i).toNat)
 case atStart=>exact⟨0,by omega,rfl,rfl,_,L0.out⟩
 case round =>
  obtain⟨j,hj,rfl,rfl,ov,lp⟩:=hrel;obtain⟨oa,oc,rfl,_,_⟩:=zb lp.row;have LP:=zz0 lp;clear lp;by_cases hlt:j<m.parts.length
  ·have hlj:(j:Int)<(m.parts.length:Int):=by omega
   obtain⟨p,hpj⟩:∃p,m.parts[j]? = some p:=⟨_,List.getElem?_eq_getElem hlt⟩;obtain⟨⟨p1,p2,p3,p4,p5⟩,p6⟩:=zay m.parts m.lo j p OK.out.parts hpj;have hst:=za2 m.parts m.lo j p hpj;have hle:=(zaq m.parts m.lo (j+1)).2;rw[OK.out.stop,hst] at hle;have hdrop:za6 (m.parts.drop j)=zo p.many++(zo p.size++(p.sum++za6 (m.parts.drop (j+1)))):=by
    have e1:m.parts.drop j=p::m.parts.drop (j+1):=by
     rw[List.drop_eq_getElem_cons hlt];rw[List.getElem?_eq_getElem hlt] at hpj;injection hpj with hpj
     rw[hpj]
    rw[e1];simp[za6,List.append_assoc]
   have rdj:=LP.out.rd;rw[hdrop] at rdj;have TP:=zz0 (znZ _ w1.heap.size p (za6 (m.parts.drop (j+1))) wr rdj p2 p4 p5 (fun g x=>by have:=(HFF.out g x).1;have:=LP.out.kp.size;omega))
   rw[p6] at TP;have HPJ:=zz0 hpj;have ST:=zz0 hst;have q1:=ptc_1 p;clear rdj hdrop hpj p6 hst;unfold ptV at TP
   go_wp2_with(first
    |(go_at_call 102;refine TP.out.mono ?_;rintro e wp ⟨rfl,kp',rp⟩;have hsp:=zac wp p p5;have hlp:=zaB (ze wp (zq4 p)) p5;have hbu:=zeL p p5 (wp.alloc (zq4 p));have z1:=pt_1 (ze wp (zq4 p));have b7:=zh ((za.refl zq2 wp).alloc (zq4 p)) (zL kp' LP.out.bx (fun e=>NE.out.2.1 e.symm));have z4:=mf_36 b7 hpr;have b8:=zh ((za.refl zq2 (wp.alloc (zq4 p))).alloc (zq4 p)) b7;have z4':=mf_36 b8 hpr;have KP:=zz0 kp';have RP:=zz0 rp;have BB:=zz0 (zaa wp (zq4 p) (zq4 p));have O8:=zz0 (zc LP.out.row (kp'.trans1 (((za.refl zq2 wp).alloc (zq4 p)).alloc (zq4 p)).ofNon) (fun g e e2=>by have e':g=w1.heap.size:=e2;have:=(LP.out.row.lt g e).1;have:=NE.out;omega));clear kp' rp b7 b8;unfold ptV at hsp hlp hbu;dsimp only[zrb,zq4] at hsp hlp hbu z1 z4 z4')
    |(at_builtin;refine zv rfl _ _ 52 rfl w8.heap.size 125 i0 (.agg zrb) 35 56 Tryz.underlying52 I0.out.1 I0.out.2.1 I0.out.2.2.1 I0.out.2.2.2 rfl (by decide) (.slice oa j oc) j (zaP (m.parts.take j)) rfl O8.out ⟨wp.heap.size+1,0,none⟩ 1 1 (zq8 p) rfl (by rw[zbc p5]) (by exact zey BB.out) (zex p) (by unfold maxLen;omega) (by omega) (by have:=(LP.out.kp.size);have:=KP.out.size;simp;omega) ?_;intro v3 w9 ho hg hpp;obtain⟨a3,c3,rfl,_,_⟩:=zb ho;obtain⟨nx,b9⟩:=zpI hpr LP.out HFF.out NE.out HPJ.out KP.out RP.out ho hg;have f4:=mf_f b9 36;have g4:=mf_36 b9 hpr;have NX:=zz0 nx;clear ho hg hpp nx b9))
   exact⟨⟨j+1,by omega,by first|rfl|go_num,(by rw[ST.out];first|rfl|go_num|(congr 1;omega)),_,NX.out⟩,by simp[intOf];omega⟩
  ·obtain rfl:j=m.parts.length:=by omega
   have hd0:za6 (m.parts.drop m.parts.length) = []:=by rw[List.drop_length];rfl
   have rdj:=LP.out.rd;rw[hd0] at rdj;have EN:=zz0 (zlw _ w1.heap.size wr rdj);have row:=LP.out.row;rw[List.take_length] at row;have ROW:=zz0 row;have P32:zbI m.parts:=fun p hp=>by
    obtain⟨i,hi,rfl⟩:=List.getElem_of_mem hp;exact(zay m.parts m.lo i _ OK.out.parts (List.getElem?_eq_getElem hi)).1.2.2.2.2
   have CK:=zz0 (zcr m (.slice oa m.parts.length oc) wr OK.out (zC.of row P32));have hlm:=zO LP.out.bx hpr;clear rdj hd0 row P32
   go_wp2_with(first
    |(go_at_call 103;refine EN.out.mono ?_;rintro e we ⟨rfl,e2⟩;subst e2)
    |(go_at_call 104;refine CK.out.mono ?_;rintro e w9 ⟨rfl,k9⟩;have z9:w9.heap[w.heap.size]? = some (.cells zra 54 (0,0)):=zh k9 LP.out.rs;have l9:=zh k9 LP.out.bx;have hl9:=zO l9 hpr;have hs9:=zax w9 w.heap.size m oa m.parts.length oc zra hpr rfl z9;have Z9:=zz0 z9;have K9:=zz0 k9;clear k9 z9 l9))
   have hlv:=zO (w:=w9.setRow w.heap.size (zq6 m (.slice oa m.parts.length oc)).toArray) (setRow_heap _ _ _ (zq6 m (.slice oa m.parts.length oc)).toArray _ _ Z9.out) hpr;unfold zZ at hlv;refine bodyPost_ret (v:=.tuple #[zq7 m (.slice oa m.parts.length oc),.nilIface]) (by simp[results,Tryz.results50,asAddr,hlv]) rfl ?_
   have z1:=Z1.out;have z2:=Z2.out;have z3:=K7.out.size;have z8:=K8.out.size;have kf:za (zq3 w.heap.size) w9 (w9.setRow w.heap.size (zq6 m (.slice oa m.parts.length oc)).toArray):=(za.refl (zq3 w.heap.size) _).setRow (.inl (zK _)) _;have k0:za zq2 w w8:=K2.out.trans K8.out (fun _ _ e=>e) (fun g hg e=>by have e':g=w1.heap.size:=e;omega)
   have ne:=NE.out;have s2:=K2.out.size;have k1:za zq2 w w9:=k0.trans (LP.out.kp.trans1 K9.out.ofNon) (fun _ _ e=>e) (fun g hg e=>by rcases e with e|e<;>omega)
   have o9:=zc ROW.out K9.out (fun _ _ e=>e)
   exact⟨_,rfl,k1.trans kf (fun _ _ e=>e) (fun g hg e=>by have e':g=w.heap.size:=e;omega),zg (zc o9 kf (fun g hg e=>by have e':g=w.heap.size:=e;have:=(o9.lt g hg).1;omega)) (by omega)⟩
end
section
attribute [local go_sem ↓] zbB zU zbC zbD zV zbE zab zbK
end
end Go.Proofs.YtpojgmeoaflmoaaGreatDoor
