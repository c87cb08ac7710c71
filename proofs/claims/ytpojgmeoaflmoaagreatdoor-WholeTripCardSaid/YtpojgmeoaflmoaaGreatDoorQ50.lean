/- holdfasttop.exported with fuses: walked. -/
import Derived.Test.YtpojgmeoaflmoaaGreatDoorQ48
import Derived.Test.YtpojgmeoaflmoaaGreatDoorQ49
set_option linter.unusedVariables false
set_option maxRecDepth 100000
set_option maxHeartbeats 16000000
namespace Go.Proofs.YtpojgmeoaflmoaaGreatDoor
open Go.RowKit Go.Maps
theorem VsSt.to {F FL T:Nat→Prop}{w w':World}{b lb q p:Nat}{lv:Value}{ms:List Mf}{X Z:Dk}{L:Lg}(h:VsSt F FL T w b lb q p lv ms X L)(t:zn F w q p Z w'):∃F',zq5 F' F w∧za F w w'∧VsSt F' FL T w' b lb q p lv ms Z L:=by
 obtain⟨k,F',s,d⟩:=t;have hbw:b<w.heap.size:=lt_of_block h.vt;have hb10:=h.out.2.2.2;have d':=d.low;refine⟨fun g=>F' g∧g<w'.heap.size,fun g y=>s g y.1,k,⟨k.at h.vt h.out.1,h.ms.keep k (fun g y=>(h.apartT g y).1),d',h.lg.keep k (fun g y z=>h.apart g z y),h.lay.keep k (fun g y z=>by have:=(h.low g z).1;omega),⟨fun y=>?_,h.out.2.1,h.out.2.2.1,hb10⟩,fun g y z=>?_,fun g y=>⟨fun z=>?_,(h.apartT g y).2⟩,fun g y=>⟨?_,y.2⟩,fun g y=>k.lt (h.lowL g y),fun g y=>k.lt (h.lowT g y)⟩⟩
 ·rcases s b y.1 with u|u
  ·exact h.out.1 u
  ·omega
 ·rcases s g y.1 with u|u
  ·exact h.apart g u z
  ·have:=h.lowL g z;omega
 ·rcases s g z.1 with u|u
  ·exact(h.apartT g y).1 u
  ·have:=h.lowT g y;omega
 ·rcases s g y.1 with u|u
  ·exact(h.low g u).1
  ·omega
theorem VsSt.keepNon {F FL T:Nat→Prop}{w w':World}{b lb q p:Nat}{lv:Value}{ms:List Mf}{X:Dk}{L:Lg}(h:VsSt F FL T w b lb q p lv ms X L)(k:za zq2 w w'):VsSt F FL T w' b lb q p lv ms X L :=
 ⟨zh k h.vt,h.ms.keepNon k,h.st.keep k (fun _ _ e=>e),h.lg.keepNon k,h.lay.keepNon k,h.out,h.apart,h.apartT,fun g y=>⟨(h.low g y).1,k.lt (h.low g y).2⟩,fun g y=>k.lt (h.lowL g y),fun g y=>k.lt (h.lowT g y)⟩
theorem TRun.more {F FL T F1 F2 T1:Nat→Prop}{w w1 w2:World}{b b':Nat}(r:TRun F FL T w b w1 F1 T1 b')(s:zq5 F2 F1 w1)(k:za F1 w1 w2):TRun F FL T w b w2 F2 T1 b':=by
 refine⟨r.keep k (fun g y=>.inl y),fun g y=>?_,r.vb,r.tt⟩
 rcases s g y with u|u
 ·exact r.sub g u
 ·exact .inr (Nat.le_trans r.kp.size u)
def TLoop (F FL T:Nat→Prop)(w:World)(b lb p lo n tr k:Nat)(ms:List Mf)(C:Nat→Cl)(L:Lg)(v x i:Value)(wr:World):Prop :=
 ∃(j:Nat) (F' T':Nat→Prop) (b' q' x':Nat) (la:Option Addr) (lc:Nat) (c:Cu) (pv:Value) (X':Dk),j≤k∧i = .int .i64 j∧v = .pointer (some ⟨b',0,none⟩)∧x = .pointer (some ⟨x',0,none⟩)∧w.heap.size≤x'∧ExSt F' FL wr x' b' lb q' p (.slice la ms.length lc) c pv false X' L∧zai T' wr (.slice la ms.length lc) ms∧(∀g,T' g→¬F' g∧g≠b'∧g≠x'∧g<wr.heap.size)∧TF L C X'.shown ms c∧TDk X'∧X'.fuse<0∧(c.lo=lo∧c.hi=n∧c.trim=tr)∧TRun F FL T w b wr F' T' b'
theorem znI (x:Int):∃t:Nat,t≤29∧(IntKind.wrap .u64 x).tmod 30=t∧IntKind.wrap .i64 (t:Int)=t:=by
 have h0:0≤IntKind.wrap .u64 x:=by
  unfold IntKind.wrap
  first
   |exact Int.emod_nonneg _ (by decide)
   |(simp;omega)
 have h1:=Int.tmod_nonneg 30 h0;have h2:=Int.tmod_lt_of_pos (IntKind.wrap .u64 x) (show(0:Int)<30 by omega)
 exact⟨((IntKind.wrap .u64 x).tmod 30).toNat,by omega,by omega,IntWalk.i64_in _ (by omega)⟩
theorem zen {F FL T:Nat→Prop}{C:Nat→Cl}{b lb q p n lo t tr fc:Nat}{lv:Value}{fa:Option Addr}{fs:List Int}{ms:List Mf}{X:Dk}{L:Lg}(w:World)(h:VsSt F FL T w b lb q p lv ms X L)(hbk:TB C X.shown ms)(hba:TAll X.shown (inB ms))(ht:TDk X)(hfu:X.fuse<0)(h4:ms.length≤4)(hl:Log1 L)(hlow:∀s ∈ L.shs,s.l=t)(ht2:t≤200)(hlo:lo=zbr ms)(h3:∀a,lo≤a→a<n→(zbx L a).1=3→a<t)(htr:tr=max t (zT ms).trim)(h0:lo<n)(hn:n≤L.next)
 (hf:∀W,za (fun g=>F g∨g=b) w W→∀(j:Nat) x,fs[j]? = some x→∃g off,fa=some ⟨g,off,none⟩∧W.cell? ⟨g,off+j,none⟩=some (.int .i64 x)) (hfl:fs.length≤10) :
 Calls Tryz.prog 10 #[.pointer (some ⟨b,0,none⟩),.pointer (some ⟨lb,0,none⟩),.pointer (some ⟨p,0,none⟩),.int .i64 n,.slice fa fs.length fc] w fun e w'=>∃v,e = .returned (.tuple #[v,.bool true])∧TXpo F FL T w b lb p lo n tr ms C L v w':=by
 have hn2:n≤200:=by have:=hl.next;omega
 have hmk2:(zT ms).trim≤200:=by
  by_cases hne:ms = []
  ·subst hne;exact Nat.zero_le _
  ·refine(hbk.marks _ ?_).1
   unfold zT;rw[List.getLast?_eq_some_getLast hne];exact List.getLast_mem hne
 have PI:=zng (L:=L) (n:=n) (tr:=tr) hbk hba ht.calm.map h4 hn2 (by omega) ⟨by omega,fun _=>by omega,fun a a1 a2 a3=>by have:=h3 a (by omega) a2 a3;omega⟩
 rw[←hlo] at PI;have hcl:=zcC (zjd (lo:=lo) (hi:=n) (tr:=tr) (by omega) hn2 (by omega))
 obtain⟨Y,eY,tY,sY,fY⟩:∃Y,X.sput zx (zco (cuM lo n tr))=(0,Y)∧TDk Y∧Y.shown=zae X.shown zx (zco (cuM lo n tr))∧Y.fuse<0:=by
  rcases tput2 ht (ze8 ht hbk (hba.mono (fun n y=>.inl y))) zal (show(zco (cuM lo n tr)).length≤12500 by omega) with ⟨Y,e,a1,a2,a3⟩|⟨e,_⟩
  ·exact⟨Y,e,a1,a2,a3 hfu⟩
  ·omega
 rw[←sY] at PI;have BG:=zz0 (zk3 w h hbk hba ht hl t hlow ht2 (zT ms).trim tr rfl hmk2 htr lo n hlo h0 hn 0 (by rw[eY]))
 rw[eY] at BG;have H:=zz0 h;have HL:=zz0 hl;have HF:=zz0 hf;have FY:=zz0 fY;have TY:=zz0 tY;have IP:=zz0 PI;obtain⟨la,lc,rfl,_⟩:=id h.ms;clear h hbk hba ht hfu hl hlow h3 PI hf eY tY sY fY hcl htr hlo
 go_enter Tryz.func10,Tryz.ntmps10
 go_wp2_with(go_at_call 27;refine BG.out.mono ?_;rintro e w6 ⟨x,he,-,k6,F6,s6,l6,st6,hx6⟩;obtain rfl:=he rfl;obtain⟨hxx,nx,xb⟩:=hx6 rfl;obtain⟨y1,y2,y3⟩:=zlz H.out k6 s6 l6 st6 hxx nx xb;have Y1:=zz0 y1;have Y2:=zz0 y2;have Y3:=zz0 y3;have R6:Hid (TRun F FL T w b w6 F6 T b):=zz0 ⟨k6.mono (fun _ _ y=>.inl y),s6,.inl rfl,fun g y=>.inl y⟩;have XX:=zz0 hxx;clear he k6 s6 l6 st6 hx6 hxx nx xb y1 y2 y3)
 go_loopw [0,12,14] (fun v x i wr=>TLoop F FL T w b lb p lo n tr fs.length ms C L v x i wr) (fun _ _ i _=>fs.length-(intOf i).toNat)
 case atStart=>exact⟨0,F6,T,b,q,x,la,lc,cuM lo n tr,.slice none 0 0,Y,Nat.zero_le _,rfl,rfl,rfl,XX.out,Y1.out,Y2.out,Y3.out,IP.out,TY.out,FY.out,⟨rfl,rfl,rfl⟩,R6.out⟩
 case round =>
  clear Y1 Y2 Y3 R6 XX IP TY FY BG;obtain⟨j,F',T',b',q',x',la',lc',c,pv,X',hj,rfl,rfl,rfl,hx',ex,hm,hT,hi,ht',hfu,hc,hr⟩:=hrel;have HX:=zz0 hx';have HC:=zz0 hc;have R0:=zz0 hr;have HI:=zz0 hi;have HT':=zz0 ht';have XL:Hid (x'<wr.heap.size∧b'<wr.heap.size):=zz0 ⟨lt_of_block ex.ex,lt_of_block ex.vt⟩;by_cases hlt:j<fs.length
  ·have hlj:(j:Int)<(fs.length:Int):=by omega
   obtain⟨y,hy⟩:∃y,fs[j]? = some y:=⟨_,List.getElem?_eq_getElem hlt⟩;obtain⟨fg,fo,rfl,hcell⟩:=HF.out wr hr.kp j y hy;obtain⟨t',ht29,et1,et2⟩:=znI y;have FU:=zz0 (zo0 t' wr ex);have AL0:=zz0 (fun w1 (k1:za F' wr w1) (ex1:ExSt F' FL w1 x' b' lb q' p (.slice la' ms.length lc') c pv false { X' with fuse:=(t':Int) } L)=>zmJ (C:=C) w1 ex1 (hm.keep k1 (fun g y=>(hT g y).1)) (fun g y=>⟨(hT g y).1,(hT g y).2.1,(hT g y).2.2.1,k1.lt (hT g y).2.2.2⟩) (by exact HI.out) (HT'.out.fused (by omega)) HL.out)
   clear hx' hc hi ht' ex hm hT hfu hr hy
   go_wp2_with(go_at_call 28;refine FU.out.mono ?_;rintro e w1 ⟨rfl,k1,ex1⟩;have R1:=zz0 (TRun.more R0.out (zq5.refl _ _) k1);have K1:=zz0 k1.size;have AL:=zz0 (AL0.out w1 k1 ex1);clear k1 ex1)
   refine AL.out.mono ?_;rintro e w2 ⟨kn,v2,rfl,o⟩;rcases o with ⟨rfl,c',pv',Z,e0,e1',e2',o,tZ,zE⟩|⟨rfl,hfu2,o⟩
   ·have DS:=zz0 (zgm H.out R1.out HX.out ⟨e0.trans HC.out.1,e1'.trans HC.out.2.1,e2'.trans HC.out.2.2⟩ o tZ zE)
    clear o
    go_wp2_with(go_at_call 30;refine DS.out.mono ?_;rintro e w3 ⟨rfl,o3⟩;have O3:=zz0 o3;clear o3)
    go_ret2;exact⟨_,rfl,O3.out⟩
   ·obtain⟨F2,Yd,s2,l2,k2,d2,lost⟩:=o
    have hwr:=R1.out.kp.size;have k2s:=k2.size;have kA2:za (fun g=>F g∨g=b) w w2:=R1.out.keep k2 (fun g y=>by
     rcases y with y|y|y
     ·exact .inl y
     ·exact .inr (.inr (by have:=HX.out;omega))
     ·exact .inr (.inl y))
    have s2w:∀g,F2 g→F g∨w.heap.size≤g:=fun g y=>by
     rcases s2 g y with u|u
     ·exact R1.out.sub g u
     ·exact .inr (by omega)
    have DN:=zz0 (zeY F2 p Yd w2 d2);rw[lost.down] at DN;have CU:=zz0 (fun W (k0:Bool) gv vc (k:za zq2 w2 W) (hv:W.cell? ⟨gv,0,none⟩=some (.bool k0))=>znt F2 p gv 0 vc k0 false Yd W (d2.keep k (fun _ _ e=>e)) (by
     rcases lost.pend with e|⟨cc,e,e2,_⟩
     ·exact .inl e
     ·exact .inr ⟨cc,e,e2⟩) (by have:=lost.files.size;omega) hv)
    have LS:=zz0 lost;have KA2:=zz0 kA2;have S2W:=zz0 s2w;clear k2 d2 lost kA2 s2w s2
    go_wp2_with(first
     |(go_at_call 31;refine DN.out.mono ?_;rintro e w3 ⟨rfl,h3⟩;replace h3:=h3.symm;subst h3)
     |(go_at_call 32;refine(CU.out _ _ _ _ ((za.refl zq2 w2).alloc _) (World.cell?_alloc_new _ _ _ 0)).mono ?_;rintro e w4 ⟨rfl,t4⟩;obtain⟨k0,t4⟩:∃k0,CutTo F2 _ p Yd (keepC k0 false Yd.pend Yd.sure) w4:=⟨_,t4⟩;obtain⟨k4,F4,s4,d4⟩:=t4;have K4:=zz0 (((za.refl zq2 w2).alloc _).ofNon.trans1 k4);have S4:Hid (∀g,F4 g→F2 g∨w2.heap.size≤g):=zz0 (fun g y=>by rcases s4 g y with u|u;exact .inl u;exact .inr (Nat.le_trans ((za.refl zq2 w2).alloc _).size u));have SU:=zz0 (zii F4 p _ w4 d4 rfl rfl);clear k4 s4 d4 t4)
     |(go_at_call 30;refine SU.out.mono ?_;rintro e w5 ⟨rfl,k5,F5,s5,d5⟩))
    have k25:za F2 w2 w5:=K4.out.trans k5 (fun _ _ y=>y) (fun g hg y=>by
     rcases S4.out g y with u|u
     ·exact u
     ·omega)
    have kA5:za (fun g=>F g∨g=b) w w5:=KA2.out.trans k25 (fun _ _ y=>y) (fun g hg y=>by
     rcases S2W.out g y with u|u
     ·exact .inl u
     ·omega)
    have s5w:∀g,F5 g→F g∨w.heap.size≤g:=fun g y=>by
     rcases s5 g y with u|u
     ·rcases S4.out g u with z|z
      ·exact S2W.out g z
      ·exact .inr (by omega)
     ·have:=K4.out.size
      exact .inr (by omega)
    have lay5:Lay w5:=H.out.lay.keep kA5 (fun g y z=>by
     rcases z with z|z
     ·have:=(H.out.low g z).1;omega
     ·have:=H.out.out.2.2.2;omega)
    have h10:∀g,F5 g→10≤g:=fun g y=>by
     have hb10:=H.out.out.2.2.2;have hbw:=lt_of_block H.out.vt;rcases s5w g y with u|u
     ·exact(H.out.low g u).1
     ·omega
    obtain⟨up,res⟩:=LS.out.up k0 false;have KA5:=zz0 kA5;have S5W:=zz0 s5w;rcases res with ⟨c2,e0,e1,e2,hTF⟩|⟨c2,e0,e1,e2,⟨hok2,hpos2⟩,hTB,hAll,hcg⟩
    ·have OP:=zz0 (tvopen F5 p ms (Yd.again k0 false) w5 d5 up (TB.hasms hTF.b) hTF.b.ok (by omega) lay5 h10)
     have HTF:=zz0 hTF;clear k5 s5 d5 k25 kA5 s5w lay5 h10 up hTF
     go_wp2_with(go_at_call 18;refine OP.out.mono ?_;rintro e w6 ⟨X6,tX6,lk6,fu6,bb,q6,la6,lc6,rfl,hv6,hm6,k6,hb6,F6,s6,l6,st6⟩;obtain⟨vs6,r6⟩:=zm9 H.out KA5.out S5W.out hv6 hm6 k6 hb6 F6 s6 l6 st6;have tf6:=HTF.out.like lk6;have RS:=zz0 (zkR (lb:=lb) w6 vs6.vt vs6.ms tf6.b.p32 (by omega) vs6.st tX6.calm.down tf6.cur tf6.ok c2.lo tf6.lo rfl);have VS6:=zz0 vs6;have RR6:=zz0 r6;have TX6:=zz0 tX6;have TF6:=zz0 tf6;have FU6:=zz0 fu6;clear tX6 lk6 fu6 hv6 hm6 k6 s6 l6 st6 vs6 r6 tf6)
     have IS:Hid (∀W,Calls Tryz.prog 34 #[.nilIface,.int .i64 4] W fun e w'=>e = .returned (.bool false)∧W=w'):=zz0 (fun W=>zo3 0 4 W)
     go_wp2_with(first
      |(go_at_call 33;refine RS.out.mono ?_;rintro e w7 ⟨x7,v7,rfl,k7,hx7,xb7,row7,hp7⟩;have K7:=zz0 k7;have Z7:=zz0 (zpq VS6.out k7 hx7 xb7 row7 hp7);have HX7:=zz0 hx7;clear k7 hx7 xb7 row7 hp7)
      |(go_at_call 34;refine(IS.out _).mono ?_;rintro e w8 ⟨rfl,rfl⟩))
     obtain⟨z1,z2,z3⟩:=Z7.out;have sz6:=RR6.out.kp.size;refine⟨⟨j+1,F6,_,bb,q6,x7,la6,lc6,c2,v7,X6,by omega,by first|rfl|go_num,rfl,rfl,by have:=HX7.out;omega,z1,z2,z3,TF6.out,TX6.out,FU6.out,⟨e0.trans HC.out.1,e1.trans HC.out.2.1,e2.trans HC.out.2.2⟩,?_⟩,by simp[intOf];omega⟩
     exact TRun.more RR6.out (zq5.refl _ _) K7.out.ofNon
    ·have hend:zbr (ms ++ [exT ms c2])=c2.hi:=by unfold zbr;rw[zbn];rfl
     have OP:=zz0 (tvopen F5 p (ms ++ [exT ms c2]) (Yd.again k0 false) w5 d5 up (TB.hasms hTB) hTB.ok (by rw[List.length_append,List.length_singleton];omega) lay5 h10)
     have HTB:=zz0 hTB;have HAL:=zz0 hAll;have HCG:=zz0 hcg;clear k5 s5 d5 k25 kA5 s5w lay5 h10 up hTB hAll hcg
     go_wp2_with(go_at_call 18;refine OP.out.mono ?_;rintro e w6 ⟨X6,tX6,lk6,fu6,bb,q6,la6,lc6,rfl,hv6,hm6,k6,hb6,F6,s6,l6,st6⟩;obtain⟨vs6,r6⟩:=zm9 H.out KA5.out S5W.out hv6 hm6 k6 hb6 F6 s6 l6 st6;have tb6:=HTB.out.like lk6;have ta6:=HAL.out.like lk6;have lc6':=lk6.obj zal;have VS6:=zz0 vs6;have RR6:=zz0 r6;have TX6:=zz0 tX6;have TB6:=zz0 tb6;have TA6:=zz0 ta6;have LC6:=zz0 lc6';have FU6:=zz0 fu6;clear tX6 lk6 fu6 hv6 hm6 k6 s6 l6 st6 vs6 r6 tb6 ta6 lc6')
     have IS:Hid (∀W,Calls Tryz.prog 34 #[.iface 89 (.int .i64 4),.int .i64 4] W fun e w'=>e = .returned (.bool true)∧W=w'):=zz0 (fun W=>zo3 4 4 W)
     have hlen6:(ms ++ [exT ms c2]).length<90:=by rw[List.length_append,List.length_singleton];omega
     by_cases hcur:zz X6.shown zx=true
     ·have lim6:=ze8 TX6.out TB6.out TA6.out
      obtain⟨Z,eZ,tZ,sZ,fZ⟩:∃Z,X6.sdel zx=(0,Z)∧TDk Z∧Z.shown=zcp X6.shown zx∧Z.fuse<0:=by
       rcases tdel2 TX6.out lim6 zal hcur with ⟨Z,a1,a2,a3,a4⟩|⟨a1,_⟩
       ·exact⟨Z,a1,a2,a3,a4 FU6.out⟩
       ·have:=FU6.out;omega
      have RS:=zz0 (ziU (lb:=lb) w6 VS6.out.vt VS6.out.ms TB6.out.p32 hlen6 VS6.out.st TX6.out.calm.down ⟨hcur,by rw[←LC6.out.2];exact HCG.out (by rw[LC6.out.1];exact hcur)⟩ hok2 (lim6.mild (by omega) (by omega) (by omega)) lim6.map (by rw[eZ]) _ rfl (by rw[hend];omega))
      rw[eZ] at RS;have TZ:=zz0 tZ;have ZE:Hid (TEnd L C ms c2 Z.shown):=zz0 (by rw[sZ];exact⟨TB6.out.clear,zeR TA6.out⟩)
      have FZ:=zz0 fZ;clear lim6 eZ tZ sZ fZ
      go_wp2_with(first
       |(go_at_call 33;refine RS.out.mono ?_;rintro e w7 ⟨rfl,t7⟩;have T7:=zz0 t7;clear t7)
       |(go_at_call 34;refine(IS.out _).mono ?_;rintro e w8 ⟨rfl,rfl⟩))
      go_ret2;obtain⟨F7,s7,k7,vs7⟩:=VsSt.to VS6.out T7.out;exact⟨_,rfl,F7,_,bb,q6,_,c2,Z,rfl,TRun.more RR6.out s7 k7,vs7,TZ.out,FZ.out,e0.trans HC.out.1,e1.trans HC.out.2.1,e2.trans HC.out.2.2,ZE.out⟩
     ·have hcf:zz X6.shown zx=false:=by simpa using hcur
      have RS:=zz0 (zh4 (lb:=lb) w6 VS6.out.vt VS6.out.st TX6.out.calm.down hcf);have ZE:Hid (TEnd L C ms c2 X6.shown):=zz0 ⟨TB6.out,fun n hn hh=>by
       rcases TA6.out n hn hh with y|y
       ·exact y
       ·rw[y,hcf] at hh;cases hh⟩
      go_wp2_with(first
       |(go_at_call 33;refine RS.out.mono ?_;rintro e w7 ⟨rfl,k7⟩;have K7:=zz0 k7;clear k7)
       |(go_at_call 34;refine(IS.out _).mono ?_;rintro e w8 ⟨rfl,rfl⟩))
      go_ret2;exact⟨_,rfl,F6,_,bb,q6,_,c2,X6,rfl,TRun.more RR6.out (zq5.refl _ _) K7.out.ofNon,VsSt.keepNon VS6.out K7.out,TX6.out,FU6.out,e0.trans HC.out.1,e1.trans HC.out.2.1,e2.trans HC.out.2.2,ZE.out⟩
  ·have hje:j=fs.length:=by omega
   have AL:=zz0 (zmJ (C:=C) wr ex hm hT hi ht' HL.out);have R1:=R0;have HFN:=zz0 hfu;clear hx' hc hi ht' ex hm hT hfu hr;have hlj:¬(j:Int)<(fs.length:Int):=by omega
   go_wp2_with fail
   refine AL.out.mono ?_;rintro e w2 ⟨kn,v2,rfl,o⟩;rcases o with ⟨rfl,c',pv',Z,e0,e1',e2',o,tZ,zE⟩|⟨rfl,hfu2,o⟩
   ·have DS:=zz0 (zgm H.out R1.out HX.out ⟨e0.trans HC.out.1,e1'.trans HC.out.2.1,e2'.trans HC.out.2.2⟩ o tZ zE)
    clear o
    go_wp2_with(go_at_call 30;refine DS.out.mono ?_;rintro e w3 ⟨rfl,o3⟩;have O3:=zz0 o3;clear o3)
    go_ret2;exact⟨_,rfl,O3.out⟩
   ·have:=HFN.out
    omega
theorem VtSt.chain {F FL:Nat→Prop}{w:World}{b lb q p:Nat}{X:Dk}{L:Lg}(h:VtSt F FL w b lb q p X L):VsSt F FL zq2 w b lb q p (.slice none 0 0) [] X L :=
 ⟨h.vt,zai.nil _ _,h.st,h.lg,h.lay,⟨h.out.1,h.out.2.1,fun e=>e,h.out.2.2⟩,h.apart,fun g e=>e.elim,h.low,h.lowL,fun g e=>e.elim⟩
def oH:Obj:=.cells #[.int .i64 2,.slice none 0 0] 45 (0,0)
theorem cellsH (w:World):zbF (w.alloc oH) (.slice (some ⟨w.heap.size,0,none⟩) 1 1) clH:=by
 refine⟨some ⟨w.heap.size,0,none⟩,1,rfl,fun j hj=>?_⟩
 have h0:j=0:=by have:j<1:=hj;omega
 subst h0;refine⟨w.heap.size,0,none,0,rfl,lt_of_block (ze w oH),cl0 (k:=2) (ze w oH),cl1 (k:=2) (ze w oH),?_,.inr (fun k e=>by cases e)⟩
 exact Rd.ofOwns (World.ownsRow_nil (w.alloc oH) 0 5 1)
theorem zmK:TDk (dk0 16777216):=⟨⟨rfl,rfl,rfl,⟨[],rfl⟩,(zhg _).tidy⟩,IsFl.nil _,rfl,(by show(-1:Int)≤-1;omega),(by show(-1:Int)≤1000;omega)⟩
theorem zo8 {C:Nat→Cl}(hC:∀a,zcl (C a)):TB C (dk0 16777216).shown []∧TAll (dk0 16777216).shown (inB []):=by
 have hh:=fun n=>zcV 16777216 n
 refine⟨⟨by decide,okCh.nil,fun m hm=>by simp at hm,by decide,fun j m hj=>by simp at hj,fun k _ _=>hh _,fun j m hj=>by simp at hj,hC,fun m hm=>by simp at hm,fun m hm=>by simp at hm,fun m hm=>by simp at hm,fun m hm=>by simp at hm⟩,fun n _ hn=>?_⟩
 rw[hh n] at hn;cases hn
theorem zgo:zcl ((0:Int),([]:List UInt8)):=⟨by show(0:Int)≤0;omega,by show(0:Int)≤3;omega,by show 0≤64;omega,fun _=>rfl⟩
theorem VsSt.vin {F FL T:Nat→Prop}{w:World}{b lb q p:Nat}{lv:Value}{ms:List Mf}{C:Nat→Cl}{X:Dk}{L:Lg}(h:VsSt F FL T w b lb q p lv ms X L)(t:TDk X)(hb:TB C X.shown ms):TvIn F T w b q p lv ms C X:=⟨h.vt,h.st,t.calm.down,h.lay,h.ms,hb⟩
theorem zlM:zbx (bagL clH) 0=(2,[]):=by
 have h:=zeA (L:=bagL clH) (hi:=1) (f:=0) (j:=0) (by decide)
 rw[slabH] at h;simp at h;exact h.symm
theorem znL {c:Cu}{L':Lg}{D:Fl}(hlo:c.lo=0)(hhi:c.hi=1)(htr:c.trim=0)(hr:R2 (joinC (fun _=>(0,[])) (bagL clH) c.lo) (zcI ([] ++ [exT [] c]) 1) 1 L'):zcI ([] ++ [exT [] c]) 1=0∧∃s,(endL 0 1 L').shs[0]? = some s∧s.e=2∧s.X.down=false∧uat s.l s.D 0=(2,[]):=by
 have hm:zcI ([] ++ [exT [] c]) 1=0:=by
  have hw:whoM ([] ++ [exT [] c]) 1=exT [] c:=by
   unfold whoM;rw[List.nil_append,List.find?_cons_of_pos (by show decide (1≤c.hi)=true;rw[hhi];rfl)]
   rfl
  unfold zcI;rw[hw];show min c.trim 1=0;rw[htr]
  rfl
 rw[hm] at hr;obtain⟨s,h1,h2,h3,h4⟩:=hr.fin (by omega) (by omega) (show 0<1 by omega)
 refine⟨hm,s,h1,h2,h3,?_⟩;rw[h4,if_neg (by omega)]
 have e:joinC (fun _=>(0,[])) (bagL clH) c.lo 0=(2,[]):=by
  unfold joinC;rw[if_neg (by omega),zlM]
 rw[e,if_pos (.inr rfl)]
theorem zgl (w:World)(hlay:Lay w)(h10:10≤w.heap.size) :
 Calls Tryz.prog 4 #[] w fun e w'=>e = .returned (.bool true)∧za zq2 w w':=by
 have kA:za zq2 w (w.alloc oH):=(za.refl _ _).alloc _;have BG:=zz0 (zkN (.slice (some ⟨w.heap.size,0,none⟩) 1 1) clH (w.alloc oH) (cellsH w) (by decide) (hlay.keepNon kA) (Nat.le_trans h10 kA.size))
 have FL0:=zbj clH (by decide)
 have TBN:=zo8 (C:=fun _=>((0:Int),([]:List UInt8))) (fun _=>zgo)
 have XP:Hid (∀F FL b lb p q W,VtSt F FL W b lb q p (dk0 16777216) (bagL clH)→Calls Tryz.prog 10 #[.pointer (some ⟨b,0,none⟩),.pointer (some ⟨lb,0,none⟩),.pointer (some ⟨p,0,none⟩),.int .i64 1,.slice none 0 0] W fun e w'=>∃v,e = .returned (.tuple #[v,.bool true])∧TXpo F FL zq2 W b lb p 0 1 0 [] (fun _=>(0,[])) (bagL clH) v w'):=zz0 (fun F FL b lb p q W h=>zen (C:=fun _=>(0,[])) (fs:=[]) (fa:=none) (fc:=0) (n:=1) (lo:=0) (t:=0) (tr:=0) W h.chain TBN.1 TBN.2 zmK (by show(-1:Int)<0;omega) (by decide) (FL0.log (by decide)) FL0.low (by omega) rfl (fun a _ _ h3=>absurd h3 (FL0.not3 a)) rfl (by omega) (by rw[nextH];exact Nat.le_refl _) (fun W k j x hx=>by simp at hx) (by decide))
 have KA:=zz0 kA;have H10:=zz0 h10;clear kA hlay h10 FL0 TBN;unfold oH at BG
 go_enter Tryz.func4,Tryz.ntmps4
 go_wp2_with(first
  |(go_at_call 6;refine BG.out.mono ?_;rintro e w1 ⟨lb,b,p,q,F,FL,rfl,k1,v1,lo1⟩;have K1:=zz0 (KA.out.trans1 k1);have V1:=zz0 v1;have LO:=zz0 (fun g y=>Nat.le_trans KA.out.size (lo1 g y));clear k1 v1 lo1)
  |(go_at_call 10;refine(XP.out _ _ _ _ _ _ w1 V1.out).mono ?_;rintro e w2 ⟨v,rfl,F2,T2,b2,q2,lv2,c2,Z,rfl,r2,vs2,tZ,fZ,elo,ehi,etr,zE⟩;have K2:=zz0 (K1.out.trans r2.kp (fun _ _ e=>e) (fun g hg y=>by have:=LO.out g y;omega));have RS:=zz0 (zfy (n:=1) w2 (vs2.vin tZ zE.1) (Nat.le_trans H10.out K2.out.size) (by simp) (by rw[show zbr ([] ++ [exT [] c2])=c2.hi from rfl,ehi];exact Nat.le_refl _) rfl);have EL:=zz0 (And.intro elo (And.intro ehi etr));clear r2 vs2 tZ fZ elo ehi etr zE)
  |(go_at_call 12;refine RS.out.mono ?_;rintro e w3 ⟨lb3,FL3,L3,rfl,k3,l3,r3,-⟩;obtain⟨hm0,s,z1,z2,z3,z4⟩:=znL (D:=Z.shown) EL.out.1 EL.out.2.1 EL.out.2.2 r3;rw[hm0] at l3;have RD:=zz0 (zdN (a:=0) w3 l3 (by omega) (zir 0) z1 z2 z3 (by omega) (by rw[z4];decide));rw[z4] at RD;have K3:=zz0 (K2.out.trans1 k3);clear k3 l3 r3 hm0 z1 z2 z3 z4)
  |(go_at_call 11;refine RD.out.mono ?_;rintro e w4 ⟨v4,rfl,k4,o4⟩;obtain⟨a4,c4,rfl,_,_⟩:=zb o4;have K4:=zz0 (K3.out.trans1 k4);clear k4 o4))
 go_ret;exact⟨rfl,K4.out.alloc _⟩
structure FilT (L:Lg)(k t:Nat):Prop where
 shs:L.shs = [lgS L]
 ep:L.ep=1
 se:L.se=1
 e:(lgS L).e=1
 l:(lgS L).l=t
 ok:(lgS L).ok
 nx:(lgS L).next≤201+k
 next:L.next≤200
 map:IsMap (lgS L).D
 cells:∀a,zcl (zaT (lgS L).D a)∧(zaT (lgS L).D a).1≠3
theorem zas.trims {L:Lg}{i:Nat}(h:zas L i)(hi:i≤200):FilT L 0 0 :=
 ⟨h.shs,h.ep,h.se,h.e,h.l,h.ok,by have:=h.nx;omega,by have:=h.next;omega,h.map,h.cells⟩
theorem zoG:zcl ((3:Int),([]:List UInt8)):=⟨by show(0:Int)≤3;omega,by show(3:Int)≤3;omega,by show 0≤64;omega,fun _=>rfl⟩
theorem FilT.log {L:Lg}{k t:Nat}(h:FilT L k t):Log1 L :=
 ⟨.inl (by rw[h.shs];rfl),fun s hs=>by rw[h.shs] at hs;simp only[List.mem_singleton] at hs;subst hs;exact⟨by rw[h.e,h.ep],h.ok.free.1⟩,by rw[h.se,h.ep],h.next,fun a=>by
  rw[zeq h.shs];unfold uat
  split
  ·exact zoG
  ·exact(h.cells a).1⟩
theorem FilT.low {L:Lg}{k t:Nat}(h:FilT L k t):∀s ∈ L.shs,s.l=t:=fun s hs=>by
 rw[h.shs] at hs;simp only[List.mem_singleton] at hs;rw[hs];exact h.l
theorem FilT.one {L:Lg}{k t:Nat}(h:FilT L k t):L.shs.length=1:=by rw[h.shs];rfl
theorem FilT.three {L:Lg}{k t:Nat}(h:FilT L k t){a:Nat}(h3:(zbx L a).1=3):a<t:=by
 rw[zeq h.shs,h.l] at h3;unfold uat at h3
 split at h3
 ·assumption
 ·exact absurd h3 (h.cells a).2
def trimLg (L:Lg)(a:Nat):Lg:=⟨L.shs.map (trimS a),L.ep,max L.next a,L.se⟩
theorem FilT.trim {L:Lg}{k t:Nat}(h:FilT L k t){a:Nat}(ha:a≤200)(hk:k≤20)(ht:t≤200):FilT (trimLg L a) (k+1) (max t a):=by
 have hn:=h.nx;have e0:lgS (trimLg L a)=trimS a (lgS L):=by
  show(L.shs.map (trimS a)).headD (sh0 0)=_
  rw[h.shs]
  rfl
 have el:max (lgS L).l a=max t a:=by rw[h.l]
 refine⟨?_,h.ep,h.se,?_,?_,?_,?_,?_,?_,fun b=>?_⟩
 ·rw[e0]
  show L.shs.map (trimS a)=_
  rw[h.shs]
  rfl
 ·rw[e0];exact h.e
 ·rw[e0];exact el
 ·rw[e0]
  exact h.ok.did (by omega) (zI 4 (lgS L).e a [] (by omega) (by rw[h.e];omega) (by omega) (by simp)) (Nat.le_trans (zgr h.map _) (Nat.le_succ _))
 ·rw[e0]
  show(lgS L).next+1≤_
  omega
 ·show max L.next a≤200
  have:=h.next;omega
 ·rw[e0]
  exact zeX h.map _
 ·rw[e0]
  show zcl (zaT (cutLo _ (lgS L).D) b)∧(zaT (cutLo _ (lgS L).D) b).1≠3
  rw[zfH h.map]
  split
  ·exact⟨zgo,by show(0:Int)≠3;omega⟩
  ·exact h.cells b
theorem ltrim1 {F:Nat→Prop}{b k t a:Nat}{L:Lg}(w:World)(h:zaH F w b L.shs.length L)(hf:FilT L k t)(ha:a≤200)(hk:k≤20)(hlay:Lay w) :
 Calls Tryz.prog 7 #[.pointer (some ⟨b,0,none⟩),.int .i64 a] w fun r w'=>r = .returned .nilIface∧zan F w b L.shs.length (trimLg L a) w':=by
 have hn:=hf.nx;refine(zhx (a:=a) (L:=L) w h hlay (by rw[hf.one];omega) rfl (by omega) (by rw[hf.se,hf.ep]) ?_).mono ?_
 ·intro s hs
  rw[hf.shs] at hs;simp only[List.mem_singleton] at hs;subst hs;exact⟨hf.ok,by omega,by rw[hf.e,hf.ep],by rw[hf.e];omega⟩
 ·rintro r w' ⟨rfl,t⟩
  exact⟨rfl,t⟩
theorem VsSt.logTo {F FL T:Nat→Prop}{w w':World}{b lb q p:Nat}{lv:Value}{ms:List Mf}{X:Dk}{L L':Lg}(h:VsSt F FL T w b lb q p lv ms X L)(hlen:L'.shs.length=L.shs.length){FL0:Nat→Prop}(hl0:∀g,FL0 g→FL g∧10≤g∧g<w.heap.size)(t:zan FL0 w lb L.shs.length L' w'):∃FL',zq5 FL' FL w∧za FL w w'∧VsSt F FL' T w' b lb q p lv ms X L':=by
 obtain⟨k,F',s,l⟩:=t;have hbw:b<w.heap.size:=lt_of_block h.vt;have sF:∀g,F' g→FL g∨w.heap.size≤g:=fun g y=>by
  rcases s g y with u|u
  ·exact .inl (hl0 g u).1
  ·exact .inr u
 have l':=l.low;rw[←hlen] at l';refine⟨fun g=>F' g∧g<w'.heap.size,fun g y=>sF g y.1,k.mono (fun g _ y=>(hl0 g y).1),⟨k.at h.vt (fun y=>h.out.2.1 (hl0 b y).1),h.ms.keep k (fun g y z=>(h.apartT g y).2 (hl0 g z).1),h.st.keep k (fun g y z=>h.apart g y (hl0 g z).1),l',h.lay.keep k (fun g y z=>by have:=(hl0 g z).2.1;omega),⟨h.out.1,fun y=>?_,h.out.2.2.1,h.out.2.2.2⟩,fun g y z=>?_,fun g y=>⟨(h.apartT g y).1,fun z=>?_⟩,fun g y=>⟨(h.low g y).1,k.lt (h.low g y).2⟩,fun g y=>y.2,fun g y=>k.lt (h.lowT g y)⟩⟩
 ·rcases sF b y.1 with u|u
  ·exact h.out.2.1 u
  ·omega
 ·rcases sF g z.1 with u|u
  ·exact h.apart g y u
  ·have:=(h.low g y).2;omega
 ·rcases sF g z.1 with u|u
  ·exact(h.apartT g y).2 u
  ·have:=h.lowT g y;omega
theorem zh1 {F FL T:Nat→Prop}{C:Nat→Cl}{b lb q p lo:Nat}{lv fv:Value}{ms:List Mf}{X:Dk}{L:Lg}(n:Int)(w:World)(h:VsSt F FL T w b lb q p lv ms X L)(hbk:TB C X.shown ms)(hba:TAll X.shown (inB ms))(ht:TDk X)(hl:Log1 L)(hlo:lo=zbr ms)(hn:¬((lo:Int)<n∧n≤L.next)) :
 Calls Tryz.prog 10 #[.pointer (some ⟨b,0,none⟩),.pointer (some ⟨lb,0,none⟩),.pointer (some ⟨p,0,none⟩),.int .i64 n,fv] w fun e w'=>e = .returned (.tuple #[.pointer (some ⟨b,0,none⟩),.bool true])∧za zq2 w w':=by
 have BG:=zz0 (zk2 w h hbk hba ht hl lo hlo n hn);clear h hbk hba ht hl hlo hn
 go_enter Tryz.func10,Tryz.ntmps10
 go_wp2_with(go_at_call 27;refine BG.out.mono ?_;rintro e w6 ⟨rfl,k6⟩;have K6:=zz0 k6;clear k6)
 go_ret2;exact⟨rfl,K6.out⟩
def whoT (l:List Mf)(n:Nat):Nat:=((l.find? (fun m=>decide (n≤m.hi))).getD mf0).trim
theorem zna (m:Mf)(l:List Mf)(n:Nat):whoT (m::l) n=if n≤m.hi then m.trim else whoT l n:=by
 unfold whoT;by_cases h:n≤m.hi
 ·rw[List.find?_cons_of_pos (by simpa using h),if_pos h]
  rfl
 ·rw[List.find?_cons_of_neg (by simpa using h),if_neg h]
theorem znW (ms:List Mf)(n:Nat):zcI ms n=min (whoT ms n) n:=rfl
theorem zgL {C:Nat→Cl}{D:Fl}{ms:List Mf}(h:TB C D ms):∀(j i:Nat)(m x:Mf),i≤j→ms[i]? = some m→ms[j]? = some x→m.trim≤x.trim∧(i<j→m.hi≤x.lo)
 |0,i,m,x,hij,hm,hx=>by
  obtain rfl:i=0:=by omega
  rw[hm] at hx;injection hx with hx
  rw[hx];exact⟨Nat.le_refl _,fun e=>by omega⟩
 |j+1,i,m,x,hij,hm,hx=>by
  by_cases e:i=j+1
  ·subst e
   rw[hm] at hx;injection hx with hx
   rw[hx];exact⟨Nat.le_refl _,fun e=>by omega⟩
  ·obtain⟨y,hy⟩:∃y,ms[j]? = some y:=⟨_,List.getElem?_eq_getElem (by have:=zr hx;omega)⟩
   obtain⟨h1,h2⟩:=zgL h j i m y (by omega) hm hy
   obtain⟨ok,fo,_,_⟩:=h.ok (j+1) x hx;have hne:ms.take (j+1)≠[]:=by
    intro e0;have:=congrArg List.length e0;rw[List.length_take,List.length_nil] at this;have:=zr hx;omega
   obtain⟨_,f2,f3⟩:=fo.2 hne;rw[zby hy,zbn] at f2 f3;refine⟨by omega,fun _=>?_⟩
   obtain⟨oky,_,_,_⟩:=h.ok j y hy;have hyl:y.lo≤y.hi:=by
    rw[←oky.stop];exact zcX _ _
   by_cases e2:i=j
   ·subst e2
    rw[hm] at hy;injection hy with hy
    rw[hy];omega
   ·have:=h2 (by omega)
    omega
theorem zpa {C:Nat→Cl}{D:Fl}{ms:List Mf}(h:TB C D ms){a:Nat}(ha:a<zbr ms):∃(i:Nat)(m:Mf),ms[i]? = some m∧m.lo≤a∧a<m.hi:=by
 have key:∀k,k≤ms.length→a<zbr (ms.take k)→∃(i:Nat) (m:Mf),ms[i]? = some m∧m.lo≤a∧a<m.hi:=fun k=>by
  induction k with
  |zero=>intro _ h0;exact absurd h0 (Nat.not_lt_zero _)
  |succ k ih =>
   intro hk h0;obtain⟨m,hm⟩:∃m,ms[k]? = some m:=⟨_,List.getElem?_eq_getElem (by omega)⟩
   by_cases c:a<zbr (ms.take k)
   ·exact ih (by omega) c
   ·rw[zby hm] at h0
    unfold zbr at h0;rw[zbn] at h0;obtain⟨ok,fo,_,_⟩:=h.ok k m hm;refine⟨k,m,hm,?_,h0⟩;by_cases e:ms.take k = []
    ·have e0:k=0:=by
      have:=congrArg List.length e;rw[List.length_take,List.length_nil] at this;omega
     rw[h.zero m (by rw[←e0];exact hm)]
     exact Nat.zero_le _
    ·rw[(fo.2 e).2.1]
     unfold zbr at c;omega
 have:=key ms.length (Nat.le_refl _);rw[List.take_length] at this;exact this ha
theorem zkB {C:Nat→Cl}{D:Fl}{ms:List Mf}(h:TB C D ms){n a:Nat}(hn:n≤zbr ms)(ha:a<n)(hm:whoT ms n≤a):(if (C a).1=1∨(C a).1=2 then C a else ((0:Int),([]:List UInt8)))=C a:=by
 obtain⟨i,m,hi,h1,h2⟩:=zpa h (show a<zbr ms by omega)
 have hne:∃m ∈ ms,n≤m.hi:=by
  have hms:ms≠[]:=fun e=>by rw[e] at hi;simp at hi
  refine⟨zT ms,?_,hn⟩;unfold zT;rw[List.getLast?_eq_some_getLast hms];exact List.getLast_mem hms
 obtain⟨J,hJ,hJ1,hJ2⟩:=zo9 hne;have hij:i≤J:=by
  rcases Nat.lt_or_ge J i with c|c
  ·have:=(zgL h i J _ m (by omega) hJ hi).2 c
   omega
  ·exact c
 have htr:=(zgL h J i m _ hij hi hJ).1;have hw:whoT ms n=(whoM ms n).trim:=rfl;have h3:(C a).1≠3:=fun e=>by
  have:=(h.marks m (List.mem_of_getElem? hi)).2 a h1 h2 e;omega
 obtain⟨k1,k2,k3,k4⟩:=h.cells a;by_cases c:(C a).1=1∨(C a).1=2
 ·rw[if_pos c]
 ·rw[if_neg c]
  have e1:(C a).1=0:=by omega
  have e2:=k4 (by omega)
  rw[←e1,←e2]
structure Trp (F FL T TM:Nat→Prop)(w wr:World)(lb p m j k e E vb q t:Nat)(lv:Value)(ms:List Mf)(X:Dk)(L:Lg)(C:Nat→Cl)(D:Un):Prop where
 vs:VsSt F FL T wr vb lb q p lv ms X L
 tdk:TDk X
 fuse:X.fuse<0
 tb:TB C X.shown ms
 all:TAll X.shown (inB ms)
 few:ms.length≤j
 log:FilT L k t
 kk:k≤10
 tt:t≤200
 keep:za zq2 w wr
 new:∀g,(F g∨FL g∨g=vb)→w.heap.size≤g
 mp:CsMap wr TM m D
 mout:w.heap.size≤m∧m≠vb∧¬F m∧¬FL m
 mT:¬T m
 size:size D≤e
 was:∀a,a<e→zaT D a=C a
 tm:∀g,TM g→w.heap.size≤g∧g<wr.heap.size∧¬F g∧¬FL g∧g≠vb∧g≠m
 ends:e≤E∧E=zbr ms
 now:∀a,e≤a→a<E→C a=zbx L a
def TrpSt (w:World)(lb p m j k e E vb:Nat)(wr:World):Prop:=∃F FL T TM q t lv ms X L C D,Trp F FL T TM w wr lb p m j k e E vb q t lv ms X L C D
theorem VsSt.keepS {F FL T S:Nat→Prop}{w w':World}{b lb q p:Nat}{lv:Value}{ms:List Mf}{X:Dk}{L:Lg}(h:VsSt F FL T w b lb q p lv ms X L)(k:za S w w')(hS:∀g,S g→¬F g∧¬FL g∧¬T g∧g≠b∧10≤g):VsSt F FL T w' b lb q p lv ms X L :=
 ⟨k.at h.vt (fun y=>(hS b y).2.2.2.1 rfl),h.ms.keep k (fun g y z=>(hS g z).2.2.1 y),h.st.keep k (fun g y z=>(hS g z).1 y),h.lg.keep k (fun g y z=>(hS g z).2.1 y),h.lay.keep k (fun g y z=>by have:=(hS g z).2.2.2.2;omega),h.out,h.apart,h.apartT,fun g y=>⟨(h.low g y).1,k.lt (h.low g y).2⟩,fun g y=>k.lt (h.lowL g y),fun g y=>k.lt (h.lowT g y)⟩
section
variable {F FL T TM : Nat → Prop} {w wr : World} {lb p m j k e E vb q t : Nat} {lv : Value} {ms : List Mf} {X : Dk} {L : Lg} {C : Nat → Cl} {D : Un}
theorem Trp.keepNon (h:Trp F FL T TM w wr lb p m j k e E vb q t lv ms X L C D){w':World}(kn:za zq2 wr w'):Trp F FL T TM w w' lb p m j k e E vb q t lv ms X L C D :=
 ⟨h.vs.keepNon kn,h.tdk,h.fuse,h.tb,h.all,h.few,h.log,h.kk,h.tt,h.keep.trans1 kn,h.new,h.mp.keep kn (fun y=>y) (fun _ _ y=>y) (fun _ y=>y),h.mout,h.mT,h.size,h.was,fun g y=>by
  obtain⟨a1,a2,a3⟩:=h.tm g y;exact⟨a1,kn.lt a2,a3⟩,h.ends,h.now⟩
theorem zoP (h:Trp F FL T TM w wr lb p m j k E E vb q t lv ms X L C D)(hk:k≤9){a:Nat}(ha:a≤200) :
 Calls Tryz.prog 7 #[.pointer (some ⟨lb,0,none⟩),.int .i64 a] wr fun r w'=>r = .returned .nilIface∧TrpSt w lb p m j (k+1) E E vb w':=by
 obtain⟨FL0,l0,hl0⟩:=h.vs.lg.low10;refine(ltrim1 wr l0 h.log ha (by omega) h.vs.lay).mono ?_
 rintro r w' ⟨rfl,t0⟩;have hf:=h.log.trim ha (by omega) h.tt
 obtain⟨FL',s',k',vs'⟩:=h.vs.logTo (L':=trimLg L a) (by show(L.shs.map _).length=_;rw[List.length_map]) hl0 t0
 have nFL:∀g,FL' g→w.heap.size≤g:=fun g y=>by
  rcases s' g y with u|u
  ·exact h.new g (.inr (.inl u))
  ·exact Nat.le_trans h.keep.size u
 have nm:∀g,(g=m∨TM g)→¬FL' g:=fun g y z=>by
  rcases s' g z with u|u
  ·rcases y with y|y
   ·subst y;exact h.mout.2.2.2 u
   ·exact(h.tm g y).2.2.2.1 u
  ·rcases y with y|y
   ·subst y;have:=zF.lt h.mp;omega
   ·have:=(h.tm g y).2.1;omega
 refine⟨rfl,F,FL',T,TM,q,max t a,lv,ms,X,trimLg L a,C,D,vs',h.tdk,h.fuse,h.tb,h.all,h.few,hf,by omega,by have:=h.tt;omega,h.keep.trans k' (fun _ _ y=>y) (fun g hg y=>by have:=h.new g (.inr (.inl y));omega),fun g y=>?_,h.mp.keep k' (fun y=>h.mout.2.2.2 y) (fun g y z=>(h.tm g y).2.2.2.1 z) (fun _ y=>y),⟨h.mout.1,h.mout.2.1,h.mout.2.2.1,nm m (.inl rfl)⟩,h.mT,h.size,h.was,fun g y=>?_,h.ends,fun b b1 b2=>by omega⟩
 ·rcases y with y|y|y
  ·exact h.new g (.inl y)
  ·exact nFL g y
  ·exact h.new g (.inr (.inr y))
 ·obtain⟨a1,a2,a3,a4,a5,a6⟩:=h.tm g y
  exact⟨a1,k'.lt a2,a3,nm g (.inr y),a5,a6⟩
theorem zqo (h:Trp F FL T TM w wr lb p m j k E E vb q t lv ms X L C D)(hj:j≤4)(n:Int){fs:List Int}{fa:Option Addr}{fc:Nat}(hf:∀W,za zq2 w W→∀(i:Nat) x,fs[i]? = some x→∃g off,fa=some ⟨g,off,none⟩∧W.cell? ⟨g,off+i,none⟩=some (.int .i64 x))(hfl:fs.length≤10) :
 Calls Tryz.prog 10 #[.pointer (some ⟨vb,0,none⟩),.pointer (some ⟨lb,0,none⟩),.pointer (some ⟨p,0,none⟩),.int .i64 n,.slice fa fs.length fc] wr fun e w'=>∃vb' E',e = .returned (.tuple #[.pointer (some ⟨vb',0,none⟩),.bool true])∧TrpSt w lb p m (j+1) k E E' vb' w':=by
 have hEe:=h.ends.2;by_cases hr:((E:Nat):Int)<n∧n≤L.next
 ·obtain⟨n',rfl⟩:∃n':Nat,n=n':=⟨n.toNat,by omega⟩
  have hnx:=h.log.next;refine(zen (C:=C) (n:=n') (lo:=E) (t:=t) (tr:=max t (zT ms).trim) (fs:=fs) (fa:=fa) (fc:=fc) wr h.vs h.tb h.all h.tdk h.fuse (by have:=h.few;omega) h.log.log h.log.low h.tt hEe (fun a _ _ h3=>h.log.three h3) rfl (by omega) (by omega) (fun W kW=>hf W (h.keep.trans kW (fun _ _ y=>y) (fun g hg y=>?_))) hfl).mono ?_
  ·rcases y with y|y
   ·have:=h.new g (.inl y);omega
   ·have:=h.new g (.inr (.inr y));omega
  ·rintro e w' ⟨v,rfl,F',T',b',q',lv',c,Z,rfl,r,vs',tZ,fZ,elo,ehi,etr,zE⟩
   obtain⟨zB,zA⟩:=zE;rw[elo] at zB;have hend:zbr (ms ++ [exT ms c])=n':=by unfold zbr;rw[zbn];exact ehi
   have sF:∀g,F' g→F g∨wr.heap.size≤g:=r.sub;have hws:=h.keep.size;have nm:∀g,(g=m∨TM g)→g<wr.heap.size∧¬F g∧¬F' g∧g≠vb∧g≠b':=fun g y=>by
    have h1:g<wr.heap.size∧¬F g∧g≠vb:=by
     rcases y with y|y
     ·subst y;exact⟨zF.lt h.mp,h.mout.2.2.1,h.mout.2.1⟩
     ·exact⟨(h.tm g y).2.1,(h.tm g y).2.2.1,(h.tm g y).2.2.2.2.1⟩
    refine⟨h1.1,h1.2.1,fun z=>?_,h1.2.2,fun z=>?_⟩
    ·rcases sF g z with u|u
     ·exact h1.2.1 u
     ·omega
    ·rcases r.vb with u|u
     ·exact h1.2.2 (z.trans u)
     ·omega
   refine⟨b',n',rfl,F',FL,T',TM,q',t,lv',ms ++ [exT ms c],Z,L,joinC C L E,D,vs',tZ,fZ,zB,zA,by rw[List.length_append,List.length_singleton];have:=h.few;omega,h.log,h.kk,h.tt,h.keep.trans r.kp (fun _ _ y=>y) (fun g hg y=>?_),fun g y=>?_,h.mp.keep r.kp (fun y=>?_) (fun g y z=>?_) (fun _ y=>y),⟨h.mout.1,(nm m (.inl rfl)).2.2.2.2,(nm m (.inl rfl)).2.2.1,h.mout.2.2.2⟩,fun y=>?_,h.size,fun a ha=>?_,fun g y=>?_,⟨by omega,hend.symm⟩,fun a a1 a2=>?_⟩
   ·rcases y with y|y
    ·have:=h.new g (.inl y);omega
    ·have:=h.new g (.inr (.inr y));omega
   ·rcases y with y|y|y
    ·rcases sF g y with u|u
     ·exact h.new g (.inl u)
     ·omega
    ·exact h.new g (.inr (.inl y))
    ·rcases r.vb with u|u
     ·exact h.new g (.inr (.inr (y.trans u)))
     ·omega
   ·rcases y with y|y
    ·exact h.mout.2.2.1 y
    ·exact h.mout.2.1 y
   ·rcases z with z|z
    ·exact(h.tm g y).2.2.1 z
    ·exact(h.tm g y).2.2.2.2.1 z
   ·rcases r.tt m y with u|u
    ·exact h.mT u
    ·have:=zF.lt h.mp;omega
   ·unfold joinC
    rw[if_pos ha];exact h.was a ha
   ·obtain⟨a1,a2,a3,a4,a5,a6⟩:=h.tm g y
    exact⟨a1,Nat.lt_of_lt_of_le a2 r.kp.size,(nm g (.inr y)).2.2.1,a4,(nm g (.inr y)).2.2.2.2,a6⟩
   ·unfold joinC
    rw[if_neg (by omega)]
 ·refine(zh1 (lo:=E) n wr h.vs h.tb h.all h.tdk h.log.log hEe hr).mono ?_
  rintro e w' ⟨rfl,kn⟩;have h':=h.keepNon kn;exact⟨vb,E,rfl,F,FL,T,TM,q,t,lv,ms,X,L,C,D,h'.vs,h'.tdk,h'.fuse,h'.tb,h'.all,by have:=h'.few;omega,h'.log,h'.kk,h'.tt,h'.keep,h'.new,h'.mp,h'.mout,h'.mT,h'.size,h'.was,h'.tm,h'.ends,h'.now⟩
theorem ziW (h:Trp F FL T TM w wr lb p m j k e E vb q t lv ms X L C D):(∀W,za zq2 wr W→Calls Tryz.prog 9 #[.pointer (some ⟨vb,0,none⟩)] W fun r w'=>∃v,r = .returned v∧za zq2 W w'∧zai (fun g=>W.heap.size≤g∧g<w'.heap.size) w' v ms)∧∀W v T',zai T' W v ms→Calls Tryz.prog 8 #[v] W fun r w'=>r = .returned (.int .i64 E)∧za zq2 W w':=by
 have hf:=h.tb.few;refine⟨fun W kn=>zar T vb q lv ms W (zh kn h.vs.vt) (h.vs.ms.keepNon kn) h.tb.p32 (by omega),fun W v T' hv=>?_⟩
 rw[h.ends.2];exact zbN T' v ms W hv (by omega)
theorem zoO (h:Trp F FL T TM w wr lb p m j k e E vb q t lv ms X L C D)(he:e<E) :
 Calls Tryz.prog 11 #[.pointer (some ⟨lb,0,none⟩),.int .i64 e] wr fun r w'=>∃v,r = .returned (.tuple #[.agg #[.int .i64 (C e).1,v],.nilIface])∧za zq2 wr w'∧w'.ownsRow wr.heap.size 5 1 v (C e).2.length ((C e).2.map bv):=by
 have h1:=h.log.log;have hpos:0<L.shs.length:=by rw[h.log.one];omega
 have hE:E≤200:=by rw[h.ends.2];exact h.tb.stop
 obtain⟨he1,hup⟩:=h1.unit e;have hx0:(uat (unitL L e).l (unitL L e).D e).2.length≤100000000:=by have:=(h1.cells e).2.2.1;unfold zbx at this;omega
 have hc:C e=zbx L e:=h.now e (Nat.le_refl _) he;rw[hc];rcases h1.home e with ⟨u,hu,hs⟩|⟨v,u,hu,hs⟩
 ·exact zdN wr h.vs.lg hpos hu hs he1 hup (by omega) hx0
 ·exact zf1 wr h.vs.lg hpos hu hs he1 hup (by omega) hx0
theorem Trp.put (h:Trp F FL T TM w wr lb p m j k e E vb q t lv ms X L C D)(he:e<E){w2 w3:World}{u:Value}(k2:za zq2 wr w2)(hown:∀g,u.ownBlock=some g→wr.heap.size≤g∧g<w2.heap.size)(hm:zF w3 3 (zcS w2 (fun g=>TM g∨u.ownBlock=some g)) m (D.put (ulit e) (.held (C e))))(k3:za (zq3 m) w2 w3)(h10:10≤w.heap.size) :
 Trp F FL T (fun g=>TM g∨u.ownBlock=some g) w w3 lb p m j k (e+1) E vb q t lv ms X L C (uput D e (C e)):=by
 have hmp:=h.mp;have hml:=zF.lt hmp;have hws:=h.keep.size;have k2s:=k2.size;have nu:∀g,(TM g∨u.ownBlock=some g)→w.heap.size≤g∧g<w2.heap.size∧¬F g∧¬FL g∧g≠vb∧g≠m:=fun g y=>by
  rcases y with y|y
  ·obtain⟨a1,a2,a3⟩:=h.tm g y
   exact⟨a1,k2.lt a2,a3⟩
  ·have h1:=hown g y
   have h2:=lt_of_block h.vs.vt;exact⟨by omega,h1.2,fun z=>by have:=(h.vs.low g z).2;omega,fun z=>by have:=h.vs.lowL g z;omega,by omega,by omega⟩
 have h2:=h.keepNon k2;refine⟨?_,h.tdk,h.fuse,h.tb,h.all,h.few,h.log,h.kk,h.tt,h2.keep.trans k3 (fun _ _ y=>y) (fun g hg y=>by have y':g=m:=y;have:=h.mout.1;omega),h.new,?_,h.mout,h.mT,?_,fun a ha=>?_,fun g y=>?_,⟨by omega,h.ends.2⟩,fun a a1 a2=>h.now a (by omega) a2⟩
 ·exact h2.vs.keepS k3 (fun g y=>by have y':g=m:=y;rw[y'];exact⟨h.mout.2.2.1,h.mout.2.2.2,h.mT,h.mout.2.1,by have:=h.mout.1;omega⟩)
 ·exact zF.keep hm (za.refl zq2 w3) (fun y=>y) (zcS.fun1 _ _) (fun v x hx=>hx.keep k3 (fun g y z=>(nu g y).2.2.2.2.2 z) (fun _ y=>y))
 ·have:=zc5 hmp.isMap e (C e)
  have:=h.size;omega
 ·by_cases c:a=e
  ·rw[c,zck hmp.isMap]
  ·rw[zbe c]
   exact h.was a (by omega)
 ·obtain⟨a1,a2,a3⟩:=nu g y
  exact⟨a1,k3.lt a2,a3⟩
end
theorem zgU {a:Option Addr}{c:Nat}{xs:List Int}{w:World}(h:Rd w (.slice a xs.length c) (xs.map (fun x=>Value.int .i64 x)))(W:World)(k:za zq2 w W)(i:Nat)(x:Int)(hx:xs[i]? = some x):∃g off,a=some ⟨g,off,none⟩∧W.cell? ⟨g,off+i,none⟩=some (.int .i64 x):=by
 obtain⟨a',c',e,h1⟩:=h.keepNon k;injection e with e1 e2 e3
 obtain⟨g,off,e4,hc⟩:=h1 (by intro e;rw[List.map_eq_nil_iff] at e;rw[e] at hx;simp at hx)
 exact⟨g,off,e1.trans e4,hc i _ (by rw[List.getElem?_map,hx];rfl)⟩
theorem zoK (un:Int)(n:Nat):∃t:Nat,t≤n∧(IntKind.wrap .u64 un).tmod ((n:Int)+1)=t:=by
 have h0:0≤IntKind.wrap .u64 un:=by
  have e:(2^IntKind.u64.bits:Int)=18446744073709551616:=rfl;unfold IntKind.wrap;simp only[e];rw[if_neg (by simp[IntKind.signed])]
  omega
 have h1:=Int.tmod_nonneg ((n:Int)+1) h0;have h2:=Int.tmod_lt_of_pos (IntKind.wrap .u64 un) (show(0:Int)<(n:Int)+1 by omega)
 exact⟨((IntKind.wrap .u64 un).tmod ((n:Int)+1)).toNat,by omega,by omega⟩
theorem zmT (un:Int){n:Nat}(h:n≤200):∃t:Nat,t≤200∧(IntKind.wrap .u64 un).tmod ((n:Int)+1)=t∧IntKind.wrap .i64 ((n:Int)+1)=(n:Int)+1∧IntKind.wrap .u64 ((n:Int)+1)=(n:Int)+1∧IntKind.wrap .i64 (t:Int)=(t:Int)∧¬((n:Int)+1=0):=by
 obtain⟨t,ht,et⟩:=zoK un n;refine⟨t,by omega,et,IntWalk.i64_in _ (by omega),?_,IntWalk.i64_in _ (by omega),by omega⟩
 have e:=zX (n:=n+1) (by omega)
 rw[show((n+1:Nat):Int)=(n:Int)+1 by omega] at e
 exact e
theorem zmV {F FL:Nat→Prop}{w w3:World}{b lb q p:Nat}{cl:List Cl}(v1:VtSt F FL w3 b lb q p (dk0 16777216) (bagL cl))(lo:∀g,(F g∨g=b∨FL g)→w.heap.size≤g)(k3:za zq2 w w3)(hcl:cl.length≤200):TrpSt w lb p w3.heap.size 0 0 0 0 b (w3.alloc (.map #[] 0)):=by
 have kA:za zq2 w3 (w3.alloc (.map #[] 0)):=(za.refl _ _).alloc _;have hb:=lt_of_block v1.vt;have hz:=k3.size;have tb:=zo8 (C:=fun _=>(0,[])) (fun _=>zgo)
 refine⟨F,FL,zq2,zq2,q,0,_,[],dk0 16777216,bagL cl,fun _=>(0,[]),.map [],v1.chain.keepNon kA,zmK,by decide,tb.1,tb.2,Nat.le_refl _,(zbj cl hcl).trims hcl,by omega,by omega,k3.trans1 kA,fun g y=>?_,zF.new w3 _ _,⟨hz,by omega,fun y=>?_,fun y=>?_⟩,fun y=>y,Nat.le_refl _,fun a ha=>absurd ha (Nat.not_lt_zero _),fun g y=>y.elim,⟨Nat.le_refl _,rfl⟩,fun a _ ha=>absurd ha (Nat.not_lt_zero _)⟩
 ·rcases y with y|y|y
  ·exact lo g (.inl y)
  ·exact lo g (.inr (.inr y))
  ·exact lo g (.inr (.inl y))
 ·have:=(v1.low _ y).2;omega
 ·have:=v1.chain.lowL _ y;omega
theorem TrpSt.keepNon {w wr w':World}{lb p m j k e E vb:Nat}(h:TrpSt w lb p m j k e E vb wr)(kn:za zq2 wr w'):TrpSt w lb p m j k e E vb w':=by
 obtain⟨F,FL,T,TM,q,t,lv,ms,X,L,C,D,h⟩:=h;exact⟨F,FL,T,TM,q,t,lv,ms,X,L,C,D,h.keepNon kn⟩
theorem TrpSt.le {w wr:World}{lb p m j k e E vb:Nat}(h:TrpSt w lb p m j k e E vb wr):e≤E:=by
 obtain⟨F,FL,T,TM,q,t,lv,ms,X,L,C,D,h⟩:=h;exact h.ends.1
theorem TrpSt.top {w wr:World}{lb p m j k e E vb:Nat}(h:TrpSt w lb p m j k e E vb wr):E≤200:=by
 obtain⟨F,FL,T,TM,q,t,lv,ms,X,L,C,D,h⟩:=h;rw[h.ends.2];exact h.tb.stop
theorem TrpSt.kp {w wr:World}{lb p m j k e E vb:Nat}(h:TrpSt w lb p m j k e E vb wr):za zq2 w wr:=by
 obtain⟨F,FL,T,TM,q,t,lv,ms,X,L,C,D,h⟩:=h;exact h.keep
theorem zno {w:World}{base:Nat}{T:Nat→Prop}{v:Value}{k:Int}{l:List UInt8}(o:w.ownsRow base 5 1 v l.length (l.map bv)):zcS w (fun g=>T g∨v.ownBlock=some g) (.agg #[.int .i64 k,v]) (k,l) :=
 ⟨v,rfl,Rd.ofOwns o,fun g e=>.inr e⟩
theorem zmU {C:Nat→Cl}{X:Fl}{ms:List Mf}{FR:Nat→Prop}{lr n a:Nat}{L:Lg}{D:Un}{w W:World}(hL:zaH FR w lr 2 (endL (zcI ms n) n L))(hR:R2 C (zcI ms n) n L)(k:za zq2 w W)(hb:TB C X ms)(hn:n≤zbr ms)(h200:n≤200)(ha:a<n)(hw:zaT D a=C a) :
 ∃kx lx,Calls Tryz.prog 11 #[.pointer (some ⟨lr,0,none⟩),.int .i64 a] W (fun r w'=>∃v,r = .returned (.tuple #[.agg #[.int .i64 kx,v],.nilIface])∧za zq2 W w'∧w'.ownsRow W.heap.size 5 1 v lx.length (lx.map bv))∧(a<whoT ms n→kx=3)∧(whoT ms n≤a→zaT D a=(kx,lx)):=by
 have hmk:=znW ms n;obtain⟨s,hs,hse,hsd,hu⟩:=hR.fin h200 (by omega) ha
 have hlen:(uat s.l s.D a).2.length≤64:=by
  rw[hu]
  split
  ·exact Nat.zero_le _
  ·split
   ·exact(hb.cells a).2.2.1
   ·exact Nat.zero_le _
 have rd:=zdN W (hL.keepNon k) (by omega) (zir a) hs hse hsd (by omega) (by omega)
 refine⟨_,_,rd,fun h=>?_,fun h=>?_⟩
 ·rw[hu,if_pos (by omega)]
 ·rw[hw,hu,if_neg (by omega)]
  exact(zkB hb hn ha h).symm
section
variable {P : Program} {α : Type} {R : Value → α → Prop} {kt : TypeId} {b : Nat} {D : DataW α} {w : World}
variable {ops : Array Oper} {rest : List Oper} {o : Oper} {a : Act} {Q : Exit → Act → World → Prop}
theorem zg1 (hw:Region.wanted o (yielded ops a.tmps)=true)(m x:Operand)(t:TypeId)(hop:o.op=Op.lookup t m x false)
 (e:TypeId) (K:Keyed Tryz.prog kt) (ht:Tryz.prog.underlying t=some (.map kt e)) {z:Value} (hz:(zeroValue e).run Tryz.prog w = .ok z w) (x0:α) (hf:Fun1 R) (hz0:R z x0)
 (hm:a.eval m = .map (some b)) (hown:zF w kt R b D) (key:Value) (kl:Lit) (hx:a.eval x=key) (hkey:keyOf Tryz.prog kt key=some kl)
 (hK:∀v y,R v y→D.atKey kl (.held x0) = .held y→wpList Tryz.prog ops Q rest (a.put o.dst v) w) :
 wpList Tryz.prog ops Q (o::rest) a w:=by
 refine wpList_step fun K' hK'=>?_
 rw[if_pos hw];obtain⟨v,ps,hrun,hv⟩:=World.ownsMap.lookup hown K ht hz (zcu hf hz0) hkey;obtain⟨_,y,hy,hr⟩:=zbo hv;unfold Oper.wp;simp[execOp,hop,hm,hx,hrun,Result.andThen];exact hK' _ _ (hK v y hr hy)
end
section
attribute [local go_sem ↓] zbB zU zbC zbD zV zbE zab zbK
theorem zqm (v ev tv fv:Value)(cl:List Cl)(es ts fs:List Int)(N:Int)(w:World)(hc:zbF w v cl)(hm:cl.length≤9223372036854775807)(he:Rd w ev (es.map (fun x=>Value.int .i64 x)))(ht:Rd w tv (ts.map (fun x=>Value.int .i64 x)))(hf:Rd w fv (fs.map (fun x=>Value.int .i64 x)))(hlay:Lay w)(h10:10≤w.heap.size)(hlong:longL cl=false)(hcl:cl.length≤200)(h5:es.length≤5)(ht5:ts.length≤5)(hf10:fs.length≤10) :
 Calls Tryz.prog 3 #[v,.agg #[ev,tv,.int .i64 N],fv] w fun e w'=>e = .returned (.bool true)∧za zq2 w w':=by
 have BK:=zz0 (fun W (k:za zq2 w W)=>zgl W (hlay.keepNon k) (Nat.le_trans h10 k.size))
 have LG:=zz0 (fun W (k:za zq2 w W)=>zjN v cl W (hc.keep k (fun _ _ e=>e)) hm)
 rw[hlong] at LG;have BG:=zz0 (fun W (k:za zq2 w W)=>zjW v cl W (hc.keep k (fun _ _ e=>e)) hcl (hlay.keepNon k) (Nat.le_trans h10 k.size))
 have H10:=zz0 h10;have hcl0:=hcl;obtain⟨xa,xc,rfl,hx⟩:=hc;obtain⟨ea,ec,rfl,-⟩:=id he;obtain⟨ta,tc,rfl,-⟩:=id ht;obtain⟨fa,fc,rfl,-⟩:=id hf;rw[List.length_map] at *;have HE:=zz0 (zgU he);have HT:=zz0 (zgU ht);have HF:=zz0 (zgU hf);have h5':¬(5:Int)<(es.length:Int):=by omega
 have ht5':¬(5:Int)<(ts.length:Int):=by omega
 have hf10':¬(10:Int)<(fs.length:Int):=by omega
 have hmm:=@run_makeMap Tryz.prog;have K0:Hid (za zq2 w (w.alloc (.cells #[.slice ea es.length ec,.slice ta ts.length tc,.int .i64 N] 25))):=zz0 ((za.refl _ _).alloc _);have SBC:Hid (∀W,za zq2 (w.alloc (.cells #[.slice ea es.length ec,.slice ta ts.length tc,.int .i64 N] 25)) W→W.cell? ⟨w.heap.size,0,none⟩=some (.slice ea es.length ec)∧W.cell? ⟨w.heap.size,1,none⟩=some (.slice ta ts.length tc)∧W.cell? ⟨w.heap.size,2,none⟩=some (.int .i64 N)):=zz0 (fun W k=>by
  have hb:=zh k (ze w (.cells #[.slice ea es.length ec,.slice ta ts.length tc,.int .i64 N] 25));exact⟨by simp[World.cell?,hb],by simp[World.cell?,hb],by simp[World.cell?,hb]⟩)
 clear hx hlay h10 hlong he ht hf
 go_enter Tryz.func3,Tryz.ntmps3
 go_wp2_with(first
  |(go_at_call 4;refine(BK.out _ K0.out).mono ?_;rintro e w1 ⟨rfl,k1⟩;have K01:=zz0 k1;have K1:=zz0 (K0.out.trans1 k1);clear k1)
  |(go_at_call 5;refine(LG.out _ K1.out).mono ?_;rintro e w2 ⟨rfl,k2⟩;have K02:=zz0 (K01.out.trans1 k2);have K2:=zz0 (K1.out.trans1 k2);obtain⟨b0,b1,-⟩:=SBC.out w2 K02.out;clear k2)
  |(go_at_call 6;refine(BG.out _ K2.out).mono ?_;rintro e w3 ⟨lb,b,p,q,F,FL,rfl,k3,v1,lo1⟩;have K3:=zz0 k3;have S3:=zz0 (zmV v1 lo1 k3 hcl0);obtain⟨b0,b1,-⟩:=SBC.out _ ((K02.out.trans1 k3).alloc (.map #[] 0));clear k3 v1 lo1))
 go_loopw [8,61] (fun vv i wr=>∃j k E vb:Nat,j≤es.length∧k≤j∧i = .int .i64 j∧vv = .pointer (some ⟨vb,0,none⟩)∧TrpSt w2 lb p w3.heap.size j k E E vb wr) (fun _ i _=>es.length-(intOf i).toNat)
 case atStart=>exact⟨0,0,0,b,by omega,by omega,rfl,rfl,S3.out⟩
 case round =>
  obtain⟨j,k,E,vb,hj,hk,rfl,rfl,sp⟩:=hrel;have SP:=zz0 sp;have H10':Hid (10≤w2.heap.size):=zz0 (Nat.le_trans H10.out K2.out.size);have KWR:Hid (za zq2 w2 wr):=zz0 (by obtain⟨_,_,_,_,_,_,_,_,_,_,_,_,y⟩:=sp;exact y.keep)
  clear sp S3 b0 b1;by_cases hlt:j<es.length
  ·have hlj:(j:Int)<(es.length:Int):=by omega
   obtain⟨y,hy⟩:∃y,es[j]? = some y:=⟨_,List.getElem?_eq_getElem hlt⟩;obtain⟨ge,oe,rfl,hce⟩:=HE.out wr (K2.out.trans1 KWR.out) j y hy;obtain⟨-,b1,-⟩:=SBC.out wr (K02.out.trans1 KWR.out);clear hy;by_cases htr:j<ts.length
   case' pos =>
    have htj:(j:Int)<(ts.length:Int):=by omega
    obtain⟨un,hun⟩:∃y,ts[j]? = some y:=⟨_,List.getElem?_eq_getElem htr⟩;obtain⟨gt,ot,rfl,hct⟩:=HT.out wr (K2.out.trans1 KWR.out) j un hun;obtain⟨t,ht200,et,hw1,hw2,hw3,hne⟩:=zmT un hcl0;have TR:Hid (Calls Tryz.prog 7 #[.pointer (some ⟨lb,0,none⟩),.int .i64 t] wr fun r w'=>r = .returned .nilIface∧TrpSt w2 lb p w3.heap.size j (k+1) E E vb w'):=zz0 (by
     obtain⟨F,FL,T,TM,q,t0,lv,ms,X,L,C,D,tp⟩:=SP.out;exact zoP tp (by omega) ht200)
    clear hun
    go_wp2_with(go_at_call 7;((with_reducible refine TR.out.mono ?_);rintro e wt ⟨rfl,st⟩;have ST:=zz0 st;clear st))
    have HK:=zz0 (show k+1≤j+1 by omega)
    generalize k+1=k' at ST HK
   case' neg =>
    have htj:¬(j:Int)<(ts.length:Int):=by omega
    have ST:=SP
    go_wp2_with fail
    have HK:=zz0 (show k≤j+1 by omega)
    generalize k=k' at ST HK
   all_goals
    clear SP KWR hce b1 htj;obtain⟨F,FL,T,TM,q,t0,lv,ms,X,L,C,D,tp⟩:=ST.out;have CHN:=zz0 (ziW tp);have CH0:=zz0 (CHN.out.1 _ (za.refl _ _));have TP:=zz0 tp;clear tp ST
    go_wp2_with(first
     |(go_at_call 9;((with_reducible refine CH0.out.mono ?_);rintro e wc ⟨vc,rfl,kc,mc⟩;have KC:=zz0 kc;have EN0:=zz0 (CHN.out.2 _ vc _ mc);clear kc mc))
     |(go_at_call 8;((with_reducible refine EN0.out.mono ?_);rintro e wd ⟨rfl,kd⟩;have KD:=zz0 (KC.out.trans1 kd);have TP2:=TP.out.keepNon (KC.out.trans1 kd);have EX:Hid (Calls Tryz.prog 10 #[.pointer (some ⟨vb,0,none⟩),.pointer (some ⟨lb,0,none⟩),.pointer (some ⟨p,0,none⟩),.int .i64 y,.slice fa fs.length fc] wd fun e w'=>∃vb' E',e = .returned (.tuple #[.pointer (some ⟨vb',0,none⟩),.bool true])∧TrpSt w2 lb p w3.heap.size (j+1) k' E E' vb' w'):=zz0 (by
        have hj4:j≤4:=by omega
        exact zqo TP2 hj4 y (fun W k=>HF.out W (K2.out.trans1 k)) hf10);clear kd TP2))
     |(go_at_call 10;((with_reducible refine EX.out.mono ?_);rintro e we ⟨vb',E',rfl,se⟩;have SE:=zz0 se;clear se)))
    clear CHN CH0 TP KC EN0 EX
    go_loopw [15] (fun i wr'=>∃e:Nat,e≤E'∧i = .int .i64 e∧TrpSt w2 lb p w3.heap.size (j+1) k' e E' vb' wr') (fun i _=>E'-(intOf i).toNat)
    case atStart=>exact⟨E,SE.out.le,rfl,SE.out⟩
    case round =>
     obtain⟨e,hee,rfl,se⟩:=hrel;have hE2:=se.top;obtain⟨F,FL,T,TM,q,t0,lv,ms,X,L,C,D,tp⟩:=se;have CHN:=zz0 (ziW tp);have CH0:=zz0 (CHN.out.1 _ (za.refl _ _));have TP:=zz0 tp;have MPL:=zz0 (zF.lt tp.mp);clear tp SE;by_cases hel:e<E'
     ·have hle:(e:Int)<(E':Int):=by omega
      obtain⟨kx,lx,hC⟩:∃kx lx,C e=(kx,lx):=⟨_,_,rfl⟩;have HC:=zz0 hC;have RD:Hid (∀W,za zq2 wr W→Calls Tryz.prog 11 #[.pointer (some ⟨lb,0,none⟩),.int .i64 e] W fun r w'=>∃v,r = .returned (.tuple #[.agg #[.int .i64 kx,v],.nilIface])∧za zq2 W w'∧w'.ownsRow W.heap.size 5 1 v lx.length (lx.map bv)):=zz0 (fun W k=>by
       have h:=zoO (TP.out.keepNon k) hel;rw[hC] at h;exact h)
      clear hC
      go_wp2_with(first
       |(go_at_call 9;((with_reducible refine CH0.out.mono ?_);rintro r wc ⟨vc,rfl,kc,mc⟩;have KC:=zz0 kc;have EN0:=zz0 (CHN.out.2 _ vc _ mc);clear kc mc))
       |(go_at_call 8;((with_reducible refine EN0.out.mono ?_);rintro r wd ⟨rfl,kd⟩;have KD:=zz0 (KC.out.trans1 kd);have RDW:=zz0 (RD.out wd (KC.out.trans1 kd));clear kd))
       |(go_at_call 11;((with_reducible refine RDW.out.mono ?_);rintro r w6 ⟨VV,rfl,k6,o6⟩;obtain⟨a6,c6,rfl,_,_⟩:=zb o6;have K6:=zz0 (KD.out.trans1 k6);have O6:=zz0 o6;have KZ:=zz0 ((za.refl zq2 w6).alloc (zqZ kx (Value.slice a6 lx.length c6)));have MP:Hid (∀W,za zq2 w6 W→zF W 3 (zcS W (fun g=>TM g∨(Value.slice a6 lx.length c6).ownBlock=some g)) w3.heap.size D∧zcS W (fun g=>TM g∨(Value.slice a6 lx.length c6).ownBlock=some g) (.agg #[.int .i64 kx,(Value.slice a6 lx.length c6)]) (kx,lx)):=zz0 (fun W k=>⟨CsMap.keep TP.out.mp ((KD.out.trans1 k6).trans1 k) (fun z=>z) (fun _ _ z=>z) (fun _ z=>.inl z),(zno o6).keep k (fun _ _ z=>z) (fun _ z=>z)⟩);dsimp only[zqZ] at KZ;clear k6 o6))
       |(at_mapUpdate;refine zbS rfl _ _ _ 33 rfl 45 zbm Tryz.underlying33 (zcS.fun1 _ _) rfl (MP.out _ KZ.out).1 (by have:=TP.out.size;unfold maxLen;omega) _ _ _ rfl rfl (zee e (by omega)) (kx,lx) (MP.out _ KZ.out).2 ?_;intro w8 hm8 ht8;have M8:=zz0 hm8;have K8:=zz0 (zav ht8);clear hm8 ht8))
      have hm8:=M8.out;rw[←HC.out] at hm8;have hlt6:wr.heap.size≤w6.heap.size:=K6.out.size;have hown6:∀g,(Value.slice a6 lx.length c6).ownBlock=some g→wr.heap.size≤g∧g<w6.heap.size:=fun g e=>by
       have:=O6.out.lt g e;have:=KD.out.size;omega
      exact⟨⟨e+1,by omega,by first|rfl|go_num,⟨F,FL,T,_,q,t0,lv,ms,X,L,C,_,Trp.put TP.out hel (K6.out.trans1 KZ.out) (fun g e=>⟨(hown6 g e).1,Nat.lt_of_lt_of_le (hown6 g e).2 KZ.out.size⟩) hm8 K8.out H10'.out⟩⟩,by simp[intOf];omega⟩
     ·have hle:¬(e:Int)<(E':Int):=by omega
      obtain rfl:e=E':=by omega
      go_wp2_with(first
       |(go_at_call 9;((with_reducible refine CH0.out.mono ?_);rintro r wc ⟨vc,rfl,kc,mc⟩;have KC:=zz0 kc;have EN0:=zz0 (CHN.out.2 _ vc _ mc);clear kc mc))
       |(go_at_call 8;((with_reducible refine EN0.out.mono ?_);rintro r wd ⟨rfl,kd⟩;have KD:=zz0 (KC.out.trans1 kd);clear kd)))
      exact⟨⟨j+1,k',e,vb',by omega,HK.out,by first|rfl|go_num,rfl,⟨F,FL,T,TM,q,t0,lv,ms,X,L,C,D,TP.out.keepNon KD.out⟩⟩,by simp[intOf];omega⟩
  ·have hlj:¬(j:Int)<(es.length:Int):=by omega
   have hE2:=SP.out.top;obtain⟨F,FL,T,TM,q,t0,lv,ms,X,L,C,D,tp⟩:=SP.out;have CHN:=zz0 (ziW tp);have CH0:=zz0 (CHN.out.1 _ (za.refl _ _));have TP:=zz0 tp;have hEe:=tp.ends.2;have HEE:=zz0 hEe;have hfew:ms.length≤5:=by have:=tp.few;omega
   have hbg:beginM ms=0:=by
    cases ms with
    |nil=>rfl
    |cons m r=>exact tp.tb.zero m rfl
   clear tp SP;by_cases hno:ms = []∨N<0∨((zbr ms:Nat):Int)<N
   ·have RN:Hid (∀W,za zq2 wr W→Calls Tryz.prog 12 #[.pointer (some ⟨vb,0,none⟩),.int .i64 N] W fun e w'=>e = .returned (.tuple #[.pointer none,.bool true])∧za zq2 W w'):=zz0 (fun W k=>ziK W ((TP.out.keepNon k).vs.vin TP.out.tdk TP.out.tb) (by have:=(KWR.out.trans1 k).size;have:=H10'.out;omega) hno)
    have hcase:(((ms.length:Int)==0)=true)∨(((ms.length:Int)==0)=false∧N<0)∨(((ms.length:Int)==0)=false∧¬N<0∧(E:Int)<N):=by
     rw[←hEe] at hno;by_cases h0:ms = []
     ·exact .inl (by rw[h0];rfl)
     ·have h1:((ms.length:Int)==0)=false:=beq_eq_false_iff_ne.2 (by have:=List.length_pos_iff.2 h0;omega)
      rcases hno with h|h|h
      ·exact absurd h h0
      ·exact .inr (.inl ⟨h1,h⟩)
      ·by_cases h2:N<0
       ·exact .inr (.inl ⟨h1,h2⟩)
       ·exact .inr (.inr ⟨h1,h2,h⟩)
    clear hno hEe
    go_wp2_with(first
     |(go_at_call 9;((with_reducible refine CH0.out.mono ?_);rintro r w4 ⟨v4,rfl,k4,m4⟩;have K4:=zz0 k4;have M4:=zz0 m4;have RNW:=zz0 (RN.out w4 k4);obtain⟨a4,c4,rfl,-⟩:=id m4;obtain⟨-,-,b2⟩:=SBC.out w4 (K02.out.trans1 (KWR.out.trans1 k4));clear k4 m4))
     |(go_at_call 12;((with_reducible refine RNW.out.mono ?_);rintro r w5 ⟨rfl,k5⟩;have K5:=zz0 k5;clear k5)))
    have K5D:Hid (za zq2 w4 w5.drew):=zz0 K5.out.drew;have BG5:Hid (Calls Tryz.prog 13 #[.slice a4 ms.length c4] w5.drew fun e w'=>e = .returned (.int .i64 0)∧w'=w5.drew):=zz0 (by
     have h:=zd5 _ _ ms w5.drew (M4.out.keepNon K5D.out);rw[hbg] at h;exact h)
    have EN5:=zz0 (CHN.out.2 w5.drew _ _ (M4.out.keepNon K5D.out));have SBW:Hid (∀W,za zq2 w4 W→W.cell? ⟨w.heap.size,2,none⟩=some (.int .i64 N)):=zz0 (fun W k=>(SBC.out W (K02.out.trans1 ((KWR.out.trans1 K4.out).trans1 k))).2.2)
    have KFIN:Hid (∀W,za zq2 w4 W→za zq2 w W):=zz0 (fun W k=>(K2.out.trans1 (KWR.out.trans1 K4.out)).trans1 k)
    have b5:=SBW.out _ K5D.out;clear hbg b2;rcases hcase with h0|⟨h0,hN⟩|⟨h0,hN,hEN⟩
    ·skip
     refine wp_region_noPanic ?_;refine wp_region_held_drew (S:=fun W=>W.cell? ⟨w.heap.size,2,none⟩=some (.int .i64 N)) (by as_aux_lemma=>kernel_rfl) b5 (fun hHeld=>?_)
     refine tq 0 ?_;refine tq 1 ?_;refine tq 2 ?_;refine tq 3 ?_;refine tq (v:=.bool true) 4 ?_;refine tq 5 ?_;refine tu (i:=6) ?_
     try simp only[Act.put,List.setIfInBounds_toArray,List.set_cons_zero,List.set_cons_succ]
     refine tu (i:=7) ?_
     try simp only[Act.put,List.setIfInBounds_toArray,List.set_cons_zero,List.set_cons_succ]
     refine tu (i:=8) ?_
     try simp only[Act.put,List.setIfInBounds_toArray,List.set_cons_zero,List.set_cons_succ]
     refine tu (i:=9) ?_
     try simp only[Act.put,List.setIfInBounds_toArray,List.set_cons_zero,List.set_cons_succ]
     refine tu (i:=10) ?_
     try simp only[Act.put,List.setIfInBounds_toArray,List.set_cons_zero,List.set_cons_succ]
     refine tq 11 ?_;refine tq 12 ?_;refine tu (i:=13) ?_
     try simp only[Act.put,List.setIfInBounds_toArray,List.set_cons_zero,List.set_cons_succ]
     refine tu (i:=14) ?_
     try simp only[Act.put,List.setIfInBounds_toArray,List.set_cons_zero,List.set_cons_succ]
     refine tu (i:=15) ?_
     try simp only[Act.put,List.setIfInBounds_toArray,List.set_cons_zero,List.set_cons_succ]
     refine tu (i:=16) ?_
     try simp only[Act.put,List.setIfInBounds_toArray,List.set_cons_zero,List.set_cons_succ]
     refine tu (i:=17) ?_
     try simp only[Act.put,List.setIfInBounds_toArray,List.set_cons_zero,List.set_cons_succ]
     refine tq 18 ?_;refine tq 19 ?_;refine tq 20 ?_;refine wpAnyH_done (by as_aux_lemma=>kernel_rfl) ?_ _
     refine NoPanic.normal ?_
     go_wp2_with fail
     go_ret;exact⟨rfl,KFIN.out _ K5D.out⟩
    ·skip
     refine wp_region_noPanic ?_;refine wp_region_held_drew (S:=fun W=>W.cell? ⟨w.heap.size,2,none⟩=some (.int .i64 N)) (by as_aux_lemma=>kernel_rfl) b5 (fun hHeld=>?_)
     refine tq 0 ?_;refine tq 1 ?_;refine tq 2 ?_;refine tq 3 ?_;refine tq (v:=.bool false) 4 ?_;refine tq 5 ?_;refine tq 6 ?_;refine tq 7 ?_;refine tq 8 ?_;refine rc (i:=9) (fun K hK=>?_)
     go_simp;refine BG5.out.mono ?_;rintro r x1 ⟨rfl,rfl⟩
     go_wp2_with fail
     refine hK.out _ _ b5 (fun hHeld1=>?_)
     clear hK K
     try simp only[Act.put,List.setIfInBounds_toArray,List.set_cons_zero,List.set_cons_succ]
     refine tq (v:=.bool true) 10 ?_;refine tq 11 ?_;refine tq 12 ?_;refine tu (i:=13) ?_
     try simp only[Act.put,List.setIfInBounds_toArray,List.set_cons_zero,List.set_cons_succ]
     refine tu (i:=14) ?_
     try simp only[Act.put,List.setIfInBounds_toArray,List.set_cons_zero,List.set_cons_succ]
     refine tu (i:=15) ?_
     try simp only[Act.put,List.setIfInBounds_toArray,List.set_cons_zero,List.set_cons_succ]
     refine tu (i:=16) ?_
     try simp only[Act.put,List.setIfInBounds_toArray,List.set_cons_zero,List.set_cons_succ]
     refine tu (i:=17) ?_
     try simp only[Act.put,List.setIfInBounds_toArray,List.set_cons_zero,List.set_cons_succ]
     refine tq 18 ?_;refine tq 19 ?_;refine tq 20 ?_;refine wpAnyH_done (by as_aux_lemma=>kernel_rfl) ?_ _
     refine NoPanic.normal ?_
     go_wp2_with fail
     go_ret;exact⟨rfl,KFIN.out _ K5D.out⟩
    ·skip
     refine wp_region_noPanic ?_;refine wp_region_held_drew (S:=fun W=>W.cell? ⟨w.heap.size,2,none⟩=some (.int .i64 N)) (by as_aux_lemma=>kernel_rfl) b5 (fun hHeld=>?_)
     refine tq 0 ?_;refine tq 1 ?_;refine tq 2 ?_;refine tq 3 ?_;refine tq (v:=.bool false) 4 ?_;refine tq 5 ?_;refine tq 6 ?_;refine tq 7 ?_;refine tq 8 ?_;refine rc (i:=9) (fun K hK=>?_)
     go_simp;refine BG5.out.mono ?_;rintro r x1 ⟨rfl,rfl⟩
     go_wp2_with fail
     refine hK.out _ _ b5 (fun hHeld1=>?_)
     clear hK K
     try simp only[Act.put,List.setIfInBounds_toArray,List.set_cons_zero,List.set_cons_succ]
     refine tq (v:=.bool false) 10 ?_;refine tq 11 ?_;refine tq 12 ?_;refine tq 13 ?_;refine tq 14 ?_;refine tq 15 ?_;refine rc (i:=16) (fun K hK=>?_)
     go_simp;refine EN5.out.mono ?_;rintro r x2 ⟨rfl,k2⟩;have X2:=zz0 (K5D.out.trans1 k2);have b6:=SBW.out _ (K5D.out.trans1 k2);clear k2
     go_wp2_with fail
     refine hK.out _ _ b6 (fun hHeld2=>?_)
     clear hK K
     try simp only[Act.put,List.setIfInBounds_toArray,List.set_cons_zero,List.set_cons_succ]
     refine tq (v:=.bool true) 17 ?_;refine tq 18 ?_;refine tq 19 ?_;refine tq 20 ?_;refine wpAnyH_done (by as_aux_lemma=>kernel_rfl) ?_ _
     refine NoPanic.normal ?_
     go_wp2_with fail
     go_ret;exact⟨rfl,KFIN.out _ X2.out⟩
   ·have hne:ms≠[]:=fun e=>hno (.inl e)
    obtain⟨n,rfl⟩:∃n:Nat,N=n:=⟨N.toNat,by have:¬N<0:=fun e=>hno (.inr (.inl e));omega⟩
    have hn:n≤zbr ms:=by have:¬((zbr ms:Nat):Int)<n:=fun e=>hno (.inr (.inr e));omega
    have hn200:n≤200:=by omega
    have RSO:Hid (∀W,za zq2 wr W→Calls Tryz.prog 12 #[.pointer (some ⟨vb,0,none⟩),.int .i64 n] W fun e w'=>∃lb FL L,e = .returned (.tuple #[.pointer (some ⟨lb,0,none⟩),.bool true])∧za zq2 W w'∧zaH FL w' lb 2 (endL (zcI ms n) n L)∧R2 C (zcI ms n) n L∧∀g,FL g→W.heap.size≤g):=zz0 (fun W k=>zfy W ((TP.out.keepNon k).vs.vin TP.out.tdk TP.out.tb) (by have:=(KWR.out.trans1 k).size;have:=H10'.out;omega) hne hn rfl)
    have HN:=zz0 hn;clear hno hEe hn hne hbg
    go_wp2_with(first
     |(go_at_call 9;((with_reducible refine CH0.out.mono ?_);rintro r w4 ⟨v4,rfl,k4,m4⟩;have K4:=zz0 k4;have M4:=zz0 m4;have RSW:=zz0 (RSO.out w4 k4);obtain⟨a4,c4,rfl,-⟩:=id m4;obtain⟨-,-,b2⟩:=SBC.out w4 (K02.out.trans1 (KWR.out.trans1 k4));clear k4 m4))
     |(go_at_call 12;((with_reducible refine RSW.out.mono ?_);rintro r w5 ⟨lr,FR,LR,rfl,k5,l5,r5,-⟩;have K5:=zz0 k5;have L5:=zz0 l5;have R5:=zz0 r5;clear k5 l5 r5)))
    have K45:Hid (za zq2 wr w5):=zz0 (K4.out.trans1 K5.out);have SBW:Hid (∀W,za zq2 w5 W→W.cell? ⟨w.heap.size,2,none⟩=some (.int .i64 n)):=zz0 (fun W k=>(SBC.out W (K02.out.trans1 ((KWR.out.trans1 K45.out).trans1 k))).2.2)
    have KFIN:Hid (∀W,za zq2 w5 W→za zq2 w W):=zz0 (fun W k=>(K2.out.trans1 (KWR.out.trans1 K45.out)).trans1 k)
    have hms:(ms.length:Int)-1≤100:=by omega
    clear b2
    go_loopw [20,21] (fun a i wx=>∃(jj:Nat) (x:Int),jj≤ms.length∧i = .int .i64 x∧x=(jj:Int)-1∧a = .int .i64 (whoT (ms.drop jj) n)∧za zq2 w5 wx) (fun _ i _=>(intOf i+1).toNat)
    case atStart=>exact⟨ms.length,_,Nat.le_refl _,rfl,rfl,by rw[List.drop_length];rfl,za.refl _ _⟩
    case round =>
     obtain⟨jj,x,hjj,rfl,hx,rfl,kx⟩:=hrel;have KX:=zz0 kx;have b2:=SBW.out _ kx;have b2d:=SBW.out _ kx.drew;by_cases hj0:jj=0
     ·subst hj0
      obtain rfl:x = -1:=by omega
      clear hx kx b2d;rw[List.drop_zero];have RDF:Hid (∀W,za zq2 w5 W→∀a,a<n→∃kx lx,Calls Tryz.prog 11 #[.pointer (some ⟨lr,0,none⟩),.int .i64 a] W (fun r w'=>∃v,r = .returned (.tuple #[.agg #[.int .i64 kx,v],.nilIface])∧za zq2 W w'∧w'.ownsRow W.heap.size 5 1 v lx.length (lx.map bv))∧(a<whoT ms n→kx=3)∧(whoT ms n≤a→zaT D a=(kx,lx))):=zz0 (fun W k a ha=>zmU L5.out R5.out k TP.out.tb HN.out hn200 ha (TP.out.was a (by have:=HN.out;have:=HEE.out;omega)))
      have TLL:Hid (∀W,za zq2 w5 W→Calls Tryz.prog 15 #[.pointer (some ⟨lr,0,none⟩)] W fun r w'=>r = .returned (.tuple #[.int .i64 n,.nilIface])∧za zq2 W w'):=zz0 (fun W k=>zdO W (L5.out.keepNon k) rfl)
      have MP:Hid (∀W,za zq2 w5 W→zF W 3 (zcS W TM) w3.heap.size D):=zz0 (fun W k=>CsMap.keep TP.out.mp (K45.out.trans1 k) (fun z=>z) (fun _ _ z=>z) (fun _ z=>z))
      generalize whoT ms n=mk0 at RDF ⊢;have SAME:Hid (∀W v u kx lx,Bs W v lx→Bs W u lx→Calls Tryz.prog 14 #[.agg #[.int .i64 kx,v],.agg #[.int .i64 kx,u]] W fun e w'=>e = .returned (.bool true)∧za zq2 W w'):=zz0 (fun W v u kx lx h h'=>by
       have h:=zlg kx kx v u lx lx W h h';rw[beq_self_eq_true,beq_self_eq_true,Bool.and_self] at h;exact h)
      have hz:=Tryz.zeroValue45
      go_wp2_with fail
      go_loopw [22] (fun i wx=>∃a:Nat,a≤n∧i = .int .i64 a∧za zq2 w5 wx) (fun i _=>n-(intOf i).toNat)
      case atStart=>exact⟨0,Nat.zero_le _,rfl,KX.out⟩
      case round =>
       clear KX b2;obtain⟨a,han,rfl,kx⟩:=hrel;have KX:=zz0 kx;have b2:=SBW.out _ kx;clear kx;by_cases hlt2:a<n
       ·have hla:(a:Int)<(n:Int):=by omega
        obtain⟨kx,lx,hrd,hk3,hkD⟩:=RDF.out wr KX.out a hlt2;have RD:=zz0 hrd;have HKD:=zz0 hkD;clear hrd hkD;by_cases hmk:a<mk0
        ·have hmk':(a:Int)<(mk0:Int):=by omega
         have hmk2:¬(mk0:Int)≤(a:Int):=by omega
         obtain rfl:=hk3 hmk;clear hk3
         go_wp2_with(go_at_call 11;((with_reducible refine RD.out.mono ?_);rintro r w6 ⟨VV,rfl,k6,o6⟩;obtain⟨a6,c6,rfl,_,_⟩:=zb o6;have K6:=zz0 k6;have q0:=cl0 (ze w6 (zqZ 3 (Value.slice a6 lx.length c6)));dsimp only[zqZ] at q0;clear k6 o6))
         exact⟨⟨a+1,by omega,by first|rfl|go_num,(KX.out.trans1 K6.out).alloc _⟩,by simp[intOf];omega⟩
        ·have hmk':¬(a:Int)<(mk0:Int):=by omega
         have hmk2:(mk0:Int)≤(a:Int):=by omega
         have hkey:=zee a (by omega)
         clear hk3
         go_wp2_with(first
          |(go_at_call 11;((with_reducible refine RD.out.mono ?_);rintro r w6 ⟨VV,rfl,k6,o6⟩;obtain⟨a6,c6,rfl,_,_⟩:=zb o6;have K6:=zz0 k6;have O6:=zz0 o6;have XB:Hid (∀W,za zq2 w6 W→Bs W (Value.slice a6 lx.length c6) lx):=zz0 (fun W k=>Rd.keepNon (Rd.ofOwns o6) k);have q0:=cl0 (ze w6 (zqZ kx (Value.slice a6 lx.length c6)));have q1:=cl1 (ze w6 (zqZ kx (Value.slice a6 lx.length c6)));have KZ:=zz0 ((za.refl zq2 w6).alloc (zqZ kx (Value.slice a6 lx.length c6)));dsimp only[zqZ] at q0 q1 KZ;clear k6 o6))
          |(at_lookup;refine zg1 (by rfl) _ _ 33 rfl 45 zbm Tryz.underlying33 (hz _) ((0,[]):Cl) (zcS.fun1 _ TM) (zcS.nil _ _ 0) rfl (MP.out _ ((KX.out.trans1 K6.out).trans1 KZ.out)) _ _ rfl hkey ?_;intro lv ly hlv hat;obtain rfl:ly=(kx,lx):=(by have e:zaT D a=ly:=(by unfold zaT;rw[hat];rfl);rw[←e];exact HKD.out (by omega));obtain⟨u,rfl,hub,-⟩:=hlv;have UB:=zz0 hub;obtain⟨ua,uc,rfl,-⟩:=zY hub;dsimp only at UB;clear hat hub)
          |(go_at_call 14;((with_reducible refine(SAME.out _ _ _ _ _ (XB.out _ KZ.out) UB.out).mono ?_);rintro r w7 ⟨rfl,k7⟩;have K7:=zz0 (KZ.out.trans1 k7);clear k7)))
         exact⟨⟨a+1,by omega,by first|rfl|go_num,(KX.out.trans1 K6.out).trans1 K7.out⟩,by simp[intOf];omega⟩
       ·have hla:¬(a:Int)<(n:Int):=by omega
        obtain rfl:a=n:=by omega
        have TL5:=zz0 (TLL.out wr KX.out)
        go_wp2_with(go_at_call 15;((with_reducible refine TL5.out.mono ?_);rintro r w8 ⟨rfl,k8⟩;have K8:=zz0 (KX.out.trans1 k8);have b8:=SBW.out _ (KX.out.trans1 k8);clear k8))
        go_ret;exact⟨rfl,KFIN.out _ K8.out⟩
     ·obtain⟨k1,rfl⟩:∃k1,jj=k1+1:=⟨jj-1,by omega⟩
      obtain rfl:x=(k1:Int):=by omega
      obtain⟨m,hm1⟩:∃m,ms[k1]? = some m:=⟨_,List.getElem?_eq_getElem (by omega)⟩
      have hdr:ms.drop k1=m::ms.drop (k1+1):=by
       have h:=List.getElem?_eq_some_iff.1 hm1;rw[List.drop_eq_getElem_cons h.1,h.2]
      obtain⟨a',c',e',hc',ha',hx'⟩:=M4.out.keepNon (K5.out.trans1 kx);injection e' with e1 e2 e3
      subst e1;subst e3;obtain⟨-,g1,off,pa,pc,rfl,-,-,hcell⟩:=hx' k1 m hm1;have c2:wr.drew.cell? ⟨g1,off+k1*37+2,none⟩=some (.int .i64 m.hi):=hcell 2 (.int .i64 m.hi) rfl;have c3:wr.drew.cell? ⟨g1,off+k1*37+3,none⟩=some (.int .i64 m.trim):=hcell 3 (.int .i64 m.trim) rfl;have hk1:(k1:Int)<(ms.length:Int):=by omega
      clear hx hx' ha' hcell hm1 kx;have hwho:=zna m (ms.drop (k1+1)) n;rw[←hdr] at hwho;have HW:=zz0 hwho;clear hwho hdr;generalize whoT (ms.drop (k1+1)) n=wt at HW ⊢;by_cases hge:n≤m.hi
      ·have hge':(n:Int)≤(m.hi:Int):=by omega
       go_wp2_with fail
       go_region_law fail
       all_goals go_wp2_with fail
       all_goals exact⟨⟨k1,(k1:Int)-1,by omega,by first|rfl|go_num,rfl,by rw[HW.out,if_pos hge],KX.out.drew⟩,by simp[intOf]<;>omega⟩
      ·have hge':¬(n:Int)≤(m.hi:Int):=by omega
       go_wp2_with fail
       go_region_law fail
       all_goals go_wp2_with fail
       all_goals exact⟨⟨k1,(k1:Int)-1,by omega,by first|rfl|go_num,rfl,by rw[HW.out,if_neg hge],KX.out.drew⟩,by simp[intOf]<;>omega⟩
end
theorem zdZ (v ev tv fv:Value)(cl:List Cl)(es ts fs:List Int)(N:Int)(w:World)(hc:zbF w v cl)(hm:cl.length≤9223372036854775807)(he:Rd w ev (es.map (fun x=>Value.int .i64 x)))(ht:Rd w tv (ts.map (fun x=>Value.int .i64 x)))(hf:Rd w fv (fs.map (fun x=>Value.int .i64 x)))(hlay:Lay w)(h10:10≤w.heap.size)(h:longL cl=true∨(longL cl=false∧5<es.length)∨(longL cl=false∧¬5<es.length∧5<ts.length)∨(longL cl=false∧¬5<es.length∧¬5<ts.length∧10<fs.length)) :
 Calls Tryz.prog 3 #[v,.agg #[ev,tv,.int .i64 N],fv] w fun e w'=>e = .returned (.bool true)∧za zq2 w w':=by
 have BK:=zz0 (fun W (k:za zq2 w W)=>zgl W (hlay.keepNon k) (Nat.le_trans h10 k.size))
 have LG:=zz0 (fun W (k:za zq2 w W)=>zjN v cl W (hc.keep k (fun _ _ e=>e)) hm)
 obtain⟨xa,xc,rfl,hx⟩:=hc;obtain⟨ea,ec,rfl,-⟩:=he;obtain⟨ta,tc,rfl,-⟩:=ht;obtain⟨fa,fc,rfl,-⟩:=hf;rw[List.length_map] at *;have K0:Hid (za zq2 w (w.alloc (.cells #[.slice ea es.length ec,.slice ta ts.length tc,.int .i64 N] 25))):=zz0 ((za.refl _ _).alloc _);have SBC:Hid (∀W,za zq2 (w.alloc (.cells #[.slice ea es.length ec,.slice ta ts.length tc,.int .i64 N] 25)) W→W.cell? ⟨w.heap.size,0,none⟩=some (.slice ea es.length ec)∧W.cell? ⟨w.heap.size,1,none⟩=some (.slice ta ts.length tc)∧W.cell? ⟨w.heap.size,2,none⟩=some (.int .i64 N)):=zz0 (fun W k=>by
  have hb:=zh k (ze w (.cells #[.slice ea es.length ec,.slice ta ts.length tc,.int .i64 N] 25));exact⟨by simp[World.cell?,hb],by simp[World.cell?,hb],by simp[World.cell?,hb]⟩)
 clear hx hlay h10;rcases h with hl|⟨hl,h1⟩|⟨hl,h1,h2⟩|⟨hl,h1,h2,h3⟩
 all_goals
  rw[hl] at LG
  first
  |(have h1':(5:Int)<(es.length:Int):=by omega)
  |(have h1':¬(5:Int)<(es.length:Int):=by omega
    first
    |(have h2':(5:Int)<(ts.length:Int):=by omega)
    |(have h2':¬(5:Int)<(ts.length:Int):=by omega
      have h3':(10:Int)<(fs.length:Int):=by omega))
  |skip
  clear hl
  go_enter Tryz.func3,Tryz.ntmps3
  go_wp2_with(first
   |(go_at_call 4;refine(BK.out _ K0.out).mono ?_;rintro e w1 ⟨rfl,k1⟩;have K01:=zz0 k1;have K1:=zz0 (K0.out.trans1 k1);clear k1)
   |(go_at_call 5;refine(LG.out _ K1.out).mono ?_;rintro e w2 ⟨rfl,k2⟩;have K2:=zz0 (K1.out.trans1 k2);obtain⟨b0,b1,-⟩:=SBC.out w2 (K01.out.trans1 k2);clear k2))
  go_ret;exact⟨rfl,K2.out⟩
theorem zkZ (v ev tv fv:Value)(cl:List Cl)(es ts fs:List Int)(N:Int)(w:World)(hc:zbF w v cl)(hm:cl.length≤9223372036854775807)(he:Rd w ev (es.map (fun x=>Value.int .i64 x)))(ht:Rd w tv (ts.map (fun x=>Value.int .i64 x)))(hf:Rd w fv (fs.map (fun x=>Value.int .i64 x)))(hlay:Lay w)(h10:10≤w.heap.size) :
 Calls Tryz.prog 3 #[v,.agg #[ev,tv,.int .i64 N],fv] w fun e w'=>e = .returned (.bool true)∧za zq2 w w':=by
 cases hl:longL cl with
 |true=>exact zdZ v ev tv fv cl es ts fs N w hc hm he ht hf hlay h10 (.inl hl)
 |false =>
  by_cases h1:5<es.length
  ·exact zdZ v ev tv fv cl es ts fs N w hc hm he ht hf hlay h10 (.inr (.inl ⟨hl,h1⟩))
  ·by_cases h2:5<ts.length
   ·exact zdZ v ev tv fv cl es ts fs N w hc hm he ht hf hlay h10 (.inr (.inr (.inl ⟨hl,h1,h2⟩)))
   ·by_cases h3:10<fs.length
    ·exact zdZ v ev tv fv cl es ts fs N w hc hm he ht hf hlay h10 (.inr (.inr (.inr ⟨hl,h1,h2,h3⟩)))
    ·have hn:cl.length≤200:=by
      have h2:=hl;unfold longL at h2;rw[Bool.or_eq_false_iff] at h2;have:=of_decide_eq_false h2.2;omega
     exact zqm v ev tv fv cl es ts fs N w hc hm he ht hf hlay h10 hl hn (by omega) (by omega) (by omega)
end Go.Proofs.YtpojgmeoaflmoaaGreatDoor
