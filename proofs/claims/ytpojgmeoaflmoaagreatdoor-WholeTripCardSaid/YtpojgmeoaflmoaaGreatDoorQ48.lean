/- (*Export).All behind a chain, on a disk  -/
import Derived.Test.YtpojgmeoaflmoaaGreatDoorQ42
import Derived.Test.YtpojgmeoaflmoaaGreatDoorQ43
import Derived.Test.YtpojgmeoaflmoaaGreatDoorQ45
import Derived.Test.YtpojgmeoaflmoaaGreatDoorQ46
import Derived.Test.YtpojgmeoaflmoaaGreatDoorQ47
set_option linter.unusedVariables false
set_option maxRecDepth 100000
set_option maxHeartbeats 16000000
namespace Go.Proofs.YtpojgmeoaflmoaaGreatDoor
open Go.RowKit Go.Maps
def TAllEnd (F FL TL:Nat→Prop)(w:World)(x b lb q p:Nat)(ms:List Mf)(C:Nat→Cl)(c:Cu)(f:Int)(L:Lg)(v:Value)(w':World):Prop :=
 (v = .nilIface∧∃c' pv Z,c'.lo=c.lo∧c'.hi=c.hi∧c'.trim=c.trim∧TmOut F FL TL w x b lb q p ms c' pv Z L w'∧TDk Z∧TEnd L C ms c' Z.shown) ∨
 (v = .iface 89 (.int .i64 14)∧0≤f∧LsOut F w x b p (fun D=>TLv L C ms c.lo c.hi c.trim D∨TCm L C ms c.lo c.hi c.trim D) w')
theorem zmJ {F FL TL:Nat→Prop}{C:Nat→Cl}{x b lb q p:Nat}{la:Option Addr}{lc:Nat}{ms:List Mf}{c:Cu}{pv:Value}{X:Dk}{L:Lg}(w:World)(h:ExSt F FL w x b lb q p (.slice la ms.length lc) c pv false X L)(hms:zai TL w (.slice la ms.length lc) ms)(hTL:∀g,TL g→¬F g∧g≠b∧g≠x∧g<w.heap.size)(hi:TF L C X.shown ms c)(ht:TDk X)(hl:Log1 L) :
 Calls Tryz.prog 29 #[.pointer (some ⟨x,0,none⟩)] w fun e w'=>∃(n:Nat) (v:Value),e = .returned (.tuple #[.int .i64 n,v])∧TAllEnd F FL TL w x b lb q p ms C c X.fuse L v w':=by
 refine zoZ x w (c.hi-c.next) (by have:=hi.hi;omega) (fun j W=>∃F' c' pv' X',j=c'.hi-c'.next∧zq5 F' F w∧za (fun g=>F g∨g=x) w W∧ExSt F' FL W x b lb q p (.slice la ms.length lc) c' pv' false X' L∧TF L C X'.shown ms c'∧TDk X'∧(c'.lo=c.lo∧c'.hi=c.hi∧c'.trim=c.trim)∧(0≤X'.fuse→0≤X.fuse)) (fun v w'=>TAllEnd F FL TL w x b lb q p ms C c X.fuse L v w') ⟨F,c,pv,X,rfl,zq5.refl _ _,za.refl _ _,h,hi,ht,⟨rfl,rfl,rfl⟩,fun e=>e⟩ ?_
 rintro j W ⟨F',c',pv',X',rfl,s,k,h',hi',ht',⟨e0,e1,e2⟩,hfu⟩;obtain⟨pa,pc,rfl,_,_⟩:=zb h'.row;have hx:x<w.heap.size:=lt_of_block h.ex;have hmW:zai TL W (.slice la ms.length lc) ms:=hms.keep k (fun g y e=>by
  obtain⟨a1,_,a3,_⟩:=hTL g y;rcases e with e|e
  ·exact a1 e
  ·exact a3 e)
 have ks:∀W',za zq2 W W'→ExSt F' FL W' x b lb q p (.slice la ms.length lc) c' (.slice pa c'.parts.length pc) false X' L∧za (fun g=>F g∨g=x) w W'∧zai TL W' (.slice la ms.length lc) ms∧∀g,TL g→¬F' g∧g≠b∧g≠x∧g<W'.heap.size:=fun W' kk=>⟨h'.keep kk (fun _ _ e=>e),k.trans1 kk.ofNon,hmW.keepNon kk,fun g y=>by
  obtain⟨a1,a2,a3,a4⟩:=hTL g y;have z1:=k.size;have z2:=kk.size;refine⟨fun e=>?_,a2,a3,by omega⟩
  rcases s g e with u|u
  ·exact a1 u
  ·omega⟩
 by_cases hd:c'.next=c'.hi
 ·rcases zj4 hi' ht' hl hd with ⟨Y,eY,tY,lY,⟨Z,eZ,tZ,zE,fZ⟩|⟨fu,Z,eZ,lZ⟩⟩|⟨fu,Y,eY,lY⟩
  ·refine(zh7 (fun w'=>TAllEnd F FL TL w x b lb q p ms C c X.fuse L .nilIface w') W h'.ex hd (fun W' kk=>(zgi W' (ks W' kk).1 (ks W' kk).2.2.1 (ks W' kk).2.2.2 hi' ht' hl hd Y eY (lY.mild (by omega) (by omega) (by omega)) lY.map 0 (by rw[eZ]) (by decide)).mono ?_)).mono ?_
   ·rintro e w' ⟨rfl,o⟩
    rw[eZ] at o;exact⟨rfl,.inl ⟨rfl,c',_,Z,e0,e1,e2,TmOut.trans s (ks W' kk).2.1 o,tZ,zE⟩⟩
   ·rintro e w' ⟨rfl,o⟩
    exact .inr (.inl ⟨rfl,o⟩)
  ·refine(zc8 14 (fun w'=>TAllEnd F FL TL w x b lb q p ms C c X.fuse L (.iface 89 (.int .i64 14)) w') W h'.ex hd (fun W' kk=>(zgi W' (ks W' kk).1 (ks W' kk).2.2.1 (ks W' kk).2.2.2 hi' ht' hl hd Y eY (lY.mild (by omega) (by omega) (by omega)) lY.map 14 (by rw[eZ]) (by decide)).mono ?_)).mono ?_
   ·rintro e w' ⟨rfl,o⟩
    rw[eZ] at o;exact⟨rfl,.inr ⟨rfl,hfu fu,LsOut.ofM s (ks W' kk).2.1 o (lZ.mono (fun D y=>.inr (by rw[←e0,←e1,←e2];exact y)))⟩⟩
   ·rintro e w' ⟨rfl,o⟩
    exact .inr (.inr ⟨14,rfl,o⟩)
  ·refine(zc8 14 (fun w'=>TAllEnd F FL TL w x b lb q p ms C c X.fuse L (.iface 89 (.int .i64 14)) w') W h'.ex hd (fun W' kk=>(zkO W' (ks W' kk).1 (ks W' kk).2.2.1 (ks W' kk).2.2.2 hi' ht' hl hd Y 14 eY (by decide)).mono ?_)).mono ?_
   ·rintro e w' ⟨rfl,o⟩
    exact⟨rfl,.inr ⟨rfl,hfu fu,LsOut.of s (ks W' kk).2.1 o (lY.mono (fun D y=>by rw[←e0,←e1,←e2];exact y))⟩⟩
   ·rintro e w' ⟨rfl,o⟩
    exact .inr (.inr ⟨14,rfl,o⟩)
 ·have hlt:c'.next<c'.hi:=by have:=hi'.ok.le;omega
  have hst:=hi'.stand;have htr:=zcL hi'.trim.2.2 (show c'.lo≤c'.next by have:=hi'.pos;omega)
  rcases zjy hi' ht' hl hlt with ⟨Y,eY,tY,lY,hY,⟨Z,eZ,tZ,hZ,fZ⟩|⟨fu,Z,eZ,lZ⟩⟩|⟨fu,Y,eY,lY⟩
  ·refine(zeg .nilIface (fun w'=>ExOut F FL w x b lb q p (.slice la ms.length lc) (zaM L c') false Z L w') W h'.ex hd (fun W' kk=>(zh3 W' (ks W' kk).1 (ks W' kk).2.2.1 hi' ht' hl hlt (by rw[eY]) 0 (by rw[eY];show(Y.sput _ _).1=0;rw[eZ])).mono ?_)).mono ?_
   ·rintro e w' ⟨rfl,o⟩
    rw[if_pos rfl,eY] at o;have o:ExOut F' FL W' x b lb q p (.slice la ms.length lc) (zaM L c') false (Y.sput zx (zco (zaM L c'))).2 L w':=o;rw[eZ] at o;exact⟨rfl,ExOut.trans s (ks W' kk).2.1 o⟩
   ·rintro e w' ⟨rfl,F2,pv2,s2,k2,st2⟩
    refine .inl ⟨(zaM L c').hi-(zaM L c').next,?_,rfl,F2,_,pv2,_,rfl,s2,k2,st2,hZ,tZ,⟨e0,e1,htr.trans e2⟩,fun y=>hfu (by rcases Int.lt_or_le X'.fuse 0 with u|u;(have:=fZ u;omega);exact u)⟩
    show c'.hi-(c'.next+(zaF L c'.hi c'.next).length)<c'.hi-c'.next
    rw[zbw];omega
  ·refine(zeg (.iface 89 (.int .i64 14)) (fun w'=>TAllEnd F FL TL w x b lb q p ms C c X.fuse L (.iface 89 (.int .i64 14)) w') W h'.ex hd (fun W' kk=>(zh3 W' (ks W' kk).1 (ks W' kk).2.2.1 hi' ht' hl hlt (by rw[eY]) 14 (by rw[eY];show(Y.sput _ _).1=14;rw[eZ])).mono ?_)).mono ?_
   ·rintro e w' ⟨rfl,o⟩
    rw[if_neg (by decide),eY] at o
    have o:ExOut F' FL W' x b lb q p (.slice la ms.length lc) c' false (Y.sput zx (zco (zaM L c'))).2 L w':=o;rw[eZ] at o;exact⟨rfl,.inr ⟨rfl,hfu fu,LsOut.of s (ks W' kk).2.1 o (lZ.mono (fun D y=>.inl (by rw[←e0,←e1,←e2];exact y)))⟩⟩
   ·rintro e w' ⟨rfl,o⟩
    exact .inr (.inr ⟨14,rfl,o⟩)
  ·refine(zeg (.iface 89 (.int .i64 14)) (fun w'=>TAllEnd F FL TL w x b lb q p ms C c X.fuse L (.iface 89 (.int .i64 14)) w') W h'.ex hd (fun W' kk=>(zoL W' (ks W' kk).1 (ks W' kk).2.2.1 hi' ht' hl hlt 14 (by rw[eY]) (by decide)).mono ?_)).mono ?_
   ·rintro e w' ⟨rfl,o⟩
    rw[eY] at o;obtain⟨F2,s2,k2,st2⟩:=o;exact⟨rfl,.inr ⟨rfl,hfu fu,LsOut.of s (ks W' kk).2.1 ⟨F2,_,s2,k2,st2⟩ (lY.mono (fun D y=>.inl (by rw[←e0,←e1,←e2];exact y)))⟩⟩
   ·rintro e w' ⟨rfl,o⟩
    exact .inr (.inr ⟨14,rfl,o⟩)
theorem TDk.fused {X:Dk}(h:TDk X){k:Nat}(hk:k≤1000):TDk { X with fuse:=(k:Int) }:=⟨⟨h.calm.sure,h.calm.pend,h.calm.down,h.calm.map,h.calm.tidy⟩,h.fl,h.room,by show -1≤(k:Int);omega,by show(k:Int)≤1000;omega⟩
theorem zo0 {F FL:Nat→Prop}{x b lb q p:Nat}{lv pv:Value}{c:Cu}{ov:Bool}{X:Dk}{L:Lg}(k:Nat)(w:World)(h:ExSt F FL w x b lb q p lv c pv ov X L) :
 Calls Tryz.prog 28 #[.pointer (some ⟨p,0,none⟩),.int .i64 k] w fun e w'=>e = .returned .nilIface∧za F w w'∧ExSt F FL w' x b lb q p lv c pv ov { X with fuse:=(k:Int) } L:=by
 obtain⟨hb,hi,G,dg,hg⟩:=h.st;obtain⟨T,s,hh,pv',d⟩:=dg;have hpG:G p:=d.inF.1;refine(znw G T p s hh pv' X k w d).mono ?_;rintro e w' ⟨rfl,kk,d'⟩;have kF:za F w w':=kk.mono (fun g _ y=>by have y':g=p:=y;rw[y'];exact(hg p hpG).1)
 refine⟨rfl,kF,?_⟩;refine h.turn (kF.mono (fun _ _ y=>.inl y)) (zq5.refl _ _) (fun g y=>kF.lt (h.low g y).2) ⟨?_,hi,G,⟨T,s,hh,pv',d'⟩,hg⟩ (kF.at h.ex h.out.1) (zc h.row kF (fun g y=>(h.pvo g y).1)) h.pvo
 exact kk.at hb (fun y=>by have y':q=p:=y;exact(hg p hpG).2 y'.symm)
theorem zlz {F F' FL T:Nat→Prop}{w w':World}{x b lb q p lo n tr:Nat}{lv:Value}{ms:List Mf}{X Y:Dk}{L:Lg}(h:VsSt F FL T w b lb q p lv ms X L)(k:za F w w')(s:zq5 F' F w)(l:∀g,F' g→g<w'.heap.size)(st:zk F' w' q p Y)(hx:w.heap.size≤x)(nx:¬F' x)(xb:w'.heap[x]? = some (ExB b lb (cuM lo n tr) (.slice none 0 0) false)) :
 ExSt F' FL w' x b lb q p lv (cuM lo n tr) (.slice none 0 0) false Y L∧zai T w' lv ms∧∀g,T g→¬F' g∧g≠b∧g≠x∧g<w'.heap.size:=by
 have hbw:b<w.heap.size:=lt_of_block h.vt;have hb10:=h.out.2.2.2;refine⟨⟨xb,World.ownsRow_nil _ _ _ _,k.at h.vt h.out.1,st,h.lg.keep k (fun g y z=>h.apart g z y),h.lay.keep k (fun g y z=>by have:=(h.low g z).1;omega),⟨nx,fun y=>?_,by omega,fun y=>by have:=h.lowL x y;omega,h.out.2.1,by omega,hb10⟩,fun g y z=>?_,fun g y=>⟨?_,l g y⟩,fun g y=>Nat.lt_of_lt_of_le (h.lowL g y) k.size,fun g e=>by cases e⟩,h.ms.keep k (fun g y z=>(h.apartT g y).1 z),fun g y=>⟨fun z=>?_,fun e=>?_,?_,?_⟩⟩
 ·rcases s b y with u|u
  ·exact h.out.1 u
  ·omega
 ·rcases s g y with u|u
  ·exact h.apart g u z
  ·have:=h.lowL g z;omega
 ·rcases s g y with u|u
  ·exact(h.low g u).1
  ·omega
 ·rcases s g z with u|u
  ·exact(h.apartT g y).1 u
  ·have:=h.lowT g y;omega
 ·subst e;exact h.out.2.2.1 y
 ·have:=h.lowT g y;omega
 ·exact Nat.lt_of_lt_of_le (h.lowT g y) k.size
theorem zpq {F FL T:Nat→Prop}{w w':World}{x b lb q p:Nat}{lv pv:Value}{c:Cu}{ms:List Mf}{X:Dk}{L:Lg}(h:VsSt F FL T w b lb q p lv ms X L)(k:za zq2 w w')(hx:w.heap.size≤x)(xb:w'.heap[x]? = some (ExB b lb c pv false))(row:w'.ownsRow w.heap.size 125 35 pv c.parts.length (zaP c.parts))(hpx:∀g,pv.ownBlock=some g→g<x) :
 ExSt F FL w' x b lb q p lv c pv false X L∧zai T w' lv ms∧∀g,T g→¬F g∧g≠b∧g≠x∧g<w'.heap.size:=by
 have hbw:b<w.heap.size:=lt_of_block h.vt;have hb10:=h.out.2.2.2;refine⟨⟨xb,zg row (Nat.zero_le _),zh k h.vt,h.st.keep k (fun _ _ e=>e),h.lg.keepNon k,h.lay.keepNon k,⟨fun y=>?_,h.out.1,by omega,fun y=>?_,h.out.2.1,by omega,hb10⟩,h.apart,fun g y=>⟨(h.low g y).1,k.lt (h.low g y).2⟩,fun g y=>k.lt (h.lowL g y),fun g e=>?_⟩,h.ms.keepNon k,fun g y=>⟨(h.apartT g y).1,fun e=>?_,?_,k.lt (h.lowT g y)⟩⟩
 ·have:=(h.low x y).2;omega
 ·have:=h.lowL x y;omega
 ·have h1:=(row.lt g e).1
  have h2:=hpx g e;exact⟨fun y=>by have:=(h.low g y).2;omega,by omega,by omega,fun y=>by have:=h.lowL g y;omega⟩
 ·subst e;exact h.out.2.2.1 y
 ·have:=h.lowT g y;omega
structure TRun (F FL T:Nat→Prop)(w:World)(b:Nat)(wr:World)(F' T':Nat→Prop)(b':Nat):Prop where
 kp:za (fun g=>F g∨g=b) w wr
 sub:zq5 F' F w
 vb:b'=b∨w.heap.size≤b'
 tt:∀g,T' g→T g∨w.heap.size≤g
theorem TRun.keep {F FL T F' T' S:Nat→Prop}{w wr w2:World}{b b':Nat}(r:TRun F FL T w b wr F' T' b')(k:za S wr w2)(hS:∀g,S g→F' g∨g=b'∨w.heap.size≤g):za (fun g=>F g∨g=b) w w2:=by
 refine r.kp.trans k (fun _ _ y=>y) (fun g hg y=>?_)
 rcases hS g y with y|y|y
 ·rcases r.sub g y with u|u
  ·exact .inl u
  ·omega
 ·rcases r.vb with u|u
  ·exact .inr (y.trans u)
  ·omega
 ·omega
def TXpo (F FL T:Nat→Prop)(w:World)(b lb p lo n tr:Nat)(ms:List Mf)(C:Nat→Cl)(L:Lg)(v:Value)(w':World):Prop :=
 ∃F' T' b' q' lv' c Z,v = .pointer (some ⟨b',0,none⟩)∧TRun F FL T w b w' F' T' b'∧VsSt F' FL T' w' b' lb q' p lv' (ms ++ [exT ms c]) Z L∧TDk Z∧Z.fuse<0∧c.lo=lo∧c.hi=n∧c.trim=tr∧TEnd L C ms c Z.shown
theorem zgm {F FL T F1 T1:Nat→Prop}{C:Nat→Cl}{w w6 w7:World}{x b b' lb q p q' lo n tr:Nat}{lv:Value}{ms:List Mf}{c:Cu}{pv:Value}{X Z:Dk}{L:Lg}(h:VsSt F FL T w b lb q p lv ms X L)(r:TRun F FL T w b w6 F1 T1 b')(hxx:w.heap.size≤x)(hc:c.lo=lo∧c.hi=n∧c.trim=tr)(o:TmOut F1 FL T1 w6 x b' lb q' p ms c pv Z L w7)(tZ:TDk Z)(zE:TEnd L C ms c Z.shown) :
 Calls Tryz.prog 30 #[.pointer (some ⟨p,0,none⟩)] w7 fun e w'=>e = .returned (.tuple #[])∧TXpo F FL T w b lb p lo n tr ms C L (.pointer (some ⟨b',0,none⟩)) w':=by
 obtain⟨F7,la,lc,T7,s7,k7,e7,ms7,hT7⟩:=o;obtain⟨G,dG,hG⟩:=e7.st.dk;refine(zls G p Z w7 dG tZ.calm.down).mono ?_;rintro e w8 ⟨rfl,t⟩;have t8:=zn.of t e7.st.blk e7.st.inF hG;obtain⟨k8,F8,s8,d8⟩:=t8;have d8':=d8.low;have k67:=r.kp.size;have k77:=k7.size;have k88:=k8.size;have hb:b<w.heap.size:=lt_of_block h.vt;have kA:za (fun g=>F g∨g=b) w w7:=r.keep k7 (fun g y=>by
  rcases y with y|y|y
  ·exact .inl y
  ·exact .inr (.inr (by omega))
  ·exact .inr (.inl y))
 have s7w:∀g,F7 g→F g∨w.heap.size≤g:=fun g y=>by
  rcases s7 g y with u|u
  ·exact r.sub g u
  ·exact .inr (by omega)
 have s8w:∀g,F8 g→F g∨w.heap.size≤g:=fun g y=>by
  rcases s8 g y with u|u
  ·exact s7w g u
  ·exact .inr (by omega)
 have kB:za (fun g=>F g∨g=b) w w8:=kA.trans k8 (fun _ _ y=>y) (fun g hg y=>by
  rcases s7w g y with u|u
  ·exact .inl u
  ·omega)
 have hT8:∀g,T7 g→¬F8 g∧g≠b'∧g<w8.heap.size∧(T g∨w.heap.size≤g):=fun g y=>by
  obtain⟨a1,a2,a3,a4,a5⟩:=hT7 g y;refine⟨fun z=>?_,a2,by omega,?_⟩
  ·rcases s8 g z with u|u
   ·exact a1 u
   ·omega
  ·rcases a5 with u|u
   ·exact r.tt g u
   ·exact .inr (by omega)
 have el:(ms ++ [exT ms c]).length=ms.length+1:=by simp
 have tZ':TDk { Z with fuse:=-1 }:=⟨⟨tZ.calm.sure,tZ.calm.pend,tZ.calm.down,tZ.calm.map,tZ.calm.tidy⟩,tZ.fl,tZ.room,by show(-1:Int)≤-1;omega,by show(-1:Int)≤1000;omega⟩
 have hb':¬F8 b':=fun y=>by
  rcases s8 b' y with u|u
  ·exact e7.out.2.1 u
  ·have:=lt_of_block e7.vt;omega
 refine⟨rfl,fun g=>F8 g∧g<w8.heap.size,T7,b',q',.slice la (ms.length+1) lc,c,{ Z with fuse:=-1 },rfl,⟨kB,fun g y=>s8w g y.1,r.vb,fun g y=>(hT8 g y).2.2.2⟩,⟨?_,?_,d8',e7.lg.keep k8 (fun g y z=>e7.apart g z y),h.lay.keep kB (fun g y z=>?_),⟨fun y=>hb' y.1,e7.out.2.2.2.2.1,fun y=>(hT7 b' y).2.1 rfl,e7.out.2.2.2.2.2.2⟩,fun g y z=>?_,fun g y=>⟨fun z=>(hT8 g y).1 z.1,fun z=>?_⟩,fun g y=>⟨?_,y.2⟩,fun g y=>Nat.lt_of_lt_of_le (h.lowL g y) kB.size,fun g y=>(hT8 g y).2.2.1⟩,tZ',by show(-1:Int)<0;omega,hc.1,hc.2.1,hc.2.2,zE⟩
 ·exact k8.at e7.vt e7.out.2.1
 ·exact ms7.keep k8 (fun g y=>(hT7 g y).1)
 ·rcases z with z|z
  ·have:=(h.low g z).1;omega
  ·have:=h.out.2.2.2;omega
 ·rcases s8w g y.1 with u|u
  ·exact h.apart g u z
  ·have:=h.lowL g z;omega
 ·rcases(hT8 g y).2.2.2 with u|u
  ·exact(h.apartT g u).2 z
  ·have:=h.lowL g z;omega
 ·rcases s8w g y.1 with u|u
  ·exact(h.low g u).1
  ·have:=h.out.2.2.2;omega
theorem TB.hasms {C:Nat→Cl}{X:Dk}{ms:List Mf}(h:TB C X.shown ms):HasMs X ms:=⟨h.tit,h.no ms.length (Nat.le_refl _) (by have:=h.few;omega)⟩
theorem zm9 {F FL T F0:Nat→Prop}{w w3 w':World}{b b' lb q p q2:Nat}{la:Option Addr}{lc:Nat}{lv:Value}{ms ms2:List Mf}{X Y:Dk}{L:Lg}(h:VsSt F FL T w b lb q p lv ms X L)(kA:za (fun g=>F g∨g=b) w w3)(s0:∀g,F0 g→F g∨w.heap.size≤g)
 (hv:w'.heap[b']? = some (VtB q2 (.slice la ms2.length lc))) (hm:zai (fun g=>b'<g∧g<w'.heap.size) w' (.slice la ms2.length lc) ms2) (k:za F0 w3 w') (hb':w3.heap.size≤b') (F':Nat→Prop) (sF:zq5 F' F0 w3) (lF:∀g,F' g→g<b') (st:zk F' w' q2 p Y) :
 VsSt F' FL (fun g=>b'<g∧g<w'.heap.size) w' b' lb q2 p (.slice la ms2.length lc) ms2 Y L∧TRun F FL T w b w' F' (fun g=>b'<g∧g<w'.heap.size) b':=by
 have k1:=kA.size;have k2:=k.size;have hbw:b<w.heap.size:=lt_of_block h.vt;have hb10:=h.out.2.2.2;have hbl:b'<w'.heap.size:=lt_of_block hv;have sF':∀g,F' g→F g∨w.heap.size≤g:=fun g y=>by
  rcases sF g y with u|u
  ·exact s0 g u
  ·exact .inr (by omega)
 have kB:za (fun g=>F g∨g=b) w w':=kA.trans k (fun _ _ y=>y) (fun g hg y=>by
  rcases s0 g y with u|u
  ·exact .inl u
  ·omega)
 refine⟨⟨hv,hm,st,h.lg.keep kB (fun g y z=>?_),h.lay.keep kB (fun g y z=>?_),⟨fun y=>by have:=lF b' y;omega,fun y=>by have:=h.lowL b' y;omega,fun y=>by have:=y.1;omega,by omega⟩,fun g y z=>?_,fun g y=>⟨fun z=>by have:=lF g z;have:=y.1;omega,fun z=>by have:=h.lowL g z;have:=y.1;omega⟩,fun g y=>⟨?_,by have:=lF g y;omega⟩,fun g y=>Nat.lt_of_lt_of_le (h.lowL g y) kB.size,fun g y=>y.2⟩,⟨kB,sF',.inr (by omega),fun g y=>.inr (by have:=y.1;omega)⟩⟩
 ·rcases z with z|z
  ·exact h.apart g z y
  ·subst z;exact h.out.2.1 y
 ·rcases z with z|z
  ·have:=(h.low g z).1;omega
  ·omega
 ·rcases sF' g y with u|u
  ·exact h.apart g u z
  ·have:=h.lowL g z;omega
 ·rcases sF' g y with u|u
  ·exact(h.low g u).1
  ·omega
end Go.Proofs.YtpojgmeoaflmoaaGreatDoor
