/- plan.Of over any chain: walked. · restor -/
import Derived.Test.YtpojgmeoaflmoaaGreatDoorQ36
import Derived.Test.YtpojgmeoaflmoaaGreatDoorQ38
set_option linter.unusedVariables false
set_option maxRecDepth 100000
set_option maxHeartbeats 16000000
namespace Go.Proofs.YtpojgmeoaflmoaaGreatDoor
open Go.RowKit Go.Maps
def itC1 (x:It):List Value:=[.int .i64 x.n,.int .i64 x.p,.int .i64 x.f,.int .i64 x.u]
def itC (its:List It):List Value:=its.flatMap itC1
theorem znP (its:List It)(x:It):itC (its ++ [x])=itC its++itC1 x:=by unfold itC;rw[List.flatMap_append];simp
theorem zcm.of {B:Nat}{w:World}{v:Value}{its:List It}(h:w.ownsRow B 215 4 v its.length (itC its)):zcm w v its:=by
 rcases h.2 with ⟨hv,hn⟩|⟨g,cap,cur,rfl,_,hg,hn,_,_,htake⟩
 ·obtain rfl:its = []:=List.eq_nil_of_length_eq_zero (by omega)
  exact⟨none,0,by rw[hv];rfl,fun j p hj=>by simp at hj⟩
 ·refine⟨some ⟨g,0,none⟩,cap,rfl,fun j x hj=>⟨g,0,rfl,?_⟩⟩
  have key:∀(i:Nat) u,(itC1 x)[i]? = some u→w.cell? ⟨g,0+j*4+i,none⟩=some u:=fun i u hu=>by
   have hi:i<4:=(List.getElem?_eq_some_iff.1 hu).1;have hc:(itC its)[j*4+i]? = some u:=(zdK 4 itC1 its (fun _ _=>rfl) j i x hj hi).trans hu
   rw[Nat.zero_add,World.cell?,hg];rw[←htake,List.getElem?_take] at hc
   split at hc
   ·simpa using hc
   ·cases hc
  exact⟨g,_,rfl,key 0 _ rfl,key 1 _ rfl,key 2 _ rfl,key 3 _ rfl⟩
theorem pl_f {w:World}{b N B M:Nat}{v:Value}(h:w.heap[b]? = some (PlB N B M v))(i:Nat):w.frozen? ⟨b,i,none⟩=false:=by simp[World.frozen?,h,PlB]
def OfLp (WA:World)(o mb n mk:Nat)(O:Obj)(its:List It)(wr:World):Prop :=
 ∃ia ic,wr.heap[o]? = some (PlB n 0 mk (.slice ia its.length ic))∧wr.ownsRow (o+1) 215 4 (.slice ia its.length ic) its.length (itC its)∧za (zq3 o) WA wr∧(mb≠o→wr.heap[mb]? = some O∧∀g,(Value.slice ia its.length ic).ownBlock=some g→g≠mb)
theorem OfLp.keep {WA wr w':World}{o mb n mk:Nat}{O:Obj}{its:List It}(h:OfLp WA o mb n mk O its wr)(k:za zq2 wr w'):OfLp WA o mb n mk O its w':=by
 obtain⟨ia,ic,h1,h2,h3,h4⟩:=h;exact⟨ia,ic,zh k h1,zc h2 k (fun _ _ e=>e),h3.trans1 k.ofNon,fun e=>⟨zh k (h4 e).1,(h4 e).2⟩⟩
theorem zpO {WA wr P3 w5:World}{o mb n mk:Nat}{O:Obj}{its:List It}{x:It}{ia:Option Addr}{ic:Nat}{v5:Value}(hoA:WA.heap.size=o+1)(hmo:mb≠o→mb<wr.heap.size)(h1:wr.heap[o]? = some (PlB n 0 mk (.slice ia its.length ic)))(h2:wr.ownsRow (o+1) 215 4 (.slice ia its.length ic) its.length (itC its))(h3:za (zq3 o) WA wr)(h4:mb≠o→wr.heap[mb]? = some O∧∀g,(Value.slice ia its.length ic).ownBlock=some g→g≠mb)(k3:za zq2 wr P3)
 (ho:w5.ownsRow (o+1) 215 4 v5 (its.length+1) (itC its++itC1 x)) (hg:P3.grownBy w5 (Value.slice ia its.length ic).ownBlock) (hpp:v5.ownBlock=(Value.slice ia its.length ic).ownBlock∨v5.ownBlock=some P3.heap.size) :
 OfLp WA o mb n mk O (its ++ [x]) (w5.setCell ⟨o,3,none⟩ v5)∧w5.heap[o]? = some (PlB n 0 mk (.slice ia its.length ic))∧wr.heap.size≤(w5.setCell ⟨o,3,none⟩ v5).heap.size:=by
 obtain⟨a5,c5,rfl,_,_⟩:=zb ho;have lo:∀g,(Value.slice ia its.length ic).ownBlock=some g→o+1≤g:=fun g e=>(h2.lt g e).1
 have kg:za (fun g=>(Value.slice ia its.length ic).ownBlock=some g) P3 w5:=(za.refl _ _).grown hg (fun k e=>.inl e)
 have kb:za (zq3 o) w5 (w5.setCell ⟨o,3,none⟩ (.slice a5 (its.length+1) c5)):=(za.refl _ _).setOne _ _;have b5:=kg.at (zh k3 h1) (fun e=>by have:=lo o e;omega)
 have s1:=h3.size;have s3:=k3.size;have el:(its ++ [x]).length=its.length+1:=by simp
 refine⟨⟨a5,c5,?_,?_,?_,fun e=>⟨?_,fun g eg=>?_⟩⟩,b5,Nat.le_trans (Nat.le_trans s3 kg.size) kb.size⟩
 ·rw[el];exact zj b5 3 _
 ·rw[el,znP]
  exact zc ho kb (fun g e e2=>by have e':g=o:=e2;have:=(ho.lt g e).1;omega)
 ·exact((h3.trans1 k3.ofNon).trans kg (fun _ _ y=>y) (fun g hg' y=>by have:=lo g y;omega)).trans kb (fun _ _ y=>y) (fun _ _ y=>y)
 ·exact kb.at (kg.at (zh k3 (h4 e).1) (fun y=>(h4 e).2 mb y rfl)) (fun y=>e y)
 ·rw[el] at eg
  rcases hpp with y|y
  ·rw[y] at eg
   exact(h4 e).2 g eg
  ·rw[y] at eg
   injection eg with eg
   have:=hmo e;omega
theorem zmh:∀{ps:List Pt}{lo:Nat}(_:okPts lo ps){i:Nat}{p:Pt},ps[i]? = some p→p.first+p.many≤zp lo ps
 |[],_,_,i,p,h=>by simp at h
 |q::r,lo,hk,0,p,h=>by
  obtain⟨h1,_,_⟩:=hk;simp at h;subst h;rw[h1];exact zcX r _
 |q::r,lo,hk,i+1,p,h=>by
  obtain⟨_,_,h3⟩:=hk;rw[List.getElem?_cons_succ] at h;exact zmh h3 h
section
attribute [local go_sem ↓] zbB zU zbC zbD zV zbE zab zbK
theorem zn8 {C:Nat→Cl}{D:Fl}(T:Nat→Prop)(v:Value)(ms:List Mf)(n:Nat)(w:World)(hm:zai T w v ms)(hb:TB C D ms)(hne:ms≠[])(hn:n≤zbr ms)(hlay:Lay w) :
 Calls Tryz.prog 78 #[v,.int .i64 n] w fun e w'=>∃iv,e = .returned (.tuple #[.agg #[.int .i64 n,.int .i64 0,.int .i64 (zcI ms n),iv],.nilIface])∧za zq2 w w'∧zcm w' iv (zdf (zcI ms n) n ms)∧∀g,iv.ownBlock=some g→w.heap.size≤g∧g<w'.heap.size:=by
 have hfew:=hb.few;have h200:=hb.stop;have hin:zT ms ∈ ms:=by
  unfold zT;rw[List.getLast?_eq_some_getLast hne];exact List.getLast_mem hne
 have K0:Hid (za zq2 w (w.alloc PlZ)):=zz0 ((za.refl _ _).alloc _);have CK:Hid (Calls Tryz.prog 51 #[v] (w.alloc PlZ) fun e w'=>e = .returned (.tuple #[.int .i64 ms.length,.nilIface])∧za zq2 (w.alloc PlZ) w'):=zz0 (zbl T v ms (w.alloc PlZ) (hm.keepNon K0.out) hb.ok (by omega) (hlay.keepNon K0.out).kon (hlay.keepNon K0.out).frs)
 have hbg:beginM ms=0:=by
  cases ms with
  |nil=>rfl
  |cons m r=>exact hb.zero m rfl
 have BE:Hid (∀W,za zq2 w W→Calls Tryz.prog 13 #[v] W fun e w'=>e = .returned (.int .i64 0)∧w'=W):=zz0 (fun W k=>by
  have:=zd5 T v ms W (hm.keepNon k);rw[hbg] at this;exact this)
 have EN:Hid (∀W,za zq2 w W→Calls Tryz.prog 8 #[v] W fun e w'=>e = .returned (.int .i64 (zbr ms))∧za zq2 W w'):=zz0 (fun W k=>zbN T v ms W (hm.keepNon k) (by omega))
 have MK:=zz0 (fun W (k:za zq2 w W)=>zmi T v ms n W (hm.keepNon k) (by omega) ⟨_,hin,hn⟩)
 have HB:=zz0 hb;have HM:=zz0 hm;have hn0:¬(n:Int)<0:=by omega
 have hn1:¬((zbr ms:Nat):Int)<(n:Int):=by omega
 have hl0:¬(ms.length:Int)=0:=by have:=List.length_pos_iff.2 hne;omega
 generalize hE:zbr ms=E at EN hn1;generalize hmk:zcI ms n=mk at MK ⊢;obtain⟨i0,hi0,hz0,hz1,hz2⟩:=info_parts infoItem;have I0:=zz0 (And.intro hi0 (And.intro hz0 (And.intro hz1 hz2)));have R0:Hid ((w.alloc PlZ).heap[w.heap.size]? = some PlZ):=zz0 (ze w PlZ);obtain⟨a,c,rfl,hc,ha,hx⟩:=hm;clear hx ha hi0 hz0 hz1 hz2 hb hin hbg hn hE hmk hlay hne;dsimp only[PlZ] at CK
 go_enter Tryz.func78,Tryz.ntmps78
 go_wp2_with(first
  |(go_at_call 51;((with_reducible refine CK.out.mono ?_);rintro e w1 ⟨rfl,k1⟩);have K1:=zz0 (K0.out.trans1 k1);have R1:=zz0 (zh (w:=w.alloc PlZ) k1 R0.out);have BE1:=zz0 (BE.out w1 K1.out);have EN1:=zz0 (EN.out w1 K1.out);clear k1)
  |(go_at_call 13;first|((with_reducible refine BE1.out.mono ?_);rintro e w2 ⟨rfl,rfl⟩)|((with_reducible refine BE3.out.mono ?_);rintro e w4 ⟨rfl,rfl⟩))
  |(go_at_call 8;((with_reducible refine EN1.out.mono ?_);rintro e w3 ⟨rfl,k3⟩);have K3:=zz0 (K1.out.trans1 k3);have R3:=zz0 (zh k3 R1.out);have BE3:=zz0 (BE.out w3 K3.out);have MK3:=zz0 (MK.out w3 K3.out);clear k3)
  |(go_at_call 132;((with_reducible refine MK3.out.mono ?_);rintro e w5 ⟨rfl,k5⟩);have K5:=zz0 (K3.out.trans1 k5);have R5:=zz0 (zh k5 R3.out);clear k5))
 have KA:Hid (za zq2 w (w5.alloc (PlB n 0 mk (.slice none 0 0)))):=zz0 (K5.out.alloc _);have PA:Hid ((w5.alloc (PlB n 0 mk (.slice none 0 0))).heap[w5.heap.size]? = some (PlB n 0 mk (.slice none 0 0))):=zz0 (ze w5 _);have RA:Hid ((w5.alloc (PlB n 0 mk (.slice none 0 0))).heap[w.heap.size]? = some PlZ):=zz0 (zh ((za.refl zq2 w5).alloc _) R5.out);have SA:Hid ((w5.alloc (PlB n 0 mk (.slice none 0 0))).heap.size=w5.heap.size+1):=zz0 (by simp)
 have SO:Hid (w.heap.size<w5.heap.size):=zz0 (lt_of_block R5.out);obtain⟨WA,hWA⟩:∃WA,WA=w5.alloc (PlB n 0 mk (.slice none 0 0)):=⟨_,rfl⟩;rw[←hWA] at KA PA RA SA;obtain⟨o,ho⟩:∃o,o=w5.heap.size:=⟨_,rfl⟩;rw[←ho] at PA SA SO;unfold PlB at hWA;rw[show((0:Nat):Int)=0 from rfl] at hWA
 rw[←hWA]
 try rw[←ho]
 clear hWA ho K5 R5
 go_loopw [51] (fun i wr=>∃j:Nat,j≤ms.length∧i = .int .i64 j∧OfLp WA o o n mk PlZ (zdf mk n (ms.take j)) wr) (fun i _=>ms.length-(intOf i).toNat)
 case atStart=>exact⟨0,by omega,rfl,none,0,PA.out,World.ownsRow_nil _ _ _ _,za.refl _ _,fun e=>absurd rfl e⟩
 case round =>
  obtain⟨j,hj,rfl,lp⟩:=hrel;have LP:=zz0 lp;have kw:za zq2 w wr:=by
   obtain⟨_,_,_,_,k,_⟩:=lp;exact KA.out.trans k (fun _ _ e=>e) (fun g hg e=>by have e':g=o:=e;have:=SO.out;omega)
  have KW:=zz0 kw;clear kw lp;by_cases hlt:j<ms.length
  ·have hlj:(j:Int)<(ms.length:Int):=by omega
   obtain⟨m,hmj⟩:∃m,ms[j]? = some m:=⟨_,List.getElem?_eq_getElem hlt⟩;obtain⟨a1,c1',e1,hc1,ha1,hx⟩:=id HM.out;injection e1 with e1 e3 e4
   subst e1;subst e4;obtain⟨hp32,g,off,pa,pc,rfl,x1,x2,x3⟩:=hx j m hmj;have hld:=load83 wr g (off+j*37) m (.slice pa m.parts.length pc) hp32 (fun i u hu=>za3 KW.out (fun e=>e) (x3 i u hu))
   have hst:=zaZ wr m pa m.parts.length pc hp32;have m36:=mf_36 (ze wr (zq1 m (.slice pa m.parts.length pc))) hp32;have PT:=zz0 (fun W (k:za zq2 w W)=>x1.keepNon k)
   have LB:Hid (OfLp WA o wr.heap.size n mk (zq1 m (.slice pa m.parts.length pc)) (zdf mk n (ms.take j)) (wr.alloc (zq1 m (.slice pa m.parts.length pc)))):=zz0 (by
    obtain⟨ia,ic,g1,g2,g3,_⟩:=LP.out;have ka:za zq2 wr (wr.alloc (zq1 m (.slice pa m.parts.length pc))):=(za.refl _ _).alloc _;exact⟨ia,ic,zh ka g1,zc g2 ka (fun _ _ e=>e),g3.trans1 ka.ofNon,fun _=>⟨ze _ _,fun g' e=>by have:=(g2.lt g' e).2;omega⟩⟩)
   have K0':Hid (za zq2 w (wr.alloc (zq1 m (.slice pa m.parts.length pc)))):=zz0 (KW.out.alloc _);have RB:Hid (wr.heap.size<(wr.alloc (zq1 m (.slice pa m.parts.length pc))).heap.size):=zz0 (by simp)
   have OMB:Hid (wr.heap.size≠o):=zz0 (by obtain⟨_,_,h1,_⟩:=LP.out;have:=lt_of_block h1;omega)
   have HMJ:=zz0 hmj;dsimp only[zra,zq1] at hst;dsimp only[zq1] at m36;clear hx ha1 x1 x2 x3 hmj
   go_wp2_with fail
   obtain⟨W0,hW0⟩:∃W0,W0=wr.alloc (zq1 m (.slice pa m.parts.length pc)):=⟨_,rfl⟩;rw[←hW0] at LB K0' RB;obtain⟨mb,hmb⟩:∃mb,mb=wr.heap.size:=⟨_,rfl⟩;rw[←hmb] at LB RB OMB;unfold zq1 at hW0;rw[←hW0]
   try rw[←hmb]
   clear hW0 hmb m36 hst hld;have h64:=(HB.out.four m (List.mem_of_getElem? HMJ.out)).1
   go_loopw [58] (fun i wr=>∃u:Nat,u≤m.parts.length∧i = .int .i64 u∧OfLp WA o mb n mk (zq1 m (.slice pa m.parts.length pc)) (zdf mk n (ms.take j)++itPs m.num mk n 0 (m.parts.take u)) wr∧za zq2 w wr∧W0.heap.size≤wr.heap.size) (fun i _=>m.parts.length-(intOf i).toNat)
   case atStart=>exact⟨0,by omega,rfl,by simpa [itPs] using LB.out,K0'.out,Nat.le_refl _⟩
   case round =>
    obtain⟨u,hu,rfl,lp,kw2,hsz⟩:=hrel;obtain⟨ia,ic,h1,h2,h3,h4⟩:=lp;have hmb:=(h4 OMB.out).1;by_cases hlu:u<m.parts.length
    ·have hlm:(u:Int)<(m.parts.length:Int):=by omega
     obtain⟨pt,hpt⟩:∃pt,m.parts[u]? = some pt:=⟨_,List.getElem?_eq_getElem hlu⟩;have p5:pt.sum.length=32:=(HB.out.p32 m (List.mem_of_getElem? HMJ.out)).1 pt (List.mem_of_getElem? hpt);have hbnd:pt.first+pt.many≤1048576:=by
      obtain⟨ok,_⟩:=HB.out.ok j m HMJ.out;have:=zmh ok.parts hpt;rw[ok.stop] at this;have:=ok.hi;omega
     obtain⟨a1,c1,e1,_,_,hx⟩:=PT.out wr kw2;injection e1 with e1 e3 e4
     subst e1;subst e4;obtain⟨g2,off2,rfl,hcell⟩:=hx u _ hpt;have hld:=load101 wr g2 (off2+u*35) pt p5 hcell;have hsp:=zac wr pt p5;have kP:za zq2 wr (wr.alloc (zq4 pt)):=(za.refl _ _).alloc _;have m0:=mf_0 (zh kP hmb);have b2:=pl_2 (zh kP h1);have p0:=pt_0 (ze wr (zq4 pt));have p1:=pt_1 (ze wr (zq4 pt));have hsn:itPs m.num mk n 0 (m.parts.take (u+1))=itPs m.num mk n 0 (m.parts.take u)++itOne m.num mk n u pt:=by
      rw[zby hpt,zht,List.length_take,show 0+min u m.parts.length=u by omega]
     obtain⟨f,hf⟩:∃f,f=max pt.first mk:=⟨_,rfl⟩;obtain⟨t,ht⟩:∃t,t=min (pt.first+pt.many) n:=⟨_,rfl⟩;have hw:IntKind.wrap .i64 ((pt.first:Int)+(pt.many:Int))=(pt.first:Int)+(pt.many:Int):=IntWalk.i64_in _ (by omega)
     have x1:max (pt.first:Int) (mk:Int)=(f:Int):=by omega
     have x2:(if (pt.first:Int)<(mk:Int) then (mk:Int) else (pt.first:Int))=(f:Int):=by split<;>omega
     have x3:(if pt.first<mk then (mk:Int) else (pt.first:Int))=(f:Int):=by split<;>omega
     have y1:min ((pt.first:Int)+(pt.many:Int)) (n:Int)=(t:Int):=by omega
     have y2:(if (n:Int)<(pt.first:Int)+(pt.many:Int) then (n:Int) else (pt.first:Int)+(pt.many:Int))=(t:Int):=by split<;>omega
     have hone:itOne m.num mk n u pt=if f<t then [⟨m.num,u,f,t⟩] else []:=by unfold itOne;rw[←hf,←ht]
     rw[hone] at hsn;have HS:=zz0 hsn;have H1:=zz0 h1;have H2:=zz0 h2;have H3:=zz0 h3;have H4:=zz0 h4;have KW2:=zz0 kw2;have KP:=zz0 kP;have hil:(zdf mk n (ms.take j)++itPs m.num mk n 0 (m.parts.take u)).length≤1000:=by
      have q1:=zgG mk n (ms.take j) (fun y hy=>(HB.out.four y (List.mem_of_mem_take hy)).1)
      have q2:=zgH m.num mk n (m.parts.take u) 0;rw[List.length_take] at q1 q2;rw[List.length_append];omega
     generalize hits:zdf mk n (ms.take j)++itPs m.num mk n 0 (m.parts.take u)=its at H1 H2 H4 hil;have HS2:Hid (zdf mk n (ms.take j)++itPs m.num mk n 0 (m.parts.take (u+1))=its++(if f<t then [⟨m.num,u,f,t⟩] else [])):=zz0 (by rw[HS.out,←List.append_assoc,hits])
     clear hits HS;dsimp only[zrb,zq4] at hsp;dsimp only[zq4] at p0 p1 m0 b2;clear hx hcell h1 h2 h3 h4 hmb kw2 kP hsn hone hf ht hbnd hpt;have kI:za zq2 wr ((wr.alloc (zq4 pt)).alloc (.cells #[.int .i64 m.num,.int .i64 u,.int .i64 f,.int .i64 t] 215)):=KP.out.alloc _;have KI:=zz0 kI;have SI:Hid (((wr.alloc (zq4 pt)).alloc (.cells #[.int .i64 m.num,.int .i64 u,.int .i64 f,.int .i64 t] 215)).heap.size=wr.heap.size+2):=zz0 (by simp)
     have nb:=ze (wr.alloc (zq4 pt)) (.cells #[.int .i64 m.num,.int .i64 u,.int .i64 f,.int .i64 t] 215);rw[show(wr.alloc (zq4 pt)).heap.size=wr.heap.size+1 by simp] at nb
     obtain⟨v0,v1,v2,v3,_⟩:=za4 nb;have b3:=pl_3 (zh kI H1.out);have k4:za zq2 wr (((wr.alloc (zq4 pt)).alloc (.cells #[.int .i64 m.num,.int .i64 u,.int .i64 f,.int .i64 t] 215)).alloc (.cells #[.int .i64 m.num,.int .i64 u,.int .i64 f,.int .i64 t] 215)):=kI.alloc _;have K4:=zz0 k4;have b3':=pl_3 (zh k4 H1.out);have n4:=ze ((wr.alloc (zq4 pt)).alloc (.cells #[.int .i64 m.num,.int .i64 u,.int .i64 f,.int .i64 t] 215)) (.cells #[.int .i64 m.num,.int .i64 u,.int .i64 f,.int .i64 t] 215);rw[SI.out] at n4;have N4:=zz0 n4;have SI2:Hid (w.heap.size≤wr.heap.size):=zz0 KW2.out.size;have HOW:Hid (o<wr.heap.size):=zz0 (lt_of_block H1.out);dsimp only[zq4] at v0 v1 v2 v3 b3 b3';clear kI nb k4 n4;have hsz2:W0.heap.size≤wr.heap.size:=hsz;by_cases hft:f<t
     ·have hft2:(f:Int)<(t:Int):=by omega
      have hs1:=HS2.out;rw[if_pos hft] at hs1;have HS3:=zz0 hs1;clear hs1 HS2;have ZO:Hid (o+1≤(((wr.alloc (zq4 pt)).alloc (.cells #[.int .i64 m.num,.int .i64 u,.int .i64 f,.int .i64 t] 215)).alloc (.cells #[.int .i64 m.num,.int .i64 u,.int .i64 f,.int .i64 t] 215)).heap.size):=zz0 (by have:=K4.out.size;have:=HOW.out;omega)
      go_wp2_with(at_builtin;refine zv rfl _ _ 154 rfl (o+1) 215 i0 _ 4 32 Tryz.underlying154 I0.out.1 I0.out.2.1 I0.out.2.2.1 I0.out.2.2.2 rfl (by decide) (.slice ia its.length ic) its.length (itC its) rfl (zc H2.out K4.out (fun _ _ e=>e)) ⟨wr.heap.size+1+1,0,none⟩ 1 1 (itC1 ⟨m.num,u,f,t⟩) rfl rfl (by exact(za4 N4.out).2.2.2.2) (by intro z hz;simp[itC1] at hz;rcases hz with rfl|rfl|rfl|rfl<;>rfl) (by unfold maxLen;omega) (by omega) (by exact ZO.out) ?_;intro v5 w5 ho hg hpp;obtain⟨a5,c5,rfl,_,_⟩:=zb ho;obtain⟨nx,b5,sz5⟩:=zpO SA.out (fun e=>lt_of_block (H4.out e).1) H1.out H2.out H3.out H4.out K4.out ho hg hpp;have f5:=pl_f b5 3;have g5:=pl_3 b5;have NX:=zz0 nx;have SZ5:=zz0 sz5;clear ho hg hpp nx b5 sz5)
      have kN:=NX.out;refine⟨⟨u+1,by omega,by first|rfl|go_num,by rw[HS3.out];exact kN,?_,Nat.le_trans hsz2 SZ5.out⟩,by simp[intOf];omega⟩
      obtain⟨_,_,_,_,kx,_⟩:=kN;exact KA.out.trans kx (fun _ _ e=>e) (fun g hg e=>by have e':g=o:=e;have:=SO.out;omega)
     ·have hft2:¬(f:Int)<(t:Int):=by omega
      have hs1:=HS2.out;rw[if_neg hft,List.append_nil] at hs1;have HS3:=zz0 hs1;clear hs1 HS2
      go_wp2_with fail
      refine⟨⟨u+1,by omega,by first|rfl|go_num,?_,KW2.out.trans1 KI.out,Nat.le_trans hsz2 KI.out.size⟩,by simp[intOf];omega⟩
      rw[HS3.out];exact OfLp.keep ⟨ia,ic,H1.out,H2.out,H3.out,H4.out⟩ KI.out
    ·obtain rfl:u=m.parts.length:=by omega
     have lp:OfLp WA o mb n mk (zq1 m (.slice pa m.parts.length pc)) (zdf mk n (ms.take j)++itPs m.num mk n 0 (m.parts.take m.parts.length)) wr:=⟨ia,ic,h1,h2,h3,h4⟩;rw[List.take_length] at lp;have hsn:zdf mk n (ms.take (j+1))=zdf mk n (ms.take j)++itPs m.num mk n 0 m.parts:=by rw[zby HMJ.out,ze9]
     rw[←hsn] at lp;have LP2:=zz0 lp;clear h1 h2 h3 h4 hmb kw2 lp hsn
     go_wp2_with fail
     obtain⟨ia',ic',g1,g2,g3,_⟩:=LP2.out;exact⟨⟨j+1,by omega,by first|rfl|go_num,ia',ic',g1,g2,g3,fun e=>absurd rfl e⟩,by simp[intOf];omega⟩
  ·obtain rfl:j=ms.length:=by omega
   obtain⟨ia,ic,g1,g2,g3,_⟩:=LP.out;rw[List.take_length] at g1 g2;have r0:=pl_0 g1;have r1:=pl_1 g1;have r2:=pl_2 g1;have r3:=pl_3 g1;have rz:wr.heap[w.heap.size]? = some PlZ:=g3.at RA.out (fun e=>by have e':w.heap.size=o:=e;have:=SO.out;omega)
   obtain⟨z0,z1,z2,z3,f0,f1,f2,f3,t4,kt⟩:=zes rz (.int .i64 n) (.int .i64 0) (.int .i64 mk) (.slice ia (zdf mk n ms).length ic);have T4:=zz0 t4;have KT:=zz0 kt;have G2:=zz0 g2;rw[show((0:Nat):Int)=0 from rfl] at r1
   clear g1 g2 g3 rz t4 kt
   go_wp2_with fail
   obtain⟨q0,q1,q2,q3,_⟩:=za4 T4.out;refine bodyPost_ret (v:=.tuple #[.agg #[.int .i64 n,.int .i64 0,.int .i64 mk,.slice ia (zdf mk n ms).length ic],.nilIface]) (by simp[results,Tryz.results78,go_sem,q0,q1,q2,q3]) rfl ?_
   have ko:=zc G2.out KT.out (fun g e e2=>by have e':g=w.heap.size:=e2;have:=(G2.out.lt g e).1;have:=SO.out;omega)
   exact⟨_,rfl,setNon4 KW.out KT.out,zcm.of ko,fun g e=>⟨by have:=(G2.out.lt g e).1;have:=SO.out;omega,Nat.lt_of_lt_of_le (G2.out.lt g e).2 KT.out.size⟩⟩
end
theorem zdV:zbg zaw:=by
 refine⟨?_,by decide,by decide⟩
 unfold za5
 decide
theorem zgc (F:Nat→Prop)(b lb q p:Nat)(X:Dk)(w:World)(d:zk F w q p X)(hd:X.down=false)(hh:zz X.shown zaw=false) :
 Calls Tryz.prog 77 #[.pointer (some ⟨b,0,none⟩),.pointer (some ⟨lb,0,none⟩),.pointer (some ⟨q,0,none⟩)] w fun e w'=>e = .returned (.tuple #[.agg #[.int .i64 0,.int .i64 0,.int .i64 0,.int .i64 0,.slice none 0 0],.bool false,.nilIface])∧za zq2 w w':=by
 have kA:za zq2 w (w.alloc CuZ):=(za.refl _ _).alloc _;have LD:=zz0 (zeW F q p zaw X (w.alloc CuZ) (d.keep kA (fun _ _ e=>e)) zdV hd hh)
 have KA:=zz0 kA;have BA:=zz0 (zif w);clear d kA;unfold sv zaw at LD;dsimp only[CuZ] at LD
 go_enter Tryz.func77,Tryz.ntmps77
 go_wp2_with(go_at_call 112;((with_reducible refine LD.out.mono ?_);rintro e w2 ⟨rfl,k2⟩);have b2:=zh (w:=w.alloc CuZ) k2 BA.out;have B2:=zz0 b2;have K2:=zz0 (KA.out.trans1 k2);have i0':=cu_0 b2;have i1':=cu_1 b2;have i2':=cu_2 b2;have i3':=cu_3 b2;have i4':=cu_4 b2;have j0':=zb5 b2 0;have j1':=zb5 b2 1;have j2':=zb5 b2 2;have j3':=zb5 b2 3;have j4':=zb5 b2 4;clear k2 b2)
 obtain⟨r0,r1,r2,r3,r4,kf⟩:=zdu B2.out (.int .i64 0) (.int .i64 0) (.int .i64 0) (.int .i64 0) (.slice none 0 0) _ rfl;refine bodyPost_ret (v:=.tuple #[.agg #[.int .i64 0,.int .i64 0,.int .i64 0,.int .i64 0,.slice none 0 0],.bool false,.nilIface]) (by simp[results,Tryz.results77,go_sem,r0,r1,r2,r3,r4]) rfl ?_
 exact⟨rfl,K2.out.trans kf (fun _ _ e=>e) (fun g hg e=>by have e':g=w.heap.size:=e;omega)⟩
def cuAt (u N M:Nat):Cu:=⟨u,u,N,M,[]⟩
theorem zon (F:Nat→Prop)(x b lb q p N B M t u:Nat)(ia:Option Addr)(il ic:Nat)(X Z:Dk)(w:World)(hx:w.heap[x]? = some (RsB b lb q N B M (.slice ia il ic) t false))(hxF:¬F x)
 (d:zk F w q p X) (hF:∀g,F g→g<w.heap.size) (hlim:X.lim 2 2 20000) (okc:zdQ (cuAt u N M)) (hsv:X.sput zaw (zco (cuAt u N M))=(0,Z)) :
 Calls Tryz.prog 79 #[.pointer (some ⟨x,0,none⟩),.int .i64 u] w fun e w'=>e = .returned .nilIface∧∃F',za (fun g=>F g∨g=x) w w'∧zq5 F' F w∧(∀g,F' g→g<w'.heap.size∧g≠x)∧zk F' w' q p Z∧w'.heap[x]? = some (RsB b lb q N B M (.slice ia il ic) u false):=by
 have hxl:x<w.heap.size:=by
  rcases Nat.lt_or_ge x w.heap.size with h|h
  ·exact h
  ·rw[Array.getElem?_eq_none h] at hx;cases hx
 refine(zjG x b lb q N B M t u ia il ic (zn F w q p Z) w hx ?_ ?_).mono ?_
 ·rintro w' ⟨kk,_⟩
  exact kk.at hx hxF
 ·intro W kW
  have hp:zC W (.slice none 0 0) (cuAt u N M).parts:=zC.of (B:=0) (World.ownsRow_nil _ _ _ _) (fun p hp=>by cases hp)
  have:=zdc F q p (cuAt u N M) (.slice none 0 0) zaw X _ _ _ W (d.keep kW (fun _ _ e=>e)) hlim (by omega) (by omega) (by omega) (fun g y=>kW.lt (hF g y)) zdV okc hp (by have:=zcC okc;omega)
  rw[hsv] at this;refine this.mono ?_;rintro e w' ⟨rfl,kk,F',s',d'⟩;refine⟨rfl,(kW.ofNon.trans kk (fun _ _ y=>y) (fun _ _ y=>y)),F',fun g y=>?_,d'⟩
  rcases s' g y with u|u
  ·exact .inl u
  ·exact .inr (Nat.le_trans kW.size u)
 ·rintro e w' ⟨rfl,w1,⟨kk,F',s',d'⟩,rfl⟩
  have hn:∀g,F' g→g≠x:=fun g y e=>by
   rcases s' g y with u|u
   ·exact hxF (e ▸ u)
   ·omega
  have b1:=kk.at hx hxF;have k6:za (zq3 x) w1 (w1.setCell ⟨x,7,none⟩ (.int .i64 u)):=(za.refl _ _).setOne _ _;refine⟨rfl,fun g=>F' g∧g<w1.heap.size,kk.trans k6 (fun _ _ e=>.inl e) (fun _ _ e=>.inr e),fun g y=>s' g y.1,fun g y=>⟨k6.lt y.2,hn g y.1⟩,d'.low.keep k6 (fun g y e=>hn g y.1 e),zmy b1 u⟩
theorem zot {w1:World}{sb:Nat}(z:w1.heap[sb]? = some (SgB 0 (.slice none 0 0))):w1.cell? ⟨sb,0,none⟩=some (.int .i64 0)∧w1.cell? ⟨sb,1,none⟩=some (.slice none 0 0)∧w1.frozen? ⟨sb,0,none⟩=false∧w1.frozen? ⟨sb,1,none⟩=false:=⟨sg_0 z,sg_1 z,sg_f z 0,sg_f z 1⟩
def TRbEnd (F:Nat→Prop)(w:World)(b lb q p n mk:Nat)(its:List It)(Z:Dk)(x:Nat)(w':World):Prop :=
 ∃ia ic F',za F w w'∧zq5 F' F w∧(∀g,F' g→g<w'.heap.size)∧zk F' w' q p Z∧w.heap.size≤x∧x<w'.heap.size∧¬F' x∧w'.heap[x]? = some (RsB b lb q n 0 mk (.slice ia its.length ic) 0 false)∧zcm w' (.slice ia its.length ic) its∧∀g,(Value.slice ia its.length ic).ownBlock=some g→w.heap.size≤g∧g<w'.heap.size∧¬F' g∧g≠x
def TRbSv (F:Nat→Prop)(w w4:World)(b lb q p n mk:Nat)(ia:Option Addr)(il ic:Nat)(Z:Dk)(w':World):Prop :=
 ∃F',za F w w'∧za (fun g=>F g∨g=w4.heap.size) w4 w'∧zq5 F' F w4∧(∀g,F' g→g<w'.heap.size∧g≠w4.heap.size)∧zk F' w' q p Z∧w'.heap[w4.heap.size]? = some (RsB b lb q n 0 mk (.slice ia il ic) 0 false)
theorem zoM (F:Nat→Prop)(b lb q p n mk:Nat)(ia:Option Addr)(il ic:Nat)(Z:Dk)(w w4:World)(k:za zq2 w w4)
 (sv:∀W,za zq2 w W→Calls Tryz.prog 65 #[.pointer (some ⟨q,0,none⟩),.string ⟨zaw.toArray⟩,.agg #[.int .i64 0,.int .i64 0,.int .i64 n,.int .i64 mk,.slice none 0 0]] W fun e w'=>e = .returned .nilIface∧zn F W q p Z w') (hF:∀g,F g→g<w.heap.size) :
 Calls Tryz.prog 79 #[.pointer (some ⟨w4.heap.size,0,none⟩),.int .i64 0] (w4.alloc (.cells #[.pointer (some ⟨b,0,none⟩),.pointer (some ⟨lb,0,none⟩),.pointer (some ⟨q,0,none⟩),.int .i64 n,.int .i64 0,.int .i64 mk,.slice ia il ic,.int .i64 0,.bool false] 160 (0,0))) fun e w'=>e = .returned .nilIface∧TRbSv F w w4 b lb q p n mk ia il ic Z w':=by
 have hx:(w4.alloc (.cells #[.pointer (some ⟨b,0,none⟩),.pointer (some ⟨lb,0,none⟩),.pointer (some ⟨q,0,none⟩),.int .i64 n,.int .i64 0,.int .i64 mk,.slice ia il ic,.int .i64 0,.bool false] 160 (0,0))).heap[w4.heap.size]? = some (RsB b lb q n 0 mk (.slice ia il ic) 0 false):=ze w4 _;have hxlt:w4.heap.size<(w4.alloc (.cells #[.pointer (some ⟨b,0,none⟩),.pointer (some ⟨lb,0,none⟩),.pointer (some ⟨q,0,none⟩),.int .i64 n,.int .i64 0,.int .i64 mk,.slice ia il ic,.int .i64 0,.bool false] 160 (0,0))).heap.size:=by show _<(w4.heap.push _).size;simp
 have k5:za zq2 w4 (w4.alloc (.cells #[.pointer (some ⟨b,0,none⟩),.pointer (some ⟨lb,0,none⟩),.pointer (some ⟨q,0,none⟩),.int .i64 n,.int .i64 0,.int .i64 mk,.slice ia il ic,.int .i64 0,.bool false] 160 (0,0))):=(za.refl _ _).alloc _;generalize hW:w4.alloc (.cells #[.pointer (some ⟨b,0,none⟩),.pointer (some ⟨lb,0,none⟩),.pointer (some ⟨q,0,none⟩),.int .i64 n,.int .i64 0,.int .i64 mk,.slice ia il ic,.int .i64 0,.bool false] 160 (0,0))=W5 at hx hxlt k5 ⊢;refine(zjG w4.heap.size b lb q n 0 mk 0 0 ia il ic (fun w'=>za F W5 w'∧∃F',zq5 F' F W5∧zk F' w' q p Z) W5 hx ?_ ?_).mono ?_
 ·rintro w' ⟨kk,_⟩
  exact kk.at hx (fun y=>by have:=hF _ y;have:=k.size;omega)
 ·intro W kW
  refine(sv W ((k.trans1 k5).trans1 kW)).mono ?_;rintro e w' ⟨rfl,kk,F',s',d'⟩;refine⟨rfl,(kW.ofNon.trans kk (fun _ _ y=>y) (fun _ _ y=>y)),F',fun g y=>?_,d'⟩
  rcases s' g y with u|u
  ·exact .inl u
  ·exact .inr (Nat.le_trans kW.size u)
 ·rintro e w' ⟨rfl,w1,⟨kk,F',s',d'⟩,rfl⟩
  have hn:∀g,F' g→g≠w4.heap.size:=fun g y e=>by
   rcases s' g y with u|u
   ·have:=hF _ u;have:=k.size;omega
   ·omega
  have b1:=kk.at hx (fun y=>by have:=hF _ y;have:=k.size;omega)
  have k6:za (zq3 w4.heap.size) w1 (w1.setCell ⟨w4.heap.size,7,none⟩ (.int .i64 0)):=(za.refl _ _).setOne _ _;have K7:za (fun g=>F g∨g=w4.heap.size) w4 (w1.setCell ⟨w4.heap.size,7,none⟩ (.int .i64 0)):=(k5.trans kk (fun _ _ e=>e.elim) (fun _ _ e=>.inl e)).trans k6 (fun _ _ e=>e) (fun _ _ e=>.inr e)
  refine⟨rfl,fun g=>F' g∧g<w1.heap.size,?_,K7,?_,?_,?_,?_⟩
  ·exact k.trans K7 (fun _ _ e=>e.elim) (fun g hg e=>e.elim id (fun u=>by have:=k.size;omega))
  ·intro g y
   rcases s' g y.1 with u|u
   ·exact .inl u
   ·exact .inr (by omega)
  ·intro g y
   exact⟨k6.lt y.2,hn g y.1⟩
  ·exact d'.low.keep k6 (fun g y e=>hn g y.1 e)
  ·exact zmy b1 0
theorem zkQ {C:Nat→Cl}{D:Fl}(F FL T:Nat→Prop)(b lb q0 q p n mk:Nat)(its:List It)(lv:Value)(ms:List Mf)(hmk0:mk=zcI ms n)(hits:its=zdf mk n ms)(X Z:Dk)(L:Lg)(w:World)(hb:w.heap[b]? = some (VtB q0 lv))(hm:zai T w lv ms)(htb:TB C D ms)(hne:ms≠[])(hn:n≤zbr ms)(hlay:Lay w)
 (d:zk F w q p X) (hF:∀g,F g→g<w.heap.size) (lg:zaH FL w lb 2 L) (hse:L.se=L.ep) (hnx:L.next=0) (hup:X.down=false) (hcur:zz X.shown zaw=false) (hlim:X.lim 2 2 20000) (hsv:X.sput zaw (zco (cuAt 0 n mk))=(0,Z)) (hmk:mk≤200) :
 Calls Tryz.prog 38 #[.pointer (some ⟨b,0,none⟩),.pointer (some ⟨lb,0,none⟩),.pointer (some ⟨q,0,none⟩),.int .i64 n] w fun e w'=>∃x,e = .returned (.tuple #[.pointer (some ⟨x,0,none⟩),.nilIface])∧TRbEnd F w b lb q p n mk its Z x w':=by
 have LD:=zz0 (zgc F b lb q p X w d hup hcur);have TL:Hid (∀W,za zq2 w W→Calls Tryz.prog 15 #[.pointer (some ⟨lb,0,none⟩)] W fun r w'=>r = .returned (.tuple #[.int .i64 0,.nilIface])∧za zq2 W w'):=zz0 (fun W k=>by have:=zdO W (lg.keepNon k) hse;rw[hnx] at this;exact this)
 have hn200:n≤200:=Nat.le_trans hn htb.stop;have CH:=zz0 (fun W (k:za zq2 w W)=>zar T b q0 lv ms W (zh k hb) (hm.keepNon k) htb.p32 (by have:=htb.few;omega))
 have PO:=zz0 (fun T v W (k:za zq2 w W) (h:zai T W v ms)=>by have:=zn8 T v ms n W h htb hne hn (hlay.keepNon k);rw[←hmk0,←hits] at this;exact this)
 have SV:Hid (∀W,za zq2 w W→Calls Tryz.prog 65 #[.pointer (some ⟨q,0,none⟩),.string ⟨zaw.toArray⟩,.agg #[.int .i64 0,.int .i64 0,.int .i64 n,.int .i64 mk,.slice none 0 0]] W fun e w'=>e = .returned .nilIface∧zn F W q p Z w'):=zz0 (fun W k=>by
  have okc:zdQ (cuAt 0 n mk):=⟨trivial,rfl,Nat.zero_le _,by show n≤1048576;omega,by show mk≤1048576;omega,by show 0≤64;omega⟩
  have hp:zC W (.slice none 0 0) (cuAt 0 n mk).parts:=zC.of (B:=0) (World.ownsRow_nil _ _ _ _) (fun p hp=>by cases hp)
  have:=zdc F q p (cuAt 0 n mk) (.slice none 0 0) zaw X _ _ _ W (d.keep k (fun _ _ e=>e)) hlim (by omega) (by omega) (by omega) (fun g y=>k.lt (hF g y)) zdV okc hp (by have:=zcC okc;omega)
  rw[hsv] at this;exact this)
 have HF:=zz0 hF;clear hb hm htb hne hn hlay d lg hse hnx hup hcur hlim hsv hF hmk0 hits
 go_enter Tryz.func38,Tryz.ntmps38
 go_wp2_with(first
  |(go_at_call 77;((with_reducible refine LD.out.mono ?_);rintro e w1 ⟨rfl,k1⟩);have K1:=zz0 (k1.alloc CuZ);clear k1)
  |(go_at_call 9;refine(CH.out _ K1.out).mono ?_;rintro e w2 ⟨v2,rfl,k2,m2⟩;have K2:=zz0 (K1.out.trans1 k2);have PO2:=zz0 (PO.out _ v2 w2 K2.out m2);clear k2 m2)
  |(go_at_call 78;((with_reducible refine PO2.out.mono ?_);rintro e w3 ⟨iv,rfl,k3,i3,g3⟩);obtain⟨ia,ic,rfl,_⟩:=id i3;have K3:=zz0 (K2.out.trans1 k3);have E3:=zz0 (And.intro i3 (fun g e=>And.intro (Nat.le_trans K2.out.size (g3 g e).1) (g3 g e).2));have P3:=zz0 (ze w3 (.cells #[.int .i64 n,.int .i64 0,.int .i64 mk,.slice ia its.length ic] 156 (0,0)));have K3':Hid (za zq2 w3 (w3.alloc (.cells #[.int .i64 n,.int .i64 0,.int .i64 mk,.slice ia its.length ic] 156 (0,0)))):=zz0 ((za.refl _ _).alloc _);clear k3 i3 g3)
  |(go_at_call 15;refine(TL.out _ (K3.out.trans1 K3'.out)).mono ?_;rintro e w4 ⟨rfl,k4⟩;have K4':=zz0 k4;have p4:=zh k4 P3.out;have P4:=zz0 p4;obtain⟨c0,c1,c2,c3,_⟩:=za4 p4;have kx:za zq2 w4 (w4.alloc (.cells #[.pointer (some ⟨b,0,none⟩),.pointer (some ⟨lb,0,none⟩),.pointer (some ⟨q,0,none⟩),.int .i64 n,.int .i64 0,.int .i64 mk,.slice ia its.length ic,.int .i64 0,.bool false] 160 (0,0))):=(za.refl _ _).alloc _;have c1':=(za4 (zh kx p4)).2.1;have SW:=zz0 (zoM F b lb q p n mk ia its.length ic Z w w4 ((K3.out.trans1 K3'.out).trans1 k4) SV.out HF.out);clear k4 p4 kx)
  |(go_at_call 79;((with_reducible refine SW.out.mono ?_);rintro e w5 ⟨rfl,r5⟩);have R5:=zz0 r5;clear r5))
 go_ret2;obtain⟨F',kA,kB,s',f',d',x'⟩:=R5.out;have hw4:w.heap.size≤w4.heap.size:=Nat.le_trans (K3.out.trans1 K3'.out).size K4'.out.size;have hg4:∀g,(Value.slice ia its.length ic).ownBlock=some g→w.heap.size≤g∧g<w4.heap.size:=fun g e=>⟨(E3.out.2 g e).1,Nat.lt_of_lt_of_le (E3.out.2 g e).2 (Nat.le_trans K3'.out.size K4'.out.size)⟩
 have i4:zcm w4 (.slice ia its.length ic) its:=(E3.out.1.keepNon K3'.out).keepNon K4'.out;have hxl:w4.heap.size<w5.heap.size:=lt_of_block x';refine⟨w4.heap.size,rfl,ia,ic,F',kA,fun g y=>?_,fun g y=>(f' g y).1,d',hw4,hxl,fun y=>(f' _ y).2 rfl,x',i4.keep kB (fun g e y=>?_),fun g e=>⟨(hg4 g e).1,by have:=(hg4 g e).2;omega,fun y=>?_,by have:=(hg4 g e).2;omega⟩⟩
 ·rcases s' g y with u|u
  ·exact .inl u
  ·exact .inr (by omega)
 ·have:=hg4 g e
  rcases y with u|u
  ·have:=HF.out _ u;omega
  ·omega
 ·have:=hg4 g e
  rcases s' _ y with u|u
  ·have:=HF.out _ u;omega
  ·omega
def AtP (C:Nat→Cl)(f0 m f u:Nat)(a:Option Addr)(c:Nat)(W:World):Prop:=∀W2,za zq2 W W2→∀ad,f≤ad→ad<u→Calls Tryz.prog 202 #[.agg #[.int .i64 f0,.slice a m c],.int .i64 ad] W2 fun e w2=>∃xa xc,e = .returned (.tuple #[.agg #[.int .i64 (C ad).1,.slice xa (C ad).2.length xc],.bool true])∧za zq2 W2 w2∧w2.ownsRow W2.heap.size 5 1 (.slice xa (C ad).2.length xc) (C ad).2.length ((C ad).2.map bv)
def TGtE (k0:Nat)(C:Nat→Cl)(f0 m f u:Nat)(WX W:World)(sb:Nat)(a:Option Addr)(c:Nat):Prop:=W.heap[sb]? = some (SgB f0 (.slice a m c))∧za zq2 WX W∧k0≤sb∧∀W2,za (fun g=>g<k0) W W2→AtP C f0 m f u a c W2
theorem zoE {k0:Nat}{C:Nat→Cl}{f0 m f u:Nat}{WX w1:World}{B c:Nat}{a:Option Addr}(hk:k0≤WX.heap.size)(hB:k0≤B)(k:za zq2 WX w1)(h:∀W2,za (fun g=>g<B) w1 W2→AtP C f0 m f u a c W2):TGtE k0 C f0 m f u WX (w1.alloc (SgB f0 (.slice a m c))) w1.heap.size a c :=
 ⟨ze w1 _,k.alloc _,Nat.le_trans hk k.size,fun W2 k2=>h W2 (((za.refl zq2 w1).alloc (SgB f0 (.slice a m c))).trans k2 (fun _ _ e=>e.elim) (fun g _ e=>by have e':g<k0:=e;show g<B;omega))⟩
theorem zoF {k0:Nat}{C:Nat→Cl}{f0 m f u:Nat}{WX w1:World}{B c sb:Nat}{a:Option Addr}(hk:k0≤WX.heap.size)(hB:k0≤B)(k:za zq2 WX w1)(z:w1.heap[sb]? = some (SgB 0 (.slice none 0 0)))(y:WX.heap.size≤sb)(l:sb<B)(h:∀W2,za (fun g=>g<B) w1 W2→AtP C f0 m f u a c W2):TGtE k0 C f0 m f u WX ((w1.setCell ⟨sb,0,none⟩ (.int .i64 f0)).setCell ⟨sb,1,none⟩ (.slice a m c)) sb a c:=by
 have kf:za (zq3 sb) w1 ((w1.setCell ⟨sb,0,none⟩ (.int .i64 f0)).setCell ⟨sb,1,none⟩ (.slice a m c)):=((za.refl _ _).setOne _ _).setOne _ _;refine⟨zj (zj z 0 _) 1 _,k.trans kf (fun _ _ e=>e) (fun g hg e=>by have e':g=sb:=e;omega),Nat.le_trans hk y,fun W2 k2=>h W2 (kf.trans k2 (fun g _ e=>by have e':g=sb:=e;show g<B;omega) (fun g _ e=>by have e':g<k0:=e;show g<B;omega))⟩
theorem zoI (C:Nat→Cl)(x b lb q N B M t n p f u f0 m:Nat)(iv:Value)(I:World→Nat→World→Prop)(Q2:World→Prop)(w:World)(hx:w.heap[x]? = some (RsB b lb q N B M iv t false))(htf:t≤f)(hfu:f<u)(hu:u≤200)
 (hget:∀W,za zq2 w W→Calls Tryz.prog 201 #[.pointer (some ⟨b,0,none⟩),.int .i64 n,.int .i64 p] W fun e w'=>∃a c,e = .returned (.tuple #[.agg #[.int .i64 f0,.slice a m c],.nilIface])∧za zq2 W w'∧∀W2,za (fun g=>g<W.heap.size) w' W2→AtP C f0 m f u a c W2)
 (h0:∀V,za zq2 w V→I V f V) (hI:∀V ad W,I V ad W→W.heap[x]? = some (RsB b lb q N B M iv t false))
 (hput:∀V ad W W1 xa xc,f≤ad→ad<u→((C ad).1=1∨(C ad).1=2)→I V ad W→za zq2 W W1→Bs W1 (.slice xa (C ad).2.length xc) (C ad).2→(∀g,(Value.slice xa (C ad).2.length xc).ownBlock=some g→W.heap.size≤g∧g<W1.heap.size)→Calls Tryz.prog 19 #[.pointer (some ⟨lb,0,none⟩),.int .i64 ad,.agg #[.int .i64 (C ad).1,.slice xa (C ad).2.length xc]] W1 fun e w'=>e = .returned .nilIface∧I V (ad+1) w'∧za (fun g=>g<w.heap.size∨V.heap.size≤g) W1 w')
 (hskip:∀V ad W W1,f≤ad→ad<u→¬((C ad).1=1∨(C ad).1=2)→I V ad W→za zq2 W W1→I V (ad+1) W1)
 (hsave:∀V W W1,I V u W→za zq2 W W1→Calls Tryz.prog 79 #[.pointer (some ⟨x,0,none⟩),.int .i64 u] W1 fun e w'=>e = .returned .nilIface∧Q2 w') :
 Calls Tryz.prog 134 #[.pointer (some ⟨x,0,none⟩),itV n p f u] w fun e w'=>e = .returned .nilIface∧Q2 w':=by
 obtain⟨WX,hWX⟩:∃WX,WX=(w.alloc (ItB n p f u)).drew:=⟨_,rfl⟩;have KX:Hid (za zq2 w WX):=zz0 (by rw[hWX];exact((za.refl _ _).alloc _).drew)
 have IX:Hid (WX.heap[w.heap.size]? = some (ItB n p f u)):=zz0 (by rw[hWX];exact ze w (ItB n p f u))
 have HX:=zz0 hx;have LS:Hid (∀W,za zq2 WX W→W.cell? ⟨x,0,none⟩=some (.pointer (some ⟨b,0,none⟩))∧W.cell? ⟨w.heap.size,0,none⟩=some (.int .i64 n)∧W.cell? ⟨w.heap.size,1,none⟩=some (.int .i64 p)):=zz0 (fun W k=>by
  have i:=zh k IX.out;exact⟨rs_0 (zh (KX.out.trans1 k) HX.out),it_0 i,it_1 i⟩)
 have GT:=zz0 (fun W (k:za zq2 WX W)=>hget W (KX.out.trans1 k))
 have HW:Hid ((w.alloc (.cells #[.int .i64 n,.int .i64 p,.int .i64 f,.int .i64 u] 215)).drew=WX):=zz0 hWX.symm;have LS0:=LS.out WX (za.refl _ _);rw[←HW.out] at LS0;have LS1:=zz0 LS0;have PU:=zz0 hput;have H0:=zz0 h0;have HI:=zz0 hI;have SK:=zz0 hskip;have SV:=zz0 hsave;have HXL:Hid (x<w.heap.size):=zz0 (lt_of_block hx);clear hx hget hput h0 hI hskip hsave hWX LS0;unfold itV
 go_enter Tryz.func134,Tryz.ntmps134
 go_wp2_with fail
 refine(fun(FIN2:Hid ?T2)=>?main2) (zz0 ?fin2)
 case' main2=>refine wp_region_noPanic ?_
 refine wp_region_held_drew (S:=fun W=>W.cell? ⟨x,0,none⟩=some (.pointer (some ⟨b,0,none⟩))∧W.cell? ⟨w.heap.size,0,none⟩=some (.int .i64 n)∧W.cell? ⟨w.heap.size,1,none⟩=some (.int .i64 p)) (by as_aux_lemma=>kernel_rfl) LS1.out (fun hHeld=>?_)
 refine tq 0 ?_;refine tq 1 ?_;refine tq 2 ?_;refine tq 3 ?_;refine tq 4 ?_;refine tq 5 ?_;refine tq 6 ?_;refine tq 7 ?_;rw[HW.out];clear hHeld;have hHeld:=LS.out WX (za.refl _ _);refine wpAnyH_ready (rs:=[8,12]) (by as_aux_lemma=>kernel_rfl) (by simp) ?_
 refine AllReadyH.cons (by simp only[List.getElem?_toArray,List.getElem?_cons_succ,List.getElem?_cons_zero];rfl) (fun K hK=>?arm9_8) (AllReadyH.cons (by simp only[List.getElem?_toArray,List.getElem?_cons_succ,List.getElem?_cons_zero];rfl) (fun K hK=>?arm9_12) AllReadyH.nil)
 case' arm9_8 =>
  go_simp;refine(GT.out WX (za.refl zq2 WX)).mono ?_;rintro e w10 ⟨a,c,rfl,t10,h10⟩;have k10:=zz0 (((za.refl zq2 WX)).trans1 t10);have h10':=zz0 h10;have s10':Hid (w.heap.size≤WX.heap.size):=zz0 (Nat.le_trans KX.out.size ((za.refl zq2 WX)).size);clear t10 h10
  go_wp2_with fail
  refine hK.out _ _ (LS.out w10 k10.out) (fun hHeld10=>?_)
  clear hK K
  try simp only[Act.put,List.setIfInBounds_toArray,List.set_cons_zero,List.set_cons_succ]
  refine tq 9 ?_;refine tq 10 ?_;refine tq 11 ?_;refine rc (i:=12) (fun K hK=>?_)
  go_simp;have E:=zz0 (zoE KX.out.size s10'.out k10.out h10'.out);refine hK.out _ _ (LS.out _ ((k10.out).alloc _)) (fun hHeld14=>?_)
  clear hK K
  try simp only[Act.put,List.setIfInBounds_toArray,List.set_cons_zero,List.set_cons_succ]
  refine rc (i:=13) (fun K hK=>?_)
  go_simp;refine hK.out _ _ (LS.out _ ((k10.out).alloc _)) (fun hHeld15=>?_)
  clear hK K
  try simp only[Act.put,List.setIfInBounds_toArray,List.set_cons_zero,List.set_cons_succ]
  refine tq 14 ?_;refine wpAnyH_done (by as_aux_lemma=>kernel_rfl) ?_ _
  refine NoPanic.normal ?_;have e0:=E.out;dsimp only[SgB] at e0;generalize (w10.alloc _)=W5 at e0 ⊢;generalize w10.heap.size=nb at e0 ⊢;have E6:=zz0 e0;clear e0 E;clear h10'
  try clear hHeld10
  try clear hHeld14
  try clear hHeld15
  revert a c W5 nb;exact FIN2.out
 case' arm9_12 =>
  go_simp;have k17:Hid (za zq2 WX (WX.alloc (.cells #[.int .i64 0,.slice none 0 0] 263))):=zz0 (((za.refl zq2 WX)).alloc _);have z17:Hid ((WX.alloc (.cells #[.int .i64 0,.slice none 0 0] 263)).heap[WX.heap.size]? = some (SgB 0 (.slice none 0 0))):=zz0 (ze WX _);have y17:Hid (WX.heap.size≤WX.heap.size):=zz0 (((za.refl zq2 WX)).size);have l17:Hid (WX.heap.size<(WX.alloc (.cells #[.int .i64 0,.slice none 0 0] 263)).heap.size):=zz0 (lt_of_block z17.out);obtain⟨v17,hv17⟩:∃v17,v17=WX.alloc (.cells #[.int .i64 0,.slice none 0 0] 263):=⟨_,rfl⟩;rw[←hv17] at k17 z17 l17
  try rw[←hv17]
  clear hv17;refine hK.out _ _ (LS.out v17 k17.out) (fun hHeld17=>?_)
  clear hK K
  try simp only[Act.put,List.setIfInBounds_toArray,List.set_cons_zero,List.set_cons_succ]
  refine rc (i:=8) (fun K hK=>?_)
  go_simp;refine(GT.out v17 k17.out).mono ?_;rintro e w18 ⟨a,c,rfl,t18,h18⟩;have k18:=zz0 ((k17.out).trans1 t18);have h18':=zz0 h18;have s18':Hid (w.heap.size≤v17.heap.size):=zz0 (Nat.le_trans KX.out.size (k17.out).size);have z18:=zz0 (zh t18 z17.out);clear t18 h18
  go_wp2_with fail
  refine hK.out _ _ (LS.out w18 k18.out) (fun hHeld18=>?_)
  clear hK K
  try simp only[Act.put,List.setIfInBounds_toArray,List.set_cons_zero,List.set_cons_succ]
  refine tq 9 ?_;refine tq 10 ?_;refine tq 11 ?_;refine rc (i:=13) (fun K hK=>?_)
  obtain⟨y0,y1,z0,z1⟩:=zot z18.out;have E:=zz0 (zoF KX.out.size s18'.out k18.out z18.out y17.out l17.out h18'.out);go_simp;refine hK.out _ _ (LS.out _ E.out.2.1) (fun hHeld22=>?_)
  clear hK K
  try simp only[Act.put,List.setIfInBounds_toArray,List.set_cons_zero,List.set_cons_succ]
  refine tq 14 ?_;refine wpAnyH_done (by as_aux_lemma=>kernel_rfl) ?_ _
  refine NoPanic.normal ?_;have e0:=E.out;clear y0 y1 z0 z1;generalize (World.setCell (World.setCell w18 _ _) _ _)=W5 at e0 ⊢;generalize WX.heap.size=nb at e0 ⊢;have E6:=zz0 e0;clear e0 E;clear h18'
  try clear hHeld17
  try clear hHeld18
  try clear hHeld22
  revert a c W5 nb;exact FIN2.out
 intro a c W5 nb E6;have KZ:Hid (za zq2 w W5):=zz0 (KX.out.trans1 E6.out.2.1);have c7:W5.cell? ⟨x,7,none⟩=some (.int .i64 t):=rs_7 (zh KZ.out HX.out);have c4:W5.cell? ⟨x,4,none⟩=some (.int .i64 B):=rs_4 (zh KZ.out HX.out);have i2:=it_2 (zh E6.out.2.1 IX.out);have i3:=it_3 (zh E6.out.2.1 IX.out);have hmx:(max (t:Int) (f:Int))=(f:Int):=by omega
 have hmx2:(if (t:Int)<(f:Int) then (f:Int) else (t:Int))=(f:Int):=by split<;>omega
 have hmx3:(if (t:Int)≤(f:Int) then (f:Int) else (t:Int))=(f:Int):=by split<;>omega
 have hmx4:(if t<f then (f:Int) else (t:Int))=(f:Int):=by split<;>omega
 have hmxr:=hmx4
 go_wp2_with fail
 refine(fun(FIN3:Hid ?T3)=>?main3) (zz0 ?fin3)
 case' main3 =>
  go_region_law go_simp
  all_goals exact FIN3.out
 go_wp2_with fail
 obtain⟨V,hV⟩:∃V,V=W5.drew:=⟨_,rfl⟩;rw[←hV];have KV:Hid (za zq2 W5 V):=zz0 (by rw[hV];exact(za.refl zq2 W5).drew)
 have KWV:Hid (za zq2 w V):=zz0 (KZ.out.trans1 KV.out);have IV:Hid (V.heap[w.heap.size]? = some (ItB n p f u)):=zz0 (zh KV.out (zh E6.out.2.1 IX.out));have GV:Hid (V.heap[nb]? = some (SgB f0 (.slice a m c))):=zz0 (zh KV.out E6.out.1);clear hV c7 c4 i2 i3 hmx hmx2 hmx3 hmx4;simp only[List.getElem_toArray,List.getElem_cons_succ,List.getElem_cons_zero,Act.put,List.setIfInBounds_toArray,List.set_cons_succ,List.set_cons_zero]
 go_loopw [7] (fun i wr=>∃ad:Nat,f≤ad∧ad≤u∧i = .int .i64 ad∧I V ad wr∧za (fun g=>g<w.heap.size) V wr) (fun i _=>u-(intOf i).toNat)
 case atStart=>exact⟨f,Nat.le_refl _,by omega,by first|rfl|simp[hmxr],H0.out V KWV.out,za.refl _ _⟩
 case round =>
  obtain⟨ad,ha1,ha2,rfl,hi,hk⟩:=hrel;have HII:=zz0 hi;have HK:=zz0 hk;have i3:=it_3 (hk.at IV.out (fun e=>Nat.lt_irrefl _ e))
  have gb:=hk.at GV.out (fun e=>Nat.not_lt.2 E6.out.2.2.1 e)
  have g0:=sg_0 gb;have g1:=sg_1 gb;have AT:=zz0 (E6.out.2.2.2 wr ((KV.out.ofNon).trans1 hk));clear hi hk gb;by_cases hlt:ad<u
  ·have hlj:(ad:Int)<(u:Int):=by omega
   have ATW:=zz0 (AT.out wr (za.refl _ _) ad ha1 hlt);have PUW:=zz0 (fun W1 xa xc hk12=>PU.out V ad wr W1 xa xc ha1 hlt hk12 HII.out)
   have SKW:=zz0 (fun W1 hk12=>SK.out V ad wr W1 ha1 hlt hk12 HII.out)
   generalize C ad=y at ATW PUW SKW;obtain⟨k,d⟩:=y;dsimp only at ATW PUW SKW;clear AT
   go_wp2_with fail
   refine ATW.out.mono ?_;rintro e w6 ⟨xa,xc,rfl,k6,o6⟩;have K6:=zz0 k6;have O6:=zz0 o6;have C7:=zz0 (ze w6 (.cells #[.int .i64 k,.slice xa d.length xc] 45 (0,0)));have K7:Hid (za zq2 wr (w6.alloc (.cells #[.int .i64 k,.slice xa d.length xc] 45 (0,0)))):=zz0 (k6.alloc _);have O7:Hid ((w6.alloc (.cells #[.int .i64 k,.slice xa d.length xc] 45 (0,0))).ownsRow wr.heap.size 5 1 (.slice xa d.length xc) d.length (d.map bv)):=zz0 (zc o6 ((za.refl zq2 w6).alloc _) (fun _ _ e=>e))
   clear k6 o6 ATW;have d0:(w6.alloc (.cells #[.int .i64 k,.slice xa d.length xc] 45 (0,0))).cell? ⟨w6.heap.size,0,none⟩=some (.int .i64 k):=cl0 C7.out;have d1:(w6.alloc (.cells #[.int .i64 k,.slice xa d.length xc] 45 (0,0))).cell? ⟨w6.heap.size,1,none⟩=some (.slice xa d.length xc):=cl1 C7.out;by_cases h12:k=1∨k=2
   ·have hx1:=rs_1 (zh K7.out (HI.out V ad wr HII.out))
    have PUX:=zz0 (PUW.out (w6.alloc (.cells #[.int .i64 k,.slice xa d.length xc] 45 (0,0))).drew xa xc h12 K7.out.drew (Rd.keepNon (Rd.ofOwns O7.out) (za.refl zq2 _).drew) (fun g e=>O7.out.lt g e))
    rcases h12 with rfl|rfl
    all_goals
     go_wp2_with fail
     go_region_law(go_simp;go_at_call 19;((with_reducible refine PUX.out.mono ?_);rintro e w8 ⟨rfl,i8,k8⟩);have I8:=zz0 i8;have K8:=zz0 k8;clear i8 k8)
     all_goals
      go_wp2_with fail
      have kk:za (fun g=>g<w.heap.size) V w8:=(HK.out.trans1 K7.out.drew.ofNon).trans K8.out (fun _ _ e=>e) (fun g hg e=>by rcases e with e|e;exact e;omega)
      exact⟨⟨ad+1,by omega,by omega,by first|rfl|go_num,I8.out,kk⟩,by simp[intOf];omega⟩
   ·have hk1:(k != 1)=true:=by simp;omega
    have hk2:(k != 2)=true:=by simp;omega
    have SKX:=zz0 (SKW.out (w6.alloc (.cells #[.int .i64 k,.slice xa d.length xc] 45 (0,0))) h12 K7.out)
    go_wp2_with fail
    exact⟨⟨ad+1,by omega,by omega,by first|rfl|go_num,SKX.out,HK.out.trans1 K7.out.ofNon⟩,by simp[intOf];omega⟩
  ·obtain rfl:ad=u:=by omega
   have SVW:=zz0 (SV.out V wr wr HII.out (za.refl _ _));have SVD:=zz0 (SV.out V wr wr.drew HII.out (za.refl zq2 wr).drew)
   go_wp2_with(go_at_call 79;first|((with_reducible refine SVW.out.mono ?_);rintro e w9 ⟨rfl,q9⟩)|((with_reducible refine SVD.out.mono ?_);rintro e w9 ⟨rfl,q9⟩))
   go_ret;exact⟨rfl,q9⟩
end Go.Proofs.YtpojgmeoaflmoaaGreatDoor
