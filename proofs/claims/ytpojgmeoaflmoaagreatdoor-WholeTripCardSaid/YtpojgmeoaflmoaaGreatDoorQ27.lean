/- slog: Put, Read, has, Unit, Projection:  -/
import Derived.Test.YtpojgmeoaflmoaaGreatDoorQ26
set_option linter.unusedVariables false
set_option maxRecDepth 100000
set_option maxHeartbeats 16000000
namespace Go.Proofs.YtpojgmeoaflmoaaGreatDoor
open Go.RowKit Go.Maps
theorem zjp {F:Nat→Prop}{b n a m xc:Nat}{k:Int}{xa:Option Addr}{L:Lg}(w:World)(h:zaH F w b n L)(ha:a≤1048575)(hk:zb7 k m≠0∨k=0∨k=3) :
 Calls Tryz.prog 19 #[.pointer (some ⟨b,0,none⟩),.int .i64 a,.agg #[.int .i64 k,.slice xa m xc]] w fun r w'=>(∃e,r = .returned (zbU e))∧za zq2 w w':=by
 have hcc:=zda k xa m xc;have kA:za zq2 w (w.alloc (zqZ k (.slice xa m xc))):=(za.refl _ _).alloc _;have IN:=zz0 (zcH a 1048575 (w.alloc (zqZ k (.slice xa m xc))) (by omega) (by omega))
 have AK:=zz0 (zdg b (w.alloc (zqZ k (.slice xa m xc))));have KA:=zz0 kA;clear kA h;by_cases hc:zb7 k m=0
 ·have hk2:k=0∨k=3:=hk.resolve_left (fun x=>x hc)
  have CC:=zz0 (hcc (w.alloc (zqZ k (.slice xa m xc))));have PB:Hid (∀W,za zq2 (w.alloc (zqZ k (.slice xa m xc))) W→W.cell? ⟨w.heap.size,0,none⟩=some (.int .i64 k)):=zz0 (fun W kk=>cl0 (kk.at (ze w (zqZ k (.slice xa m xc))) (fun e=>e)))
  rw[hc,zaK] at CC;have k0:=cl0 (ze w (zqZ k (.slice xa m xc)));have k1:=cl1 (ze w (zqZ k (.slice xa m xc)));dsimp only[zqZ] at *;clear hcc hc hk;rcases hk2 with rfl|rfl
  all_goals
   go_enter Tryz.func19,Tryz.ntmps19
   go_wp2_with(first
    |(go_at_call 21;refine IN.out.mono ?_;rintro r w1 ⟨rfl,rfl⟩)
    |(go_at_call 20;refine AK.out.mono ?_;rintro r w1 ⟨rfl,rfl⟩)
    |(go_at_call 52;refine CC.out.mono ?_;rintro r w1 ⟨rfl,k⟩;have p0:=PB.out _ k;have K1:=zz0 k;clear k))
   go_ret;exact⟨⟨2,(by rw[zaA (by decide)];rfl)⟩,KA.out.trans1 K1.out⟩
 ·have CC:=zz0 (hcc (w.alloc (zqZ k (.slice xa m xc))))
  rw[zaA hc] at CC;have k0:=cl0 (ze w (zqZ k (.slice xa m xc)));have k1:=cl1 (ze w (zqZ k (.slice xa m xc)));have EX:Hid (∃e,(.iface 89 (.int .i64 (zb7 k m)):Value)=zbU e):=zz0 ⟨_,(zaA hc).symm⟩;generalize zb7 k m=ee at CC hc EX;dsimp only[zqZ] at *;clear hcc hk
  go_enter Tryz.func19,Tryz.ntmps19
  go_wp2_with(first
   |(go_at_call 21;refine IN.out.mono ?_;rintro r w1 ⟨rfl,rfl⟩)
   |(go_at_call 20;refine AK.out.mono ?_;rintro r w1 ⟨rfl,rfl⟩)
   |(go_at_call 52;refine CC.out.mono ?_;rintro r w1 ⟨rfl,k⟩;have K1:=zz0 k;clear k))
  go_ret;obtain⟨e,he⟩:=EX.out;exact⟨⟨e,(by rw[←he];rfl)⟩,KA.out.trans1 K1.out⟩
theorem zjq {F0:Nat→Prop}{b n a m xc u:Nat}{k:Int}{xa:Option Addr}{L L2:Lg}(w:World)(h:zaH F0 w b n L)(he:L2.ep=L.ep)(hse:L2.se=L2.ep)(hn:0<n)(hu1:zci n a = [u])(ha:a≤1048575)(hc:zb7 k m=0)(hk:k=1∨k=2)
 (hp:∀W F,za zq2 w W→(∀g,F g→F0 g∧g<w.heap.size)→zaH F W b n L→Calls Tryz.prog 107 #[.pointer (some ⟨b,0,none⟩),.int .i64 u,.int .i64 L.ep,.int .i64 a,.agg #[.int .i64 k,.slice xa m xc]] W fun r w'=>r = .returned .nilIface∧zan F W b n L2 w') :
 Calls Tryz.prog 19 #[.pointer (some ⟨b,0,none⟩),.int .i64 a,.agg #[.int .i64 k,.slice xa m xc]] w fun r w'=>r = .returned .nilIface∧zan F0 w b n { L2 with next:=max L2.next (a+1) } w':=by
 have CC:=zz0 (zda k xa m xc (w.alloc (zqZ k (.slice xa m xc))));rw[hc,zaK] at CC;have kA:za zq2 w (w.alloc (zqZ k (.slice xa m xc))):=(za.refl _ _).alloc _;have IN:=zz0 (zcH a 1048575 (w.alloc (zqZ k (.slice xa m xc))) (by omega) (by omega))
 have AK:=zz0 (zdg b (w.alloc (zqZ k (.slice xa m xc))));have KA:=zz0 kA;have PB:Hid (∀W,za zq2 (w.alloc (zqZ k (.slice xa m xc))) W→W.cell? ⟨w.heap.size,0,none⟩=some (.int .i64 k)∧W.cell? ⟨w.heap.size,1,none⟩=some (.slice xa m xc)):=zz0 (fun W kk=>⟨cl0 (kk.at (ze w (zqZ k (.slice xa m xc))) (fun e=>e)),cl1 (kk.at (ze w (zqZ k (.slice xa m xc))) (fun e=>e))⟩)
 have hlow:=h.low;have HM0:=(fun W (kk:za zq2 (w.alloc (zqZ k (.slice xa m xc))) W)=>zff (a:=a) W (h.keepNon (kA.trans1 kk)) hn ha)
 simp only[hu1,List.length_singleton] at HM0;have HM:=zz0 HM0;clear HM0;have SP:=zz0 (fun W g o c (kk:za zq2 (w.alloc (zqZ k (.slice xa m xc))) W) (hi:Is W (.slice (some ⟨g,o,none⟩) 1 c) [u])=>(ziw (k:=k) (xa:=xa) (m:=m) (xc:=xc) (L2:=L2) W (hlow.keepNon (kA.trans1 kk)) he hse hi (by omega) (fun W' F kk' hF hL=>hp W' F ((kA.trans1 kk).trans1 kk') (fun g x=>(hF g x).1) hL)).mono (fun r w' (⟨x,y⟩:_∧_)=>(⟨x,(zan.pre (kA.trans1 kk) y).ofLow⟩:r=_∧zan F0 w b n { L2 with next:=max L2.next (a+1) } w')))
 have k0:=cl0 (ze w (zqZ k (.slice xa m xc)));have k1:=cl1 (ze w (zqZ k (.slice xa m xc)));dsimp only[zqZ] at *;clear kA h hlow hp hc;rcases hk with rfl|rfl
 all_goals
  go_enter Tryz.func19,Tryz.ntmps19
  go_wp2_with(first
   |(go_at_call 21;refine IN.out.mono ?_;rintro r w1 ⟨rfl,rfl⟩)
   |(go_at_call 20;refine AK.out.mono ?_;rintro r w1 ⟨rfl,rfl⟩)
   |(go_at_call 52;refine CC.out.mono ?_;rintro r w1 ⟨rfl,k⟩;obtain⟨p0,p1⟩:=PB.out _ k;obtain⟨q0,q1⟩:=PB.out _ k.drew;have HMW:=zz0 (HM.out _ k.drew);have K1:=zz0 k;clear k))
  go_region_law(first
   |(go_simp;go_at_call 35;refine HMW.out.mono ?_;rintro r w2 ⟨g2,o2,c2,rfl,k2,i2⟩;obtain⟨s0,s1⟩:=PB.out _ (K1.out.drew.trans1 k2);have SPW:=zz0 (SP.out w2 _ _ _ (K1.out.drew.trans1 k2) i2);clear k2 i2)
   |(go_simp;go_at_call 53;refine SPW.out.mono ?_;rintro r w3 ⟨rfl,t⟩;have T:=zz0 t;clear t))
  all_goals go_wp2_with fail
  all_goals
   go_ret;exact⟨rfl,T.out⟩
theorem zdN {F:Nat→Prop}{b n a u:Nat}{L:Lg}{s:Sh}(w:World)(h:zaH F w b n L)(hn:0<n)(hu1:zci n a = [u])(hs:L.shs[u]? = some s)(he:s.e=L.ep)(hd:s.X.down=false)(ha:a≤1048575)(hx:(uat s.l s.D a).2.length≤100000000) :
 Calls Tryz.prog 11 #[.pointer (some ⟨b,0,none⟩),.int .i64 a] w fun r w'=>∃v,r = .returned (.tuple #[.agg #[.int .i64 (uat s.l s.D a).1,v],.nilIface])∧za zq2 w w'∧w'.ownsRow w.heap.size 5 1 v (uat s.l s.D a).2.length ((uat s.l s.D a).2.map bv):=by
 have kA:za zq2 w (w.alloc (zqZ 0 (.slice none 0 0))):=(za.refl _ _).alloc _;have IN:=zz0 (zcH a 1048575 (w.alloc (zqZ 0 (.slice none 0 0))) (by omega) (by omega))
 have AK:=zz0 (zdg b (w.alloc (zqZ 0 (.slice none 0 0))));have HM0:=zff (a:=a) _ (h.keepNon kA) hn ha;simp only[hu1,List.length_singleton] at HM0;have HM:=zz0 HM0;clear HM0;have RD:=zz0 (fun W (k:za zq2 w W)=>zf5 (a:=a) (u:=u) W (h.keepNon k) hs he hd ha hx)
 have KA:=zz0 kA;have RB:=zz0 (ze w (zqZ 0 (.slice none 0 0)));generalize uat s.l s.D a=x at RD ⊢;obtain⟨kx,lx⟩:=x;dsimp only at RD ⊢;dsimp only[zqZ] at IN AK HM;clear kA h hx
 go_enter Tryz.func11,Tryz.ntmps11
 go_wp2_with(first
  |(go_at_call 21;refine IN.out.mono ?_;rintro r w1 ⟨rfl,rfl⟩)
  |(go_at_call 20;refine AK.out.mono ?_;rintro r w1 ⟨rfl,rfl⟩)
  |(go_at_call 35;refine HM.out.mono ?_;rintro r w2 ⟨g2,o2,c2,rfl,k2,i2⟩;have hcell:w2.cell? ⟨g2,o2,none⟩=some (.int .i64 (u:Int)):=by
     obtain⟨a',c',e,hx'⟩:=i2;injection e with e1 e2 e3
     obtain⟨g',off,e4,hc⟩:=hx' (by simp)
     rw[←e1] at e4;injection e4 with e4
     injection e4 with e4 e5
     subst e4;subst e5;exact hc 0 _ (by rfl)
    have K2:=zz0 (KA.out.trans1 k2);have RB2:=zz0 (k2.at RB.out (fun e=>e));have RDW:=zz0 (RD.out _ (KA.out.trans1 k2));clear k2 i2)
  |(go_at_call 36;refine RDW.out.mono ?_;rintro r w3 ⟨v,rfl,k3,o3⟩;obtain⟨va,vc,rfl,_,_⟩:=zb o3;have rb3:=k3.at RB2.out (fun e=>e);have r0:=cl0 rb3;have r1:=cl1 rb3;have r0f:=clf rb3 0;have r1f:=clf rb3 1;have q0:=cl0 (zbG (za1 rb3 kx) (.slice va lx.length vc));have q1:=cl1 (zbG (za1 rb3 kx) (.slice va lx.length vc));have K3:=zz0 k3;have O3:=zz0 o3;clear k3 o3 rb3))
 all_goals
  refine bodyPost_ret (v:=.tuple #[.agg #[.int .i64 kx,.slice va lx.length vc],.nilIface]) (by simp[results,Tryz.results11,go_sem,q0,q1]) rfl ?_
  obtain⟨k,o⟩:=zeM K2.out K3.out O3.out (by have:=lt_of_block RB2.out;omega) kx (.slice va lx.length vc)
  exact⟨_,rfl,k,o⟩
theorem zf1 {F:Nat→Prop}{b n a u v:Nat}{L:Lg}{s:Sh}(w:World)(h:zaH F w b n L)(hn:0<n)(hu1:zci n a = [v,u])(hs:L.shs[u]? = some s)(he:s.e=L.ep)(hd:s.X.down=false)(ha:a≤1048575)(hx:(uat s.l s.D a).2.length≤100000000) :
 Calls Tryz.prog 11 #[.pointer (some ⟨b,0,none⟩),.int .i64 a] w fun r w'=>∃v,r = .returned (.tuple #[.agg #[.int .i64 (uat s.l s.D a).1,v],.nilIface])∧za zq2 w w'∧w'.ownsRow w.heap.size 5 1 v (uat s.l s.D a).2.length ((uat s.l s.D a).2.map bv):=by
 have kA:za zq2 w (w.alloc (zqZ 0 (.slice none 0 0))):=(za.refl _ _).alloc _;have IN:=zz0 (zcH a 1048575 (w.alloc (zqZ 0 (.slice none 0 0))) (by omega) (by omega))
 have AK:=zz0 (zdg b (w.alloc (zqZ 0 (.slice none 0 0))));have HM0:=zff (a:=a) _ (h.keepNon kA) hn ha;simp only[hu1,List.length_cons,List.length_nil,Nat.zero_add,Nat.reduceAdd] at HM0;have HM:=zz0 HM0;clear HM0;have RD:=zz0 (fun W (k:za zq2 w W)=>zf5 (a:=a) (u:=u) W (h.keepNon k) hs he hd ha hx)
 have KA:=zz0 kA;have RB:=zz0 (ze w (zqZ 0 (.slice none 0 0)));generalize uat s.l s.D a=x at RD ⊢;obtain⟨kx,lx⟩:=x;dsimp only at RD ⊢;dsimp only[zqZ] at IN AK HM;clear kA h hx
 go_enter Tryz.func11,Tryz.ntmps11
 go_wp2_with(first
  |(go_at_call 21;refine IN.out.mono ?_;rintro r w1 ⟨rfl,rfl⟩)
  |(go_at_call 20;refine AK.out.mono ?_;rintro r w1 ⟨rfl,rfl⟩)
  |(go_at_call 35;refine HM.out.mono ?_;rintro r w2 ⟨g2,o2,c2,rfl,k2,i2⟩;have hcell:w2.cell? ⟨g2,o2+1,none⟩=some (.int .i64 (u:Int)):=by
     obtain⟨a',c',e,hx'⟩:=i2;injection e with e1 e2 e3
     obtain⟨g',off,e4,hc⟩:=hx' (by simp)
     rw[←e1] at e4;injection e4 with e4
     injection e4 with e4 e5
     subst e4;subst e5;exact hc 1 _ (by rfl)
    have K2:=zz0 (KA.out.trans1 k2);have RB2:=zz0 (k2.at RB.out (fun e=>e));have RDW:=zz0 (RD.out _ (KA.out.trans1 k2));clear k2 i2)
  |(go_at_call 36;refine RDW.out.mono ?_;rintro r w3 ⟨v,rfl,k3,o3⟩;obtain⟨va,vc,rfl,_,_⟩:=zb o3;have rb3:=k3.at RB2.out (fun e=>e);have r0:=cl0 rb3;have r1:=cl1 rb3;have r0f:=clf rb3 0;have r1f:=clf rb3 1;have q0:=cl0 (zbG (za1 rb3 kx) (.slice va lx.length vc));have q1:=cl1 (zbG (za1 rb3 kx) (.slice va lx.length vc));have K3:=zz0 k3;have O3:=zz0 o3;clear k3 o3 rb3))
 all_goals
  refine bodyPost_ret (v:=.tuple #[.agg #[.int .i64 kx,.slice va lx.length vc],.nilIface]) (by simp[results,Tryz.results11,go_sem,q0,q1]) rfl ?_
  obtain⟨k,o⟩:=zeM K2.out K3.out O3.out (by have:=lt_of_block RB2.out;omega) kx (.slice va lx.length vc)
  exact⟨_,rfl,k,o⟩
theorem zjr {F:Nat→Prop}{b n u:Nat}{L:Lg}(w:World)(h:zaH F w b n L)(hu:u<L.shs.length) :
 Calls Tryz.prog 176 #[.pointer (some ⟨b,0,none⟩),.int .i64 u] w fun r w'=>r = .returned .nilIface∧w'=w:=by
 obtain⟨A,dps,sps,dv,sv,cv,q,h,hF⟩:=h;have c0:=lg_0 h.blk;obtain⟨da,dc,rfl,_,_⟩:=zb h.disks;rw[h.len.1] at c0;have IN:=zz0 (zcH u ((L.shs.length:Int)-1) w (by omega) (by omega))
 have hsm:=h.small.2;clear h
 go_enter Tryz.func176,Tryz.ntmps176
 go_wp2_with(go_at_call 21;refine IN.out.mono ?_;rintro r w1 ⟨rfl,rfl⟩)
 go_ret;exact⟨rfl,rfl⟩
theorem zlX {F:Nat→Prop}{b n u:Nat}{L:Lg}{s:Sh}(w:World)(h:zaH F w b n L)(hs:L.shs[u]? = some s) :
 Calls Tryz.prog 114 #[.pointer (some ⟨b,0,none⟩),.int .i64 u] w fun r w'=>∃b' F',r = .returned (.pointer (some ⟨b',0,none⟩))∧za zq2 w w'∧zcn F' w' b' s.e s.l s.D:=by
 have HS:=zz0 (zjr w h (zr hs));obtain⟨A,dps,sps,dv,sv,cv,q,h,hF⟩:=h;obtain⟨p,dp,sg,sc,dg,dc,rfl,rfl,hp,hd',hu,hcs,hcd,hsh⟩:=h.at hs;have c1:=lg_1 h.blk;unfold zcP at hcs;have UN:=zz0 (zhU w hsh);have hlt:(u:Int)<L.shs.length:=by omega
 clear h hsh hcd hp hd' hs
 go_enter Tryz.func114,Tryz.ntmps114
 go_wp2_with(first
  |(go_at_call 176;refine HS.out.mono ?_;rintro r w1 ⟨rfl,rfl⟩)
  |(go_at_call 177;refine UN.out.mono ?_;rintro r w2 ⟨b',rfl,k2,u2⟩;have K2:=zz0 k2;have U2:=zz0 u2;clear k2 u2))
 go_ret;exact⟨_,_,rfl,K2.out,U2.out⟩
theorem zlW {F:Nat→Prop}{b n:Nat}{L:Lg}(w:World)(h:zaH F w b n L)(h1:1≤n) :
 Calls Tryz.prog 113 #[.pointer (some ⟨b,0,none⟩)] w fun r w'=>∃cv',r = .returned (.agg #[.int .i64 L.ep,cv'])∧za zq2 w w'∧PrAt (fun g=>w.heap.size≤g∧g<w'.heap.size) w' cv' n:=by
 obtain⟨A,dps,sps,dv,sv,cv,q,h,hF⟩:=h;have kA:za zq2 w (w.alloc (PrB 0 (.slice none 0 0))):=(za.refl _ _).alloc _;have hA:=h.keep kA (fun _ _ _ e=>e)
 have CP:=zz0 (zjz (A 4) L.ep n cv _ hA.proj h1 h.small.1);have c2:=lg_2 hA.blk;have c3:=lg_3 hA.blk;have RB:=zz0 (ze w (PrB 0 (.slice none 0 0)));have KA:=zz0 kA;obtain⟨g0,vs0,c0,rfl,_⟩:=id h.proj;clear h hA kA;dsimp only[PrB] at c2 c3 CP;rw[show((0:Nat):Int)=0 from rfl] at c2 c3 CP
 go_enter Tryz.func113,Tryz.ntmps113
 go_wp2_with(go_at_call 44;refine CP.out.mono ?_;rintro r w3 ⟨cv',rfl,k3,p3⟩;obtain⟨g3,vs3,c3',rfl,_⟩:=id p3;have rb3:=k3.at RB.out (fun e=>e);have r0:=pr_0 rb3;have r1:=pr_1 rb3;have r0f:=pr_f rb3 0;have r1f:=pr_f rb3 1;have q0:=pr_0 (zfn (zgT rb3 L.ep) (.slice (some ⟨g3,0,none⟩) (chN n) c3'));have q1:=pr_1 (zfn (zgT rb3 L.ep) (.slice (some ⟨g3,0,none⟩) (chN n) c3'));have K3:=zz0 k3;have P3:=zz0 p3;clear k3 p3 rb3)
 refine bodyPost_ret (v:=.agg #[.int .i64 L.ep,.slice (some ⟨g3,0,none⟩) (chN n) c3']) (by simp[results,Tryz.results113,go_sem,q0,q1]) rfl ?_
 have k5:za (zq3 w.heap.size) w3 ((w3.setCell ⟨w.heap.size,0,none⟩ (.int .i64 L.ep)).setCell ⟨w.heap.size,1,none⟩ (.slice (some ⟨g3,0,none⟩) (chN n) c3')):=((za.refl _ _).setOne _ _).setOne _ _;have hP:=P3.out.keep k5 (fun g x e=>by have e':g=w.heap.size:=e;have:=x.1;simp at this;omega)
 obtain⟨g,vs,c,e1,e2,e3,e4,e5,e6⟩:=hP;have ks:=k5.size;exact⟨_,rfl,setNew (setNew (KA.out.trans1 K3.out) _ _ _ (Nat.le_refl _)) _ _ _ (Nat.le_refl _),g,vs,c,e1,e2,e3,e4,⟨by have:=e5.1;simp at this;omega,by omega⟩,fun v hv k e=>⟨by have:=(e6 v hv k e).1;simp at this;omega,by have:=(e6 v hv k e).2;omega⟩⟩
def mixL {α:Type}(f:α→α)(l:List α)(j:Nat):List α:=(l.take j).map f++l.drop j
theorem zhC {α:Type}(f:α→α)(l:List α):mixL f l 0=l:=by simp[mixL]
theorem zju {α:Type}(f:α→α)(l:List α):mixL f l l.length=l.map f:=by simp[mixL]
theorem zjv {α:Type}(f:α→α)(l:List α)(j:Nat):(mixL f l j).length=l.length:=by simp[mixL];omega
theorem zl5 {α:Type}(f:α→α)(l:List α)(j:Nat)(x:α)(h:l[j]? = some x):(mixL f l j)[j]? = some x:=by
 have hl:=zr h;unfold mixL;rw[List.getElem?_append_right (by simp;omega)]
 simp only[List.length_map,List.length_take,List.getElem?_drop];rw[show j+(j-min j l.length)=j by omega]
 exact h
theorem zjw {α:Type}(f:α→α)(l:List α)(j:Nat)(x:α)(h:l[j]? = some x):(mixL f l j).set j (f x)=mixL f l (j+1):=by
 have hl:=zr h;apply List.ext_getElem?;intro i;by_cases e:i=j
 ·subst e
  rw[List.getElem?_set_self (by rw[zjv];exact hl)]
  unfold mixL;rw[List.getElem?_append_left (by simp;omega)]
  simp[h]
 ·rw[List.getElem?_set_ne (fun x=>e x.symm)]
  unfold mixL;rcases Nat.lt_or_ge i j with y|y
  ·rw[List.getElem?_append_left (by simp;omega),List.getElem?_append_left (by simp;omega)]
   simp[y,show i<j+1 by omega]
  ·rw[List.getElem?_append_right (by simp;omega),List.getElem?_append_right (by simp;omega)]
   simp only[List.length_map,List.length_take,List.getElem?_drop]
   congr 1
   omega
def trimS (a:Nat)(s:Sh):Sh:=s.did (zaE 4 s.e a []) s.e (max s.l a) (cutLo (max s.l a) s.D)
theorem ziV (args:Array Value)(w:World):(callFunc 55 args).run Tryz.prog w = .ok (.enter 55 args) w:=zcE Tryz.func55 (by kernel_rfl) rfl args w
theorem zkl (u g h j b a e:Nat)(w:World)(Q:World→Prop)(g0:w.cell? ⟨g,0,none⟩=some (.pointer (some ⟨b,0,none⟩)))(h0:w.cell? ⟨h,0,none⟩=some (.int .i64 e))(j0:w.cell? ⟨j,0,none⟩=some (.int .i64 a))
 (hp:Calls Tryz.prog 56 #[.pointer (some ⟨b,0,none⟩),.int .i64 u,.agg #[.int .i64 4,.int .i64 e,.int .i64 a,.slice none 0 0]] w fun r w'=>(∃n:Int,r = .returned (.tuple #[.int .i64 n,.nilIface]))∧Q w') :
 Calls Tryz.prog 55 #[.int .i64 u,.pointer (some ⟨g,0,none⟩),.pointer (some ⟨h,0,none⟩),.pointer (some ⟨j,0,none⟩)] w fun r w'=>r = .returned .nilIface∧Q w':=by
 have HP:=zz0 hp;clear hp
 go_enter Tryz.func55,Tryz.ntmps55
 go_wp2_with(go_at_call 56;refine HP.out.mono ?_;rintro r w2 ⟨⟨nn,rfl⟩,hq⟩;have HQ:=zz0 hq;clear hq)
 go_ret;exact⟨rfl,HQ.out⟩
theorem zaH.low10 {F:Nat→Prop}{w:World}{b n:Nat}{L:Lg}(h:zaH F w b n L):∃F',zaH F' w b n L∧∀g,F' g→F g∧10≤g∧g<w.heap.size:=by
 obtain⟨A,dps,sps,dv,sv,cv,q,h,hF⟩:=h;exact⟨fun g=>∃i,A i g,⟨A,dps,sps,dv,sv,cv,q,h,fun i g e=>⟨i,e⟩⟩,fun g ⟨i,e⟩=>⟨hF i g e,h.low i g e⟩⟩
theorem zan.mono {F F':Nat→Prop}{w w':World}{b n:Nat}{L:Lg}(h:zan F' w b n L w')(hs:∀g,F' g→F g):zan F w b n L w':=by
 obtain⟨k,G,s,h⟩:=h;exact⟨k.mono (fun g _ x=>hs g x),G,fun g x=>by rcases s g x with y|y;exact .inl (hs g y);exact .inr y,h⟩
theorem zaH.small {F:Nat→Prop}{w:World}{b n:Nat}{L:Lg}(h:zaH F w b n L):n≤3∧L.shs.length≤3:=by
 obtain⟨A,dps,sps,dv,sv,cv,q,h',hF⟩:=h;exact h'.small
theorem zl0 {F0:Nat→Prop}{b n a c:Nat}{pa:Option Addr}{L:Lg}(w:World)(h0:zaH F0 w b n L)(hlay:Lay w)(hl:L.shs.length=n)(hu:Is w (.slice pa n c) (List.range n))(hu2:∀g,(Value.slice pa n c).ownBlock=some g→¬F0 g)(ha:a≤1048576)(hs:∀s ∈ L.shs,s.ok∧s.next<240∧s.e=L.ep∧s.e≤1099511627776) :
 Calls Tryz.prog 22 #[.pointer (some ⟨b,0,none⟩),.slice pa n c,.int .i64 L.ep,.int .i64 a] w fun r w'=>r = .returned .nilIface∧zan F0 w b n { L with shs:=L.shs.map (trimS a) } w':=by
 have hsm:=h0.small;obtain⟨F,h,hFF⟩:=h0.low10;have kA:za zq2 w (((w.alloc (PbB b)).alloc (InB L.ep)).alloc (InB a)):=(((za.refl _ _).alloc _).alloc _).alloc _;have b0:(((w.alloc (PbB b)).alloc (InB L.ep)).alloc (InB a)).heap[w.heap.size]? = some (PbB b):=zi (zi (ze _ _) _) _;have b1:(((w.alloc (PbB b)).alloc (InB L.ep)).alloc (InB a)).heap[w.heap.size+1]? = some (InB L.ep):=zi (zao _ _ _) _;have b2:(((w.alloc (PbB b)).alloc (InB L.ep)).alloc (InB a)).heap[w.heap.size+1+1]? = some (InB a):=by
  have:=zao (w.alloc (PbB b)) (InB L.ep) (InB a)
  rwa [World.size_alloc] at this
 generalize hwA:((w.alloc (PbB b)).alloc (InB L.ep)).alloc (InB a)=wA at kA b0 b1 b2;have hA:=h.keepNon kA;have AFT:∀W (j:Nat),zan F wA b n { L with shs:=mixL (trimS a) L.shs j } W→Lay W∧Is W (.slice pa n c) (List.range n)∧W.heap[w.heap.size]? = some (PbB b)∧W.heap[w.heap.size+1]? = some (InB L.ep)∧W.heap[w.heap.size+1+1]? = some (InB a):=by
  rintro W j ⟨k,F',s,hL⟩;exact⟨(hlay.keepNon kA).keep k (fun g hg x=>by have:=(hFF g x).2;omega),(hu.keepNon kA).keep k (fun g e x=>hu2 g e (hFF g x).1),k.at b0 (fun x=>by have:=(hFF _ x).2;omega),k.at b1 (fun x=>by have:=(hFF _ x).2;omega),k.at b2 (fun x=>by have:=(hFF _ x).2;omega)⟩
 have ALL:=zk6 55 (.pointer (some ⟨w.heap.size,0,none⟩)) (.pointer (some ⟨w.heap.size+1,0,none⟩)) (.pointer (some ⟨w.heap.size+1+1,0,none⟩)) pa c (List.range n)
  (fun j W=>zan F wA b n { L with shs:=mixL (trimS a) L.shs j } W) wA ziV (fun j W hj hI=>by rw[List.length_range];exact(AFT W j hI).2.1) (by rw[zhC];exact zan.refl hA (za.refl _ _)) (by simp;omega) (fun j u' W hj hI=>by
    have hjn:j<n:=by have:=zr hj;simpa using this
    obtain rfl:j=u':=by rw[List.getElem?_range hjn] at hj;injection hj
    obtain⟨lay,_,p0,p1,p2⟩:=AFT W j hI;obtain⟨k,F',s,hL⟩:=hI;have hx:L.shs[j]? = some L.shs[j]:=List.getElem?_eq_getElem (by omega)
    obtain⟨q1,q2,q3,q4⟩:=hs _ (List.getElem_mem (show j<L.shs.length by omega))
    have ac:=zk4 q1 q2 a (by omega) ha
    rw[q3] at ac;have D:=zfe 4 L.ep a 0 0 none Any W hL (zl5 (trimS a) L.shs j _ hx) lay ac (fun _ _ _ _=>trivial)
    refine(zkl j w.heap.size (w.heap.size+1) (w.heap.size+1+1) b a L.ep W _ (pb_0 p0) (in_0 p1) (in_0 p2) D).mono ?_;rintro r w' ⟨e,t⟩;refine⟨e,zan.trans s k ?_⟩;have e2:=zjw (trimS a) L.shs j _ hx;have e3:trimS a L.shs[j]=L.shs[j].did (zaE 4 L.ep a []) L.shs[j].e (max L.shs[j].l a) (cutLo (max L.shs[j].l a) L.shs[j].D):=by unfold trimS;rw[q3]
    simp only at t;rw[q3] at e3;rw[←e3,e2] at t;exact t)
 rw[List.length_range,←hl,zju,hl] at ALL;have ALL':Hid (Calls Tryz.prog 54 #[.slice pa n c,.func (.func 55) #[] #[.pointer (some ⟨w.heap.size,0,none⟩),.pointer (some ⟨w.heap.size+1,0,none⟩),.pointer (some ⟨w.heap.size+1+1,0,none⟩)]] wA fun e w'=>e = .returned .nilIface∧zan F0 w b n { L with shs:=L.shs.map (trimS a) } w'):=zz0 (ALL.mono (fun r w' ⟨x,y⟩=>⟨x,(zan.pre kA y).mono (fun g x=>(hFF g x).1)⟩))
 clear h0 h hA ALL AFT b0 b1 b2 hs hu hlay;subst hwA;dsimp only[PbB,InB] at ALL'
 go_enter Tryz.func22,Tryz.ntmps22
 go_wp2_with(go_at_call 54;refine ALL'.out.mono ?_;rintro r w2 ⟨rfl,t⟩;have T:=zz0 t;clear t)
 go_ret;exact⟨rfl,T.out⟩
end Go.Proofs.YtpojgmeoaflmoaaGreatDoor
