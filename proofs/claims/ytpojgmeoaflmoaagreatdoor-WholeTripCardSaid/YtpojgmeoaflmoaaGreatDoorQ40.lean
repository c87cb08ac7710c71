/- slog: Trim, Able, later: walked. · slog. -/
import Derived.Test.YtpojgmeoaflmoaaGreatDoorQ27
set_option linter.unusedVariables false
set_option maxRecDepth 100000
set_option maxHeartbeats 16000000
namespace Go.Proofs.YtpojgmeoaflmoaaGreatDoor
open Go.RowKit Go.Maps
theorem zhx {F0:Nat→Prop}{b n a:Nat}{L:Lg}(w:World)(h0:zaH F0 w b n L)(hlay:Lay w)(h1:1≤n)(hl:L.shs.length=n)(ha:a≤1048576)(hse:L.se=L.ep)(hs:∀s ∈ L.shs,s.ok∧s.next<240∧s.e=L.ep∧s.e≤1099511627776) :
 Calls Tryz.prog 7 #[.pointer (some ⟨b,0,none⟩),.int .i64 a] w fun r w'=>r = .returned .nilIface∧zan F0 w b n { L with shs:=L.shs.map (trimS a),next:=max L.next a } w':=by
 have hsm:=h0.small;obtain⟨F,h,hFF⟩:=h0.low10;have IN:=zz0 (zcH a 1048576 w (by omega) (by omega))
 have AK:=zz0 (zdg b w);obtain⟨A,dps,sps,dv,sv,cv,q,hA,hAF⟩:=id h;have c2:=lg_2 hA.blk;have c3:=lg_3 hA.blk;have CE:Hid (∀W,za zq2 w W→W.cell? ⟨b,2,none⟩=some (.int .i64 L.ep)):=zz0 (fun W k=>lg_2 (k.at hA.blk (fun e=>e)))
 have UN:=zz0 (zc1 (A 4) L.ep n cv w.drew (hA.proj.keepNon (za.refl _ _).drew) h1 hsm.1);obtain⟨g0,vs0,c0,rfl,_⟩:=id hA.proj;have TR:=zz0 (fun W pa c (k:za zq2 w W) (hu:Is W (.slice pa n c) (List.range n)) (hu2:∀g,(Value.slice pa n c).ownBlock=some g→w.heap.size≤g)=>zl0 W (h.keepNon k) (hlay.keepNon k) hl hu (fun g e x=>by have:=hu2 g e;have:=(hFF g x).2;omega) ha hs)
 have RS:=zz0 (fun W F' (hL:zaH F' W b n { L with shs:=L.shs.map (trimS a) })=>zf4 (x:=a) W hL hse ha)
 have HFF:=zz0 hFF;have c2d:w.drew.cell? ⟨b,2,none⟩=some (.int .i64 L.ep):=c2;have c3d:w.drew.cell? ⟨b,3,none⟩=some (.slice (some ⟨g0,0,none⟩) (chN n) c0):=c3;clear h0 h hs hFF hA
 go_enter Tryz.func7,Tryz.ntmps7
 go_wp2_with(first
  |(go_at_call 21;refine IN.out.mono ?_;rintro r w1 ⟨rfl,rfl⟩)
  |(go_at_call 20;refine AK.out.mono ?_;rintro r w1 ⟨rfl,rfl⟩))
 go_region_law(first
  |(go_simp;go_at_call 23;refine UN.out.mono ?_;rintro r w2 ⟨ug,uc,rfl,k2,hug,u2⟩;have k02:=(za.refl zq2 w1).drew.trans1 k2;have e2:=CE.out _ k02;have TRW:=zz0 (TR.out w2 (some ⟨ug,0,none⟩) uc k02 u2 (fun g e=>by injection e with e;subst e;exact hug));have K02:=zz0 k02;clear k2 u2 k02)
  |(go_simp;go_at_call 22;refine TRW.out.mono ?_;rintro r w3 ⟨rfl,k3,F',s3,hL3⟩;have RSW:=zz0 (RS.out w3 F' hL3);have K3:=zz0 k3;have S3:=zz0 s3;clear k3 s3 hL3))
 all_goals go_wp2_with(go_at_call 24;refine RSW.out.mono ?_;rintro r w4 ⟨rfl,t⟩;have T:=zz0 t;clear t)
 all_goals
  go_ret;exact⟨rfl,(zan.pre K02.out (zan.trans S3.out K3.out T.out)).mono (fun g x=>(HFF.out g x).1)⟩
theorem zlV {F:Nat→Prop}{b n u:Nat}{L:Lg}{s:Sh}(w:World)(h:zaH F w b n L)(hs:L.shs[u]? = some s)(hd:s.X.down=false) :
 Calls Tryz.prog 257 #[.pointer (some ⟨b,0,none⟩),.int .i64 u] w fun r w'=>r = .returned (.bool true)∧w'=w:=by
 have HS:=zz0 (zjr w h (zr hs));obtain⟨A,dps,sps,dv,sv,cv,q,h,hF⟩:=h;obtain⟨p,dp,sg,sc,dg,dc,rfl,rfl,hp,hd',hu,hcs,hcd,hsh⟩:=h.at hs;have c0:=lg_0 h.blk;have c1:=lg_1 h.blk;unfold zcP at hcs hcd;have BR:=zz0 (ziO w hsh);have DW:Hid (Calls Tryz.prog 31 #[.pointer (some ⟨dp,0,none⟩)] w fun e w'=>e = .returned (.bool false)∧w'=w):=zz0 (by
  obtain⟨FS,FU,q',u',hi⟩:=hsh;obtain⟨G,dg',_⟩:=hi.store.dk;have:=zeY G dp s.X w dg';rw[hd] at this;exact this)
 have hlt:(u:Int)<L.shs.length:=by omega
 clear h hsh hp hd' hs
 go_enter Tryz.func257,Tryz.ntmps257
 go_wp2_with(first
  |(go_at_call 176;refine HS.out.mono ?_;rintro r w1 ⟨rfl,rfl⟩)
  |(go_at_call 301;refine BR.out.mono ?_;rintro r w1 ⟨rfl,rfl⟩)
  |(go_at_call 31;refine DW.out.mono ?_;rintro r w1 ⟨rfl,rfl⟩))
 go_ret;exact⟨rfl,rfl⟩
theorem zkk {F:Nat→Prop}{b n c:Nat}{pa:Option Addr}{L:Lg}(w:World)(h:zaH F w b n L)(hl:L.shs.length=n)(hu:Is w (.slice pa n c) (List.range n))(he:∀s ∈ L.shs,s.e=L.ep)(hep:L.ep≤1099511627776) :
 Calls Tryz.prog 258 #[.pointer (some ⟨b,0,none⟩),.slice pa n c] w fun r w'=>r = .returned (.int .i64 ((L.ep:Int)+1))∧w'=w:=by
 have hsm:=h.small;obtain⟨A,dps,sps,dv,sv,cv,q,h,hF⟩:=h;have c1:=lg_1 h.blk;have c2:=lg_2 h.blk;obtain⟨sa,sc,rfl,_,_⟩:=zb h.shelves;rw[h.len.2] at c1;have H:=zz0 h;have U:=zz0 hu;have HE:=zz0 he;clear h hu he
 go_enter Tryz.func258,Tryz.ntmps258
 go_wp2_with fail
 go_loopw [5,15] (fun m i wr=>∃j:Nat,j≤n∧i = .int .i64 j∧m = .int .i64 L.ep∧wr=w) (fun _ i _=>n-(intOf i).toNat)
 case atStart=>exact⟨0,by omega,rfl,rfl,rfl⟩
 case round =>
  obtain⟨j,hj,rfl,rfl,rfl⟩:=hrel;by_cases hlt:j<n
  ·have hlj:(j:Int)<(n:Int):=by omega
   obtain⟨xg,xo,rfl,hcell⟩:∃g o,pa=some ⟨g,o,none⟩∧wr.cell? ⟨g,o+j,none⟩=some (.int .i64 (j:Int)):=by
    obtain⟨a',c',e,hx⟩:=U.out;injection e with e1 e2 e3
    obtain⟨g',off,e4,hc⟩:=hx (by intro e;have e':=List.map_eq_nil_iff.1 e;have e2:=congrArg List.length e';simp at e2;omega)
    exact⟨g',off,e1.trans e4,hc j (iv j) (by rw[List.getElem?_map,List.getElem?_range hlt];rfl)⟩
   have hs:L.shs[j]? = some L.shs[j]:=List.getElem?_eq_getElem (by omega)
   obtain⟨p,dp,sg,sc',dg,dc,es,ed,hp,hd',hu',hcs,hcd,hsh⟩:=H.out.at hs;injection es with es1 es2 es3
   subst es1;unfold zcP at hcs;have EP:=zkG wr hsh;rw[HE.out _ (List.getElem_mem _)] at EP;have EP':=zz0 EP;have hlL:(j:Int)<L.shs.length:=by omega
   clear hsh hcd EP ed
   go_wp2_with(go_at_call 302;refine EP'.out.mono ?_;rintro r w1 ⟨rfl,rfl⟩)
   refine⟨⟨j+1,by omega,by first|rfl|go_num,?_⟩,by simp[intOf];omega⟩
   first
    |exact⟨rfl,rfl⟩
    |simp
  ·obtain rfl:j=n:=by omega
   go_wp2_with fail
   go_ret;exact⟨rfl,rfl⟩
def sealS (e:Nat)(s:Sh):Sh:=s.did (zaE 1 e 0 []) e s.l s.D
def cutS (e a:Nat)(s:Sh):Sh:=(sealS e s).did (zaE 5 e a []) e s.l (cutHi a s.D)
theorem zj5 (args:Array Value)(w:World):(callFunc 259 args).run Tryz.prog w = .ok (.enter 259 args) w:=zcE Tryz.func259 (by kernel_rfl) rfl args w
theorem zlZ (u g h j b a e:Nat)(w:World)(Q:World→Prop)(g0:w.cell? ⟨g,0,none⟩=some (.pointer (some ⟨b,0,none⟩)))(h0:w.cell? ⟨h,0,none⟩=some (.int .i64 e))(j0:w.cell? ⟨j,0,none⟩=some (.int .i64 a))
 (hp:Calls Tryz.prog 56 #[.pointer (some ⟨b,0,none⟩),.int .i64 u,.agg #[.int .i64 1,.int .i64 e,.int .i64 0,.slice none 0 0]] w fun r w1=>(∃n:Int,r = .returned (.tuple #[.int .i64 n,.nilIface]))∧w1.cell? ⟨g,0,none⟩=some (.pointer (some ⟨b,0,none⟩))∧w1.cell? ⟨h,0,none⟩=some (.int .i64 e)∧w1.cell? ⟨j,0,none⟩=some (.int .i64 a) ∧
   Calls Tryz.prog 56 #[.pointer (some ⟨b,0,none⟩),.int .i64 u,.agg #[.int .i64 5,.int .i64 e,.int .i64 a,.slice none 0 0]] w1 fun r w'=>(∃n:Int,r = .returned (.tuple #[.int .i64 n,.nilIface]))∧Q w') :
 Calls Tryz.prog 259 #[.int .i64 u,.pointer (some ⟨g,0,none⟩),.pointer (some ⟨h,0,none⟩),.pointer (some ⟨j,0,none⟩)] w fun r w'=>r = .returned .nilIface∧Q w':=by
 have HP:=zz0 hp;clear hp
 go_enter Tryz.func259,Tryz.ntmps259
 go_wp2_with(go_at_call 56;first
  |((with_reducible refine HP.out.mono ?_);rintro r w2 ⟨⟨nn,rfl⟩,g1,h1,j1,hq⟩;have HQ:=zz0 hq;clear hq)
  |((with_reducible refine HQ.out.mono ?_);rintro r w3 ⟨⟨mm,rfl⟩,hq⟩;have HQ2:=zz0 hq;clear hq))
 go_ret;exact⟨rfl,HQ2.out⟩
theorem zjH {e:Nat}{s:Sh}(h:s.ok)(hn:s.next<240)(he:e≤1099511627776):(sealS e s).ok:=h.did hn (zI 1 e 0 [] (by omega) he (by omega) (by simp)) (Nat.le_succ _)
theorem zpk {F:Nat→Prop}{b n a e c gb gh gj:Nat}{pa:Option Addr}{L:Lg}(w:World)(h:zaH F w b n L)(hlay:Lay w)(hF:∀g,F g→10≤g)(hl:L.shs.length=n)(hu:Is w (.slice pa n c) (List.range n))(hu2:∀g,(Value.slice pa n c).ownBlock=some g→¬F g)(ha:a≤1048576)(he:e≤1099511627776)
 (hs:∀s ∈ L.shs,s.ok∧s.next<238∧s.e<e∧s.l≤a) (b0:w.heap[gb]? = some (PbB b)) (b1:w.heap[gh]? = some (InB e)) (b2:w.heap[gj]? = some (InB a)) (hb:¬F gb∧¬F gh∧¬F gj) :
 Calls Tryz.prog 54 #[.slice pa n c,.func (.func 259) #[] #[.pointer (some ⟨gb,0,none⟩),.pointer (some ⟨gh,0,none⟩),.pointer (some ⟨gj,0,none⟩)]] w fun r w'=>r = .returned .nilIface∧zan F w b n { L with shs:=L.shs.map (cutS e a) } w':=by
 have hsm:=h.small;have AFT:∀W,za F w W→Lay W∧Is W (.slice pa n c) (List.range n)∧W.heap[gb]? = some (PbB b)∧W.heap[gh]? = some (InB e)∧W.heap[gj]? = some (InB a):=by
  intro W k;exact⟨hlay.keep k (fun g hg x=>by have:=hF g x;omega),hu.keep k (fun g e x=>hu2 g e x),k.at b0 hb.1,k.at b1 hb.2.1,k.at b2 hb.2.2⟩
 have ALL:=zk6 259 (.pointer (some ⟨gb,0,none⟩)) (.pointer (some ⟨gh,0,none⟩)) (.pointer (some ⟨gj,0,none⟩)) pa c (List.range n)
  (fun j W=>zan F w b n { L with shs:=mixL (cutS e a) L.shs j } W) w zj5 (fun j W hj hI=>by rw[List.length_range];exact(AFT W hI.1).2.1) (by rw[zhC];exact zan.refl h (za.refl _ _)) (by simp;omega) (fun j u' W hj hI=>by
    have hjn:j<n:=by have:=zr hj;simpa using this
    obtain rfl:j=u':=by rw[List.getElem?_range hjn] at hj;injection hj
    obtain⟨k,F',s,hL⟩:=hI;obtain⟨lay,_,p0,p1,p2⟩:=AFT W k;have hx:L.shs[j]? = some L.shs[j]:=List.getElem?_eq_getElem (by omega)
    obtain⟨q1,q2,q3,q4⟩:=hs _ (List.getElem_mem (show j<L.shs.length by omega))
    generalize L.shs[j]=x at hx q1 q2 q3 q4;have ac1:=zg4 q1 (by omega) e q3 he
    have hm:=zl5 (cutS e a) L.shs j _ hx;have D1:=zfe 1 e 0 0 0 none Any W hL hm lay ac1 (fun _ _ _ _=>trivial)
    have ok1:=zjH q1 (by omega) he
    have ac2:=znd (s:=sealS e x) ok1 (by show x.next+1<240;omega) a he ha (by show x.l≤a;exact q4)
    refine(zlZ j gb gh gj b a e W (fun w'=>zan F w b n { L with shs:=mixL (cutS e a) L.shs (j+1) } w') (pb_0 p0) (in_0 p1) (in_0 p2) (D1.mono ?_)).mono (fun r w' x=>x)
    rintro r w1 ⟨e1,t1⟩;obtain⟨k1,F1,s1,hL1⟩:=t1;have kk:=zbu k s k1;obtain⟨lay1,_,r0,r1,r2⟩:=AFT w1 kk;refine⟨e1,pb_0 r0,in_0 r1,in_0 r2,?_⟩;have hset:(({ L with shs:=mixL (cutS e a) L.shs j }:Lg).shs.set j (sealS e x))[j]? = some (sealS e x):=List.getElem?_set_self (by rw[zjv];omega)
    have D2:=zfe 5 e a 0 0 none Any w1 hL1 hset lay1 ac2 (fun _ _ _ _=>trivial)
    refine D2.mono ?_;rintro r2 w2 ⟨e2,t2⟩;refine⟨e2,zan.trans (s.trans s1 k.size) kk ?_⟩;have e3:=zjw (cutS e a) L.shs j _ hx;simp only[List.set_set] at t2;have e4:cutS e a x=(sealS e x).did (zaE 5 (sealS e x).e a []) (sealS e x).e (sealS e x).l (cutHi a (sealS e x).D):=rfl;rw[←e4,e3] at t2;exact t2)
 rw[List.length_range,←hl,zju,hl] at ALL;exact ALL
theorem zpm {F:Nat→Prop}{wB w5:World}{b n a E:Nat}{L:Lg}(h:zan F wB b n L w5)(hs:L.se<E)(hE:E≤1099511627776)(ha:a≤1048576) :
 ∃q5,w5.cell? ⟨b,2,none⟩=some (.int .i64 L.ep)∧w5.frozen? ⟨b,2,none⟩=false∧(w5.setCell ⟨b,2,none⟩ (.int .i64 E)).cell? ⟨b,4,none⟩=some (.pointer (some ⟨q5,0,none⟩)) ∧
  Calls Tryz.prog 47 #[.pointer (some ⟨q5,0,none⟩),.int .i64 E,.int .i64 a] (w5.setCell ⟨b,2,none⟩ (.int .i64 E)).drew fun r w'=>r = .returned .nilIface∧zan F wB b n ⟨L.shs,E,a,E⟩ w':=by
 obtain⟨k5,F5,s5,hL5⟩:=h;obtain⟨A,dps,sps,dv,sv,cv,q,hA,hAF⟩:=id hL5;have hbq:q≠b:=fun e=>by have:=hA.apart 0 1 b hA.mem.1 (e ▸ hA.mem.2.1);omega
 have kb:za (zq3 b) w5 (w5.setCell ⟨b,2,none⟩ (.int .i64 E)).drew:=((za.refl _ _).setOne _ _).drew;have blk6:(w5.setCell ⟨b,2,none⟩ (.int .i64 E)).drew.heap[b]? = some (LgB dv sv E cv q):=zlY hA.blk E;have sq6:=kb.at hA.sq (fun e=>hbq e)
 have SET:=zmB q L.se L.next E a _ sq6 hA.sqin;have e1:setE L.se E a=0:=by
  unfold setE fitB;rw[if_pos (by simp;omega),if_neg (by omega)]
 have e2:setP L.se E a=E:=by unfold setP;rw[if_pos e1]
 have e3:setN L.se L.next E a=a:=by unfold setN;rw[if_pos e1]
 rw[e1,e2,e3,zaK] at SET;refine⟨q,lg_2 hA.blk,lg_f hA.blk 2,lg_4 (zlY hA.blk E),SET.mono ?_⟩;rintro r w' ⟨x,kq,hq⟩;refine⟨x,zan.trans s5 k5 (hA.own hAF ((kb.mono (fun g _ y=>.inl y)).trans kq (fun _ _ y=>y) (fun g _ y=>.inr y)) (kq.at blk6 (fun e=>hbq e.symm)) hq ⟨by omega,by omega,by omega,by omega⟩)⟩
theorem znR {F0:Nat→Prop}{b n a E:Nat}{L:Lg}(w:World)(h0:zaH F0 w b n L)(hlay:Lay w)(h1:1≤n)(hl:L.shs.length=n)(ha:a≤1048576)(hse:L.se=L.ep)(hE0:E=L.ep+1)(hep:E≤1099511627776)(hs:∀s ∈ L.shs,s.ok∧s.next<238∧s.e=L.ep∧s.l≤a) :
 Calls Tryz.prog 203 #[.pointer (some ⟨b,0,none⟩),.int .i64 a] w fun r w'=>r = .returned .nilIface∧zan F0 w b n ⟨L.shs.map (cutS E a),E,a,E⟩ w':=by
 have hE:=zz0 hE0;have hep64:(E:Int)≤1099511627776:=by omega
 clear hE0;have hsm:=h0.small;obtain⟨F,h,hFF⟩:=h0.low10;obtain⟨A,dps,sps,dv,sv,cv,q,hA,hAF⟩:=id h;obtain⟨g0,vs0,c0,rfl,_⟩:=id hA.proj;obtain⟨sa,sc,rfl,_,_⟩:=zb hA.shelves;have kA:za zq2 w ((w.alloc (PbB b)).alloc (InB a)):=((za.refl _ _).alloc _).alloc _;have b0:((w.alloc (PbB b)).alloc (InB a)).heap[w.heap.size]? = some (PbB b):=zi (ze _ _) _;have b1:((w.alloc (PbB b)).alloc (InB a)).heap[w.heap.size+1]? = some (InB a):=zao _ _ _;generalize hwA:(w.alloc (PbB b)).alloc (InB a)=wA at kA b0 b1;have IN:=zz0 (zcH a 1048576 wA.drew (by omega) (by omega))
 have AK:=zz0 (zdg b wA.drew);have p0:=pb_0 b0;have p1:=in_0 b1;have p0d:wA.drew.cell? ⟨w.heap.size,0,none⟩=some (.pointer (some ⟨b,0,none⟩)):=p0;have p1d:wA.drew.cell? ⟨w.heap.size+1,0,none⟩=some (.int .i64 a):=p1;have H:=zz0 h;have HFF:=zz0 hFF;have HA:=zz0 hA;have HS:=zz0 hs;have LY:=zz0 hlay;have KA:=zz0 kA;have B0:=zz0 b0;have B1:=zz0 b1;clear h0 h hFF hA hs hlay kA b0 b1;dsimp only[PbB,InB] at hwA
 go_enter Tryz.func203,Tryz.ntmps203
 go_wp2_with fail
 have c2:=lg_2 ((KA.out.drew).at HA.out.blk (fun e=>e))
 have c3:=lg_3 ((KA.out.drew).at HA.out.blk (fun e=>e))
 have UN:=zz0 (zc1 (A 4) L.ep n _ wA.drew (HA.out.proj.keepNon KA.out.drew) h1 hsm.1)
 go_region_law(go_simp;first
  |(go_at_call 21;refine IN.out.mono ?_;rintro r w1 ⟨rfl,e1⟩;subst e1)
  |(go_at_call 20;refine AK.out.mono ?_;rintro r w1 ⟨rfl,e1⟩;subst e1))
 all_goals go_wp2_with(go_at_call 23;refine UN.out.mono ?_;rintro r w2 ⟨ug,uc,rfl,k2,hug,u2⟩;have K2:=zz0 (KA.out.drew.trans1 k2);have KX:=zz0 k2;have U2:=zz0 u2;clear k2 u2)
 all_goals
  go_loopw [27] (fun i wr=>∃j:Nat,j≤n∧i = .int .i64 j∧wr=w2) (fun i _=>n-(intOf i).toNat)
  case atStart=>exact⟨0,by omega,rfl,rfl⟩
  case round =>
   obtain⟨j,hj,rfl,rfl⟩:=hrel;have p2:=pb_0 ((KX.out).at (show wA.drew.heap[w.heap.size]? = some (PbB b) from B0.out) (fun e=>e))
   by_cases hlt:j<n
   ·have hlj:(j:Int)<(n:Int):=by omega
    have hcell:wr.cell? ⟨ug,j,none⟩=some (.int .i64 (j:Int)):=by
     obtain⟨a',c',e,hx⟩:=U2.out;injection e with e1 e2 e3
     obtain⟨g',off,e4,hc⟩:=hx (by intro e;have e':=List.map_eq_nil_iff.1 e;have e2:=congrArg List.length e';simp at e2;omega)
     rw[←e1] at e4;injection e4 with e4
     injection e4 with e4 e5
     subst e4;subst e5;have:=hc j (iv j) (by rw[List.getElem?_map,List.getElem?_range hlt];rfl)
     rwa [Nat.zero_add] at this
    have hx:L.shs[j]? = some L.shs[j]:=List.getElem?_eq_getElem (by omega)
    have AB:=zz0 (zlV wr (H.out.keepNon K2.out) hx (HS.out _ (List.getElem_mem _)).1.free.1)
    go_wp2_with(go_at_call 257;refine AB.out.mono ?_;rintro r w3 ⟨rfl,rfl⟩)
    exact⟨⟨j+1,by omega,by first|exact⟨rfl,trivial⟩|rfl|go_num⟩,by simp[intOf];omega⟩
   ·obtain rfl:j=n:=by omega
    go_wp2_with fail
    obtain⟨wl,hwl⟩:∃wl,wl=wr:=⟨_,rfl⟩;have K2':Hid (za zq2 w wl):=zz0 (by rw[hwl];exact K2.out)
    have U2':Hid (Is wl (.slice (some ⟨ug,0,none⟩) j uc) (List.range j)):=zz0 (by rw[hwl];exact U2.out)
    have P2:Hid (wl.heap[w.heap.size]? = some (PbB b)∧wl.heap[w.heap.size+1]? = some (InB a)):=zz0 (by rw[hwl];exact⟨(KX.out).at (show wA.drew.heap[w.heap.size]? = some (PbB b) from B0.out) (fun e=>e),(KX.out).at (show wA.drew.heap[w.heap.size+1]? = some (InB a) from B1.out) (fun e=>e)⟩)
    rw[←hwl];clear hwl p2 U2 K2 KX
    go_loopw [39] (fun i wr=>∃k:Nat,k≤j∧i = .int .i64 k∧za zq2 wl wr) (fun i _=>j-(intOf i).toNat)
    case atStart=>exact⟨0,by omega,rfl,za.refl _ _⟩
    case round =>
     obtain⟨k,hk,rfl,kw⟩:=hrel;have KW:=zz0 kw;obtain⟨q0,q1⟩:=P2.out;have r0:=pb_0 (kw.at q0 (fun e=>e))
     have r1:=in_0 (kw.at q1 (fun e=>e))
     clear kw q0 q1;by_cases hlk:k<j
     ·have hlk':(k:Int)<(j:Int):=by omega
      have hcell:wr.cell? ⟨ug,k,none⟩=some (.int .i64 (k:Int)):=by
       obtain⟨a',c',e,hx⟩:=U2'.out.keepNon KW.out;injection e with e1 e2 e3
       obtain⟨g',off,e4,hc⟩:=hx (by intro e;have e':=List.map_eq_nil_iff.1 e;have e2:=congrArg List.length e';simp at e2;omega)
       rw[←e1] at e4;injection e4 with e4
       injection e4 with e4 e5
       subst e4;subst e5;have:=hc k (iv k) (by rw[List.getElem?_map,List.getElem?_range hlk];rfl)
       rwa [Nat.zero_add] at this
      have hx:L.shs[k]? = some L.shs[k]:=List.getElem?_eq_getElem (by omega)
      have hle:=(HS.out _ (List.getElem_mem (show k<L.shs.length by omega))).2.2.2
      have hAr:=HA.out.keep (K2'.out.trans1 KW.out) (fun _ _ _ e=>e)
      generalize L.shs[k]=x at hx hle;obtain⟨p,dp,sg,sc',dg,dc,es,ed,hp,hd',hu',hcs,hcd,hsh⟩:=hAr.at hx;injection es with es1 es2 es3
      subst es1;have c1:=lg_1 hAr.blk;rw[es2] at c1;unfold zcP at hcs;have hlL:(k:Int)<L.shs.length:=by omega
      have UNI:=zz0 (zhU wr.drew (hsh.keepNon (za.refl zq2 wr).drew));have c1d:wr.drew.cell? ⟨b,1,none⟩=some (.slice (some ⟨sg,0,none⟩) L.shs.length sc):=c1;have hcsd:wr.drew.cell? ⟨sg,k,none⟩=some (.pointer (some ⟨p,0,none⟩)):=hcs;have r0d:wr.drew.cell? ⟨w.heap.size,0,none⟩=some (.pointer (some ⟨b,0,none⟩)):=r0;have r1d:wr.drew.cell? ⟨w.heap.size+1,0,none⟩=some (.int .i64 a):=r1;have R1:Hid (∀W,za zq2 wr.drew W→W.cell? ⟨w.heap.size+1,0,none⟩=some (.int .i64 a)):=zz0 (fun W kk=>in_0 (kk.at (show wr.drew.heap[w.heap.size+1]? = some (InB a) from KW.out.at P2.out.2 (fun e=>e)) (fun e=>e)))
      have hno:¬(a:Int)<(x.l:Int):=by omega
      clear hAr hsh hcd hcs c1 ed es2 es3
      go_wp2_with fail
      go_region_law(go_simp;first
       |(go_at_call 177;refine UNI.out.mono ?_;rintro r w3 ⟨b',rfl,k3,u3⟩;have r1':=R1.out _ k3;have LW:=zz0 (zjQ _ b' x.e x.l x.D w3 u3);have K3:=zz0 k3;clear k3 u3)
       |(go_at_call 115;refine LW.out.mono ?_;rintro r w4 ⟨rfl,e4⟩;subst e4))
      all_goals go_wp2_with fail
      all_goals exact⟨⟨k+1,by omega,by first|rfl|go_num,KW.out.trans1 ((za.refl _ _).drew.trans1 K3.out)⟩,by simp[intOf];omega⟩
     ·obtain rfl:k=j:=by omega
      have hLr:=H.out.keepNon (K2'.out.trans1 KW.out);have hug':wA.heap.size≤ug:=hug;have hwAs:w.heap.size+2≤wA.heap.size:=by have:=lt_of_block B1.out;omega
      have kwB:za zq2 w (wr.alloc (InB (E:Int))):=(K2'.out.trans1 KW.out).alloc _;have LT0:=zkk wr hLr hl (U2'.out.keepNon KW.out) (fun s hs=>(HS.out s hs).2.2.1) (by have:=hE.out;omega)
      have e0:(L.ep:Int)+1=(E:Int):=by have:=hE.out;omega
      rw[e0] at LT0;have LT:=zz0 LT0;obtain⟨q0,q1⟩:=P2.out;have kwl:za zq2 wl (wr.alloc (InB (E:Int))):=KW.out.trans1 ((za.refl _ _).alloc _);have hlr:w.heap.size+2≤wr.heap.size:=by have:=lt_of_block q1;have:=KW.out.size;omega
      have CA:=zz0 (zpk (gb:=w.heap.size) (gh:=wr.heap.size) (gj:=w.heap.size+1) (pa:=some ⟨ug,0,none⟩) (c:=uc) (n:=k) (e:=E) (a:=a) _ (H.out.keepNon kwB) (LY.out.keepNon kwB) (fun g x=>(HFF.out g x).2.1) hl (U2'.out.keepNon kwl) (fun g e x=>by injection e with e;change ug=g at e;have:=(HFF.out _ x).2.2;omega) ha hep (fun s hs=>by obtain⟨z1,z2,z3,z4⟩:=HS.out s hs;exact⟨z1,z2,by have:=hE.out;omega,z4⟩) (kwl.at q0 (fun e=>e)) (ze _ _) (kwl.at q1 (fun e=>e)) ⟨fun x=>by have:=(HFF.out _ x).2.2;omega,fun x=>by have:=(HFF.out _ x).2.2;omega,fun x=>by have:=(HFF.out _ x).2.2;omega⟩)
      have KWB:=zz0 kwB;have BX:Hid (∀W,za F (wr.alloc (InB (E:Int))) W→W.heap[w.heap.size]? = some (PbB b)∧W.heap[w.heap.size+1]? = some (InB a)∧W.heap[wr.heap.size]? = some (InB (E:Int))):=zz0 (fun W kk=>⟨kk.at (kwl.at q0 (fun e=>e)) (fun x=>by have:=(HFF.out _ x).2.2;omega),kk.at (kwl.at q1 (fun e=>e)) (fun x=>by have:=(HFF.out _ x).2.2;omega),kk.at (ze _ _) (fun x=>by have:=(HFF.out _ x).2.2;omega)⟩)
      have hno:¬(1099511627776:Int)<(E:Int):=by omega
      have HLR:=zz0 hlr;clear hLr q0 q1 kwl kwB hlr;have x1:=in_0 (ze wr (InB (E:Int)));unfold InB at CA x1;clear e0 LT0
      go_wp2_with(first
       |(go_at_call 258;refine LT.out.mono ?_;rintro r w4 ⟨rfl,e4⟩;subst e4)
       |(go_at_call 54;refine CA.out.mono ?_;rintro r w5 ⟨rfl,t⟩;obtain⟨x0,x1',x2⟩:=BX.out _ t.1;have hbl:b<w.heap.size:=(HFF.out _ (hAF _ _ HA.out.mem.1)).2.2;have y0:=pb_0 x0;have y1:=in_0 x1';have y2:=in_0 x2;have kb:za (zq3 b) w5 (w5.setCell ⟨b,2,none⟩ (.int .i64 E)):=(za.refl _ _).setOne _ _;have v0:=pb_0 (kb.at x0 (fun e=>by have e':w.heap.size=b:=e;omega));have v1:=in_0 (kb.at x1' (fun e=>by have e':w.heap.size+1=b:=e;omega));have v2:=in_0 (kb.at x2 (fun e=>by have e':_=b:=e;have:=HLR.out;omega));obtain⟨q5,z2,z2f,z4,hset⟩:=zpm t (by show L.se<E;rw[hse];have:=hE.out;omega) hep ha;have SETT:=zz0 hset;clear t x0 x1' x2 kb hset))
      go_region_law(go_simp;go_at_call 47;refine SETT.out.mono ?_;rintro r w7 ⟨rfl,t⟩;have T7:=zz0 t;clear t)
      all_goals go_wp2_with fail
      all_goals
       go_ret;exact⟨rfl,(zan.pre KWB.out T7.out).mono (fun g x=>(HFF.out g x).1)⟩
end Go.Proofs.YtpojgmeoaflmoaaGreatDoor
