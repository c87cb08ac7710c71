/- unit.Fill: walked. · unit.tail, Seal: wa -/
import Derived.Lib.SlMapFilter
import Derived.Test.YtpojgmeoaflmoaaGreatDoorQ06
import Derived.Test.YtpojgmeoaflmoaaGreatDoorQ21
set_option linter.unusedVariables false
set_option maxRecDepth 100000
set_option maxHeartbeats 16000000
namespace Go.Proofs.YtpojgmeoaflmoaaGreatDoor
open Go.RowKit Go.Maps
def UnTo (F:Nat→Prop)(w:World)(b e l:Nat)(D:Un)(w':World):Prop:=za F w w'∧∃F',zq5 F' F w∧zcn F' w' b e l D
theorem zhd {w w':World}{T:Nat→Prop}{b:Nat}{D:Un}(h:zF w' 3 (zcS w T) b D)(k:za (zq3 b) w w')(hT:¬T b):CsMap w' T b D :=
 zF.keep h (za.refl zq2 w') (fun e=>e) (zcS.fun1 _ _) (fun v x hx=>hx.keep k (fun g hg e=>hT (by have e':g=b:=e;rw[←e'];exact hg)) (fun _ e=>e))
theorem UnIn.turned {F T:Nat→Prop}{w w':World}{b m e l:Nat}{D D':Un}(h:UnIn F T w b m e l D)(k:za (zq3 m) w w')(hc:zF w' 3 (zcS w T) m D')(hk:keysOk D'):UnIn F T w' b m e l D' :=
 ⟨k.at h.blk h.apart,zhd hc k h.outT.2.1,h.inF,h.apart,⟨h.outT.1,h.outT.2.1,fun g e=>k.lt (h.outT.2.2 g e)⟩,h.ep,h.lo,hk⟩
theorem zi9 (k:Int)(u:Value)(w:World):(Instr.field 45 (.agg #[.int .i64 k,u]) 0).run Tryz.prog w = .ok (.int .i64 k) w:=by kernel_rfl
theorem zkV (F:Nat→Prop)(b e l a:Nat)(D:Un)(w:World)(h:zcn F w b e l D)(ha:a≤1048575)(hs:size D≤1000000)(h3:(uat l D a).1≠3)(h1:(uat l D a).1≠1) :
 Calls Tryz.prog 213 #[.pointer (some ⟨b,0,none⟩),.int .i64 e,.int .i64 a] w fun r w'=>r = .returned .nilIface∧UnTo F w b e l (uput D a (2,[])) w':=by
 have AS:=zz0 (zd0 F b e l D w h);have AT:=zz0 (ziY F b e l a D w h (by omega))
 obtain⟨T,m,h⟩:=h;have H:=zz0 h;have hkey:=zee a (by omega)
 have B:=zz0 h.blk;have fd:=zi9;clear h;generalize (uat l D a)=x at AT h3 h1;obtain⟨kx,lx⟩:=x;dsimp only at h3 h1
 go_enter Tryz.func213,Tryz.ntmps213
 go_wp2_with(first
  |(go_at_call 190;refine(zdo _ _ _ (by omega) (by omega)).mono ?_;rintro r w1 ⟨rfl,e1⟩;subst e1)
  |(go_at_call 189;refine AS.out.mono ?_;rintro r w1 ⟨rfl,e1⟩;subst e1)
  |(go_at_call 192;refine AT.out.mono ?_;rintro r w1 ⟨v,rfl,⟨u,rfl,_⟩,k1⟩;have K1:=zz0 k1;have c2:=un_2 (k1.at B.out (fun e=>e));have H1:=zz0 (H.out.keep k1 (fun _ _ e=>e));clear k1)
  |(at_mapUpdate;refine zbS rfl _ _ _ 33 rfl 45 zbm Tryz.underlying33 (zcS.fun1 _ T) rfl H1.out.cells (by unfold maxLen;omega) _ _ _ rfl rfl hkey ((2,[]):Cl) (zcS.nil _ _ 2) ?_;intro w2 hm2 ht2;have M2:=zz0 hm2;have K2:=zz0 (zav ht2);clear hm2 ht2))
 go_ret;exact⟨rfl,K1.out.trans K2.out (fun _ _ e=>e.elim) (fun g _ e=>by have e':g=m:=e;rw[e'];exact H.out.inF.2.1),F,zq5.refl _ _,T,m,H1.out.turned K2.out M2.out (H.out.keys.put (by omega) _)⟩
theorem zlT {key:Value}{kl:Lit}(h:keyOf Tryz.prog 3 key=some kl):∃x:Int,key = .int .i64 x:=by
 obtain⟨x,e,_⟩:=Maps.keyOf_int_inv Tryz.underlying3 h;exact⟨x,e⟩
theorem zfc {x:Int}{kl:Lit}(h:keyOf Tryz.prog 3 (.int .i64 x)=some kl):kl = .int .i64 x:=by
 obtain⟨y,e,rfl,_⟩:=Maps.keyOf_int_inv Tryz.underlying3 h;injection e with _ e
 rw[e]
theorem zlv {w:World}{T:Nat→Prop}{v:Value}{y:DataW Cl×List MemPlace}(h:readAs (zcS w T) v=some y):∃c:Int×Option Addr×Nat×Nat,v = .agg #[.int .i64 c.1,.slice c.2.1 c.2.2.1 c.2.2.2]:=by
 obtain⟨y1,y2⟩:=y;obtain⟨_,l,_,u,rfl,hb,_⟩:=zbo h;obtain⟨a,c,rfl,_⟩:=hb;exact⟨(l.1,a,_,c),rfl⟩
theorem zkW (F:Nat→Prop)(b e l:Nat)(D:Un)(w:World)(h:zcn F w b e l D) :
 Calls Tryz.prog 269 #[.pointer (some ⟨b,0,none⟩)] w fun r w'=>∃n:Nat,r = .returned (.int .i64 n)∧n≤1048576∧za zq2 w w':=by
 obtain⟨T,m,h⟩:=h;have c1:=un_1 h.blk;have c2:=un_2 h.blk;have M:=zz0 h.cells;have KO:=zz0 h.keys;have hlo:=h.lo;clear h
 go_enter Tryz.func269,Tryz.ntmps269
 go_wp2_with(at_range;refine wpList_range_own _ rfl _ 33 rfl 3 45 zbm Tryz.underlying33 _ m _ _ rfl M.out ?_;intro w0 hrg0 hg0 hs0)
 go_frame
 have HR:=zz0 hrg0;have K0:=zz0 ((za.refl zq2 w).grown hg0 (row:=none) (fun k e=>by cases e))
 clear hrg0 hg0
 go_loopw [3] (fun o wr=>∃left cnt,∃n:Nat,wr.ranges Tryz.prog 3 (readAs (zcS w T)) m w.heap.size (size D) D left cnt∧o = .int .i64 n∧n≤1048576∧za zq2 w wr) (fun _ wr=>wr.rangeLeft m w.heap.size)
 case atStart=>exact⟨_,_,l,HR.out,rfl,hlo,K0.out⟩
 case round =>
  obtain⟨left,cnt,n,hrg,rfl,hn,hk⟩:=hrel;have RG:=zz0 hrg;have K:=zz0 hk;clear hrg hk
  go_wp2_with(at_next;refine wpList_next_ranges (α:=Int) (β:=Int×Option Addr×Nat×Nat) _ rfl _ rfl 3 zbm (readAs (zcS w T)) (fun x=>.int .i64 x) (fun c=>.agg #[.int .i64 c.1,.slice c.2.1 c.2.2.1 c.2.2.2]) (fun _ _ h=>zlT h) (fun _ _ h=>zlv h) m w.heap.size _ _ _ _ rfl RG.out ?_ ?_)
  ·intro hc0 hl0
   go_wp2_with fail
   go_ret;exact⟨n,rfl,hn,K.out⟩
  ·intro x c1 c2 c3 c4 kl y1 y2 w1 cnt1 hkx hlx hR hat hrg1 hlt hg1 hs1 hen
   obtain rfl:=zfc hkx;obtain⟨a,ea,ha⟩:=KO.out _ (has_true_of_atKey hat);obtain rfl:x=(a:Int):=by unfold ulit at ea;injection ea
   have hmx:max (n:Int) ((a:Int)+1)=((max n (a+1):Nat):Int):=by omega
   have K1:=zz0 (K.out.grown hg1 (fun k e=>by injection e with e;subst e;exact .inr (Nat.le_refl _)))
   have RG1:=zz0 hrg1;have HLT:Hid (w1.rangeLeft m w.heap.size<wr.rangeLeft m w.heap.size):=zz0 (by rw[hrg1.left_eq,RG.out.left_eq];exact hlt)
   clear hkx hlx hR hat hrg1 hlt hg1 hs1 RG K ea
   go_wp2_with fail
   exact⟨⟨_,_,max n (a+1),RG1.out,by first|rfl|(rw[hmx])|go_num,by omega,K1.out⟩,HLT.out⟩
theorem zm3 (F:Nat→Prop)(b e e' l:Nat)(D:Un)(w:World)(h:zcn F w b e l D)(he:e<e')(he':e'≤1099511627776) :
 Calls Tryz.prog 211 #[.pointer (some ⟨b,0,none⟩),.int .i64 e'] w fun r w'=>(∃n:Nat,r = .returned (.tuple #[.int .i64 n,.nilIface]))∧UnTo F w b e' l D w':=by
 have H:=zz0 h;obtain⟨T,m,h⟩:=h;have c0:=un_0 h.blk;have f0:=un_f h.blk 0;have kS:za (zq3 b) w (w.setCell ⟨b,0,none⟩ (.int .i64 e')):=(za.refl _ _).setOne 0 _;have hU:UnIn F T (w.setCell ⟨b,0,none⟩ (.int .i64 e')) b m e' l D:=⟨zqr h.blk e',h.cells.keep kS (fun x=>h.apart x.symm) (fun g hg x=>h.outT.1 (by have x':g=b:=x;rw[←x'];exact hg)) (fun _ x=>x),h.inF,h.apart,⟨h.outT.1,h.outT.2.1,fun g x=>kS.lt (h.outT.2.2 g x)⟩,he',h.lo,h.keys⟩
 have TL:=zz0 (zkW F b e' l D _ ⟨T,m,hU⟩);have HU:=zz0 hU;have hFb:=h.inF.1;clear h hU
 go_enter Tryz.func211,Tryz.ntmps211
 go_wp2_with(first
  |(go_at_call 190;refine(zdo _ _ _ (by omega) (by omega)).mono ?_;rintro r w1 ⟨rfl,e1⟩;subst e1)
  |(go_at_call 269;refine TL.out.mono ?_;rintro r w1 ⟨n,rfl,_,k1⟩;have K1:=zz0 k1;clear k1))
 go_ret2;exact⟨⟨n,rfl⟩,(kS.mono (fun g _ x=>by have x':g=b:=x;rw[x'];exact hFb)).trans1 K1.out.ofNon,F,zq5.refl _ _,T,m,HU.out.keep K1.out (fun _ _ x=>x)⟩
theorem zkX {F T:Nat→Prop}{w:World}{b m e l a:Nat}{D:Un}{val:Value}{y:Cl}(h:UnIn F T w b m e l D)(hs:size D≤1000000)(ha:a<1048576)(hv:zcS w T val y) :
 ∃w',(Instr.mapUpdate 33 (.map (some m)) (.int .i64 a) val).run Tryz.prog w = .ok () w'∧za (zq3 m) w w'∧UnIn F T w' b m e l (uput D a y):=by
 obtain⟨w',hrun,hm,ht⟩:=World.ownsMap.store h.cells zbm Tryz.underlying33 (by unfold maxLen;omega) (zee a (by omega)) (zcu (zcS.fun1 w T) hv)
 exact⟨w',hrun,zav ht,h.turned (zav ht) (zF.of hm) (h.keys.put ha _)⟩
theorem UnIn.more {F T:Nat→Prop}{w:World}{b m e l:Nat}{D:Un}(h:UnIn F T w b m e l D)(T2:Nat→Prop)(h2:∀g,T2 g→g≠b∧g≠m∧g<w.heap.size):UnIn (fun g=>F g∨T2 g) (fun g=>T g∨T2 g) w b m e l D :=
 ⟨h.blk,h.cells.keep (za.refl zq2 w) (fun x=>x) (fun _ _ x=>x) (fun _ x=>.inl x),⟨.inl h.inF.1,.inl h.inF.2.1,fun g x=>by rcases x with x|x;exact .inl (h.inF.2.2 g x);exact .inr x⟩,h.apart,⟨fun x=>by rcases x with x|x;exact h.outT.1 x;exact(h2 _ x).1 rfl,fun x=>by rcases x with x|x;exact h.outT.2.1 x;exact(h2 _ x).2.1 rfl,fun g x=>by rcases x with x|x;exact h.outT.2.2 g x;exact(h2 g x).2.2⟩,h.ep,h.lo,h.keys⟩
theorem ziZ (F:Nat→Prop)(b e l a:Nat)(D:Un)(d:List UInt8)(dv:Value)(w:World)(h:zcn F w b e l D)(ha:a≤1048575)(hs:size D≤1000000)(hd:Bs w dv d)(hl:d.length≤64)(h0:(uat l D a).1=0) :
 Calls Tryz.prog 212 #[.pointer (some ⟨b,0,none⟩),.int .i64 e,.int .i64 a,dv] w fun r w'=>r = .returned .nilIface∧UnTo F w b e l (uput D a (1,d)) w':=by
 have CU:=zz0 (zep F b e l D w h);have AT:=zz0 (ziY F b e l a D w h (by omega))
 obtain⟨T,m,h⟩:=h;have H:=zz0 h;have hkey:=zee a (by omega)
 have B:=zz0 h.blk;have fd:=zi9;have CL:=zz0 (fun W (k:za zq2 w W)=>za7 dv d W (hd.keepNon k) (by omega))
 obtain⟨da,dc,rfl,_⟩:=hd;rw[List.length_map] at CL ⊢;clear h;generalize (uat l D a)=x at AT h0;obtain⟨kx,lx⟩:=x;dsimp only at h0;subst h0
 go_enter Tryz.func212,Tryz.ntmps212
 go_wp2_with(first
  |(go_at_call 190;refine(zdo _ _ _ (by omega) (by omega)).mono ?_;rintro r w1 ⟨rfl,rfl⟩)
  |(go_at_call 244;refine CU.out.mono ?_;rintro r w1 ⟨rfl,rfl⟩)
  |(go_at_call 192;refine AT.out.mono ?_;rintro r w1 ⟨v,rfl,⟨u,rfl,_⟩,k1⟩;have K1:=zz0 k1;have c2:=un_2 (k1.at B.out (fun e=>e));have H1:=zz0 (H.out.keep k1 (fun _ _ e=>e));clear k1))
 have hb1:=H1.out.blk;have LT:=zz0 (And.intro (lt_of_block H1.out.blk) (zF.lt H1.out.cells));have CW:=zz0 (CL.out w1.drew (K1.out.trans1 (za.refl zq2 w1).drew));have c2d:w1.drew.cell? ⟨b,2,none⟩=some (.map (some m)):=c2
 go_region_law(go_simp;go_at_call 150;refine CW.out.mono ?_;rintro r w2 ⟨v2,rfl,k2',o2⟩;have k2:=(za.refl zq2 w1).drew.trans1 k2';obtain⟨a2,c2',rfl,_,_⟩:=zb o2;have H2:=H1.out.keep k2 (fun _ _ x=>x);have e2:=un_2 H2.blk;have HX:=H2.more (fun g=>(Value.slice a2 d.length c2').ownBlock=some g) (fun g x=>by have y:w1.heap.size≤g∧g<w2.heap.size:=o2.lt g x;have z:=LT.out;omega);obtain⟨w3,hrun,k3,h3⟩:=zkX (a:=a) (val:=.agg #[.int .i64 1,.slice a2 d.length c2']) (y:=(1,d)) HX hs (by omega) ⟨_,rfl,Rd.ofOwns o2,fun g x=>.inr x⟩;have K3:=zz0 k3;have H3:=zz0 h3;have K2:=zz0 (K1.out.trans1 k2);have OB:Hid (∀g,(Value.slice a2 d.length c2').ownBlock=some g→w1.heap.size≤g):=zz0 (fun g x=>(o2.lt g x).1);clear k2 k2' o2 H2 HX k3 h3)
 all_goals go_wp2_with fail
 all_goals
  go_ret;refine⟨rfl,K2.out.trans K3.out (fun _ _ x=>x.elim) (fun g _ x=>by have x':g=m:=x;rw[x'];exact H.out.inF.2.1),_,?_,_,m,H3.out⟩
  intro g x;rcases x with x|x
  ·exact .inl x
  ·exact .inr (Nat.le_trans K1.out.size (OB.out g x))
theorem za.grownNon {w w':World}(k:za zq2 w w'):w.grownBy w' none:=⟨k.os,k.tape,k.output,k.size,fun i hi _=>k.block i hi (fun e=>e)⟩
theorem zjP (g m:Nat)(cv:Value)(T:Nat→Prop)(D:Un)(pd:Lit→Bool)(w:World)(eg:∀args w,(callFunc g args).run Tryz.prog w = .ok (.enter g args) w)(hm:CsMap w T m D)(hT:¬T m)
 (hdel:∀(W:World) (x:Int) (k:Int) (a:Option Addr) (n c:Nat),za (zq3 m) w W→Calls Tryz.prog g #[.int .i64 x,.agg #[.int .i64 k,.slice a n c],cv] W fun e w'=>e = .returned (.bool (pd (.int .i64 x)))∧za zq2 W w') :
 Calls Tryz.prog 270 #[.map (some m),.func (.func g) #[] #[cv]] w fun e w'=>e = .returned (.tuple #[])∧za (zq3 m) w w'∧CsMap w' T m (Lib.deleteFuncD (fun kl _=>pd kl) D):=by
 have M:=zz0 hm;have HD:=zz0 hdel;obtain⟨es0,rfl,hap,hkeys⟩:=World.ownsMap.entries hm zbm;have AP:=zz0 hap;have HK:=zz0 hkeys;clear hdel hm hap hkeys
 go_enter Tryz.func270,Tryz.ntmps270
 go_wp2_with(at_range;refine wpList_range_own _ rfl _ 33 rfl 3 45 zbm Tryz.underlying33 _ m _ _ rfl M.out ?_;intro w0 hrg0 hg0 hs0)
 go_frame
 have HR:=zz0 hrg0;have K0:=zz0 ((za.refl (zq3 m) w).grown hg0 (row:=none) (fun k e=>by cases e))
 clear hrg0 hg0
 go_loopw [8] (fun _ wr=>∃(left:Lit→Bool) (cnt:Nat),wr.ranges Tryz.prog 3 (readAs (zcS w T)) m w.heap.size (size (DataW.map es0)) (Fk (fun kl _=>pd kl) es0 left) left cnt∧za (zq3 m) w wr) (fun _ wr=>wr.rangeLeft m w.heap.size)
 case atStart=>exact⟨_,_,by rw[Fk_start HK.out];exact HR.out,K0.out⟩
 case round =>
  obtain⟨left,cnt,hrg,hk⟩:=hrel;have RG:=zz0 hrg;have K:=zz0 hk;clear hrg hk
  go_wp2_with(at_next;refine wpList_next_ranges (α:=Int) (β:=Int×Option Addr×Nat×Nat) _ rfl _ rfl 3 zbm (readAs (zcS w T)) (fun x=>.int .i64 x) (fun c=>.agg #[.int .i64 c.1,.slice c.2.1 c.2.2.1 c.2.2.2]) (fun _ _ h=>zlT h) (fun _ _ h=>zlv h) m w.heap.size _ _ _ _ rfl RG.out ?_ ?_)
  ·intro _ hl0
   have LL:=zz0 hl0;clear hl0
   go_wp2_with fail
   go_end0
   have h1:=RG.out.owns;rw[Fk_end LL.out] at h1;exact⟨rfl,K.out,zhd (zF.of h1) K.out hT⟩
  ·intro x c1 c2 c3 c4 kl yd y2 w1 cnt1 hkx hlx hR hat hrg1 hlt hg1 hs1 hen
   obtain rfl:=zfc hkx;have K1:=zz0 (K.out.grown hg1 (fun k e=>by injection e with e;subst e;exact .inr (Nat.le_refl _)))
   have RG1:=zz0 hrg1;have HLT:Hid (w1.rangeLeft m w.heap.size<wr.rangeLeft m w.heap.size):=zz0 (by rw[hrg1.left_eq,RG.out.left_eq];exact hlt)
   have HX:=zz0 (And.intro hlx (And.intro hkx hat));have kA:za zq2 w1 (w1.alloc (zqZ c1 (.slice c2 c3 c4))):=(za.refl _ _).alloc _;have RA:=zz0 (hrg1.kept kA.grownNon (by simp) (by simp))
   have CD:=zz0 (HD.out (w1.alloc (zqZ c1 (.slice c2 c3 c4))) x c1 c2 c3 c4 (K1.out.trans kA (fun _ _ e=>e) (fun _ _ e=>e.elim)))
   have KA:=zz0 kA;dsimp only[zqZ] at CD;have hen2:=hen;clear hkx hlx hR hat hrg1 hlt hg1 hs1 RG K kA;cases hp:pd (.int .i64 x)<;>rw[hp] at CD
   ·go_wp2_with fail
    refine CD.out.mono ?_;rintro e w2 ⟨rfl,k2⟩;have RG2:=zz0 (RA.out.kept k2.grownNon (by simp) (by simp))
    have K2:=zz0 ((K1.out.trans KA.out (fun _ _ e=>e) (fun _ _ e=>e.elim)).trans k2 (fun _ _ e=>e) (fun _ _ e=>e.elim):za (zq3 m) w w2)
    clear k2 CD
    go_wp2_with fail
    refine⟨⟨fun z=>left z && !z.sameKey (.int .i64 x),cnt1,?_,K2.out⟩,by rw[RG2.out.left_eq];have:=HLT.out;rw[RG1.out.left_eq] at this;exact this⟩
    rw[←Fk_stays AP.out (zbm.key HX.out.2.1) HX.out.1 hp HX.out.2.2];exact RG2.out
   ·go_wp2_with fail
    refine CD.out.mono ?_;rintro e w2 ⟨rfl,k2⟩;have RG2:=zz0 (RA.out.kept k2.grownNon (by simp) (by simp))
    have K2:=zz0 ((K1.out.trans KA.out (fun _ _ e=>e) (fun _ _ e=>e.elim)).trans k2 (fun _ _ e=>e) (fun _ _ e=>e.elim):za (zq3 m) w w2)
    have hkx:=HX.out.2.1;clear k2 CD
    go_wp2_with(at_delete;refine wpList_delete_ranges _ rfl _ _ 33 3 rfl 45 zbm Tryz.underlying33 _ m w.heap.size _ _ _ _ rfl RG2.out _ _ rfl hkx ?_;intro w3 cnt3 hrg3 hle hturn;go_frame;have RG3:=zz0 hrg3;have LE3:=zz0 hle;have K3:=zz0 (zav hturn);clear hrg3 hle hturn)
    have hrg3:=RG3.out;rw[strike_twice] at hrg3;refine⟨⟨fun z=>left z && !z.sameKey (.int .i64 x),cnt3,?_,K2.out.trans1 K3.out⟩,by rw[hrg3.left_eq];have:=HLT.out;rw[RG1.out.left_eq] at this;have:=LE3.out;omega⟩
    rw[←Fk_struck AP.out (zbm.key HX.out.2.1) HX.out.1 hp HX.out.2.2];exact hrg3
end Go.Proofs.YtpojgmeoaflmoaaGreatDoor
