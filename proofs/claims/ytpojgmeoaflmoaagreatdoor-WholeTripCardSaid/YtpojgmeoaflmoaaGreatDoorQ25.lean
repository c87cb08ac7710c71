/- unit.Trim, Cut: walked. · record.Apply:  -/
import Derived.Lib.AppendIntMem
import Derived.Test.YtpojgmeoaflmoaaGreatDoorQ14
import Derived.Test.YtpojgmeoaflmoaaGreatDoorQ15
import Derived.Test.YtpojgmeoaflmoaaGreatDoorQ22
import Derived.Test.YtpojgmeoaflmoaaGreatDoorQ24
set_option linter.unusedVariables false
set_option maxRecDepth 100000
set_option maxHeartbeats 16000000
namespace Go.Proofs.YtpojgmeoaflmoaaGreatDoor
open Go.RowKit Go.Maps
def ltL (n:Nat):Lit→Bool
 |.int _ x=>decide (x<(n:Int))
 |_=>false
def geL (n:Nat):Lit→Bool
 |.int _ x=>decide ((n:Int)≤x)
 |_=>false
def cutLo (n:Nat)(D:Un):Un:=Lib.deleteFuncD (fun kl _=>ltL n kl) D
def cutHi (n:Nat)(D:Un):Un:=Lib.deleteFuncD (fun kl _=>geL n kl) D
theorem zm4 (p b l:Nat)(x k:Int)(a:Option Addr)(n c:Nat)(W:World)(h1:W.cell? ⟨p,0,none⟩=some (.pointer (some ⟨b,0,none⟩)))(h2:W.cell? ⟨b,1,none⟩=some (.int .i64 l)) :
 Calls Tryz.prog 271 #[.int .i64 x,.agg #[.int .i64 k,.slice a n c],.pointer (some ⟨p,0,none⟩)] W fun e w'=>e = .returned (.bool (ltL l (.int .i64 x)))∧za zq2 W w':=by
 have kA:za zq2 W (W.alloc (zqZ k (.slice a n c))):=(za.refl _ _).alloc _;have c1:=(World.cell?_of_block (kA.block p (World.block_lt_of_cell? _ _ h1) (fun e=>e))).trans h1
 have c2:=(World.cell?_of_block (kA.block b (World.block_lt_of_cell? _ _ h2) (fun e=>e))).trans h2
 have KA:=zz0 kA;unfold zqZ at c1 c2;clear h1 h2 kA
 go_enter Tryz.func271,Tryz.ntmps271
 go_wp2_with fail
 go_ret;exact⟨rfl,KA.out⟩
theorem zoU (p l:Nat)(x k:Int)(a:Option Addr)(n c:Nat)(W:World)(h1:W.cell? ⟨p,0,none⟩=some (.int .i64 l)) :
 Calls Tryz.prog 272 #[.int .i64 x,.agg #[.int .i64 k,.slice a n c],.pointer (some ⟨p,0,none⟩)] W fun e w'=>e = .returned (.bool (geL l (.int .i64 x)))∧za zq2 W w':=by
 have kA:za zq2 W (W.alloc (zqZ k (.slice a n c))):=(za.refl _ _).alloc _;have c1:=(World.cell?_of_block (kA.block p (World.block_lt_of_cell? _ _ h1) (fun e=>e))).trans h1
 have KA:=zz0 kA;unfold zqZ at c1;clear h1 kA
 go_enter Tryz.func272,Tryz.ntmps272
 go_wp2_with fail
 go_ret;exact⟨rfl,KA.out⟩
theorem zkf (D:Un)(pd:Lit→DataW Cl→Bool)(hD:IsMap D)(kl:Lit)(h:has (Lib.deleteFuncD pd D) kl=true):has D kl=true:=by
 obtain⟨es,rfl⟩:=hD;obtain⟨p,hp,hk⟩:=List.any_eq_true.1 h;exact List.any_eq_true.2 ⟨p,(List.mem_filter.1 hp).1,hk⟩
theorem keysOk.cut {D:Un}(h:keysOk D)(hD:IsMap D)(pd:Lit→DataW Cl→Bool):keysOk (Lib.deleteFuncD pd D):=fun kl hk=>h kl (zkf D pd hD kl hk)
theorem zcE {f:FuncId}{fn:Func}{c:Code}(hf:Tryz.prog.funcs[f]? = some fn)(hname:(fn.name == "runtime.NumGoroutine")=false)(hb:fn.body=some c)(args:Array Value)(w:World):(callFunc f args).run Tryz.prog w = .ok (.enter f args) w:=by
 have h1:fn.name≠ "runtime.NumGoroutine":=by simpa using hname
 simp[callFunc,hf,h1,hb]
theorem zm0 {F T:Nat→Prop}{w:World}{b m e l l':Nat}{D:Un}(h:UnIn F T w b m e l D)(hl:l'≤1048576):UnIn F T (w.setCell ⟨b,1,none⟩ (.int .i64 l')) b m e l' D:=by
 have kS:za (zq3 b) w (w.setCell ⟨b,1,none⟩ (.int .i64 l')):=(za.refl _ _).setOne 1 _;exact⟨zqs h.blk l',h.cells.keep kS (fun x=>h.apart x.symm) (fun g hg x=>h.outT.1 (by have x':g=b:=x;rw[←x'];exact hg)) (fun _ x=>x),h.inF,h.apart,⟨h.outT.1,h.outT.2.1,fun g x=>kS.lt (h.outT.2.2 g x)⟩,h.ep,hl,h.keys⟩
theorem zkS (args:Array Value)(w:World):(callFunc 271 args).run Tryz.prog w = .ok (.enter 271 args) w:=zcE Tryz.func271 (by kernel_rfl) rfl args w
theorem zlm (args:Array Value)(w:World):(callFunc 272 args).run Tryz.prog w = .ok (.enter 272 args) w:=zcE Tryz.func272 (by kernel_rfl) rfl args w
theorem zoN {F T:Nat→Prop}{W:World}{b m e l p:Nat}{D:Un}(h:UnIn F T W b m e l D)(hp:W.cell? ⟨p,0,none⟩=some (.pointer (some ⟨b,0,none⟩)))(hpm:p≠m) :
 Calls Tryz.prog 270 #[.map (some m),.func (.func 271) #[] #[.pointer (some ⟨p,0,none⟩)]] W fun r w'=>r = .returned (.tuple #[])∧za (zq3 m) W w'∧UnIn F T w' b m e l (cutLo l D):=by
 refine(zjP _ m _ T D (ltL l) W zkS h.cells h.outT.2.1 (fun W' x k a n c kk=>?_)).mono ?_
 ·exact zm4 p b l x k a n c W' ((World.cell?_of_block (kk.block p (World.block_lt_of_cell? _ _ hp) (fun x=>hpm x))).trans hp) (un_1 (kk.at h.blk h.apart))
 ·rintro r w' ⟨rfl,k1,m1⟩
  exact⟨rfl,k1,k1.at h.blk h.apart,m1,h.inF,h.apart,⟨h.outT.1,h.outT.2.1,fun g x=>k1.lt (h.outT.2.2 g x)⟩,h.ep,h.lo,h.keys.cut (zF.isMap h.cells) _⟩
theorem zpl {F T:Nat→Prop}{W:World}{b m e l a p:Nat}{D:Un}(h:UnIn F T W b m e l D)(hp:W.cell? ⟨p,0,none⟩=some (.int .i64 a))(hpm:p≠m) :
 Calls Tryz.prog 270 #[.map (some m),.func (.func 272) #[] #[.pointer (some ⟨p,0,none⟩)]] W fun r w'=>r = .returned (.tuple #[])∧za (zq3 m) W w'∧UnIn F T w' b m e l (cutHi a D):=by
 refine(zjP _ m _ T D (geL a) W zlm h.cells h.outT.2.1 (fun W' x k pa n c kk=>?_)).mono ?_
 ·exact zoU p a x k pa n c W' ((World.cell?_of_block (kk.block p (World.block_lt_of_cell? _ _ hp) (fun x=>hpm x))).trans hp)
 ·rintro r w' ⟨rfl,k1,m1⟩
  exact⟨rfl,k1,k1.at h.blk h.apart,m1,h.inF,h.apart,⟨h.outT.1,h.outT.2.1,fun g x=>k1.lt (h.outT.2.2 g x)⟩,h.ep,h.lo,h.keys.cut (zF.isMap h.cells) _⟩
theorem zm5 (F:Nat→Prop)(b e l a:Nat)(D:Un)(w:World)(h:zcn F w b e l D)(ha:a≤1048576) :
 Calls Tryz.prog 214 #[.pointer (some ⟨b,0,none⟩),.int .i64 e,.int .i64 a] w fun r w'=>r = .returned .nilIface∧UnTo F w b e (max l a) (cutLo (max l a) D) w':=by
 obtain⟨T,m,h⟩:=h;have H:=zz0 h;have AS:=zz0 (fun W (k:za zq2 w W)=>zd0 F b e l D W ⟨T,m,h.keep k (fun _ _ x=>x)⟩)
 clear h
 go_enter Tryz.func214,Tryz.ntmps214
 go_wp2_with fail
 have kA:za zq2 w (w.alloc (.cells #[.pointer (some ⟨b,0,none⟩)] 198)):=(za.refl _ _).alloc _;have bA:=ze w (.cells #[.pointer (some ⟨b,0,none⟩)] 198 (0,0));obtain⟨wA,hwA⟩:∃wA,wA=w.alloc (.cells #[.pointer (some ⟨b,0,none⟩)] 198):=⟨_,rfl⟩;rw[←hwA] at kA bA ⊢;clear hwA;have cA:wA.cell? ⟨w.heap.size,0,none⟩=some (.pointer (some ⟨b,0,none⟩)):=by simp[World.cell?,bA]
 have cAd:wA.drew.cell? ⟨w.heap.size,0,none⟩=some (.pointer (some ⟨b,0,none⟩)):=cA;have hA:=H.out.keep kA (fun _ _ x=>x)
 have c1:=un_1 hA.blk;have c2:=un_2 hA.blk;have f1:=un_f hA.blk 1;have AA:=zz0 (AS.out wA.drew (kA.trans1 (za.refl zq2 wA).drew));have HA:=zz0 hA;have KA:=zz0 kA;have BA:=zz0 bA;clear hA kA bA AS
 go_region_law(go_simp;first
  |(go_at_call 190;refine(zdo _ _ _ (by omega) (by omega)).mono ?_;rintro r w1 ⟨rfl,e1⟩;subst e1)
  |(go_at_call 189;refine AA.out.mono ?_;rintro r w1 ⟨rfl,e1⟩;subst e1))
 all_goals
  have hmx:max (l:Int) (a:Int)=((max l a:Nat):Int):=by omega
  have hlo:=HA.out.lo;have hS:=zm0 (l':=max l a) HA.out (by omega)
  have kS:za (zq3 b) wA (wA.setCell ⟨b,1,none⟩ (.int .i64 (max l a:Nat))):=(za.refl _ _).setOne 1 _;have bS:=kS.at BA.out (fun x=>by have x':w.heap.size=b:=x;have:=lt_of_block H.out.blk;omega)
  have cS:(wA.setCell ⟨b,1,none⟩ (.int .i64 (max l a:Nat))).cell? ⟨w.heap.size,0,none⟩=some (.pointer (some ⟨b,0,none⟩)):=by simp[World.cell?,bS]
  have d2:=un_2 hS.blk;have HS:=zz0 hS;have KS:=zz0 kS;clear hS kS bS
  go_wp2_with fail
 all_goals go_region_law fail
 all_goals
  have hif:(if l<a then (a:Int) else (l:Int))=((max l a:Nat):Int):=by split<;>omega
  try rw[hif]
  clear hif hmx;generalize hn:max l a=n at HS KS cS d2 ⊢;have DL:=zz0 (zoN (p:=w.heap.size) (HS.out.keep ((za.refl zq2 _).drew.drew) (fun _ _ x=>x)) cS (fun x=>by have:=zF.lt H.out.cells;omega))
  go_wp2_with(go_at_call 270;refine DL.out.mono ?_;rintro r w2 ⟨rfl,k2,h2⟩;have K2:=zz0 k2;have H2:=zz0 h2;clear k2 h2)
  go_ret;have k02:za F wA w2:=(((KS.out.mono (fun g _ x=>by have x':g=b:=x;rw[x'];exact H.out.inF.1)).drew).drew).trans K2.out (fun _ _ x=>x) (fun g _ x=>by have x':g=m:=x;rw[x'];exact H.out.inF.2.1)
  rw[hn];exact⟨rfl,KA.out.ofNon.trans1 k02,F,zq5.refl _ _,T,m,H2.out⟩
theorem zoV (F:Nat→Prop)(b e l a:Nat)(D:Un)(w:World)(h:zcn F w b e l D)(ha:a≤1048576)(hl:l≤a) :
 Calls Tryz.prog 215 #[.pointer (some ⟨b,0,none⟩),.int .i64 e,.int .i64 a] w fun r w'=>(∃n:Int,r = .returned (.tuple #[.int .i64 n,.nilIface]))∧UnTo F w b e l (cutHi a D) w':=by
 obtain⟨T,m,h⟩:=h;have H:=zz0 h;have AS:=zz0 (fun W (k:za zq2 w W)=>zd0 F b e l D W ⟨T,m,h.keep k (fun _ _ x=>x)⟩)
 clear h
 go_enter Tryz.func215,Tryz.ntmps215
 have kA:za zq2 w (w.alloc (.cells #[.int .i64 a] 3)):=(za.refl _ _).alloc _;have bA:=ze w (.cells #[.int .i64 a] 3 (0,0))
 go_wp2_with fail
 obtain⟨wA,hwA⟩:∃wA,wA=w.alloc (.cells #[.int .i64 a] 3):=⟨_,rfl⟩;rw[←hwA] at kA bA ⊢;clear hwA;have cA:wA.cell? ⟨w.heap.size,0,none⟩=some (.int .i64 a):=by simp[World.cell?,bA]
 have hA:=H.out.keep kA (fun _ _ x=>x)
 have c1:=un_1 hA.blk;have c2:=un_2 hA.blk;have AA:=zz0 (AS.out wA kA);have HA:=zz0 hA;have KA:=zz0 kA;have hll:¬(a:Int)<l:=by omega
 have DL:=zz0 (zpl (W:=wA.drew) (p:=w.heap.size) (hA.keep (za.refl zq2 wA).drew (fun _ _ x=>x)) cA (fun x=>by have:=zF.lt H.out.cells;omega))
 clear hA kA bA AS;refine(zdo _ _ _ (by omega) (by omega)).mono ?_
 rintro r w1 ⟨rfl,e1⟩;subst e1
 go_wp2_with(go_at_call 189;refine AA.out.mono ?_;rintro r w1 ⟨rfl,e1⟩;subst e1)
 have hln:=World.ownsMap.len (HA.out.keep (za.refl zq2 _).drew (fun _ _ x=>x)).cells (t:=33) (e:=45) Tryz.underlying33
 go_region_law fail
 all_goals go_wp2_with(go_at_call 270;refine DL.out.mono ?_;rintro r w2 ⟨rfl,k2,h2⟩;have K2:=zz0 k2;have H2:=zz0 h2;have d2:=un_2 h2.blk;have hln2:=World.ownsMap.len h2.cells (t:=33) (e:=45) Tryz.underlying33;clear k2 h2)
 all_goals
  go_ret2;have k2:za F w w2:=(KA.out.ofNon.trans1 (za.refl F _).drew).trans K2.out (fun _ _ x=>x) (fun g _ x=>by have x':g=m:=x;rw[x'];exact H.out.inF.2.1)
  exact⟨⟨_,rfl⟩,k2,F,zq5.refl _ _,T,m,H2.out⟩
theorem ziE (F:Nat→Prop)(b e l:Nat)(D:Un)(e2:Nat)(w:World)(h:zcn F w b e l D)(he:e<e2)(he2:e2≤1099511627776) :
 Calls Tryz.prog 144 #[.pointer (some ⟨b,0,none⟩),.agg #[.int .i64 1,.int .i64 e2,.int .i64 0,.slice none 0 0]] w fun r w'=>(∃n:Int,r = .returned (.tuple #[.int .i64 n,.nilIface]))∧UnTo F w b e2 l D w':=by
 have CK:=zz0 (fun W=>zdT e2 W he2)
 have OP:=zz0 (fun W (k:za zq2 w W)=>zm3 F b e e2 l D W (h.keepNon k) he he2)
 clear h
 go_enter Tryz.func144,Tryz.ntmps144
 go_wp2_with(first
  |(go_at_call 210;refine(CK.out _).mono ?_;rintro r w1 ⟨rfl,k1⟩;have b1:=zh k1 (ze w (zbq 1 e2 0 (.slice none 0 0)));have c0:=ac_0 b1;have c1:=ac_1 b1;have c2:=ac_2 b1;have c3:=ac_3 b1;have K1':=((za.refl zq2 w).alloc (zbq 1 e2 0 (.slice none 0 0))).trans1 k1;have OPW:=zz0 (OP.out w1 K1');have OPD:=zz0 (OP.out w1.drew (K1'.trans1 (za.refl zq2 _).drew));have K1:=zz0 K1';clear k1 K1' b1)
  |(go_at_call 211;refine OPW.out.mono ?_;rintro r w2 ⟨⟨n,rfl⟩,t2⟩;have T2:=zz0 t2;clear t2))
 go_ret2;obtain⟨k2,F',s,u⟩:=T2.out;refine⟨⟨_,rfl⟩,K1.out.ofNon.trans1 k2,F',zq5.trans (zq5.refl _ _) s K1.out.size,u⟩
theorem zhJ (F:Nat→Prop)(b e l:Nat)(D:Un)(a:Nat)(pa:Option Addr)(d:List UInt8)(dc:Nat)(w:World)(h:zcn F w b e l D)(he:e≤1099511627776)(ha:a≤1048575)(hd:Bs w (.slice pa d.length dc) d)(hdl:d.length≤64)(hs:size D≤1000000)(h0:(uat l D a).1=0) :
 Calls Tryz.prog 144 #[.pointer (some ⟨b,0,none⟩),.agg #[.int .i64 2,.int .i64 e,.int .i64 a,.slice pa d.length dc]] w fun r w'=>(∃n:Int,r = .returned (.tuple #[.int .i64 n,.nilIface]))∧UnTo F w b e l (uput D a (1,d)) w':=by
 have CK:=zz0 (fun W=>zds e a d.length dc pa W he ha hdl)
 have OP:=zz0 (fun W (k:za zq2 w W)=>ziZ F b e l a D d _ W (h.keepNon k) ha hs (hd.keepNon k) hdl h0)
 clear h
 go_enter Tryz.func144,Tryz.ntmps144
 go_wp2_with(first
  |(go_at_call 210;refine(CK.out _).mono ?_;rintro r w1 ⟨rfl,k1⟩;have b1:=zh k1 (ze w (zbq 2 e a (.slice pa d.length dc)));have c0:=ac_0 b1;have c1:=ac_1 b1;have c2:=ac_2 b1;have c3:=ac_3 b1;have K1':=((za.refl zq2 w).alloc (zbq 2 e a (.slice pa d.length dc))).trans1 k1;have OPW:=zz0 (OP.out w1 K1');have OPD:=zz0 (OP.out w1.drew (K1'.trans1 (za.refl zq2 _).drew));have K1:=zz0 K1';clear k1 K1' b1)
  |(go_at_call 212;refine OPW.out.mono ?_;rintro r w2 ⟨rfl,t2⟩;have T2:=zz0 t2;clear t2))
 go_ret2;obtain⟨k2,F',s,u⟩:=T2.out;refine⟨⟨_,rfl⟩,K1.out.ofNon.trans1 k2,F',zq5.trans (zq5.refl _ _) s K1.out.size,u⟩
theorem ziD (F:Nat→Prop)(b e l:Nat)(D:Un)(a:Nat)(w:World)(h:zcn F w b e l D)(he:e≤1099511627776)(ha:a≤1048575)(hs:size D≤1000000)(h3:(uat l D a).1≠3)(h1:(uat l D a).1≠1) :
 Calls Tryz.prog 144 #[.pointer (some ⟨b,0,none⟩),.agg #[.int .i64 3,.int .i64 e,.int .i64 a,.slice none 0 0]] w fun r w'=>(∃n:Int,r = .returned (.tuple #[.int .i64 n,.nilIface]))∧UnTo F w b e l (uput D a (2,[])) w':=by
 have CK:=zz0 (fun W=>zdS e a W he ha)
 have OP:=zz0 (fun W (k:za zq2 w W)=>zkV F b e l a D W (h.keepNon k) ha hs h3 h1)
 clear h
 go_enter Tryz.func144,Tryz.ntmps144
 go_wp2_with(first
  |(go_at_call 210;refine(CK.out _).mono ?_;rintro r w1 ⟨rfl,k1⟩;have b1:=zh k1 (ze w (zbq 3 e a (.slice none 0 0)));have c0:=ac_0 b1;have c1:=ac_1 b1;have c2:=ac_2 b1;have c3:=ac_3 b1;have K1':=((za.refl zq2 w).alloc (zbq 3 e a (.slice none 0 0))).trans1 k1;have OPW:=zz0 (OP.out w1 K1');have OPD:=zz0 (OP.out w1.drew (K1'.trans1 (za.refl zq2 _).drew));have K1:=zz0 K1';clear k1 K1' b1)
  |(go_at_call 213;refine OPW.out.mono ?_;rintro r w2 ⟨rfl,t2⟩;have T2:=zz0 t2;clear t2))
 go_ret2;obtain⟨k2,F',s,u⟩:=T2.out;refine⟨⟨_,rfl⟩,K1.out.ofNon.trans1 k2,F',zq5.trans (zq5.refl _ _) s K1.out.size,u⟩
theorem ziF (F:Nat→Prop)(b e l:Nat)(D:Un)(a:Nat)(w:World)(h:zcn F w b e l D)(he:e≤1099511627776)(ha:a≤1048576) :
 Calls Tryz.prog 144 #[.pointer (some ⟨b,0,none⟩),.agg #[.int .i64 4,.int .i64 e,.int .i64 a,.slice none 0 0]] w fun r w'=>(∃n:Int,r = .returned (.tuple #[.int .i64 n,.nilIface]))∧UnTo F w b e (max l a) (cutLo (max l a) D) w':=by
 have CK:=zz0 (fun W=>zdU e a W he ha)
 have OP:=zz0 (fun W (k:za zq2 w W)=>zm5 F b e l a D W (h.keepNon k) ha)
 clear h
 go_enter Tryz.func144,Tryz.ntmps144
 go_wp2_with(first
  |(go_at_call 210;refine(CK.out _).mono ?_;rintro r w1 ⟨rfl,k1⟩;have b1:=zh k1 (ze w (zbq 4 e a (.slice none 0 0)));have c0:=ac_0 b1;have c1:=ac_1 b1;have c2:=ac_2 b1;have c3:=ac_3 b1;have K1':=((za.refl zq2 w).alloc (zbq 4 e a (.slice none 0 0))).trans1 k1;have OPW:=zz0 (OP.out w1 K1');have OPD:=zz0 (OP.out w1.drew (K1'.trans1 (za.refl zq2 _).drew));have K1:=zz0 K1';clear k1 K1' b1)
  |(go_at_call 214;refine OPW.out.mono ?_;rintro r w2 ⟨rfl,t2⟩;have T2:=zz0 t2;clear t2))
 go_ret2;obtain⟨k2,F',s,u⟩:=T2.out;refine⟨⟨_,rfl⟩,K1.out.ofNon.trans1 k2,F',zq5.trans (zq5.refl _ _) s K1.out.size,u⟩
theorem zky (F:Nat→Prop)(b e l:Nat)(D:Un)(a:Nat)(w:World)(h:zcn F w b e l D)(he:e≤1099511627776)(ha:a≤1048576)(hl:l≤a) :
 Calls Tryz.prog 144 #[.pointer (some ⟨b,0,none⟩),.agg #[.int .i64 5,.int .i64 e,.int .i64 a,.slice none 0 0]] w fun r w'=>(∃n:Int,r = .returned (.tuple #[.int .i64 n,.nilIface]))∧UnTo F w b e l (cutHi a D) w':=by
 have CK:=zz0 (fun W=>zel e a W he ha)
 have OP:=zz0 (fun W (k:za zq2 w W)=>zoV F b e l a D W (h.keepNon k) ha hl)
 clear h
 go_enter Tryz.func144,Tryz.ntmps144
 go_wp2_with(first
  |(go_at_call 210;refine(CK.out _).mono ?_;rintro r w1 ⟨rfl,k1⟩;have b1:=zh k1 (ze w (zbq 5 e a (.slice none 0 0)));have c0:=ac_0 b1;have c1:=ac_1 b1;have c2:=ac_2 b1;have c3:=ac_3 b1;have K1':=((za.refl zq2 w).alloc (zbq 5 e a (.slice none 0 0))).trans1 k1;have OPW:=zz0 (OP.out w1 K1');have OPD:=zz0 (OP.out w1.drew (K1'.trans1 (za.refl zq2 _).drew));have K1:=zz0 K1';clear k1 K1' b1)
  |(go_at_call 215;refine OPW.out.mono ?_;rintro r w2 ⟨⟨n,rfl⟩,t2⟩;have T2:=zz0 t2;clear t2))
 go_ret2;obtain⟨k2,F',s,u⟩:=T2.out;refine⟨⟨_,rfl⟩,K1.out.ofNon.trans1 k2,F',zq5.trans (zq5.refl _ _) s K1.out.size,u⟩
end Go.Proofs.YtpojgmeoaflmoaaGreatDoor
namespace Go.Proofs.YtpojgmeoaflmoaaGreatDoor
open Go.RowKit Go.Sort
theorem sort1:([0]:List Int).mergeSort (fun x y=>decide (x≤y)) = [0]:=by simp
theorem sort2:([0,1]:List Int).mergeSort (fun x y=>decide (x≤y)) = [0,1]:=List.mergeSort_of_pairwise (by decide)
theorem sort3:([0,1,2]:List Int).mergeSort (fun x y=>decide (x≤y)) = [0,1,2]:=List.mergeSort_of_pairwise (by decide)
theorem comp3:Lib.compact ([0,1,2]:List Int) = [0,1,2]:=by decide
theorem comp1:Lib.compact ([0]:List Int) = [0]:=by decide
theorem comp2:Lib.compact ([0,1]:List Int) = [0,1]:=by decide
def rgI (n:Nat):List Int:=(List.range n).map (fun(i:Nat)=>(i:Int))
theorem zp0 (n:Nat)(h1:1≤n)(h2:n≤3):(rgI n).mergeSort (fun x y=>decide (x≤y))=rgI n:=by
 obtain rfl|rfl|rfl:n=1∨n=2∨n=3:=by omega
 ·exact sort1
 ·exact sort2
 ·exact sort3
theorem zpZ (n:Nat)(h1:1≤n)(h2:n≤3):Lib.compact (rgI n)=rgI n:=by
 obtain rfl|rfl|rfl:n=1∨n=2∨n=3:=by omega
 ·exact comp1
 ·exact comp2
 ·exact comp3
theorem zhL (n:Nat):(rgI n).length=n:=by simp[rgI]
theorem zmI {w:World}{g off n c:Nat}(h1:1≤n)(h2:n≤3)(hH:Holds (Value.int .i64) w g off (rgI n).toArray)(hg:g<w.heap.size) :
 Calls Tryz.prog 58 #[.slice (some ⟨g,off,none⟩) n c] w fun e w'=>e = .returned (.tuple #[])∧za zq2 w w':=by
 have h:=Tryz.slices_Sort_int g off c (rgI n) w hH hg (by rw[zhL];omega)
 rw[zhL] at h;refine h.mono ?_;rintro e w' ⟨rfl,k,os,rfl⟩;rw[zp0 n h1 h2,putRow_ahead,putRow_self _ _ _ _ _ hH];exact⟨rfl,za.ofBelow (Lib.below_grow _ _ (Nat.le_refl _) k os)⟩
theorem zle {w:World}{g off n c:Nat}(h1:1≤n)(h2:n≤3)(hc:n≤c)(hH:Holds (Value.int .i64) w g off (rgI n).toArray) :
 Calls Tryz.prog 59 #[.slice (some ⟨g,off,none⟩) n c] w fun e w'=>e = .returned (.slice (some ⟨g,off,none⟩) n c)∧za zq2 w w':=by
 have h:=Tryz.slices_Compact_int g off c (rgI n) w hH (by rw[zhL];omega) (by rw[zhL];omega)
 rw[zpZ n h1 h2,zhL] at h;refine h.mono ?_;rintro e w' ⟨rfl,k,rfl⟩;rw[Nat.sub_self,List.replicate_zero,List.append_nil,putRow_ahead,putRow_self _ _ _ _ _ hH];exact⟨rfl,(za.refl zq2 w).drewN k⟩
def zbk (n:Nat):List (List Nat):=if n=3 then [[0],[1,2]] else (List.range n).map (fun i=>[i])
def chN (n:Nat):Nat:=if n=3 then 2 else n
theorem zcB (n:Nat):(zbk n).flatten=List.range n:=by
 unfold zbk
 split
 ·rename_i h
  subst h
  rfl
 ·rename_i h
  clear h
  induction n with
  |zero=>rfl
  |succ n ih=>rw[List.range_succ,List.map_append,List.flatten_append,ih];rfl
theorem zfR (n:Nat):(zbk n).length=chN n:=by
 unfold zbk chN
 split<;>simp
theorem zfQ {n:Nat}(h:n≤3):chN n≤2:=by
 unfold chN
 split<;>omega
theorem zic {n:Nat}(h:1≤n):1≤chN n:=by
 unfold chN
 split<;>omega
def chnI (n i:Nat):List Nat:=(zbk n).getD i []
theorem zib {n i:Nat}(h:i<chN n):(zbk n)[i]? = some (chnI n i):=by
 unfold chnI;rw[List.getD_eq_getElem?_getD,List.getElem?_eq_getElem (by rw[zfR];exact h)]
 rfl
theorem zeN {n i:Nat}(h:i<chN n):1≤(chnI n i).length∧(chnI n i).length≤2:=by
 unfold chnI zbk chN at *
 split
 ·rename_i e
  rw[if_pos e] at h;obtain rfl|rfl:i=0∨i=1:=by omega
  ·exact⟨by decide,by decide⟩
  ·exact⟨by decide,by decide⟩
 ·rename_i e
  rw[if_neg e] at h;simp[List.getD_eq_getElem?_getD,h]
def PrAt (T:Nat→Prop)(w:World)(cv:Value)(n:Nat):Prop:=∃g vs c,cv = .slice (some ⟨g,0,none⟩) (chN n) c∧vs.length=chN n∧Rd w cv vs∧Iss w vs (zbk n)∧T g∧∀v ∈ vs,∀k,v.ownBlock=some k→T k
theorem PrAt.keep {S T:Nat→Prop}{w w':World}{cv:Value}{n:Nat}(h:PrAt T w cv n)(k:za S w w')(hn:∀g,T g→¬S g):PrAt T w' cv n:=by
 obtain⟨g,vs,c,rfl,hl,hr,hi,hg,ht⟩:=h;exact⟨g,vs,c,rfl,hl,hr.keep k (fun j e=>hn j (by injection e with e;rw[←e];exact hg)),⟨hi.1,fun i u l hu hl=>(hi.2 i u l hu hl).keep k (fun j e=>hn j (ht u (List.mem_of_getElem? hu) j e))⟩,hg,ht⟩
theorem PrAt.keepNon {T:Nat→Prop}{w w':World}{cv:Value}{n:Nat}(h:PrAt T w cv n)(k:za zq2 w w'):PrAt T w' cv n:=h.keep k (fun _ _ e=>e)
theorem znK {w:World}{b n:Nat}{v:Value}{l:List Nat}(o:w.ownsRow b 3 1 v n (l.map iv))(hl:l.length=n)(hn:0<n):∃g c,v = .slice (some ⟨g,0,none⟩) n c∧n≤c∧g<w.heap.size∧b≤g∧Holds (Value.int .i64) w g 0 (l.map (fun(i:Nat)=>(i:Int))).toArray:=by
 obtain⟨g,c,rfl,hc,hb,hg⟩:=zcd o hn;refine⟨g,c,rfl,hc,hg,hb,?_⟩;rcases o.2 with ⟨h,_⟩|⟨g',cap,cur,e,_,hgb,_,_,_,htake⟩
 ·cases h
 ·injection e with e1 e2 e3
  injection e1 with e1
  injection e1 with e1
  subst e1;intro j hj;simp only[List.size_toArray,List.length_map] at hj;have hx:=congrArg (fun(x:List Value)=>x[j]?) htake
  have hj1:j<(l.map iv).length:=by rw[List.length_map];exact hj
  constructor
  ·rw[Nat.zero_add,World.cell?,hgb]
   simp only[List.getElem?_take,List.getElem?_map] at hx
   split at hx
   ·rw[Array.getElem?_toList] at hx
    simp only[hx];simp[hj,iv]
   ·rw[List.getElem?_eq_getElem hj] at hx
    cases hx
  ·simp[World.frozen?,hgb]
theorem zkg {w w':World}{g off:Nat}{d:Array Int}(k:za zq2 w w')(h:Holds (Value.int .i64) w g off d)(hg:g<w.heap.size):Holds (Value.int .i64) w' g off d:=fun j hj=>by
 obtain⟨a,b⟩:=h j hj;have e:=k.block g hg (fun x=>x)
 unfold World.cell? World.frozen? at *;rw[e];exact⟨a,b⟩
theorem zc1 (T:Nat→Prop)(e n:Nat)(cv:Value)(w:World)(h:PrAt T w cv n)(h1:1≤n)(h2:n≤3) :
 Calls Tryz.prog 23 #[.agg #[.int .i64 e,cv]] w fun r w'=>∃g c,r = .returned (.slice (some ⟨g,0,none⟩) n c)∧za zq2 w w'∧w.heap.size≤g∧Is w' (.slice (some ⟨g,0,none⟩) n c) (List.range n):=by
 obtain⟨g,vs,c,rfl,hl,hr,hi,hg,ht⟩:=h;have CC:=zz0 (fun W (k:za zq2 w W)=>zeU g vs (zbk n) c W (by rw[hl];exact hr.keepNon k) ⟨hi.1,fun i u l hu hl=>(hi.2 i u l hu hl).keepNon k⟩ (by rw[zcB];simp;omega) (by have:=zfQ h2;omega))
 rw[hl,zcB] at CC;clear hr hi hl
 go_enter Tryz.func23,Tryz.ntmps23
 go_wp2_with(first
  |(go_at_call 57;refine(CC.out _ ((za.refl _ _).alloc _)).mono ?_;rintro r w1 ⟨v1,rfl,k1,o1⟩;obtain⟨g1,c1,rfl,hc1,hg1,hb1,H1⟩:=znK o1 rfl (by simp;omega);rw[List.length_range] at *;have K1:=zz0 (((za.refl zq2 w).alloc _).trans1 k1);have O1:=zz0 o1;have HH:=zz0 H1;clear k1 o1 H1)
  |(go_at_call 58;refine(zmI h1 h2 HH.out hg1).mono ?_;rintro r w2 ⟨rfl,k2⟩;have K2:=zz0 (K1.out.trans1 k2);have HH2:=zz0 (zkg k2 HH.out hg1);have I2:=zz0 ((Rd.ofOwns O1.out).keepNon k2);clear k2)
  |(go_at_call 59;refine(zle h1 h2 hc1 HH2.out).mono ?_;rintro r w3 ⟨rfl,k3⟩;have K3:=zz0 k3;clear k3))
 go_ret;exact⟨g1,c1,rfl,K2.out.trans1 K3.out,by simp at hb1;omega,I2.out.keepNon K3.out⟩
end Go.Proofs.YtpojgmeoaflmoaaGreatDoor
namespace Go.Proofs.YtpojgmeoaflmoaaGreatDoor
open Go.RowKit
def PrB (e:Nat)(cv:Value):Obj:=.cells #[.int .i64 e,cv] 74 (0,0)
section
variable {w : World} {b e : Nat} {cv : Value}
theorem pr_0 (h:w.heap[b]? = some (PrB e cv)):w.cell? ⟨b,0,none⟩=some (.int .i64 e):=by simp[World.cell?,h,PrB]
theorem pr_1 (h:w.heap[b]? = some (PrB e cv)):w.cell? ⟨b,1,none⟩=some cv:=by simp[World.cell?,h,PrB]
theorem pr_f (h:w.heap[b]? = some (PrB e cv))(i:Nat):w.frozen? ⟨b,i,none⟩=false:=by simp[World.frozen?,h,PrB]
theorem zgT (h:w.heap[b]? = some (PrB e cv))(k:Nat):(w.setCell ⟨b,0,none⟩ (.int .i64 k)).heap[b]? = some (PrB k cv):=zj h 0 _
theorem zfn (h:w.heap[b]? = some (PrB e cv))(v:Value):(w.setCell ⟨b,1,none⟩ v).heap[b]? = some (PrB e v):=zj h 1 _
end
theorem infoSlI:(Tryz.prog.info? 23).map (fun i=>(i.zero,i.size,i.bytes))=some (some (.slice none 0 0),1,24):=by kernel_rfl
def OutI (n B:Nat)(w:World)(ov:Value)(j:Nat):Prop:=∃us:List Value,w.ownsRow B 23 1 ov j us∧us.length=j∧(∀u ∈ us,u.oneCell'=true)∧∀(i:Nat) u,us[i]? = some u→Is w u (chnI n i)∧∀k,u.ownBlock=some k→B≤k∧k<w.heap.size∧ov.ownBlock≠some k
theorem zn6 {n B j g2 c2 m:Nat}{wr w2 w3:World}{oa:Option Addr}{oc:Nat}{v3:Value}{us:List Value}(ho:wr.ownsRow B 23 1 (.slice oa j oc) j us)(hl:us.length=j)(h1:∀u ∈ us,u.oneCell'=true)(hu:∀(i:Nat) u,us[i]? = some u→Is wr u (chnI n i)∧∀k,u.ownBlock=some k→B≤k∧k<wr.heap.size∧(Value.slice oa j oc).ownBlock≠some k)
 (k2:za zq2 wr w2) (hm:m=(chnI n j).length) (o2:w2.ownsRow wr.heap.size 3 1 (.slice (some ⟨g2,0,none⟩) m c2) m ((chnI n j).map iv)) (hB:B≤wr.heap.size)
 (h3:w3.ownsRow B 23 1 v3 (j+1) (us ++ [.slice (some ⟨g2,0,none⟩) m c2])) (hg:(w2.alloc (.cells #[.slice (some ⟨g2,0,none⟩) m c2] 23)).grownBy w3 (Value.slice oa j oc).ownBlock) (hp:v3.ownBlock=(Value.slice oa j oc).ownBlock∨v3.ownBlock=some (w2.alloc (.cells #[.slice (some ⟨g2,0,none⟩) m c2] 23)).heap.size) :
 OutI n B w3 v3 (j+1)∧za (fun k=>(Value.slice oa j oc).ownBlock=some k) wr w3:=by
 have kA:za zq2 wr (w2.alloc (.cells #[.slice (some ⟨g2,0,none⟩) m c2] 23)):=k2.trans1 ((za.refl _ _).alloc _);have kg:za (fun k=>(Value.slice oa j oc).ownBlock=some k) (w2.alloc (.cells #[.slice (some ⟨g2,0,none⟩) m c2] 23)) w3:=(za.refl _ _).grown hg (fun k e=>.inl e)
 have kk:=kA.ofNon.trans1 kg;have hlt2:=o2.lt g2 rfl;have hsz:(w2.alloc (.cells #[.slice (some ⟨g2,0,none⟩) m c2] 23)).heap.size=w2.heap.size+1:=by simp
 have hol:∀k,(Value.slice oa j oc).ownBlock=some k→k<wr.heap.size:=fun k e=>(ho.lt k e).2
 have kgs:=kg.size;have k2s:=k2.size;refine⟨⟨us ++ [.slice (some ⟨g2,0,none⟩) m c2],h3,by simp[hl],?_,?_⟩,kk⟩
 ·intro u hu'
  rcases List.mem_append.1 hu' with h|h
  ·exact h1 u h
  ·simp only[List.mem_singleton] at h;subst h;rfl
 ·intro i u hi
  rcases Nat.lt_or_ge i us.length with hlt|hge
  ·rw[List.getElem?_append_left hlt] at hi
   obtain⟨a,b⟩:=hu i u hi;refine⟨a.keep kk (fun k e x=>(b k e).2.2 x),fun k e=>?_⟩
   obtain⟨b1,b2,b3⟩:=b k e;refine⟨b1,by omega,fun x=>?_⟩
   rcases hp with hp|hp
   ·exact b3 (hp ▸ x)
   ·rw[hp] at x;have x':=Option.some.inj x;omega
  ·rw[List.getElem?_append_right hge] at hi
   have hi0:i-us.length=0:=by
    rcases Nat.eq_zero_or_pos (i-us.length) with e|e
    ·exact e
    ·rw[List.getElem?_eq_none (by simp;omega)] at hi;cases hi
   rw[hi0] at hi;simp only[List.getElem?_cons_zero,Option.some.injEq] at hi;subst hi;obtain rfl:i=j:=by omega
   have r2:Is w2 (.slice (some ⟨g2,0,none⟩) m c2) (chnI n i):=Rd.ofOwns o2;refine⟨(r2.keepNon ((za.refl _ _).alloc _)).keep kg (fun k e x=>?_),fun k e=>?_⟩
   ·have e':g2=k:=Option.some.inj e
    have:=hol k x;omega
   ·have e':g2=k:=Option.some.inj e
    refine⟨by omega,by omega,fun x=>?_⟩
    rcases hp with hp|hp
    ·rw[hp] at x;have:=hol k x;omega
    ·rw[hp] at x;have x':=Option.some.inj x;omega
theorem zmb (w:World)(v:Value)(t:TypeId):∀(j:Nat) u,[v][j]? = some u→(w.alloc (.cells #[v] t)).cell? ((⟨w.heap.size,0,none⟩:Addr).add j)=some u:=by
 intro j u hu;rw[zag,Nat.zero_add,cell_of_row _ _ j _ _ _ (ze _ _)];simpa using hu
theorem OutI.keep {n B j:Nat}{w w':World}{ov:Value}{S:Nat→Prop}(h:OutI n B w ov j)(k:za S w w')(hn:∀g,B≤g→¬S g):OutI n B w' ov j:=by
 obtain⟨us,o,h1,h2,h3⟩:=h;refine⟨us,zc o k (fun g e=>hn g (o.lt g e).1),h1,h2,fun i u hi=>?_⟩
 obtain⟨a,b⟩:=h3 i u hi;exact⟨a.keep k (fun g e=>hn g (b g e).1),fun g e=>⟨(b g e).1,k.lt (b g e).2.1,(b g e).2.2⟩⟩
theorem OutI.pr {B n:Nat}{w:World}{ov:Value}(h:OutI n B w ov (chN n))(h1:1≤n):PrAt (fun g=>B≤g∧g<w.heap.size) w ov n:=by
 obtain⟨us,o,hl,h2,h3⟩:=h;obtain⟨g,c,rfl,_⟩:=zcd o (zic h1);refine⟨g,us,c,rfl,hl,Rd.ofOwns o,⟨by rw[hl,zfR],fun i u l hu hc=>?_⟩,o.lt g rfl,fun v hv k e=>?_⟩
 ·have e:l=chnI n i:=by
   unfold chnI;rw[List.getD_eq_getElem?_getD,hc]
   rfl
  rw[e];exact(h3 i u hu).1
 ·obtain⟨i,hi,rfl⟩:=List.getElem_of_mem hv
  obtain⟨a,b⟩:=h3 i _ (List.getElem?_eq_getElem hi);exact⟨(b k e).1,(b k e).2.1⟩
theorem setNew {w w':World}(k:za zq2 w w')(b i:Nat)(v:Value)(hb:w.heap.size≤b):za zq2 w (w'.setCell ⟨b,i,none⟩ v) :=
 k.trans ((za.refl (zq3 b) w').setOne i v) (fun _ _ e=>e) (fun g hg e=>by have e':g=b:=e;omega)
theorem zjz (T:Nat→Prop)(e n:Nat)(cv:Value)(w:World)(h:PrAt T w cv n)(h1:1≤n)(h2:n≤3) :
 Calls Tryz.prog 44 #[.agg #[.int .i64 e,cv]] w fun r w'=>∃cv',r = .returned (.agg #[.int .i64 e,cv'])∧za zq2 w w'∧PrAt (fun g=>w.heap.size≤g∧g<w'.heap.size) w' cv' n:=by
 obtain⟨g,vs,c,rfl,hl,hr,hi,hg,ht⟩:=h;have hch:=zfQ h2;have HR:=zz0 hr;have HI:=zz0 hi;have e0:((w.alloc (PrB e (.slice (some ⟨g,0,none⟩) (chN n) c))).alloc (PrB 0 (.slice none 0 0))).heap[w.heap.size]? = some (PrB e (.slice (some ⟨g,0,none⟩) (chN n) c)):=zi (ze _ _) _;have b2:(((w.alloc (PrB e (.slice (some ⟨g,0,none⟩) (chN n) c))).alloc (PrB 0 (.slice none 0 0))).alloc (PrB e (.slice none 0 0))).heap[w.heap.size+1]? = some (PrB 0 (.slice none 0 0)):=zi (zao _ _ _) _;have b3:(((w.alloc (PrB e (.slice (some ⟨g,0,none⟩) (chN n) c))).alloc (PrB 0 (.slice none 0 0))).alloc (PrB e (.slice none 0 0))).heap[w.heap.size+1+1]? = some (PrB e (.slice none 0 0)):=by
  have:=zao (w.alloc (PrB e (.slice (some ⟨g,0,none⟩) (chN n) c))) (PrB 0 (.slice none 0 0)) (PrB e (.slice none 0 0))
  rwa [World.size_alloc] at this
 have kA:za zq2 w (((w.alloc (PrB e (.slice (some ⟨g,0,none⟩) (chN n) c))).alloc (PrB 0 (.slice none 0 0))).alloc (PrB e (.slice none 0 0))):=(((za.refl _ _).alloc _).alloc _).alloc _;have sA:w.heap.size+3≤(((w.alloc (PrB e (.slice (some ⟨g,0,none⟩) (chN n) c))).alloc (PrB 0 (.slice none 0 0))).alloc (PrB e (.slice none 0 0))).heap.size:=by simp
 have B2:=zz0 b2;have B3:=zz0 b3;have KA:=zz0 kA;have SA:=zz0 sA;obtain⟨i0,hi0,hz0,hz1,hz2⟩:=info_parts infoSlI;have I0:=zz0 (And.intro hi0 (And.intro hz0 (And.intro hz1 hz2)));clear hr hi e0 b2 b3 kA sA hi0 hz0 hz1 hz2
 go_enter Tryz.func44,Tryz.ntmps44
 go_wp2_with fail
 go_loopw [12] (fun i wr=>∃j:Nat,j≤chN n∧i = .int .i64 j∧za zq2 w wr∧wr.heap[w.heap.size+1]? = some (PrB 0 (.slice none 0 0))∧∃ov,wr.heap[w.heap.size+1+1]? = some (PrB e ov)∧OutI n (w.heap.size+3) wr ov j∧w.heap.size+3≤wr.heap.size) (fun i _=>chN n-(intOf i).toNat)
 case atStart=>exact⟨0,by omega,rfl,KA.out,B2.out,_,B3.out,⟨[],World.ownsRow_nil _ _ _ _,rfl,by simp,by simp⟩,SA.out⟩
 case round =>
  obtain⟨j,hj,rfl,k,hb2,ov,hb3,ho,hs⟩:=hrel;obtain⟨us,ho,hul,hu1,hu⟩:=ho;obtain⟨oa,oc,rfl,_,_⟩:=zb ho;have K:=zz0 k;have P2:=zz0 hb2;have P3:=zz0 hb3;have OO:=zz0 ho;have UU:=zz0 (And.intro hul (And.intro hu1 hu));have o1:=pr_1 hb3;have S:=zz0 hs;clear k hb2 hul hu1 hu;by_cases hlt:j<chN n
  ·have hlj:(j:Int)<(chN n:Int):=by omega
   have hr2:=HR.out.keepNon K.out;obtain⟨x,hx⟩:∃x,vs[j]? = some x:=⟨_,List.getElem?_eq_getElem (by omega)⟩
   have hxi:Is wr x (chnI n j):=(HI.out.2 j x (chnI n j) hx (zib hlt)).keepNon K.out;have hcell:wr.cell? ⟨g,j,none⟩=some x:=by
    obtain⟨a',c',e,hx'⟩:=hr2;injection e with e1 e2 e3
    obtain⟨g',off,e4,hc⟩:=hx' (by intro e;rw[e] at hl;simp at hl;omega)
    rw[←e1] at e4;injection e4 with e4
    injection e4 with e4 e5
    subst e4;subst e5;have:=hc j x hx
    rwa [Nat.zero_add] at this
   obtain⟨xa,xc,rfl,hxx⟩:=id hxi;obtain⟨xg,xo,rfl,_⟩:=hxx (by intro e;have:=(zeN hlt).1;rw[List.map_eq_nil_iff] at e;rw[e] at this;simp at this)
   obtain⟨m,hm⟩:∃m,m=(chnI n j).length:=⟨_,rfl⟩;have hm1:0<m:=by have:=(zeN hlt).1;omega
   have hm2:m≤2:=by have:=(zeN hlt).2;omega
   simp only[List.length_map] at hcell hxi;rw[←hm] at hcell hxi;have HM:=zz0 hm;have CL:=zz0 (zeS ⟨xg,xo,none⟩ xc (chnI n j) wr.drew (by rw[←hm];exact hxi) (by omega))
   have o1d:wr.drew.cell? ⟨w.heap.size+1+1,1,none⟩=some (.slice oa j oc):=o1;rw[←hm] at CL;have CL2:Hid (Calls Tryz.prog 87 #[.slice (some ⟨xg,xo,none⟩) m xc] wr.drew fun r w2=>∃g2 c2,r = .returned (.slice (some ⟨g2,0,none⟩) m c2)∧za zq2 wr w2∧w2.ownsRow wr.heap.size 3 1 (.slice (some ⟨g2,0,none⟩) m c2) m ((chnI n j).map iv)):=zz0 (by
    refine CL.out.mono ?_;rintro r w2 ⟨v2,rfl,k2,o2⟩;rw[←hm] at o2;obtain⟨g2,c2,rfl,_⟩:=zcd o2 hm1;exact⟨g2,c2,rfl,(za.refl zq2 wr).drew.trans1 k2,o2⟩)
   clear hxx hxi hr2 hb3 ho hx CL hm
   go_wp2_with fail
   go_region_law(first
    |(go_simp;(go_at_call 87;refine CL2.out.mono ?_;rintro r w2 ⟨g2,c2,rfl,k2,o2⟩;have p3:=k2.at P3.out (fun e=>e);have o2':=pr_1 p3;have o2a:=pr_1 (zi p3 (.cells #[.slice (some ⟨g2,0,none⟩) m c2] 23));have K2:=zz0 k2;have O2:=zz0 o2;clear k2 o2 p3))
    |(refine zl (by rfl) (.tmp 17) (.tmp 20) 61 (by rfl) (w.heap.size+3) 23 i0 (.slice none 0 0) 1 24 Tryz.underlying61 I0.out.1 I0.out.2.1 I0.out.2.2.1 I0.out.2.2.2 rfl (by decide) (.slice oa j oc) j us (by first|rfl|simp[Act.eval,Act.put]) (by exact zc OO.out (K2.out.trans1 ((za.refl zq2 w2).alloc _)) (fun _ _ e=>e)) ⟨w2.heap.size,0,none⟩ 1 1 [.slice (some ⟨g2,0,none⟩) m c2] (by first|rfl|simp[Act.eval,Act.put]) (by rfl) (by exact zmb w2 _ _) (by simp[Value.oneCell']) (by unfold maxLen;omega) (by omega) (by have:=K2.out.size;simp;omega) ?_;intro v3 w3 ho hg hpp;obtain⟨oj,kj⟩:=zn6 OO.out UU.out.1 UU.out.2.1 UU.out.2.2 K2.out HM.out O2.out S.out ho hg hpp;have hn3:∀k,(Value.slice oa j oc).ownBlock=some k→w.heap.size+3≤k:=(fun k e=>(OO.out.lt k e).1);have p2:=kj.at P2.out (fun e=>by have:=hn3 _ e;omega);have p3:=kj.at P3.out (fun e=>by have:=hn3 _ e;omega);obtain⟨oa3,oc3,rfl,_,_⟩:=zb ho;have i3:=pr_1 p3;have f3:=pr_f p3 1;have P2':=zz0 p2;have P3':=zz0 p3;have SIZ:=zz0 (Nat.le_trans S.out kj.size);have OJ:=zz0 oj;have KJ:=zz0 (K.out.trans kj (fun _ _ e=>e) (fun k hk e=>by have:=hn3 k e;omega));clear ho hg hpp oj kj hn3 p2 p3))
   all_goals go_wp2_with fail
   all_goals
    have k1:za (zq3 (w.heap.size+1+1)) w3 (w3.setCell ⟨w.heap.size+1+1,1,none⟩ (.slice oa3 (j+1) oc3)):=(za.refl _ _).setOne _ _;exact⟨⟨j+1,by omega,by first|rfl|go_num,setNew KJ.out _ _ _ (by omega),k1.at P2'.out (fun e=>by have e':w.heap.size+1=w.heap.size+1+1:=e;omega),_,zfn P3'.out _,OJ.out.keep k1 (fun g hg e=>by have e':g=w.heap.size+1+1:=e;omega),by have:=k1.size;have:=OJ.out;have:=KJ.out.size;have:=lt_of_block P3'.out;rcases OJ.out with ⟨us',o',l',_⟩;have:=SIZ.out;omega⟩,by simp[intOf];omega⟩
  ·obtain hjn:j=chN n:=by omega
   subst hjn;have o0:=pr_0 hb3;have r0:=pr_0 P2.out;have r1:=pr_1 P2.out;have rf0:=pr_f P2.out 0;have rf1:=pr_f P2.out 1;have q0:=pr_0 (zfn (zgT P2.out e) (.slice oa (chN n) oc));have q1:=pr_1 (zfn (zgT P2.out e) (.slice oa (chN n) oc));clear hb3 ho
   go_wp2_with fail
   refine bodyPost_ret (v:=.agg #[.int .i64 e,.slice oa (chN n) oc]) (by simp[results,Tryz.results44,go_sem,q0,q1]) rfl ?_
   have k1:za (zq3 (w.heap.size+1)) wr ((wr.setCell ⟨w.heap.size+1,0,none⟩ (.int .i64 e)).setCell ⟨w.heap.size+1,1,none⟩ (.slice oa (chN n) oc)):=((za.refl _ _).setOne _ _).trans1 ((za.refl _ _).setOne _ _);have O:=OutI.pr (OutI.keep (⟨us,OO.out,UU.out⟩:OutI n (w.heap.size+3) wr (.slice oa (chN n) oc) (chN n)) k1 (fun g hg e=>by have e':g=w.heap.size+1:=e;omega)) h1
   obtain⟨g',vs',c',e1,e2,e3,e4,e5,e6⟩:=O;exact⟨_,rfl,setNew (setNew K.out _ _ _ (by omega)) _ _ _ (by omega),g',vs',c',e1,e2,e3,e4,⟨by omega,e5.2⟩,fun v hv k e=>⟨by have:=(e6 v hv k e).1;omega,(e6 v hv k e).2⟩⟩
def SqB (ep nx:Int):Obj:=.cells #[.int .i64 ep,.int .i64 nx] 168 (0,0)
section
variable {w : World} {b : Nat} {ep nx : Int}
theorem sq0 (h:w.heap[b]? = some (SqB ep nx)):w.cell? ⟨b,0,none⟩=some (.int .i64 ep):=by simp[World.cell?,h,SqB]
theorem sq1 (h:w.heap[b]? = some (SqB ep nx)):w.cell? ⟨b,1,none⟩=some (.int .i64 nx):=by simp[World.cell?,h,SqB]
theorem sqf (h:w.heap[b]? = some (SqB ep nx))(i:Nat):w.frozen? ⟨b,i,none⟩=false:=by simp[World.frozen?,h,SqB]
end
theorem zev (b i:Nat)(v:Int)(w:World)(h:w.cell? ⟨b,i,none⟩=some (.int .i64 v)) :
 Calls Tryz.prog 82 #[.pointer (some ⟨b,i,none⟩)] w fun e w'=>e = .returned (.int .i64 v)∧w=w':=by
 have hl:=run_call_load (P:=Tryz.prog) Tryz.func136 (by kernel_rfl) (by kernel_rfl) (by kernel_rfl) .i64 (by kernel_rfl) h
 go_enter Tryz.func82,Tryz.ntmps82
 go_wp2
 go_ret;exact⟨rfl,rfl⟩
theorem zhY (b i:Nat)(v y:Int)(w:World)(h:w.cell? ⟨b,i,none⟩=some (.int .i64 v))(hf:w.frozen? ⟨b,i,none⟩=false) :
 Calls Tryz.prog 92 #[.pointer (some ⟨b,i,none⟩),.int .i64 y] w fun e w'=>e = .returned (.tuple #[])∧w'=w.setCell ⟨b,i,none⟩ (.int .i64 y):=by
 have hl:=run_call_store (P:=Tryz.prog) Tryz.func148 (by kernel_rfl) (by kernel_rfl) (by kernel_rfl) (by kernel_rfl) (k:=.i64) (y:=y) h hf
 go_enter Tryz.func92,Tryz.ntmps92
 go_wp2
 go_end0
 exact⟨rfl,rfl⟩
theorem zpg (b i:Nat)(v y:Int)(w:World)(h:w.cell? ⟨b,i,none⟩=some (.int .i64 v))(hf:w.frozen? ⟨b,i,none⟩=false) :
 Calls Tryz.prog 111 #[.pointer (some ⟨b,i,none⟩),.int .i64 v,.int .i64 y] w fun e w'=>e = .returned (.bool true)∧w'=w.setCell ⟨b,i,none⟩ (.int .i64 y):=by
 have hl:=run_call_cas_hit (P:=Tryz.prog) Tryz.func174 (by kernel_rfl) (by kernel_rfl) (by kernel_rfl) .i64 (by kernel_rfl) (y:=y) h hf
 go_enter Tryz.func111,Tryz.ntmps111
 go_wp2
 go_ret;exact⟨rfl,rfl⟩
theorem zo2 (x most:Int)(w:World) :
 Calls Tryz.prog 90 #[.int .i64 x,.int .i64 most] w fun e w'=>e = .returned (.bool (fitB 0 most x))∧w=w':=by
 by_cases h:0≤x
 ·by_cases h2:x≤most
  ·rw[zpy h h2]
   go_enter Tryz.func90,Tryz.ntmps90
   go_wp2
   go_ret;exact⟨zjE (by simp),rfl⟩
  ·rw[zlE (by omega)]
   go_enter Tryz.func90,Tryz.ntmps90
   go_wp2
   go_ret;exact⟨zjE (by simp),rfl⟩
 ·rw[zlE (by omega)]
  go_enter Tryz.func90,Tryz.ntmps90
  go_wp2
  go_ret;exact⟨rfl,rfl⟩
theorem zcY (b:Nat)(ep nx:Int)(w:World)(h:w.heap[b]? = some (SqB ep nx)) :
 Calls Tryz.prog 91 #[.pointer (some ⟨b,0,none⟩)] w fun e w'=>e = .returned (.int .i64 ep)∧w=w':=by
 have h0:=sq0 h;clear h
 go_enter Tryz.func91,Tryz.ntmps91
 go_wp2_with(go_at_call 82;go_must (refine(zev b 0 ep _ h0).mono ?_);rintro e w' ⟨rfl,rfl⟩)
 go_ret;exact⟨rfl,rfl⟩
theorem zi4 (b:Nat)(ep nx x:Int)(f:Bool)(w:World)(h:w.heap[b]? = some (SqB ep nx)) :
 Calls Tryz.prog 81 #[.pointer (some ⟨b,0,none⟩),.int .i64 x,.bool f] w fun e w'=>e = .returned (zbU (zcA ep x f))∧w=w':=by
 have H:=zz0 h;clear h;cases f
 ·go_enter Tryz.func81,Tryz.ntmps81
  go_wp2
  go_ret;exact⟨rfl,rfl⟩
 ·by_cases h1:x<ep
  ·have e1:zcA ep x true=6:=by simp[zcA,askE,h1]
   rw[e1];clear e1
   go_enter Tryz.func81,Tryz.ntmps81
   go_wp2_with(go_at_call 91;go_must (refine(zcY b ep nx _ H.out).mono ?_);rintro e w' ⟨rfl,rfl⟩)
   go_ret;exact⟨rfl,rfl⟩
  ·by_cases h2:ep<x
   ·have e1:zcA ep x true=7:=by simp[zcA,askE,h1,h2]
    rw[e1];clear e1
    go_enter Tryz.func81,Tryz.ntmps81
    go_wp2_with(go_at_call 91;go_must (refine(zcY b ep nx _ H.out).mono ?_);rintro e w' ⟨rfl,rfl⟩)
    go_ret;exact⟨rfl,rfl⟩
   ·have e1:zcA ep x true=0:=by simp[zcA,askE,h1,h2]
    rw[e1];clear e1
    go_enter Tryz.func81,Tryz.ntmps81
    go_wp2_with(go_at_call 91;go_must (refine(zcY b ep nx _ H.out).mono ?_);rintro e w' ⟨rfl,rfl⟩)
    go_ret;exact⟨rfl,rfl⟩
theorem zeI (b:Nat)(ep nx x:Int)(f:Bool)(w:World)(h:w.heap[b]? = some (SqB ep nx))(he:zcA ep x f=0) :
 Calls Tryz.prog 81 #[.pointer (some ⟨b,0,none⟩),.int .i64 x,.bool f] w fun e w'=>e = .returned .nilIface∧w=w':=by
 have:=zi4 b ep nx x f w h;rw[he] at this;exact this
theorem zeH (b:Nat)(ep nx x:Int)(f:Bool)(w:World)(h:w.heap[b]? = some (SqB ep nx))(he:zcA ep x f≠0) :
 Calls Tryz.prog 81 #[.pointer (some ⟨b,0,none⟩),.int .i64 x,.bool f] w fun e w'=>e = .returned (.iface 89 (.int .i64 (zcA ep x f)))∧w=w':=by
 have:=zi4 b ep nx x f w h;rw[zgv he] at this;exact this
theorem zpK (w:World) :
 Calls Tryz.prog 45 #[] w fun e w'=>e = .returned (.pointer (some ⟨w.heap.size,0,none⟩))∧w'=w.alloc (SqB 0 0):=by
 go_enter Tryz.func45,Tryz.ntmps45
 go_wp2
 go_ret;exact⟨rfl,rfl⟩
theorem zpL (w:World) :
 Calls Tryz.prog 45 #[] w fun e w'=>∃b,e = .returned (.pointer (some ⟨b,0,none⟩))∧w.heap.size≤b∧za zq2 w w'∧w'.heap[b]? = some (SqB 0 0):=by
 refine(zpK w).mono ?_;rintro e w' ⟨rfl,rfl⟩;exact⟨_,rfl,Nat.le_refl _,(za.refl _ _).alloc _,ze _ _⟩
theorem zoB (b:Nat)(ep nx x:Int)(w:World)(h:w.heap[b]? = some (SqB ep nx)) :
 Calls Tryz.prog 42 #[.pointer (some ⟨b,0,none⟩),.int .i64 x] w fun e w'=>e = .returned (.tuple #[.int .i64 (tailV ep nx x),zbU (askE ep x)])∧w=w':=by
 have H:=zz0 h;have h1:=sq1 h;clear h;by_cases ha:askE ep x=0
 ·have e2:tailV ep nx x=nx:=by simp[tailV,ha]
  rw[ha,e2];have AZ:Hid (zcA ep x true=0):=ha;clear e2 ha
  go_enter Tryz.func42,Tryz.ntmps42
  go_wp2_with(first|(go_at_call 81;go_must (refine(zeI b ep nx x true _ H.out AZ.out).mono ?_);rintro e w' ⟨rfl,rfl⟩)|(go_at_call 82;go_must (refine(zev b 1 nx _ h1).mono ?_);rintro e w' ⟨rfl,rfl⟩))
  go_ret2;exact⟨rfl,rfl⟩
 ·have e2:tailV ep nx x=0:=by simp[tailV,ha]
  rw[zgv ha,e2];have AZ:Hid (zcA ep x true≠0):=ha;have hq:askE ep x=zcA ep x true:=rfl;rw[hq];clear e2 ha hq
  go_enter Tryz.func42,Tryz.ntmps42
  go_wp2_with(go_at_call 81;go_must (refine(zeH b ep nx x true _ H.out AZ.out).mono ?_);rintro e w' ⟨rfl,rfl⟩)
  go_ret2;exact⟨rfl,rfl⟩
theorem zeh (x most:Int)(w:World)(h:fitB 0 most x=true):Calls Tryz.prog 90 #[.int .i64 x,.int .i64 most] w fun e w'=>e = .returned (.bool true)∧w=w':=by
 have:=zo2 x most w;rw[h] at this;exact this
theorem in_no (x most:Int)(w:World)(h:fitB 0 most x=false):Calls Tryz.prog 90 #[.int .i64 x,.int .i64 most] w fun e w'=>e = .returned (.bool false)∧w=w':=by
 have:=zo2 x most w;rw[h] at this;exact this
theorem zmo (b:Nat)(ep nx x n:Int)(w:World)(h:w.heap[b]? = some (SqB ep nx))(hi:SqIn ep nx) :
 Calls Tryz.prog 60 #[.pointer (some ⟨b,0,none⟩),.int .i64 x,.int .i64 n] w fun e w'=>e = .returned (zbU (raiseE ep x n))∧za (zq3 b) w w'∧w'.heap[b]? = some (SqB ep (raiseN ep nx x n)):=by
 have H:=zz0 h;have h1:=sq1 h;have f1:=sqf h 1;clear h;obtain⟨i0,i1,i2,i3⟩:=hi;cases hf:fitB 0 1048576 n
 ·have e1:raiseE ep x n=1:=by simp[raiseE,zcA,hf]
  have e3:raiseN ep nx x n=nx:=by simp[raiseN,e1]
  have AZ:Hid (zcA ep x false≠0):=(by decide:(1:Int)≠0)
  rw[e1,e3];have HF:=zz0 hf;clear e1 e3 hf
  go_enter Tryz.func60,Tryz.ntmps60
  go_wp2_with fail
  refine(in_no _ _ _ HF.out).mono ?_;rintro e w' ⟨rfl,rfl⟩
  go_wp2_with fail
  refine(zeH b ep nx x false _ H.out AZ.out).mono ?_;rintro e w' ⟨rfl,rfl⟩
  go_wp2_with fail
  go_ret;exact⟨rfl,za.refl _ _,H.out⟩
 ·obtain⟨n0,n1⟩:=zlF hf
  have HF:=zz0 hf;have hq:raiseE ep x n=zcA ep x true:=by simp[raiseE,hf]
  by_cases ha:zcA ep x true=0
  ·have AZ:=zz0 ha
   by_cases hr:nx<n
   ·have e3:raiseN ep nx x n=n:=by simp[raiseN,hq,ha,hr]
    rw[hq,ha,e3];clear e3 ha hq hf
    go_enter Tryz.func60,Tryz.ntmps60
    go_wp2_with fail
    refine(zeh _ _ _ HF.out).mono ?_;rintro e w' ⟨rfl,rfl⟩
    go_wp2_with fail
    refine(zeI b ep nx x true _ H.out AZ.out).mono ?_;rintro e w' ⟨rfl,rfl⟩
    go_wp2_with fail
    refine wp_loop_rounds 1 ?_;rw[rounds_succ]
    go_wp2_with(first|(go_at_call 82;go_must (refine(zev b 1 nx _ h1).mono ?_);rintro e w' ⟨rfl,rfl⟩)|(go_at_call 111;go_must (refine(zpg b 1 nx _ _ h1 f1).mono ?_);rintro e w' ⟨rfl,rfl⟩))
    go_ret;exact⟨rfl,(za.refl _ _).setOne _ _,zj H.out 1 _⟩
   ·have e3:raiseN ep nx x n=nx:=by simp[raiseN,hq,ha,hr]
    rw[hq,ha,e3];clear e3 ha hq hf
    go_enter Tryz.func60,Tryz.ntmps60
    go_wp2_with fail
    refine(zeh _ _ _ HF.out).mono ?_;rintro e w' ⟨rfl,rfl⟩
    go_wp2_with fail
    refine(zeI b ep nx x true _ H.out AZ.out).mono ?_;rintro e w' ⟨rfl,rfl⟩
    go_wp2_with fail
    refine wp_loop_rounds 1 ?_;rw[rounds_succ]
    go_wp2_with(go_at_call 82;go_must (refine(zev b 1 nx _ h1).mono ?_);rintro e w' ⟨rfl,rfl⟩)
    go_ret;exact⟨rfl,za.refl _ _,H.out⟩
  ·have AZ:=zz0 ha
   have e3:raiseN ep nx x n=nx:=by simp[raiseN,hq,ha]
   rw[hq,zgv ha,e3];clear e3 ha hq hf
   go_enter Tryz.func60,Tryz.ntmps60
   go_wp2_with fail
   refine(zeh _ _ _ HF.out).mono ?_;rintro e w' ⟨rfl,rfl⟩
   go_wp2_with fail
   refine(zeH b ep nx x true _ H.out AZ.out).mono ?_;rintro e w' ⟨rfl,rfl⟩
   go_wp2_with fail
   go_ret;exact⟨rfl,za.refl _ _,H.out⟩
theorem zmB (b:Nat)(ep nx x n:Int)(w:World)(h:w.heap[b]? = some (SqB ep nx))(hi:SqIn ep nx) :
 Calls Tryz.prog 47 #[.pointer (some ⟨b,0,none⟩),.int .i64 x,.int .i64 n] w fun e w'=>e = .returned (zbU (setE ep x n))∧za (zq3 b) w w'∧w'.heap[b]? = some (SqB (setP ep x n) (setN ep nx x n)):=by
 have H:=zz0 h;have h0:=sq0 h;have h1:=sq1 h;have f0:=sqf h 0;have f1:=sqf h 1;clear h;obtain⟨i0,i1,i2,i3⟩:=hi;cases hx:fitB 0 1099511627776 x
 ·have e1:setE ep x n=1:=by simp[setE,hx]
  have e2:setP ep x n=ep:=by simp[setP,e1]
  have e3:setN ep nx x n=nx:=by simp[setN,e1]
  rw[e1,e2,e3];have HX:=zz0 hx;clear e1 e2 e3 hx
  go_enter Tryz.func47,Tryz.ntmps47
  go_wp2_with(go_at_call 90;go_must (refine(in_no _ _ _ HX.out).mono ?_);rintro e w' ⟨rfl,rfl⟩)
  go_ret;exact⟨rfl,za.refl _ _,H.out⟩
 ·cases hn:fitB 0 1048576 n
  ·have e1:setE ep x n=1:=by simp[setE,hn]
   have e2:setP ep x n=ep:=by simp[setP,e1]
   have e3:setN ep nx x n=nx:=by simp[setN,e1]
   rw[e1,e2,e3];have HX:=zz0 hx;have HN:=zz0 hn;clear e1 e2 e3 hx hn
   go_enter Tryz.func47,Tryz.ntmps47
   go_wp2_with fail
   refine(zeh _ _ _ HX.out).mono ?_;rintro e w' ⟨rfl,rfl⟩
   go_wp2_with fail
   refine(in_no _ _ _ HN.out).mono ?_;rintro e w' ⟨rfl,rfl⟩
   go_wp2_with fail
   go_ret;exact⟨rfl,za.refl _ _,H.out⟩
  ·have HX:=zz0 hx
   have HN:=zz0 hn;by_cases hl:x≤ep
   ·have e1:setE ep x n=6:=by simp[setE,hx,hn,hl]
    have e2:setP ep x n=ep:=by simp[setP,e1]
    have e3:setN ep nx x n=nx:=by simp[setN,e1]
    rw[e1,e2,e3];clear e1 e2 e3 hx hn
    go_enter Tryz.func47,Tryz.ntmps47
    go_wp2_with fail
    refine(zeh _ _ _ HX.out).mono ?_;rintro e w' ⟨rfl,rfl⟩
    go_wp2_with fail
    refine(zeh _ _ _ HN.out).mono ?_;rintro e w' ⟨rfl,rfl⟩
    go_wp2_with fail
    refine(zcY b ep nx _ H.out).mono ?_;rintro e w' ⟨rfl,rfl⟩
    go_wp2_with fail
    go_ret;exact⟨rfl,za.refl _ _,H.out⟩
   ·have e1:setE ep x n=0:=by simp[setE,hx,hn,hl]
    have e2:setP ep x n=x:=by simp[setP,e1]
    have e3:setN ep nx x n=n:=by simp[setN,e1]
    rw[e1,e2,e3];clear e1 e2 e3 hx hn
    go_enter Tryz.func47,Tryz.ntmps47
    go_wp2_with fail
    refine(zeh _ _ _ HX.out).mono ?_;rintro e w' ⟨rfl,rfl⟩
    go_wp2_with fail
    refine(zeh _ _ _ HN.out).mono ?_;rintro e w' ⟨rfl,rfl⟩
    go_wp2_with fail
    refine(zcY b ep nx _ H.out).mono ?_;rintro e w' ⟨rfl,rfl⟩
    go_wp2_with fail
    refine(zhY b 0 ep x _ h0 f0).mono ?_;rintro e w' ⟨rfl,rfl⟩;have g:=zj H.out 0 (.int .i64 x);have h1':=sq1 (ep:=x) (nx:=nx) (by exact g)
    have f1':=sqf (ep:=x) (nx:=nx) (by exact g) 1
    clear g
    go_wp2_with fail
    refine(zhY b 1 nx n _ h1' f1').mono ?_;rintro e w' ⟨rfl,rfl⟩
    go_wp2_with fail
    go_ret;exact⟨rfl,((za.refl _ _).setOne _ _).setOne _ _,zj (zj H.out 0 _) 1 _⟩
end Go.Proofs.YtpojgmeoaflmoaaGreatDoor
