/- Shelves in memory; their small functions -/
import Derived.Test.YtpojgmeoaflmoaaGreatDoorQ17
import Derived.Test.YtpojgmeoaflmoaaGreatDoorQ18
import Derived.Test.YtpojgmeoaflmoaaGreatDoorQ23
import Derived.Test.YtpojgmeoaflmoaaGreatDoorQ25
set_option linter.unusedVariables false
set_option maxRecDepth 100000
set_option maxHeartbeats 16000000
namespace Go.Proofs.YtpojgmeoaflmoaaGreatDoor
open Go.RowKit Go.Maps
def ShB (q u n:Nat):Obj:=.cells #[.pointer (some ⟨q,0,none⟩),.pointer (some ⟨u,0,none⟩),.int .i64 n,.bool false] 207 (0,0)
section
variable {w : World} {b q u n : Nat}
theorem sh_0 (h:w.heap[b]? = some (ShB q u n)):w.cell? ⟨b,0,none⟩=some (.pointer (some ⟨q,0,none⟩)):=by simp[World.cell?,h,ShB]
theorem sh_1 (h:w.heap[b]? = some (ShB q u n)):w.cell? ⟨b,1,none⟩=some (.pointer (some ⟨u,0,none⟩)):=by simp[World.cell?,h,ShB]
theorem sh_2 (h:w.heap[b]? = some (ShB q u n)):w.cell? ⟨b,2,none⟩=some (.int .i64 n):=by simp[World.cell?,h,ShB]
theorem sh_3 (h:w.heap[b]? = some (ShB q u n)):w.cell? ⟨b,3,none⟩=some (.bool false):=by simp[World.cell?,h,ShB]
theorem sh_f (h:w.heap[b]? = some (ShB q u n))(i:Nat):w.frozen? ⟨b,i,none⟩=false:=by simp[World.frozen?,h,ShB]
theorem ziN (h:w.heap[b]? = some (ShB q u n))(k:Nat):(w.setCell ⟨b,1,none⟩ (.pointer (some ⟨k,0,none⟩))).heap[b]? = some (ShB q k n):=zj h 1 _
theorem zqf (h:w.heap[b]? = some (ShB q u n))(k:Nat):(w.setCell ⟨b,2,none⟩ (.int .i64 k)).heap[b]? = some (ShB q u k):=zj h 2 _
end
structure Sh where
 X:Dk
 e:Nat
 l:Nat
 D:Un
 next:Nat
structure ShIn (F FS FU:Nat→Prop)(w:World)(p dp q u:Nat)(s:Sh):Prop where
 blk:w.heap[p]? = some (ShB q u s.next)
 store:zk FS w q dp s.X
 unit:zcn FU w u s.e s.l s.D
 inF:F p
 inS:∀g,FS g→F g∧g≠p
 inU:∀g,FU g→F g∧g≠p
 apart:∀g,FS g→¬FU g
 low:∀g,F g→g<w.heap.size
def ShAt (F:Nat→Prop)(w:World)(p dp:Nat)(s:Sh):Prop:=∃FS FU q u,ShIn F FS FU w p dp q u s
def ShTo (F:Nat→Prop)(w:World)(p dp:Nat)(s:Sh)(w':World):Prop:=za F w w'∧∃F',zq5 F' F w∧ShAt F' w' p dp s
theorem ShIn.keep {F FS FU S:Nat→Prop}{w w':World}{p dp q u:Nat}{s:Sh}(h:ShIn F FS FU w p dp q u s)(k:za S w w')(hn:∀g,F g→¬S g):ShIn F FS FU w' p dp q u s :=
 ⟨k.at h.blk (hn _ h.inF),h.store.keep k (fun g e=>hn g (h.inS g e).1),h.unit.keep k (fun g e=>hn g (h.inU g e).1),h.inF,h.inS,h.inU,h.apart,fun g e=>k.lt (h.low g e)⟩
theorem ShAt.keep {F S:Nat→Prop}{w w':World}{p dp:Nat}{s:Sh}(h:ShAt F w p dp s)(k:za S w w')(hn:∀g,F g→¬S g):ShAt F w' p dp s:=by
 obtain⟨FS,FU,q,u,h⟩:=h;exact⟨FS,FU,q,u,h.keep k hn⟩
theorem ShAt.keepNon {F:Nat→Prop}{w w':World}{p dp:Nat}{s:Sh}(h:ShAt F w p dp s)(k:za zq2 w w'):ShAt F w' p dp s:=h.keep k (fun _ _ e=>e)
theorem ShAt.low {F:Nat→Prop}{w:World}{p dp:Nat}{s:Sh}(h:ShAt F w p dp s):∀g,F g→g<w.heap.size:=by
 obtain⟨FS,FU,q,u,h⟩:=h;exact h.low
theorem zcn.low {F:Nat→Prop}{w:World}{b e l:Nat}{D:Un}(h:zcn F w b e l D):zcn (fun g=>F g∧g<w.heap.size) w b e l D:=by
 obtain⟨T,m,h⟩:=h;exact⟨T,m,h.blk,h.cells,⟨⟨h.inF.1,lt_of_block h.blk⟩,⟨h.inF.2.1,zF.lt h.cells⟩,fun g e=>⟨h.inF.2.2 g e,h.outT.2.2 g e⟩⟩,h.apart,h.outT,h.ep,h.lo,h.keys⟩
theorem zgf {F:Nat→Prop}{p dp:Nat}{s:Sh}(w:World)(h:ShAt F w p dp s) :
 Calls Tryz.prog 142 #[.pointer (some ⟨p,0,none⟩)] w fun r w'=>r = .returned .nilIface∧w'=w:=by
 obtain⟨FS,FU,q,u,h⟩:=h;have c3:=sh_3 h.blk;clear h
 go_enter Tryz.func142,Tryz.ntmps142
 go_wp2_with fail
 go_ret;exact⟨rfl,rfl⟩
theorem ziO {F:Nat→Prop}{p dp:Nat}{s:Sh}(w:World)(h:ShAt F w p dp s) :
 Calls Tryz.prog 301 #[.pointer (some ⟨p,0,none⟩)] w fun r w'=>r = .returned (.bool false)∧w'=w:=by
 obtain⟨FS,FU,q,u,h⟩:=h;have c3:=sh_3 h.blk;clear h
 go_enter Tryz.func301,Tryz.ntmps301
 go_wp2_with fail
 go_ret;exact⟨rfl,rfl⟩
theorem zkG {F:Nat→Prop}{p dp:Nat}{s:Sh}(w:World)(h:ShAt F w p dp s) :
 Calls Tryz.prog 302 #[.pointer (some ⟨p,0,none⟩)] w fun r w'=>r = .returned (.int .i64 s.e)∧w'=w:=by
 obtain⟨FS,FU,q,u,h⟩:=h;have c1:=sh_1 h.blk;have EP:=zz0 (zkU FU u s.e s.l s.D w h.unit);clear h
 go_enter Tryz.func302,Tryz.ntmps302
 go_wp2_with(go_at_call 331;refine EP.out.mono ?_;rintro r w1 ⟨rfl,e1⟩;subst e1)
 go_ret;exact⟨rfl,rfl⟩
theorem zhU {F:Nat→Prop}{p dp:Nat}{s:Sh}(w:World)(h:ShAt F w p dp s) :
 Calls Tryz.prog 177 #[.pointer (some ⟨p,0,none⟩)] w fun r w'=>∃b',r = .returned (.pointer (some ⟨b',0,none⟩))∧za zq2 w w'∧zcn (fun g=>F g∨(w.heap.size≤g∧g<w'.heap.size)) w' b' s.e s.l s.D:=by
 obtain⟨FS,FU,q,u,h⟩:=h;have c1:=sh_1 h.blk;have EP:=zz0 (zh5 FU u s.e s.l s.D w h.unit (fun g e=>h.low g (h.inU g e).1))
 have IU:=zz0 h.inU;clear h
 go_enter Tryz.func177,Tryz.ntmps177
 go_wp2_with(go_at_call 143;refine EP.out.mono ?_;rintro r w1 ⟨b',rfl,k1,_,u1⟩;have K1:=zz0 k1;have U1:=zz0 u1;clear k1 u1)
 go_ret;exact⟨_,rfl,K1.out,U1.out.mono (fun g e=>by rcases e with e|e;exact .inl (IU.out g e).1;exact .inr e)⟩
theorem zoq (q p:Nat)(w:World)(h:w.heap[q]? = some (StB p)) :
 Calls Tryz.prog 188 #[.pointer (some ⟨q,0,none⟩)] w fun r w'=>r = .returned (.pointer (some ⟨p,0,none⟩))∧w'=w:=by
 have c0:=st_0 h;clear h
 go_enter Tryz.func188,Tryz.ntmps188
 go_wp2_with fail
 go_ret;exact⟨rfl,rfl⟩
theorem zkH {F:Nat→Prop}{p dp:Nat}{s:Sh}(w:World)(h:ShAt F w p dp s)(hd:s.X.down=false) :
 Calls Tryz.prog 123 #[.pointer (some ⟨p,0,none⟩)] w fun r w'=>r = .returned .nilIface∧w'=w:=by
 have WK:=zz0 (zgf w h);obtain⟨FS,FU,q,u,h⟩:=h;have c0:=sh_0 h.blk;have SD:=zz0 (zoq q dp w h.store.blk);obtain⟨G,dg,_⟩:=h.store.disk;have DW:=zeY G dp s.X w dg;rw[hd] at DW;have DN:=zz0 DW;clear h dg DW
 go_enter Tryz.func123,Tryz.ntmps123
 go_wp2_with(first
  |(go_at_call 142;refine WK.out.mono ?_;rintro r w1 ⟨rfl,e1⟩;subst e1)
  |(go_at_call 188;refine SD.out.mono ?_;rintro r w1 ⟨rfl,e1⟩;subst e1)
  |(go_at_call 31;refine DN.out.mono ?_;rintro r w1 ⟨rfl,e1⟩;subst e1))
 go_ret;exact⟨rfl,rfl⟩
theorem zmF {F:Nat→Prop}{p dp a:Nat}{s:Sh}(w:World)(h:ShAt F w p dp s)(hd:s.X.down=false)(ha:a≤1048575)(hx:(uat s.l s.D a).2.length≤100000000) :
 Calls Tryz.prog 72 #[.pointer (some ⟨p,0,none⟩),.int .i64 s.e,.int .i64 a] w fun r w'=>∃v,r = .returned (.tuple #[.agg #[.int .i64 (uat s.l s.D a).1,v],.nilIface])∧za zq2 w w'∧w'.ownsRow w.heap.size 5 1 v (uat s.l s.D a).2.length ((uat s.l s.D a).2.map bv):=by
 have LK:=zz0 (fun W (k:za zq2 w W)=>zkH W (h.keepNon k) hd)
 obtain⟨FS,FU,q,u,h⟩:=h;have RD:=zz0 (fun W (k:za zq2 w W)=>zm2 FU u s.e s.l a s.D W (h.unit.keepNon k) ha hx)
 have B:=zz0 h.blk;clear h;generalize uat s.l s.D a=x at *;obtain⟨kx,lx⟩:=x;dsimp only at hx RD ⊢;have kA:za zq2 w (w.alloc (zqZ 0 (.slice none 0 0))):=(za.refl _ _).alloc _;have BA:=zz0 (ze w (zqZ 0 (.slice none 0 0)));have c1:=sh_1 (zh kA B.out);have LKA:=zz0 (LK.out _ kA);have RDA:=zz0 (RD.out _ kA);have KA:=zz0 kA;unfold zqZ at c1;dsimp only[zqZ] at LKA RDA;clear kA LK RD
 go_enter Tryz.func72,Tryz.ntmps72
 go_wp2_with(first
  |(go_at_call 123;refine LKA.out.mono ?_;rintro r w1 ⟨rfl,rfl⟩)
  |(go_at_call 124;refine RDA.out.mono ?_;rintro r w2 ⟨v2,rfl,k2,o2⟩;obtain⟨a2,c2,rfl,_,_⟩:=zb o2;have b2:=zh k2 BA.out;have d0:=cl0 b2;have d1:=cl1 b2;have f0:=clf b2 0;have f1:=clf b2 1;have q0:=cl0 (zbG (za1 b2 kx) (.slice a2 lx.length c2));have q1:=cl1 (zbG (za1 b2 kx) (.slice a2 lx.length c2));have K2:=zz0 (KA.out.trans1 k2);have O2:=zz0 o2;clear k2 o2 b2))
 refine bodyPost_ret (v:=.tuple #[.agg #[.int .i64 kx,.slice a2 lx.length c2],.nilIface]) (by simp[results,Tryz.results72,go_sem,q0,q1]) rfl ?_
 have k3:za (zq3 w.heap.size) w2 ((w2.setCell ⟨w.heap.size,0,none⟩ (.int .i64 kx)).setCell ⟨w.heap.size,1,none⟩ (.slice a2 lx.length c2)):=((za.refl _ _).setOne _ _).setOne _ _;have o2:=O2.out;rw[World.size_alloc] at o2;exact⟨_,rfl,K2.out.trans k3 (fun _ _ e=>e) (fun g hg e=>by have e':g=w.heap.size:=e;omega),zg (zc o2 k3 (fun g hg e=>by have e':g=w.heap.size:=e;have:=(o2.lt g hg).1;omega)) (by omega)⟩
def Sh.did (s:Sh)(by':zqY)(e l:Nat)(D:Un):Sh:=⟨(s.X.sput (zb3 114 s.next) by').2,e,l,D,s.next+1⟩
theorem zkF {F FS FU FU' FS':Nat→Prop}{w w3 w5 w7:World}{p dp q u b:Nat}{s:Sh}{by':zqY}{e l:Nat}{D:Un}(h:ShIn F FS FU w p dp q u s)(k3:za (fun g=>FU g∨w.heap.size≤g) w w3)(u3:zcn FU' w3 b e l D)(s3:∀g,FU' g→FU g∨w.heap.size≤g)(k35:za zq2 w3 w5)(k56:za FS w5 w7)(sf:zq5 FS' FS w5)(st:zk FS' w7 q dp (s.X.sput (zb3 114 s.next) by').2)(hb:w7.heap[p]? = some (ShB q u s.next)) :
 ShTo F w p dp (s.did by' e l D) ((w7.setCell ⟨p,1,none⟩ (.pointer (some ⟨b,0,none⟩))).setCell ⟨p,2,none⟩ (.int .i64 (s.next+1:Nat))):=by
 have hp:=lt_of_block h.blk;have k37:za FS w3 w7:=(k35.ofNon).trans1 k56;have u3l:=u3.low;have u7:=u3l.keep k37 (fun g e x=>by rcases s3 g e.1 with y|y;exact h.apart g x y;have:=h.low g (h.inS g x).1;omega)
 have kS:za (zq3 p) w7 ((w7.setCell ⟨p,1,none⟩ (.pointer (some ⟨b,0,none⟩))).setCell ⟨p,2,none⟩ (.int .i64 (s.next+1:Nat))):=((za.refl _ _).setOne _ _).setOne _ _;have k3s:=k3.size;have k5s:=k35.size;have k7s:=k56.size;refine⟨?_,fun g=>g=p∨(FS' g∧g<w7.heap.size)∨(FU' g∧g<w3.heap.size),?_,fun g=>FS' g∧g<w7.heap.size,fun g=>FU' g∧g<w3.heap.size,q,b,?_,?_,?_,.inl rfl,?_,?_,?_,?_⟩
 ·refine((k3.trans (k35.ofNon (S:=F)) (U:=F) (fun i hi x=>?_) (fun _ _ x=>x)).trans k56 (fun _ _ x=>x) (fun g hg x=>(h.inS g x).1)).trans kS (fun _ _ x=>x) (fun g hg x=>by have x':g=p:=x;rw[x'];exact h.inF)
  rcases x with x|x
  ·exact(h.inU i x).1
  ·omega
 ·rintro g (rfl|x|x)
  ·exact .inl h.inF
  ·rcases sf g x.1 with y|y
   ·exact .inl (h.inS g y).1
   ·exact .inr (by omega)
  ·rcases s3 g x.1 with y|y
   ·exact .inl (h.inU g y).1
   ·exact .inr y
 ·exact zqf (ziN hb b) (s.next+1)
 ·obtain⟨b1,b2,G,dg,hg⟩:=st
  have hlow:zk (fun g=>FS' g∧g<w7.heap.size) w7 q dp (s.X.sput (zb3 114 s.next) by').2:=⟨b1,⟨b2,lt_of_block b1⟩,fun g=>G g∧g<w7.heap.size,dg.low,fun g x=>⟨⟨(hg g x.1).1,x.2⟩,(hg g x.1).2⟩⟩
  exact hlow.keep kS (fun g x y=>by have y':g=p:=y;rcases sf g x.1 with z|z;exact(h.inS g z).2 y';omega)
 ·exact u7.keep kS (fun g x y=>by have y':g=p:=y;rcases s3 g x.1 with z|z;exact(h.inU g z).2 y';omega)
 ·exact fun g x=>⟨.inr (.inl x),by rcases sf g x.1 with z|z;exact(h.inS g z).2;omega⟩
 ·exact fun g x=>⟨.inr (.inr x),by rcases s3 g x.1 with z|z;exact(h.inU g z).2;omega⟩
 ·intro g x y
  rcases sf g x.1 with z|z
  ·rcases s3 g y.1 with t|t
   ·exact h.apart g z t
   ·have:=h.low g (h.inS g z).1;omega
  ·have:=y.2;omega
 ·rintro g (rfl|x|x)
  ·have:=kS.size;omega
  ·have:=kS.size;have:=x.2;omega
  ·have:=kS.size;have:=x.2;omega
theorem zou {F FS FU FU':Nat→Prop}{w w2 w3:World}{p dp q u:Nat}{s:Sh}{o o':Obj}(h:ShIn F FS FU w p dp q u s)(k2:za zq2 w w2)(ab:w2.heap[w.heap.size]? = some o)(k3:za (fun g=>FU g∨((w.alloc o').heap.size≤g∧g<w2.heap.size)) w2 w3)(s3:zq5 FU' (fun g=>FU g∨((w.alloc o').heap.size≤g∧g<w2.heap.size)) w2) :
 za (fun g=>FU g∨w.heap.size≤g) w w3∧w3.heap[w.heap.size]? = some o∧w3.heap[p]? = some (ShB q u s.next)∧∀g,FU' g→FU g∨w.heap.size≤g:=by
 rw[World.size_alloc] at k3 s3;have hp:=lt_of_block h.blk;refine⟨k2.ofNon.trans k3 (fun _ _ x=>x) (fun g hg x=>by rcases x with x|x;exact .inl x;exact .inr (by omega)),k3.at ab (fun x=>by rcases x with x|x;have:=h.low _ (h.inU _ x).1;omega;omega),k3.at (zh k2 h.blk) (fun x=>by rcases x with x|x;exact(h.inU _ x).2 rfl;omega),fun g x=>?_⟩
 have:=k2.size;rcases s3 g x with (y|y)|y
 ·exact .inl y
 ·exact .inr (by omega)
 ·exact .inr (by omega)
theorem zfD {F:Nat→Prop}{p dp:Nat}{s:Sh}(k e a n c:Nat)(pa:Option Addr)(by':zqY)(e2 l2:Nat)(D2:Un)(ka kk kf:Nat)(w:World)(h:ShAt F w p dp s)(hlay:Lay w)(hF:∀g,F g→10≤g)
 (hn:s.next<1000) (hl:s.X.lim ka kk kf) (ha:ka≤505) (hk:kk≤990) (hf:kf≤400000000) (hby:by'.length≤65536) (hcode:(s.X.sput (zb3 114 s.next) by').1=0)
 (AP:∀W b F',za zq2 w W→zcn F' W b s.e s.l s.D→Calls Tryz.prog 144 #[.pointer (some ⟨b,0,none⟩),.agg #[.int .i64 k,.int .i64 e,.int .i64 a,.slice pa n c]] W fun r w'=>(∃n:Int,r = .returned (.tuple #[.int .i64 n,.nilIface]))∧UnTo F' W b e2 l2 D2 w')
 (PU:∀W,za (fun g=>F g∨w.heap.size≤g) w W→Calls Tryz.prog 145 #[.agg #[.int .i64 k,.int .i64 e,.int .i64 a,.slice pa n c]] W fun r w'=>∃v,r = .returned (.tuple #[v,.nilIface])∧za zq2 W w'∧w'.ownsRow W.heap.size 5 1 v by'.length (by'.map bv)) :
 Calls Tryz.prog 89 #[.pointer (some ⟨p,0,none⟩),.agg #[.int .i64 k,.int .i64 e,.int .i64 a,.slice pa n c]] w fun r w'=>(∃n:Int,r = .returned (.tuple #[.int .i64 n,.nilIface]))∧ShTo F w p dp (s.did by' e2 l2 D2) w':=by
 have kA:za zq2 w (w.alloc (zbq k e a (.slice pa n c))):=(za.refl _ _).alloc _;have WK:=zz0 (zgf _ (h.keepNon kA));obtain⟨FS,FU,q,u,h⟩:=h;have H:=zz0 h;have hA:=h.keep kA (fun _ _ x=>x)
 have c1:=sh_1 hA.blk;have CP:=zz0 (zh5 FU u s.e s.l s.D _ hA.unit (fun g x=>hA.low g (hA.inU g x).1))
 have KA:=zz0 kA;have BA:=zz0 (ze w (zbq k e a (.slice pa n c)));have HA:=zz0 hA;have LY:=zz0 hlay;have HF:=zz0 hF;have AP':=zz0 AP;have PU':=zz0 PU;have NM:=zz0 (fun W (hl:Lay W)=>zhS s.next W hn hl)
 have SP:=zz0 (fun W v F0 (st:zk F0 W q dp s.X) (hv:Bs W v by') (hnp:∀g,v.ownBlock=some g→¬F0 g)=>zdn F0 q dp v (zb3 114 s.next) by' s.X ka kk kf W st hl ha hk hf (zl6 _ hn) hv hby hnp)
 rw[hcode,zaK] at SP;unfold zbq at c1;dsimp only[zbq] at WK CP;have hnx:¬(99999999:Int)<(s.next:Int):=by omega
 clear h hA kA hlay hF AP PU hl hcode
 go_enter Tryz.func89,Tryz.ntmps89
 go_wp2_with(first
  |(go_at_call 142;refine WK.out.mono ?_;rintro r w1 ⟨rfl,rfl⟩)
  |(go_at_call 143;refine CP.out.mono ?_;rintro r w2 ⟨b,rfl,k2,hb2,u2⟩;have ab2:=zh k2 BA.out;have a0:=ac_0 ab2;have a1:=ac_1 ab2;have a2:=ac_2 ab2;have a3:=ac_3 ab2;have K2:=zz0 (KA.out.trans1 k2);have AB2:=zz0 ab2;have APW:=zz0 (AP'.out w2 b _ K2.out u2);clear k2 hb2 u2 ab2)
  |(go_at_call 144;refine APW.out.mono ?_;rintro r w3 ⟨⟨nn,rfl⟩,k3,FU',s3,u3⟩;obtain⟨k03,ab3,sh3,s03⟩:=zou H.out K2.out AB2.out k3 s3;have a0':=ac_0 ab3;have a1':=ac_1 ab3;have a2':=ac_2 ab3;have a3':=ac_3 ab3;have e2':=sh_2 sh3;have K3:=zz0 k03;have AB3:=zz0 ab3;have SH3:=zz0 sh3;have U3:=zz0 u3;have S03:=zz0 s03;have PUW:=zz0 (PU'.out w3 (k03.mono (fun g hg x=>by rcases x with x|x;exact .inl (H.out.inU g x).1;exact .inr x)));clear k3 s3 u3 k03 ab3 sh3 s03)
  |(go_at_call 145;refine PUW.out.mono ?_;rintro r w4 ⟨v4,rfl,k4,o4⟩;obtain⟨a4,c4,rfl,_,_⟩:=zb o4;have sh4:=zh k4 SH3.out;have g0:=sh_0 sh4;have g2:=sh_2 sh4;have K4:=zz0 k4;have O4:=zz0 o4;have SH4:=zz0 sh4;clear k4 o4 sh4))
 have LY4:Hid (Lay w4.drew):=zz0 ((LY.out.keep (K3.out) (fun g hg x=>by rcases x with x|x;have:=HF.out g (H.out.inU g x).1;omega;have:=HF.out _ H.out.inF;have:=lt_of_block H.out.blk;omega)).keepNon (K4.out.trans1 (za.refl zq2 _).drew))
 have NMW:Hid (Calls Tryz.prog 146 #[.string ⟨#[114]⟩,.int .i64 s.next] w4.drew fun e w'=>e = .returned (.string ⟨(zb3 114 s.next).toArray⟩)∧za zq2 w4.drew w'):=zz0 (NM.out _ LY4.out)
 have ST:Hid (∀W,za zq2 w4 W→zk FS W q dp s.X):=zz0 (fun W kk=>(H.out.store.keep (K3.out) (fun g hg x=>by rcases x with x|x;exact H.out.apart g hg x;have:=H.out.low g (H.out.inS g hg).1;omega)).keep (K4.out.trans1 kk) (fun _ _ x=>x))
 have g0d:w4.drew.cell? ⟨p,0,none⟩=some (.pointer (some ⟨q,0,none⟩)):=g0;have g2d:w4.drew.cell? ⟨p,2,none⟩=some (.int .i64 s.next):=g2;clear NM AP' PU' WK CP
 go_region_law(go_simp;first
  |(go_at_call 146;refine NMW.out.mono ?_;rintro r w5 ⟨rfl,k5'⟩;have k5:=(za.refl zq2 w4).drew.trans1 k5';have g0e:=sh_0 (zh k5 SH4.out);have K5:=zz0 k5;have SPW:Hid (Calls Tryz.prog 117 #[.pointer (some ⟨q,0,none⟩),.string ⟨(zb3 114 s.next).toArray⟩,.slice a4 (List.length by') c4] w5 fun e w'=>e = .returned .nilIface∧zn FS w5 q dp (s.X.sput (zb3 114 s.next) by').2 w'):=zz0 (SP.out w5 _ FS (ST.out w5 k5) ((Rd.ofOwns O4.out).keepNon k5) (fun g x y=>by have:=(O4.out.lt g x).1;have:=H.out.low g (H.out.inS g y).1;have:=K3.out.size;omega));clear k5 k5')
  |(go_at_call 117;refine SPW.out.mono ?_;rintro r w7 ⟨rfl,k7,FS',s7,d7⟩;have b7:=k7.at (zh (K4.out.trans1 K5.out) SH3.out) (fun x=>(H.out.inS p x).2 rfl);have i1:=sh_1 b7;have i2:=sh_2 (ziN b7 b);have i1f:=sh_f b7 1;have i2f:=sh_f (ziN b7 b) 2;have K7:=zz0 k7;have B7:=zz0 b7;have S7:=zz0 s7;have D7:=zz0 d7;clear k7 s7 d7 b7))
 all_goals go_wp2_with fail
 all_goals
  go_ret2;exact⟨⟨_,rfl⟩,zkF H.out K3.out U3.out S03.out (K4.out.trans1 K5.out) K7.out S7.out D7.out B7.out⟩
theorem zjA {ns:List zqY}{X:Dk}(h:ns.Perm (Go.strKeys X.shown))(he:X.shown = .map []):ns = []:=by
 rw[he] at h;exact h.eq_nil
theorem zmG (F:Nat→Prop)(q p:Nat)(b:zqY)(X:Dk)(w:World)(d:zk F w q p X)(hd:X.down=false)(he:X.shown = .map []) :
 Calls Tryz.prog 204 #[.pointer (some ⟨q,0,none⟩),sv b] w fun e w'=>e = .returned (.tuple #[.slice none 0 0,.nilIface])∧za zq2 w w':=by
 obtain⟨blk,inF,G,dg,hg⟩:=d;have c0:=st_0 blk;have L:Hid (Calls Tryz.prog 73 #[.pointer (some ⟨p,0,none⟩)] w fun e w'=>∃a c,e = .returned (.tuple #[.slice a 0 c,.nilIface])∧za zq2 w w'):=zz0 (by
  refine(zjg G p X w dg hd (by rw[he];decide)).mono ?_
  rintro e w' ⟨v,ns,rfl,hp,k,o⟩;obtain rfl:=zjA hp he;obtain⟨a,c,rfl,_,_⟩:=zb o;exact⟨a,c,rfl,k⟩)
 clear blk dg hg;unfold sv
 go_enter Tryz.func204,Tryz.ntmps204
 go_wp2_with(go_at_call 73;refine L.out.mono ?_;rintro r w1 ⟨a,c,rfl,k1⟩;have K1:=zz0 k1;clear k1)
 refine wp_loop_rounds 1 ?_;rw[rounds_succ]
 go_wp2_with fail
 go_ret2;exact⟨rfl,K1.out⟩
theorem zkE (F:Nat→Prop)(q p:Nat)(X:Dk)(w:World)(d:zk F w q p X)(hd:X.down=false)(he:X.shown = .map []) :
 Calls Tryz.prog 140 #[.pointer (some ⟨q,0,none⟩)] w fun e w'=>∃b,e = .returned (.tuple #[.pointer (some ⟨b,0,none⟩),.int .i64 0,.nilIface])∧za zq2 w w'∧zcn (fun g=>w.heap.size≤g∧g<w'.heap.size) w' b 0 0 (.map []):=by
 have L:=zz0 (zmG F q p [98] X w d hd he);clear d;unfold sv at L
 go_enter Tryz.func140,Tryz.ntmps140
 go_wp2_with(go_at_call 204;refine L.out.mono ?_;rintro r w1 ⟨rfl,k1⟩;have K1:=zz0 k1;clear k1)
 refine wp_loop_rounds 1 ?_;rw[rounds_succ]
 go_wp2_with(go_at_call 207;refine(zm1 _).mono ?_;rintro r w2 ⟨b,rfl,k2,u2⟩;have K2:=zz0 k2;have U2:=zz0 u2;clear k2 u2)
 refine bodyPost_ret (v:=.tuple #[.pointer (some ⟨b,0,none⟩),.int .i64 0,.nilIface]) (by simp[results,Tryz.results140,go_sem]) rfl ?_
 exact⟨b,rfl,K1.out.trans1 K2.out,U2.out.mono (fun g e=>⟨Nat.le_trans K1.out.size e.1,e.2⟩)⟩
theorem zkD {F:Nat→Prop}{p dp:Nat}{s:Sh}(w:World)(h:ShAt F w p dp s)(hlay:Lay w)(hn:s.next<1000)(hd:s.X.down=false)(hh:zz s.X.shown (zb3 114 s.next)=false) :
 Calls Tryz.prog 141 #[.pointer (some ⟨p,0,none⟩)] w fun e w'=>e = .returned (.tuple #[.bool false,.nilIface])∧za zq2 w w':=by
 obtain⟨FS,FU,q,u,h⟩:=h;have H:=zz0 h;have c0:=sh_0 h.blk;have c2:=sh_2 h.blk;have NMW:Hid (∀W,za zq2 w W→Calls Tryz.prog 146 #[.string ⟨#[114]⟩,.int .i64 s.next] W fun e w'=>e = .returned (.string ⟨(zb3 114 s.next).toArray⟩)∧za zq2 W w'):=zz0 (fun W k=>zhS s.next W hn (hlay.keepNon k))
 have GT:Hid (∀W,za zq2 w W→Calls Tryz.prog 48 #[.pointer (some ⟨q,0,none⟩),.string ⟨(zb3 114 s.next).toArray⟩] W fun e w'=>e = .returned (.tuple #[.slice none 0 0,.iface 89 (.int .i64 4)])∧za zq2 W w'):=zz0 (fun W k=>zdX FS q dp (zb3 114 s.next) s.X W (h.store.keep k (fun _ _ x=>x)) (zl6 _ hn) hd hh)
 have hee:=ze4 4 4;rw[show((4:Int)==4)=true from rfl] at hee
 have hnx:¬(99999999:Int)<(s.next:Int):=by omega
 clear h hlay hd hh
 go_enter Tryz.func141,Tryz.ntmps141
 go_wp2_with fail
 have c0d:w.drew.cell? ⟨p,0,none⟩=some (.pointer (some ⟨q,0,none⟩)):=c0;have c2d:w.drew.cell? ⟨p,2,none⟩=some (.int .i64 s.next):=c2;have NMD:=zz0 (NMW.out w.drew (za.refl zq2 w).drew)
 go_region_law(go_simp;first
  |(go_at_call 146;refine NMD.out.mono ?_;rintro r w5 ⟨rfl,k5'⟩;have k5:=(za.refl zq2 w).drew.trans1 k5';have c0e:=sh_0 (zh k5 H.out.blk);have K5:=zz0 k5;have GTW:=zz0 (GT.out w5 k5);clear k5 k5')
  |(go_at_call 48;refine GTW.out.mono ?_;rintro r w6 ⟨rfl,k6⟩;have K6:=zz0 (K5.out.trans1 k6);clear k6))
 all_goals go_wp2_with fail
 all_goals
  go_ret2;exact⟨rfl,K6.out⟩
theorem zhT {F F1:Nat→Prop}{w w1 w2:World}{p q b room:Nat}(k1:za F w w1)(s1:zq5 F1 F w)(d1:zk F1 w1 q p (dk0 room))(k2:za zq2 w1 w2)(u2:zcn (fun g=>w1.heap.size≤g∧g<w2.heap.size) w2 b 0 0 (.map []))(hq:w.heap.size≤q)(hF:∀g,F g→g<w.heap.size) :
 ∃F',zq5 F' F w∧ShAt F' (w2.alloc (ShB q b 0)) w2.heap.size p ⟨dk0 room,0,0,.map [],0⟩:=by
 have kB:za zq2 w2 (w2.alloc (ShB q b 0)):=(za.refl _ _).alloc _;have z1:=k1.size;have z2:=k2.size;have hsz:(w2.alloc (ShB q b 0)).heap.size=w2.heap.size+1:=by simp
 refine⟨fun g=>g=w2.heap.size∨(F1 g∧g<w1.heap.size)∨(w1.heap.size≤g∧g<w2.heap.size),?_,fun g=>F1 g∧g<w1.heap.size,fun g=>w1.heap.size≤g∧g<w2.heap.size,q,b,ze _ _,?_,u2.keepNon kB,.inl rfl,?_,?_,?_,?_⟩
 ·rintro g (rfl|x|x)
  ·exact .inr (by omega)
  ·exact s1 g x.1
  ·exact .inr (by omega)
 ·obtain⟨b1,b2,G,dg,hg⟩:=d1
  have hlow:zk (fun g=>F1 g∧g<w1.heap.size) w1 q p (dk0 room):=⟨b1,⟨b2,lt_of_block b1⟩,fun g=>G g∧g<w1.heap.size,dg.low,fun g x=>⟨⟨(hg g x.1).1,x.2⟩,(hg g x.1).2⟩⟩
  exact hlow.keep (k2.trans1 kB) (fun _ _ x=>x)
 ·exact fun g x=>⟨.inr (.inl x),by have:=x.2;omega⟩
 ·exact fun g x=>⟨.inr (.inr x),by have:=x.2;omega⟩
 ·exact fun g x y=>by have:=x.2;have:=y.1;omega
 ·rintro g (rfl|x|x)
  ·omega
  ·have:=x.2;omega
  ·have:=x.2;omega
theorem zmE {F:Nat→Prop}{p:Nat}{room:Nat}(w:World)(d:zQ F w p (dk0 room))(hlay:Lay w)(hF:∀g,F g→10≤g∧g<w.heap.size) :
 Calls Tryz.prog 88 #[.pointer (some ⟨p,0,none⟩)] w fun e w'=>∃b,e = .returned (.tuple #[.pointer (some ⟨b,0,none⟩),.nilIface])∧za F w w'∧∃F',zq5 F' F w∧ShAt F' w' b p ⟨dk0 room,0,0,.map [],0⟩:=by
 have HF:=zz0 hF;have LY:=zz0 hlay;have tid:(dk0 room).tidy:=fun n h=>by simp[dk0,zz,has] at h
 have SO:Hid (Calls Tryz.prog 37 #[.pointer (some ⟨p,0,none⟩)] w fun e w'=>∃q,e = .returned (.tuple #[.pointer (some ⟨q,0,none⟩),.nilIface])∧w.heap.size≤q∧zn F w q p (dk0 room) w'):=zz0 (by
  refine(zeB F p (dk0 room) 0 0 0 w d ⟨rfl,by show(-1:Int)<0;decide⟩ ⟨by simp[dk0,size],by simp[dk0],by simp[dk0,fused],by simp[dk0],isMap_empty⟩ (by omega) (by omega) (by omega) (fun n h=>by simp[dk0,zz,has] at h)).mono ?_
  rintro e w' ⟨q,ns,rfl,hq,hp,t⟩;obtain rfl:=zjA hp rfl;exact⟨q,rfl,hq,t⟩)
 clear d hlay hF
 go_enter Tryz.func88,Tryz.ntmps88
 go_wp2_with(first
  |(go_at_call 37;refine SO.out.mono ?_;rintro r w1 ⟨q,rfl,hq,k1,F1,s1,d1⟩;have K1:=zz0 k1;have S1:=zz0 s1;have D1:=zz0 d1;clear k1 s1 d1)
  |(go_at_call 140;refine(zkE F1 q p (dk0 room) w1 D1.out rfl rfl).mono ?_;rintro r w2 ⟨b,rfl,k2,u2⟩;have K2:=zz0 k2;have U2:=zz0 u2;clear k2 u2))
 obtain⟨F',sF,sA⟩:=zhT (room:=room) K1.out S1.out D1.out K2.out U2.out hq (fun g x=>(HF.out g x).2)
 have kB:za zq2 w2 (w2.alloc (ShB q b 0)):=(za.refl _ _).alloc _;have KB:=zz0 (K1.out.trans1 (K2.out.trans1 kB).ofNon);have AG:=zz0 (zkD _ sA (LY.out.keep KB.out (fun g hg x=>by have:=HF.out g x;omega)) (by show 0<1000;decide) rfl rfl)
 have SF:=zz0 sF;have SA:=zz0 sA;clear sF sA kB;refine wp_loop_rounds 1 ?_;rw[rounds_succ]
 go_wp2_with(go_at_call 141;refine AG.out.mono ?_;rintro r w4 ⟨rfl,k4⟩;have K4:=zz0 k4;clear k4)
 go_ret2;exact⟨w2.heap.size,rfl,KB.out.trans1 K4.out.ofNon,F',SF.out,SA.out.keepNon K4.out⟩
theorem zoY (d:List UInt8)(h:d.length≤64):(zaG d).length≤73:=by
 have:=zbW (a:=d.length) (by omega)
 unfold zm at this;simp only[List.flatMap_cons,List.flatMap_nil,List.append_nil] at this;simp only[zaG,List.length_append];omega
theorem zI (k e a:Nat)(d:List UInt8)(hk:k≤5)(he:e≤1099511627776)(ha:a≤1048576)(hd:d.length≤64):(zaE k e a d).length≤200:=by
 have h1:=zbX (a:=k) (b:=e) (by omega) (by omega)
 have h2:=zbW (a:=a) (by omega)
 have h3:=zoY d hd;have h4:(actT k e a d).length≤100:=by
  unfold actT
  split<;>split<;>simp only[List.length_append,List.length_nil]<;>omega
 have:=zdM (t:=actT k e a d) (by omega)
 unfold zaE;omega
structure Sh.ok (s:Sh):Prop where
 free:s.X.free
 lim:s.X.lim (2*s.next) (2*s.next) (400*s.next)
 room:s.X.room=16777216
 many:size s.D≤s.next
theorem Sh.ok.code {s:Sh}(h:s.ok)(hn:s.next<240){by':zqY}(hb:by'.length≤200):(s.X.sput (zb3 114 s.next) by')=(0,⟨s.X.room,zae s.X.shown (zb3 114 s.next) by',zae s.X.shown (zb3 114 s.next) by',[],s.X.fuse,s.X.down⟩):=by
 rw[zc6 h.free h.lim.map _ _ (by omega),if_neg (zgP h.lim (by omega) (by have:=h.room;omega))]
theorem Sh.ok.did {s:Sh}(h:s.ok)(hn:s.next<240){by':zqY}(hb:by'.length≤200){e l:Nat}{D:Un}(hD:size D≤size s.D+1):(s.did by' e l D).ok:=by
 have hl:=h.lim.sput (zb3 114 s.next) by';have hm:=h.many;refine⟨?_,?_,?_,?_⟩
 ·unfold Sh.did
  rw[h.code hn hb];exact h.free
 ·exact hl.mono (by show _≤2*(s.next+1);omega) (by show _≤2*(s.next+1);omega) (by show _≤400*(s.next+1);omega)
 ·unfold Sh.did
  rw[h.code hn hb];exact h.room
 ·show size D≤s.next+1
  omega
def Acts (s s2:Sh)(v:Value)(R:(Nat→Prop)→World→Prop):Prop:=∀(W:World)(F:Nat→Prop)(p dp:Nat),R F W→Lay W→(∀g,F g→10≤g)→ShAt F W p dp s →
 Calls Tryz.prog 89 #[.pointer (some ⟨p,0,none⟩),v] W fun r w'=>(∃n:Int,r = .returned (.tuple #[.int .i64 n,.nilIface]))∧ShTo F W p dp s2 w'
def Any:(Nat→Prop)→World→Prop:=fun _ _=>True
theorem zg4 {s:Sh}(h:s.ok)(hn:s.next<240)(e2:Nat)(he:s.e<e2)(he2:e2≤1099511627776):Acts s (s.did (zaE 1 e2 0 []) e2 s.l s.D) (.agg #[.int .i64 1,.int .i64 e2,.int .i64 0,.slice none 0 0]) Any :=
 fun W F p dp _ hlay hF hs=>zfD 1 e2 0 0 0 none _ e2 s.l s.D _ _ _ W hs hlay hF (by omega) h.lim (by omega) (by omega) (by omega) (by have:=zI 1 e2 0 [] (by omega) he2 (by omega) (by simp);omega)
  (by rw[h.code hn (zI 1 e2 0 [] (by omega) he2 (by omega) (by simp))]) (fun W' b F' k u=>ziE F' b s.e s.l s.D e2 W' u he he2) (fun W' k=>ziH e2 W' he2)
theorem zg3 {s:Sh}(h:s.ok)(hn:s.next<240)(a:Nat)(he:s.e≤1099511627776)(ha:a≤1048575)(h3:(uat s.l s.D a).1≠3)(h1:(uat s.l s.D a).1≠1):Acts s (s.did (zaE 3 s.e a []) s.e s.l (uput s.D a (2,[]))) (.agg #[.int .i64 3,.int .i64 s.e,.int .i64 a,.slice none 0 0]) Any :=
 fun W F p dp _ hlay hF hs=>zfD 3 s.e a 0 0 none _ s.e s.l (uput s.D a (2,[])) _ _ _ W hs hlay hF (by omega) h.lim (by omega) (by omega) (by omega) (by have:=zI 3 s.e a [] (by omega) he (by omega) (by simp);omega)
  (by rw[h.code hn (zI 3 s.e a [] (by omega) he (by omega) (by simp))]) (fun W' b F' k u=>ziD F' b s.e s.l s.D a W' u he ha (by have:=h.many;omega) h3 h1) (fun W' k=>ziG s.e a W' he ha)
theorem zk4 {s:Sh}(h:s.ok)(hn:s.next<240)(a:Nat)(he:s.e≤1099511627776)(ha:a≤1048576):Acts s (s.did (zaE 4 s.e a []) s.e (max s.l a) (cutLo (max s.l a) s.D)) (.agg #[.int .i64 4,.int .i64 s.e,.int .i64 a,.slice none 0 0]) Any :=
 fun W F p dp _ hlay hF hs=>zfD 4 s.e a 0 0 none _ s.e (max s.l a) (cutLo (max s.l a) s.D) _ _ _ W hs hlay hF (by omega) h.lim (by omega) (by omega) (by omega) (by have:=zI 4 s.e a [] (by omega) he ha (by simp);omega)
  (by rw[h.code hn (zI 4 s.e a [] (by omega) he ha (by simp))]) (fun W' b F' k u=>ziF F' b s.e s.l s.D a W' u he ha) (fun W' k=>ziI s.e a W' he ha)
theorem znd {s:Sh}(h:s.ok)(hn:s.next<240)(a:Nat)(he:s.e≤1099511627776)(ha:a≤1048576)(hl:s.l≤a):Acts s (s.did (zaE 5 s.e a []) s.e s.l (cutHi a s.D)) (.agg #[.int .i64 5,.int .i64 s.e,.int .i64 a,.slice none 0 0]) Any :=
 fun W F p dp _ hlay hF hs=>zfD 5 s.e a 0 0 none _ s.e s.l (cutHi a s.D) _ _ _ W hs hlay hF (by omega) h.lim (by omega) (by omega) (by omega) (by have:=zI 5 s.e a [] (by omega) he ha (by simp);omega)
  (by rw[h.code hn (zI 5 s.e a [] (by omega) he ha (by simp))]) (fun W' b F' k u=>zky F' b s.e s.l s.D a W' u he ha hl) (fun W' k=>zkz s.e a W' he ha)
theorem zi5 {v:Value}{d:List UInt8}{S:Nat→Prop}{w w':World}(h:Bs w v d)(k:za S w w')(hn:d = []∨∀g,v.ownBlock=some g→¬S g):Bs w' v d:=by
 rcases hn with rfl|hn
 ·obtain⟨a,c,e,_⟩:=h
  exact⟨a,c,e,fun hne=>absurd rfl hne⟩
 ·exact Rd.keep h k hn
def BsOut (v:Value)(d:List UInt8):(Nat→Prop)→World→Prop:=fun F w=>Bs w v d∧(d = []∨∀g,v.ownBlock=some g→¬F g∧g<w.heap.size)
theorem BsOut.keep {v:Value}{d:List UInt8}{F S:Nat→Prop}{w w':World}(h:BsOut v d F w)(k:za S w w')(hn:∀g,v.ownBlock=some g→¬S g):BsOut v d F w' :=
 ⟨h.1.keep k hn,h.2.imp id (fun y g e=>⟨(y g e).1,k.lt (y g e).2⟩)⟩
theorem zfN {s:Sh}(h:s.ok)(hn:s.next<240)(a:Nat)(pa:Option Addr)(d:List UInt8)(dc:Nat)(hd:d.length≤64)(he:s.e≤1099511627776)(ha:a≤1048575)(h0:(uat s.l s.D a).1=0):Acts s (s.did (zaE 2 s.e a d) s.e s.l (uput s.D a (1,d))) (.agg #[.int .i64 2,.int .i64 s.e,.int .i64 a,.slice pa d.length dc]) (BsOut (.slice pa d.length dc) d) :=
 fun W F p dp hR hlay hF hs=>zfD 2 s.e a d.length dc pa _ s.e s.l (uput s.D a (1,d)) _ _ _ W hs hlay hF (by omega) h.lim (by omega) (by omega) (by omega) (by have:=zI 2 s.e a d (by omega) he (by omega) hd;omega)
  (by rw[h.code hn (zI 2 s.e a d (by omega) he (by omega) hd)]) (fun W' b F' k u=>zhJ F' b s.e s.l s.D a pa d dc W' u he ha (hR.1.keepNon k) hd (by have:=h.many;omega) h0)
  (fun W' k=>zhK s.e a pa d dc W' (zi5 hR.1 k (hR.2.imp id (fun y g e x=>by rcases x with x|x;exact(y g e).1 x;have:=(y g e).2;omega))) hd he ha)
theorem zc5 {D:Un}(h:IsMap D)(a:Nat)(x:Cl):size (uput D a x)≤size D+1:=by
 obtain⟨es,rfl⟩:=h;show(DataW.insert _ _).length≤es.length+1;rw[length_insert];have:=List.length_filter_le (fun p:Lit×DataW Cl=>!p.1.sameKey (ulit a)) es
 omega
def zcP (g:Nat):Value:=.pointer (some ⟨g,0,none⟩)
def LgB (dv sv:Value)(e:Nat)(cv:Value)(q:Nat):Obj:=.cells #[dv,sv,.int .i64 e,cv,.pointer (some ⟨q,0,none⟩)] 77 (0,0)
section
variable {w : World} {b e q : Nat} {dv sv cv : Value}
theorem lg_0 (h:w.heap[b]? = some (LgB dv sv e cv q)):w.cell? ⟨b,0,none⟩=some dv:=by simp[World.cell?,h,LgB]
theorem lg_1 (h:w.heap[b]? = some (LgB dv sv e cv q)):w.cell? ⟨b,1,none⟩=some sv:=by simp[World.cell?,h,LgB]
theorem lg_2 (h:w.heap[b]? = some (LgB dv sv e cv q)):w.cell? ⟨b,2,none⟩=some (.int .i64 e):=by simp[World.cell?,h,LgB]
theorem lg_3 (h:w.heap[b]? = some (LgB dv sv e cv q)):w.cell? ⟨b,3,none⟩=some cv:=by simp[World.cell?,h,LgB]
theorem lg_4 (h:w.heap[b]? = some (LgB dv sv e cv q)):w.cell? ⟨b,4,none⟩=some (.pointer (some ⟨q,0,none⟩)):=by simp[World.cell?,h,LgB]
theorem lg_f (h:w.heap[b]? = some (LgB dv sv e cv q))(i:Nat):w.frozen? ⟨b,i,none⟩=false:=by simp[World.frozen?,h,LgB]
theorem zdz (h:w.heap[b]? = some (LgB dv sv e cv q))(v:Value):(w.setCell ⟨b,0,none⟩ v).heap[b]? = some (LgB v sv e cv q):=zj h 0 _
theorem zpC (h:w.heap[b]? = some (LgB dv sv e cv q))(v:Value):(w.setCell ⟨b,1,none⟩ v).heap[b]? = some (LgB dv v e cv q):=zj h 1 _
theorem zlY (h:w.heap[b]? = some (LgB dv sv e cv q))(k:Nat):(w.setCell ⟨b,2,none⟩ (.int .i64 k)).heap[b]? = some (LgB dv sv k cv q):=zj h 2 _
end
structure Lg where
 shs:List Sh
 ep:Nat
 next:Nat
 se:Nat
structure LgIn (A:Nat→Nat→Prop)(w:World)(b:Nat)(dps sps:List Nat)(dv sv cv:Value)(q n:Nat)(L:Lg):Prop where
 blk:w.heap[b]? = some (LgB dv sv L.ep cv q)
 sq:w.heap[q]? = some (SqB L.se L.next)
 sqin:SqIn L.se L.next
 disks:w.ownsRow 0 30 1 dv dps.length (dps.map zcP)
 shelves:w.ownsRow 0 144 1 sv sps.length (sps.map zcP)
 len:dps.length=L.shs.length∧sps.length=L.shs.length
 proj:PrAt (A 4) w cv n
 sh:∀i s p dp,L.shs[i]? = some s→sps[i]? = some p→dps[i]? = some dp→ShAt (A (5+i)) w p dp s
 mem:A 0 b∧A 1 q∧(∀g,dv.ownBlock=some g→A 2 g)∧(∀g,sv.ownBlock=some g→A 3 g)
 apart:∀i j g,A i g→A j g→i=j
 low:∀i g,A i g→10≤g∧g<w.heap.size
 small:n≤3∧L.shs.length≤3
def zaH (F:Nat→Prop)(w:World)(b n:Nat)(L:Lg):Prop:=∃A dps sps dv sv cv q,LgIn A w b dps sps dv sv cv q n L∧∀i g,A i g→F g
def zan (F:Nat→Prop)(w:World)(b n:Nat)(L:Lg)(w':World):Prop:=za F w w'∧∃F',zq5 F' F w∧zaH F' w' b n L
theorem LgIn.keep {A:Nat→Nat→Prop}{w w':World}{b:Nat}{dps sps:List Nat}{dv sv cv:Value}{q n:Nat}{L:Lg}{S:Nat→Prop}(h:LgIn A w b dps sps dv sv cv q n L)(k:za S w w')(hn:∀i g,A i g→¬S g):LgIn A w' b dps sps dv sv cv q n L :=
 ⟨k.at h.blk (hn 0 _ h.mem.1),k.at h.sq (hn 1 _ h.mem.2.1),h.sqin,zc h.disks k (fun g e=>hn 2 g (h.mem.2.2.1 g e)),zc h.shelves k (fun g e=>hn 3 g (h.mem.2.2.2 g e)),h.len,
  h.proj.keep k (hn 4),fun i s p dp a b c=>(h.sh i s p dp a b c).keep k (hn _),h.mem,h.apart,fun i g e=>⟨(h.low i g e).1,k.lt (h.low i g e).2⟩,h.small⟩
theorem zaH.keep {F S:Nat→Prop}{w w':World}{b n:Nat}{L:Lg}(h:zaH F w b n L)(k:za S w w')(hn:∀g,F g→¬S g):zaH F w' b n L:=by
 obtain⟨A,dps,sps,dv,sv,cv,q,h,hF⟩:=h;exact⟨A,dps,sps,dv,sv,cv,q,h.keep k (fun i g e=>hn g (hF i g e)),hF⟩
theorem zaH.keepNon {F:Nat→Prop}{w w':World}{b n:Nat}{L:Lg}(h:zaH F w b n L)(k:za zq2 w w'):zaH F w' b n L:=h.keep k (fun _ _ e=>e)
theorem zaH.mono {F G:Nat→Prop}{w:World}{b n:Nat}{L:Lg}(h:zaH F w b n L)(hs:∀g,F g→g<w.heap.size→G g):zaH G w b n L:=by
 obtain⟨A,dps,sps,dv,sv,cv,q,h,hF⟩:=h;exact⟨A,dps,sps,dv,sv,cv,q,h,fun i g e=>hs g (hF i g e) (h.low i g e).2⟩
def putA (A:Nat→Nat→Prop)(i:Nat)(B:Nat→Prop):Nat→Nat→Prop:=fun j g=>if j=i then B g else A j g
theorem zhF {A:Nat→Nat→Prop}{i:Nat}{B:Nat→Prop}{g:Nat}:putA A i B i g=B g:=if_pos rfl
theorem zd9 {A:Nat→Nat→Prop}{i j:Nat}{B:Nat→Prop}{g:Nat}(h:j≠i):putA A i B j g=A j g:=if_neg h
theorem zkw {A:Nat→Nat→Prop}{i:Nat}{B:Nat→Prop}{w:World}(h:∀i j g,A i g→A j g→i=j)(hl:∀i g,A i g→10≤g∧g<w.heap.size)(hB:zq5 B (A i) w):∀j k g,putA A i B j g→putA A i B k g→j=k:=by
 intro j k g hj hk;unfold putA at hj hk
 split at hj
 ·rename_i ej
  split at hk
  ·rename_i ek;rw[ej,ek]
  ·rcases hB g hj with x|x
   ·rw[ej];exact h _ _ g x hk
   ·have:=(hl _ g hk).2;omega
 ·split at hk
  ·rename_i ek
   rcases hB g hk with x|x
   ·rw[ek];exact h _ _ g hj x
   ·have:=(hl _ g hj).2;omega
  ·exact h _ _ g hj hk
theorem LgIn.unit {A:Nat→Nat→Prop}{w w':World}{b:Nat}{dps sps:List Nat}{dv sv cv:Value}{q n i p dp:Nat}{L:Lg}{s s2:Sh}(h:LgIn A w b dps sps dv sv cv q n L)(hs:L.shs[i]? = some s)(hp:sps[i]? = some p)(hd:dps[i]? = some dp)(t:ShTo (A (5+i)) w p dp s2 w') :
 ∃B,zq5 B (A (5+i)) w∧za (A (5+i)) w w'∧LgIn (putA A (5+i) B) w' b dps sps dv sv cv q n { L with shs:=L.shs.set i s2 }:=by
 obtain⟨k,B,sb,t⟩:=t;have ap:=zkw h.apart h.low sb;have ne:∀j g,j≠5+i→A j g→¬A (5+i) g:=fun j g hj x y=>hj (h.apart _ _ g x y)
 have e4:∀(j:Nat),j<5→putA A (5+i) B j=A j:=fun j hj=>by funext g;exact zd9 (by omega)
 have hil:i<L.shs.length:=by
  rcases Nat.lt_or_ge i L.shs.length with x|x
  ·exact x
  ·rw[List.getElem?_eq_none x] at hs;cases hs
 refine⟨B,sb,k,k.at h.blk (ne 0 _ (by omega) h.mem.1),k.at h.sq (ne 1 _ (by omega) h.mem.2.1),h.sqin,zc h.disks k (fun g e=>ne 2 g (by omega) (h.mem.2.2.1 g e)),zc h.shelves k (fun g e=>ne 3 g (by omega) (h.mem.2.2.2 g e)),?_,?_,?_,?_,ap,?_,?_⟩
 ·simpa using h.len
 ·rw[e4 4 (by omega)];exact h.proj.keep k (fun g x=>ne 4 g (by omega) x)
 ·intro j s' p' dp' hj hpj hdj
  simp only at hj;by_cases e:j=i
  ·subst e
   rw[List.getElem?_set_self hil] at hj;rw[hp] at hpj;rw[hd] at hdj;injection hj with hj
   injection hpj with hpj
   injection hdj with hdj
   subst hj;subst hpj;subst hdj;have e5:putA A (5+j) B (5+j)=B:=by funext g;exact zhF
   rw[e5];exact t
  ·rw[List.getElem?_set_ne (fun x=>e x.symm)] at hj
   have e5:putA A (5+i) B (5+j)=A (5+j):=by funext g;exact zd9 (by omega)
   rw[e5];exact(h.sh j s' p' dp' hj hpj hdj).keep k (fun g x=>ne (5+j) g (by omega) x)
 ·rw[e4 0 (by omega),e4 1 (by omega),e4 2 (by omega),e4 3 (by omega)];exact h.mem
 ·intro j g x
  unfold putA at x;have hsz:=k.size
  split at x
  ·refine⟨?_,t.low g x⟩
   rcases sb g x with y|y
   ·exact(h.low _ g y).1
   ·have:=(h.low 0 b h.mem.1);omega
  ·have:=h.low j g x;omega
 ·simpa using h.small
theorem LgIn.unitTo {A:Nat→Nat→Prop}{F:Nat→Prop}{w w':World}{b:Nat}{dps sps:List Nat}{dv sv cv:Value}{q n i p dp:Nat}{L:Lg}{s s2:Sh}(h:LgIn A w b dps sps dv sv cv q n L)(hF:∀i g,A i g→F g)(hs:L.shs[i]? = some s)(hp:sps[i]? = some p)(hd:dps[i]? = some dp)(t:ShTo (A (5+i)) w p dp s2 w') :
 zan F w b n { L with shs:=L.shs.set i s2 } w':=by
 obtain⟨B,sb,k,h'⟩:=h.unit hs hp hd t;refine⟨k.mono (fun g _ x=>hF _ g x),fun g=>∃j,putA A (5+i) B j g,?_,_,dps,sps,dv,sv,cv,q,h',fun j g x=>⟨j,x⟩⟩
 rintro g ⟨j,x⟩;unfold putA at x
 split at x
 ·rcases sb g x with y|y
  ·exact .inl (hF _ g y)
  ·exact .inr y
 ·exact .inl (hF _ g x)
def LgIT (A:Nat→Nat→Prop)(w:World)(b:Nat)(dps sps:List Nat)(dv sv cv:Value)(q n u:Nat)(L:Lg)(w':World):Prop :=
 ∃B,zq5 B (A (5+u)) w∧za (A (5+u)) w w'∧LgIn (putA A (5+u) B) w' b dps sps dv sv cv q n L
theorem LgIT.pre {A:Nat→Nat→Prop}{w w1 w':World}{b:Nat}{dps sps:List Nat}{dv sv cv:Value}{q n u:Nat}{L:Lg}(k:za zq2 w w1)(d:LgIT A w1 b dps sps dv sv cv q n u L w'):LgIT A w b dps sps dv sv cv q n u L w':=by
 obtain⟨B,hs,kk,hl⟩:=d;refine⟨B,fun g x=>?_,k.ofNon.trans1 kk,hl⟩
 rcases hs g x with y|y
 ·exact .inl y
 ·have:=k.size;right;omega
theorem LgIT.to {A:Nat→Nat→Prop}{F:Nat→Prop}{w w':World}{b:Nat}{dps sps:List Nat}{dv sv cv:Value}{q n u:Nat}{L:Lg}(d:LgIT A w b dps sps dv sv cv q n u L w')(hF:∀i g,A i g→F g):zan F w b n L w':=by
 obtain⟨B,hs,kk,hl⟩:=d;refine⟨kk.mono (fun g _ x=>hF _ g x),fun g=>F g∨w.heap.size≤g,fun g x=>x,putA A (5+u) B,dps,sps,dv,sv,cv,q,hl,fun i g x=>?_⟩
 by_cases e:i=5+u
 ·subst e
  rw[zhF] at x;rcases hs g x with y|y
  ·exact .inl (hF _ g y)
  ·exact .inr y
 ·rw[zd9 e] at x
  exact .inl (hF _ g x)
theorem zan.trans {F F':Nat→Prop}{w w' w'':World}{b n:Nat}{L:Lg}(s:zq5 F' F w)(k:za F w w')(d:zan F' w' b n L w''):zan F w b n L w'':=by
 obtain⟨k2,F'',s2,d2⟩:=d;exact⟨zbu k s k2,F'',s.trans s2 k.size,d2⟩
theorem zan.refl {F:Nat→Prop}{w w':World}{b n:Nat}{L:Lg}(d:zaH F w b n L)(k:za zq2 w w'):zan F w b n L w' :=
 ⟨k.mono (fun _ _ e=>e.elim),F,zq5.refl _ _,d.keepNon k⟩
theorem zan.pre {F:Nat→Prop}{w w1 w':World}{b n:Nat}{L:Lg}(k:za zq2 w w1)(d:zan F w1 b n L w'):zan F w b n L w':=by
 obtain⟨k2,F',s,d⟩:=d;exact⟨(k.mono (fun _ _ e=>e.elim):za F w w1).trans k2 (fun _ _ e=>e) (fun _ _ e=>e),F',fun g e=>by rcases s g e with x|x;exact .inl x;exact .inr (Nat.le_trans k.size x),d⟩
theorem zan.post {F:Nat→Prop}{w w1 w':World}{b n:Nat}{L:Lg}(d:zan F w b n L w1)(k:za zq2 w1 w'):zan F w b n L w':=by
 obtain⟨k2,F',s,d⟩:=d;exact⟨k2.trans1 k.ofNon,F',s,d.keepNon k⟩
theorem zr {α:Type}{l:List α}{i:Nat}{x:α}(h:l[i]? = some x):i<l.length:=by
 rcases Nat.lt_or_ge i l.length with y|y
 ·exact y
 ·rw[List.getElem?_eq_none y] at h;cases h
theorem zjF {w:World}{B g c k i x:Nat}{ty:TypeId}{l:List Nat}(o:w.ownsRow B ty 1 (.slice (some ⟨g,0,none⟩) k c) l.length (l.map zcP))(hi:l[i]? = some x):w.cell? ⟨g,i,none⟩=some (zcP x):=by
 have hr:=Rd.ofOwns o;obtain⟨a',c',e,hx⟩:=hr;injection e with e1 e2 e3
 obtain⟨g',off,e4,hc⟩:=hx (by intro e;rw[List.map_eq_nil_iff] at e;rw[e] at hi;cases hi)
 rw[←e1] at e4;injection e4 with e4
 injection e4 with e4 e5
 subst e4;subst e5;have:=hc i (zcP x) (by rw[List.getElem?_map,hi];rfl)
 rwa [Nat.zero_add] at this
theorem LgIn.at {A:Nat→Nat→Prop}{w:World}{b:Nat}{dps sps:List Nat}{dv sv cv:Value}{q n u:Nat}{L:Lg}{s:Sh}(h:LgIn A w b dps sps dv sv cv q n L)(hs:L.shs[u]? = some s) :
 ∃p dp sg sc dg dc,sv = .slice (some ⟨sg,0,none⟩) L.shs.length sc∧dv = .slice (some ⟨dg,0,none⟩) L.shs.length dc∧sps[u]? = some p∧dps[u]? = some dp∧u<L.shs.length∧w.cell? ⟨sg,u,none⟩=some (zcP p)∧w.cell? ⟨dg,u,none⟩=some (zcP dp)∧ShAt (A (5+u)) w p dp s:=by
 have hu:=zr hs;obtain⟨l1,l2⟩:=h.len;obtain⟨sg,sc,e1,_⟩:=zcd h.shelves (by omega)
 obtain⟨dg,dc,e2,_⟩:=zcd h.disks (by omega)
 have hp:=List.getElem?_eq_getElem (show u<sps.length by omega)
 have hd:=List.getElem?_eq_getElem (show u<dps.length by omega)
 have r1:=h.shelves;have r2:=h.disks;rw[e1] at r1;rw[e2] at r2;exact⟨_,_,sg,sc,dg,dc,by rw[e1,l2],by rw[e2,l1],hp,hd,hu,zjF r1 hp,zjF r2 hd,h.sh u s _ _ hs hp hd⟩
theorem zcH (x most:Int)(w:World)(h1:0≤x)(h2:x≤most) :
 Calls Tryz.prog 21 #[.int .i64 x,.int .i64 most] w fun e w'=>e = .returned (.bool true)∧w'=w:=by
 go_enter Tryz.func21,Tryz.ntmps21
 go_wp2_with fail
 go_ret;exact⟨rfl,rfl⟩
theorem zdg (b:Nat)(w:World) :
 Calls Tryz.prog 20 #[.pointer (some ⟨b,0,none⟩),.bool true] w fun e w'=>e = .returned .nilIface∧w'=w:=by
 go_enter Tryz.func20,Tryz.ntmps20
 go_wp2_with fail
 go_ret;exact⟨rfl,rfl⟩
theorem znU {A:Nat→Nat→Prop}{dps sps:List Nat}{dv sv cv:Value}{q b n u:Nat}{L:Lg}{s s2:Sh}(k e a m c:Nat)(pa:Option Addr)(R:(Nat→Prop)→World→Prop)(w:World)(h:LgIn A w b dps sps dv sv cv q n L)(hs:L.shs[u]? = some s)(hlay:Lay w)
 (ha:Acts s s2 (.agg #[.int .i64 k,.int .i64 e,.int .i64 a,.slice pa m c]) R) (hR:∀w' F',za zq2 w w'→(∀g,F' g→A (5+u) g)→R F' w') :
 Calls Tryz.prog 56 #[.pointer (some ⟨b,0,none⟩),.int .i64 u,.agg #[.int .i64 k,.int .i64 e,.int .i64 a,.slice pa m c]] w fun r w'=>(∃n:Int,r = .returned (.tuple #[.int .i64 n,.nilIface]))∧LgIT A w b dps sps dv sv cv q n u { L with shs:=L.shs.set u s2 } w':=by
 have kA:za zq2 w (w.alloc (zbq k e a (.slice pa m c))):=(za.refl _ _).alloc _;have hA:=h.keep kA (fun _ _ _ x=>x)
 obtain⟨p,dp,sg,sc,dg,dc,rfl,rfl,hp,hd,hu,hcs,hcd,hsh⟩:=hA.at hs;have c1:=lg_1 hA.blk;unfold zcP at hcs;have kAd:za zq2 w (w.alloc (zbq k e a (.slice pa m c))).drew:=kA.drew;have hAd:=hA.keep ((za.refl zq2 _).drew) (fun _ _ _ x=>x)
 have AC:=zz0 (ha _ _ p dp (hR _ (A (5+u)) kAd (fun _ x=>x)) (hlay.keepNon kAd) (fun g x=>(hA.low _ g x).1) (hsh.keepNon (za.refl zq2 _).drew))
 have CL:=zz0 (fun w' (t:ShTo (A (5+u)) (w.alloc (zbq k e a (.slice pa m c))).drew p dp s2 w')=>LgIT.pre kAd (hAd.unit hs hp hd t))
 have bA:=ze w (zbq k e a (.slice pa m c));have a0:=ac_0 bA;have a1:=ac_1 bA;have a2:=ac_2 bA;have a3:=ac_3 bA;have hlt:(u:Int)<L.shs.length:=by omega
 clear h hA hAd hsh hlay ha hR kA kAd bA hcd hp hd;have c1d:(w.alloc (zbq k e a (.slice pa m c))).drew.cell? ⟨b,1,none⟩=some (.slice (some ⟨sg,0,none⟩) L.shs.length sc):=c1;have hcsd:(w.alloc (zbq k e a (.slice pa m c))).drew.cell? ⟨sg,u,none⟩=some (.pointer (some ⟨p,0,none⟩)):=hcs;have a0d:(w.alloc (zbq k e a (.slice pa m c))).drew.cell? ⟨w.heap.size,0,none⟩=some (.int .i64 k):=a0;have a1d:(w.alloc (zbq k e a (.slice pa m c))).drew.cell? ⟨w.heap.size,1,none⟩=some (.int .i64 e):=a1;have a2d:(w.alloc (zbq k e a (.slice pa m c))).drew.cell? ⟨w.heap.size,2,none⟩=some (.int .i64 a):=a2;have a3d:(w.alloc (zbq k e a (.slice pa m c))).drew.cell? ⟨w.heap.size,3,none⟩=some (.slice pa m c):=a3;dsimp only[zbq] at *
 go_enter Tryz.func56,Tryz.ntmps56
 go_wp2_with fail
 go_region_law(go_simp;go_at_call 89;refine AC.out.mono ?_;rintro r w2 ⟨⟨nn,rfl⟩,t⟩;have T:=zz0 t;clear t)
 all_goals go_wp2_with fail
 all_goals
  go_ret2;exact⟨⟨_,rfl⟩,CL.out _ T.out⟩
theorem zfe {F:Nat→Prop}{b n u:Nat}{L:Lg}{s s2:Sh}(k e a m c:Nat)(pa:Option Addr)(R:(Nat→Prop)→World→Prop)(w:World)(h:zaH F w b n L)(hs:L.shs[u]? = some s)(hlay:Lay w)
 (ha:Acts s s2 (.agg #[.int .i64 k,.int .i64 e,.int .i64 a,.slice pa m c]) R) (hR:∀w' F',za zq2 w w'→(∀g,F' g→F g)→R F' w') :
 Calls Tryz.prog 56 #[.pointer (some ⟨b,0,none⟩),.int .i64 u,.agg #[.int .i64 k,.int .i64 e,.int .i64 a,.slice pa m c]] w fun r w'=>(∃n:Int,r = .returned (.tuple #[.int .i64 n,.nilIface]))∧zan F w b n { L with shs:=L.shs.set u s2 } w':=by
 obtain⟨A,dps,sps,dv,sv,cv,q,h,hF⟩:=h;refine(znU k e a m c pa R w h hs hlay ha (fun w' F' kk hh=>hR w' F' kk (fun g x=>hF _ g (hh g x)))).mono ?_
 rintro r w' ⟨x,t⟩;exact⟨x,t.to hF⟩
theorem zeM {w wA w2:World}{v:Value}{n:Nat}{xs:List Value}{ty:TypeId}(kA:za zq2 w wA)(k2:za zq2 wA w2)(o:w2.ownsRow wA.heap.size ty 1 v n xs)(hA:w.heap.size+1≤wA.heap.size)(k:Int)(u:Value) :
 za zq2 w ((w2.setCell ⟨w.heap.size,0,none⟩ (.int .i64 k)).setCell ⟨w.heap.size,1,none⟩ u)∧((w2.setCell ⟨w.heap.size,0,none⟩ (.int .i64 k)).setCell ⟨w.heap.size,1,none⟩ u).ownsRow w.heap.size ty 1 v n xs:=by
 have k3:za (zq3 w.heap.size) w2 ((w2.setCell ⟨w.heap.size,0,none⟩ (.int .i64 k)).setCell ⟨w.heap.size,1,none⟩ u):=((za.refl _ _).setOne _ _).setOne _ _;exact⟨(kA.trans1 k2).trans k3 (fun _ _ e=>e) (fun g hg e=>by have e':g=w.heap.size:=e;omega),zg (zc o k3 (fun g hg e=>by have e':g=w.heap.size:=e;have:=(o.lt g hg).1;omega)) (by omega)⟩
theorem zf5 {F:Nat→Prop}{b n u a:Nat}{L:Lg}{s:Sh}(w:World)(h:zaH F w b n L)(hs:L.shs[u]? = some s)(he:s.e=L.ep)(hd:s.X.down=false)(ha:a≤1048575)(hx:(uat s.l s.D a).2.length≤100000000) :
 Calls Tryz.prog 36 #[.pointer (some ⟨b,0,none⟩),.int .i64 u,.int .i64 a] w fun r w'=>∃v,r = .returned (.tuple #[.agg #[.int .i64 (uat s.l s.D a).1,v],.nilIface])∧za zq2 w w'∧w'.ownsRow w.heap.size 5 1 v (uat s.l s.D a).2.length ((uat s.l s.D a).2.map bv):=by
 obtain⟨A,dps,sps,dv,sv,cv,q,h,hF⟩:=h;obtain⟨p,dp,sg,sc,dg,dc,rfl,rfl,hp,hd',hu,hcs,hcd,hsh⟩:=h.at hs;have RD:=zz0 (fun W (k:za zq2 w W)=>zmF W (hsh.keepNon k) hd ha hx)
 rw[he] at RD;have B:=zz0 h.blk;unfold zcP at hcs;have HC:=zz0 hcs;have hlt:(u:Int)<L.shs.length:=by omega
 generalize uat s.l s.D a=x at RD ⊢;obtain⟨kx,lx⟩:=x;dsimp only at RD ⊢;have kA:za zq2 w (w.alloc (zqZ 0 (.slice none 0 0))):=(za.refl _ _).alloc _;have bA:=zh kA h.blk;have c1:=lg_1 bA;have c2:=lg_2 bA;have kB:za (zq3 w.heap.size) w w:=za.refl _ _;have hcsA:(w.alloc (zqZ 0 (.slice none 0 0))).cell? ⟨sg,u,none⟩=some (.pointer (some ⟨p,0,none⟩)):=(World.cell?_alloc_lt _ _ _ (World.block_lt_of_cell? _ _ hcs)).trans hcs;have c1d:(w.alloc (zqZ 0 (.slice none 0 0))).drew.cell? ⟨b,1,none⟩=some (.slice (some ⟨sg,0,none⟩) L.shs.length sc):=c1;have c2d:(w.alloc (zqZ 0 (.slice none 0 0))).drew.cell? ⟨b,2,none⟩=some (.int .i64 L.ep):=c2;have hcsd:(w.alloc (zqZ 0 (.slice none 0 0))).drew.cell? ⟨sg,u,none⟩=some (.pointer (some ⟨p,0,none⟩)):=hcsA;have RDW:=zz0 (RD.out _ kA.drew);have kAd:=zz0 kA.drew;have rb:=zz0 (ze w (zqZ 0 (.slice none 0 0)));clear h hsh hcd hp hd' hx hs RD hcs HC B bA kA;dsimp only[zqZ] at c1 c2 hcsA c1d c2d hcsd RDW
 go_enter Tryz.func36,Tryz.ntmps36
 go_wp2_with fail
 go_region_law(go_simp;go_at_call 72;refine RDW.out.mono ?_;rintro r w2 ⟨v,rfl,k2,o2⟩;obtain⟨va,vc,rfl,_,_⟩:=zb o2;have rb2:=zh k2 rb.out;have r0:=cl0 rb2;have r1:=cl1 rb2;have r0f:=clf rb2 0;have r1f:=clf rb2 1;have q0:=cl0 (zbG (za1 rb2 kx) (.slice va lx.length vc));have q1:=cl1 (zbG (za1 rb2 kx) (.slice va lx.length vc));have K2:=zz0 k2;have O2:=zz0 o2;clear k2 o2 rb2)
 all_goals go_wp2_with fail
 all_goals
  refine bodyPost_ret (v:=.tuple #[.agg #[.int .i64 kx,.slice va lx.length vc],.nilIface]) (by simp[results,Tryz.results36,go_sem,Act.put,q0,q1]) rfl ?_
  obtain⟨k,o⟩:=zeM kAd.out K2.out O2.out (by show _≤(w.alloc _).heap.size;rw[World.size_alloc];exact Nat.le_refl _) kx (.slice va lx.length vc)
  exact⟨_,rfl,k,o⟩
def zci (n a:Nat):List Nat:=chnI n (a%chN n)
def lastN (n a:Nat):Nat:=(zci n a).getLastD 0
theorem zgC (a:Nat):zci 1 a = [0]:=by
 have e:chN 1=1:=rfl;unfold zci;rw[e,Nat.mod_one]
 rfl
theorem zir (a:Nat):zci 2 a = [a%2]:=by
 have e:chN 2=2:=rfl;unfold zci;rw[e];obtain h|h:a%2=0∨a%2=1:=by omega
 ·rw[h];rfl
 ·rw[h];rfl
theorem zgD (a:Nat):zci 3 a=if a%2=0 then [0] else [1,2]:=by
 have e:chN 3=2:=rfl;unfold zci;rw[e];obtain h|h:a%2=0∨a%2=1:=by omega
 ·rw[h];rfl
 ·rw[h];rfl
theorem zkj {A:Nat→Nat→Prop}{dps sps:List Nat}{dv sv cv:Value}{q b n a:Nat}{L:Lg}(w:World)(h:LgIn A w b dps sps dv sv cv q n L)(hn:0<n)(ha:a≤1048575) :
 Calls Tryz.prog 35 #[.pointer (some ⟨b,0,none⟩),.int .i64 a] w fun r w'=>∃g o c,r = .returned (.slice (some ⟨g,o,none⟩) (zci n a).length c)∧za zq2 w w'∧Is w' (.slice (some ⟨g,o,none⟩) (zci n a).length c) (zci n a)∧A 4 g:=by
 have c3:=lg_3 h.blk;have hn2:=h.small.1;obtain⟨g,vs,c,rfl,hl,hr,hi,hg,ht⟩:=h.proj;have hcp:0<chN n:=zic hn;obtain⟨N,hN⟩:∃N,N=chN n:=⟨_,rfl⟩;have hle:N≤2:=by rw[hN];exact zfQ hn2
 have hm:a%N<N:=Nat.mod_lt _ (by omega)
 obtain⟨x,hx⟩:∃x,vs[a%N]? = some x:=⟨_,List.getElem?_eq_getElem (by omega)⟩
 have hho:zci n a=chnI n (a%N):=by unfold zci;rw[←hN]
 rw[hho];have hxi:Is w x (chnI n (a%N)):=hi.2 (a%N) x _ hx (zib (by omega))
 have hlen:=zeN (n:=n) (i:=a%N) (by omega)
 have htx:=ht x (List.mem_of_getElem? hx);clear h ht hho;have hcell:w.cell? ⟨g,a%N,none⟩=some x:=by
  obtain⟨a',c',e,hx'⟩:=hr;injection e with e1 e2 e3
  obtain⟨g',off,e4,hc⟩:=hx' (by intro e;rw[e] at hl;simp at hl;omega)
  rw[←e1] at e4;injection e4 with e4
  injection e4 with e4 e5
  subst e4;subst e5;have:=hc _ x hx
  rwa [Nat.zero_add] at this
 obtain⟨xa,xc,rfl,hxx⟩:=id hxi;obtain⟨xg,xo,rfl,_⟩:=hxx (by intro e;rw[List.map_eq_nil_iff] at e;rw[e] at hlen;simp at hlen)
 have htg:=htx xg rfl;simp only[List.length_map] at hcell hxi;generalize chnI n (a%N)=us at hcell hxi hlen ⊢;have XI:Hid (∀W,za zq2 w W→Is W (.slice (some ⟨xg,xo,none⟩) us.length xc) us):=zz0 (fun W k=>Rd.keepNon hxi k)
 have hcd:w.drew.cell? ⟨g,a%N,none⟩=some (.slice (some ⟨xg,xo,none⟩) us.length xc):=hcell;have c3d:w.drew.cell? ⟨b,3,none⟩=some (.slice (some ⟨g,0,none⟩) (chN n) c):=c3;rw[←hN] at c3d;have hN0:(N:Int)≠0:=by omega
 have HTG:=zz0 htg;clear hr hi hxx hxi hcell c3 hx htx htg hN hcp hl hlen
 go_enter Tryz.func35,Tryz.ntmps35
 go_wp2_with fail
 go_region
 all_goals go_wp2_with fail
 all_goals
  go_ret;exact⟨_,_,_,rfl,(za.refl _ _).drew,XI.out _ (za.refl _ _).drew,HTG.out⟩
theorem zff {F:Nat→Prop}{b n a:Nat}{L:Lg}(w:World)(h:zaH F w b n L)(hn:0<n)(ha:a≤1048575) :
 Calls Tryz.prog 35 #[.pointer (some ⟨b,0,none⟩),.int .i64 a] w fun r w'=>∃g o c,r = .returned (.slice (some ⟨g,o,none⟩) (zci n a).length c)∧za zq2 w w'∧Is w' (.slice (some ⟨g,o,none⟩) (zci n a).length c) (zci n a):=by
 obtain⟨A,dps,sps,dv,sv,cv,q,h,hF⟩:=h;refine(zkj w h hn ha).mono ?_;rintro r w' ⟨g,o,c,e,k,i,_⟩;exact⟨g,o,c,e,k,i⟩
theorem zhI (ep n:Nat)(hn:n≤1048576):raiseE ep ep n=0:=by
 unfold raiseE zcA askE fitB;rw[if_pos (by simp;omega),if_neg (by omega),if_neg (by omega)]
theorem zmn (ep nx n:Nat)(hn:n≤1048576):raiseN ep nx ep n=((max nx n:Nat):Int):=by
 unfold raiseN;rw[if_pos (zhI ep n hn)]
 split<;>omega
theorem LgIn.own {A:Nat→Nat→Prop}{F:Nat→Prop}{w w':World}{b:Nat}{dps sps:List Nat}{dv sv cv:Value}{q n:Nat}{L:Lg}{e' nx':Nat}(h:LgIn A w b dps sps dv sv cv q n L)(hF:∀i g,A i g→F g)(k:za (fun g=>g=b∨g=q) w w')
 (hb:w'.heap[b]? = some (LgB dv sv e' cv q)) (hq:w'.heap[q]? = some (SqB e' nx')) (hi:SqIn e' nx'):zan F w b n ⟨L.shs,e',nx',e'⟩ w':=by
 have ne:∀i g,2≤i→A i g→¬(g=b∨g=q):=by
  rintro i g hi x (rfl|rfl)
  ·have:=h.apart _ _ _ x h.mem.1;omega
  ·have:=h.apart _ _ _ x h.mem.2.1;omega
 refine⟨k.mono (fun g _ x=>?_),F,zq5.refl _ _,A,dps,sps,dv,sv,cv,q,⟨hb,hq,hi,zc h.disks k (fun g x=>ne 2 g (by omega) (h.mem.2.2.1 g x)),zc h.shelves k (fun g x=>ne 3 g (by omega) (h.mem.2.2.2 g x)),h.len,h.proj.keep k (ne 4 · (by omega)),fun i s p dp a c d=>(h.sh i s p dp a c d).keep k (ne _ · (by omega)),h.mem,h.apart,fun i g x=>⟨(h.low i g x).1,k.lt (h.low i g x).2⟩,h.small⟩,hF⟩
 rcases x with rfl|rfl
 ·exact hF _ _ h.mem.1
 ·exact hF _ _ h.mem.2.1
theorem LgIn.sqTo {A:Nat→Nat→Prop}{F:Nat→Prop}{w w':World}{b:Nat}{dps sps:List Nat}{dv sv cv:Value}{q n:Nat}{L:Lg}{nx':Nat}(h:LgIn A w b dps sps dv sv cv q n L)(hF:∀i g,A i g→F g)(k:za (zq3 q) w w')
 (he:L.se=L.ep) (hq:w'.heap[q]? = some (SqB L.ep nx')) (hi:SqIn L.ep nx'):zan F w b n { L with next:=nx' } w':=by
 have e1:({ L with next:=nx' }:Lg)=⟨L.shs,L.ep,nx',L.ep⟩:=by rw[he]
 rw[e1];exact h.own hF (k.mono (fun g _ x=>.inr x)) (k.at h.blk (fun e=>by have e':b=q:=e;have:=h.apart 0 1 b h.mem.1 (e' ▸ h.mem.2.1);omega)) hq hi
theorem zf4 {F:Nat→Prop}{b n x:Nat}{L:Lg}(w:World)(h:zaH F w b n L)(hse:L.se=L.ep)(hx:x≤1048576) :
 Calls Tryz.prog 24 #[.pointer (some ⟨b,0,none⟩),.int .i64 x] w fun r w'=>r = .returned .nilIface∧zan F w b n { L with next:=max L.next x } w':=by
 obtain⟨A,dps,sps,dv,sv,cv,q,h,hF⟩:=h;have c2:=lg_2 h.blk;have c4:=lg_4 h.blk;have c2d:w.drew.cell? ⟨b,2,none⟩=some (.int .i64 L.ep):=c2;have c4d:w.drew.cell? ⟨b,4,none⟩=some (.pointer (some ⟨q,0,none⟩)):=c4;have hd:=h.keep ((za.refl zq2 w).drew) (fun _ _ _ e=>e)
 have hsq:=hd.sq;have hsi:=hd.sqin;rw[hse] at hsq hsi;have RS:=zmo q L.ep L.next L.ep x w.drew hsq hsi;rw[zhI L.ep x hx,zmn L.ep L.next x hx,zaK] at RS;have RS':=zz0 RS;have FIN:=zz0 (fun w' (k:za (zq3 q) w.drew w') (hq:w'.heap[q]? = some (SqB L.ep ((max L.next x:Nat):Int)))=>zan.pre (za.refl zq2 w).drew (hd.sqTo hF k hse hq (by have:=hsi;unfold SqIn at *;omega)))
 clear RS h hd c2 c4 hsq hsi
 go_enter Tryz.func24,Tryz.ntmps24
 go_wp2_with fail
 go_region_law(go_simp;go_at_call 60;refine RS'.out.mono ?_;rintro r w2 ⟨rfl,k,hq⟩;have K:=zz0 k;have HQ:=zz0 hq;clear k hq)
 all_goals go_wp2_with fail
 all_goals
  go_ret;exact⟨rfl,FIN.out _ K.out HQ.out⟩
theorem zdO {F:Nat→Prop}{b n:Nat}{L:Lg}(w:World)(h:zaH F w b n L)(hse:L.se=L.ep) :
 Calls Tryz.prog 15 #[.pointer (some ⟨b,0,none⟩)] w fun r w'=>r = .returned (.tuple #[.int .i64 L.next,.nilIface])∧za zq2 w w':=by
 obtain⟨A,dps,sps,dv,sv,cv,q,h,hF⟩:=h;have c2:=lg_2 h.blk;have c4:=lg_4 h.blk;have c2d:w.drew.cell? ⟨b,2,none⟩=some (.int .i64 L.ep):=c2;have c4d:w.drew.cell? ⟨b,4,none⟩=some (.pointer (some ⟨q,0,none⟩)):=c4;have hd:=h.keep ((za.refl zq2 w).drew) (fun _ _ _ e=>e)
 have hsq:=hd.sq;rw[hse] at hsq;have TL:=zoB q L.ep L.next L.ep w.drew hsq;have e0:askE L.ep L.ep=0:=by unfold askE;rw[if_neg (by omega),if_neg (by omega)]
 have e1:tailV L.ep L.next L.ep=L.next:=by unfold tailV;rw[if_pos e0]
 rw[e0,e1,zaK] at TL;have TL':=zz0 TL;clear TL h hd c2 c4 hsq
 go_enter Tryz.func15,Tryz.ntmps15
 go_wp2_with fail
 go_region_law(go_simp;go_at_call 42;refine TL'.out.mono ?_;rintro r w2 ⟨rfl,rfl⟩)
 all_goals go_wp2_with fail
 all_goals
  go_ret2;exact⟨rfl,(za.refl _ _).drew⟩
theorem zfj (j:Int)(w:World):(binOp .neq 35 .nilIface (.iface 89 (.int .i64 j))).run Tryz.prog w = .ok (.bool true) w:=by
 have h:∀d:Nat,(Op.equalIn (d+1) 35 .nilIface (.iface 89 (.int .i64 j))).run Tryz.prog w = .ok false w:=fun d=>by simp[Op.equalIn,run_underlying Tryz.underlying35]
 simp only[binOp];simp[Op.equal,Op.maxDepth,h 9999]
theorem ziv {b u e a m c:Nat}{pa:Option Addr}(Q:World→Prop)(w:World)
 (DO0:∀W,za zq2 w W→Calls Tryz.prog 56 #[.pointer (some ⟨b,0,none⟩),.int .i64 u,.agg #[.int .i64 3,.int .i64 e,.int .i64 a,.slice none 0 0]] W fun r w'=>(∃n:Int,r = .returned (.tuple #[.int .i64 n,.nilIface]))∧Q w') :
 Calls Tryz.prog 107 #[.pointer (some ⟨b,0,none⟩),.int .i64 u,.int .i64 e,.int .i64 a,.agg #[.int .i64 2,.slice pa m c]] w fun r w'=>r = .returned .nilIface∧Q w':=by
 have e1:=zfj 8;have k1:za zq2 w ((w.alloc (zqZ 2 (.slice pa m c))).alloc (zbq 3 e a (.slice none 0 0))):=((za.refl _ _).alloc _).alloc _;have b1:=zi (ze w (zqZ 2 (.slice pa m c))) (zbq 3 e a (.slice none 0 0));have k0:=cl0 b1;have kA:=k1;have DOA:=zz0 (DO0 _ kA);have e1':=e1;clear kA k1 DO0;dsimp only[zqZ,zbq] at *
 go_enter Tryz.func107,Tryz.ntmps107
 go_wp2_with(go_at_call 56;refine DOA.out.mono ?_;rintro r w2 ⟨⟨nn,rfl⟩,t⟩;have T:=zz0 t;clear t)
 go_ret;exact⟨rfl,T.out⟩
theorem ziu {b u e a m c:Nat}{pa:Option Addr}(Q:World→Prop)(w:World)
 (DO0:∀W,za zq2 w W→Calls Tryz.prog 56 #[.pointer (some ⟨b,0,none⟩),.int .i64 u,.agg #[.int .i64 2,.int .i64 e,.int .i64 a,.slice pa m c]] W fun r w'=>(∃n:Int,r = .returned (.tuple #[.int .i64 n,.nilIface]))∧Q w') :
 Calls Tryz.prog 107 #[.pointer (some ⟨b,0,none⟩),.int .i64 u,.int .i64 e,.int .i64 a,.agg #[.int .i64 1,.slice pa m c]] w fun r w'=>r = .returned .nilIface∧Q w':=by
 have e1:=zfj 8;have b1:=zi (ze w (zqZ 1 (.slice pa m c))) (zbq 3 e a (.slice none 0 0));have k0:=cl0 b1;have c1:=cl1 b1;have kA:za zq2 w ((w.alloc (zqZ 1 (.slice pa m c))).alloc (zbq 2 e a (.slice pa m c))).drew:=(((za.refl _ _).alloc _).alloc _).drew;have c1d:((w.alloc (zqZ 1 (.slice pa m c))).alloc (zbq 3 e a (.slice none 0 0))).drew.cell? ⟨w.heap.size,1,none⟩=some (.slice pa m c):=c1;have b2:=zi (ze w (zqZ 1 (.slice pa m c))) (zbq 2 e a (.slice none 0 0));have c1e:((w.alloc (zqZ 1 (.slice pa m c))).alloc (zbq 2 e a (.slice none 0 0))).drew.cell? ⟨w.heap.size,1,none⟩=some (.slice pa m c):=cl1 b2;have b3:=zi (ze w (zqZ 1 (.slice pa m c))) (zbq 2 e a (.slice pa m c));have c0g:((w.alloc (zqZ 1 (.slice pa m c))).alloc (zbq 2 e a (.slice pa m c))).drew.cell? ⟨w.heap.size,0,none⟩=some (.int .i64 1):=cl0 b3;clear b1 b2 b3;have DOA:=zz0 (DO0 _ kA);have e1':=e1;clear kA DO0;dsimp only[zqZ,zbq] at *
 go_enter Tryz.func107,Tryz.ntmps107
 go_wp2_with fail
 go_region
 all_goals go_wp2_with(go_at_call 56;refine DOA.out.mono ?_;rintro r w2 ⟨⟨nn,rfl⟩,t⟩;have T:=zz0 t;clear t)
 all_goals
  go_ret;exact⟨rfl,T.out⟩
theorem zf3 {F:Nat→Prop}{b n u e a m c:Nat}{pa:Option Addr}{L:Lg}{s s2:Sh}(R:(Nat→Prop)→World→Prop)(w:World)(h:zaH F w b n L)(hs:L.shs[u]? = some s)(hlay:Lay w)
 (ha:Acts s s2 (.agg #[.int .i64 3,.int .i64 e,.int .i64 a,.slice none 0 0]) R) (hR:∀w' F',za zq2 w w'→(∀g,F' g→F g)→R F' w') :
 Calls Tryz.prog 107 #[.pointer (some ⟨b,0,none⟩),.int .i64 u,.int .i64 e,.int .i64 a,.agg #[.int .i64 2,.slice pa m c]] w fun r w'=>r = .returned .nilIface∧zan F w b n { L with shs:=L.shs.set u s2 } w' :=
 ziv _ w (fun W k=>(zfe 3 e a 0 0 none R W (h.keepNon k) hs (hlay.keepNon k) ha (fun w' F' k' hF=>hR w' F' (k.trans1 k') hF)).mono (fun r w' x=>⟨x.1,zan.pre k x.2⟩))
theorem zf2 {F:Nat→Prop}{b n u e a m c:Nat}{pa:Option Addr}{L:Lg}{s s2:Sh}(R:(Nat→Prop)→World→Prop)(w:World)(h:zaH F w b n L)(hs:L.shs[u]? = some s)(hlay:Lay w)
 (ha:Acts s s2 (.agg #[.int .i64 2,.int .i64 e,.int .i64 a,.slice pa m c]) R) (hR:∀w' F',za zq2 w w'→(∀g,F' g→F g)→R F' w') :
 Calls Tryz.prog 107 #[.pointer (some ⟨b,0,none⟩),.int .i64 u,.int .i64 e,.int .i64 a,.agg #[.int .i64 1,.slice pa m c]] w fun r w'=>r = .returned .nilIface∧zan F w b n { L with shs:=L.shs.set u s2 } w' :=
 ziu _ w (fun W k=>(zfe 2 e a m c pa R W (h.keepNon k) hs (hlay.keepNon k) ha (fun w' F' k' hF=>hR w' F' (k.trans1 k') hF)).mono (fun r w' x=>⟨x.1,zan.pre k x.2⟩))
end Go.Proofs.YtpojgmeoaflmoaaGreatDoor
namespace Go.Proofs.YtpojgmeoaflmoaaGreatDoor
open Go.RowKit
theorem zk6 (g:Nat)(x y z:Value)(a:Option Addr)(c:Nat)(us:List Nat)(I:Nat→World→Prop)(w:World)
 (eg:∀args w,(callFunc g args).run Tryz.prog w = .ok (.enter g args) w)
 (hr:∀(j:Nat) W,j<us.length→I j W→Rd W (.slice a us.length c) (us.map iv)) (h0:I 0 w) (hl:us.length≤1000)
 (hs:∀(j u:Nat) W,us[j]? = some u→I j W→Calls Tryz.prog g #[.int .i64 u,x,y,z] W fun e w'=>e = .returned .nilIface∧I (j+1) w') :
 Calls Tryz.prog 54 #[.slice a us.length c,.func (.func g) #[] #[x,y,z]] w fun e w'=>e = .returned .nilIface∧I us.length w':=by
 have HS:=zz0 hs;have HR:=zz0 hr;clear hs hr
 go_enter Tryz.func54,Tryz.ntmps54
 go_wp2_with fail
 go_loopw [10] (fun i wr=>∃j:Nat,j≤us.length∧i = .int .i64 j∧I j wr) (fun i _=>us.length-(intOf i).toNat)
 case atStart=>exact⟨0,by omega,rfl,h0⟩
 case round =>
  obtain⟨j,hj,rfl,hi⟩:=hrel;have HI:=zz0 hi;clear hi;by_cases hlt:j<us.length
  ·have hrd:=HR.out j wr hlt HI.out
   have hlj:(j:Int)<(us.length:Int):=by omega
   obtain⟨b,off,rfl,hc⟩:∃b off,a=some ⟨b,off,none⟩∧∀(k:Nat) u,(us.map iv)[k]? = some u→wr.cell? ⟨b,off+k,none⟩=some u:=by
    obtain⟨a',c',e,hx⟩:=hrd;injection e with e1 e2 e3
    obtain⟨g',off,e4,hc⟩:=hx (by intro e;have e':=List.map_eq_nil_iff.1 e;rw[e'] at hlt;exact absurd hlt (by simp))
    exact⟨g',off,e1.trans e4,hc⟩
   obtain⟨u,hu⟩:∃u,us[j]? = some u:=⟨_,List.getElem?_eq_getElem hlt⟩;have hcell:wr.cell? ⟨b,off+j,none⟩=some (.int .i64 (u:Int)):=hc j _ (by rw[List.getElem?_map,hu];rfl)
   have ST:=zz0 (HS.out j u wr hu HI.out);clear hc hrd hu;clear HR
   go_wp2_with fail
   refine ST.out.mono ?_;rintro e w1 ⟨rfl,i1⟩;have I1:=zz0 i1;clear i1 ST HS
   go_wp2_with fail
   exact⟨⟨j+1,by omega,by first|rfl|go_num,I1.out⟩,by simp[intOf];omega⟩
  ·obtain rfl:j=us.length:=by omega
   go_wp2_with fail
   go_ret;exact⟨rfl,HI.out⟩
end Go.Proofs.YtpojgmeoaflmoaaGreatDoor
namespace Go.Proofs.YtpojgmeoaflmoaaGreatDoor
open Go.RowKit Go.Maps
theorem zaH.low {F:Nat→Prop}{w:World}{b n:Nat}{L:Lg}(h:zaH F w b n L):zaH (fun g=>F g∧g<w.heap.size) w b n L:=by
 obtain⟨A,dps,sps,dv,sv,cv,q,h,hF⟩:=h;exact⟨A,dps,sps,dv,sv,cv,q,h,fun i g e=>⟨hF i g e,(h.low i g e).2⟩⟩
theorem zan.ofLow {F:Nat→Prop}{w w':World}{b n:Nat}{L:Lg}{m:Nat}(h:zan (fun g=>F g∧g<m) w b n L w'):zan F w b n L w':=by
 obtain⟨k,F',s,h⟩:=h;exact⟨k.mono (fun _ _ x=>x.1),F',fun g x=>by rcases s g x with y|y;exact .inl y.1;exact .inr y,h⟩
def PbB (b:Nat):Obj:=.cells #[.pointer (some ⟨b,0,none⟩)] 28 (0,0)
theorem pb_0 {w:World}{g b:Nat}(h:w.heap[g]? = some (PbB b)):w.cell? ⟨g,0,none⟩=some (.pointer (some ⟨b,0,none⟩)):=by simp[World.cell?,h,PbB]
def InB (x:Int):Obj:=.cells #[.int .i64 x] 3 (0,0)
theorem in_0 {w:World}{g:Nat}{x:Int}(h:w.heap[g]? = some (InB x)):w.cell? ⟨g,0,none⟩=some (.int .i64 x):=by simp[World.cell?,h,InB]
theorem zhX (args:Array Value)(w:World):(callFunc 106 args).run Tryz.prog w = .ok (.enter 106 args) w:=zcE Tryz.func106 (by kernel_rfl) rfl args w
theorem zhy (u g h j b a e:Nat)(k:Int)(xa:Option Addr)(m xc:Nat)(w:World)(Q:World→Prop)(c2:w.cell? ⟨b,2,none⟩=some (.int .i64 e))(g0:w.cell? ⟨g,0,none⟩=some (.pointer (some ⟨b,0,none⟩)))(h0:w.cell? ⟨h,0,none⟩=some (.int .i64 a))(j0:w.cell? ⟨j,0,none⟩=some (.int .i64 k))(j1:w.cell? ⟨j,1,none⟩=some (.slice xa m xc))
 (hp:Calls Tryz.prog 107 #[.pointer (some ⟨b,0,none⟩),.int .i64 u,.int .i64 e,.int .i64 a,.agg #[.int .i64 k,.slice xa m xc]] w.drew fun r w'=>r = .returned .nilIface∧Q w') :
 Calls Tryz.prog 106 #[.int .i64 u,.pointer (some ⟨g,0,none⟩),.pointer (some ⟨h,0,none⟩),.pointer (some ⟨j,0,none⟩)] w fun r w'=>r = .returned .nilIface∧Q w':=by
 have HP:=zz0 hp;have c2d:w.drew.cell? ⟨b,2,none⟩=some (.int .i64 e):=c2;have g0d:w.drew.cell? ⟨g,0,none⟩=some (.pointer (some ⟨b,0,none⟩)):=g0;have h0d:w.drew.cell? ⟨h,0,none⟩=some (.int .i64 a):=h0;have j0d:w.drew.cell? ⟨j,0,none⟩=some (.int .i64 k):=j0;have j1d:w.drew.cell? ⟨j,1,none⟩=some (.slice xa m xc):=j1;clear hp c2 g0 h0 j0 j1
 go_enter Tryz.func106,Tryz.ntmps106
 go_wp2_with fail
 go_region_law(go_simp;go_at_call 107;refine HP.out.mono ?_;rintro r w2 ⟨rfl,hq⟩;have HQ:=zz0 hq;clear hq)
 all_goals go_wp2_with fail
 all_goals
  go_ret;exact⟨rfl,HQ.out⟩
theorem ziw {F0:Nat→Prop}{b n a u m c xc:Nat}{k:Int}{pa:Option Addr}{xa:Option Addr}{L L2:Lg}(w:World)(h0:zaH F0 w b n L)(he:L2.ep=L.ep)(hse:L2.se=L2.ep)(hu:Is w (.slice pa 1 c) [u])(ha:a+1≤1048576)
 (hp:∀W F,za zq2 w W→(∀g,F g→F0 g∧g<w.heap.size)→zaH F W b n L→Calls Tryz.prog 107 #[.pointer (some ⟨b,0,none⟩),.int .i64 u,.int .i64 L.ep,.int .i64 a,.agg #[.int .i64 k,.slice xa m xc]] W fun r w'=>r = .returned .nilIface∧zan F W b n L2 w') :
 Calls Tryz.prog 53 #[.pointer (some ⟨b,0,none⟩),.slice pa 1 c,.int .i64 a,.agg #[.int .i64 k,.slice xa m xc]] w fun r w'=>r = .returned .nilIface∧zan F0 w b n { L2 with next:=max L2.next (a+1) } w':=by
 have h:=h0.low;obtain⟨F,hFF⟩:∃F,F=fun g=>F0 g∧g<w.heap.size:=⟨_,rfl⟩
 rw[←hFF] at h;have kA:za zq2 w (((w.alloc (PbB b)).alloc (InB a)).alloc (zqZ k (.slice xa m xc))):=(((za.refl _ _).alloc _).alloc _).alloc _;have b0:(((w.alloc (PbB b)).alloc (InB a)).alloc (zqZ k (.slice xa m xc))).heap[w.heap.size]? = some (PbB b):=zi (zi (ze _ _) _) _;have b1:(((w.alloc (PbB b)).alloc (InB a)).alloc (zqZ k (.slice xa m xc))).heap[w.heap.size+1]? = some (InB a):=zi (zao _ _ _) _;have b2:(((w.alloc (PbB b)).alloc (InB a)).alloc (zqZ k (.slice xa m xc))).heap[w.heap.size+1+1]? = some (zqZ k (.slice xa m xc)):=by
  have:=zao (w.alloc (PbB b)) (InB a) (zqZ k (.slice xa m xc))
  rwa [World.size_alloc] at this
 generalize hwA:((w.alloc (PbB b)).alloc (InB a)).alloc (zqZ k (.slice xa m xc))=wA at kA b0 b1 b2;have hA:=h.keepNon kA;have hlowF:∀g,F g→g<w.heap.size:=fun g x=>by rw[hFF] at x;exact x.2
 have c2A:wA.cell? ⟨b,2,none⟩=some (.int .i64 L.ep):=by
  obtain⟨A,dps,sps,dv,sv,cv,q,h,hF⟩:=hA;exact lg_2 h.blk
 have ALL:=zz0 (zk6 106 (.pointer (some ⟨w.heap.size,0,none⟩)) (.pointer (some ⟨w.heap.size+1,0,none⟩)) (.pointer (some ⟨w.heap.size+1+1,0,none⟩)) pa c [u]
  (fun j W=>(j=0→W=wA)∧(j=1→zan F wA b n L2 W)) wA zhX (fun j W hj hI=>by
    obtain rfl:j=0:=by simp at hj;omega
    rw[hI.1 rfl];exact hu.keepNon kA) ⟨fun _=>rfl,fun x=>absurd x (by omega)⟩ (by simp) (fun j u' W hj hI=>by
    obtain rfl:j=0:=by
     rcases j with _|j
     ·rfl
     ·simp at hj
    obtain rfl:u=u':=by simpa using hj
    rw[hI.1 rfl];refine(zhy u w.heap.size (w.heap.size+1) (w.heap.size+1+1) b a L.ep k xa m xc wA (fun w'=>zan F wA b n L2 w') c2A (pb_0 b0) (in_0 b1) (cl0 b2) (cl1 b2) ((hp wA.drew F (kA.drew) (fun g x=>by rw[hFF] at x;exact x) (hA.keepNon (za.refl _ _).drew)).mono (fun r w' ⟨x,y⟩=>⟨x,zan.pre (za.refl _ _).drew y⟩))).mono (fun r w' ⟨x,y⟩=>⟨x,fun e=>absurd e (by omega),fun _=>y⟩)))
 have AFT:Hid (∀W,zan F wA b n L2 W→W.cell? ⟨w.heap.size,0,none⟩=some (.pointer (some ⟨b,0,none⟩))∧W.cell? ⟨w.heap.size+1,0,none⟩=some (.int .i64 a) ∧
  Calls Tryz.prog 24 #[.pointer (some ⟨b,0,none⟩),.int .i64 ((a+1:Nat):Int)] W fun r w'=>r = .returned .nilIface∧zan F0 w b n { L2 with next:=max L2.next (a+1) } w'):=zz0 (by
  rintro W ⟨k,F',s,hL⟩;refine⟨pb_0 (k.at b0 (fun x=>by have:=hlowF _ x;omega)),in_0 (k.at b1 (fun x=>by have:=hlowF _ x;omega)),(zf4 W hL hse (by omega)).mono ?_⟩
  rintro r w' ⟨x,y⟩;refine⟨x,?_⟩;have t:=zan.pre kA (zan.trans s k y);rw[hFF] at t;exact t.ofLow)
 clear h0 h hA b0 b1 b2 c2A hu hp hlowF;subst hwA;dsimp only[PbB,InB,zqZ,List.length_singleton] at ALL AFT;have e1:((a+1:Nat):Int)=(a:Int)+1:=by omega
 rw[e1] at AFT
 go_enter Tryz.func53,Tryz.ntmps53
 go_wp2_with(first
  |(go_at_call 54;refine ALL.out.mono ?_;rintro r w2 ⟨rfl,_,t⟩;obtain⟨p0,p1,rc⟩:=AFT.out w2 (t rfl);have RC:=zz0 rc;clear t rc)
  |(go_at_call 24;refine RC.out.mono ?_;rintro r w3 ⟨rfl,t3⟩;have T3:=zz0 t3;clear t3))
 go_ret;exact⟨rfl,T3.out⟩
end Go.Proofs.YtpojgmeoaflmoaaGreatDoor
