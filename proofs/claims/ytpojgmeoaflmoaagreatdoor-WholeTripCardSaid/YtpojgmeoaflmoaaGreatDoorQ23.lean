/- unit.Read, Copy, Write: walked. -/
import Derived.Test.YtpojgmeoaflmoaaGreatDoorQ22
set_option linter.unusedVariables false
set_option maxRecDepth 100000
set_option maxHeartbeats 16000000
namespace Go.Proofs.YtpojgmeoaflmoaaGreatDoor
open Go.RowKit Go.Maps
theorem zm2 (F:Nat→Prop)(b e l a:Nat)(D:Un)(w:World)(h:zcn F w b e l D)(ha:a≤1048575)(hx:(uat l D a).2.length≤100000000) :
 Calls Tryz.prog 124 #[.pointer (some ⟨b,0,none⟩),.int .i64 e,.int .i64 a] w fun r w'=>∃v,r = .returned (.tuple #[.agg #[.int .i64 (uat l D a).1,v],.nilIface])∧za zq2 w w'∧w'.ownsRow w.heap.size 5 1 v (uat l D a).2.length ((uat l D a).2.map bv):=by
 have AS:=zz0 (fun W (k:za zq2 w W)=>zd0 F b e l D W (h.keepNon k))
 have AT:=zz0 (fun W (k:za zq2 w W)=>ziY F b e l a D W (h.keepNon k) (by omega))
 clear h;generalize (uat l D a)=x at AT hx ⊢;obtain⟨kx,lx⟩:=x;dsimp only at hx ⊢
 go_enter Tryz.func124,Tryz.ntmps124
 have kA:za zq2 w (w.alloc (zqZ 0 (.slice none 0 0))):=(za.refl _ _).alloc _;have ASA:=zz0 (AS.out _ kA);have ATA:=zz0 (AT.out _ kA);have KA:=zz0 kA;have B0:=zz0 (ze w (zqZ 0 (.slice none 0 0)));have CP:=zz0 (fun W v (h:Bs W v lx)=>zg8 kx v lx W h hx)
 dsimp only[zqZ] at ASA ATA;clear kA AS AT
 go_wp2_with(first
  |(go_at_call 190;refine(zdo _ _ _ (by omega) (by omega)).mono ?_;rintro r w1 ⟨rfl,rfl⟩)
  |(go_at_call 189;refine ASA.out.mono ?_;rintro r w1 ⟨rfl,rfl⟩)
  |(go_at_call 192;refine ATA.out.mono ?_;rintro r w1 ⟨v,rfl,⟨u,rfl,hu,_⟩,k1⟩;have K1:=zz0 (KA.out.trans1 k1);have CPW:=zz0 (CP.out w1 u hu);have B1:=zz0 (k1.at B0.out (fun e=>e));clear k1 hu)
  |(go_at_call 191;refine CPW.out.mono ?_;rintro r w2 ⟨v2,rfl,k2,o2⟩;obtain⟨a2,c2,rfl,_,_⟩:=zb o2;have K2:=zz0 (K1.out.trans1 k2);have O2:=zz0 (zg o2 K1.out.size);have b2:=k2.at B1.out (fun e=>e);have S2:Hid (w.heap.size<w1.heap.size):=zz0 (lt_of_block B1.out);have OG:Hid (∀g,(Value.slice a2 lx.length c2).ownBlock=some g→w1.heap.size≤g):=zz0 (fun g e=>(o2.lt g e).1);have d0:=cl0 b2;have d1:=cl1 b2;have f0:=clf b2 0;have f1:=clf b2 1;have k0':=cl0 (za1 b2 kx);have q0:=cl0 (zbG (za1 b2 kx) (.slice a2 lx.length c2));have q1:=cl1 (zbG (za1 b2 kx) (.slice a2 lx.length c2));clear k2 o2 b2))
 refine bodyPost_ret (v:=.tuple #[.agg #[.int .i64 kx,.slice a2 lx.length c2],.nilIface]) (by simp[results,Tryz.results124,go_sem,q0,q1]) rfl ?_
 have s2:=S2.out;have k3:za (zq3 w.heap.size) w2 ((w2.setCell ⟨w.heap.size,0,none⟩ (.int .i64 kx)).setCell ⟨w.heap.size,1,none⟩ (.slice a2 lx.length c2)):=((za.refl _ _).setOne _ _).setOne _ _;exact⟨_,rfl,K2.out.trans k3 (fun _ _ e=>e) (fun g hg e=>by have e':g=w.heap.size:=e;omega),zc O2.out k3 (fun g hg e=>by have e':g=w.heap.size:=e;have:=OG.out g hg;omega)⟩
theorem zh5 (F:Nat→Prop)(b e l:Nat)(D:Un)(w:World)(h:zcn F w b e l D)(hF:∀g,F g→g<w.heap.size) :
 Calls Tryz.prog 143 #[.pointer (some ⟨b,0,none⟩)] w fun r w'=>∃b',r = .returned (.pointer (some ⟨b',0,none⟩))∧za zq2 w w'∧w.heap.size≤b'∧zcn (fun g=>F g∨(w.heap.size≤g∧g<w'.heap.size)) w' b' e l D:=by
 obtain⟨T,m,h⟩:=h;have c0:=un_0 h.blk;have c1:=un_1 h.blk;have c2:=un_2 h.blk;obtain⟨es,clock,hm,hma,hmb⟩:=zcs h.cells;have H:=zz0 h;clear h
 go_enter Tryz.func143,Tryz.ntmps143
 have MC:=zz0 (zhz m es clock w.drew hm);have d0:w.drew.cell? ⟨b,0,none⟩=some (.int .i64 e):=c0;have d1:w.drew.cell? ⟨b,1,none⟩=some (.int .i64 l):=c1;have d2:w.drew.cell? ⟨b,2,none⟩=some (.map (some m)):=c2;have kd:za zq2 w (w.alloc (.map es clock)):=(za.refl _ _).alloc _;have hd:=H.out.keep kd (fun _ _ e=>e)
 have e0:=un_0 hd.blk;have e1:=un_1 hd.blk
 go_wp2_with fail
 go_region_law(go_simp;go_at_call 209;refine MC.out.mono ?_;rintro r w1 ⟨rfl,rfl⟩)
 all_goals go_wp2_with fail
 all_goals
  go_ret;have k2:za zq2 (w.alloc (.map es clock)) ((w.alloc (.map es clock)).alloc (UnB e l w.heap.size)).drew:=((za.refl _ _).alloc _).drew;have hb:((w.alloc (.map es clock)).alloc (UnB e l w.heap.size)).drew.heap[w.heap.size+1]? = some (UnB e l w.heap.size):=zao w (.map es clock) (UnB e l w.heap.size);have kk:za zq2 w ((w.alloc (.map es clock)).alloc (UnB e l w.heap.size)).drew:=kd.trans1 k2;have hT:=H.out.outT.2.2;exact⟨w.heap.size+1,rfl,kk,by omega,T,w.heap.size,hb,zF.keep hma k2 (fun x=>x) (zcS.fun1 _ _) (fun v x hx=>hx.keep kk (fun _ _ x=>x) (fun _ x=>x)),⟨.inr (by first|(simp;done)|(simp;omega)),.inr (by first|(simp;done)|(simp;omega)),fun g x=>.inl (H.out.inF.2.2 g x)⟩,by omega,⟨fun x=>by have:=hT _ x;omega,fun x=>by have:=hT _ x;omega,fun g x=>kk.lt (hT g x)⟩,H.out.ep,H.out.lo,H.out.keys⟩
end Go.Proofs.YtpojgmeoaflmoaaGreatDoor
