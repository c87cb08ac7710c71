/- cursor.Step: walked. · Puts and deletes  -/
import Derived.Test.YtpojgmeoaflmoaaGreatDoorQ13
set_option linter.unusedVariables false
set_option maxRecDepth 100000
set_option maxHeartbeats 16000000
namespace Go.Proofs.YtpojgmeoaflmoaaGreatDoor
open Go.RowKit
def holdBS (t:TypeId)(n:Nat)(parts:Array (Nat×Value)):Sem Value:=Instr.buildSlice t n parts
theorem hBS52 (n:Nat)(parts:Array (Nat×Value)):Instr.buildSlice 52 n parts=holdBS 52 n parts:=rfl
theorem zeL (p:Pt)(h:p.sum.length=32)(w:World):(holdBS 52 1 #[(0,ptV p)]).run Tryz.prog w = .ok (.slice (some ⟨w.heap.size,0,none⟩) 1 1) (w.alloc (zq4 p)):=by
 obtain⟨f,m,s,D⟩:=p;obtain⟨d0,d1,d2,d3,d4,d5,d6,d7,d8,d9,d10,d11,d12,d13,d14,d15,d16,d17,d18,d19,d20,d21,d22,d23,d24,d25,d26,d27,d28,d29,d30,d31,rfl⟩:=list32 D h
 kernel_rfl
theorem zfV {w1 W0 w3:World}{n:Nat}{a2:Option Addr}{c2:Nat}{xs ys:List Value}{v3:Value}(k10:za zq2 w1 W0)(o2:W0.ownsRow w1.heap.size 125 35 (.slice a2 n c2) n xs)(ho:w3.ownsRow w1.heap.size 125 35 v3 (n+1) (xs++ys))(hg:W0.grownBy w3 (Value.slice a2 n c2).ownBlock) :
 ∃a3 c3,v3 = .slice a3 (n+1) c3∧za zq2 w1 w3:=by
 obtain⟨a3,c3,rfl,_,_⟩:=zb ho;have hk:za (fun k=>(Value.slice a2 n c2).ownBlock=some k) W0 w3:=za.grown (za.refl _ _) hg (fun k e=>.inl e)
 exact⟨a3,c3,rfl,k10.trans hk (fun _ _ e=>e) (fun g hg e=>by have:=(o2.lt g e).1;omega)⟩
theorem zey {w:World}{b:Nat}{p:Pt}(h:w.heap[b]? = some (zq4 p)):∀(j:Nat) u,(zq8 p)[j]? = some u→w.cell? ((⟨b,0,none⟩:Addr).add j)=some u:=by
 intro j u hu;rw[zag,Nat.zero_add,cell_of_row _ _ j _ _ _ h];simpa using hu
theorem zex (p:Pt):∀u ∈ zq8 p,u.oneCell'=true:=by
 intro u hu;have:=ziB p;rw[List.all_toArray,List.all_eq_true] at this;exact this u hu
theorem zn4 {w w':World}{p:Nat}{b:Nat}{o:Obj}(k:za (zq3 p) w w')(h:w.heap[b]? = some o)(hne:b≠p):w'.heap[b]? = some o:=k.at h hne
theorem zlj {w:World}{b:Nat}{c:Cu}{pv:Value}(h:w.heap[b]? = some (zq0 c pv))(v:Value):(w.setCell ⟨b,4,none⟩ v).heap[b]? = some (zq0 c v):=zj h 4 _
theorem zpj {w:World}{b:Nat}{c:Cu}{pv:Value}(h:w.heap[b]? = some (zq0 c pv))(n:Nat):(w.setCell ⟨b,1,none⟩ (.int .i64 n)).heap[b]? = some (zq0 { c with next:=n } pv):=zj h 1 _
theorem zdu {w:World}{b:Nat}{c0:Cu}{v0:Value}(h:w.heap[b]? = some (zq0 c0 v0))(x0 x1 x2 x3 x4:Value) :
 ∀W,W=(((((w.setCell ⟨b,0,none⟩ x0).setCell ⟨b,1,none⟩ x1).setCell ⟨b,2,none⟩ x2).setCell ⟨b,3,none⟩ x3).setCell ⟨b,4,none⟩ x4) →
 W.cell? ⟨b,0,none⟩=some x0∧W.cell? ⟨b,1,none⟩=some x1∧W.cell? ⟨b,2,none⟩=some x2∧W.cell? ⟨b,3,none⟩=some x3∧W.cell? ⟨b,4,none⟩=some x4∧za (zq3 b) w W:=by
 rintro W rfl;have h5:=zj (zj (zj (zj (zj h 0 x0) 1 x1) 2 x2) 3 x3) 4 x4;exact⟨by simp[World.cell?,h5],by simp[World.cell?,h5],by simp[World.cell?,h5],by simp[World.cell?,h5],by simp[World.cell?,h5],(((((za.refl (zq3 b) w).setOne 0 x0).setOne 1 x1).setOne 2 x2).setOne 3 x3).setOne 4 x4⟩
section
attribute [local go_sem ↓] zbB zU zbC zbD zV zbE zab zbK hBS52
def zb8 (c:Cu)(p:Pt):Cu:={ c with next:=c.next+p.many,parts:=c.parts ++ [p] }
theorem zll (c:Cu)(p:Pt)(pv:Value)(w:World)(h:zdQ c)(hp:zC w pv c.parts)(h32:zbI c.parts)(hp5:p.sum.length=32)(h':zdQ (zb8 c p)) :
 Calls Tryz.prog 185 #[cuV c pv,ptV p] w fun e w'=>∃v',e = .returned (.tuple #[cuV (zb8 c p) v',.nilIface])∧za zq2 w w'∧w'.ownsRow w.heap.size 125 35 v' (c.parts.length+1) (zaP (c.parts ++ [p])):=by
 have CK:=zz0 (fun w1 (k:za zq2 w w1)=>zdb c pv w1 h (hp.keepNon k))
 have CL:=zz0 (fun w1 (k:za zq2 w w1)=>zdD pv c.parts w1 (hp.keepNon k) h32 (Nat.le_trans h.many (by decide)))
 have hbu:=zeL p hp5;obtain⟨a,k,rfl,hk0,ha,hx⟩:=hp;have q1:=ptc_1 p;clear hx ha;unfold cuV ptV at *
 go_enter Tryz.func185,Tryz.ntmps185
 have e0:((w.alloc (zq0 c (.slice a c.parts.length k))).alloc (zq4 p)).heap[w.heap.size]? = some (zq0 c (.slice a c.parts.length k)):=zi (ze _ _) _;have bc:(((w.alloc (zq0 c (.slice a c.parts.length k))).alloc (zq4 p)).alloc (zq0 ⟨0,0,0,0,[]⟩ (.slice none 0 0))).heap[w.heap.size]? = some (zq0 c (.slice a c.parts.length k)):=zi e0 _;have bp:(((w.alloc (zq0 c (.slice a c.parts.length k))).alloc (zq4 p)).alloc (zq0 ⟨0,0,0,0,[]⟩ (.slice none 0 0))).heap[w.heap.size+1]? = some (zq4 p):=zi (zaa _ _ _) _;have bz:(((w.alloc (zq0 c (.slice a c.parts.length k))).alloc (zq4 p)).alloc (zq0 ⟨0,0,0,0,[]⟩ (.slice none 0 0))).heap[w.heap.size+1+1]? = some (zq0 ⟨0,0,0,0,[]⟩ (.slice none 0 0)):=by
  have:=zaa (w.alloc (zq0 c (.slice a c.parts.length k))) (zq4 p) (zq0 ⟨0,0,0,0,[]⟩ (.slice none 0 0))
  rwa [World.size_alloc] at this
 have kA:za zq2 w (((w.alloc (zq0 c (.slice a c.parts.length k))).alloc (zq4 p)).alloc (zq0 ⟨0,0,0,0,[]⟩ (.slice none 0 0))):=(((za.refl _ _).alloc _).alloc _).alloc _;have sA:w.heap.size+3≤(((w.alloc (zq0 c (.slice a c.parts.length k))).alloc (zq4 p)).alloc (zq0 ⟨0,0,0,0,[]⟩ (.slice none 0 0))).heap.size:=by simp
 obtain⟨wA,hwA⟩:∃wA,wA=(((w.alloc (zq0 c (.slice a c.parts.length k))).alloc (zq4 p)).alloc (zq0 ⟨0,0,0,0,[]⟩ (.slice none 0 0))):=⟨_,rfl⟩;rw[←hwA] at bc bp bz kA sA;dsimp only[zq0,zq4] at hwA;obtain⟨i0,hi0,hz0,hz1,hz2⟩:=info_parts infoPt;have I0:=zz0 (And.intro hi0 (And.intro hz0 (And.intro hz1 hz2)));have BC:=zz0 bc;have BP:=zz0 bp;have BZ:=zz0 bz;have KA:=zz0 kA;have SA:=zz0 sA;have HWA:=zz0 hwA;clear e0 bc bp bz kA sA hwA hi0 hz0 hz1 hz2
 go_wp2_with(go_at_call 178;refine(CK.out _ ((((za.refl zq2 w).alloc _).alloc _).alloc _)).mono ?_;rintro e w1 ⟨rfl,k1⟩;have k1':za zq2 wA w1:=(by rw[HWA.out];exact k1);have b1:=zh k1' BC.out;have p1:=zh k1' BP.out;have z1:=zh k1' BZ.out;have c1:=cu_1 b1;have c4:=cu_4 b1;have B1:=zz0 b1;have P1:=zz0 p1;have Z1:=zz0 z1;have K1:=zz0 (KA.out.trans1 k1');have S1:Hid (w.heap.size+3≤w1.heap.size):=zz0 (Nat.le_trans SA.out k1'.size);clear k1 k1' b1 p1 z1)
 have hl0:=zaB P1.out hp5;have hl1:(zZ 125 ⟨w.heap.size+1,0,none⟩).run Tryz.prog w1.drew = .ok (ptV p) w1.drew:=zaB (w:=w1.drew) P1.out hp5;have kp1:za zq2 w1 (w1.alloc (zq4 p)):=(za.refl _ _).alloc _;have c4p:=cu_4 (zh kp1 B1.out);dsimp only[zq4] at hbu c4p;unfold ptV at hl0 hl1;have CLa:=zz0 (CL.out w1.drew (K1.out.trans1 (za.refl zq2 w1).drew));have CLb:=zz0 (CL.out (w1.alloc (zq4 p)).drew (K1.out.trans1 kp1.drew));dsimp only[zq4] at CLb;clear kp1;have h64:=h'.many;have hle:=h'.le;have hhi:=h'.hi;simp only[zb8,List.length_append,List.length_singleton] at h64 hle hhi
 go_region_law(first
  |(refine zl (by rfl) (.tmp 16) (.tmp 18) 52 (by rfl) w1.heap.size 125 i0 (.agg zrb) 35 56 Tryz.underlying52 I0.out.1 I0.out.2.1 I0.out.2.2.1 I0.out.2.2.2 rfl (by decide) (.slice a2 c.parts.length c2) c.parts.length (zaP c.parts) (by first|rfl|simp[Act.eval,Act.put]) (by exact(zc O2.out ((za.refl zq2 w2).alloc (zq4 p)) (fun _ _ e=>e))) ⟨w2.heap.size,0,none⟩ 1 1 (zq8 p) (by first|rfl|simp[Act.eval,Act.put]) (by rw[zbc hp5]) (by exact zey N2.out) (zex p) (by unfold maxLen;omega) (by omega) (by have:=K2.out.size;simp;omega) ?_;intro v3 w3 ho hg hpp;obtain⟨a3,c3,rfl,k3⟩:=zfV (K2.out.trans1 ((za.refl zq2 w2).alloc (zq4 p))) (zc O2.out ((za.refl zq2 w2).alloc (zq4 p)) (fun _ _ e=>e)) ho hg;have b3:=zh k3 B1.out;have p3:=zh k3 P1.out;have z3:=zh k3 Z1.out;have d0:=cu_0 b3;have d1:=cu_1 b3;have d2:=cu_2 b3;have d3:=cu_3 b3;have d4:=cu_4 b3;have f1:=zb5 b3 1;have f4:=zb5 b3 4;have e1:=pt_1 p3;have B3:=zz0 b3;have Z3:=zz0 z3;have K3:=zz0 (K1.out.trans1 k3);have O3:=zz0 ho;have S3:Hid (w.heap.size+3≤w3.heap.size):=zz0 (Nat.le_trans S1.out k3.size);clear ho hg hpp k3 b3 p3 z3)
  |(refine zl (by rfl) (.tmp 16) (.tmp 18) 52 (by rfl) w1.heap.size 125 i0 (.agg zrb) 35 56 Tryz.underlying52 I0.out.1 I0.out.2.1 I0.out.2.2.1 I0.out.2.2.2 rfl (by decide) (.slice a2 c.parts.length c2) c.parts.length (zaP c.parts) (by first|rfl|simp[Act.eval,Act.put]) (by exact O2.out) ⟨w1.heap.size,0,none⟩ 1 1 (zq8 p) (by first|rfl|simp[Act.eval,Act.put]) (by rw[zbc hp5]) (by exact zey M2.out) (zex p) (by unfold maxLen;omega) (by omega) (by have:=K2.out.size;simp;omega) ?_;intro v3 w3 ho hg hpp;obtain⟨a3,c3,rfl,k3⟩:=zfV K2.out O2.out ho hg;have b3:=zh k3 B1.out;have p3:=zh k3 P1.out;have z3:=zh k3 Z1.out;have d0:=cu_0 b3;have d1:=cu_1 b3;have d2:=cu_2 b3;have d3:=cu_3 b3;have d4:=cu_4 b3;have f1:=zb5 b3 1;have f4:=zb5 b3 4;have e1:=pt_1 p3;have B3:=zz0 b3;have Z3:=zz0 z3;have K3:=zz0 (K1.out.trans1 k3);have O3:=zz0 ho;have S3:Hid (w.heap.size+3≤w3.heap.size):=zz0 (Nat.le_trans S1.out k3.size);clear ho hg hpp k3 b3 p3 z3)
  |(go_simp;go_at_call 61;first
   |((with_reducible refine CLa.out.mono ?_);rintro e w2 ⟨v2,rfl,k2,o2⟩;have k2':=((za.refl zq2 w1).drew).trans1 k2;obtain⟨a2,c2,rfl,_,_⟩:=zb o2;have p2:=zh k2' P1.out;have hl2:=zaB p2 hp5;unfold ptV at hl2;have P2:=zz0 p2;have O2:Hid (w2.ownsRow w1.heap.size 125 35 (.slice a2 c.parts.length c2) c.parts.length (zaP c.parts)):=zz0 o2;have K2:=zz0 k2';have N2:=zz0 (ze w2 (zq4 p));clear k2 k2' o2 p2)
   |((with_reducible refine CLb.out.mono ?_);rintro e w2 ⟨v2,rfl,k2,o2⟩;have k2':=((za.refl zq2 w1).alloc (zq4 p)).drew.trans1 k2;obtain⟨a2,c2,rfl,_,_⟩:=zb o2;have M2:=zz0 (zh k2 (ze w1 (zq4 p)));have O2:Hid (w2.ownsRow w1.heap.size 125 35 (.slice a2 c.parts.length c2) c.parts.length (zaP c.parts)):=zz0 (zg o2 (by simp));have K2:=zz0 k2';clear k2 k2' o2)))
 all_goals
  have C2:Hid (∀W,za (zq3 w.heap.size) w3 W→Calls Tryz.prog 178 #[.agg #[.int .i64 c.lo,.int .i64 ((c.next:Int)+p.many),.int .i64 c.hi,.int .i64 c.trim,.slice a3 (c.parts.length+1) c3]] W fun e w'=>e = .returned .nilIface∧za zq2 W w'):=zz0 (fun W kk=>by
   have ho:=O3.out;have e:zaP c.parts++zq8 p=zaP (zb8 c p).parts:=by simp[zaP,zb8]
   have e2:c.parts.length+1=(zb8 c p).parts.length:=by simp[zb8]
   rw[e,e2] at ho;have ho2:=zc ho kk (fun g hg e2=>by have e':g=w.heap.size:=e2;have:=(ho.lt g hg).1;have:=S1.out;omega)
   have:=zdb (zb8 c p) _ W h' (zC.of ho2 (fun q hq=>by simp only[zb8,List.mem_append,List.mem_singleton] at hq;rcases hq with hq|rfl;exact h32 q hq;exact hp5))
   rw[←e2] at this;simpa [cuV,zb8] using this)
  go_wp2_with(go_at_call 178;refine(C2.out _ (((za.refl (zq3 w.heap.size) w3).setOne 4 _).setOne 1 _)).mono ?_;rintro e w6 ⟨rfl,k6⟩;have kk:za (zq3 w.heap.size) w3 w6:=(((za.refl (zq3 w.heap.size) w3).setOne 4 _).setOne 1 _).trans1 k6.ofNon;have z6:=zn4 kk Z3.out (by omega);have i0':=cu_0 z6;have i1':=cu_1 z6;have i2':=cu_2 z6;have i3':=cu_3 z6;have i4':=cu_4 z6;have j0':=zb5 z6 0;have j1':=zb5 z6 1;have j2':=zb5 z6 2;have j3':=zb5 z6 3;have j4':=zb5 z6 4;have l0:=zh k6 (zpj (zlj B3.out (.slice a3 (c.parts.length+1) c3)) (c.next+p.many));have m0:=cu_0 l0;have m1:=cu_1 l0;have m2:=cu_2 l0;have m3:=cu_3 l0;have m4:=cu_4 l0;have Z6:=zz0 z6;have KK:=zz0 kk;clear k6 kk z6 l0)
 all_goals
  obtain⟨r0,r1,r2,r3,r4,kf⟩:=zdu Z6.out (.int .i64 c.lo) (.int .i64 ((c.next:Int)+p.many)) (.int .i64 c.hi) (.int .i64 c.trim) (.slice a3 (c.parts.length+1) c3) _ rfl;refine bodyPost_ret (v:=.tuple #[.agg #[.int .i64 c.lo,.int .i64 ((c.next:Int)+p.many),.int .i64 c.hi,.int .i64 c.trim,.slice a3 (c.parts.length+1) c3],.nilIface]) (by simp[results,Tryz.results185,go_sem,r0,r1,r2,r3,r4]) rfl ?_
  have s1:=S1.out;have s3:=S3.out;have hk1:=K1.out.size;refine⟨.slice a3 (c.parts.length+1) c3,rfl,((K3.out.trans KK.out (fun _ _ e=>e) (fun g hg e=>by have e':g=w.heap.size:=e;omega))).trans kf (fun _ _ e=>e) (fun g hg e=>by have e':g=w.heap.size+1+1:=e;omega),?_⟩
  have e:zaP c.parts++zq8 p=zaP (c.parts ++ [p]):=by simp[zaP]
  have ho:=O3.out;rw[e] at ho;exact zg (zc (zc ho KK.out (fun g hg e2=>by have e':g=w.heap.size:=e2;have:=(ho.lt g hg).1;omega)) kf (fun g hg e2=>by have e':g=w.heap.size+1+1:=e2;have:=(ho.lt g hg).1;omega)) (by omega)
end
end Go.Proofs.YtpojgmeoaflmoaaGreatDoor
namespace Go.Proofs.YtpojgmeoaflmoaaGreatDoor
open Go.RowKit Go.Maps
theorem zoH (n:zqY):n≠tilde n:=by
 intro e;have:=congrArg List.length e;simp[tilde] at this
theorem Dk.free.write {X:Dk}(h:X.free){n b:zqY}(hb:b.length≤65536):X.write n b=if X.full n b then (5,X) else (0,X.add (.write n b)):=by
 unfold Dk.write;rw[h.works];simp only[ne_eq,not_true,if_false];rw[if_neg (by omega)]
theorem Dk.free.add {X:Dk}(h:X.free)(c:Chg):(X.add c).free:=h
def zae (D:Fl)(n b:zqY):Fl:=zcz (zcp (zcz D (tilde n) b) (tilde n)) n b
theorem zc6 {X:Dk}(h:X.free)(hm:IsMap X.shown)(n b:zqY)(hb:b.length≤65536) :
 X.sput n b=if X.full (tilde n) b then (5,X) else (0,{ X with sure:=zae X.shown n b,shown:=zae X.shown n b,pend:=[] }):=by
 unfold Dk.sput;rw[h.write hb];by_cases hf:X.full (tilde n) b
 ·rw[if_pos hf,if_pos hf]
  simp
 ·rw[if_neg hf,if_neg hf]
  have f1:(X.add (.write (tilde n) b)).free:=h.add _;simp only[ne_eq,not_true,if_false];rw[f1.sync];simp only[not_true,if_false];have f2:({ X.add (.write (tilde n) b) with sure:=(X.add (.write (tilde n) b)).shown,pend:=[] }:Dk).free:=f1
  have hr:({ X.add (.write (tilde n) b) with sure:=(X.add (.write (tilde n) b)).shown,pend:=[] }:Dk).rename (tilde n) n=(0,({ X.add (.write (tilde n) b) with sure:=(X.add (.write (tilde n) b)).shown,pend:=[] }:Dk).add (.rename (tilde n) n)):=by
   unfold Dk.rename;rw[f2.works];simp only[ne_eq,not_true,if_false];rw[if_pos];show zz (zcz X.shown (tilde n) b) (tilde n)=true;exact zba hm
  rw[hr];simp only[not_true,if_false];have f3:(({ X.add (.write (tilde n) b) with sure:=(X.add (.write (tilde n) b)).shown,pend:=[] }:Dk).add (.rename (tilde n) n)).free:=f2.add _
  rw[f3.sync];have e:(({ X.add (.write (tilde n) b) with sure:=(X.add (.write (tilde n) b)).shown,pend:=[] }:Dk).add (.rename (tilde n) n)).shown=zae X.shown n b:=by
   show(if zz (zcz X.shown (tilde n) b) (tilde n)=true then zcz (zcp (zcz X.shown (tilde n) b) (tilde n)) n (zat (zcz X.shown (tilde n) b) (tilde n)) else zcz X.shown (tilde n) b)=_
   rw[if_pos (zba hm),za9 hm]
   rfl
  rw[e]
  rfl
section
variable {D : Fl} {n m b : zqY}
theorem zmk (h:IsMap D):IsMap (zae D n b):=zcq (zb0 (zcq h))
theorem zaY (h:IsMap D):zz (zae D n b) n=true:=zba (zb0 (zcq h))
theorem zbv (h:IsMap D):zat (zae D n b) n=b:=za9 (zb0 (zcq h))
theorem zbd:zz (zae D n b) (tilde n)=false:=by
 unfold zae;rw[zaX (zoH n).symm];exact zaR
theorem zaN (h1:m≠n)(h2:m≠tilde n):zz (zae D n b) m=zz D m:=by
 unfold zae;rw[zaX h1,zM h2,zaX h2]
theorem zfq (h1:m≠n)(h2:m≠tilde n):zat (zae D n b) m=zat D m:=by
 unfold zae;rw[zcg h1,zbs h2,zcg h2]
end
theorem zbg.ne_tilde {n m:zqY}(h:zbg n):n≠Go.Proofs.YtpojgmeoaflmoaaGreatDoor.tilde m:=by
 intro e;apply h.2.2;rw[e];simp[Go.Proofs.YtpojgmeoaflmoaaGreatDoor.tilde]
theorem zhP {X:Dk}(h:X.free)(n:zqY) :
 X.sdel n=if zz X.shown n=true then (0,{ X with sure:=zcp X.shown n,shown:=zcp X.shown n,pend:=[] }) else (4,X):=by
 unfold Dk.sdel;by_cases hh:zz X.shown n=true
 ·rw[h.remove hh,if_pos hh]
  simp only[ne_eq,not_true,if_false];rw[(h.add (.remove n)).sync];have e:(X.add (.remove n)).shown=zcp X.shown n:=by
   show(if zz X.shown n=true then zcp X.shown n else X.shown)=_
   rw[if_pos hh]
  rw[e]
  rfl
 ·have e:X.remove n=(4,X):=by
   unfold Dk.remove;rw[h.works];simp only[ne_eq,not_true,if_false];rw[if_neg hh]
  rw[e,if_neg hh]
  rfl
theorem zgP {X:Dk}{a k f:Nat}(hl:X.lim a k f){n b:zqY}(ha:a<512)(hr:f+b.length≤X.room):¬X.full n b:=by
 rintro(⟨_,h⟩|h)
 ·have:=hl.files;omega
 ·have:=hl.used;omega
def Dk.tidy (X:Dk):Prop:=∀n,zz X.shown n=true→zbg n
theorem Dk.tidy.sput {X:Dk}(h:X.tidy)(hf:X.free)(hm:IsMap X.shown){n b:zqY}(hn:zbg n)(hb:b.length≤65536):(X.sput n b).2.tidy:=by
 rw[zc6 hf hm n b hb]
 split
 ·exact h
 ·intro m hh
  have hh:zz (zae X.shown n b) m=true:=hh;by_cases e:m=n
  ·rw[e];exact hn
  ·by_cases e2:m=tilde n
   ·rw[e2,zbd] at hh;cases hh
   ·rw[zaN e e2] at hh;exact h m hh
theorem Dk.free.sput {X:Dk}(hf:X.free)(hm:IsMap X.shown){n b:zqY}(hb:b.length≤65536):(X.sput n b).2.free:=by
 rw[zc6 hf hm n b hb]
 split
 ·exact hf
 ·exact hf
theorem zf9 {X:Dk}(h:X.tidy)(ns:List zqY)(hp:ns.Perm (Go.strKeys X.shown))(hs:∃es,X.shown = .map es∧es.Pairwise (fun p q=>p.1≠q.1)∧∀p ∈ es,∃x,p.1 = .string x):openD ns X=X:=by
 obtain⟨_,hmem⟩:=zgO hs hp;have hb:∀n ∈ ns,zb6 n=false:=by
  intro n hn;have hk:=(h n ((hmem n).1 hn)).2.2;unfold zb6;cases n with
  |nil=>rfl
  |cons c r =>
   have:c≠126:=fun e=>hk (by rw[e];simp)
   have h2:((126:UInt8)==c)=false:=by simpa using this.symm
   show(((126:UInt8)==c)&&_)=false
   rw[h2]
   rfl
 have h1:ns.any zb6=false:=by
  rw[List.any_eq_false];intro n hn;rw[hb n hn];simp
 have h2:∀(l:List zqY),(∀n ∈ l,zb6 n=false)→∀Y,zbi l Y=Y:=by
  intro l
  induction l with
  |nil=>intro _ Y;rfl
  |cons n r ih =>
   intro hl Y;have e1:zaO Y n=Y:=by unfold zaO;rw[hl n (by simp)];rfl
   show zbi r (zaO Y n)=Y
   rw[e1];exact ih (fun m hm=>hl m (by simp[hm])) Y
 unfold openD;rw[h1,h2 ns hb]
 rfl
def keepC (k0 k1:Bool):List Chg→Fl→Fl
 |[],D=>D
 |[c],D=>if k0 then c.on D else D
 |c::e::_,D=>if k1 then e.on (if k0 then c.on D else D) else (if k0 then c.on D else D)
def Dk.again (X:Dk)(k0 k1:Bool):Dk:={ X with sure:=keepC k0 k1 X.pend X.sure,shown:=keepC k0 k1 X.pend X.sure,pend:=[],fuse:=-1,down:=false }
def Chg.short:Chg→Prop
 |.write n _=>n.length≤1000
 |.rename n m=>n.length≤1000∧m.length≤1000
 |.remove n=>n.length≤1000
structure Dk.calm (X:Dk):Prop where
 sure:X.sure=X.shown
 pend:X.pend = []
 down:X.down=false
 map:IsMap X.shown
 tidy:X.tidy
def like (D E:Fl):Prop:=∀n,126 ∉ n→zz D n=zz E n∧zat D n=zat E n
theorem like.refl (D:Fl):like D D:=fun _ _=>⟨rfl,rfl⟩
theorem zjJ (n:zqY):126 ∈ tilde n:=by simp[tilde]
theorem zgI {D:Fl}{n b:zqY}:like (zcz D (tilde n) b) D:=fun m hm=>by
 have hne:m≠tilde n:=fun e=>hm (e ▸ zjJ n)
 exact⟨zaX hne,zcg hne⟩
theorem zml {X:Dk}{n b:zqY}(h:X.calm)(hn:zbg n)(hb:b.length≤65536)(hr:¬X.full (tilde n) b){f:Nat}(hf:X.fuse=(f:Int))(h4:f<4) :
 ∃Y,X.sput n b=(14,Y)∧Y.down=true∧Y.room=X.room∧(∀k0 k1,like (Y.again k0 k1).shown X.shown∨like (Y.again k0 k1).shown (zae X.shown n b))∧(Y.sure=X.shown∨Y.sure=zcz X.shown (tilde n) b)∧(Y.pend = []∨(Y.sure=X.shown∧Y.pend = [.write (tilde n) b])∨(Y.sure=zcz X.shown (tilde n) b∧Y.pend = [.rename (tilde n) n])):=by
 obtain⟨room,sure,shown,pend,fuse,down⟩:=X;obtain⟨h1,h2,h3,h5,h6⟩:=h;simp only at h1 h2 h3 h5 hf;subst h1 h2 h3 hf;have hne:n≠tilde n:=hn.ne_tilde;have hh:zz (zcz sure (tilde n) b) (tilde n)=true:=zba h5;have hg:zat (zcz sure (tilde n) b) (tilde n)=b:=za9 h5;have full1:∀fu:Int,¬(Dk.full ⟨room,sure,sure,[],fu,false⟩ (tilde n) b):=fun fu q=>hr q
 match f,h4 with
 |0,_ =>
  refine⟨⟨room,sure,sure,[],0,true⟩,?_,rfl,rfl,fun k0 k1=>.inl (like.refl _),.inl rfl,.inl rfl⟩
  simp[Dk.sput,Dk.write,Dk.works]
 |1,_ =>
  refine⟨⟨room,sure,zcz sure (tilde n) b,[.write (tilde n) b],0,true⟩,?_,rfl,rfl,fun k0 k1=>.inl ?_,.inl rfl,.inr (.inl ⟨rfl,rfl⟩)⟩
  ·have:=full1 0
   simp[Dk.sput,Dk.write,Dk.works,Dk.sync,Dk.add,Chg.on,this,show ¬65536<b.length by omega]
  ·show like (if k0 then _ else _) _
   split
   ·exact zgI
   ·exact like.refl _
 |2,_ =>
  refine⟨⟨room,zcz sure (tilde n) b,zcz sure (tilde n) b,[],0,true⟩,?_,rfl,rfl,fun k0 k1=>.inl zgI,.inr rfl,.inl rfl⟩
  have:=full1 1;simp[Dk.sput,Dk.write,Dk.works,Dk.sync,Dk.rename,Dk.add,Chg.on,this,show ¬65536<b.length by omega]
 |3,_ =>
  refine⟨⟨room,zcz sure (tilde n) b,zae sure n b,[.rename (tilde n) n],0,true⟩,?_,rfl,rfl,fun k0 k1=>?_,.inr rfl,.inr (.inr ⟨rfl,rfl⟩)⟩
  ·have:=full1 2
   simp[Dk.sput,Dk.write,Dk.works,Dk.sync,Dk.rename,Dk.add,Chg.on,this,show ¬65536<b.length by omega,hh,hg,zae]
  ·show like (if k0 then _ else _) _∨like (if k0 then _ else _) _
   split
   ·refine .inr (fun m hm=>?_)
    show zz (if _ then _ else _) m=_∧zat (if _ then _ else _) m=_
    rw[if_pos hh,hg];exact⟨rfl,rfl⟩
   ·exact .inl zgI
theorem zdq {X:Dk}(hd:X.down=false){k:Nat}(hf:X.fuse=((k+1:Nat):Int)):X.works=(0,{ X with fuse:=(k:Int) }):=by
 unfold Dk.works;rw[if_neg (by rw[hd];decide),if_neg (by omega),if_pos (by omega),hf]
 have e:((k+1:Nat):Int)-1=(k:Int):=by omega
 rw[e]
theorem zk1 {X:Dk}(hd:X.down=false){k:Nat}(hf:X.fuse=((k+1:Nat):Int)){n b:zqY}(hb:b.length≤65536)(hr:¬X.full n b):X.write n b=(0,({ X with fuse:=(k:Int) }:Dk).add (.write n b)):=by
 unfold Dk.write;rw[zdq hd hf,if_neg (fun e=>e rfl),if_neg (by omega)]
 exact if_neg (show ¬Dk.full { X with fuse:=(k:Int) } n b from fun q=>hr q)
theorem zfF {X:Dk}(hd:X.down=false){k:Nat}(hf:X.fuse=((k+1:Nat):Int)):X.sync=(0,{ X with sure:=X.shown,pend:=[],fuse:=(k:Int) }):=by
 unfold Dk.sync;rw[zdq hd hf,if_neg (fun e=>e rfl)]
theorem ziJ {X:Dk}(hd:X.down=false){k:Nat}(hf:X.fuse=((k+1:Nat):Int)){n m:zqY}(hh:zz X.shown n=true):X.rename n m=(0,({ X with fuse:=(k:Int) }:Dk).add (.rename n m)):=by
 unfold Dk.rename;rw[zdq hd hf,if_neg (fun e=>e rfl),if_pos hh]
theorem zfv {X:Dk}(hd:X.down=false){k:Nat}(hf:X.fuse=((k+1:Nat):Int)){n:zqY}(hh:zz X.shown n=true):X.remove n=(0,({ X with fuse:=(k:Int) }:Dk).add (.remove n)):=by
 unfold Dk.remove;rw[zdq hd hf,if_neg (fun e=>e rfl),if_pos hh]
theorem zgn {X:Dk}(hd:X.down=false)(hf:X.fuse=0):X.works=(14,{ X with down:=true }):=by
 unfold Dk.works;rw[if_neg (by rw[hd];decide),if_pos hf]
theorem zoc {X:Dk}{n b:zqY}(h:X.calm)(hb:b.length≤65536)(hr:¬X.full (tilde n) b){g:Nat}(hf:X.fuse=((g+4:Nat):Int)) :
 X.sput n b=(0,{ X with sure:=zae X.shown n b,shown:=zae X.shown n b,pend:=[],fuse:=(g:Int) }):=by
 obtain⟨h1,h2,h3,h5,h6⟩:=h;have hh:zz (zcz X.shown (tilde n) b) (tilde n)=true:=zba h5;have hg:zat (zcz X.shown (tilde n) b) (tilde n)=b:=za9 h5;obtain⟨Y1,hY1⟩:∃Y:Dk,Y=({ X with fuse:=((g+3:Nat):Int) }:Dk).add (.write (tilde n) b):=⟨_,rfl⟩
 obtain⟨Y2,hY2⟩:∃Y:Dk,Y = { Y1 with sure:=Y1.shown,pend:=[],fuse:=((g+2:Nat):Int) }:=⟨_,rfl⟩
 obtain⟨Y3,hY3⟩:∃Y:Dk,Y=({ Y2 with fuse:=((g+1:Nat):Int) }:Dk).add (.rename (tilde n) n):=⟨_,rfl⟩
 have e1:X.write (tilde n) b=(0,Y1):=by rw[hY1];exact zk1 h3 hf hb hr
 have e2:Y1.sync=(0,Y2):=by rw[hY2];exact zfF (by rw[hY1];exact h3) (by rw[hY1];rfl)
 have s2:Y2.shown=zcz X.shown (tilde n) b:=by rw[hY2,hY1];rfl
 have e3:Y2.rename (tilde n) n=(0,Y3):=by rw[hY3];exact ziJ (by rw[hY2,hY1];exact h3) (by rw[hY2]) (by rw[s2];exact hh)
 have e4:Y3.sync=(0,{ Y3 with sure:=Y3.shown,pend:=[],fuse:=(g:Int) }):=zfF (by rw[hY3,hY2,hY1];exact h3) (by rw[hY3];rfl)
 have s3:Y3.shown=zae X.shown n b:=by
  rw[hY3];show(if zz Y2.shown (tilde n) then _ else _)=_
  rw[s2,if_pos hh,hg]
  rfl
 unfold Dk.sput;rw[e1];simp only[ne_eq,not_true,if_false];rw[e2];simp only[not_true,if_false];rw[e3];simp only[not_true,if_false];rw[e4,s3];rw[hY3,hY2,hY1]
 rfl
theorem zlp {X:Dk}{n:zqY}(h:X.calm)(hh:zz X.shown n=true){f:Nat}(hf:X.fuse=(f:Int))(h2:f<2) :
 ∃Y,X.sdel n=(14,Y)∧Y.down=true∧Y.room=X.room∧(∀k0 k1,like (Y.again k0 k1).shown X.shown∨like (Y.again k0 k1).shown (zcp X.shown n))∧Y.sure=X.shown∧(Y.pend = []∨Y.pend = [.remove n]):=by
 obtain⟨h1,h2',h3,h5,h6⟩:=h
 match f,h2 with
 |0,_ =>
  refine⟨{ X with down:=true },?_,rfl,rfl,fun k0 k1=>.inl ?_,h1,.inl h2'⟩
  ·unfold Dk.sdel Dk.remove
   rw[zgn h3 hf]
   rfl
  ·show like (keepC k0 k1 X.pend X.sure) X.shown
   rw[h2',h1];exact like.refl _
 |1,_ =>
  refine⟨{ X with shown:=zcp X.shown n,pend:=[.remove n],fuse:=0,down:=true },?_,rfl,rfl,fun k0 k1=>?_,h1,.inr rfl⟩
  ·unfold Dk.sdel
   rw[zfv (k:=0) h3 hf hh];simp only[ne_eq,not_true,if_false];obtain⟨Y1,hY1⟩:∃Y:Dk,Y=({ X with fuse:=((0:Nat):Int) }:Dk).add (.remove n):=⟨_,rfl⟩
   rw[←hY1];have e:Y1.sync=(14,{ Y1 with down:=true }):=by
    unfold Dk.sync;rw[zgn (by rw[hY1];exact h3) (by rw[hY1];rfl)]
    rfl
   rw[e,hY1];simp[Dk.add,Chg.on,hh,h2']
  ·show like (if k0 then _ else _) _∨like (if k0 then _ else _) _
   rw[h1]
   split
   ·refine .inr (fun m hm=>?_)
    show zz (if _ then _ else _) m=_∧zat (if _ then _ else _) m=_
    rw[if_pos hh];exact⟨rfl,rfl⟩
   ·exact .inl (like.refl _)
theorem znv {X:Dk}{n:zqY}(h:X.calm)(hh:zz X.shown n=true){g:Nat}(hf:X.fuse=((g+2:Nat):Int)) :
 X.sdel n=(0,{ X with sure:=zcp X.shown n,shown:=zcp X.shown n,pend:=[],fuse:=(g:Int) }):=by
 obtain⟨h1,h2,h3,h5,h6⟩:=h;obtain⟨Y1,hY1⟩:∃Y:Dk,Y=({ X with fuse:=((g+1:Nat):Int) }:Dk).add (.remove n):=⟨_,rfl⟩
 have e1:X.remove n=(0,Y1):=by rw[hY1];exact zfv h3 hf hh
 have e2:Y1.sync=(0,{ Y1 with sure:=Y1.shown,pend:=[],fuse:=(g:Int) }):=zfF (by rw[hY1];exact h3) (by rw[hY1];rfl)
 have s1:Y1.shown=zcp X.shown n:=by
  rw[hY1];show(if zz X.shown n then _ else _)=_
  rw[if_pos hh]
 unfold Dk.sdel;rw[e1];simp only[ne_eq,not_true,if_false];rw[e2,s1,hY1]
 rfl
end Go.Proofs.YtpojgmeoaflmoaaGreatDoor
