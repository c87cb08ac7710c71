/- The taker of a cursor: address, part: wa -/
import Derived.Test.YtpojgmeoaflmoaaGreatDoorQ13
set_option linter.unusedVariables false
set_option maxRecDepth 100000
set_option maxHeartbeats 16000000
namespace Go.Proofs.YtpojgmeoaflmoaaGreatDoor
open Go.RowKit
def pt0 (a m s:Nat):Pt:=⟨a,m,s,List.replicate 32 0⟩
theorem zfo (a m s:Nat):(pt0 a m s).sum.length=32:=List.length_replicate ..
theorem zk9 (a m s:Nat)(w:World):(holdB 125 #[(0,.int .i64 a),(1,.int .i64 m),(2,.int .i64 s)]).run Tryz.prog w = .ok (ptV (pt0 a m s)) w :=
 run_build w 125 _ _ (by kernel_rfl)
theorem zL {w w':World}{p:Nat}{b:Nat}{o:Obj}(k:za (zq3 p) w w')(h:w.heap[b]? = some o)(hne:b≠p):w'.heap[b]? = some o:=k.at h hne
theorem zmO (F:Nat→Prop)(q n:Nat)(r:List UInt8)(w:World)(h:zbf F w q (zo n++r))(hn:n≤1048576) :
 Calls Tryz.prog 233 #[.agg #[.pointer (some ⟨q,0,none⟩)]] w fun e w'=>e = .returned (.int .i64 n)∧za (zq3 q) w w'∧zbf F w' q r:=by
 have W1:=zz0 (fun w1 (k:za zq2 w w1)=>zaz F q n 1048576 r w1 (h.keep k (fun _ _ e=>e)) hn (by omega))
 clear h
 go_enter Tryz.func233,Tryz.ntmps233
 go_wp2_with(go_at_call 98;refine(W1.out _ ((za.refl _ _).alloc _)).mono ?_;rintro e w1 ⟨rfl,k1,r1⟩;have K1:=zz0 (((za.refl zq2 w).alloc _).ofNon.trans1 k1);have R1:=zz0 r1;clear k1 r1)
 go_ret;exact⟨rfl,K1.out,R1.out⟩
def TkpEnd (F:Nat→Prop)(w:World)(q:Nat)(p:Pt)(r:List UInt8)(b:Nat)(W:World):Prop :=
 W.heap[b]? = some (zq4 (pt0 p.first p.many p.size))∧W.heap[w.heap.size]? = some (.cells #[.pointer (some ⟨q,0,none⟩)] 310 (0,0))∧W.heap[w.heap.size+1]? = some (.cells zrb 125 (0,0))∧zbf F W q (p.sum++r)∧za (zq3 q) w W∧w.heap.size+2≤b
def TkpPre (F:Nat→Prop)(w:World)(q:Nat)(p:Pt)(r:List UInt8)(W:World):Prop :=
 W.heap[w.heap.size]? = some (.cells #[.pointer (some ⟨q,0,none⟩)] 310 (0,0))∧W.heap[w.heap.size+1]? = some (.cells zrb 125 (0,0))∧zbf F W q (p.sum++r)∧za (zq3 q) w W∧w.heap.size+2≤W.heap.size
theorem zmQ {F:Nat→Prop}{w wA w1 w2:World}{q:Nat}{p:Pt}{r:List UInt8}(gA:wA.heap[w.heap.size]? = some (.cells #[.pointer (some ⟨q,0,none⟩)] 310 (0,0)))(zA:wA.heap[w.heap.size+1]? = some (.cells zrb 125 (0,0)))(kA:za zq2 w wA)(hq:q<w.heap.size)(k1:za (zq3 q) wA w1)(k2:za (zq3 q) w1 w2)(r2:zbf F w2 q (p.sum++r)):TkpPre F w q p r w2:=by
 have k:=k1.trans1 k2;exact⟨zL k gA (by omega),zL k zA (by omega),r2,kA.ofNon.trans1 k,by have:=lt_of_block (zL k zA (by omega));omega⟩
theorem zoJ {F:Nat→Prop}{w w2:World}{q:Nat}{p:Pt}{r:List UInt8}(h:TkpPre F w q p r w2):TkpEnd F w q p r w2.heap.size (w2.alloc (zq4 (pt0 p.first p.many p.size))):=by
 obtain⟨a,b,c,d,e⟩:=h;have k:za zq2 w2 (w2.alloc (zq4 (pt0 p.first p.many p.size))):=(za.refl _ _).alloc _;exact⟨ze _ _,zh k a,zh k b,c.keep k (fun _ _ e=>e),d.trans1 k.ofNon,e⟩
theorem zjL {F:Nat→Prop}{w w2:World}{q b:Nat}{p:Pt}{r:List UInt8}(h:TkpPre F w q p r w2)(hF:∀g,F g→g<w.heap.size)(hb:w.heap.size+2≤b)(hz:w2.heap[b]? = some (.cells zrb 125 (0,0))):TkpEnd F w q p r b (w2.setRow b (zq8 (pt0 p.first p.many p.size)).toArray):=by
 obtain⟨a,b',c,d,e⟩:=h;have k:za (zq3 b) w2 (w2.setRow b (zq8 (pt0 p.first p.many p.size)).toArray):=(za.refl (zq3 b) _).setRow (.inl (zK _)) _;exact⟨setRow_heap _ _ _ _ _ _ hz,zL k a (by omega),zL k b' (by omega),c.keep k (fun g hg e2=>by have e':g=b:=e2;have:=hF g hg;omega),d.trans k (fun _ _ e=>e) (fun g hg e2=>by have e':g=b:=e2;omega),hb⟩
theorem zlS:(Tryz.prog.info? 5).map (·.size)=some 1:=by kernel_rfl
theorem znq {w:World}{b g c n:Nat}{p:Pt}(h3:p.sum.length=32)(hb:w.heap[b]? = some (zq4 (pt0 p.first p.many p.size)))(o:w.ownsRow n 5 1 (.slice (some ⟨g,0,none⟩) 32 c) 32 (p.sum.map bv)) :
 (Builtin.copy_ #[43,43] 3 #[.slice (some ⟨b,3,none⟩) 32 32,.slice (some ⟨g,0,none⟩) 32 c]).run Tryz.prog w = .ok (.int .i64 32) (w.setRow b (zq8 p).toArray):=by
 have hr:=Rd.ofOwns o;have h:=zbQ (P:=Tryz.prog) w 43 43 3 5 1 b 3 32 32 ⟨g,0,none⟩ 32 c (zq8 (pt0 p.first p.many p.size)).toArray 125 (p.sum.map bv) Tryz.underlying43 zlS hb (by rw[List.length_map,h3];rfl)
  (by
    obtain⟨a,c',e,hx⟩:=hr;injection e with e1 e2 e3
    obtain⟨g',off,e4,hc⟩:=hx (by intro e;have:=congrArg List.length e;rw[List.length_map,h3] at this;cases this)
    rw[←e1] at e4;injection e4 with e4
    injection e4 with e4 e5
    subst e4;subst e5;intro j v hv;rw[zag];exact hc j v hv)
  (by rw[List.length_map,h3,List.size_toArray,zbc (zfo _ _ _)];decide) (zy _)
 rw[h];have e:(zq8 (pt0 p.first p.many p.size)).toArray.toList.take 3++p.sum.map bv++(zq8 (pt0 p.first p.many p.size)).toArray.toList.drop (3+(p.sum.map bv).length)=zq8 p:=by
  have hd:(zq8 (pt0 p.first p.many p.size)).drop (3+32) = []:=List.drop_eq_nil_of_le (by rw[zbc (zfo _ _ _)];decide)
  rw[List.length_map,h3,List.toList_toArray,hd,List.append_nil]
  rfl
 rw[e]
 rfl
theorem zjM {F:Nat→Prop}{w wA w1:World}{q:Nat}{p:Pt}{r:List UInt8}{T:TypeId}(gA:wA.heap[w.heap.size]? = some (.cells #[.pointer (some ⟨q,0,none⟩)] T (0,0)))(sA:w.heap.size+2=wA.heap.size)(hq:q<w.heap.size)(k1:za (zq3 q) wA w1)(r1:zbf F w1 q (zo p.size++(p.sum++r)))(h2:p.size≤65536) :
 w1.heap[w.heap.size]? = some (.cells #[.pointer (some ⟨q,0,none⟩)] T (0,0))∧w1.cell? ⟨w.heap.size,0,none⟩=some (.pointer (some ⟨q,0,none⟩))∧(w1.alloc (.cells zrb 125)).cell? ⟨w.heap.size,0,none⟩=some (.pointer (some ⟨q,0,none⟩)) ∧
 (Calls Tryz.prog 98 #[.pointer (some ⟨q,0,none⟩),.int .u64 65536] w1 fun e w'=>e = .returned (.int .i64 p.size)∧za (zq3 q) w1 w'∧zbf F w' q (p.sum++r)) ∧
 (Calls Tryz.prog 98 #[.pointer (some ⟨q,0,none⟩),.int .u64 65536] (w1.alloc (.cells zrb 125)) fun e w'=>e = .returned (.int .i64 p.size)∧za (zq3 q) (w1.alloc (.cells zrb 125)) w'∧zbf F w' q (p.sum++r))∧True∧w.heap.size+2≤w1.heap.size:=by
 have g1:=zL k1 gA (by omega)
 have kz:za zq2 w1 (w1.alloc (.cells zrb 125)):=(za.refl _ _).alloc _;have g2:=zh kz g1;exact⟨g1,by simp[World.cell?,g1],by simp[World.cell?,g2],zaz F q p.size 65536 _ w1 r1 h2 (by omega),zaz F q p.size 65536 _ _ (r1.keep kz (fun _ _ e=>e)) h2 (by omega),trivial,by have:=k1.size;omega⟩
theorem zmP {F:Nat→Prop}{w W4 w5:World}{q b g c n:Nat}{p:Pt}{r:List UInt8}{T:TypeId}(x1:W4.heap[b]? = some (zq4 (pt0 p.first p.many p.size)))(x3:W4.heap[w.heap.size+1]? = some (.cells zrb 125 (0,0)))(x5:za (zq3 q) w W4)(x6:w.heap.size+2≤b)(hq:q<w.heap.size)(k5:za (zq3 q) W4 w5)(r5:zbf F w5 q r)(h3:p.sum.length=32)(hF:∀g,F g→g<w.heap.size)
 (o:w5.ownsRow n 5 1 (.slice (some ⟨g,0,none⟩) 32 c) 32 (p.sum.map bv)) :
 (Builtin.copy_ #[43,43] 3 #[.slice (some ⟨b,3,none⟩) 32 32,.slice (some ⟨g,0,none⟩) 32 c]).run Tryz.prog w5 = .ok (.int .i64 32) (w5.setRow b (zq8 p).toArray) ∧
 (zZ 125 ⟨b,0,none⟩).run Tryz.prog (w5.setRow b (zq8 p).toArray) = .ok (ptV p) (w5.setRow b (zq8 p).toArray) ∧
 (holdW 125 ⟨w.heap.size+1,0,none⟩ (ptV p)).run Tryz.prog (w5.setRow b (zq8 p).toArray) = .ok () ((w5.setRow b (zq8 p).toArray).setRow (w.heap.size+1) (zq8 p).toArray) ∧
 (zZ 125 ⟨w.heap.size+1,0,none⟩).run Tryz.prog ((w5.setRow b (zq8 p).toArray).setRow (w.heap.size+1) (zq8 p).toArray) = .ok (ptV p) ((w5.setRow b (zq8 p).toArray).setRow (w.heap.size+1) (zq8 p).toArray) ∧
 za (zq3 q) w ((w5.setRow b (zq8 p).toArray).setRow (w.heap.size+1) (zq8 p).toArray)∧zbf F ((w5.setRow b (zq8 p).toArray).setRow (w.heap.size+1) (zq8 p).toArray) q r:=by
 have b5:=zL k5 x1 (by omega)
 have z5:=zL k5 x3 (by omega)
 have k6:za (zq3 b) w5 (w5.setRow b (zq8 p).toArray):=(za.refl (zq3 b) _).setRow (.inl (zK _)) _;have z6:=zL k6 z5 (by omega)
 have k7:za (zq3 (w.heap.size+1)) (w5.setRow b (zq8 p).toArray) ((w5.setRow b (zq8 p).toArray).setRow (w.heap.size+1) (zq8 p).toArray):=(za.refl (zq3 (w.heap.size+1)) _).setRow (.inl (zK _)) _;refine⟨znq h3 b5 o,zaB (setRow_heap _ _ _ _ _ _ b5) h3,zbR _ _ p zrb h3 rfl z6,zaB (setRow_heap _ _ _ _ _ _ z6) h3,?_,?_⟩
 ·exact((x5.trans1 k5).trans k6 (fun _ _ e=>e) (fun g hg e=>by have e':g=b:=e;omega)).trans k7 (fun _ _ e=>e) (fun g hg e=>by have e':g=w.heap.size+1:=e;omega)
 ·exact(r5.keep k6 (fun g hg e=>by have e':g=b:=e;have:=hF g hg;omega)).keep k7 (fun g hg e=>by have e':g=w.heap.size+1:=e;have:=hF g hg;omega)
section
attribute [local go_sem ↓] zbB zU zbC zbD zV zbE zab zbK
theorem zmR (F:Nat→Prop)(q:Nat)(p:Pt)(r:List UInt8)(w:World)(h:zbf F w q (zo p.many++(zo p.size++(p.sum++r))))(h1:p.many≤64)(h2:p.size≤65536)(h3:p.sum.length=32)(hF:∀g,F g→g<w.heap.size) :
 Calls Tryz.prog 234 #[.agg #[.pointer (some ⟨q,0,none⟩)],.int .i64 p.first] w fun e w'=>e = .returned (ptV p)∧za (zq3 q) w w'∧zbf F w' q r:=by
 have hq:q<w.heap.size:=by obtain⟨_,q1,_⟩:=h;exact lt_of_block q1
 have H:=zz0 h;have hbu:=zk9 p.first p.many p.size;have HF:=zz0 hF;clear h hF
 go_enter Tryz.func234,Tryz.ntmps234
 go_wp2_with fail
 have kA:za zq2 w ((w.alloc (.cells #[.pointer (some ⟨q,0,none⟩)] 310)).alloc (.cells zrb 125)):=((za.refl _ _).alloc _).alloc _;have gA:((w.alloc (.cells #[.pointer (some ⟨q,0,none⟩)] 310)).alloc (.cells zrb 125)).heap[w.heap.size]? = some (.cells #[.pointer (some ⟨q,0,none⟩)] 310 (0,0)):=zi (ze w _) _;have zA:((w.alloc (.cells #[.pointer (some ⟨q,0,none⟩)] 310)).alloc (.cells zrb 125)).heap[w.heap.size+1]? = some (.cells zrb 125 (0,0)):=zaa _ _ _;have sA:w.heap.size+2=((w.alloc (.cells #[.pointer (some ⟨q,0,none⟩)] 310)).alloc (.cells zrb 125)).heap.size:=by simp
 obtain⟨wA,hwA⟩:∃wA,wA=((w.alloc (.cells #[.pointer (some ⟨q,0,none⟩)] 310)).alloc (.cells zrb 125)):=⟨_,rfl⟩;rw[←hwA] at kA gA zA sA;unfold zrb at hwA;rw[←hwA];clear hwA;have ld:∀W:World,W.heap[w.heap.size]? = some (.cells #[.pointer (some ⟨q,0,none⟩)] 310 (0,0))→W.cell? ⟨w.heap.size,0,none⟩=some (.pointer (some ⟨q,0,none⟩)):=fun W h=>by simp[World.cell?,h]
 have kz:∀W:World,za zq2 W (W.alloc (.cells zrb 125)):=fun W=>(za.refl _ _).alloc _
 have WI1:∀W,za zq2 wA W→Calls Tryz.prog 98 #[.pointer (some ⟨q,0,none⟩),.int .u64 64] W fun e w'=>e = .returned (.int .i64 p.many)∧za (zq3 q) W w'∧zbf F w' q (zo p.size++(p.sum++r)):=fun W k=>zaz F q p.many 64 _ W (H.out.keep (kA.trans1 k) (fun _ _ e=>e)) h1 (by omega)
 have c0:=ld wA gA;have c0z:=ld _ (zh (kz wA) gA);have C1a:=zz0 (WI1 wA.drew (za.refl _ _).drew);have C1b:=zz0 (WI1 (wA.alloc (.cells zrb 125)).drew (kz wA).drew);have LD:=zz0 ld;have KZ:=zz0 kz;have KA:=zz0 kA;have GA:=zz0 gA;have ZA:=zz0 zA;have SA:=zz0 sA;have N1:=zz0 (ze wA (.cells zrb 125 (0,0)));dsimp only[zrb] at c0z C1b;clear ld kz kA gA zA sA WI1
 go_region_law(first
  |(go_simp;go_at_call 98;first
   |((with_reducible refine C1a.out.mono ?_);rintro e w1 ⟨rfl,k1',r1⟩;have k1:za (zq3 q) wA w1:=((za.refl zq2 wA).drew).ofNon.trans1 k1';obtain⟨g1,c1,c1z,C2a',C2b',y1,s1⟩:=zjM (T:=310) (p:=p) GA.out SA.out hq k1 r1 h2;have C2a:=zz0 C2a';have C2b:=zz0 C2b';have G1:=zz0 g1;have K1:=zz0 k1;have Y1:=zz0 (True.intro);have S1:=zz0 s1;dsimp only[zrb] at c1z C2b;clear k1' k1 r1 C2a' C2b' g1 s1 y1)
   |((with_reducible refine C1b.out.mono ?_);rintro e w1 ⟨rfl,k1',r1⟩;have k1:za (zq3 q) wA w1:=((KZ.out wA).drew).ofNon.trans1 k1';obtain⟨g1,c1,c1z,C2a',C2b',y1,s1⟩:=zjM (T:=310) (p:=p) GA.out SA.out hq k1 r1 h2;have Y1:=zz0 (zL k1' N1.out (by have:=SA.out;omega));have C2a:=zz0 C2a';have G1:=zz0 g1;have K1:=zz0 k1;have S1:=zz0 s1;clear k1' k1 r1 C2a' C2b' c1z g1 y1 s1)
   |((with_reducible refine C2a.out.mono ?_);rintro e w2 ⟨rfl,k2,r2⟩;have K2:=zz0 k2;have R2:=zz0 r2;have hst0:=zac w2 (pt0 p.first p.many p.size) (zfo _ _ _);dsimp only[zrb,zq4] at hst0;have PR:=zz0 (zmQ (p:=p) (r:=r) GA.out ZA.out KA.out hq K1.out k2 r2);have E0:=zz0 (zoJ PR.out);first|(have y2:=zL k2 Y1.out (by have:=SA.out;omega);have hst1:=zbR w2 wA.heap.size (pt0 p.first p.many p.size) zrb (zfo _ _ _) rfl y2;have E1:=zz0 (zjL (b:=wA.heap.size) PR.out HF.out (by have:=SA.out;omega) y2);clear y2)|skip;clear k2 r2)
   |((with_reducible refine C2b.out.mono ?_);rintro e w2 ⟨rfl,k2,r2⟩;have K2:=zz0 ((KZ.out w1).ofNon.trans1 k2);have R2:=zz0 r2;have y2:w2.heap[w1.heap.size]? = some (.cells zrb 125 (0,0)):=zL k2 (ze w1 (.cells zrb 125 (0,0))) (by have:=S1.out;omega);have hst1:=zbR w2 w1.heap.size (pt0 p.first p.many p.size) zrb (zfo _ _ _) rfl y2;have PR:=zz0 (zmQ (p:=p) (r:=r) GA.out ZA.out KA.out hq K1.out K2.out r2);have E1:=zz0 (zjL (b:=w1.heap.size) PR.out HF.out S1.out y2);clear k2 r2 y2)))
 all_goals first
  |(have e0:=E1.out;generalize (World.setRow w2 _ _)=W4 at e0 ⊢;first|generalize wA.heap.size=b2 at e0 ⊢|generalize w1.heap.size=b2 at e0 ⊢)
  |(have e0:=E0.out;dsimp only[zq4] at e0;generalize (World.alloc w2 _)=W4 at e0 ⊢;generalize w2.heap.size=b2 at e0 ⊢)
 all_goals
  have E:=zz0 e0;have FX:=zz0 (zgy F q p.sum r W4.drew (e0.2.2.2.1.keep (za.refl zq2 W4).drew (fun _ _ e=>e)) (by rw[h3];omega))
  rw[h3] at FX;obtain⟨x1,x2,x3,x4,x5,x6⟩:=e0;have d0:W4.cell? ⟨w.heap.size,0,none⟩=some (.pointer (some ⟨q,0,none⟩)):=LD.out W4 x2;clear x1 x2 x3 x4 x5 x6
  go_wp2_with fail
 all_goals
  have d0d:W4.drew.cell? ⟨w.heap.size,0,none⟩=some (.pointer (some ⟨q,0,none⟩)):=d0
  go_region_law(go_simp;go_at_call 154;refine FX.out.mono ?_;rintro e w5 ⟨v5,rfl,k5',r5,o5⟩;obtain⟨g5,c5,rfl,_,y5,_⟩:=zcd o5 (by omega);have k5:za (zq3 q) W4 w5:=((za.refl zq2 W4).drew).ofNon.trans1 k5';obtain⟨q1,q2,q3,q4,q5,q6⟩:=zmP (T:=310) E.out.1 E.out.2.2.1 E.out.2.2.2.2.1 E.out.2.2.2.2.2 hq k5 r5 h3 HF.out o5;have hcp:=q1;have hlp:=q2;have hsp:=q3;have Q4:=zz0 q4;have Q5:=zz0 q5;have Q6:=zz0 q6;clear q1 q2 q3 q4 q5 q6 k5' k5 r5 o5 y5)
 all_goals
  go_wp2_with fail
  have hlv:=Q4.out;unfold zZ at hlv;refine bodyPost_ret (v:=ptV p) (by simp[results,Tryz.results234,asAddr,hlv]) rfl ?_
  exact⟨rfl,Q5.out,Q6.out⟩
end
end Go.Proofs.YtpojgmeoaflmoaaGreatDoor
