/- chain.Next behind no manifest: walked. · -/
import Derived.Test.YtpojgmeoaflmoaaGreatDoorQ15
set_option linter.unusedVariables false
set_option maxRecDepth 100000
set_option maxHeartbeats 16000000
namespace Go.Proofs.YtpojgmeoaflmoaaGreatDoor
open Go.RowKit
theorem zpE {w:World}{b:Nat}{m:Mf}{pv:Value}(h:w.heap[b]? = some (zq1 m pv))(n:Nat):(w.setCell ⟨b,2,none⟩ (.int .i64 n)).heap[b]? = some (zq1 { m with hi:=n } pv):=zj h 2 _
def zD:List UInt8:=List.replicate 32 0
theorem zoz (w:World):(holdW 51 ⟨w.heap.size,0,none⟩ (zbY zD)).run Tryz.prog (w.alloc (.cells zq9 51)) = .ok () (w.alloc (.cells zq9 51)):=by
 have h:=zhZ w;rw[zqW] at h;exact h
theorem zpD (w:World):(zZ 51 ⟨w.heap.size,0,none⟩).run Tryz.prog (w.alloc (.cells zq9 51)) = .ok (zbY zD) (w.alloc (.cells zq9 51)):=zgJ w
def zaU (lo hi trim:Nat)(ps:List Pt):Mf:=⟨0,lo,hi,trim,List.replicate 32 0,ps⟩
theorem zia (lo trim:Nat)(ps:List Pt)(a:Option Addr)(n c:Nat)(w:World):(holdB 54 #[(0,.int .i64 0),(1,.int .i64 lo),(2,.int .i64 lo),(3,.int .i64 trim),(4,zbY zD),(5,.slice a n c)]).run Tryz.prog w = .ok (zq7 (zaU lo lo trim ps) (.slice a n c)) w :=
 run_build w 54 _ _ (by kernel_rfl)
def NxEnd (w:World)(m:Mf)(v:Value)(b:Nat)(W:World):Prop :=
 W.heap[b]? = some (zq1 m v)∧W.heap[w.heap.size]? = some (.cells zra 54 (0,0))∧za zq2 w W∧w.heap.size<b∧(∀g,v.ownBlock=some g→w.heap.size<g∧g≠b)∧W.ownsRow w.heap.size 125 35 v m.parts.length (zaP m.parts)
theorem nx_A {w wB w3:World}{m:Mf}{a:Option Addr}{c:Nat}(kB:za zq2 w wB)(br:wB.heap[w.heap.size]? = some (.cells zra 54 (0,0)))(k3:za zq2 wB w3)(o:w3.ownsRow wB.heap.size 125 35 (.slice a m.parts.length c) m.parts.length (zaP m.parts)) :
 NxEnd w m (.slice a m.parts.length c) w3.heap.size (w3.alloc (zq1 m (.slice a m.parts.length c))):=by
 have k:za zq2 w3 (w3.alloc (zq1 m (.slice a m.parts.length c))):=(za.refl _ _).alloc _;have hb:=lt_of_block br;have h3:=k3.size;exact⟨ze _ _,zh k (zh k3 br),(kB.trans1 k3).trans1 k,by omega,fun g e=>by have:=o.lt g e;omega,zg (zc o k (fun _ _ e=>e)) (by omega)⟩
theorem nx_B {w wB w3:World}{m:Mf}{a:Option Addr}{c:Nat}(kB:za zq2 w wB)(br:wB.heap[w.heap.size]? = some (.cells zra 54 (0,0)))(k3:za zq2 wB w3)(z3:w3.heap[wB.heap.size]? = some (.cells zra 54 (0,0)))(o:w3.ownsRow (wB.heap.size+1) 125 35 (.slice a m.parts.length c) m.parts.length (zaP m.parts)) :
 NxEnd w m (.slice a m.parts.length c) wB.heap.size (w3.setRow wB.heap.size (zq6 m (.slice a m.parts.length c)).toArray):=by
 have hb:=lt_of_block br;have k:za (zq3 wB.heap.size) w3 (w3.setRow wB.heap.size (zq6 m (.slice a m.parts.length c)).toArray):=(za.refl (zq3 _) _).setRow (.inl (zK _)) _;exact⟨setRow_heap _ _ _ _ _ _ z3,k.at (zh k3 br) (by unfold zq3;omega),(kB.trans1 k3).trans k (fun _ _ e=>e) (fun g hg e=>by have e':g=wB.heap.size:=e;have:=kB.size;omega),hb,fun g e=>by have:=(o.lt g e).1;omega,zg (zc o k (fun g e e2=>by have e':g=wB.heap.size:=e2;have:=(o.lt g e).1;omega)) (by omega)⟩
theorem zl7 {w wr:World}{m:Mf}{v:Value}{b:Nat}(h:NxEnd w m v b wr)(o:Obj)(n:Nat):NxEnd w { m with hi:=n } v b ((wr.alloc o).setCell ⟨b,2,none⟩ (.int .i64 n)):=by
 obtain⟨h1,h2,h3,h4,h5,h6⟩:=h;have k:za zq2 wr (wr.alloc o):=(za.refl _ _).alloc _;have k2:za (zq3 b) (wr.alloc o) ((wr.alloc o).setCell ⟨b,2,none⟩ (.int .i64 n)):=(za.refl _ _).setOne _ _;exact⟨zpE (zh k h1) n,k2.at (zh k h2) (by unfold zq3;omega),(h3.trans1 k).trans k2 (fun _ _ e=>e) (fun g hg e=>by have e':g=b:=e;omega),h4,h5,zc (zc h6 k (fun _ _ e=>e)) k2 (fun g e e2=>(h5 g e).2 e2)⟩
theorem znG {lo trim:Nat}{ps:List Pt}(h64:ps.length≤64)(hok:okPts lo ps)(hhi:zp lo ps≤1048576)(htr:trim≤1048576):okMf (zaU lo (zp lo ps) trim ps) where
 num:=by show 0≤999999;decide
 hi:=hhi
 trim:=htr
 prev:=List.length_replicate ..
 zero:=fun _=>by show isZ (List.replicate 32 0)=true;unfold isZ;exact beq_self_eq_true _
 many:=Nat.le_trans h64 (by decide)
 parts:=hok
 stop:=rfl
section
attribute [local go_sem ↓] zbB zU zbC zbD zV zbE zab zbK
theorem zj1 (a:Option Addr)(c lo trim:Nat)(pv:Value)(ps:List Pt)(w:World)(hp:zC w pv ps)(h32:zbI ps)(h64:ps.length≤64)(hok:okPts lo ps)(hhi:zp lo ps≤1048576)(htr:trim≤1048576) :
 Calls Tryz.prog 186 #[.slice a 0 c,.int .i64 lo,.int .i64 trim,pv] w fun e w'=>∃v',e = .returned (.tuple #[zq7 (zaU lo (zp lo ps) trim ps) v',.nilIface])∧za zq2 w w'∧w'.ownsRow w.heap.size 125 35 v' ps.length (zaP ps):=by
 have CL:=zz0 (fun w1 (k:za zq2 w w1)=>zdD pv ps w1 (hp.keepNon k) h32 (by omega))
 have PA:=zz0 hp;obtain⟨ra,rc,rfl,_,_,_⟩:=hp;have hbu:=fun a n c=>zia lo trim ps a n c
 have C1:=zz0 (fun W=>zeO a c W)
 have H1:Hid (∀W,Calls Tryz.prog 162 #[.slice a 0 c] W fun e w'=>e = .returned (.tuple #[zbY zD,.nilIface])∧za zq2 W w'):=zz0 (fun W=>zjZ a c W)
 go_enter Tryz.func186,Tryz.ntmps186
 go_wp2_with(first
  |(go_at_call 51;refine(C1.out _).mono ?_;rintro e w1 ⟨rfl,k1⟩;have b1:w1.heap[w.heap.size]? = some (.cells zra 54 (0,0)):=zh k1 (by exact ze w (.cells zra 54 (0,0)));have B1:=zz0 b1;have K1:=zz0 (((za.refl zq2 w).alloc _).trans1 k1);clear k1 b1)
  |(go_at_call 162;refine(H1.out _).mono ?_;rintro e w2 ⟨rfl,k2⟩;have B2:=zz0 (zh k2 B1.out);have K2:=zz0 (K1.out.trans1 k2);have hs2:=zoz w2;have hl2:=zpD w2;dsimp only[zq9] at hs2 hl2;clear k2))
 have kB:za zq2 w (w2.alloc (.cells zq9 51)):=K2.out.trans1 ((za.refl _ _).alloc _);have bh:(w2.alloc (.cells zq9 51)).heap[w2.heap.size]? = some (.cells zq9 51 (0,0)):=ze _ _;have br:(w2.alloc (.cells zq9 51)).heap[w.heap.size]? = some (.cells zra 54 (0,0)):=zh ((za.refl _ _).alloc _) B2.out;obtain⟨wB,hwB⟩:∃wB,wB=w2.alloc (.cells zq9 51):=⟨_,rfl⟩;rw[←hwB] at kB bh br;dsimp only[zq9] at hwB;rw[←hwB];clear hwB hs2 hl2;have ldH:∀W:World,W.heap[w2.heap.size]? = some (.cells zq9 51 (0,0))→(zZ 51 ⟨w2.heap.size,0,none⟩).run Tryz.prog W = .ok (zbY zD) W:=fun W h=>load81 W _ 0 zD rfl (fun j v hv=>by
  rw[Nat.zero_add,cell_of_row _ _ j _ _ _ h];have e:zq9=(zD.map bv).toArray:=by kernel_rfl
  rw[e];simpa using hv)
 have kz:∀W:World,za zq2 W (W.alloc (.cells zra 54)):=fun W=>(za.refl _ _).alloc _
 have lB:=ldH wB bh;have lBd:=ldH wB.drew bh;have lBz:=ldH _ (zh (kz wB) bh);have lBzd:=ldH (wB.alloc (.cells zra 54)).drew (zh (kz wB).drew bh);have CA:=zz0 (CL.out wB.drew (kB.trans1 (za.refl zq2 wB).drew));have CB:=zz0 (CL.out (wB.alloc (.cells zra 54)).drew (kB.trans1 (kz wB).drew));have NB:=zz0 (ze wB (.cells zra 54 (0,0)));dsimp only[zra] at lBz lBzd CB;have LH:=zz0 ldH;have KZ:=zz0 kz;have KB:=zz0 kB;have BH:=zz0 bh;have BR:=zz0 br;have SB:Hid (w.heap.size<wB.heap.size):=zz0 (lt_of_block br);clear ldH kz kB bh br
 go_region_law(go_simp;go_at_call 61;first
  |((with_reducible refine CA.out.mono ?_);rintro e w3 ⟨v3,rfl,k3,o3⟩;obtain⟨a3,c3,rfl,_,_⟩:=zb o3;have k3':=((za.refl zq2 wB).drew).trans1 k3;have l3:=LH.out w3 (zh k3' BH.out);have l3z:=LH.out _ (zh (KZ.out w3) (zh k3' BH.out));have hst:=zaZ w3 (zaU lo lo trim ps) a3 ps.length c3 rfl;dsimp only[zra,zq1] at hst l3z;have K3:=zz0 k3';have O3:Hid (w3.ownsRow wB.heap.size 125 35 (.slice a3 ps.length c3) ps.length (zaP ps)):=zz0 o3;have E:Hid (NxEnd w (zaU lo lo trim ps) (.slice a3 ps.length c3) w3.heap.size (w3.alloc (.cells (zq6 (zaU lo lo trim ps) (.slice a3 ps.length c3)).toArray 54))):=zz0 (nx_A (m:=zaU lo lo trim ps) KB.out BR.out k3' o3);clear k3 k3' o3)
  |((with_reducible refine CB.out.mono ?_);rintro e w3 ⟨v3,rfl,k3,o3⟩;obtain⟨a3,c3,rfl,_,_⟩:=zb o3;have k3':=((KZ.out wB).drew).trans1 k3;have l3:=LH.out w3 (zh k3' BH.out);have z3:=zh k3 NB.out;have hst:=zax w3 wB.heap.size (zaU lo lo trim ps) a3 ps.length c3 zra rfl rfl z3;have o3':w3.ownsRow (wB.heap.size+1) 125 35 (.slice a3 ps.length c3) ps.length (zaP ps):=(by simpa using o3);have E:Hid (NxEnd w (zaU lo lo trim ps) (.slice a3 ps.length c3) wB.heap.size (w3.setRow wB.heap.size (zq6 (zaU lo lo trim ps) (.slice a3 ps.length c3)).toArray)):=zz0 (nx_B (m:=zaU lo lo trim ps) KB.out BR.out k3' z3 o3');clear o3';clear k3 k3' o3 z3))
 all_goals
  have e0:=E.out
  first
   |(obtain⟨W4,hW⟩:∃W4,W4=w3.setRow wB.heap.size (zq6 (zaU lo lo trim ps) (.slice a3 ps.length c3)).toArray:=⟨_,rfl⟩;rw[←hW] at e0 ⊢;clear hW;obtain⟨bm,hb⟩:∃bm,bm=wB.heap.size:=⟨_,rfl⟩;rw[←hb] at e0 ⊢;clear hb)
   |(obtain⟨W4,hW⟩:∃W4,W4=w3.alloc (.cells (zq6 (zaU lo lo trim ps) (.slice a3 ps.length c3)).toArray 54):=⟨_,rfl⟩;rw[←hW] at e0 ⊢;clear hW;obtain⟨bm,hb⟩:∃bm,bm=w3.heap.size:=⟨_,rfl⟩;rw[←hb] at e0 ⊢;clear hb)
  have EN:=zz0 e0;clear e0
  go_wp2_with fail
 all_goals
  go_loopw [64] (fun i wr=>∃j:Nat,j≤ps.length∧i = .int .i64 j∧NxEnd w (zaU lo (zp lo (ps.take j)) trim ps) (.slice a3 ps.length c3) bm wr) (fun i _=>ps.length-(intOf i).toNat)
  case atStart=>exact⟨0,by omega,rfl,EN.out⟩
  case round =>
   obtain⟨j,hj,rfl,hn⟩:=hrel;have N:=zz0 hn;have c2:=mf_2 hn.1;have f2:=mf_f hn.1 2;simp only[zaU] at c2;clear hn;by_cases hlt:j<ps.length
   ·have hlj:(j:Int)<(ps.length:Int):=by omega
    obtain⟨p,hpj⟩:∃p,ps[j]? = some p:=⟨_,List.getElem?_eq_getElem hlt⟩;have hst:=za2 ps lo j p hpj;have hle:=Nat.le_trans (zaq ps lo (j+1)).2 hhi;have hp5:=h32 p (List.mem_of_getElem? hpj);obtain⟨a1,c1,e1,_,_,hx⟩:=PA.out.keepNon N.out.2.2.1;injection e1 with e1 e3 e4
    subst e1;subst e4;obtain⟨g,off,rfl,hcell⟩:=hx j p hpj;have hld:=load101 wr g (off+j*35) p hp5 hcell;have hsp:=zac wr p hp5;have q1:=ptc_1 p;have c2p:=mf_2 (zh ((za.refl zq2 wr).alloc (zq4 p)) N.out.1);have f2p:=mf_f (zh ((za.refl zq2 wr).alloc (zq4 p)) N.out.1) 2;simp only[zaU] at c2p;dsimp only[zrb,zq4] at hsp;dsimp only[zq4] at c2p f2p;have ST:=zz0 hst;clear hx hcell hpj
    go_wp2_with fail
    have hn2:=zl7 N.out (zq4 p) (zp lo (ps.take (j+1)));have ec:(((zp lo (ps.take (j+1)):Nat)):Int)=(zp lo (ps.take j):Int)+p.many:=by rw[ST.out];exact Int.natCast_add _ _
    dsimp only[zq4] at hn2;rw[ec] at hn2;exact⟨⟨j+1,by omega,by first|rfl|go_num,hn2⟩,by simp[intOf];omega⟩
   ·obtain rfl:j=ps.length:=by omega
    rw[List.take_length] at N;have hl3:=zO N.out.1 (List.length_replicate ..);have CK:=zz0 (zcr (zaU lo (zp lo ps) trim ps) (.slice a3 ps.length c3) wr (znG h64 hok hhi htr) (zC.of N.out.2.2.2.2.2 h32))
    go_wp2_with(go_at_call 104;refine CK.out.mono ?_;rintro e w5 ⟨rfl,k5⟩;have hl5:=zO (zh k5 N.out.1) (List.length_replicate ..);have z5:=zh k5 N.out.2.1;have hs5:=zax w5 w.heap.size (zaU lo (zp lo ps) trim ps) a3 ps.length c3 zra (List.length_replicate ..) rfl z5;have hl6:=zO (m:=zaU lo (zp lo ps) trim ps) (pv:=.slice a3 ps.length c3) (setRow_heap w5 w.heap.size _ (zq6 (zaU lo (zp lo ps) trim ps) (.slice a3 ps.length c3)).toArray _ _ z5) (List.length_replicate ..);have L6:=zz0 hl6;have K5:=zz0 k5;clear k5 z5 hl6)
    have hlv:=L6.out;unfold zZ at hlv;refine bodyPost_ret (v:=.tuple #[zq7 (zaU lo (zp lo ps) trim ps) (.slice a3 ps.length c3),.nilIface]) (by simp[results,Tryz.results186,asAddr,hlv]) rfl ?_
    have k6:za (zq3 w.heap.size) w5 (w5.setRow w.heap.size (zq6 (zaU lo (zp lo ps) trim ps) (.slice a3 ps.length c3)).toArray):=(za.refl (zq3 w.heap.size) _).setRow (.inl (zK _)) _;have ho:=N.out.2.2.2.2;exact⟨_,rfl,(N.out.2.2.1.trans1 K5.out).trans k6 (fun _ _ e=>e) (fun g hg e=>by have e':g=w.heap.size:=e;omega),zc (zc ho.2 K5.out (fun _ _ e=>e)) k6 (fun g e e2=>by have e':g=w.heap.size:=e2;have:=(ho.1 g e).1;omega)⟩
end
def digM (m:Mf):List UInt8:=digB (shaS (zb2 m))
theorem znx (D:List UInt8):(D.map bv).toArray.all (·.oneCell')=true:=by
 rw[List.all_toArray,List.all_eq_true];intro x hx;obtain⟨y,_,rfl⟩:=List.mem_map.1 hx
 rfl
theorem zc7 (w:World)(g:Nat)(D:List UInt8)(old:Array Value)(h:D.length=32)(ho:old.size=32)(hg:w.heap[g]? = some (.cells old 51 (0,0))) :
 (holdW 51 ⟨g,0,none⟩ (zbY D)).run Tryz.prog w = .ok () (w.setRow g (D.map bv).toArray) :=
 run_storeVar_row (P:=Tryz.prog) w g 51 51 old (D.map bv).toArray hg (by rw[List.size_toArray,List.length_map,h];exact sz81) (ho.trans (by rw[List.size_toArray,List.length_map,h])) (znx D)
theorem zdh {w:World}{g:Nat}{D:List UInt8}(hg:w.heap[g]? = some (.cells (D.map bv).toArray 51 (0,0)))(h:D.length=32):(zZ 51 ⟨g,0,none⟩).run Tryz.prog w = .ok (zbY D) w :=
 load81 w g 0 D h (fun j v hv=>by rw[Nat.zero_add,cell_of_row _ _ j _ _ _ hg];simpa using hv)
theorem zer (m:Mf):(digM m).length=32:=zJ _
section
attribute [local go_sem ↓] zbB zU zbC zbD zV zbE zab zbK
theorem zkn (m:Mf)(a:Option Addr)(n c:Nat)(w:World)(h:okMf m)(hn:n=m.parts.length)(hp:zC w (.slice a n c) m.parts)(h64:m.parts.length≤64)(hb:(zb2 m).length≤131072)(hK:Kon w)(hF:Frs w) :
 Calls Tryz.prog 226 #[zq7 m (.slice a n c)] w fun e w'=>e = .returned (.tuple #[zbY (digM m),.nilIface])∧za zq2 w w':=by
 subst hn;have PU:=zz0 (fun W (k:za zq2 w W)=>ziy m (.slice a m.parts.length c) W h (hp.keepNon k) h64)
 have HKF:=zz0 (And.intro hK hF);have b0:=zi (ze w (zq1 m (.slice a m.parts.length c))) (.cells zq9 51);have z0:((w.alloc (zq1 m (.slice a m.parts.length c))).alloc (.cells zq9 51)).heap[w.heap.size+1]? = some (.cells zq9 51 (0,0)):=zaa _ _ _;have hl:=zO b0 h.prev;have kA:za zq2 w ((w.alloc (zq1 m (.slice a m.parts.length c))).alloc (.cells zq9 51)):=((za.refl _ _).alloc _).alloc _;have Z0:=zz0 z0;have KA:=zz0 kA;unfold zq7 at PU hl ⊢;dsimp only[zq9,zq1] at hl;clear hp hK hF b0 z0 kA
 go_enter Tryz.func226,Tryz.ntmps226
 go_wp2_with(first
  |(go_at_call 243;refine(PU.out _ (by exact KA.out)).mono ?_;rintro e w1 ⟨v1,rfl,k1,o1⟩;obtain⟨a1,c1,rfl,_,_⟩:=zb o1;have K1:=zz0 (KA.out.trans1 k1);have O1:=zz0 o1;have Z1:=zz0 (zh k1 Z0.out);clear k1 o1)
  |(go_at_call 283;refine(ziR (zb2 m) a1 c1 _ (Rd.ofOwns O1.out) (HKF.out.1.keep K1.out) (HKF.out.2.keep K1.out) hb).mono ?_;rintro e w2 ⟨rfl,k2⟩;have K2:=zz0 k2;have hst:=zc7 w2 (w.heap.size+1) (digB (shaS (zb2 m))) zq9 (zJ _) rfl (zh k2 Z1.out);clear k2))
 have hlv:=zdh (w:=w2.setRow (w.heap.size+1) (List.map bv (digB (shaS (zb2 m)))).toArray) (setRow_heap _ _ _ _ _ _ (zh K2.out Z1.out)) (zJ _);unfold zZ at hlv;refine bodyPost_ret (v:=.tuple #[zbY (digM m),.nilIface]) (by simp[results,Tryz.results226,asAddr,hlv,digM]) rfl ?_
 exact⟨rfl,(K1.out.trans1 K2.out).setRow (.inr (by omega)) _⟩
end
end Go.Proofs.YtpojgmeoaflmoaaGreatDoor
