/- chain.Next behind no manifest: walked. · A manifest's digest, the head of a chain of one manifest: walked. · Chains of any length: what follows what ( -/
import Derived.Test.YtnboipdpccnedaaGreatDoorQ24
set_option linter.unusedVariables false
set_option maxRecDepth 100000
set_option maxHeartbeats 16000000
namespace Go.Proofs.YtnboipdpccnedaaGreatDoor
open Go.RowKit
theorem zow {w:World} {b:Nat} {m:Mf} {pv:Value} (h:w.heap[b]? = some (MfB m pv)) (n:Nat):(w.setCell ⟨b,2,none⟩ (.int .i64 n)).heap[b]? = some (MfB { m with hi:=n } pv):=zaf h 2 _
def zD:List UInt8:=List.replicate 32 0
theorem zni (w:World):(holdW 84 ⟨w.heap.size,0,none⟩ (arrV zD)).run Tryz.prog (w.alloc (.cells z32 84)) = .ok () (w.alloc (.cells z32 84)):=by
  have h:=zgN w
  rw [zqi] at h
  exact h
theorem zou (w:World):(holdV 84 ⟨w.heap.size,0,none⟩).run Tryz.prog (w.alloc (.cells z32 84)) = .ok (arrV zD) (w.alloc (.cells z32 84)):=zfE w
def firstM (lo hi trim:Nat) (ps:List Pt):Mf:=⟨0,lo,hi,trim,List.replicate 32 0,ps⟩
theorem zgW (lo trim:Nat) (ps:List Pt) (a:Option Addr) (n c:Nat) (w:World):(holdB 87 #[(0,.int .i64 0),(1,.int .i64 lo),(2,.int .i64 lo),(3,.int .i64 trim),(4,arrV zD),(5,.slice a n c)]).run Tryz.prog w = .ok (mfV (firstM lo lo trim ps) (.slice a n c)) w :=
  run_build w 87 _ _ (by kernel_rfl)
def NxEnd (w:World) (m:Mf) (v:Value) (b:Nat) (W:World):Prop :=
  W.heap[b]? = some (MfB m v)∧W.heap[w.heap.size]? = some (.cells zMf 87 (0,0))∧Keep Non w W∧w.heap.size < b∧(∀ g,v.ownBlock=some g→w.heap.size < g∧g≠b)∧W.ownsRow w.heap.size 106 35 v m.parts.length (ptsC m.parts)
theorem nx_A {w wB w3:World} {m:Mf} {a:Option Addr} {c:Nat} (kB:Keep Non w wB) (br:wB.heap[w.heap.size]? = some (.cells zMf 87 (0,0))) (k3:Keep Non wB w3) (o:w3.ownsRow wB.heap.size 106 35 (.slice a m.parts.length c) m.parts.length (ptsC m.parts)) :
    NxEnd w m (.slice a m.parts.length c) w3.heap.size (w3.alloc (MfB m (.slice a m.parts.length c))):=by
  have k:Keep Non w3 (w3.alloc (MfB m (.slice a m.parts.length c))):=(Keep.refl _ _).alloc _
  have hb:=lt_of_block br
  have h3:=k3.size
  exact ⟨zab _ _,nonAt k (nonAt k3 br),(kB.trans1 k3).trans1 k,by omega,fun g e=>by have:=o.lt g e;omega,zad (zac o k (fun _ _ e=>e)) (by omega)⟩
theorem nx_B {w wB w3:World} {m:Mf} {a:Option Addr} {c:Nat} (kB:Keep Non w wB) (br:wB.heap[w.heap.size]? = some (.cells zMf 87 (0,0))) (k3:Keep Non wB w3) (z3:w3.heap[wB.heap.size]? = some (.cells zMf 87 (0,0))) (o:w3.ownsRow (wB.heap.size+1) 106 35 (.slice a m.parts.length c) m.parts.length (ptsC m.parts)) :
    NxEnd w m (.slice a m.parts.length c) wB.heap.size (w3.setRow wB.heap.size (mfC m (.slice a m.parts.length c)).toArray):=by
  have hb:=lt_of_block br
  have k:Keep (One wB.heap.size) w3 (w3.setRow wB.heap.size (mfC m (.slice a m.parts.length c)).toArray):=(Keep.refl (One _) _).setRow (.inl (zar _)) _
  exact ⟨setRow_heap _ _ _ _ _ _ z3,k.at (nonAt k3 br) (by unfold One;omega),(kB.trans1 k3).trans k (fun _ _ e=>e) (fun g hg e=>by have e':g=wB.heap.size:=e;have:=kB.size;omega),hb,fun g e=>by have:=(o.lt g e).1;omega,zad (zac o k (fun g e e2=>by have e':g=wB.heap.size:=e2;have:=(o.lt g e).1;omega)) (by omega)⟩
theorem zkJ {w wr:World} {m:Mf} {v:Value} {b:Nat} (h:NxEnd w m v b wr) (o:Obj) (n:Nat):NxEnd w { m with hi:=n } v b ((wr.alloc o).setCell ⟨b,2,none⟩ (.int .i64 n)):=by
  obtain ⟨h1,h2,h3,h4,h5,h6⟩:=h
  have k:Keep Non wr (wr.alloc o):=(Keep.refl _ _).alloc _
  have k2:Keep (One b) (wr.alloc o) ((wr.alloc o).setCell ⟨b,2,none⟩ (.int .i64 n)):=(Keep.refl _ _).setOne _ _
  exact ⟨zow (nonAt k h1) n,k2.at (nonAt k h2) (by unfold One;omega),(h3.trans1 k).trans k2 (fun _ _ e=>e) (fun g hg e=>by have e':g=b:=e;omega),h4,h5,zac (zac h6 k (fun _ _ e=>e)) k2 (fun g e e2=>(h5 g e).2 e2)⟩
theorem zmh {lo trim:Nat} {ps:List Pt} (h64:ps.length≤64) (hok:okPts lo ps) (hhi:endPts lo ps≤1048576) (htr:trim≤1048576):okMf (firstM lo (endPts lo ps) trim ps) where
  num:=by show 0≤999999;decide
  hi:=hhi
  trim:=htr
  prev:=List.length_replicate ..
  zero:=fun _=>by show isZ (List.replicate 32 0)=true;unfold isZ;exact beq_self_eq_true _
  many:=Nat.le_trans h64 (by decide)
  parts:=hok
  stop:=rfl
section
attribute [local go_sem ↓] hV84 hV106 hV87 hW84 hW106 hW87 hB106 hB87
theorem ziD (a:Option Addr) (c lo trim:Nat) (pv:Value) (ps:List Pt) (w:World) (hp:PtsAt w pv ps) (h32:pts32 ps) (h64:ps.length≤64) (hok:okPts lo ps) (hhi:endPts lo ps≤1048576) (htr:trim≤1048576) :
    Calls Tryz.prog 198 #[.slice a 0 c,.int .i64 lo,.int .i64 trim,pv] w fun e w'=>∃ v',e = .returned (.tuple #[mfV (firstM lo (endPts lo ps) trim ps) v',.nilIface])∧Keep Non w w'∧w'.ownsRow w.heap.size 106 35 v' ps.length (ptsC ps):=by
  have CL:=zz0 (fun w1 (k:Keep Non w w1)=>zcH pv ps w1 (hp.keepNon k) h32 (by omega))
  have PA:=zz0 hp
  obtain ⟨ra,rc,rfl,_,_,_⟩:=hp
  have hbu:=fun a n c=>zgW lo trim ps a n c
  have C1:=zz0 (fun W=>zdN a c W)
  have H1:Hid (∀ W,Calls Tryz.prog 159 #[.slice a 0 c] W fun e w'=>e = .returned (.tuple #[arrV zD,.nilIface])∧Keep Non W w'):=zz0 (fun W=>ziB a c W)
  go_enter Tryz.func198,Tryz.ntmps198
  go_wp2_with (first
    | (go_at_call 45;refine (C1.out _).mono ?_;rintro e w1 ⟨rfl,k1⟩;have b1:w1.heap[w.heap.size]? = some (.cells zMf 87 (0,0)):=nonAt k1 (by exact zab w (.cells zMf 87 (0,0)));have B1:=zz0 b1;have K1:=zz0 (((Keep.refl Non w).alloc _).trans1 k1);clear k1 b1)
    | (go_at_call 159;refine (H1.out _).mono ?_;rintro e w2 ⟨rfl,k2⟩;have B2:=zz0 (nonAt k2 B1.out);have K2:=zz0 (K1.out.trans1 k2);have hs2:=zni w2;have hl2:=zou w2;dsimp only [z32] at hs2 hl2;clear k2))
  have kB:Keep Non w (w2.alloc (.cells z32 84)):=K2.out.trans1 ((Keep.refl _ _).alloc _)
  have bh:(w2.alloc (.cells z32 84)).heap[w2.heap.size]? = some (.cells z32 84 (0,0)):=zab _ _
  have br:(w2.alloc (.cells z32 84)).heap[w.heap.size]? = some (.cells zMf 87 (0,0)):=nonAt ((Keep.refl _ _).alloc _) B2.out
  obtain ⟨wB,hwB⟩:∃ wB,wB=w2.alloc (.cells z32 84):=⟨_,rfl⟩
  rw [← hwB] at kB bh br
  dsimp only [z32] at hwB
  rw [← hwB]
  clear hwB hs2 hl2
  have ldH:∀ W:World,W.heap[w2.heap.size]? = some (.cells z32 84 (0,0))→(holdV 84 ⟨w2.heap.size,0,none⟩).run Tryz.prog W = .ok (arrV zD) W:=fun W h=>load81 W _ 0 zD rfl (fun j v hv=>by
    rw [Nat.zero_add,cell_of_row _ _ j _ _ _ h]
    have e:z32=(zD.map bv).toArray:=by kernel_rfl
    rw [e]
    simpa using hv)
  have kz:∀ W:World,Keep Non W (W.alloc (.cells zMf 87)):=fun W=>(Keep.refl _ _).alloc _
  have lB:=ldH wB bh
  have lBd:=ldH wB.drew bh
  have lBz:=ldH _ (nonAt (kz wB) bh)
  have lBzd:=ldH (wB.alloc (.cells zMf 87)).drew (nonAt (kz wB).drew bh)
  have CA:=zz0 (CL.out wB.drew (kB.trans1 (Keep.refl Non wB).drew))
  have CB:=zz0 (CL.out (wB.alloc (.cells zMf 87)).drew (kB.trans1 (kz wB).drew))
  have NB:=zz0 (zab wB (.cells zMf 87 (0,0)))
  dsimp only [zMf] at lBz lBzd CB
  have LH:=zz0 ldH
  have KZ:=zz0 kz
  have KB:=zz0 kB
  have BH:=zz0 bh
  have BR:=zz0 br
  have SB:Hid (w.heap.size < wB.heap.size):=zz0 (lt_of_block br)
  clear ldH kz kB bh br
  go_region_law (go_simp;go_at_call 80;first
    | ((with_reducible refine CA.out.mono ?_);rintro e w3 ⟨v3,rfl,k3,o3⟩;obtain ⟨a3,c3,rfl,_,_⟩:=zaa o3;have k3':=((Keep.refl Non wB).drew).trans1 k3;have l3:=LH.out w3 (nonAt k3' BH.out);have l3z:=LH.out _ (nonAt (KZ.out w3) (nonAt k3' BH.out));have hst:=zaF w3 (firstM lo lo trim ps) a3 ps.length c3 rfl;dsimp only [zMf,MfB] at hst l3z;have K3:=zz0 k3';have O3:Hid (w3.ownsRow wB.heap.size 106 35 (.slice a3 ps.length c3) ps.length (ptsC ps)):=zz0 o3;have E:Hid (NxEnd w (firstM lo lo trim ps) (.slice a3 ps.length c3) w3.heap.size (w3.alloc (.cells (mfC (firstM lo lo trim ps) (.slice a3 ps.length c3)).toArray 87))):=zz0 (nx_A (m:=firstM lo lo trim ps) KB.out BR.out k3' o3);clear k3 k3' o3)
    | ((with_reducible refine CB.out.mono ?_);rintro e w3 ⟨v3,rfl,k3,o3⟩;obtain ⟨a3,c3,rfl,_,_⟩:=zaa o3;have k3':=((KZ.out wB).drew).trans1 k3;have l3:=LH.out w3 (nonAt k3' BH.out);have z3:=nonAt k3 NB.out;have hst:=zaT w3 wB.heap.size (firstM lo lo trim ps) a3 ps.length c3 zMf rfl rfl z3;have o3':w3.ownsRow (wB.heap.size+1) 106 35 (.slice a3 ps.length c3) ps.length (ptsC ps):=(by simpa using o3);have E:Hid (NxEnd w (firstM lo lo trim ps) (.slice a3 ps.length c3) wB.heap.size (w3.setRow wB.heap.size (mfC (firstM lo lo trim ps) (.slice a3 ps.length c3)).toArray)):=zz0 (nx_B (m:=firstM lo lo trim ps) KB.out BR.out k3' z3 o3');clear o3';clear k3 k3' o3 z3))
  all_goals
    have e0:=E.out
    first
      | (obtain ⟨W4,hW⟩:∃ W4,W4=w3.setRow wB.heap.size (mfC (firstM lo lo trim ps) (.slice a3 ps.length c3)).toArray:=⟨_,rfl⟩;rw [← hW] at e0 ⊢;clear hW;obtain ⟨bm,hb⟩:∃ bm,bm=wB.heap.size:=⟨_,rfl⟩;rw [← hb] at e0 ⊢;clear hb)
      | (obtain ⟨W4,hW⟩:∃ W4,W4=w3.alloc (.cells (mfC (firstM lo lo trim ps) (.slice a3 ps.length c3)).toArray 87):=⟨_,rfl⟩;rw [← hW] at e0 ⊢;clear hW;obtain ⟨bm,hb⟩:∃ bm,bm=w3.heap.size:=⟨_,rfl⟩;rw [← hb] at e0 ⊢;clear hb)
    have EN:=zz0 e0
    clear e0
    go_wp2_with fail
  all_goals
    go_loopw [64] (fun i wr=>∃ j:Nat,j≤ps.length∧i = .int .i64 j∧NxEnd w (firstM lo (endPts lo (ps.take j)) trim ps) (.slice a3 ps.length c3) bm wr) (fun i _=>ps.length - (intOf i).toNat)
    case atStart=>exact ⟨0,by omega,rfl,EN.out⟩
    case round =>
      obtain ⟨j,hj,rfl,hn⟩:=hrel
      have N:=zz0 hn
      have c2:=mf_2 hn.1
      have f2:=mf_f hn.1 2
      simp only [firstM] at c2
      clear hn
      by_cases hlt:j < ps.length
      · have hlj:(j:Int) < (ps.length:Int):=by omega
        obtain ⟨p,hpj⟩:∃ p,ps[j]? = some p:=⟨_,List.getElem?_eq_getElem hlt⟩
        have hst:=za7 ps lo j p hpj
        have hle:=Nat.le_trans (zaH ps lo (j+1)).2 hhi
        have hp5:=h32 p (List.mem_of_getElem? hpj)
        obtain ⟨a1,c1,e1,_,_,hx⟩:=PA.out.keepNon N.out.2.2.1
        injection e1 with e1 e3 e4
        subst e1
        subst e4
        obtain ⟨g,off,rfl,hcell⟩:=hx j p hpj
        have hld:=load101 wr g (off+j * 35) p hp5 hcell
        have hsp:=zas wr p hp5
        have q1:=ptc_1 p
        have c2p:=mf_2 (nonAt ((Keep.refl Non wr).alloc (PtB p)) N.out.1)
        have f2p:=mf_f (nonAt ((Keep.refl Non wr).alloc (PtB p)) N.out.1) 2
        simp only [firstM] at c2p
        dsimp only [zPt,PtB] at hsp
        dsimp only [PtB] at c2p f2p
        have ST:=zz0 hst
        clear hx hcell hpj
        go_wp2_with fail
        have hn2:=zkJ N.out (PtB p) (endPts lo (ps.take (j+1)))
        have ec:(((endPts lo (ps.take (j+1)):Nat)):Int)=(endPts lo (ps.take j):Int)+p.many:=by rw [ST.out];exact Int.natCast_add _ _
        dsimp only [PtB] at hn2
        rw [ec] at hn2
        exact ⟨⟨j+1,by omega,by first | rfl | go_num,hn2⟩,by simp [intOf];omega⟩
      · obtain rfl:j=ps.length:=by omega
        rw [List.take_length] at N
        have hl3:=zan N.out.1 (List.length_replicate ..)
        have CK:=zz0 (zbp (firstM lo (endPts lo ps) trim ps) (.slice a3 ps.length c3) wr (zmh h64 hok hhi htr) (PtsAt.of N.out.2.2.2.2.2 h32))
        go_wp2_with (go_at_call 101;refine CK.out.mono ?_;rintro e w5 ⟨rfl,k5⟩;have hl5:=zan (nonAt k5 N.out.1) (List.length_replicate ..);have z5:=nonAt k5 N.out.2.1;have hs5:=zaT w5 w.heap.size (firstM lo (endPts lo ps) trim ps) a3 ps.length c3 zMf (List.length_replicate ..) rfl z5;have hl6:=zan (m:=firstM lo (endPts lo ps) trim ps) (pv:=.slice a3 ps.length c3) (setRow_heap w5 w.heap.size _ (mfC (firstM lo (endPts lo ps) trim ps) (.slice a3 ps.length c3)).toArray _ _ z5) (List.length_replicate ..);have L6:=zz0 hl6;have K5:=zz0 k5;clear k5 z5 hl6)
        have hlv:=L6.out
        unfold holdV at hlv
        refine bodyPost_ret (v:=.tuple #[mfV (firstM lo (endPts lo ps) trim ps) (.slice a3 ps.length c3),.nilIface]) (by simp [results,Tryz.results198,asAddr,hlv]) rfl ?_
        have k6:Keep (One w.heap.size) w5 (w5.setRow w.heap.size (mfC (firstM lo (endPts lo ps) trim ps) (.slice a3 ps.length c3)).toArray):=(Keep.refl (One w.heap.size) _).setRow (.inl (zar _)) _
        have ho:=N.out.2.2.2.2
        exact ⟨_,rfl,(N.out.2.2.1.trans1 K5.out).trans k6 (fun _ _ e=>e) (fun g hg e=>by have e':g=w.heap.size:=e;omega),zac (zac ho.2 K5.out (fun _ _ e=>e)) k6 (fun g e e2=>by have e':g=w.heap.size:=e2;have:=(ho.1 g e).1;omega)⟩
end
def digM (m:Mf):List UInt8:=digB (shaS (mfBy m))
theorem zhT (D:List UInt8):(D.map bv).toArray.all (·.oneCell')=true:=by
  rw [List.all_toArray,List.all_eq_true]
  intro x hx
  obtain ⟨y,_,rfl⟩:=List.mem_map.1 hx
  rfl
theorem zcd (w:World) (g:Nat) (D:List UInt8) (old:Array Value) (h:D.length=32) (ho:old.size=32) (hg:w.heap[g]? = some (.cells old 84 (0,0))) :
    (holdW 84 ⟨g,0,none⟩ (arrV D)).run Tryz.prog w = .ok () (w.setRow g (D.map bv).toArray) :=
  run_storeVar_row (P:=Tryz.prog) w g 84 84 old (D.map bv).toArray hg (by rw [List.size_toArray,List.length_map,h];exact sz81) (ho.trans (by rw [List.size_toArray,List.length_map,h])) (zhT D)
theorem zco {w:World} {g:Nat} {D:List UInt8} (hg:w.heap[g]? = some (.cells (D.map bv).toArray 84 (0,0))) (h:D.length=32):(holdV 84 ⟨g,0,none⟩).run Tryz.prog w = .ok (arrV D) w :=
  load81 w g 0 D h (fun j v hv=>by rw [Nat.zero_add,cell_of_row _ _ j _ _ _ hg];simpa using hv)
theorem zdr (m:Mf):(digM m).length=32:=zal _
section
attribute [local go_sem ↓] hV84 hV106 hV87 hW84 hW106 hW87 hB106 hB87
theorem ziY (m:Mf) (a:Option Addr) (n c:Nat) (w:World) (h:okMf m) (hn:n=m.parts.length) (hp:PtsAt w (.slice a n c) m.parts) (h64:m.parts.length≤64) (hb:(mfBy m).length≤131072) (hK:Kon w) (hF:Frs w) :
    Calls Tryz.prog 218 #[mfV m (.slice a n c)] w fun e w'=>e = .returned (.tuple #[arrV (digM m),.nilIface])∧Keep Non w w':=by
  subst hn
  have PU:=zz0 (fun W (k:Keep Non w W)=>zkF m (.slice a m.parts.length c) W h (hp.keepNon k) h64)
  have HKF:=zz0 (And.intro hK hF)
  have b0:=zae (zab w (MfB m (.slice a m.parts.length c))) (.cells z32 84)
  have z0:((w.alloc (MfB m (.slice a m.parts.length c))).alloc (.cells z32 84)).heap[w.heap.size+1]? = some (.cells z32 84 (0,0)):=zaA _ _ _
  have hl:=zan b0 h.prev
  have kA:Keep Non w ((w.alloc (MfB m (.slice a m.parts.length c))).alloc (.cells z32 84)):=((Keep.refl _ _).alloc _).alloc _
  have Z0:=zz0 z0
  have KA:=zz0 kA
  unfold mfV at PU hl ⊢
  dsimp only [z32,MfB] at hl
  clear hp hK hF b0 z0 kA
  go_enter Tryz.func218,Tryz.ntmps218
  go_wp2_with (first
    | (go_at_call 268;refine (PU.out _ (by exact KA.out)).mono ?_;rintro e w1 ⟨v1,rfl,k1,o1⟩;obtain ⟨a1,c1,rfl,_,_⟩:=zaa o1;have K1:=zz0 (KA.out.trans1 k1);have O1:=zz0 o1;have Z1:=zz0 (nonAt k1 Z0.out);clear k1 o1)
    | (go_at_call 160;refine (zfR (mfBy m) a1 c1 _ (Rd.ofOwns O1.out) (HKF.out.1.keep K1.out) (HKF.out.2.keep K1.out) hb).mono ?_;rintro e w2 ⟨rfl,k2⟩;have K2:=zz0 k2;have hst:=zcd w2 (w.heap.size+1) (digB (shaS (mfBy m))) z32 (zal _) rfl (nonAt k2 Z1.out);clear k2))
  have hlv:=zco (w:=w2.setRow (w.heap.size+1) (List.map bv (digB (shaS (mfBy m)))).toArray) (setRow_heap _ _ _ _ _ _ (nonAt K2.out Z1.out)) (zal _)
  unfold holdV at hlv
  refine bodyPost_ret (v:=.tuple #[arrV (digM m),.nilIface]) (by simp [results,Tryz.results218,asAddr,hlv,digM]) rfl ?_
  exact ⟨rfl,(K1.out.trans1 K2.out).setRow (.inr (by omega)) _⟩
end
def folM (ahead:List Mf) (m:Mf):Prop:=m.num=ahead.length∧(ahead≠[]→m.prev=digM (lastM ahead)∧m.lo=(lastM ahead).hi∧(lastM ahead).trim≤m.trim)
def okCh (ms:List Mf):Prop:=∀ i m,ms[i]? = some m→okMf m∧folM (ms.take i) m∧m.parts.length≤64∧(mfBy m).length≤65536
theorem okCh.nil:okCh []:=fun i m h=>by simp at h
theorem okCh.snoc {ms:List Mf} {m:Mf} (h:okCh ms) (ok:okMf m) (f:folM ms m) (h64:m.parts.length≤64) (hb:(mfBy m).length≤65536):okCh (ms ++ [m]):=fun i x hx=>by
  rcases Nat.lt_or_ge i ms.length with hi | hi
  · rw [List.getElem?_append_left hi] at hx
    rw [List.take_append_of_le_length (by omega)]
    exact h i x hx
  · rw [List.getElem?_append_right hi] at hx
    have e:i - ms.length=0:=by
      have:=(List.getElem?_eq_some_iff.1 hx).1
      simp at this
      omega
    rw [e] at hx
    simp at hx
    subst hx
    rw [show i=ms.length by omega,List.take_left]
    exact ⟨ok,f,h64,hb⟩
theorem okCh.take {ms:List Mf} (h:okCh ms) (n:Nat):okCh (ms.take n):=fun i m hi=>by
  have hl:=(List.getElem?_eq_some_iff.1 hi).1
  rw [List.length_take] at hl
  rw [List.getElem?_take] at hi
  rw [if_pos (by omega)] at hi
  rw [List.take_take,Nat.min_eq_left (by omega)]
  exact h i m hi
theorem zkr {ms:List Mf} (hne:ms≠[]):ms[ms.length - 1]? = some (lastM ms):=by
  unfold lastM
  rw [← List.getLast?_eq_getElem?]
  cases h:ms.getLast? with
  | none=>exact absurd (List.getLast?_eq_none_iff.1 h) hne
  | some m=>rfl
theorem okCh.last {ms:List Mf} (h:okCh ms) (hne:ms≠[]):okMf (lastM ms)∧(lastM ms).parts.length≤64∧(mfBy (lastM ms)).length≤65536:=by
  obtain ⟨a,_,b,c⟩:=h _ _ (zkr hne)
  exact ⟨a,b,c⟩
theorem MsAt.take {T:Nat→Prop} {w:World} {a:Option Addr} {n c:Nat} {ms:List Mf} (h:MsAt T w (.slice a n c) ms) (j:Nat) (hj:j≤ms.length):MsAt T w (.slice a j c) (ms.take j):=by
  obtain ⟨a',c',e,hc,ha,hx⟩:=h
  injection e with e1 e2 e3
  subst e1
  subst e3
  refine ⟨a,c,by rw [List.length_take,Nat.min_eq_left hj],by rw [List.length_take];omega,ha,fun i m hi=>?_⟩
  have hl:=(List.getElem?_eq_some_iff.1 hi).1
  rw [List.length_take] at hl
  rw [List.getElem?_take,if_pos (by omega)] at hi
  exact hx i m hi
section
attribute [local go_sem ↓] hV84 hV106 hV87 hW84 hW106 hW87 hB106 hB87
theorem zeV (T:Nat→Prop) (v:Value) (ms:List Mf) (w:World) (h:MsAt T w v ms) (hne:ms≠[]) (hlen:ms.length≤1000) (hm:okMf (lastM ms)) (h64:(lastM ms).parts.length≤64) (hb:(mfBy (lastM ms)).length≤131072) (hK:Kon w) (hF:Frs w) :
    Calls Tryz.prog 159 #[v] w fun e w'=>e = .returned (.tuple #[arrV (digM (lastM ms)),.nilIface])∧Keep Non w w':=by
  have LA:=zz0 (fun W (k:Keep Non w W)=>zdP T v ms W (h.keepNon k) (by omega))
  have HKF:=zz0 (And.intro hK hF)
  obtain ⟨a,c,rfl,hc,ha,hx⟩:=h
  have hl0:¬ (ms.length:Int)=0:=fun e=>hne (List.eq_nil_of_length_eq_zero (by omega))
  have hl1:¬ ms.length=0:=fun e=>hne (List.eq_nil_of_length_eq_zero e)
  generalize lastM ms=m at LA hm h64 hb ⊢
  clear hx ha hK hF hc hne
  go_enter Tryz.func159,Tryz.ntmps159
  go_wp2_with (first
    | (go_at_call 130;refine (LA.out _ (by first | exact Keep.refl _ _ | exact (Keep.refl _ _).alloc _ | exact ((Keep.refl _ _).alloc _).alloc _)).mono ?_;rintro e w1 ⟨pa,pc,rfl,k1,p1,_⟩;have K1:=zz0 k1;have P1:=zz0 p1;clear k1 p1)
    | (go_at_call 218;refine (ziY m pa _ pc _ hm rfl P1.out h64 hb (HKF.out.1.keep (((Keep.refl Non w).alloc _).trans1 K1.out)) (HKF.out.2.keep (((Keep.refl Non w).alloc _).trans1 K1.out))).mono ?_;rintro e w2 ⟨rfl,k2⟩;have K2:=zz0 k2;have z2:w2.heap[w.heap.size]? = some (.cells z32 84 (0,0)):=nonAt k2 (nonAt K1.out (by exact zab w (.cells z32 84)));have hst:=zcd w2 w.heap.size (digM m) z32 (zdr m) rfl z2;have Z2:=zz0 z2;clear k2 z2))
  have hlv:=zco (w:=w2.setRow w.heap.size (List.map bv (digM m)).toArray) (setRow_heap _ _ _ _ _ _ Z2.out) (zdr m)
  unfold holdV at hlv
  refine bodyPost_ret (v:=.tuple #[arrV (digM m),.nilIface]) (by simp [results,Tryz.results159,asAddr,hlv]) rfl ?_
  exact ⟨rfl,((((Keep.refl Non w).alloc _).trans1 K1.out).trans1 K2.out).setRow (.inr (Nat.le_refl _)) _⟩
theorem zf5 (T:Nat→Prop) (v:Value) (ms:List Mf) (m:Mf) (a:Option Addr) (n c:Nat) (w:World) (h:MsAt T w v ms) (hne:ms≠[]) (hlen:ms.length≤1000) (ok:okCh ms) (hf:folM ms m) (h32:m.prev.length=32) (hK:Kon w) (hF:Frs w) :
    Calls Tryz.prog 102 #[v,mfV m (.slice a n c)] w fun e w'=>e = .returned (.bool true)∧Keep Non w w':=by
  obtain ⟨ok1,ok2,ok3⟩:=ok.last hne
  obtain ⟨hnum,hf⟩:=hf
  obtain ⟨hprev,hlo,htr⟩:=hf hne
  have HD:=zz0 (fun W (k:Keep Non w W)=>zeV T v ms W (h.keepNon k) hne hlen ok1 ok2 (by omega) (hK.keep k) (hF.keep k))
  have ED:=zz0 (fun W (k:Keep Non w W)=>zcG T v ms W (h.keepNon k) (by omega))
  have MK:=zz0 (fun W (k:Keep Non w W)=>zcI T v ms W (h.keepNon k) (by omega))
  have hl0:¬ (ms.length:Int)=0:=fun e=>hne (List.eq_nil_of_length_eq_zero (by omega))
  have hl1:¬ ms.length=0:=fun e=>hne (List.eq_nil_of_length_eq_zero e)
  rw [← hprev] at HD
  rw [← hlo] at ED
  have htri:((lastM ms).trim:Int)≤m.trim:=by omega
  generalize (lastM ms).trim=tr at MK htri
  obtain ⟨va,vc,rfl,_⟩:=h
  have q0:=mfc_0 m (.slice a n c)
  have q1:=mfc_1 m (.slice a n c)
  have q3:=mfc_3 m (.slice a n c)
  rw [hnum] at q0
  have heq:=zob m.prev m.prev h32 h32
  rw [beq_self_eq_true] at heq
  have hgd:=zd7
  clear ok1 ok2 ok3 hf hprev hlo htr ok hK hF
  have K0:Hid (Keep Non w (w.alloc (MfB m (.slice a n c)))):=zz0 ((Keep.refl _ _).alloc _)
  unfold mfV
  go_enter Tryz.func102,Tryz.ntmps102
  go_wp2_with (go_at_call 159;refine (HD.out _ K0.out).mono ?_;rintro r w1 ⟨rfl,k1⟩;have hst:=zcd (w1.alloc (.cells z32 84)) w1.heap.size m.prev z32 h32 rfl (zab _ _);obtain ⟨wc,hwc⟩:∃ wc,wc=(w1.alloc (.cells z32 84)).setRow w1.heap.size (m.prev.map bv).toArray:=⟨_,rfl⟩;have K1:=zz0 (K0.out.trans1 k1);have kc:Keep Non w1 wc:=(by rw [hwc];exact ((Keep.refl Non w1).alloc _).setRow (.inr (Nat.le_refl _)) _);have G1:Hid (wc.heap[w1.heap.size]? = some (.cells (m.prev.map bv).toArray 84 (0,0))):=zz0 (by rw [hwc];exact setRow_heap _ _ _ _ _ _ (zab _ _));have B1:=zz0 (nonAt kc (nonAt k1 (zab w (MfB m (.slice a n c)))));have KC:=zz0 ((K0.out.trans1 k1).trans1 kc);rw [← hwc] at hst;dsimp only [z32] at hst;clear k1 kc hwc)
  have hl1:(holdV 84 ⟨w.heap.size,4,none⟩).run Tryz.prog wc.drew = .ok (arrV m.prev) wc.drew:=load81 wc.drew w.heap.size 4 _ h32 (zhd (w:=wc.drew) B1.out h32)
  have hl2:(holdV 84 ⟨w1.heap.size,0,none⟩).run Tryz.prog wc.drew = .ok (arrV m.prev) wc.drew:=zco (w:=wc.drew) G1.out h32
  have c1:=mf_1 B1.out
  have c3:=mf_3 B1.out
  clear hst
  go_region_law (go_simp;first
    | (go_at_call 66;refine (ED.out wc.drew KC.out.drew).mono ?_;rintro r w5 ⟨rfl,k5⟩;have B5:=zz0 (nonAt k5 (by exact B1.out));have d1:=mf_1 B5.out;have d3:=mf_3 B5.out;have K5:=zz0 (KC.out.drew.trans1 k5);clear k5)
    | (go_at_call 68;refine (MK.out w5 K5.out).mono ?_;rintro r w6 ⟨rfl,k6⟩;have B6:=zz0 (nonAt k6 B5.out);have e3:=mf_3 B6.out;have K6:=zz0 (K5.out.trans1 k6);clear k6))
  all_goals
    go_wp2_with fail
    go_ret
    exact ⟨rfl,K6.out⟩
end
section
attribute [local go_sem ↓] hV84 hV106 hV87 hW84 hW106 hW87 hB106 hB87
theorem zcy (T:Nat→Prop) (v:Value) (ms:List Mf) (w:World) (h:MsAt T w v ms) (ok:okCh ms) (hlen:ms.length≤1000) (hK:Kon w) (hF:Frs w) :
    Calls Tryz.prog 45 #[v] w fun e w'=>e = .returned (.tuple #[.int .i64 ms.length,.nilIface])∧Keep Non w w':=by
  have H:=zz0 h
  have FO:Hid (∀ (j:Nat) m (a a0:Option Addr) (n c c0:Nat) W,ms[j]? = some m→v = .slice a0 ms.length c0→Keep Non w W→Calls Tryz.prog 102 #[.slice a0 j c0,mfV m (.slice a n c)] W fun e w'=>e = .returned (.bool true)∧Keep Non W w'):=zz0 (fun j m a a0 n c c0 W hj hv k=>by
    subst hv
    have hl:=(List.getElem?_eq_some_iff.1 hj).1
    obtain ⟨o1,o2,o3,o4⟩:=ok j m hj
    by_cases j0:j=0
    · subst j0
      exact zdj m (.slice a n c) a0 c0 W (by rw [o2.1];rfl)
    · refine zf5 T _ (ms.take j) m a n c W ((h.keepNon k).take j (by omega)) (fun e=>?_) (by rw [List.length_take];omega) (ok.take j) o2 o1.prev (hK.keep k) (hF.keep k)
      have:=congrArg List.length e
      rw [List.length_take,List.length_nil] at this
      omega)
  have OK:=zz0 ok
  obtain ⟨a,c,rfl,hc,ha,hx⟩:=h
  clear hx ha ok hK hF
  go_enter Tryz.func45,Tryz.ntmps45
  go_wp2_with fail
  go_loopw [9] (fun i wr=>∃ j:Nat,j≤ms.length∧i = .int .i64 j∧Keep Non w wr) (fun i _=>ms.length - (intOf i).toNat)
  case atStart=>exact ⟨0,by omega,rfl,Keep.refl _ _⟩
  case round =>
    obtain ⟨j,hj,rfl,hk⟩:=hrel
    have K:=zz0 hk
    clear hk
    by_cases hlt:j < ms.length
    · have hlj:(j:Int) < (ms.length:Int):=by omega
      obtain ⟨m,hm⟩:∃ m,ms[j]? = some m:=⟨_,List.getElem?_eq_getElem hlt⟩
      obtain ⟨a1,c1,e1,hc1,ha1,hx⟩:=H.out.keepNon K.out
      injection e1 with e1 e3 e4
      subst e1
      subst e4
      obtain ⟨h32,g,off,pa,pc,rfl,x1,x2,x3⟩:=hx j m hm
      have hld:=load83 wr g (off+j * 37) m (.slice pa m.parts.length pc) h32 x3
      have hst:=zaF wr m pa m.parts.length pc h32
      dsimp only [zMf,MfB] at hst
      have hlm:=zan (zab wr (MfB m (.slice pa m.parts.length pc))) h32
      dsimp only [MfB] at hlm
      have CK:=zz0 (zbp m (.slice pa m.parts.length pc) (wr.alloc (MfB m (.slice pa m.parts.length pc))) (OK.out j m hm).1 (x1.keepNon ((Keep.refl Non wr).alloc _)))
      dsimp only [MfB] at CK
      have FJ:Hid (∀ W,Keep Non w W→Calls Tryz.prog 102 #[.slice (some ⟨g,off,none⟩) j c,mfV m (.slice pa m.parts.length pc)] W fun e w'=>e = .returned (.bool true)∧Keep Non W w'):=zz0 (fun W k=>FO.out j m pa (some ⟨g,off,none⟩) _ pc c W hm rfl k)
      have hjc:j≤c:=by omega
      clear hx ha1 x1 x2 x3 hm
      go_wp2_with (go_at_call 101;refine CK.out.mono ?_;rintro e w2 ⟨rfl,k2⟩;have b2:w2.heap[wr.heap.size]? = some (MfB m (.slice pa m.parts.length pc)):=nonAt k2 (zab wr (MfB m (.slice pa m.parts.length pc)));have hl2:=zan b2 h32;have hl2d:=zan (w:=w2.drew) b2 h32;have K2:Hid (Keep Non w w2):=zz0 ((K.out.alloc (MfB m (.slice pa m.parts.length pc))).trans1 k2);clear k2 b2)
      go_region_law (go_simp;go_at_call 102;refine (FJ.out _ (by first | exact K2.out | exact K2.out.drew)).mono ?_;rintro e w3 ⟨rfl,k3⟩;have K3:Hid (Keep Non w w3):=zz0 ((K2.out.drew).trans1 k3);clear k3)
      all_goals go_wp2_with fail
      all_goals exact ⟨⟨j+1,by omega,by first | rfl | go_num,K3.out⟩,by simp [intOf];omega⟩
    · obtain rfl:j=ms.length:=by omega
      go_wp2_with fail
      go_ret2
      exact ⟨rfl,K.out⟩
end
end Go.Proofs.YtnboipdpccnedaaGreatDoor
