/- vault.held, at any manifest: walked (turned from WVHeld). · vault.Commit behind any chain: walked (printed by scomm.py out of XWVComm). · Exports behi -/
import Derived.Test.YtnboipdpccnedaaGreatDoorQ35
import Derived.Test.YtnboipdpccnedaaGreatDoorQ37
set_option linter.unusedVariables false
set_option maxRecDepth 100000
set_option maxHeartbeats 16000000
namespace Go.Proofs.YtnboipdpccnedaaGreatDoor
open Go.RowKit Go.Maps
def HasSegsN (X:Dk) (num:Nat) (ps:List Pt):Prop:=∀ (i:Nat) pt,ps[i]? = some pt→∃ f cl,pt=ptOf f cl∧fhas X.shown (labelN num i)=true∧fget X.shown (labelN num i)=segB f cl∧cl≠[]∧cl.length≤64∧(∀ x ∈ cl,okCl x)∧f+cl.length≤1048576
section
attribute [local go_sem ↓] hV84 hV106 hV87 hW84 hW106 hW87 hB106 hB87
theorem zlK (F:Nat→Prop) (b q p:Nat) (lv:Value) (m:Mf) (pv:Value) (X:Dk) (w:World) (hb:w.heap[b]? = some (VtB q lv)) (d:StoreAt F w q p X) (hdn:X.down=false) (hlay:Lay w) (hp:PtsAt w pv m.parts) (h32:m.prev.length=32) (num:Nat) (hnum:m.num=num) (hn:num < 100) (h64:m.parts.length≤64) (hS:HasSegsN X num m.parts) :
    Calls Tryz.prog 267 #[.pointer (some ⟨b,0,none⟩),mfV m pv] w fun e w'=>e = .returned .nilIface∧Keep Non w w':=by
  have PA:=zz0 hp
  have VS:Hid (∀ W,Keep Non w W→W.cell? ⟨b,0,none⟩=some (.pointer (some ⟨q,0,none⟩))):=zz0 (fun W k=>vt_0 (nonAt k hb))
  have B:=zz0 hb
  have HS:=zz0 hS
  have LY:=zz0 hlay
  have LB:=zz0 (fun W i (hi:i < 64)=>zcg num i W (by omega) (by omega))
  have GT:=zz0 (fun W i (k:Keep Non w W) f cl (h1:fhas X.shown (labelN num i)=true) (h2:fget X.shown (labelN num i)=segB f cl) (hi:i < 64) (hl:(segB f cl).length≤131072)=>by
    have:=zcD F q p (labelN num i) X W (d.keep k (fun _ _ e=>e)) (zaI num i (by omega) (by omega)) hdn h1 (by rw [h2];omega)
    rw [h2] at this
    exact this)
  obtain ⟨a,c,rfl,hc,ha,hx⟩:=hp
  have q36:=ze9 m (.slice a m.parts.length c) h32
  have MB:Hid (∀ W,Keep Non (w.alloc (MfB m (.slice a m.parts.length c))) W→W.cell? ⟨w.heap.size,0,none⟩=some (.int .i64 m.num)∧W.cell? ⟨w.heap.size,36,none⟩=some (.slice a m.parts.length c)):=zz0 (fun W k=>⟨mf_0 (nonAt k (zab w _)),mf_36 (nonAt k (zab w _)) h32⟩)
  have m36:=mf_36 (zab w (MfB m (.slice a m.parts.length c))) h32
  have KA:=zz0 ((Keep.refl Non w).alloc (MfB m (.slice a m.parts.length c)))
  rw [hnum] at MB
  clear hx ha hb d hdn hlay hS
  unfold mfV
  unfold MfB at m36
  unfold sv at LB GT
  go_enter Tryz.func267,Tryz.ntmps267
  go_wp2_with fail
  have K0:Hid (Keep Non w (w.alloc (MfB m (.slice a m.parts.length c)))):=KA
  obtain ⟨w0,hw0⟩:∃ w0,w0=w.alloc (MfB m (.slice a m.parts.length c)):=⟨_,rfl⟩
  rw [← hw0] at MB K0
  unfold MfB at hw0
  rw [← hw0]
  clear KA m36 hw0
  go_loopw [14] (fun i wr=>∃ j:Nat,j≤m.parts.length∧i = .int .i64 j∧Keep Non w0 wr) (fun i _=>m.parts.length - (intOf i).toNat)
  case atStart=>exact ⟨0,by omega,rfl,Keep.refl _ _⟩
  case round =>
    obtain ⟨j,hj,rfl,hk⟩:=hrel
    have K:=zz0 hk
    clear hk
    by_cases hlt:j < m.parts.length
    · have hlj:(j:Int) < (m.parts.length:Int):=by omega
      obtain ⟨pt,hpj⟩:∃ pt,m.parts[j]? = some pt:=⟨_,List.getElem?_eq_getElem hlt⟩
      obtain ⟨f,cl,rfl,f1,f2,hne,hcl,hokc,hfl⟩:=HS.out j pt hpj
      obtain ⟨a1,c1,e1,_,_,hx⟩:=PA.out.keepNon (K0.out.trans1 K.out)
      injection e1 with e1 e3 e4
      subst e1
      subst e4
      obtain ⟨g,off,rfl,hcell⟩:=hx j _ hpj
      have p5:(ptOf f cl).sum.length=32:=zal _
      have hsl:=zcC hokc hcl (show f≤1048576 by omega)
      have hrl:=zdd hokc hcl (show f≤1048576 by omega)
      have MH:=zz0 (fun W v (k:Keep Non w W) (hb:Bs W v (segB f cl)) (ho:okc v) (hv:∀ g,v.ownBlock=some g→g < W.heap.size)=>zeh f v cl W hb ho hv hcl hokc hfl (by omega) (by omega) (LY.out.keepNon k).kon (LY.out.keepNon k).frs)
      have GTJ:=zz0 (fun W (k:Keep Non w W)=>GT.out W j k f cl f1 f2 (by omega) (by omega))
      have hlen:(segB f cl).length≤6207:=hsl
      generalize hpt:ptOf f cl=pt at hcell p5 MH
      generalize hsb:segB f cl=sb at MH GTJ hlen
      have hld:=load101 wr g (off+j * 35) pt p5 hcell
      have hsp:=zas wr pt p5
      have kwp:Keep Non w (wr.alloc (PtB pt)):=(K0.out.trans1 K.out).alloc _
      have k0p:Keep Non w0 (wr.alloc (PtB pt)):=K.out.alloc _
      have v0:=VS.out _ kwp
      have n0:=(MB.out _ k0p).1
      have LBJ:=zz0 (LB.out (wr.alloc (PtB pt)).drew j (by omega))
      have PL:Hid (∀ W,Keep Non (wr.alloc (PtB pt)) W→(holdV 106 ⟨wr.heap.size,0,none⟩).run Tryz.prog W = .ok (ptV pt) W):=zz0 (fun W k=>zaG (nonAt k (zab wr (PtB pt))) p5)
      have KWP:=zz0 kwp
      clear hx hpj hne hcl hokc hfl hsl hrl f1 f2 p5 kwp k0p hpt hsb
      dsimp only [zPt,PtB] at hsp
      dsimp only [PtB] at v0 n0 LBJ
      go_wp2_with fail
      have kpd:Keep Non (wr.alloc (PtB pt)) (wr.alloc (PtB pt)).drew:=(Keep.refl _ _).drew
      have KPD:=zz0 kpd
      clear kpd
      go_region_law (go_simp;first
        | (go_at_call 104;refine LBJ.out.mono ?_;rintro r w2 ⟨rfl,k2⟩;have k2':=KPD.out.trans1 k2;have v2:=VS.out _ (KWP.out.trans1 k2');have GTW:=zz0 (GTJ.out w2 (KWP.out.trans1 k2'));have K2:=zz0 k2';clear k2 k2')
        | (go_at_call 11;refine GTW.out.mono ?_;rintro r w3 ⟨v3,rfl,k3,o3⟩;obtain ⟨a3,c3,rfl,_,_⟩:=zaa o3;have k3':=K2.out.trans1 k3;have hl3:=PL.out _ k3';have MHW:=zz0 (MH.out w3 _ (KWP.out.trans1 k3') (Rd.ofOwns o3) (zbw o3) (fun g e=>(o3.lt g e).2));have K3:=zz0 (KWP.out.trans1 k3');have K3':=zz0 k3';clear k3 o3 k3'))
      all_goals go_wp2_with (go_at_call 105;refine MHW.out.mono ?_;rintro r w4 ⟨v4,rfl,k4,xs,o4,_⟩;obtain ⟨a4,c4,rfl,_,_⟩:=zaa o4;have K4:=zz0 k4;clear k4 o4)
      all_goals exact ⟨⟨j+1,by omega,by first | rfl | go_num,((K.out.alloc _).trans1 (K3'.out.trans1 K4.out)).alloc _⟩,by simp [intOf];omega⟩
    · obtain rfl:j=m.parts.length:=by omega
      go_wp2_with fail
      go_ret
      exact ⟨rfl,K0.out.trans1 K.out⟩
end
set_option linter.unusedSimpArgs false
theorem zf7 {TL:Nat→Prop} {w w3 W w5:World} {m:Mf} {a2:Option Addr} {c2:Nat} {v4 v5:Value} {es:List MfE} (hpr:m.prev.length=32) (h32:pts32 m.parts) (k3:Keep Non w w3) (o3:w3.ownsRow w.heap.size 106 35 (.slice a2 m.parts.length c2) m.parts.length (ptsC m.parts)) (he:EsAt TL w es) (kW:Keep Non w3 W) (h4:∀ g,v4.ownBlock=some g→w3.heap.size≤g) (ho:w5.ownsRow w3.heap.size 87 37 v5 (es.length+1) (msE es ++ mfC m (.slice a2 m.parts.length c2))) (hg:W.grownBy w5 v4.ownBlock) :
    Keep Non w3 w5∧MsAt (fun g=>TL g∨(w.heap.size≤g∧g < w5.heap.size)) w5 v5 (es.map (·.1) ++ [m])∧PtsAt w5 (.slice a2 m.parts.length c2) m.parts:=by
  have kg:Keep (fun g=>v4.ownBlock=some g) W w5:=Keep.grown (Keep.refl _ _) hg (fun k e=>.inl e)
  have k5:Keep Non w3 w5:=kW.trans kg (fun _ _ e=>e) (fun g hg e=>by have:=h4 g e;omega)
  have o5:=zac o3 k5 (fun _ _ e=>e)
  have s3:=k3.size
  have pt:=PtsAt.of o5 h32
  refine ⟨k5,?_,pt⟩
  have e5:EsAt (fun g=>TL g∨(w.heap.size≤g∧g < w5.heap.size)) w5 (es ++ [((m,a2,c2):MfE)]):=EsAt.snoc ((he.keep (k3.trans1 k5) (fun _ _ e=>e)).mono (fun g y=>.inl y)) hpr pt (fun g e=>.inr (o5.lt g e))
  have hm:es.map (·.1) ++ [m]=(es ++ [((m,a2,c2):MfE)]).map (·.1):=by simp
  rw [hm]
  refine MsAt.ofEs (B:=w3.heap.size) ?_ e5 (fun g e=>.inr (by have:=ho.lt g e;omega))
  have hx:msE (es ++ [((m,a2,c2):MfE)])=msE es ++ mfC m (.slice a2 m.parts.length c2):=by simp [msE,mfE,mfEv]
  rw [hx,List.length_append]
  exact ho
section
attribute [local go_sem ↓] hV84 hV106 hV87 hW84 hW106 hW87 hB106 hB87 hBS41
theorem zlJ (F TL:Nat→Prop) (b q p:Nat) (ms:List Mf) (la:Option Addr) (lc:Nat) (m:Mf) (pv:Value) (X:Dk) (a k fu:Nat) (w:World) (hb:w.heap[b]? = some (VtB q (.slice la ms.length lc))) (hms:MsAt TL w (.slice la ms.length lc) ms) (hTL:∀ g,TL g→¬ F g∧g≠b∧g < w.heap.size) (d:StoreAt F w q p X) (hF:∀ g,F g→10≤g∧g < w.heap.size) (hbF:¬ F b) (hl:X.lim a k fu) (ha:a≤505) (hk:k≤990) (hf:fu≤400000000) (hdn:X.down=false) (hlay:Lay w)
    (hp:PtsAt w pv m.parts) (hok:okMf m) (hnum:m.num=ms.length) (hn90:ms.length < 90) (och:okCh ms) (hfo:folM ms m) (h64:m.parts.length≤64) (h32:pts32 m.parts) (hS:HasSegsN X ms.length m.parts) (hby:(mfBy m).length≤65536) (hcd:(X.sput (titleN ms.length) (mfBy m)).1=0) :
    Calls Tryz.prog 199 #[.pointer (some ⟨b,0,none⟩),mfV m pv] w fun e w'=>e = .returned .nilIface∧Keep (fun g=>F g∨g=b) w w'∧∃ v3 T F',Sub F' F w∧¬ F' b∧(∀ g,T g→¬ F' g∧g≠b∧(TL g∨w.heap.size≤g))∧MsAt T w' v3 (ms ++ [m])∧StoreAt F' w' q p (X.sput (titleN ms.length) (mfBy m)).2∧w'.heap[b]? = some (VtB q v3):=by
  obtain ⟨es,ems,hes,hen,hec⟩:=hms.es
  subst ems
  rw [List.length_map] at hb hnum hn90 hS hcd ⊢
  have hpr:m.prev.length=32:=hok.prev
  have PA:=zz0 hp
  have B:=zz0 hb
  have DD:=zz0 d
  have HF:=zz0 hF
  have HL:=zz0 hlay
  have HOK:=zz0 hok
  obtain ⟨pa,pc,rfl,hc,hpa,hx⟩:=hp
  have hlm:=zan (zab w (MfB m (.slice pa m.parts.length pc))) hpr
  have CO:=zz0 (zfG m (.slice pa m.parts.length pc) (w.alloc (MfB m (.slice pa m.parts.length pc))) (PA.out.keepNon ((Keep.refl Non w).alloc _)) hpr h32 (by omega))
  have TT:=zz0 (fun W=>zeJ es.length W (by omega))
  have SP:=zz0 (fun W v F0 (st:StoreAt F0 W q p X) (hv:Bs W v (mfBy m)) (hnp:∀ g,v.ownBlock=some g→¬ F0 g)=>zcX F0 q p v (titleN es.length) (mfBy m) X a k fu W st hl ha hk hf (zaJ es.length (by omega)) hv hby hnp)
  rw [hcd] at SP
  rw [zaK] at SP
  have HE:=zz0 (fun W lv pv (k:Keep Non w W) (hp:PtsAt W pv m.parts) (hb':W.heap[b]? = some (VtB q lv))=>zlK F b q p lv m pv X W hb' (d.keep k (fun _ _ e=>e)) hdn (hlay.keepNon k) hp hpr es.length hnum (by omega) h64 hS)
  have CK:=zz0 (fun T W v (h:MsAt T W v (es.map (·.1) ++ [m])) (k:Keep Non w W)=>zcy T v (es.map (·.1) ++ [m]) W h (och.snoc hok hfo h64 hby) (by rw [List.length_append,List.length_map];simp;omega) (hlay.keepNon k).kon (hlay.keepNon k).frs)
  have CL:=zz0 (fun W (k:Keep Non w W)=>zl3 la lc es W (hes.keep k (fun _ _ e=>e)) hen (fun ad e j u hu=>by have h0:=hec ad e j u hu;exact (World.cell?_of_block (k.block _ (World.block_lt_of_cell? _ _ h0) (fun e=>e))).trans h0) (by omega))
  have HES:=zz0 hes
  have HTL:=zz0 hTL
  have MP:=zz0 (fun W pv (hp:PtsAt W pv m.parts)=>zkF m pv W hok hp h64)
  obtain ⟨i0,hi0,hz0,hz1,hz2⟩:=info_parts infoMf
  have I0:=zz0 (And.intro hi0 (And.intro hz0 (And.intro hz1 hz2)))
  clear hx hpa hb d hF hlay hok hS hl hi0 hz0 hz1 hz2 hby hcd hes hec hen och hfo hTL hms
  unfold sv at TT SP
  unfold MfB at hlm
  dsimp only [MfB] at CO
  unfold mfV at *
  go_enter Tryz.func199,Tryz.ntmps199
  go_wp2_with (go_at_call 33;refine CO.out.mono ?_;rintro r w2 ⟨v2,rfl,k2,o2⟩;obtain ⟨a2,c2,rfl,_,_⟩:=zaa o2;have hst:=zaT w2 w.heap.size m a2 m.parts.length c2 (mfC m (.slice pa m.parts.length pc)).toArray hpr (by rw [List.size_toArray,za2 hpr]) (nonAt k2 (zab w (MfB m (.slice pa m.parts.length pc))));unfold mfV at hst;have K2:=zz0 (((Keep.refl Non w).alloc (MfB m (.slice pa m.parts.length pc))).trans1 k2);have BX2:=zz0 (nonAt k2 (zab w (MfB m (.slice pa m.parts.length pc))));have O2:=zz0 o2;clear k2 o2)
  obtain ⟨m3,k3,o3⟩:=zl4 h32 K2.out BX2.out (zad O2.out (by simp))
  obtain ⟨w3,hw3⟩:∃ w3,w3=w2.setRow w.heap.size (mfC m (.slice a2 m.parts.length c2)).toArray:=⟨_,rfl⟩
  rw [← hw3] at m3 k3 o3 hst
  rw [← hw3]
  have M3:=zz0 m3
  have K3:=zz0 k3
  have O3:=zz0 o3
  have PLM:Hid (∀ W,Keep Non w3 W→(holdV 87 ⟨w.heap.size,0,none⟩).run Tryz.prog W = .ok (mfV m (.slice a2 m.parts.length c2)) W):=zz0 (fun W kk=>zan (nonAt kk M3.out) hpr)
  have VB:Hid (∀ W,Keep Non w3 W→W.heap[b]? = some (VtB q (.slice la es.length lc))):=zz0 (fun W kk=>nonAt (K3.out.trans1 kk) B.out)
  have MN:Hid (∀ W,Keep Non w3 W→W.cell? ⟨w.heap.size,0,none⟩=some (.int .i64 m.num)):=zz0 (fun W kk=>mf_0 (nonAt kk M3.out))
  have kd:Keep Non w3 w3.drew:=(Keep.refl _ _).drew
  have ka:Keep Non w3 (w3.alloc (MfB m (.slice a2 m.parts.length c2))):=(Keep.refl _ _).alloc _
  have l0:=PLM.out _ (Keep.refl _ _)
  have l1:=PLM.out _ kd
  have b0:=za6 m a2 m.parts.length c2 hpr w3
  have b1:=za6 m a2 m.parts.length c2 hpr w3.drew
  have x0:=vt_1 (VB.out _ (Keep.refl _ _))
  have x1:=vt_1 (VB.out _ ka)
  have BK:=zz0 (zab w3 (MfB m (.slice a2 m.parts.length c2)))
  have KAD:Hid (Keep Non w3 (w3.alloc (MfB m (.slice a2 m.parts.length c2))).drew):=zz0 ka.drew
  have PLM':=zz0 (fun W kk=>by have:=PLM.out W kk;unfold mfV at this;exact this)
  have KD3:=zz0 kd
  clear m3 k3 o3 hw3 kd ka K2 BX2 O2 hlm CO
  unfold mfV at l0 l1 b0 b1
  dsimp only [MfB] at b0 b1 x1
  go_region_law (first
    | (go_simp;go_at_call 266;first
        | (refine (CL.out _ (K3.out.trans1 KD3.out)).mono ?_;rintro r w4 ⟨v4,rfl,k4,o4⟩;obtain ⟨a4,c4,rfl,_,_⟩:=zaa o4;have K4:=zz0 (KD3.out.trans1 k4);have LB4:Hid (w3.heap.size≤w3.drew.heap.size):=zz0 (Nat.le_refl _);have O4:=zz0 o4;have l4:=PLM.out w4 K4.out;have b4:=za6 m a2 m.parts.length c2 hpr w4;unfold mfV at l4 b4;dsimp only [MfB] at b4;clear k4 o4)
        | (refine (CL.out _ (K3.out.trans1 KAD.out)).mono ?_;rintro r w4 ⟨v4,rfl,k4,o4⟩;obtain ⟨a4,c4,rfl,_,_⟩:=zaa o4;have K4:=zz0 (KAD.out.trans1 k4);have LB4:=zz0 KAD.out.size;have BK4:=zz0 (nonAt k4 BK.out);have O4:=zz0 o4;clear k4 o4))
    | (refine zag (by rfl) (.tmp 21) (.tmp 23) 41 (by rfl) w3.heap.size 87 i0 (.agg zMf) 37 88 Tryz.underlying41 I0.out.1 I0.out.2.1 I0.out.2.2.1 I0.out.2.2.2 rfl (by decide) (.slice a4 es.length c4) es.length (msE es) (by first | rfl | simp [Act.eval,Act.put]) (zac (zad O4.out LB4.out) ((Keep.refl Non w4).alloc _) (fun _ _ e=>e)) ⟨w4.heap.size,0,none⟩ 1 1 (mfC m (.slice a2 m.parts.length c2)) (by first | rfl | simp [Act.eval,Act.put]) (by rw [za2 hpr]) (by exact zcP (zab w4 (MfB m (.slice a2 m.parts.length c2)))) (zcp m a2 m.parts.length c2) (by unfold maxLen;omega) (by omega) (by exact (K4.out.alloc (MfB m (.slice a2 m.parts.length c2))).size) ?_;intro v5 w5 ho hg hpp;obtain ⟨a5,c5,rfl,_,_⟩:=zaa ho;obtain ⟨k5,ms5,pt5⟩:=zf7 hpr h32 K3.out O3.out HES.out (K4.out.alloc (MfB m (.slice a2 m.parts.length c2))) (fun g e=>by have:=(O4.out.lt g e).1;have:=LB4.out;omega) ho hg;have CKW:=zz0 (CK.out _ w5 _ ms5 (K3.out.trans1 k5));have K5:=zz0 k5;have MS5:=zz0 ms5;have PT5:=zz0 pt5;clear ho hg hpp k5 ms5 pt5)
    | (refine zag (by rfl) (.tmp 21) (.tmp 23) 41 (by rfl) w3.heap.size 87 i0 (.agg zMf) 37 88 Tryz.underlying41 I0.out.1 I0.out.2.1 I0.out.2.2.1 I0.out.2.2.2 rfl (by decide) (.slice a4 es.length c4) es.length (msE es) (by first | rfl | simp [Act.eval,Act.put]) (zac (zad O4.out LB4.out) (Keep.refl Non w4) (fun _ _ e=>e)) ⟨w3.heap.size,0,none⟩ 1 1 (mfC m (.slice a2 m.parts.length c2)) (by first | rfl | simp [Act.eval,Act.put]) (by rw [za2 hpr]) (by exact zcP BK4.out) (zcp m a2 m.parts.length c2) (by unfold maxLen;omega) (by omega) (by exact (K4.out).size) ?_;intro v5 w5 ho hg hpp;obtain ⟨a5,c5,rfl,_,_⟩:=zaa ho;obtain ⟨k5,ms5,pt5⟩:=zf7 hpr h32 K3.out O3.out HES.out (K4.out) (fun g e=>by have:=(O4.out.lt g e).1;have:=LB4.out;omega) ho hg;have CKW:=zz0 (CK.out _ w5 _ ms5 (K3.out.trans1 k5));have K5:=zz0 k5;have MS5:=zz0 ms5;have PT5:=zz0 pt5;clear ho hg hpp k5 ms5 pt5))
  all_goals go_wp2_with (first
    | (go_at_call 45;refine CKW.out.mono ?_;rintro r w6 ⟨rfl,k6⟩;have k36:=K5.out.trans1 k6;have l6:=PLM'.out _ k36;have HEW:=zz0 (HE.out w6 _ (.slice a2 m.parts.length c2) (K3.out.trans1 k36) (PT5.out.keepNon k6) (VB.out _ k36));have K6:=zz0 k36;have K56:=zz0 k6;clear k6 k36)
    | (go_at_call 267;refine HEW.out.mono ?_;rintro r w7 ⟨rfl,k7⟩;have k37:=K6.out.trans1 k7;have l7:=PLM'.out _ k37;have MPW:=zz0 (MP.out w7 (.slice a2 m.parts.length c2) (PT5.out.keepNon (K56.out.trans1 k7)));have K7:=zz0 k37;have K57:=zz0 (K56.out.trans1 k7);clear k7 k37)
    | (go_at_call 268;refine MPW.out.mono ?_;rintro r w8 ⟨v8,rfl,k8,o8⟩;obtain ⟨a8,c8,rfl,_,_⟩:=zaa o8;have k38:=K7.out.trans1 k8;have K8:=zz0 k38;have K58:=zz0 (K57.out.trans1 k8);have O8:=zz0 o8;clear k8 k38 o8))
  all_goals
    have k8d:Keep Non w3 w8.drew:=K8.out.drew
    have y0:w8.cell? ⟨b,0,none⟩=some (.pointer (some ⟨q,0,none⟩)):=vt_0 (VB.out _ K8.out)
    have y0d:w8.drew.cell? ⟨b,0,none⟩=some (.pointer (some ⟨q,0,none⟩)):=y0
    have n0:w8.cell? ⟨w.heap.size,0,none⟩=some (.int .i64 es.length):=by have:=MN.out _ K8.out;rw [hnum] at this;exact this
    have n0d:w8.drew.cell? ⟨w.heap.size,0,none⟩=some (.int .i64 es.length):=n0
    have TTW:=zz0 (TT.out w8.drew)
    have VB8:Hid (∀ W,Keep Non w8.drew W→W.cell? ⟨b,0,none⟩=some (.pointer (some ⟨q,0,none⟩))):=zz0 (fun W kk=>vt_0 (VB.out _ (K8.out.drew.trans1 kk)))
    have sz38:w.heap.size≤w8.heap.size:=Nat.le_trans K3.out.size K8.out.size
    have SPW:Hid (∀ W,Keep Non w8.drew W→Calls Tryz.prog 14 #[.pointer (some ⟨q,0,none⟩),.string ⟨(titleN es.length).toArray⟩,.slice a8 (mfBy m).length c8] W fun e w'=>e = .returned .nilIface∧StoreTo F W q p (X.sput (titleN es.length) (mfBy m)).2 w'):=zz0 (fun W kk=>SP.out W _ F (DD.out.keep (K3.out.trans1 (K8.out.drew.trans1 kk)) (fun _ _ e=>e)) ((Rd.ofOwns O8.out).keepNon ((Keep.refl Non w8).drew.trans1 kk)) (fun g e x=>by have:=(O8.out.lt g e).1;have:=(HF.out g x).2;have:=K3.out.size;have:=K7.out.size;omega))
    clear k8d
    go_region_law (go_simp;first
      | (go_at_call 43;refine TTW.out.mono ?_;rintro r w9 ⟨rfl,k9⟩;have y9:=VB8.out _ k9;have SPX:=zz0 (SPW.out w9 k9);have K9:=zz0 k9;clear k9)
      | (go_at_call 14;refine SPX.out.mono ?_;rintro r wa ⟨rfl,ka,Fa,sa,da⟩;have k39:=K8.out.drew.trans1 K9.out;have bb:=ka.at (VB.out _ k39) hbF;have z1:=vt_1 bb;have zf:=vt_f bb 1;have KA:=zz0 ka;have SA:=zz0 sa;have DA:=zz0 da;have BB:=zz0 bb;have K39:=zz0 k39;clear ka sa da bb k39))
  all_goals go_wp2_with fail
  all_goals
    go_ret
    have hbl:b < w.heap.size:=lt_of_block B.out
    have kb:Keep (One b) wa (wa.setCell ⟨b,1,none⟩ (.slice a5 (es.length+1) c5)):=(Keep.refl _ _).setOne _ _
    have k9s:=K9.out.size
    have k59:Keep Non w5 w9:=K58.out.trans1 ((Keep.refl Non w8).drew.trans1 K9.out)
    have kFa:Keep F w wa:=(K3.out.trans1 K39.out).ofNon.trans KA.out (fun _ _ x=>x) (fun _ _ x=>x)
    have s59:=k59.size
    refine ⟨rfl,kFa.trans kb (fun g _ x=>.inl x) (fun g _ x=>.inr x),.slice a5 (es.length+1) c5,fun g=>TL g∨(w.heap.size≤g∧g < w5.heap.size),Fa,fun g x=>?_,?_,fun g x=>⟨fun y=>?_,?_,x.imp id (fun z=>z.1)⟩,?_,?_,zaf BB.out 1 _⟩
    · rcases SA.out g x with y | y
      · exact .inl y
      · exact .inr (by have:=K3.out.size;have:=K39.out.size;omega)
    · intro x
      rcases SA.out b x with y | y
      · exact hbF y
      · have:=K3.out.size;have:=K39.out.size;omega
    · rcases SA.out g y with z | z
      · rcases x with x | x
        · exact (HTL.out g x).1 z
        · have:=(HF.out g z).2;omega
      · have:=K3.out.size;have:=K39.out.size
        rcases x with x | x
        · have:=(HTL.out g x).2.2;omega
        · omega
    · rcases x with x | x
      · exact (HTL.out g x).2.1
      · intro e;omega
    · exact ((MS5.out.keepNon k59).keep KA.out (fun g x y=>by
        rcases x with x | x
        · exact (HTL.out g x).1 y
        · have:=(HF.out g y).2;omega)).keep kb (fun g x e=>by
        have e':g=b:=e
        rcases x with x | x
        · exact (HTL.out g x).2.1 e'
        · omega)
    · exact DA.out.keep kb (fun g x e=>by have e':g=b:=e;subst e';rcases SA.out g x with y | y;exact hbF y;have:=K3.out.size;have:=K39.out.size;omega)
end
def endM (ms:List Mf):Nat:=(lastM ms).hi
structure Bk (X:Dk) (ms:List Mf):Prop where
  free:X.free
  tidy:X.tidy
  room:X.room=16777216
  few:ms.length≤5
  ok:okCh ms
  trim:∀ m ∈ ms,m.trim=0
  four:∀ m ∈ ms,m.parts.length≤4∧m.parts≠[]
  stop:endM ms≤200
  tit:∀ (j:Nat) m,ms[j]? = some m→fhas X.shown (titleN j)=true∧fget X.shown (titleN j)=mfBy m
  no:∀ k,ms.length≤k→k < 100→fhas X.shown (titleN k)=false
  segs:∀ (j:Nat) m,ms[j]? = some m→HasSegsN X j m.parts
structure Bare (X:Dk) (ms:List Mf):Prop where
  cur:fhas X.shown cname=false
  all:∀ n,fhas X.shown n=true→(∃ j,j < ms.length∧n=titleN j)∨∃ (j i:Nat) (m:Mf),ms[j]? = some m∧i < m.parts.length∧n=labelN j i
  lim:X.lim (2+24 * ms.length) (2+24 * ms.length) (20000+100000 * ms.length)
theorem Bk.put {X:Dk} {ms:List Mf} {n b:Byt} (h:Bk X ms) (hm:IsMap X.shown) (hn:okObj n) (hb:b.length≤65536) (ht:∀ j,j < 100→titleN j≠n) (hl:∀ j i,j < ms.length→i < 4→labelN j i≠n) (e:X.sput n b=(0,putX X n b)):Bk (putX X n b) ms:=by
  have hf:=h.few
  refine ⟨h.free,zbA h.tidy h.free hm hn hb e,h.room,h.few,h.ok,h.trim,h.four,h.stop,fun j m hj=>?_,fun k h1 h2=>?_,fun j m hj i pt hi=>?_⟩
  · have hlt:=zai hj
    rw [za3 (zaJ j (by omega)) (ht j (by omega)),zbh (zaJ j (by omega)) (ht j (by omega))]
    exact h.tit j m hj
  · rw [za3 (zaJ k (by omega)) (ht k h2)]
    exact h.no k h1 h2
  · have hlt:=zai hj
    have hi':=zai hi
    have h4:=(h.four m (List.mem_of_getElem? hj)).1
    obtain ⟨f,cl,e1,a1,a2,a3⟩:=h.segs j m hj i pt hi
    have ho:=zaI j i (by omega) (by omega)
    exact ⟨f,cl,e1,by rw [za3 ho (hl j i hlt (by omega))];exact a1,by rw [zbh ho (hl j i hlt (by omega))];exact a2,a3⟩
theorem zgt {X:Dk} (hf:X.free) (hr:X.room=16777216) {a k f:Nat} (hl:X.lim a k f) (ha:a < 512) (hk:f≤10000000) (n b:Byt) (hb:b.length≤65536):X.sput n b=(0,putX X n b):=by
  rcases zet hf hl ha n b hb with ⟨_,h⟩ | h
  · omega
  · exact h
def SCont (L:Lg) (X:Dk) (num lo hi:Nat) (ps:List Pt):Prop:=∀ i,i < ps.length→ps[i]? = some (ptOf (lo+64 * i) (slabL L hi (lo+64 * i)))∧fget X.shown (labelN num i)=segB (lo+64 * i) (slabL L hi (lo+64 * i))
structure SInv (L:Lg) (X:Dk) (ms:List Mf) (c:Cu):Prop where
  bk:Bk X ms
  few:ms.length≤4
  ok:okCu c
  lo:c.lo=endM ms
  hi:c.hi≤200
  pos:c.lo < c.hi
  stand:c.next=min c.hi (c.lo+64 * c.parts.length)
  part:c.lo+64 * c.parts.length < c.hi+64
  lim:X.lim (2+24 * ms.length+4 * c.parts.length+2) (2+24 * ms.length+4 * c.parts.length+2) (20000+100000 * ms.length+20000 * c.parts.length+7000)
  segs:HasSegsN X ms.length c.parts
  cur:fhas X.shown cname=true∧fget X.shown cname=cuBy c
  all:∀ n,fhas X.shown n=true→n=cname∨(∃ j,j < ms.length∧n=titleN j)∨(∃ (j i:Nat) (m:Mf),ms[j]? = some m∧i < m.parts.length∧n=labelN j i)∨∃ i,i < c.parts.length∧n=labelN ms.length i
  trim:c.trim=0
  cont:SCont L X ms.length c.lo c.hi c.parts
theorem SInv.few4 {L:Lg} {X:Dk} {ms:List Mf} {c:Cu} (h:SInv L X ms c):c.parts.length≤4:=by
  have:=h.part
  have:=h.hi
  omega
theorem zdx {X:Dk} {n b m:Byt} (h1:okObj m) (h:fhas (putX X n b).shown m=true):m=n∨fhas X.shown m=true:=by
  by_cases e:m=n
  · exact .inl e
  · rw [za3 h1 e] at h
    exact .inr h
def cuN (lo hi:Nat):Cu:=⟨lo,lo,hi,0,[]⟩
theorem zjO {lo hi:Nat} (h1:lo≤hi) (h2:hi≤200):okCu (cuN lo hi):=⟨trivial,rfl,h1,by show hi≤1048576;omega,by show 0≤1048576;omega,by show 0≤64;omega⟩
theorem ziy {X:Dk} {L:Lg} {ms:List Mf} (h:Bk X ms) (hb:Bare X ms) (h4:ms.length≤4) {n:Nat} (hn:n≤200) (h0:endM ms < n):X.sput cname (cuBy (cuN (endM ms) n))=(0,putX X cname (cuBy (cuN (endM ms) n)))∧SInv L (putX X cname (cuBy (cuN (endM ms) n))) ms (cuN (endM ms) n):=by
  have hok:=zjO (lo:=endM ms) (hi:=n) (by omega) hn
  have hl:=zbt hok
  have e:=zgt h.free h.room hb.lim (by omega) (by omega) cname (cuBy (cuN (endM ms) n)) (by omega)
  refine ⟨e,h.put hb.lim.map zbf (by omega) (fun j _=>(zcz j).symm) (fun j i _ _=>zb3 j i) e,h4,hok,rfl,hn,h0,?_,?_,?_,?_,⟨zaS hb.lim.map,zaR hb.lim.map⟩,?_,rfl,fun i hi=>by simp [cuN] at hi⟩
  · show endM ms=min n (endM ms+64 * 0);omega
  · show endM ms+64 * 0 < n+64;omega
  · exact (zbQ hb.lim e).mono (by show _≤2+24 * ms.length+4 * 0+2;omega) (by show _≤2+24 * ms.length+4 * 0+2;omega) (by show _≤20000+100000 * ms.length+20000 * 0+7000;omega)
  · intro i pt hi
    simp [cuN] at hi
  · intro m hm
    have ho:=zbA h.tidy h.free hb.lim.map zbf (by omega) e m hm
    rcases zdx ho hm with y | y
    · exact .inl y
    · rcases hb.all m y with u | u
      · exact .inr (.inl u)
      · exact .inr (.inr (.inl u))
theorem zgo {X:Dk} {L:Lg} {ms:List Mf} {c:Cu} (h:SInv L X ms c) (hl:Log1 L) (h3:∀ a,(cellL L a).1≠3) (hlt:c.next < c.hi) :
    X.sput (labelN ms.length c.parts.length) (segB c.next (slabL L c.hi c.next))=(0,putX X (labelN ms.length c.parts.length) (segB c.next (slabL L c.hi c.next))) ∧
    (putX X (labelN ms.length c.parts.length) (segB c.next (slabL L c.hi c.next))).lim 200 200 5000000∧(putX X (labelN ms.length c.parts.length) (segB c.next (slabL L c.hi c.next))).free ∧
    (putX X (labelN ms.length c.parts.length) (segB c.next (slabL L c.hi c.next))).sput cname (cuBy (partCu L c))=(0,putX (putX X (labelN ms.length c.parts.length) (segB c.next (slabL L c.hi c.next))) cname (cuBy (partCu L c))) ∧
    SInv L (putX (putX X (labelN ms.length c.parts.length) (segB c.next (slabL L c.hi c.next))) cname (cuBy (partCu L c))) ms (partCu L c):=by
  have h4:=h.few4
  have hfw:=h.few
  have hst:=h.stand
  have hpa:=h.part
  have hn:c.next=c.lo+64 * c.parts.length:=by omega
  have hs:=zne hl c.hi c.next (by have:=h.ok.le;have:=h.ok.hi;omega)
  have hsl:=zbU L c.hi c.next
  have e:=zgt h.bk.free h.bk.room h.lim (by omega) (by omega) (labelN ms.length c.parts.length) (segB c.next (slabL L c.hi c.next)) (by omega)
  have hlo:=zaI ms.length c.parts.length (by omega) (by omega)
  have hlim:=(zbQ h.lim e).mono (a':=2+24 * ms.length+4 * c.parts.length+4) (k':=2+24 * ms.length+4 * c.parts.length+4) (f':=20000+100000 * ms.length+20000 * c.parts.length+7000+12414) (by omega) (by omega) (by omega)
  have b1:Bk (putX X (labelN ms.length c.parts.length) (segB c.next (slabL L c.hi c.next))) ms:=h.bk.put h.lim.map hlo (by omega) (fun j _=>(zc9 _ _ _).symm) (fun j i hj hi e=>by have:=(zcN (by omega) (by omega) (by omega) (by omega) e).1;omega) e
  have hok:=zgn h.ok hl hlt (by omega)
  have hcl:=zbt hok
  have e2:=zgt b1.free b1.room hlim (by omega) (by omega) cname (cuBy (partCu L c)) (by omega)
  have hpl:(partCu L c).parts.length=c.parts.length+1:=by simp [partCu]
  refine ⟨e,hlim.mono (by omega) (by omega) (by omega),b1.free,e2,b1.put hlim.map zbf (by omega) (fun j _=>(zcz j).symm) (fun j i _ _=>zb3 j i) e2,h.few,hok,h.lo,h.hi,h.pos,?_,?_,?_,?_,⟨zaS hlim.map,zaR hlim.map⟩,?_,?_,?_⟩
  · rw [hpl]
    show c.next+(slabL L c.hi c.next).length=min c.hi (c.lo+64 * (c.parts.length+1))
    omega
  · rw [hpl]
    show c.lo+64 * (c.parts.length+1) < c.hi+64
    omega
  · rw [hpl]
    exact (zbQ hlim e2).mono (by omega) (by omega) (by omega)
  · intro i pt hi
    have hi':=zai hi
    rw [hpl] at hi'
    have ho:=zaI ms.length i (by omega) (by omega)
    rw [za3 ho (zb3 _ _),zbh ho (zb3 _ _)]
    have hi2:(c.parts ++ [ptOf c.next (slabL L c.hi c.next)])[i]? = some pt:=hi
    rcases Nat.lt_or_ge i c.parts.length with hlt2 | hge
    · rw [List.getElem?_append_left hlt2] at hi2
      have hne:labelN ms.length i≠labelN ms.length c.parts.length:=fun e=>by have:=(zcN (by omega) (by omega) (by omega) (by omega) e).2;omega
      obtain ⟨f,cl,e1,a1,a2,a3⟩:=h.segs i pt hi2
      exact ⟨f,cl,e1,by rw [za3 ho hne];exact a1,by rw [zbh ho hne];exact a2,a3⟩
    · obtain rfl:i=c.parts.length:=by omega
      rw [List.getElem?_append_right (Nat.le_refl _)] at hi2
      simp at hi2
      exact ⟨c.next,_,hi2.symm,zaS h.lim.map,zaR h.lim.map,zhq hlt,zdf _ _ _,zfQ hl,by rw [hsl];have:=h.ok.hi;omega⟩
  · intro m hm
    have t1:=zbA h.bk.tidy h.bk.free h.lim.map hlo (by omega) e
    have ho:=zbA t1 b1.free hlim.map zbf (by omega) e2 m hm
    rcases zdx ho hm with y | y
    · exact .inl y
    · rcases zdx ho y with y | y
      · exact .inr (.inr (.inr ⟨c.parts.length,by omega,y⟩))
      · rcases h.all m y with u | u | u | ⟨i,u,v⟩
        · exact .inl u
        · exact .inr (.inl u)
        · exact .inr (.inr (.inl u))
        · exact .inr (.inr (.inr ⟨i,by omega,v⟩))
  · show trimC c.trim c.next (slabL L c.hi c.next)=0
    rw [zdh _ _ _ (fun x hx=>by unfold slabL at hx;obtain ⟨j,_,rfl⟩:=List.mem_map.1 hx;exact h3 _),h.trim]
  · intro i hi
    rw [hpl] at hi
    have ho:=zaI ms.length i (by omega) (by omega)
    rw [zbh ho (zb3 _ _)]
    show (c.parts ++ [ptOf c.next (slabL L c.hi c.next)])[i]? = some (ptOf (c.lo+64 * i) (slabL L c.hi (c.lo+64 * i)))∧_=segB (c.lo+64 * i) (slabL L c.hi (c.lo+64 * i))
    rcases Nat.lt_or_ge i c.parts.length with hlt2 | hge
    · have hne:labelN ms.length i≠labelN ms.length c.parts.length:=fun e=>by have:=(zcN (by omega) (by omega) (by omega) (by omega) e).2;omega
      rw [List.getElem?_append_left hlt2,zbh ho hne]
      exact h.cont i hlt2
    · obtain rfl:i=c.parts.length:=by omega
      rw [List.getElem?_append_right (Nat.le_refl _),← hn,zaR h.lim.map]
      simp
def aheadD (ms:List Mf):List UInt8:=if ms = [] then List.replicate 32 0 else digM (lastM ms)
theorem ziw (ms:List Mf):(aheadD ms).length=32:=by
  unfold aheadD
  split
  · exact List.length_replicate ..
  · exact zdr _
def exN (ms:List Mf) (c:Cu):Mf:=nxM ms.length c.lo c.hi 0 (aheadD ms) c.parts
theorem zj8 {L:Lg} {X:Dk} {ms:List Mf} {c:Cu} (h:SInv L X ms c) (hd:c.next=c.hi):okMf (exN ms c)∧endPts c.lo c.parts=c.hi:=by
  have h4:=h.few4
  have hst:=h.ok.stop
  have hp:=h.ok.parts
  have e:endPts c.lo c.parts=c.hi:=by rw [hst,hd]
  refine ⟨?_,e⟩
  unfold exN
  have hfew:=h.few
  refine ⟨by show ms.length≤999999;omega,h.ok.hi,by show 0≤1048576;omega,ziw ms,fun e0=>?_,by show c.parts.length≤1024;omega,hp,e⟩
  have e0':ms = []:=List.eq_nil_of_length_eq_zero e0
  show isZ (aheadD ms)=true
  unfold aheadD
  rw [if_pos e0']
  decide
theorem zj7 {L:Lg} {X:Dk} {ms:List Mf} {c:Cu} (h:SInv L X ms c) (hd:c.next=c.hi):(mfBy (exN ms c)).length≤3400:=by
  have h4:=h.few4
  have:=h.hi
  have:=h.few
  have:=h.pos
  exact znJ (zj8 h hd).1 (by show c.parts.length≤64;omega) (by show ms.length≤1048576;omega) (by show c.lo≤1048576;omega) (by show c.hi≤1048576;omega) (by show 0≤1048576;omega) (fun p hp=>zek (zbz _ _ h.ok.parts p hp))
theorem zea (ms:List Mf) (m:Mf):lastM (ms ++ [m])=m:=by simp [lastM]
theorem zdR {L:Lg} {X:Dk} {ms:List Mf} {c:Cu} (h:SInv L X ms c) (hd:c.next=c.hi) :
    X.sput (titleN ms.length) (mfBy (exN ms c))=(0,putX X (titleN ms.length) (mfBy (exN ms c)))∧(putX X (titleN ms.length) (mfBy (exN ms c))).lim 200 200 5000000∧folM ms (exN ms c)∧okCh (ms ++ [exN ms c]) ∧
    ((putX X (titleN ms.length) (mfBy (exN ms c))).sdel cname).1=0∧Bk ((putX X (titleN ms.length) (mfBy (exN ms c))).sdel cname).2 (ms ++ [exN ms c])∧Bare ((putX X (titleN ms.length) (mfBy (exN ms c))).sdel cname).2 (ms ++ [exN ms c])∧SCont L ((putX X (titleN ms.length) (mfBy (exN ms c))).sdel cname).2 ms.length c.lo c.hi c.parts:=by
  have h4:=h.few4
  have hf:=h.few
  have hm:=zj7 h hd
  obtain ⟨ok,hen⟩:=zj8 h hd
  have ht:=zaJ ms.length (by omega)
  have e:=zgt h.bk.free h.bk.room h.lim (by omega) (by omega) (titleN ms.length) (mfBy (exN ms c)) (by omega)
  have hlim:=(zbQ h.lim e).mono (a':=2+24 * (ms.length+1)) (k':=2+24 * (ms.length+1)) (f':=20000+100000 * (ms.length+1)) (by omega) (by omega) (by omega)
  have hfol:folM ms (exN ms c):=⟨rfl,fun hne=>⟨by show aheadD ms=_;unfold aheadD;rw [if_neg hne],h.lo,by
    have:(lastM ms) ∈ ms:=by
      unfold lastM
      rw [List.getLast?_eq_some_getLast hne]
      exact List.getLast_mem hne
    rw [h.bk.trim _ this]
    exact Nat.zero_le _⟩⟩
  have hch:okCh (ms ++ [exN ms c]):=h.bk.ok.snoc ok hfol (by show c.parts.length≤64;omega) (by omega)
  have htd:=zbA h.bk.tidy h.bk.free h.lim.map ht (by omega) e
  have hh:fhas (putX X (titleN ms.length) (mfBy (exN ms c))).shown cname=true:=by rw [za3 zbf (zcz _)];exact h.cur.1
  have hfr:(putX X (titleN ms.length) (mfBy (exN ms c))).free:=h.bk.free
  have o1:∀ n,n≠cname→n≠titleN ms.length→okObj n→fhas (fdel (putX X (titleN ms.length) (mfBy (exN ms c))).shown cname) n=fhas X.shown n∧fget (fdel (putX X (titleN ms.length) (mfBy (exN ms c))).shown cname) n=fget X.shown n:=fun n n1 n2 no=>by
    rw [zaW n1,zbu n1,za3 no n2,zbh no n2]
    exact ⟨rfl,rfl⟩
  have tsame:fhas (fdel (putX X (titleN ms.length) (mfBy (exN ms c))).shown cname) (titleN ms.length)=true∧fget (fdel (putX X (titleN ms.length) (mfBy (exN ms c))).shown cname) (titleN ms.length)=mfBy (exN ms c):=by
    rw [zaW (zcz _).symm,zbu (zcz _).symm]
    exact ⟨zaS h.lim.map,zaR h.lim.map⟩
  have hall:∀ n,fhas (fdel (putX X (titleN ms.length) (mfBy (exN ms c))).shown cname) n=true→n≠cname∧fhas (putX X (titleN ms.length) (mfBy (exN ms c))).shown n=true:=fun n hn=>by
    by_cases en:n=cname
    · rw [en,zbJ] at hn;cases hn
    · rw [zaW en] at hn
      exact ⟨en,hn⟩
  have hget:∀ (j:Nat) m,(ms ++ [exN ms c])[j]? = some m→(j < ms.length∧ms[j]? = some m)∨(j=ms.length∧m=exN ms c):=fun j m hj=>by
    rcases Nat.lt_or_ge j ms.length with hlt | hge
    · rw [List.getElem?_append_left hlt] at hj;exact .inl ⟨hlt,hj⟩
    · have hj':=zai hj
      simp at hj'
      obtain rfl:j=ms.length:=by omega
      rw [List.getElem?_append_right (Nat.le_refl _)] at hj
      simp at hj
      exact .inr ⟨rfl,hj.symm⟩
  have hpne:c.parts≠[]:=fun e0=>by
    have h1:=h.stand
    have h2:=h.pos
    rw [e0] at h1
    simp at h1
    omega
  refine ⟨e,hlim.mono (by omega) (by omega) (by omega),hfol,hch,?_⟩
  rw [zgB hfr,if_pos hh]
  refine ⟨rfl,⟨hfr,fun n hn=>htd n (hall n hn).2,h.bk.room,by rw [List.length_append];simp;omega,hch,fun m hm=>?_,fun m hm=>?_,?_,fun j m hj=>?_,fun k k1 k2=>?_,fun j m hj i pt hi=>?_⟩,⟨zbJ,fun n hn=>?_,?_⟩,fun i hi=>?_⟩
  · rcases List.mem_append.1 hm with y | y
    · exact h.bk.trim m y
    · rw [List.mem_singleton.1 y];rfl
  · rcases List.mem_append.1 hm with y | y
    · exact h.bk.four m y
    · rw [List.mem_singleton.1 y];exact ⟨h4,hpne⟩
  · unfold endM
    rw [zea]
    exact h.hi
  · rcases hget j m hj with ⟨hlt,y⟩ | ⟨rfl,rfl⟩
    · obtain ⟨a1,a2⟩:=o1 (titleN j) (zcz j).symm (fun e=>by have:=zeG (by omega) (by omega) e;omega) (zaJ j (by omega))
      obtain ⟨b1,b2⟩:=h.bk.tit j m y
      exact ⟨a1.trans b1,a2.trans b2⟩
    · exact tsame
  · rw [List.length_append,List.length_singleton] at k1
    exact (o1 (titleN k) (zcz k).symm (fun e=>by have:=zeG k2 (by omega) e;omega) (zaJ k (by omega))).1.trans (h.bk.no k (by omega) k2)
  · have hi':=zai hi
    rcases hget j m hj with ⟨hlt,y⟩ | ⟨rfl,rfl⟩
    · have hq:=(h.bk.four m (List.mem_of_getElem? y)).1
      obtain ⟨a1,a2⟩:=o1 (labelN j i) (zb3 _ _) (zc9 _ _ _) (zaI j i (by omega) (by omega))
      obtain ⟨f,cl,e1,b1,b2,b3⟩:=h.bk.segs j m y i pt hi
      exact ⟨f,cl,e1,a1.trans b1,a2.trans b2,b3⟩
    · have hq:(exN ms c).parts.length≤4:=h4
      obtain ⟨a1,a2⟩:=o1 (labelN ms.length i) (zb3 _ _) (zc9 _ _ _) (zaI ms.length i (by omega) (by omega))
      obtain ⟨f,cl,e1,b1,b2,b3⟩:=h.segs i pt hi
      exact ⟨f,cl,e1,a1.trans b1,a2.trans b2,b3⟩
  · obtain ⟨n1,n2⟩:=hall n hn
    have no:=htd n n2
    rcases zdx no n2 with y | y
    · exact .inl ⟨ms.length,by simp,y⟩
    · rcases h.all n y with u | ⟨j,u,v⟩ | ⟨j,i,m,u,v,z⟩ | ⟨i,u,v⟩
      · exact absurd u n1
      · exact .inl ⟨j,by simp;omega,v⟩
      · exact .inr ⟨j,i,m,by rw [List.getElem?_append_left (zai u)];exact u,v,z⟩
      · exact .inr ⟨ms.length,i,exN ms c,by simp,u,v⟩
  · rw [List.length_append,List.length_singleton]
    exact ⟨Nat.le_trans (zbT hlim.map) hlim.files,Nat.zero_le _,Nat.le_trans (zb2 hlim.map) hlim.used,hlim.fuse,zbo hlim.map⟩
  · have ho:=zaI ms.length i (by omega) (by omega)
    obtain ⟨h1,h2⟩:=h.cont i hi
    exact ⟨h1,by rw [← h2];exact (o1 (labelN ms.length i) (zb3 _ _) (zc9 _ _ _) ho).2⟩
end Go.Proofs.YtnboipdpccnedaaGreatDoor
