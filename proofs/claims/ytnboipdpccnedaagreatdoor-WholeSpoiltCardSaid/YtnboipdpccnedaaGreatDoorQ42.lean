/- (*Export).part behind a chain: walked (printed by wip/spart.py). · What puts make of a log of one unit (plain), and a put. -/
import Derived.Test.YtnboipdpccnedaaGreatDoorQ41
set_option linter.unusedVariables false
set_option maxRecDepth 100000
set_option maxHeartbeats 16000000
namespace Go.Proofs.YtnboipdpccnedaaGreatDoor
open Go.RowKit Go.Maps
section
attribute [local go_sem ↓] hV84 hV106 hV87 hW84 hW106 hW87 hB106 hB87
theorem zlq {F FL T:Nat→Prop} {x b lb q p:Nat} {la:Option Addr} {lc:Nat} {ms:List Mf} {c:Cu} {pv:Value} {X:Dk} {L:Lg} (w:World) (h:ExSt F FL w x b lb q p (.slice la ms.length lc) c pv false X L) (hm:MsAt T w (.slice la ms.length lc) ms) (hi:SInv L X ms c) (hl:Log1 L) (h3:∀ a,(cellL L a).1≠3) (hlt:c.next < c.hi) (hcd:(X.sput (labelN ms.length c.parts.length) (segB c.next (slabL L c.hi c.next))).1=0)
    (code:Int) (hcd2:((X.sput (labelN ms.length c.parts.length) (segB c.next (slabL L c.hi c.next))).2.sput cname (cuBy (partCu L c))).1=code) :
    Calls Tryz.prog 136 #[.pointer (some ⟨x,0,none⟩)] w fun e w'=>e = .returned (errv code)∧ExOut F FL w x b lb q p (.slice la ms.length lc) (if code=0 then partCu L c else c) false ((X.sput (labelN ms.length c.parts.length) (segB c.next (slabL L c.hi c.next))).2.sput cname (cuBy (partCu L c))).2 L w':=by
  have H:=zz0 h
  have RD:=zz0 (znA w h.ex h.lg hl hlt hi.ok.hi)
  have h4:=hi.few4
  have hfw:=hi.few
  obtain ⟨cl,hcl⟩:∃ cl,cl=slabL L c.hi c.next:=⟨_,rfl⟩
  have hne:cl≠[]:=by rw [hcl];exact zhq hlt
  have h64:cl.length≤64:=by rw [hcl];exact zdf _ _ _
  have hok:∀ y ∈ cl,okCl y:=by rw [hcl];exact zfQ hl
  have hln:c.next+cl.length≤1048576:=by rw [hcl,zbU];have:=hi.ok.hi;omega
  have PC:=zz0 (zgn hi.ok hl hlt (by omega))
  have hpc:partCu L c=cuStep c (ptOf c.next cl):=by
    unfold partCu cuStep
    rw [← hcl,zdh _ _ _ (fun y hy=>by rw [hcl] at hy;unfold slabL at hy;obtain ⟨j,_,rfl⟩:=List.mem_map.1 hy;exact h3 _)]
    rfl
  rw [hpc] at PC hcd2 ⊢
  rw [← hcl] at RD hcd hcd2 ⊢
  obtain ⟨Y,hY⟩:∃ Y,Y=(X.sput (labelN ms.length c.parts.length) (segB c.next cl)).2:=⟨_,rfl⟩
  rw [← hY] at hcd2 ⊢
  have AD0:Hid (∀ W v,Keep Non w W→CsAt W v cl→Calls Tryz.prog 196 #[.pointer (some ⟨b,0,none⟩),.int .i64 ms.length,.int .i64 c.parts.length,.agg #[.int .i64 c.next,v]] W fun e w'=>e = .returned (.tuple #[ptV (ptOf c.next cl),.nilIface])∧StoreTo F W q p Y w'):=zz0 (fun W v k hv=>by
    have hrl:=zdd hok h64 (show c.next≤1048576 by omega)
    have hsl:=zcC hok h64 (show c.next≤1048576 by omega)
    rw [hY]
    exact zpx F b q p ms.length c.parts.length c.next la lc v cl X _ _ _ W (nonAt k H.out.vt) (H.out.st.keep k (fun _ _ e=>e)) hi.lim (by omega) (by omega) (by omega) (fun g x=>k.lt (H.out.low g x).2) (by omega) (by omega) hv hne h64 hok hln (by omega) (by omega) (H.out.lay.keepNon k).kon (H.out.lay.keepNon k).frs H.out.out.2.1 hcd)
  have CH0:Hid (∀ W,Keep Non w W→Calls Tryz.prog 10 #[.pointer (some ⟨b,0,none⟩)] W fun e w'=>∃ va vc,e = .returned (.slice va ms.length vc)∧Keep Non W w'):=zz0 (fun W k=>by
    refine (zbC T b q _ ms W (nonAt k H.out.vt) (hm.keepNon k) hi.bk.p32 (by omega)).mono ?_
    rintro e w' ⟨v',rfl,k',va,vc,rfl,_⟩
    exact ⟨va,vc,rfl,k'⟩)
  obtain ⟨pa,pc,rfl,_,_⟩:=zaa h.row
  have HI:=zz0 hi
  have k3:∀ y ∈ cl,((y.1 == (3:Int))=false):=fun y hy=>by
    rw [hcl] at hy
    unfold slabL at hy
    obtain ⟨j,_,rfl⟩:=List.mem_map.1 hy
    simpa using h3 (c.next+j)
  have YL:Hid (Y.lim 200 200 5000000):=zz0 (by
    obtain ⟨e1,e2,_⟩:=zgo hi hl h3 hlt
    rw [← hcl] at e1 e2
    rw [hY,e1]
    exact e2)
  obtain ⟨c2,hc2⟩:∃ c2,c2=cuStep c (ptOf c.next cl):=⟨_,rfl⟩
  have hc2p:c2.parts=c.parts ++ [ptOf c.next cl]:=by rw [hc2];rfl
  have NL:Hid (c2.parts.length=c.parts.length+1):=zz0 (by rw [hc2p];simp)
  have SP0:Hid (∀ W v,PtsAt W v c.parts→Calls Tryz.prog 197 #[cuV c v,ptV (ptOf c.next cl)] W fun e w'=>∃ v',e = .returned (.tuple #[cuV c2 v',.nilIface])∧Keep Non W w'∧w'.ownsRow W.heap.size 106 35 v' (c.parts.length+1) (ptsC c2.parts)):=zz0 (fun W v hv=>by
    rw [hc2p,hc2]
    exact zjR c (ptOf c.next cl) v W hi.ok hv hi.ok.p32 (zal _) PC.out)
  rw [← hc2] at PC hcd2 ⊢
  have SV0:Hid (∀ W F' v,StoreAt F' W q p Y→(∀ g,F' g→g < W.heap.size)→PtsAt W v c2.parts→Calls Tryz.prog 69 #[.pointer (some ⟨q,0,none⟩),.string ⟨cname.toArray⟩,cuV c2 v] W fun e w'=>e = .returned (errv code)∧StoreTo F' W q p (Y.sput cname (cuBy c2)).2 w'):=zz0 (fun W F' v d hF' hv=>by
    rw [← hcd2]
    exact zcj F' q p c2 v cname Y _ _ _ W d YL.out (by omega) (by omega) (by omega) hF' zbf PC.out hv (Nat.le_trans (zbt PC.out) (by omega)))
  clear h hm hi hcd hcl hY hl hlt hpc hcd2 hc2 hc2p h3
  go_enter Tryz.func136,Tryz.ntmps136
  go_wp2_with (go_at_call 195;refine RD.out.mono ?_;rintro e w1 ⟨v1,rfl,k1,xs,o1,q1⟩;obtain ⟨a1,c1,rfl,_,_⟩:=zaa o1;have K1:=zz0 k1;have O1:=zz0 o1;have Q1:=zz0 q1;clear k1 o1 q1)
  obtain ⟨WX,hWX⟩:∃ WX,WX=(w1.alloc (SgB c.next (.slice a1 cl.length c1))).drew:=⟨_,rfl⟩
  have hHX:=hWX
  have KX:Hid (Keep Non w WX):=zz0 (by rw [hWX];exact (K1.out.alloc _).drew)
  have SX:Hid (WX.heap[w1.heap.size]? = some (SgB c.next (.slice a1 cl.length c1))):=zz0 (by rw [hWX];exact zab w1 _)
  have CSX:Hid (∀ W,Keep Non WX W→CsAt W (.slice a1 cl.length c1) cl):=zz0 (fun W k=>by
    have k1:Keep Non w1 WX:=by rw [hWX];exact ((Keep.refl _ _).alloc _).drew
    exact CsAt.of (zac O1.out (k1.trans1 k) (fun _ _ e=>e)) (Q1.out.keep (S':=Non) (k1.trans1 k) (fun _ _ e=>e) (fun _ _ e=>e)))
  have HF:Hid (∀ g,F g→g < WX.heap.size):=zz0 (fun g y=>KX.out.lt (H.out.low g y).2)
  have LS:Hid (∀ W,Keep F WX W→W.cell? ⟨x,0,none⟩=some (.pointer (some ⟨b,0,none⟩))∧W.cell? ⟨x,6,none⟩=some (.slice pa c.parts.length pc)∧W.cell? ⟨w1.heap.size,0,none⟩=some (.int .i64 c.next)∧W.cell? ⟨w1.heap.size,1,none⟩=some (.slice a1 cl.length c1)):=zz0 (fun W k=>by
    have hxx:=k.at (nonAt KX.out H.out.ex) H.out.out.1
    have hss:=k.at SX.out (fun y=>by have:=(H.out.low _ y).2;have:=K1.out.size;omega)
    exact ⟨ex_0 hxx,ex_6 hxx,sg_0 hss,sg_1 hss⟩)
  have CH:Hid (∀ W,Keep Non WX W→Calls Tryz.prog 10 #[.pointer (some ⟨b,0,none⟩)] W fun e w'=>∃ va vc,e = .returned (.slice va ms.length vc)∧Keep Non W w'):=zz0 (fun W k=>CH0.out W (KX.out.trans1 k))
  have AD:=zz0 (fun W (k:Keep Non WX W)=>AD0.out W _ (KX.out.trans1 k) (CSX.out W k))
  have HW:Hid ((w1.alloc (.cells #[.int .i64 c.next,.slice a1 cl.length c1] 109)).drew=WX):=zz0 hWX.symm
  have LS0:=LS.out WX (Keep.refl _ _)
  rw [hWX] at LS0
  have LS1:=zz0 LS0
  clear AD0 CH0 hWX hHX LS0
  refine (fun (FIN:Hid ?T)=>?main) (zz0 ?fin)
  case' main=>refine wp_region_noPanic ?_
  refine wp_region_held_drew (S:=fun W=>W.cell? ⟨x,0,none⟩=some (.pointer (some ⟨b,0,none⟩))∧W.cell? ⟨x,6,none⟩=some (.slice pa c.parts.length pc)∧W.cell? ⟨w1.heap.size,0,none⟩=some (.int .i64 c.next)∧W.cell? ⟨w1.heap.size,1,none⟩=some (.slice a1 cl.length c1)) (by as_aux_lemma=>kernel_rfl) LS1.out (fun hHeld=>?_)
  refine tq 0 ?_;refine tq 1 ?_;refine tq 2 ?_;refine tq 3 ?_;refine tq 4 ?_;refine tq 5 ?_;refine tq 6 ?_;refine tq 7 ?_;refine tq 10 ?_;refine tq 11 ?_;refine tq 12 ?_;refine tq 13 ?_;refine tq 14 ?_;refine tq 15 ?_;refine tq 16 ?_
  rw [HW.out]
  clear hHeld
  have hHeld:=LS.out WX (Keep.refl _ _)
  refine wpAnyH_ready (rs:=[8,21]) (by as_aux_lemma=>kernel_rfl) (by simp) ?_
  refine AllReadyH.cons (by simp only [List.getElem?_toArray,List.getElem?_cons_succ,List.getElem?_cons_zero];rfl) (fun K hK=>?arm24_8) (AllReadyH.cons (by simp only [List.getElem?_toArray,List.getElem?_cons_succ,List.getElem?_cons_zero];rfl) (fun K hK=>?arm24_21) AllReadyH.nil)
  case' arm24_8 =>
    go_simp
    refine (CH.out WX (Keep.refl Non WX)).mono ?_
    rintro e w25 ⟨va25,vc25,rfl,t25⟩
    have k25:=zz0 (((Keep.refl Non WX)).trans1 t25)
    clear t25
    go_wp2_with fail
    refine hK.out _ _ (LS.out w25 k25.out.ofNon) (fun hHeld25=>?_)
    clear hK K
    try simp only [Act.put,List.setIfInBounds_toArray,List.set_cons_zero,List.set_cons_succ]
    refine tq 9 ?_
    refine wpAnyH_ready (rs:=[17,21]) (by as_aux_lemma=>kernel_rfl) (by simp) ?_
    refine AllReadyH.cons (by simp only [List.getElem?_toArray,List.getElem?_cons_succ,List.getElem?_cons_zero];rfl) (fun K hK=>?arm27_17) (AllReadyH.cons (by simp only [List.getElem?_toArray,List.getElem?_cons_succ,List.getElem?_cons_zero];rfl) (fun K hK=>?arm27_21) AllReadyH.nil)
    case' arm27_17 =>
      go_simp
      refine (AD.out w25 k25.out).mono ?_
      rintro e w28 ⟨rfl,t28⟩
      have T28:=zz0 t28
      have kf28:Hid (Keep F WX w28):=zz0 ((k25.out).ofNon.trans t28.1 (fun _ _ x=>x) (fun _ _ x=>x))
      clear t28
      go_wp2_with fail
      refine hK.out _ _ (LS.out w28 kf28.out) (fun hHeld28=>?_)
      clear hK K
      try simp only [Act.put,List.setIfInBounds_toArray,List.set_cons_zero,List.set_cons_succ]
      refine tq 18 ?_;refine tq 19 ?_;refine tq 20 ?_
      refine rc (i:=21) (fun K hK=>?_)
      go_simp
      have hst:=zas w28 (ptOf c.next cl) (zal _)
      have E:=zz0 (zoH (o:=(PtB (ptOf c.next cl))) k25.out T28.out HF.out)
      dsimp only [zPt,PtB] at hst
      refine hK.out _ _ (LS.out _ (kf28.out.alloc _)) (fun hHeld32=>?_)
      clear hK K
      try simp only [Act.put,List.setIfInBounds_toArray,List.set_cons_zero,List.set_cons_succ]
      refine rc (i:=22) (fun K hK=>?_)
      go_simp
      refine hK.out _ _ (LS.out _ (kf28.out.alloc _)) (fun hHeld33=>?_)
      clear hK K
      try simp only [Act.put,List.setIfInBounds_toArray,List.set_cons_zero,List.set_cons_succ]
      refine tq 23 ?_
      refine wpAnyH_done (by as_aux_lemma=>kernel_rfl) ?_ _
      refine NoPanic.normal ?_
      have e0:=E.out
      dsimp only [PtB] at e0
      generalize (w28.alloc _)=W4 at e0 ⊢
      generalize w28.heap.size=b5 at e0 ⊢
      have E5:=zz0 e0
      clear e0
      revert va25 vc25 W4 b5
      exact FIN.out
    case' arm27_21 =>
      go_simp
      have k35:Hid (Keep Non WX (w25.alloc (.cells zPt 106))):=zz0 ((k25.out).alloc _)
      have z35:=zz0 (zab w25 (.cells zPt 106 (0,0)))
      have y35:Hid (WX.heap.size≤w25.heap.size):=zz0 ((k25.out).size)
      obtain ⟨v35,hv35⟩:∃ v35,v35=w25.alloc (.cells zPt 106):=⟨_,rfl⟩
      rw [← hv35] at k35 z35
      dsimp only [zPt] at hv35
      try rw [← hv35]
      clear hv35
      refine hK.out _ _ (LS.out v35 k35.out.ofNon) (fun hHeld35=>?_)
      clear hK K
      try simp only [Act.put,List.setIfInBounds_toArray,List.set_cons_zero,List.set_cons_succ]
      refine rc (i:=17) (fun K hK=>?_)
      go_simp
      refine (AD.out v35 k35.out).mono ?_
      rintro e w36 ⟨rfl,t36⟩
      have T36:=zz0 t36
      have kf36:Hid (Keep F WX w36):=zz0 ((k35.out).ofNon.trans t36.1 (fun _ _ x=>x) (fun _ _ x=>x))
      clear t36
      go_wp2_with fail
      refine hK.out _ _ (LS.out w36 kf36.out) (fun hHeld36=>?_)
      clear hK K
      try simp only [Act.put,List.setIfInBounds_toArray,List.set_cons_zero,List.set_cons_succ]
      refine tq 18 ?_;refine tq 19 ?_;refine tq 20 ?_
      refine rc (i:=22) (fun K hK=>?_)
      have E2:=zkS (o:=(PtB (ptOf c.next cl))) (arr:=(ptC (ptOf c.next cl)).toArray) rfl k35.out z35.out y35.out T36.out HF.out
      have hst:=zcq w36 w25.heap.size (ptOf c.next cl) zPt (zal _) rfl E2.1
      have E:=zz0 E2.2
      clear E2
      go_simp
      refine hK.out _ _ (LS.out _ E.out.kp) (fun hHeld40=>?_)
      clear hK K
      try simp only [Act.put,List.setIfInBounds_toArray,List.set_cons_zero,List.set_cons_succ]
      refine tq 23 ?_
      refine wpAnyH_done (by as_aux_lemma=>kernel_rfl) ?_ _
      refine NoPanic.normal ?_
      have e0:=E.out
      generalize (w36.setRow _ _)=W4 at e0 ⊢
      generalize w25.heap.size=b5 at e0 ⊢
      have E5:=zz0 e0
      clear e0
      revert va25 vc25 W4 b5
      exact FIN.out
  case' arm24_21 =>
    go_simp
    have k42:Hid (Keep Non WX (WX.alloc (.cells zPt 106))):=zz0 (((Keep.refl Non WX)).alloc _)
    have z42:=zz0 (zab WX (.cells zPt 106 (0,0)))
    have y42:Hid (WX.heap.size≤WX.heap.size):=zz0 (((Keep.refl Non WX)).size)
    obtain ⟨v42,hv42⟩:∃ v42,v42=WX.alloc (.cells zPt 106):=⟨_,rfl⟩
    rw [← hv42] at k42 z42
    dsimp only [zPt] at hv42
    try rw [← hv42]
    clear hv42
    refine hK.out _ _ (LS.out v42 k42.out.ofNon) (fun hHeld42=>?_)
    clear hK K
    try simp only [Act.put,List.setIfInBounds_toArray,List.set_cons_zero,List.set_cons_succ]
    refine rc (i:=8) (fun K hK=>?_)
    go_simp
    refine (CH.out v42 k42.out).mono ?_
    rintro e w43 ⟨va43,vc43,rfl,t43⟩
    have k43:=zz0 ((k42.out).trans1 t43)
    have z43:=zz0 (nonAt t43 z42.out)
    clear t43
    go_wp2_with fail
    refine hK.out _ _ (LS.out w43 k43.out.ofNon) (fun hHeld43=>?_)
    clear hK K
    try simp only [Act.put,List.setIfInBounds_toArray,List.set_cons_zero,List.set_cons_succ]
    refine tq 9 ?_
    refine rc (i:=17) (fun K hK=>?_)
    go_simp
    refine (AD.out w43 k43.out).mono ?_
    rintro e w45 ⟨rfl,t45⟩
    have T45:=zz0 t45
    have kf45:Hid (Keep F WX w45):=zz0 ((k43.out).ofNon.trans t45.1 (fun _ _ x=>x) (fun _ _ x=>x))
    clear t45
    go_wp2_with fail
    refine hK.out _ _ (LS.out w45 kf45.out) (fun hHeld45=>?_)
    clear hK K
    try simp only [Act.put,List.setIfInBounds_toArray,List.set_cons_zero,List.set_cons_succ]
    refine tq 18 ?_;refine tq 19 ?_;refine tq 20 ?_
    refine rc (i:=22) (fun K hK=>?_)
    have E2:=zkS (o:=(PtB (ptOf c.next cl))) (arr:=(ptC (ptOf c.next cl)).toArray) rfl k43.out z43.out y42.out T45.out HF.out
    have hst:=zcq w45 WX.heap.size (ptOf c.next cl) zPt (zal _) rfl E2.1
    have E:=zz0 E2.2
    clear E2
    go_simp
    refine hK.out _ _ (LS.out _ E.out.kp) (fun hHeld49=>?_)
    clear hK K
    try simp only [Act.put,List.setIfInBounds_toArray,List.set_cons_zero,List.set_cons_succ]
    refine tq 23 ?_
    refine wpAnyH_done (by as_aux_lemma=>kernel_rfl) ?_ _
    refine NoPanic.normal ?_
    have e0:=E.out
    generalize (w45.setRow _ _)=W4 at e0 ⊢
    generalize WX.heap.size=b5 at e0 ⊢
    have E5:=zz0 e0
    clear e0
    revert va43 vc43 W4 b5
    exact FIN.out
  intro va0 vc0 V4 b5 E5
  have E5:=zz0 (zoG E5.out)
  obtain ⟨W4,hW4⟩:∃ W4,W4=V4.drew:=⟨_,rfl⟩
  rw [← hW4] at E5
  have HW4:Hid (V4.drew=W4):=zz0 hW4.symm
  clear hW4
  have XF:Hid (∀ W,Keep F WX W→W.heap[x]? = some (ExB b lb c (.slice pa c.parts.length pc) false)):=zz0 (fun W k=>k.at (nonAt KX.out H.out.ex) H.out.out.1)
  have LC:Hid (∀ W,Keep Non W4 W→W.cell? ⟨x,2,none⟩=some (.int .i64 c.lo)∧W.cell? ⟨x,3,none⟩=some (.int .i64 c.next)∧W.cell? ⟨x,4,none⟩=some (.int .i64 c.hi)∧W.cell? ⟨x,5,none⟩=some (.int .i64 c.trim)∧W.cell? ⟨x,6,none⟩=some (.slice pa c.parts.length pc)∧(holdV 106 ⟨b5,0,none⟩).run Tryz.prog W = .ok (ptV (ptOf c.next cl)) W):=zz0 (fun W k=>by
    have hxx:=XF.out W (E5.out.kp.trans1 k.ofNon)
    exact ⟨ex_2 hxx,ex_3 hxx,ex_4 hxx,ex_5 hxx,ex_6 hxx,zaG (nonAt k E5.out.bx) (zal _)⟩)
  have LC1:Hid (V4.drew.cell? ⟨x,2,none⟩=some (.int .i64 c.lo)∧V4.drew.cell? ⟨x,3,none⟩=some (.int .i64 c.next)∧V4.drew.cell? ⟨x,4,none⟩=some (.int .i64 c.hi)∧V4.drew.cell? ⟨x,5,none⟩=some (.int .i64 c.trim)∧V4.drew.cell? ⟨x,6,none⟩=some (.slice pa c.parts.length pc)∧(holdV 106 ⟨b5,0,none⟩).run Tryz.prog V4.drew = .ok (ptV (ptOf c.next cl)) V4.drew):=zz0 (by
    have:=LC.out W4 (Keep.refl _ _)
    rw [← HW4.out] at this
    exact this)
  have SP:Hid (∀ W,Keep Non W4 W→Calls Tryz.prog 197 #[.agg #[.int .i64 c.lo,.int .i64 c.next,.int .i64 c.hi,.int .i64 c.trim,.slice pa c.parts.length pc],ptV (ptOf c.next cl)] W fun e w'=>∃ v',e = .returned (.tuple #[.agg #[.int .i64 c2.lo,.int .i64 c2.next,.int .i64 c2.hi,.int .i64 c2.trim,v'],.nilIface])∧Keep Non W w'∧w'.ownsRow W.heap.size 106 35 v' (c.parts.length+1) (ptsC c2.parts)):=zz0 (fun W k=>SP0.out W _ (PtsAt.of (zac (zac (zac H.out.row KX.out (fun _ _ e=>e)) E5.out.kp (fun g e=>(H.out.pvo g e).1)) k (fun _ _ e=>e)) HI.out.ok.p32))
  have LZ:Hid (W4.heap.size≤W4.heap.size):=zz0 (Nat.le_refl _)
  clear SP0
  go_wp2_with fail
  refine (fun (FIN2:Hid ?T2)=>?main2) (zz0 ?fin2)
  case' main2=>refine wp_region_noPanic ?_
  refine wp_region_held_drew (S:=fun W=>W.cell? ⟨x,2,none⟩=some (.int .i64 c.lo)∧W.cell? ⟨x,3,none⟩=some (.int .i64 c.next)∧W.cell? ⟨x,4,none⟩=some (.int .i64 c.hi)∧W.cell? ⟨x,5,none⟩=some (.int .i64 c.trim)∧W.cell? ⟨x,6,none⟩=some (.slice pa c.parts.length pc)∧(holdV 106 ⟨b5,0,none⟩).run Tryz.prog W = .ok (ptV (ptOf c.next cl)) W) (by as_aux_lemma=>kernel_rfl) LC1.out (fun hHeld=>?_)
  refine tq 0 ?_;refine tq 1 ?_;refine tq 2 ?_;refine tq 3 ?_;refine tq 4 ?_
  rw [HW4.out]
  clear hHeld
  have hHeld:=LC.out W4 (Keep.refl _ _)
  refine wpAnyH_ready (rs:=[5,9]) (by as_aux_lemma=>kernel_rfl) (by simp) ?_
  refine AllReadyH.cons (by simp only [List.getElem?_toArray,List.getElem?_cons_succ,List.getElem?_cons_zero];rfl) (fun K hK=>?arm56_5) (AllReadyH.cons (by simp only [List.getElem?_toArray,List.getElem?_cons_succ,List.getElem?_cons_zero];rfl) (fun K hK=>?arm56_9) AllReadyH.nil)
  case' arm56_5 =>
    go_simp
    refine (SP.out W4 (Keep.refl Non W4)).mono ?_
    rintro e w57 ⟨v6,rfl,t57,o57⟩
    obtain ⟨a6,c6,rfl⟩:∃ a c',v6 = .slice a (c.parts.length+1) c':=by obtain ⟨a,c',e,_,_⟩:=zaa o57;exact ⟨a,c',e⟩
    have k57:=zz0 (((Keep.refl Non W4)).trans1 t57)
    have O57:=zz0 o57
    clear t57 o57
    go_wp2_with fail
    refine hK.out _ _ (LC.out w57 k57.out) (fun hHeld57=>?_)
    clear hK K
    try simp only [Act.put,List.setIfInBounds_toArray,List.set_cons_zero,List.set_cons_succ]
    refine tq 6 ?_;refine tq 7 ?_;refine tq 8 ?_
    refine rc (i:=9) (fun K hK=>?_)
    go_simp
    have E:=zz0 (zpe k57.out O57.out LZ.out)
    refine hK.out _ _ (LC.out _ ((k57.out).alloc _)) (fun hHeld61=>?_)
    clear hK K
    try simp only [Act.put,List.setIfInBounds_toArray,List.set_cons_zero,List.set_cons_succ]
    refine rc (i:=10) (fun K hK=>?_)
    go_simp
    refine hK.out _ _ (LC.out _ ((k57.out).alloc _)) (fun hHeld62=>?_)
    clear hK K
    try simp only [Act.put,List.setIfInBounds_toArray,List.set_cons_zero,List.set_cons_succ]
    refine tq 11 ?_
    refine wpAnyH_done (by as_aux_lemma=>kernel_rfl) ?_ _
    refine NoPanic.normal ?_
    have e0:=E.out
    dsimp only [CuB] at e0
    generalize (w57.alloc _)=W5 at e0 ⊢
    generalize w57.heap.size=nb at e0 ⊢
    have E6:=zz0 e0
    clear e0 E
    clear O57
    try clear hHeld57
    try clear hHeld61
    try clear hHeld62
    revert a6 c6 W5 nb
    exact FIN2.out
  case' arm56_9 =>
    go_simp
    have k64:Hid (Keep Non W4 (W4.alloc (.cells #[.int .i64 0,.int .i64 0,.int .i64 0,.int .i64 0,.slice none 0 0] 139 (0,0)))):=zz0 (((Keep.refl Non W4)).alloc _)
    have z64:Hid ((W4.alloc (.cells #[.int .i64 0,.int .i64 0,.int .i64 0,.int .i64 0,.slice none 0 0] 139 (0,0))).heap[W4.heap.size]? = some (CuB ⟨0,0,0,0,[]⟩ (.slice none 0 0))):=zz0 (zab W4 _)
    have y64:Hid (W4.heap.size≤W4.heap.size):=zz0 (((Keep.refl Non W4)).size)
    have l64:Hid (W4.heap.size < (W4.alloc (.cells #[.int .i64 0,.int .i64 0,.int .i64 0,.int .i64 0,.slice none 0 0] 139 (0,0))).heap.size):=zz0 (lt_of_block z64.out)
    obtain ⟨v64,hv64⟩:∃ v64,v64=W4.alloc (.cells #[.int .i64 0,.int .i64 0,.int .i64 0,.int .i64 0,.slice none 0 0] 139 (0,0)):=⟨_,rfl⟩
    rw [← hv64] at k64 z64 l64
    try rw [← hv64]
    clear hv64
    refine hK.out _ _ (LC.out v64 k64.out) (fun hHeld64=>?_)
    clear hK K
    try simp only [Act.put,List.setIfInBounds_toArray,List.set_cons_zero,List.set_cons_succ]
    refine rc (i:=5) (fun K hK=>?_)
    go_simp
    refine (SP.out v64 k64.out).mono ?_
    rintro e w65 ⟨v6,rfl,t65,o65⟩
    obtain ⟨a6,c6,rfl⟩:∃ a c',v6 = .slice a (c.parts.length+1) c':=by obtain ⟨a,c',e,_,_⟩:=zaa o65;exact ⟨a,c',e⟩
    have k65:=zz0 ((k64.out).trans1 t65)
    have O65:=zz0 o65
    have z65:=zz0 (nonAt t65 z64.out)
    clear t65 o65
    go_wp2_with fail
    refine hK.out _ _ (LC.out w65 k65.out) (fun hHeld65=>?_)
    clear hK K
    try simp only [Act.put,List.setIfInBounds_toArray,List.set_cons_zero,List.set_cons_succ]
    refine tq 6 ?_;refine tq 7 ?_;refine tq 8 ?_
    refine rc (i:=10) (fun K hK=>?_)
    obtain ⟨y0,y1,y2,y3,y4,z0,z1,z2,z3,z4⟩:=zn2 z65.out c2.lo c2.next c2.hi c2.trim
    have E:=zz0 (zpf k65.out z65.out y64.out O65.out l64.out)
    go_simp
    refine hK.out _ _ (LC.out _ E.out.kp) (fun hHeld69=>?_)
    clear hK K
    try simp only [Act.put,List.setIfInBounds_toArray,List.set_cons_zero,List.set_cons_succ]
    refine tq 11 ?_
    refine wpAnyH_done (by as_aux_lemma=>kernel_rfl) ?_ _
    refine NoPanic.normal ?_
    have e0:=E.out
    clear y0 y1 y2 y3 y4 z0 z1 z2 z3 z4
    generalize (World.setCell (World.setCell (World.setCell (World.setCell (World.setCell w65 _ _) _ _) _ _) _ _) _ _)=W5 at e0 ⊢
    generalize W4.heap.size=nb at e0 ⊢
    have E6:=zz0 e0
    clear e0 E
    clear O65
    try clear hHeld64
    try clear hHeld65
    try clear hHeld69
    revert a6 c6 W5 nb
    exact FIN2.out
  intro a6 c6 W5 nb E6
  have KF5:Hid (Keep F WX W5):=zz0 (E5.out.kp.trans1 E6.out.kp.ofNon)
  have SB5:Hid (∀ W,Keep Non W5 W→W.heap[w1.heap.size]? = some (SgB c.next (.slice a1 cl.length c1))):=zz0 (fun W k=>(KF5.out.trans1 k.ofNon).at SX.out (fun y=>by have:=(H.out.low _ y).2;have:=K1.out.size;omega))
  have k1X:Keep Non w1 WX:=by rw [← HW.out];exact ((Keep.refl _ _).alloc _).drew
  have CS5:Hid (∀ W,Keep Non W5 W→CsAt W (.slice a1 cl.length c1) cl):=zz0 (fun W k=>by
    have kk:Keep F WX W:=KF5.out.trans1 k.ofNon
    refine CsAt.of (zac (zac O1.out k1X (fun _ _ e=>e)) kk (fun g e y=>by have:=(O1.out.lt g e).1;have:=(H.out.low g y).2;omega)) ((Q1.out.keep (S':=Non) k1X (fun _ _ e=>e) (fun _ _ e=>e)).keep (S':=Non) kk (fun g hg y=>by have:=(H.out.low g y).2;omega) (fun _ _ e=>e)))
  have s1:=sg_1 (SB5.out W5 (Keep.refl _ _))
  have KK3:=zz0 k3
  clear k1X k3
  go_wp2_with fail
  clear s1
  go_loopw [57] (fun i wr=>∃ j:Nat,j≤cl.length∧i = .int .i64 j∧Keep Non W5 wr) (fun i _=>cl.length - (intOf i).toNat)
  case atStart=>exact ⟨0,by omega,rfl,Keep.refl _ _⟩
  case round =>
    obtain ⟨j,hj,rfl,hk⟩:=hrel
    have HK:=zz0 hk
    clear hk
    by_cases hlt:j < cl.length
    · have hlj:(j:Int) < (cl.length:Int):=by omega
      obtain ⟨a1',c1',e1,_,_,hx⟩:=CS5.out wr HK.out
      injection e1 with e1 e3 e4
      subst e1
      subst e4
      obtain ⟨g,off,sv1,rfl,h0,h1,hb1,_⟩:=hx j hlt
      have hk3:=KK3.out cl[j] (List.getElem_mem _)
      generalize cl[j]=y at h0 h1 hb1 hk3
      obtain ⟨av,nv,rfl,_⟩:=zaw hb1
      clear hx hb1
      go_wp2_with fail
      exact ⟨⟨j+1,by omega,by first | rfl | go_num,HK.out.alloc _⟩,by simp [intOf];omega⟩
    · obtain rfl:j=cl.length:=by omega
      obtain ⟨F4,t4,l4,n4,d4⟩:=E5.out.st
      have KD:Hid (Keep Non W4 wr.drew):=zz0 ((E6.out.kp.trans1 HK.out).drew)
      have K5D:Hid (Keep Non W5 wr.drew):=zz0 HK.out.drew
      obtain ⟨wd,hwd⟩:∃ wd,wd=wr.drew:=⟨_,rfl⟩
      have HWD:Hid (wr.drew=wd):=zz0 hwd.symm
      rw [← hwd] at KD K5D
      have D4:=zz0 (d4.keep KD.out (fun _ _ e=>e))
      have NB:=zz0 (nonAt K5D.out E6.out.bx)
      have XD:=zz0 (XF.out wd (E5.out.kp.trans1 KD.out.ofNon))
      have x0:=ex_0 XD.out
      have n0:=cu_0 NB.out
      have n1:=cu_1 NB.out
      have n2:=cu_2 NB.out
      have n3:=cu_3 NB.out
      have n4':=cu_4 NB.out
      have p32:=PC.out.p32
      have BVT:Hid (wd.heap[b]? = some (VtB q (.slice la ms.length lc))):=zz0 ((E5.out.kp.trans1 KD.out.ofNon).at (nonAt KX.out H.out.vt) H.out.out.2.1)
      have SV:=zz0 (SV0.out wd F4 (.slice a6 (c.parts.length+1) c6) D4.out (fun g y=>KD.out.lt (l4 g y)) (by
        have hr:=zac E6.out.row K5D.out (fun _ _ e=>e)
        exact PtsAt.of (by rw [NL.out];exact hr) p32))
      have ST:=zz0 (zch b q (.slice la ms.length lc) wd BVT.out)
      have T4:=zz0 (And.intro t4 (And.intro l4 n4))
      unfold cuV cname at SV
      rw [hwd] at x0 n0 n1 n2 n3 n4'
      clear d4 SV0 hwd t4 l4 n4 p32
      have LN:Hid (∀ W,Keep F4 wd W→W.cell? ⟨x,0,none⟩=some (.pointer (some ⟨b,0,none⟩))∧W.cell? ⟨nb,0,none⟩=some (.int .i64 c2.lo)∧W.cell? ⟨nb,1,none⟩=some (.int .i64 c2.next)∧W.cell? ⟨nb,2,none⟩=some (.int .i64 c2.hi)∧W.cell? ⟨nb,3,none⟩=some (.int .i64 c2.trim)∧W.cell? ⟨nb,4,none⟩=some (.slice a6 (c.parts.length+1) c6)):=zz0 (fun W k=>by
        have h1:=k.at NB.out (fun e=>by have:=T4.out.2.1 _ e;have:=E6.out.lo;omega)
        have h2:=k.at XD.out (fun y=>by
          rcases T4.out.1 _ y with u | u
          · exact H.out.out.1 u
          · have:=lt_of_block H.out.ex;have:=KX.out.size;omega)
        exact ⟨ex_0 h2,cu_0 h1,cu_1 h1,cu_2 h1,cu_3 h1,cu_4 h1⟩)
      have LN1:Hid (wr.drew.cell? ⟨x,0,none⟩=some (.pointer (some ⟨b,0,none⟩))∧wr.drew.cell? ⟨nb,0,none⟩=some (.int .i64 c2.lo)∧wr.drew.cell? ⟨nb,1,none⟩=some (.int .i64 c2.next)∧wr.drew.cell? ⟨nb,2,none⟩=some (.int .i64 c2.hi)∧wr.drew.cell? ⟨nb,3,none⟩=some (.int .i64 c2.trim)∧wr.drew.cell? ⟨nb,4,none⟩=some (.slice a6 (c.parts.length+1) c6)):=zz0 (by rw [HWD.out];exact LN.out wd (Keep.refl _ _))
      clear x0 n0 n1 n2 n3 n4'
      go_wp2_with fail
      refine wp_region_noPanic ?_
      refine wp_region_held_drew (S:=fun W=>W.cell? ⟨x,0,none⟩=some (.pointer (some ⟨b,0,none⟩))∧W.cell? ⟨nb,0,none⟩=some (.int .i64 c2.lo)∧W.cell? ⟨nb,1,none⟩=some (.int .i64 c2.next)∧W.cell? ⟨nb,2,none⟩=some (.int .i64 c2.hi)∧W.cell? ⟨nb,3,none⟩=some (.int .i64 c2.trim)∧W.cell? ⟨nb,4,none⟩=some (.slice a6 (c.parts.length+1) c6)) (by as_aux_lemma=>kernel_rfl) LN1.out (fun hHeld=>?_)
      refine tq 0 ?_;refine tq 1 ?_;refine tq 2 ?_;refine tq 3 ?_;refine tq 5 ?_
      rw [HWD.out]
      clear hHeld
      have hHeld:=LN.out wd (Keep.refl _ _)
      refine rc (i:=4) (fun K hK=>?_)
      go_simp
      refine ST.out.mono ?_
      rintro e w8 ⟨rfl,rfl⟩
      go_wp2_with fail
      refine hK.out _ _ (LN.out _ (Keep.refl _ _)) (fun hHeld6=>?_)
      clear hK K
      try simp only [Act.put,List.setIfInBounds_toArray,List.set_cons_zero,List.set_cons_succ]
      refine rc (i:=6) (fun K hK=>?_)
      go_simp
      refine SV.out.mono ?_
      rintro e w9 ⟨rfl,t9⟩
      go_wp2_with fail
      refine hK.out _ _ (LN.out w9 t9.1) (fun hHeld7=>?_)
      clear hK K
      try simp only [Act.put,List.setIfInBounds_toArray,List.set_cons_zero,List.set_cons_succ]
      refine tq 7 ?_
      refine wpAnyH_done (by as_aux_lemma=>kernel_rfl) ?_ _
      refine NoPanic.normal ?_
      obtain ⟨F',s',l',d',k',hF'⟩:=zp2 H.out KX.out E5.out.kp T4.out.1 T4.out.2.1 KD.out t9
      have K9:=zz0 k'
      have D9:=zz0 d'
      have S9:=zz0 (And.intro s' (And.intro l' hF'))
      have N9:=zz0 (t9.1.at NB.out (fun e=>by have:=T4.out.2.1 _ e;have:=E6.out.lo;omega))
      have R9:=zz0 (zac (zac E6.out.row K5D.out (fun _ _ e=>e)) t9.1 (fun g e y=>by have:=(E6.out.row.lt g e).1;have:=T4.out.2.1 _ y;omega))
      have X9:=zz0 (k'.at H.out.ex H.out.out.1)
      clear s' l' d' k' hF' t9
      by_cases hc:code=0
      · rw [zbe hc]
        obtain ⟨e2,e3,e4,e5,e6,f2,f3,f4,f5,f6,xx,kx⟩:=zoi X9.out c2 (.slice a6 (c.parts.length+1) c6)
        have XX:=zz0 xx
        have KX9:=zz0 kx
        have m0:=cu_0 N9.out
        have m1:=cu_1 N9.out
        have m2:=cu_2 N9.out
        have m3:=cu_3 N9.out
        have m4:=cu_4 N9.out
        clear xx kx
        go_wp2_with fail
        go_ret
        have hxw:x < w.heap.size:=lt_of_block H.out.ex
        have hbw:b < w.heap.size:=lt_of_block H.out.vt
        have z1:=KX.out.size
        have z2:=E5.out.kp.size
        have z3:=K5D.out.size
        have hnx:¬ F' x:=fun y=>by
          rcases S9.out.2.2 x y with u | u | u
          · exact H.out.out.1 u
          · omega
          · have:=KD.out.size;omega
        refine ⟨by first | rfl | (rw [zbe hc];rfl),F',.slice a6 (c.parts.length+1) c6,S9.out.1,K9.out.trans KX9.out (fun _ _ y=>.inl y) (fun g _ e=>.inr e),?_⟩
        refine H.out.turn (K9.out.trans KX9.out (fun _ _ y=>.inl y) (fun g _ e=>.inr e)) S9.out.1 (fun g y=>KX9.out.lt (S9.out.2.1 g y)) (D9.out.keep KX9.out (fun g y e=>by have e':g=x:=e;exact hnx (e' ▸ y))) XX.out ?_ (fun g e=>?_)
        · rw [NL.out]
          exact zad (zac R9.out KX9.out (fun g e y=>by have e':g=x:=y;have:=(R9.out.lt g e).1;omega)) (by omega)
        · have h5:=E6.out.row.lt g e
          refine ⟨fun y=>?_,by omega,by omega,fun y=>by have:=H.out.lowL g y;omega⟩
          rcases S9.out.2.2 g y with u | u | u
          · have:=(H.out.low g u).2;omega
          · omega
          · omega
      · rw [zaU hc]
        go_wp2_with fail
        go_ret
        refine ⟨by first | rfl | (rw [zaU hc];rfl),F',.slice pa c.parts.length pc,S9.out.1,K9.out.mono (fun _ _ y=>.inl y),?_⟩
        refine H.out.turn (K9.out.mono (fun _ _ y=>.inl y)) S9.out.1 S9.out.2.1 D9.out X9.out (zac H.out.row K9.out (fun g y=>(H.out.pvo g y).1)) (fun g y=>?_)
        obtain ⟨h1,h2,h3,h4'⟩:=H.out.pvo g y
        refine ⟨fun z=>?_,h2,h3,h4'⟩
        have:=(H.out.row.lt g y).2
        have z1:=KX.out.size
        have z2:=KD.out.size
        have z3:=E5.out.kp.size
        rcases S9.out.2.2 g z with u | u | u
        · exact h1 u
        · omega
        · omega
end
structure Filled (L:Lg) (i:Nat):Prop where
  shs:L.shs = [lgS L]
  ep:L.ep=1
  se:L.se=1
  e:(lgS L).e=1
  l:(lgS L).l=0
  ok:(lgS L).ok
  nx:(lgS L).next≤i+1
  next:L.next≤i
  map:IsMap (lgS L).D
  rest:∀ a,i≤a→ucell (lgS L).D a=(0,[])
  cells:∀ a,okCl (ucell (lgS L).D a)∧(ucell (lgS L).D a).1≠3
def putS (s:Sh) (i:Nat) (x:Cl):Sh:=if x.1=1 then s.did (actBy 2 s.e i x.2) s.e s.l (uput s.D i (1,x.2)) else s.did (actBy 3 s.e i []) s.e s.l (uput s.D i (2,[]))
def putL (L:Lg) (i:Nat) (x:Cl):Lg:=if cellE x.1 x.2.length=0∧(x.1=1∨x.1=2) then ⟨[putS (lgS L) i x],L.ep,max L.next (i+1),L.se⟩ else L
theorem uat0 (D:Un) (a:Nat):uat 0 D a=ucell D a:=by unfold uat;rw [if_neg (by omega)]
theorem Filled.log {L:Lg} {i:Nat} (h:Filled L i) (hi:i≤200):Log1 L :=
  ⟨.inl (by rw [h.shs];rfl),fun s hs=>by rw [h.shs] at hs;simp only [List.mem_singleton] at hs;subst hs;exact ⟨by rw [h.e,h.ep],h.ok.free.1⟩,by rw [h.se,h.ep],by have:=h.next;omega,fun a=>by rw [zhQ h.shs,h.l,uat0];exact (h.cells a).1⟩
theorem Filled.low {L:Lg} {i:Nat} (h:Filled L i):∀ s ∈ L.shs,s.l=0:=fun s hs=>by
  rw [h.shs] at hs
  simp only [List.mem_singleton] at hs
  rw [hs]
  exact h.l
theorem Filled.one {L:Lg} {i:Nat} (h:Filled L i):L.shs.length=1:=by rw [h.shs];rfl
theorem Filled.not3 {L:Lg} {i:Nat} (h:Filled L i) (a:Nat):(cellL L a).1≠3:=by
  rw [zhQ h.shs,h.l,uat0]
  exact (h.cells a).2
theorem Filled.step {L:Lg} {i:Nat} (h:Filled L i) {s2:Sh} {y:Cl} (e:s2.e=1) (l:s2.l=0) (ok:s2.ok) (nx:s2.next≤i+2) (hD:s2.D=uput (lgS L).D i y) (hy:okCl y) (hy3:y.1≠3):Filled ⟨[s2],L.ep,max L.next (i+1),L.se⟩ (i+1):=by
  refine ⟨rfl,h.ep,h.se,e,l,ok,nx,?_,?_,?_,?_⟩
  · show max L.next (i+1)≤i+1
    have:=h.next
    omega
  · show IsMap s2.D
    rw [hD]
    exact h.map.put _ _
  · intro a ha
    show ucell s2.D a=_
    rw [hD,zcf (by omega)]
    exact h.rest a (by omega)
  · intro a
    show okCl (ucell s2.D a)∧(ucell s2.D a).1≠3
    rw [hD]
    by_cases ha:a=i
    · rw [ha,zeQ h.map]
      exact ⟨hy,hy3⟩
    · rw [zcf ha]
      exact h.cells a
theorem Filled.stay {L:Lg} {i:Nat} (h:Filled L i):Filled L (i+1) :=
  ⟨h.shs,h.ep,h.se,h.e,h.l,h.ok,by have:=h.nx;omega,by have:=h.next;omega,h.map,fun a ha=>h.rest a (by omega),h.cells⟩
theorem zeS {d:List UInt8} (h:cellE 1 d.length=0):d.length≤64:=by
  unfold cellE at h
  rw [if_neg (by omega)] at h
  split at h
  · cases h
  · omega
theorem Filled.put {L:Lg} {i:Nat} (h:Filled L i) (hi:i < 200) (x:Cl):Filled (putL L i x) (i+1):=by
  unfold putL
  split
  · rename_i hc
    obtain ⟨h0,h1⟩:=hc
    have hn:=h.nx
    unfold putS
    split
    · rename_i e1
      rw [e1] at h0
      have hd:=zeS h0
      exact h.step h.e h.l (h.ok.did (by omega) (zap 2 _ i x.2 (by omega) (by rw [h.e];omega) (by omega) hd) (zgG h.map _ _)) (by show (lgS L).next+1≤_;omega) rfl ⟨by show (0:Int)≤1;omega,by show (1:Int)≤3;omega,hd,fun e=>absurd rfl e⟩ (by show (1:Int)≠3;omega)
    · exact h.step h.e h.l (h.ok.did (by omega) (zap 3 _ i [] (by omega) (by rw [h.e];omega) (by omega) (by simp)) (zgG h.map _ _)) (by show (lgS L).next+1≤_;omega) rfl ⟨by decide,by decide,by simp,fun _=>rfl⟩ (by decide)
  · exact h.stay
theorem filled0:Filled ⟨[sh1 16777216],1,0,1⟩ 0:=by
  refine ⟨rfl,rfl,rfl,rfl,rfl,?_,Nat.le_refl _,Nat.le_refl _,⟨[],rfl⟩,fun a _=>rfl,fun a=>⟨⟨by show (0:Int)≤0;omega,by show (0:Int)≤3;omega,by show 0≤64;omega,fun _=>rfl⟩,by show (0:Int)≠3;omega⟩⟩
  exact zli.did (by decide) (zap 1 1 0 [] (by omega) (by omega) (by omega) (by simp)) (Nat.le_succ _)
theorem zmw {F:Nat→Prop} {b i xc:Nat} {x:Cl} {xa:Option Addr} {L:Lg} (w:World) (h:LgAt F w b 1 L) (hf:Filled L i) (hi:i < 200) (hlay:Lay w) (hx:Bs w (.slice xa x.2.length xc) x.2) (ho:x.2 = []∨∀ g,(Value.slice xa x.2.length xc).ownBlock=some g→¬ F g∧g < w.heap.size) :
    Calls Tryz.prog 22 #[.pointer (some ⟨b,0,none⟩),.int .i64 i,.agg #[.int .i64 x.1,.slice xa x.2.length xc]] w fun r w'=>(∃ e,r = .returned (errv e))∧LgTo F w b 1 (putL L i x) w':=by
  obtain ⟨k,d⟩:=x
  dsimp only at hx ho ⊢
  by_cases hc:cellE k d.length=0∧(k=1∨k=2)
  · obtain ⟨h0,h1⟩:=hc
    have hn:=hf.nx
    have hs0:L.shs[0]? = some (lgS L):=by rw [hf.shs];rfl
    have hee:(lgS L).e=L.ep:=by rw [hf.e,hf.ep]
    have hlen:(0:Nat) < 1:=by omega
    have he:putL L i (k,d)=⟨[putS (lgS L) i (k,d)],L.ep,max L.next (i+1),L.se⟩:=by unfold putL;rw [if_pos ⟨h0,h1⟩]
    have hset:∀ s2:Sh,L.shs.set 0 s2 = [s2]:=fun s2=>by rw [hf.shs];rfl
    rw [he]
    have hu:uat (lgS L).l (lgS L).D i=(0,[]):=by rw [hf.l,uat0,hf.rest i (Nat.le_refl _)]
    refine (zh5 (L2:=⟨[putS (lgS L) i (k,d)],L.ep,L.next,L.se⟩) w h rfl (by rw [hf.se,hf.ep]) (by omega) (zfA i) (by omega) h0 h1 ?_).mono ?_
    · intro W F' kk hF' hW
      rcases h1 with h1 | h1
      · subst h1
        have hd:=zeS h0
        have ac:=ziv (s:=lgS L) hf.ok (by omega) i xa d xc hd (by rw [hf.e];omega) (by omega) (by rw [hu])
        rw [hee] at ac
        have:=ziV (c:=xc) (BsOut (.slice xa d.length xc) d) W hW hs0 (hlay.keepNon kk) ac (fun w' F2 k2 hF2=>⟨hx.keepNon (kk.trans1 k2),ho.imp id (fun ho g e=>⟨fun y=>(ho g e).1 (hF' g (hF2 g y)).1,by have:=(ho g e).2;have:=kk.size;have:=k2.size;omega⟩)⟩)
        rw [hset] at this
        have e2:putS (lgS L) i (1,d)=(lgS L).did (actBy 2 L.ep i d) L.ep (lgS L).l (uput (lgS L).D i (1,d)):=by unfold putS;rw [if_pos rfl,hee]
        rw [e2]
        exact this
      · subst h1
        have ac:=zfW (s:=lgS L) hf.ok (by omega) i (by rw [hf.e];omega) (by omega) (by rw [hu];decide) (by rw [hu];decide)
        rw [hee] at ac
        have:=ze4 (pa:=xa) (m:=d.length) (c:=xc) Any W hW hs0 (hlay.keepNon kk) ac (fun _ _ _ _=>trivial)
        rw [hset] at this
        have e2:putS (lgS L) i (2,d)=(lgS L).did (actBy 3 L.ep i []) L.ep (lgS L).l (uput (lgS L).D i (2,[])):=by unfold putS;rw [if_neg (by show ¬ (2:Int)=1;omega),hee]
        rw [e2]
        exact this
    · rintro r w' ⟨rfl,t⟩
      exact ⟨⟨0,rfl⟩,t⟩
  · have he:putL L i (k,d)=L:=by unfold putL;rw [if_neg hc]
    rw [he]
    by_cases h0:cellE k d.length=0
    · have hk:k=0∨k=3:=by
        have hk12:¬ (k=1∨k=2):=fun e=>hc ⟨h0,e⟩
        have hk03:¬ (k < 0∨3 < k):=fun e=>by
          unfold cellE at h0
          rw [if_pos e] at h0
          cases h0
        omega
      refine (zh4 w h (by omega) (.inr hk)).mono ?_
      rintro r w' ⟨e,k⟩
      exact ⟨e,LgTo.refl h k⟩
    · refine (zh4 w h (by omega) (.inl h0)).mono ?_
      rintro r w' ⟨e,k⟩
      exact ⟨e,LgTo.refl h k⟩
end Go.Proofs.YtnboipdpccnedaaGreatDoor
