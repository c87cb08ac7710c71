/- (*Export).part behind a chain, on a disk -/
import Derived.Test.YtpojgmeoaflmoaaGreatDoorQ36
set_option linter.unusedVariables false
set_option maxRecDepth 100000
set_option maxHeartbeats 16000000
namespace Go.Proofs.YtpojgmeoaflmoaaGreatDoor
open Go.RowKit Go.Maps
section
attribute [local go_sem ↓] zbB zU zbC zbD zV zbE zab zbK
theorem zh3 {F FL T:Nat→Prop}{C:Nat→Cl}{x b lb q p:Nat}{la:Option Addr}{lc:Nat}{ms:List Mf}{c:Cu}{pv:Value}{X:Dk}{L:Lg}(w:World)(h:ExSt F FL w x b lb q p (.slice la ms.length lc) c pv false X L)(hm:zai T w (.slice la ms.length lc) ms)(hi:TF L C X.shown ms c)(ht:TDk X)(hl:Log1 L)(hlt:c.next<c.hi)(hcd:(X.sput (zt ms.length c.parts.length) (zaC c.next (zaF L c.hi c.next))).1=0)
 (code:Int) (hcd2:((X.sput (zt ms.length c.parts.length) (zaC c.next (zaF L c.hi c.next))).2.sput zx (zco (zaM L c))).1=code) :
 Calls Tryz.prog 119 #[.pointer (some ⟨x,0,none⟩)] w fun e w'=>e = .returned (zbU code)∧ExOut F FL w x b lb q p (.slice la ms.length lc) (if code=0 then zaM L c else c) false ((X.sput (zt ms.length c.parts.length) (zaC c.next (zaF L c.hi c.next))).2.sput zx (zco (zaM L c))).2 L w':=by
 have H:=zz0 h;have RD:=zz0 (zjU w h.ex h.lg hl hlt hi.ok.hi);have h4:c.parts.length≤4:=by have:=hi.part;have:=hi.hi;omega
 have hfw:=hi.few;obtain⟨cl,hcl⟩:∃cl,cl=zaF L c.hi c.next:=⟨_,rfl⟩;have hne:cl≠[]:=by rw[hcl];exact ziQ hlt
 have h64:cl.length≤64:=by rw[hcl];exact zec _ _ _
 have hok:∀y ∈ cl,zcl y:=by rw[hcl];exact zgY hl
 have hln:c.next+cl.length≤1048576:=by rw[hcl,zbw];have:=hi.ok.hi;omega
 have PC:=zz0 (zfm hi.ok hl hlt (by omega))
 have htr:trimC c.trim c.next cl=c.trim:=by
  rw[hcl];exact zcL hi.trim.2.2 (by have:=hi.stand;have:=hi.ok.le;omega)
 have hpc:zaM L c=zb8 c (zaI c.next cl):=by
  unfold zaM zb8;rw[←hcl,htr]
  rfl
 rw[hpc] at PC hcd2 ⊢;rw[←hcl] at RD hcd hcd2 ⊢;obtain⟨Y,hY⟩:∃Y,Y=(X.sput (zt ms.length c.parts.length) (zaC c.next cl)).2:=⟨_,rfl⟩;rw[←hY] at hcd2 ⊢;have AD0:Hid (∀W v,za zq2 w W→CsAt W v cl→Calls Tryz.prog 184 #[.pointer (some ⟨b,0,none⟩),.int .i64 ms.length,.int .i64 c.parts.length,.agg #[.int .i64 c.next,v]] W fun e w'=>e = .returned (.tuple #[ptV (zaI c.next cl),.nilIface])∧zn F W q p Y w'):=zz0 (fun W v k hv=>by
  have hrl:=zfC hok h64 (show c.next≤1048576 by omega)
  have hsl:=zeb hok h64 (show c.next≤1048576 by omega)
  rw[hY];exact zqu F b q p ms.length c.parts.length c.next la lc v cl X _ _ _ W (zh k H.out.vt) (H.out.st.keep k (fun _ _ e=>e)) (hi.lim ht) (by omega) (by omega) (by omega) (fun g x=>k.lt (H.out.low g x).2) (by omega) (by omega) hv hne h64 hok hln (by omega) (by omega) (H.out.lay.keepNon k).kon (H.out.lay.keepNon k).frs H.out.out.2.1 hcd)
 have CH0:Hid (∀W,za zq2 w W→Calls Tryz.prog 9 #[.pointer (some ⟨b,0,none⟩)] W fun e w'=>∃va vc,e = .returned (.slice va ms.length vc)∧za zq2 W w'):=zz0 (fun W k=>by
  refine(zar T b q _ ms W (zh k H.out.vt) (hm.keepNon k) hi.b.p32 (by omega)).mono ?_
  rintro e w' ⟨v',rfl,k',va,vc,rfl,_⟩;exact⟨va,vc,rfl,k'⟩)
 obtain⟨pa,pc,rfl,_,_⟩:=zb h.row;have HI:=zz0 hi;have k3:∀(j:Nat) (h:j<cl.length),(cl[j]).1=3→c.next+j<c.trim:=fun j h y=>by
  have h2:=h;rw[hcl,zbw] at h2;have e2:cl[j]? = some (zbx L (c.next+j)):=by rw[hcl];exact zeA h2
  rw[List.getElem?_eq_getElem h] at e2;injection e2 with e2
  rw[e2] at y;exact hi.trim.2.2 _ (by have:=hi.stand;have:=hi.ok.le;omega) (by omega) y
 have YL:Hid (Y.lim 200 200 5000000):=zz0 (by
  rcases zjy hi ht hl hlt with ⟨Y',e1,tY,lY,_⟩|⟨_,Y',e1,_⟩
  ·rw[←hcl] at e1
   rw[hY,e1];exact lY.mono (by omega) (by omega) (by omega)
  ·rw[←hcl] at e1
   rw[e1] at hcd;cases hcd)
 obtain⟨c2,hc2⟩:∃c2,c2=zb8 c (zaI c.next cl):=⟨_,rfl⟩;have hc2p:c2.parts=c.parts ++ [zaI c.next cl]:=by rw[hc2];rfl
 have hc2t:c2.trim=c.trim:=by rw[hc2];rfl
 have NL:Hid (c2.parts.length=c.parts.length+1):=zz0 (by rw[hc2p];simp)
 have SP0:Hid (∀W v,zC W v c.parts→Calls Tryz.prog 185 #[cuV c v,ptV (zaI c.next cl)] W fun e w'=>∃v',e = .returned (.tuple #[cuV c2 v',.nilIface])∧za zq2 W w'∧w'.ownsRow W.heap.size 125 35 v' (c.parts.length+1) (zaP c2.parts)):=zz0 (fun W v hv=>by
  rw[hc2p,hc2];exact zll c (zaI c.next cl) v W hi.ok hv hi.ok.p32 (zJ _) PC.out)
 rw[←hc2] at PC hcd2 ⊢;have SV0:Hid (∀W F' v,zk F' W q p Y→(∀g,F' g→g<W.heap.size)→zC W v c2.parts→Calls Tryz.prog 65 #[.pointer (some ⟨q,0,none⟩),.string ⟨zx.toArray⟩,cuV c2 v] W fun e w'=>e = .returned (zbU code)∧zn F' W q p (Y.sput zx (zco c2)).2 w'):=zz0 (fun W F' v d hF' hv=>by
  rw[←hcd2];exact zdc F' q p c2 v zx Y _ _ _ W d YL.out (by omega) (by omega) (by omega) hF' zal PC.out hv (Nat.le_trans (zcC PC.out) (by omega)))
 rw[←hc2t] at k3;clear h hm hi ht hcd hcl hY hl hlt hpc hcd2 hc2 hc2p hc2t htr
 go_enter Tryz.func119,Tryz.ntmps119
 go_wp2_with(go_at_call 183;refine RD.out.mono ?_;rintro e w1 ⟨v1,rfl,k1,xs,o1,q1⟩;obtain⟨a1,c1,rfl,_,_⟩:=zb o1;have K1:=zz0 k1;have O1:=zz0 o1;have Q1:=zz0 q1;clear k1 o1 q1)
 obtain⟨WX,hWX⟩:∃WX,WX=(w1.alloc (SgB c.next (.slice a1 cl.length c1))).drew:=⟨_,rfl⟩;have hHX:=hWX;have KX:Hid (za zq2 w WX):=zz0 (by rw[hWX];exact(K1.out.alloc _).drew)
 have SX:Hid (WX.heap[w1.heap.size]? = some (SgB c.next (.slice a1 cl.length c1))):=zz0 (by rw[hWX];exact ze w1 _)
 have CSX:Hid (∀W,za zq2 WX W→CsAt W (.slice a1 cl.length c1) cl):=zz0 (fun W k=>by
  have k1:za zq2 w1 WX:=by rw[hWX];exact((za.refl _ _).alloc _).drew
  exact CsAt.of (zc O1.out (k1.trans1 k) (fun _ _ e=>e)) (Q1.out.keep (S':=zq2) (k1.trans1 k) (fun _ _ e=>e) (fun _ _ e=>e)))
 have HF:Hid (∀g,F g→g<WX.heap.size):=zz0 (fun g y=>KX.out.lt (H.out.low g y).2)
 have LS:Hid (∀W,za F WX W→W.cell? ⟨x,0,none⟩=some (.pointer (some ⟨b,0,none⟩))∧W.cell? ⟨x,6,none⟩=some (.slice pa c.parts.length pc)∧W.cell? ⟨w1.heap.size,0,none⟩=some (.int .i64 c.next)∧W.cell? ⟨w1.heap.size,1,none⟩=some (.slice a1 cl.length c1)):=zz0 (fun W k=>by
  have hxx:=k.at (zh KX.out H.out.ex) H.out.out.1;have hss:=k.at SX.out (fun y=>by have:=(H.out.low _ y).2;have:=K1.out.size;omega)
  exact⟨ex_0 hxx,ex_6 hxx,sg_0 hss,sg_1 hss⟩)
 have CH:Hid (∀W,za zq2 WX W→Calls Tryz.prog 9 #[.pointer (some ⟨b,0,none⟩)] W fun e w'=>∃va vc,e = .returned (.slice va ms.length vc)∧za zq2 W w'):=zz0 (fun W k=>CH0.out W (KX.out.trans1 k))
 have AD:=zz0 (fun W (k:za zq2 WX W)=>AD0.out W _ (KX.out.trans1 k) (CSX.out W k))
 have HW:Hid ((w1.alloc (.cells #[.int .i64 c.next,.slice a1 cl.length c1] 263)).drew=WX):=zz0 hWX.symm;have LS0:=LS.out WX (za.refl _ _);rw[hWX] at LS0;have LS1:=zz0 LS0;clear AD0 CH0 hWX hHX LS0;refine(fun(FIN:Hid ?T)=>?main) (zz0 ?fin)
 case' main=>refine wp_region_noPanic ?_
 refine wp_region_held_drew (S:=fun W=>W.cell? ⟨x,0,none⟩=some (.pointer (some ⟨b,0,none⟩))∧W.cell? ⟨x,6,none⟩=some (.slice pa c.parts.length pc)∧W.cell? ⟨w1.heap.size,0,none⟩=some (.int .i64 c.next)∧W.cell? ⟨w1.heap.size,1,none⟩=some (.slice a1 cl.length c1)) (by as_aux_lemma=>kernel_rfl) LS1.out (fun hHeld=>?_)
 refine tq 0 ?_;refine tq 1 ?_;refine tq 2 ?_;refine tq 3 ?_;refine tq 4 ?_;refine tq 5 ?_;refine tq 6 ?_;refine tq 7 ?_;refine tq 10 ?_;refine tq 11 ?_;refine tq 12 ?_;refine tq 13 ?_;refine tq 14 ?_;refine tq 15 ?_;refine tq 16 ?_;rw[HW.out];clear hHeld;have hHeld:=LS.out WX (za.refl _ _);refine wpAnyH_ready (rs:=[8,21]) (by as_aux_lemma=>kernel_rfl) (by simp) ?_
 refine AllReadyH.cons (by simp only[List.getElem?_toArray,List.getElem?_cons_succ,List.getElem?_cons_zero];rfl) (fun K hK=>?arm24_8) (AllReadyH.cons (by simp only[List.getElem?_toArray,List.getElem?_cons_succ,List.getElem?_cons_zero];rfl) (fun K hK=>?arm24_21) AllReadyH.nil)
 case' arm24_8 =>
  go_simp;refine(CH.out WX (za.refl zq2 WX)).mono ?_;rintro e w25 ⟨va25,vc25,rfl,t25⟩;have k25:=zz0 (((za.refl zq2 WX)).trans1 t25);clear t25
  go_wp2_with fail
  refine hK.out _ _ (LS.out w25 k25.out.ofNon) (fun hHeld25=>?_)
  clear hK K
  try simp only[Act.put,List.setIfInBounds_toArray,List.set_cons_zero,List.set_cons_succ]
  refine tq 9 ?_;refine wpAnyH_ready (rs:=[17,21]) (by as_aux_lemma=>kernel_rfl) (by simp) ?_
  refine AllReadyH.cons (by simp only[List.getElem?_toArray,List.getElem?_cons_succ,List.getElem?_cons_zero];rfl) (fun K hK=>?arm27_17) (AllReadyH.cons (by simp only[List.getElem?_toArray,List.getElem?_cons_succ,List.getElem?_cons_zero];rfl) (fun K hK=>?arm27_21) AllReadyH.nil)
  case' arm27_17 =>
   go_simp;refine(AD.out w25 k25.out).mono ?_;rintro e w28 ⟨rfl,t28⟩;have T28:=zz0 t28;have kf28:Hid (za F WX w28):=zz0 ((k25.out).ofNon.trans t28.1 (fun _ _ x=>x) (fun _ _ x=>x))
   clear t28
   go_wp2_with fail
   refine hK.out _ _ (LS.out w28 kf28.out) (fun hHeld28=>?_)
   clear hK K
   try simp only[Act.put,List.setIfInBounds_toArray,List.set_cons_zero,List.set_cons_succ]
   refine tq 18 ?_;refine tq 19 ?_;refine tq 20 ?_;refine rc (i:=21) (fun K hK=>?_)
   go_simp;have hst:=zac w28 (zaI c.next cl) (zJ _);have E:=zz0 (zmg (o:=(zq4 (zaI c.next cl))) k25.out T28.out HF.out);dsimp only[zrb,zq4] at hst;refine hK.out _ _ (LS.out _ (kf28.out.alloc _)) (fun hHeld32=>?_)
   clear hK K
   try simp only[Act.put,List.setIfInBounds_toArray,List.set_cons_zero,List.set_cons_succ]
   refine rc (i:=22) (fun K hK=>?_)
   go_simp;refine hK.out _ _ (LS.out _ (kf28.out.alloc _)) (fun hHeld33=>?_)
   clear hK K
   try simp only[Act.put,List.setIfInBounds_toArray,List.set_cons_zero,List.set_cons_succ]
   refine tq 23 ?_;refine wpAnyH_done (by as_aux_lemma=>kernel_rfl) ?_ _
   refine NoPanic.normal ?_;have e0:=E.out;dsimp only[zq4] at e0;generalize (w28.alloc _)=W4 at e0 ⊢;generalize w28.heap.size=b5 at e0 ⊢;have E5:=zz0 e0;clear e0;revert va25 vc25 W4 b5;exact FIN.out
  case' arm27_21 =>
   go_simp;have k35:Hid (za zq2 WX (w25.alloc (.cells zrb 125))):=zz0 ((k25.out).alloc _);have z35:=zz0 (ze w25 (.cells zrb 125 (0,0)));have y35:Hid (WX.heap.size≤w25.heap.size):=zz0 ((k25.out).size);obtain⟨v35,hv35⟩:∃v35,v35=w25.alloc (.cells zrb 125):=⟨_,rfl⟩;rw[←hv35] at k35 z35;dsimp only[zrb] at hv35
   try rw[←hv35]
   clear hv35;refine hK.out _ _ (LS.out v35 k35.out.ofNon) (fun hHeld35=>?_)
   clear hK K
   try simp only[Act.put,List.setIfInBounds_toArray,List.set_cons_zero,List.set_cons_succ]
   refine rc (i:=17) (fun K hK=>?_)
   go_simp;refine(AD.out v35 k35.out).mono ?_;rintro e w36 ⟨rfl,t36⟩;have T36:=zz0 t36;have kf36:Hid (za F WX w36):=zz0 ((k35.out).ofNon.trans t36.1 (fun _ _ x=>x) (fun _ _ x=>x))
   clear t36
   go_wp2_with fail
   refine hK.out _ _ (LS.out w36 kf36.out) (fun hHeld36=>?_)
   clear hK K
   try simp only[Act.put,List.setIfInBounds_toArray,List.set_cons_zero,List.set_cons_succ]
   refine tq 18 ?_;refine tq 19 ?_;refine tq 20 ?_;refine rc (i:=22) (fun K hK=>?_)
   have E2:=zgS (o:=(zq4 (zaI c.next cl))) (arr:=(zq8 (zaI c.next cl)).toArray) rfl k35.out z35.out y35.out T36.out HF.out;have hst:=zbR w36 w25.heap.size (zaI c.next cl) zrb (zJ _) rfl E2.1;have E:=zz0 E2.2;clear E2;go_simp;refine hK.out _ _ (LS.out _ E.out.kp) (fun hHeld40=>?_)
   clear hK K
   try simp only[Act.put,List.setIfInBounds_toArray,List.set_cons_zero,List.set_cons_succ]
   refine tq 23 ?_;refine wpAnyH_done (by as_aux_lemma=>kernel_rfl) ?_ _
   refine NoPanic.normal ?_;have e0:=E.out;generalize (w36.setRow _ _)=W4 at e0 ⊢;generalize w25.heap.size=b5 at e0 ⊢;have E5:=zz0 e0;clear e0;revert va25 vc25 W4 b5;exact FIN.out
 case' arm24_21 =>
  go_simp;have k42:Hid (za zq2 WX (WX.alloc (.cells zrb 125))):=zz0 (((za.refl zq2 WX)).alloc _);have z42:=zz0 (ze WX (.cells zrb 125 (0,0)));have y42:Hid (WX.heap.size≤WX.heap.size):=zz0 (((za.refl zq2 WX)).size);obtain⟨v42,hv42⟩:∃v42,v42=WX.alloc (.cells zrb 125):=⟨_,rfl⟩;rw[←hv42] at k42 z42;dsimp only[zrb] at hv42
  try rw[←hv42]
  clear hv42;refine hK.out _ _ (LS.out v42 k42.out.ofNon) (fun hHeld42=>?_)
  clear hK K
  try simp only[Act.put,List.setIfInBounds_toArray,List.set_cons_zero,List.set_cons_succ]
  refine rc (i:=8) (fun K hK=>?_)
  go_simp;refine(CH.out v42 k42.out).mono ?_;rintro e w43 ⟨va43,vc43,rfl,t43⟩;have k43:=zz0 ((k42.out).trans1 t43);have z43:=zz0 (zh t43 z42.out);clear t43
  go_wp2_with fail
  refine hK.out _ _ (LS.out w43 k43.out.ofNon) (fun hHeld43=>?_)
  clear hK K
  try simp only[Act.put,List.setIfInBounds_toArray,List.set_cons_zero,List.set_cons_succ]
  refine tq 9 ?_;refine rc (i:=17) (fun K hK=>?_)
  go_simp;refine(AD.out w43 k43.out).mono ?_;rintro e w45 ⟨rfl,t45⟩;have T45:=zz0 t45;have kf45:Hid (za F WX w45):=zz0 ((k43.out).ofNon.trans t45.1 (fun _ _ x=>x) (fun _ _ x=>x))
  clear t45
  go_wp2_with fail
  refine hK.out _ _ (LS.out w45 kf45.out) (fun hHeld45=>?_)
  clear hK K
  try simp only[Act.put,List.setIfInBounds_toArray,List.set_cons_zero,List.set_cons_succ]
  refine tq 18 ?_;refine tq 19 ?_;refine tq 20 ?_;refine rc (i:=22) (fun K hK=>?_)
  have E2:=zgS (o:=(zq4 (zaI c.next cl))) (arr:=(zq8 (zaI c.next cl)).toArray) rfl k43.out z43.out y42.out T45.out HF.out;have hst:=zbR w45 WX.heap.size (zaI c.next cl) zrb (zJ _) rfl E2.1;have E:=zz0 E2.2;clear E2;go_simp;refine hK.out _ _ (LS.out _ E.out.kp) (fun hHeld49=>?_)
  clear hK K
  try simp only[Act.put,List.setIfInBounds_toArray,List.set_cons_zero,List.set_cons_succ]
  refine tq 23 ?_;refine wpAnyH_done (by as_aux_lemma=>kernel_rfl) ?_ _
  refine NoPanic.normal ?_;have e0:=E.out;generalize (w45.setRow _ _)=W4 at e0 ⊢;generalize WX.heap.size=b5 at e0 ⊢;have E5:=zz0 e0;clear e0;revert va43 vc43 W4 b5;exact FIN.out
 intro va0 vc0 V4 b5 E5;have E5:=zz0 (zpP E5.out);obtain⟨W4,hW4⟩:∃W4,W4=V4.drew:=⟨_,rfl⟩;rw[←hW4] at E5;have HW4:Hid (V4.drew=W4):=zz0 hW4.symm;clear hW4;have XF:Hid (∀W,za F WX W→W.heap[x]? = some (ExB b lb c (.slice pa c.parts.length pc) false)):=zz0 (fun W k=>k.at (zh KX.out H.out.ex) H.out.out.1)
 have LC:Hid (∀W,za zq2 W4 W→W.cell? ⟨x,2,none⟩=some (.int .i64 c.lo)∧W.cell? ⟨x,3,none⟩=some (.int .i64 c.next)∧W.cell? ⟨x,4,none⟩=some (.int .i64 c.hi)∧W.cell? ⟨x,5,none⟩=some (.int .i64 c.trim)∧W.cell? ⟨x,6,none⟩=some (.slice pa c.parts.length pc)∧(zZ 125 ⟨b5,0,none⟩).run Tryz.prog W = .ok (ptV (zaI c.next cl)) W):=zz0 (fun W k=>by
  have hxx:=XF.out W (E5.out.kp.trans1 k.ofNon);exact⟨ex_2 hxx,ex_3 hxx,ex_4 hxx,ex_5 hxx,ex_6 hxx,zaB (zh k E5.out.bx) (zJ _)⟩)
 have LC1:Hid (V4.drew.cell? ⟨x,2,none⟩=some (.int .i64 c.lo)∧V4.drew.cell? ⟨x,3,none⟩=some (.int .i64 c.next)∧V4.drew.cell? ⟨x,4,none⟩=some (.int .i64 c.hi)∧V4.drew.cell? ⟨x,5,none⟩=some (.int .i64 c.trim)∧V4.drew.cell? ⟨x,6,none⟩=some (.slice pa c.parts.length pc)∧(zZ 125 ⟨b5,0,none⟩).run Tryz.prog V4.drew = .ok (ptV (zaI c.next cl)) V4.drew):=zz0 (by
  have:=LC.out W4 (za.refl _ _);rw[←HW4.out] at this;exact this)
 have SP:Hid (∀W,za zq2 W4 W→Calls Tryz.prog 185 #[.agg #[.int .i64 c.lo,.int .i64 c.next,.int .i64 c.hi,.int .i64 c.trim,.slice pa c.parts.length pc],ptV (zaI c.next cl)] W fun e w'=>∃v',e = .returned (.tuple #[.agg #[.int .i64 c2.lo,.int .i64 c2.next,.int .i64 c2.hi,.int .i64 c2.trim,v'],.nilIface])∧za zq2 W w'∧w'.ownsRow W.heap.size 125 35 v' (c.parts.length+1) (zaP c2.parts)):=zz0 (fun W k=>SP0.out W _ (zC.of (zc (zc (zc H.out.row KX.out (fun _ _ e=>e)) E5.out.kp (fun g e=>(H.out.pvo g e).1)) k (fun _ _ e=>e)) HI.out.ok.p32))
 have LZ:Hid (W4.heap.size≤W4.heap.size):=zz0 (Nat.le_refl _);clear SP0
 go_wp2_with fail
 refine(fun(FIN2:Hid ?T2)=>?main2) (zz0 ?fin2)
 case' main2=>refine wp_region_noPanic ?_
 refine wp_region_held_drew (S:=fun W=>W.cell? ⟨x,2,none⟩=some (.int .i64 c.lo)∧W.cell? ⟨x,3,none⟩=some (.int .i64 c.next)∧W.cell? ⟨x,4,none⟩=some (.int .i64 c.hi)∧W.cell? ⟨x,5,none⟩=some (.int .i64 c.trim)∧W.cell? ⟨x,6,none⟩=some (.slice pa c.parts.length pc)∧(zZ 125 ⟨b5,0,none⟩).run Tryz.prog W = .ok (ptV (zaI c.next cl)) W) (by as_aux_lemma=>kernel_rfl) LC1.out (fun hHeld=>?_)
 refine tq 0 ?_;refine tq 1 ?_;refine tq 2 ?_;refine tq 3 ?_;refine tq 4 ?_;rw[HW4.out];clear hHeld;have hHeld:=LC.out W4 (za.refl _ _);refine wpAnyH_ready (rs:=[5,9]) (by as_aux_lemma=>kernel_rfl) (by simp) ?_
 refine AllReadyH.cons (by simp only[List.getElem?_toArray,List.getElem?_cons_succ,List.getElem?_cons_zero];rfl) (fun K hK=>?arm56_5) (AllReadyH.cons (by simp only[List.getElem?_toArray,List.getElem?_cons_succ,List.getElem?_cons_zero];rfl) (fun K hK=>?arm56_9) AllReadyH.nil)
 case' arm56_5 =>
  go_simp;refine(SP.out W4 (za.refl zq2 W4)).mono ?_;rintro e w57 ⟨v6,rfl,t57,o57⟩;obtain⟨a6,c6,rfl⟩:∃a c',v6 = .slice a (c.parts.length+1) c':=by obtain⟨a,c',e,_,_⟩:=zb o57;exact⟨a,c',e⟩
  have k57:=zz0 (((za.refl zq2 W4)).trans1 t57);have O57:=zz0 o57;clear t57 o57
  go_wp2_with fail
  refine hK.out _ _ (LC.out w57 k57.out) (fun hHeld57=>?_)
  clear hK K
  try simp only[Act.put,List.setIfInBounds_toArray,List.set_cons_zero,List.set_cons_succ]
  refine tq 6 ?_;refine tq 7 ?_;refine tq 8 ?_;refine rc (i:=9) (fun K hK=>?_)
  go_simp;have E:=zz0 (zqh k57.out O57.out LZ.out);refine hK.out _ _ (LC.out _ ((k57.out).alloc _)) (fun hHeld61=>?_)
  clear hK K
  try simp only[Act.put,List.setIfInBounds_toArray,List.set_cons_zero,List.set_cons_succ]
  refine rc (i:=10) (fun K hK=>?_)
  go_simp;refine hK.out _ _ (LC.out _ ((k57.out).alloc _)) (fun hHeld62=>?_)
  clear hK K
  try simp only[Act.put,List.setIfInBounds_toArray,List.set_cons_zero,List.set_cons_succ]
  refine tq 11 ?_;refine wpAnyH_done (by as_aux_lemma=>kernel_rfl) ?_ _
  refine NoPanic.normal ?_;have e0:=E.out;dsimp only[zq0] at e0;generalize (w57.alloc _)=W5 at e0 ⊢;generalize w57.heap.size=nb at e0 ⊢;have E6:=zz0 e0;clear e0 E;clear O57
  try clear hHeld57
  try clear hHeld61
  try clear hHeld62
  revert a6 c6 W5 nb;exact FIN2.out
 case' arm56_9 =>
  go_simp;have k64:Hid (za zq2 W4 (W4.alloc (.cells #[.int .i64 0,.int .i64 0,.int .i64 0,.int .i64 0,.slice none 0 0] 127 (0,0)))):=zz0 (((za.refl zq2 W4)).alloc _);have z64:Hid ((W4.alloc (.cells #[.int .i64 0,.int .i64 0,.int .i64 0,.int .i64 0,.slice none 0 0] 127 (0,0))).heap[W4.heap.size]? = some (zq0 ⟨0,0,0,0,[]⟩ (.slice none 0 0))):=zz0 (ze W4 _);have y64:Hid (W4.heap.size≤W4.heap.size):=zz0 (((za.refl zq2 W4)).size);have l64:Hid (W4.heap.size<(W4.alloc (.cells #[.int .i64 0,.int .i64 0,.int .i64 0,.int .i64 0,.slice none 0 0] 127 (0,0))).heap.size):=zz0 (lt_of_block z64.out);obtain⟨v64,hv64⟩:∃v64,v64=W4.alloc (.cells #[.int .i64 0,.int .i64 0,.int .i64 0,.int .i64 0,.slice none 0 0] 127 (0,0)):=⟨_,rfl⟩;rw[←hv64] at k64 z64 l64
  try rw[←hv64]
  clear hv64;refine hK.out _ _ (LC.out v64 k64.out) (fun hHeld64=>?_)
  clear hK K
  try simp only[Act.put,List.setIfInBounds_toArray,List.set_cons_zero,List.set_cons_succ]
  refine rc (i:=5) (fun K hK=>?_)
  go_simp;refine(SP.out v64 k64.out).mono ?_;rintro e w65 ⟨v6,rfl,t65,o65⟩;obtain⟨a6,c6,rfl⟩:∃a c',v6 = .slice a (c.parts.length+1) c':=by obtain⟨a,c',e,_,_⟩:=zb o65;exact⟨a,c',e⟩
  have k65:=zz0 ((k64.out).trans1 t65);have O65:=zz0 o65;have z65:=zz0 (zh t65 z64.out);clear t65 o65
  go_wp2_with fail
  refine hK.out _ _ (LC.out w65 k65.out) (fun hHeld65=>?_)
  clear hK K
  try simp only[Act.put,List.setIfInBounds_toArray,List.set_cons_zero,List.set_cons_succ]
  refine tq 6 ?_;refine tq 7 ?_;refine tq 8 ?_;refine rc (i:=10) (fun K hK=>?_)
  obtain⟨y0,y1,y2,y3,y4,z0,z1,z2,z3,z4⟩:=zeV z65.out c2.lo c2.next c2.hi c2.trim;have E:=zz0 (zqi k65.out z65.out y64.out O65.out l64.out);go_simp;refine hK.out _ _ (LC.out _ E.out.kp) (fun hHeld69=>?_)
  clear hK K
  try simp only[Act.put,List.setIfInBounds_toArray,List.set_cons_zero,List.set_cons_succ]
  refine tq 11 ?_;refine wpAnyH_done (by as_aux_lemma=>kernel_rfl) ?_ _
  refine NoPanic.normal ?_;have e0:=E.out;clear y0 y1 y2 y3 y4 z0 z1 z2 z3 z4;generalize (World.setCell (World.setCell (World.setCell (World.setCell (World.setCell w65 _ _) _ _) _ _) _ _) _ _)=W5 at e0 ⊢;generalize W4.heap.size=nb at e0 ⊢;have E6:=zz0 e0;clear e0 E;clear O65
  try clear hHeld64
  try clear hHeld65
  try clear hHeld69
  revert a6 c6 W5 nb;exact FIN2.out
 intro a6 c6 W5 nb E6;have KF5:Hid (za F WX W5):=zz0 (E5.out.kp.trans1 E6.out.kp.ofNon);have SB5:Hid (∀W,za zq2 W5 W→W.heap[w1.heap.size]? = some (SgB c.next (.slice a1 cl.length c1))):=zz0 (fun W k=>(KF5.out.trans1 k.ofNon).at SX.out (fun y=>by have:=(H.out.low _ y).2;have:=K1.out.size;omega))
 have k1X:za zq2 w1 WX:=by rw[←HW.out];exact((za.refl _ _).alloc _).drew
 have CS5:Hid (∀W,za zq2 W5 W→CsAt W (.slice a1 cl.length c1) cl):=zz0 (fun W k=>by
  have kk:za F WX W:=KF5.out.trans1 k.ofNon;refine CsAt.of (zc (zc O1.out k1X (fun _ _ e=>e)) kk (fun g e y=>by have:=(O1.out.lt g e).1;have:=(H.out.low g y).2;omega)) ((Q1.out.keep (S':=zq2) k1X (fun _ _ e=>e) (fun _ _ e=>e)).keep (S':=zq2) kk (fun g hg y=>by have:=(H.out.low g y).2;omega) (fun _ _ e=>e)))
 have s1:=sg_1 (SB5.out W5 (za.refl _ _));have KK3:=zz0 k3;clear k1X k3
 go_wp2_with fail
 clear s1
 go_loopw [57] (fun i wr=>∃j:Nat,j≤cl.length∧i = .int .i64 j∧za zq2 W5 wr) (fun i _=>cl.length-(intOf i).toNat)
 case atStart=>exact⟨0,by omega,rfl,za.refl _ _⟩
 case round =>
  obtain⟨j,hj,rfl,hk⟩:=hrel;have HK:=zz0 hk;clear hk;by_cases hlt:j<cl.length
  ·have hlj:(j:Int)<(cl.length:Int):=by omega
   obtain⟨a1',c1',e1,_,_,hx⟩:=CS5.out wr HK.out;injection e1 with e1 e3 e4
   subst e1;subst e4;obtain⟨g,off,sv1,rfl,h0,h1,hb1,_⟩:=hx j hlt;have hk3:=KK3.out j hlt;generalize cl[j]=y at h0 h1 hb1 hk3;obtain⟨av,nv,rfl,_⟩:=zY hb1;clear hx hb1;by_cases hy:y.1=3
   ·have hm3:=hk3 hy
    rw[hy] at h0;have ka:za zq2 W5 (wr.alloc (.cells #[.int .i64 3,.slice av y.2.length nv] 45)):=HK.out.alloc _;have nbk:=zh ka E6.out.bx;have NBK:=zz0 nbk;have KA:=zz0 ka;have t3:=cu_3 nbk;have f3:=zb5 nbk 3;have s0:=sg_0 (SB5.out _ ka);have hw1:IntKind.wrap .i64 ((c.next:Int)+(j:Int))=(c.next:Int)+(j:Int):=IntWalk.i64_in _ (by omega)
    have hw2:IntKind.wrap .i64 ((c.next:Int)+(j:Int)+1)=(c.next:Int)+(j:Int)+1:=IntWalk.i64_in _ (by omega)
    have mx1:max (c2.trim:Int) ((c.next:Int)+(j:Int)+1)=(c2.trim:Int):=by omega
    have mx2:¬(c2.trim:Int)<(c.next:Int)+(j:Int)+1:=by omega
    clear nbk ka hm3 hk3
    go_wp2_with fail
    exact⟨⟨j+1,by omega,by first|rfl|go_num,za.setSame KA.out NBK.out rfl⟩,by simp[intOf];omega⟩
   ·have hy2:(y.1==(3:Int))=false:=by simpa using hy
    go_wp2_with fail
    exact⟨⟨j+1,by omega,by first|rfl|go_num,HK.out.alloc _⟩,by simp[intOf];omega⟩
  ·obtain rfl:j=cl.length:=by omega
   obtain⟨F4,t4,l4,n4,d4⟩:=E5.out.st;have KD:Hid (za zq2 W4 wr.drew):=zz0 ((E6.out.kp.trans1 HK.out).drew);have K5D:Hid (za zq2 W5 wr.drew):=zz0 HK.out.drew;obtain⟨wd,hwd⟩:∃wd,wd=wr.drew:=⟨_,rfl⟩;have HWD:Hid (wr.drew=wd):=zz0 hwd.symm;rw[←hwd] at KD K5D;have D4:=zz0 (d4.keep KD.out (fun _ _ e=>e))
   have NB:=zz0 (zh K5D.out E6.out.bx);have XD:=zz0 (XF.out wd (E5.out.kp.trans1 KD.out.ofNon));have x0:=ex_0 XD.out;have n0:=cu_0 NB.out;have n1:=cu_1 NB.out;have n2:=cu_2 NB.out;have n3:=cu_3 NB.out;have n4':=cu_4 NB.out;have p32:=PC.out.p32;have BVT:Hid (wd.heap[b]? = some (VtB q (.slice la ms.length lc))):=zz0 ((E5.out.kp.trans1 KD.out.ofNon).at (zh KX.out H.out.vt) H.out.out.2.1);have SV:=zz0 (SV0.out wd F4 (.slice a6 (c.parts.length+1) c6) D4.out (fun g y=>KD.out.lt (l4 g y)) (by
    have hr:=zc E6.out.row K5D.out (fun _ _ e=>e)
    exact zC.of (by rw[NL.out];exact hr) p32))
   have ST:=zz0 (zcy b q (.slice la ms.length lc) wd BVT.out);have T4:=zz0 (And.intro t4 (And.intro l4 n4));unfold cuV zx at SV;rw[hwd] at x0 n0 n1 n2 n3 n4';clear d4 SV0 hwd t4 l4 n4 p32;have LN:Hid (∀W,za F4 wd W→W.cell? ⟨x,0,none⟩=some (.pointer (some ⟨b,0,none⟩))∧W.cell? ⟨nb,0,none⟩=some (.int .i64 c2.lo)∧W.cell? ⟨nb,1,none⟩=some (.int .i64 c2.next)∧W.cell? ⟨nb,2,none⟩=some (.int .i64 c2.hi)∧W.cell? ⟨nb,3,none⟩=some (.int .i64 c2.trim)∧W.cell? ⟨nb,4,none⟩=some (.slice a6 (c.parts.length+1) c6)):=zz0 (fun W k=>by
    have h1:=k.at NB.out (fun e=>by have:=T4.out.2.1 _ e;have:=E6.out.lo;omega)
    have h2:=k.at XD.out (fun y=>by
     rcases T4.out.1 _ y with u|u
     ·exact H.out.out.1 u
     ·have:=lt_of_block H.out.ex;have:=KX.out.size;omega)
    exact⟨ex_0 h2,cu_0 h1,cu_1 h1,cu_2 h1,cu_3 h1,cu_4 h1⟩)
   have LN1:Hid (wr.drew.cell? ⟨x,0,none⟩=some (.pointer (some ⟨b,0,none⟩))∧wr.drew.cell? ⟨nb,0,none⟩=some (.int .i64 c2.lo)∧wr.drew.cell? ⟨nb,1,none⟩=some (.int .i64 c2.next)∧wr.drew.cell? ⟨nb,2,none⟩=some (.int .i64 c2.hi)∧wr.drew.cell? ⟨nb,3,none⟩=some (.int .i64 c2.trim)∧wr.drew.cell? ⟨nb,4,none⟩=some (.slice a6 (c.parts.length+1) c6)):=zz0 (by rw[HWD.out];exact LN.out wd (za.refl _ _))
   clear x0 n0 n1 n2 n3 n4'
   go_wp2_with fail
   refine wp_region_noPanic ?_;refine wp_region_held_drew (S:=fun W=>W.cell? ⟨x,0,none⟩=some (.pointer (some ⟨b,0,none⟩))∧W.cell? ⟨nb,0,none⟩=some (.int .i64 c2.lo)∧W.cell? ⟨nb,1,none⟩=some (.int .i64 c2.next)∧W.cell? ⟨nb,2,none⟩=some (.int .i64 c2.hi)∧W.cell? ⟨nb,3,none⟩=some (.int .i64 c2.trim)∧W.cell? ⟨nb,4,none⟩=some (.slice a6 (c.parts.length+1) c6)) (by as_aux_lemma=>kernel_rfl) LN1.out (fun hHeld=>?_)
   refine tq 0 ?_;refine tq 1 ?_;refine tq 2 ?_;refine tq 3 ?_;refine tq 5 ?_;rw[HWD.out];clear hHeld;have hHeld:=LN.out wd (za.refl _ _);refine rc (i:=4) (fun K hK=>?_)
   go_simp;refine ST.out.mono ?_;rintro e w8 ⟨rfl,rfl⟩
   go_wp2_with fail
   refine hK.out _ _ (LN.out _ (za.refl _ _)) (fun hHeld6=>?_)
   clear hK K
   try simp only[Act.put,List.setIfInBounds_toArray,List.set_cons_zero,List.set_cons_succ]
   refine rc (i:=6) (fun K hK=>?_)
   go_simp;refine SV.out.mono ?_;rintro e w9 ⟨rfl,t9⟩
   go_wp2_with fail
   refine hK.out _ _ (LN.out w9 t9.1) (fun hHeld7=>?_)
   clear hK K
   try simp only[Act.put,List.setIfInBounds_toArray,List.set_cons_zero,List.set_cons_succ]
   refine tq 7 ?_;refine wpAnyH_done (by as_aux_lemma=>kernel_rfl) ?_ _
   refine NoPanic.normal ?_;obtain⟨F',s',l',d',k',hF'⟩:=zqP H.out KX.out E5.out.kp T4.out.1 T4.out.2.1 KD.out t9;have K9:=zz0 k';have D9:=zz0 d';have S9:=zz0 (And.intro s' (And.intro l' hF'));have N9:=zz0 (t9.1.at NB.out (fun e=>by have:=T4.out.2.1 _ e;have:=E6.out.lo;omega))
   have R9:=zz0 (zc (zc E6.out.row K5D.out (fun _ _ e=>e)) t9.1 (fun g e y=>by have:=(E6.out.row.lt g e).1;have:=T4.out.2.1 _ y;omega))
   have X9:=zz0 (k'.at H.out.ex H.out.out.1);clear s' l' d' k' hF' t9;by_cases hc:code=0
   ·rw[zbH hc]
    obtain⟨e2,e3,e4,e5,e6,f2,f3,f4,f5,f6,xx,kx⟩:=zpw X9.out c2 (.slice a6 (c.parts.length+1) c6);have XX:=zz0 xx;have KX9:=zz0 kx;have m0:=cu_0 N9.out;have m1:=cu_1 N9.out;have m2:=cu_2 N9.out;have m3:=cu_3 N9.out;have m4:=cu_4 N9.out;clear xx kx
    go_wp2_with fail
    go_ret;have hxw:x<w.heap.size:=lt_of_block H.out.ex;have hbw:b<w.heap.size:=lt_of_block H.out.vt;have z1:=KX.out.size;have z2:=E5.out.kp.size;have z3:=K5D.out.size;have hnx:¬F' x:=fun y=>by
     rcases S9.out.2.2 x y with u|u|u
     ·exact H.out.out.1 u
     ·omega
     ·have:=KD.out.size;omega
    refine⟨by first|rfl|(rw[zbH hc];rfl),F',.slice a6 (c.parts.length+1) c6,S9.out.1,K9.out.trans KX9.out (fun _ _ y=>.inl y) (fun g _ e=>.inr e),?_⟩
    refine H.out.turn (K9.out.trans KX9.out (fun _ _ y=>.inl y) (fun g _ e=>.inr e)) S9.out.1 (fun g y=>KX9.out.lt (S9.out.2.1 g y)) (D9.out.keep KX9.out (fun g y e=>by have e':g=x:=e;exact hnx (e' ▸ y))) XX.out ?_ (fun g e=>?_)
    ·rw[NL.out]
     exact zg (zc R9.out KX9.out (fun g e y=>by have e':g=x:=y;have:=(R9.out.lt g e).1;omega)) (by omega)
    ·have h5:=E6.out.row.lt g e
     refine⟨fun y=>?_,by omega,by omega,fun y=>by have:=H.out.lowL g y;omega⟩
     rcases S9.out.2.2 g y with u|u|u
     ·have:=(H.out.low g u).2;omega
     ·omega
     ·omega
   ·rw[zaA hc]
    go_wp2_with fail
    go_ret;refine⟨by first|rfl|(rw[zaA hc];rfl),F',.slice pa c.parts.length pc,S9.out.1,K9.out.mono (fun _ _ y=>.inl y),?_⟩
    refine H.out.turn (K9.out.mono (fun _ _ y=>.inl y)) S9.out.1 S9.out.2.1 D9.out X9.out (zc H.out.row K9.out (fun g y=>(H.out.pvo g y).1)) (fun g y=>?_)
    obtain⟨h1,h2,h3,h4'⟩:=H.out.pvo g y;refine⟨fun z=>?_,h2,h3,h4'⟩
    have:=(H.out.row.lt g y).2;have z1:=KX.out.size;have z2:=KD.out.size;have z3:=E5.out.kp.size;rcases S9.out.2.2 g z with u|u|u
    ·exact h1 u
    ·omega
    ·omega
end
end Go.Proofs.YtpojgmeoaflmoaaGreatDoor
