/- (*Export).part behind a chain, where Add -/
import Derived.Test.YtpojgmeoaflmoaaGreatDoorQ36
set_option linter.unusedVariables false
set_option maxRecDepth 100000
set_option maxHeartbeats 16000000
namespace Go.Proofs.YtpojgmeoaflmoaaGreatDoor
open Go.RowKit Go.Maps
section
attribute [local go_sem ↓] zbB zU zbC zbD zV zbE zab zbK
theorem zoL {F FL T:Nat→Prop}{C:Nat→Cl}{x b lb q p:Nat}{la:Option Addr}{lc:Nat}{ms:List Mf}{c:Cu}{pv:Value}{X:Dk}{L:Lg}(w:World)(h:ExSt F FL w x b lb q p (.slice la ms.length lc) c pv false X L)(hm:zai T w (.slice la ms.length lc) ms)(hi:TF L C X.shown ms c)(ht:TDk X)(hl:Log1 L)(hlt:c.next<c.hi)(code:Int)(hcd:(X.sput (zt ms.length c.parts.length) (zaC c.next (zaF L c.hi c.next))).1=code)(hcode:code≠0) :
 Calls Tryz.prog 119 #[.pointer (some ⟨x,0,none⟩)] w fun e w'=>e = .returned (.iface 89 (.int .i64 code))∧∃F',zq5 F' F w∧za (fun g=>F g∨g=x) w w'∧ExSt F' FL w' x b lb q p (.slice la ms.length lc) c pv false (X.sput (zt ms.length c.parts.length) (zaC c.next (zaF L c.hi c.next))).2 L:=by
 have H:=zz0 h;have RD:=zz0 (zjU w h.ex h.lg hl hlt hi.ok.hi);have h4:c.parts.length≤4:=by have:=hi.part;have:=hi.hi;omega
 have hfw:=hi.few;obtain⟨cl,hcl⟩:∃cl,cl=zaF L c.hi c.next:=⟨_,rfl⟩;have hne:cl≠[]:=by rw[hcl];exact ziQ hlt
 have h64:cl.length≤64:=by rw[hcl];exact zec _ _ _
 have hok:∀y ∈ cl,zcl y:=by rw[hcl];exact zgY hl
 have hln:c.next+cl.length≤1048576:=by rw[hcl,zbw];have:=hi.ok.hi;omega
 rw[←hcl] at RD hcd ⊢;obtain⟨Y,hY⟩:∃Y,Y=(X.sput (zt ms.length c.parts.length) (zaC c.next cl)).2:=⟨_,rfl⟩;rw[←hY];have AD0:Hid (∀W v,za zq2 w W→CsAt W v cl→Calls Tryz.prog 184 #[.pointer (some ⟨b,0,none⟩),.int .i64 ms.length,.int .i64 c.parts.length,.agg #[.int .i64 c.next,v]] W fun e w'=>e = .returned (.tuple #[.agg zrb,.iface 89 (.int .i64 code)])∧zn F W q p Y w'):=zz0 (fun W v k hv=>by
  have hrl:=zfC hok h64 (show c.next≤1048576 by omega)
  have hsl:=zeb hok h64 (show c.next≤1048576 by omega)
  rw[hY];exact zqt F b q p ms.length c.parts.length c.next la lc v cl X _ _ _ W (zh k H.out.vt) (H.out.st.keep k (fun _ _ e=>e)) (hi.lim ht) (by omega) (by omega) (by omega) (fun g x=>k.lt (H.out.low g x).2) (by omega) (by omega) hv hne h64 hok hln (by omega) (by omega) (H.out.lay.keepNon k).kon (H.out.lay.keepNon k).frs H.out.out.2.1 code hcd hcode)
 have CH0:Hid (∀W,za zq2 w W→Calls Tryz.prog 9 #[.pointer (some ⟨b,0,none⟩)] W fun e w'=>∃va vc,e = .returned (.slice va ms.length vc)∧za zq2 W w'):=zz0 (fun W k=>by
  refine(zar T b q _ ms W (zh k H.out.vt) (hm.keepNon k) hi.b.p32 (by omega)).mono ?_
  rintro e w' ⟨v',rfl,k',va,vc,rfl,_⟩;exact⟨va,vc,rfl,k'⟩)
 obtain⟨pa,pc,rfl,_,_⟩:=zb h.row;have HI:=zz0 hi;clear h hm hi ht hcd hcl hY hl hlt
 go_enter Tryz.func119,Tryz.ntmps119
 go_wp2_with(go_at_call 183;refine RD.out.mono ?_;rintro e w1 ⟨v1,rfl,k1,xs,o1,q1⟩;obtain⟨a1,c1,rfl,_,_⟩:=zb o1;have K1:=zz0 k1;have O1:=zz0 o1;have Q1:=zz0 q1;clear k1 o1 q1)
 obtain⟨WX,hWX⟩:∃WX,WX=(w1.alloc (SgB c.next (.slice a1 cl.length c1))).drew:=⟨_,rfl⟩;have hHX:=hWX;have KX:Hid (za zq2 w WX):=zz0 (by rw[hWX];exact(K1.out.alloc _).drew)
 have SX:Hid (WX.heap[w1.heap.size]? = some (SgB c.next (.slice a1 cl.length c1))):=zz0 (by rw[hWX];exact ze w1 _)
 have CSX:Hid (∀W,za zq2 WX W→CsAt W (.slice a1 cl.length c1) cl):=zz0 (fun W k=>by
  have k1:za zq2 w1 WX:=by rw[hWX];exact((za.refl _ _).alloc _).drew
  exact CsAt.of (zc O1.out (k1.trans1 k) (fun _ _ e=>e)) (Q1.out.keep (S':=zq2) (k1.trans1 k) (fun _ _ e=>e) (fun _ _ e=>e)))
 have HF:Hid (∀g,F g→g<WX.heap.size):=zz0 (fun g y=>KX.out.lt (H.out.low g y).2)
 have LS:Hid (∀W,za F WX W→W.cell? ⟨x,0,none⟩=some (.pointer (some ⟨b,0,none⟩))∧W.cell? ⟨x,6,none⟩=some (.slice pa c.parts.length pc)∧W.cell? ⟨w1.heap.size,0,none⟩=some (.int .i64 c.next)∧W.cell? ⟨w1.heap.size,1,none⟩=some (.slice a1 cl.length c1)):=zz0 (fun W k=>by
  have hxx:=k.at (zh KX.out H.out.ex) H.out.out.1;have hss:=k.at SX.out (fun y=>by have:=(H.out.low _ y).2;have:=K1.out.size;omega)
  exact⟨ex_0 hxx,ex_6 hxx,sg_0 hss,sg_1 hss⟩)
 have CH:Hid (∀W,za zq2 WX W→Calls Tryz.prog 9 #[.pointer (some ⟨b,0,none⟩)] W fun e w'=>∃va vc,e = .returned (.slice va ms.length vc)∧za zq2 W w'):=zz0 (fun W k=>CH0.out W (KX.out.trans1 k))
 have AD:=zz0 (fun W (k:za zq2 WX W)=>AD0.out W _ (KX.out.trans1 k) (CSX.out W k))
 have HW:Hid ((w1.alloc (.cells #[.int .i64 c.next,.slice a1 cl.length c1] 263)).drew=WX):=zz0 hWX.symm;have LS0:=LS.out WX (za.refl _ _);rw[hWX] at LS0;have LS1:=zz0 LS0;clear AD0 CH0 hWX hHX LS0;dsimp only[zrb] at AD;refine(fun(FIN:Hid ?T)=>?main) (zz0 ?fin)
 case' main=>refine wp_region_noPanic ?_
 refine wp_region_held_drew (S:=fun W=>W.cell? ⟨x,0,none⟩=some (.pointer (some ⟨b,0,none⟩))∧W.cell? ⟨x,6,none⟩=some (.slice pa c.parts.length pc)∧W.cell? ⟨w1.heap.size,0,none⟩=some (.int .i64 c.next)∧W.cell? ⟨w1.heap.size,1,none⟩=some (.slice a1 cl.length c1)) (by as_aux_lemma=>kernel_rfl) LS1.out (fun hHeld=>?_)
 refine tq 0 ?_;refine tq 1 ?_;refine tq 2 ?_;refine tq 3 ?_;refine tq 4 ?_;refine tq 5 ?_;refine tq 6 ?_;refine tq 7 ?_;refine tq 10 ?_;refine tq 11 ?_;refine tq 12 ?_;refine tq 13 ?_;refine tq 14 ?_;refine tq 15 ?_;refine tq 16 ?_;rw[HW.out];clear hHeld;have hHeld:=LS.out WX (za.refl _ _);refine wpAnyH_ready (rs:=[8,21]) (by as_aux_lemma=>kernel_rfl) (by simp) ?_
 refine AllReadyH.cons (by simp only[List.getElem?_toArray,List.getElem?_cons_succ,List.getElem?_cons_zero];rfl) (fun K hK=>?arm16_8) (AllReadyH.cons (by simp only[List.getElem?_toArray,List.getElem?_cons_succ,List.getElem?_cons_zero];rfl) (fun K hK=>?arm16_21) AllReadyH.nil)
 case' arm16_8 =>
  go_simp;refine(CH.out WX (za.refl zq2 WX)).mono ?_;rintro e w17 ⟨va17,vc17,rfl,t17⟩;have k17:=zz0 (((za.refl zq2 WX)).trans1 t17);clear t17
  go_wp2_with fail
  refine hK.out _ _ (LS.out w17 k17.out.ofNon) (fun hHeld17=>?_)
  clear hK K
  try simp only[Act.put,List.setIfInBounds_toArray,List.set_cons_zero,List.set_cons_succ]
  refine tq 9 ?_;refine wpAnyH_ready (rs:=[17,21]) (by as_aux_lemma=>kernel_rfl) (by simp) ?_
  refine AllReadyH.cons (by simp only[List.getElem?_toArray,List.getElem?_cons_succ,List.getElem?_cons_zero];rfl) (fun K hK=>?arm19_17) (AllReadyH.cons (by simp only[List.getElem?_toArray,List.getElem?_cons_succ,List.getElem?_cons_zero];rfl) (fun K hK=>?arm19_21) AllReadyH.nil)
  case' arm19_17 =>
   go_simp;refine(AD.out w17 k17.out).mono ?_;rintro e w20 ⟨rfl,t20⟩;have T20:=zz0 t20;have kf20:Hid (za F WX w20):=zz0 ((k17.out).ofNon.trans t20.1 (fun _ _ x=>x) (fun _ _ x=>x))
   clear t20
   go_wp2_with fail
   refine hK.out _ _ (LS.out w20 kf20.out) (fun hHeld20=>?_)
   clear hK K
   try simp only[Act.put,List.setIfInBounds_toArray,List.set_cons_zero,List.set_cons_succ]
   refine tq 18 ?_;refine tq 19 ?_;refine tq 20 ?_;refine rc (i:=21) (fun K hK=>?_)
   go_simp;have hst:=zkJ w20;have E:=zz0 (zmg (o:=(.cells zrb 125 (0,0))) k17.out T20.out HF.out);dsimp only[zrb,zq4] at hst;refine hK.out _ _ (LS.out _ (kf20.out.alloc _)) (fun hHeld24=>?_)
   clear hK K
   try simp only[Act.put,List.setIfInBounds_toArray,List.set_cons_zero,List.set_cons_succ]
   refine rc (i:=22) (fun K hK=>?_)
   go_simp;refine hK.out _ _ (LS.out _ (kf20.out.alloc _)) (fun hHeld25=>?_)
   clear hK K
   try simp only[Act.put,List.setIfInBounds_toArray,List.set_cons_zero,List.set_cons_succ]
   refine tq 23 ?_;refine wpAnyH_done (by as_aux_lemma=>kernel_rfl) ?_ _
   refine NoPanic.normal ?_;have e0:=E.out;dsimp only[zrb] at e0;generalize (w20.alloc _)=W4 at e0 ⊢;generalize w20.heap.size=b5 at e0 ⊢;have E5:=zz0 e0;clear e0;revert va17 vc17 W4 b5;exact FIN.out
  case' arm19_21 =>
   go_simp;have k27:Hid (za zq2 WX (w17.alloc (.cells zrb 125))):=zz0 ((k17.out).alloc _);have z27:=zz0 (ze w17 (.cells zrb 125 (0,0)));have y27:Hid (WX.heap.size≤w17.heap.size):=zz0 ((k17.out).size);obtain⟨v27,hv27⟩:∃v27,v27=w17.alloc (.cells zrb 125):=⟨_,rfl⟩;rw[←hv27] at k27 z27;dsimp only[zrb] at hv27
   try rw[←hv27]
   clear hv27;refine hK.out _ _ (LS.out v27 k27.out.ofNon) (fun hHeld27=>?_)
   clear hK K
   try simp only[Act.put,List.setIfInBounds_toArray,List.set_cons_zero,List.set_cons_succ]
   refine rc (i:=17) (fun K hK=>?_)
   go_simp;refine(AD.out v27 k27.out).mono ?_;rintro e w28 ⟨rfl,t28⟩;have T28:=zz0 t28;have kf28:Hid (za F WX w28):=zz0 ((k27.out).ofNon.trans t28.1 (fun _ _ x=>x) (fun _ _ x=>x))
   clear t28
   go_wp2_with fail
   refine hK.out _ _ (LS.out w28 kf28.out) (fun hHeld28=>?_)
   clear hK K
   try simp only[Act.put,List.setIfInBounds_toArray,List.set_cons_zero,List.set_cons_succ]
   refine tq 18 ?_;refine tq 19 ?_;refine tq 20 ?_;refine rc (i:=22) (fun K hK=>?_)
   have E2:=zgS (o:=(.cells zrb 125 (0,0))) (arr:=zrb) rfl k27.out z27.out y27.out T28.out HF.out;have hst:=zdY w28 w17.heap.size E2.1;have E:=zz0 E2.2;clear E2;dsimp only[zrb] at hst;go_simp;refine hK.out _ _ (LS.out _ E.out.kp) (fun hHeld32=>?_)
   clear hK K
   try simp only[Act.put,List.setIfInBounds_toArray,List.set_cons_zero,List.set_cons_succ]
   refine tq 23 ?_;refine wpAnyH_done (by as_aux_lemma=>kernel_rfl) ?_ _
   refine NoPanic.normal ?_;have e0:=E.out;dsimp only[zrb] at e0;generalize (w28.setRow _ _)=W4 at e0 ⊢;generalize w17.heap.size=b5 at e0 ⊢;have E5:=zz0 e0;clear e0;revert va17 vc17 W4 b5;exact FIN.out
 case' arm16_21 =>
  go_simp;have k34:Hid (za zq2 WX (WX.alloc (.cells zrb 125))):=zz0 (((za.refl zq2 WX)).alloc _);have z34:=zz0 (ze WX (.cells zrb 125 (0,0)));have y34:Hid (WX.heap.size≤WX.heap.size):=zz0 (((za.refl zq2 WX)).size);obtain⟨v34,hv34⟩:∃v34,v34=WX.alloc (.cells zrb 125):=⟨_,rfl⟩;rw[←hv34] at k34 z34;dsimp only[zrb] at hv34
  try rw[←hv34]
  clear hv34;refine hK.out _ _ (LS.out v34 k34.out.ofNon) (fun hHeld34=>?_)
  clear hK K
  try simp only[Act.put,List.setIfInBounds_toArray,List.set_cons_zero,List.set_cons_succ]
  refine rc (i:=8) (fun K hK=>?_)
  go_simp;refine(CH.out v34 k34.out).mono ?_;rintro e w35 ⟨va35,vc35,rfl,t35⟩;have k35:=zz0 ((k34.out).trans1 t35);have z35:=zz0 (zh t35 z34.out);clear t35
  go_wp2_with fail
  refine hK.out _ _ (LS.out w35 k35.out.ofNon) (fun hHeld35=>?_)
  clear hK K
  try simp only[Act.put,List.setIfInBounds_toArray,List.set_cons_zero,List.set_cons_succ]
  refine tq 9 ?_;refine rc (i:=17) (fun K hK=>?_)
  go_simp;refine(AD.out w35 k35.out).mono ?_;rintro e w37 ⟨rfl,t37⟩;have T37:=zz0 t37;have kf37:Hid (za F WX w37):=zz0 ((k35.out).ofNon.trans t37.1 (fun _ _ x=>x) (fun _ _ x=>x))
  clear t37
  go_wp2_with fail
  refine hK.out _ _ (LS.out w37 kf37.out) (fun hHeld37=>?_)
  clear hK K
  try simp only[Act.put,List.setIfInBounds_toArray,List.set_cons_zero,List.set_cons_succ]
  refine tq 18 ?_;refine tq 19 ?_;refine tq 20 ?_;refine rc (i:=22) (fun K hK=>?_)
  have E2:=zgS (o:=(.cells zrb 125 (0,0))) (arr:=zrb) rfl k35.out z35.out y34.out T37.out HF.out;have hst:=zdY w37 WX.heap.size E2.1;have E:=zz0 E2.2;clear E2;dsimp only[zrb] at hst;go_simp;refine hK.out _ _ (LS.out _ E.out.kp) (fun hHeld41=>?_)
  clear hK K
  try simp only[Act.put,List.setIfInBounds_toArray,List.set_cons_zero,List.set_cons_succ]
  refine tq 23 ?_;refine wpAnyH_done (by as_aux_lemma=>kernel_rfl) ?_ _
  refine NoPanic.normal ?_;have e0:=E.out;dsimp only[zrb] at e0;generalize (w37.setRow _ _)=W4 at e0 ⊢;generalize WX.heap.size=b5 at e0 ⊢;have E5:=zz0 e0;clear e0;revert va35 vc35 W4 b5;exact FIN.out
 intro va0 vc0 W4 b5 E5
 go_wp2_with fail
 go_ret;obtain⟨F',s1,s2,s3,_⟩:=zpQ H.out KX.out E5.out;exact⟨rfl,F',s1,s2,s3⟩
end
end Go.Proofs.YtpojgmeoaflmoaaGreatDoor
