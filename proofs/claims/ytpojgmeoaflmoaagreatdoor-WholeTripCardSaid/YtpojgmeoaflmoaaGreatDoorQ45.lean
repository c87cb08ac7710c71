/- (*Export).commit behind a chain: walked  -/
import Derived.Test.YtpojgmeoaflmoaaGreatDoorQ36
import Derived.Test.YtpojgmeoaflmoaaGreatDoorQ44
set_option linter.unusedVariables false
set_option maxRecDepth 100000
set_option maxHeartbeats 16000000
namespace Go.Proofs.YtpojgmeoaflmoaaGreatDoor
open Go.RowKit Go.Maps
theorem zeP (T:Nat→Prop)(ms:List Mf)(a:Option Addr)(c lo trim:Nat)(pv:Value)(ps:List Pt)(w:World)(h:zai T w (.slice a ms.length c) ms)(hlen:ms.length<90)(och:okCh ms)(hlo:lo=zbr ms)(htr0:(zT ms).trim≤trim)(hK:Kon w)(hF:Frs w)(hp:zC w pv ps)(h32:zbI ps)(h64:ps.length≤64)(hok:okPts lo ps)(hhi:zp lo ps≤1048576)(htr:trim≤1048576) :
 Calls Tryz.prog 186 #[.slice a ms.length c,.int .i64 lo,.int .i64 trim,pv] w fun e w'=>∃v',e = .returned (.tuple #[zq7 (nxM ms.length lo (zp lo ps) trim (aheadD ms) ps) v',.nilIface])∧za zq2 w w'∧w'.ownsRow w.heap.size 125 35 v' ps.length (zaP ps):=by
 by_cases hne:ms = []
 ·subst hne
  exact zj1 a c lo trim pv ps w hp h32 h64 hok hhi htr
 ·have e:aheadD ms=digM (zT ms):=by unfold aheadD;rw[if_neg hne]
  rw[e];exact zj0 T ms a c lo trim pv ps w h hne hlen och hlo htr0 hK hF hp h32 h64 hok hhi htr
theorem zai.lowN {T:Nat→Prop}{w:World}{v:Value}{ms:List Mf}(h:zai T w v ms)(hne:∀m ∈ ms,0<m.parts.length∧zbI m.parts)(h0:ms≠[]):zai (fun g=>T g∧g<w.heap.size) w v ms:=by
 obtain⟨a,c,e,hc,ha,hx⟩:=h;refine⟨a,c,e,hc,fun ad ead=>?_,fun j m hj=>?_⟩
 ·have hl:0<ms.length:=List.length_pos_iff.2 h0
  obtain⟨hp,g,off,pa,pc,e2,hpt,hT,hcell⟩:=hx 0 ms[0] (List.getElem?_eq_getElem hl);have hg:g<w.heap.size:=zf6 (hcell 36 _ (zhA _ _ hp));rw[e2] at ead;injection ead with ead
  subst ead;obtain⟨g',off',e3,t⟩:=ha ⟨g,off,none⟩ e2;injection e3 with e3 e4
  subst e3;subst e4;exact⟨g,off,rfl,t,hg⟩
 ·obtain⟨hp,g,off,pa,pc,e2,hpt,hT,hcell⟩:=hx j m hj
  obtain⟨hpos,h32⟩:=hne m (List.mem_of_getElem? hj);refine⟨hp,g,off,pa,pc,e2,hpt,fun g' eg=>⟨hT g' eg,?_⟩,hcell⟩
  obtain⟨a1,c1,e3,_,_,hy⟩:=hpt;injection e3 with e3 _ e4
  subst e3;obtain⟨g1,o1,e5,hc1⟩:=hy 0 m.parts[0] (List.getElem?_eq_getElem hpos);subst e5;have hl:(zq8 m.parts[0]).length=35:=zbc (h32 _ (List.getElem_mem _));have hb:g1<w.heap.size:=zf6 (hc1 34 _ (List.getElem?_eq_getElem (by omega)))
  have:g1=g':=by
   simp[Value.ownBlock] at eg;omega
  rw[←this];exact hb
section
attribute [local go_sem ↓] zbB zU zbC zbD zV zbE zab zbK
end
section
attribute [local go_sem ↓] zbB zU zbC zbD zV zbE zab zbK
theorem zgi {F FL TL:Nat→Prop}{C:Nat→Cl}{x b lb q p:Nat}{la:Option Addr}{lc:Nat}{ms:List Mf}{c:Cu}{pv:Value}{X:Dk}{L:Lg}(w:World)(h:ExSt F FL w x b lb q p (.slice la ms.length lc) c pv false X L)(hms:zai TL w (.slice la ms.length lc) ms)(hTL:∀g,TL g→¬F g∧g≠b∧g≠x∧g<w.heap.size)(hi:TF L C X.shown ms c)(ht:TDk X)(hl:Log1 L)(hd:c.next=c.hi)(Y:Dk)(hY:X.sput (zw ms.length) (zb2 (exT ms c))=(0,Y))(hYm:Y.mild)(hYp:IsMap Y.shown)(code:Int)(hdel:(Y.sdel zx).1=code)(hcode:code≠4) :
 Calls Tryz.prog 120 #[.pointer (some ⟨x,0,none⟩)] w fun e w'=>e = .returned (zbU code)∧TmOut F FL TL w x b lb q p ms c pv (Y.sdel zx).2 L w':=by
 have H:=zz0 h;have HI:=zz0 hi;have h4:c.parts.length≤4:=by have:=hi.part;have:=hi.hi;omega
 have hfw:=hi.few;have hok:=zji hi hd;have hfol0:=zil hi;obtain⟨m,hm⟩:∃m,m=exT ms c:=⟨_,rfl⟩;have hm':nxM ms.length c.lo (zp c.lo c.parts) c.trim (aheadD ms) c.parts=m:=by rw[hm,exT,hok.2]
 have hmp:m.parts=c.parts:=by rw[hm];rfl
 have hln:=zgw hi hd;have OKM:=zz0 hok.1;rw[←hm] at OKM hln hY hfol0;have hmild:=hYm;have hmap:=hYp;have hcd:=hY;have HNE:Hid (∀y ∈ ms ++ [m],0<y.parts.length∧zbI y.parts):=zz0 (fun y hy=>by
  rcases List.mem_append.1 hy with u|u
  ·exact⟨List.length_pos_iff.2 (hi.b.four y u).2,(hi.b.p32 y u).1⟩
  ·rw[List.mem_singleton.1 u,hmp]
   exact⟨by have:=hi.stand;have:=hi.pos;omega,hi.ok.p32⟩)
 have M32:Hid (m.prev.length=32):=zz0 OKM.out.prev;have P32:Hid (zbI m.parts):=zz0 (by rw[hmp];exact hi.ok.p32)
 have NX0:Hid (∀W va vc T' v,za zq2 w W→zai T' W (.slice va ms.length vc) ms→zC W v c.parts→Calls Tryz.prog 186 #[.slice va ms.length vc,.int .i64 c.lo,.int .i64 c.trim,v] W fun e w'=>∃v',e = .returned (.tuple #[zq7 m v',.nilIface])∧za zq2 W w'∧w'.ownsRow W.heap.size 125 35 v' m.parts.length (zaP m.parts)):=zz0 (fun W va vc T' v k hq hv=>by
  have:=zeP T' ms va vc c.lo c.trim v c.parts W hq (by omega) hi.b.ok hi.lo hi.last (H.out.lay.keepNon k).kon (H.out.lay.keepNon k).frs hv hi.ok.p32 (by omega) hi.ok.parts (by rw[hi.ok.stop];have:=hi.ok.le;have:=hi.ok.hi;omega) hi.ok.trim
  rw[hm',←hmp] at this;exact this)
 have CM0:Hid (∀W v,za zq2 w W→zC W v m.parts→Calls Tryz.prog 187 #[.pointer (some ⟨b,0,none⟩),zq7 m v] W fun e w'=>e = .returned .nilIface∧za (fun g=>F g∨g=b) W w'∧∃v3 T F',zq5 F' F W∧¬F' b∧(∀g,T g→¬F' g∧g≠b∧(TL g∨W.heap.size≤g))∧zai T w' v3 (ms ++ [m])∧zk F' w' q p Y∧w'.heap[b]? = some (VtB q v3)):=zz0 (fun W v k hv=>by
  have hnum:m.num=ms.length:=by rw[hm];rfl
  have:=zm6 F TL b q p ms la lc m v X _ _ _ W (zh k H.out.vt) (hms.keepNon k) (fun g y=>⟨(hTL g y).1,(hTL g y).2.1,k.lt (hTL g y).2.2.2⟩) (H.out.st.keep k (fun _ _ e=>e)) (fun g y=>⟨(H.out.low g y).1,k.lt (H.out.low g y).2⟩) H.out.out.2.1 (hi.lim ht) (by omega) (by omega) (by omega) ht.calm.down (H.out.lay.keepNon k) hv OKM.out hnum (by omega) hi.b.ok hfol0 (by rw[hmp];omega) P32.out (by rw[hmp];exact(hi.segs hl)) (by omega) (by rw[hcd])
  rw[hcd] at this;exact this)
 have CH:Hid (∀W,za zq2 w W→Calls Tryz.prog 9 #[.pointer (some ⟨b,0,none⟩)] W fun e w'=>∃va vc,e = .returned (.slice va ms.length vc)∧za zq2 W w'∧zai (fun g=>W.heap.size≤g∧g<w'.heap.size) w' (.slice va ms.length vc) ms):=zz0 (fun W k=>by
  refine(zar TL b q _ ms W (zh k H.out.vt) (hms.keepNon k) hi.b.p32 (by omega)).mono ?_
  rintro e w' ⟨v',rfl,k',hq⟩;obtain⟨va,vc,rfl,_⟩:=id hq;exact⟨va,vc,rfl,k',hq⟩)
 obtain⟨pa,pc,rfl,_,_⟩:=zb h.row;have NX:Hid (∀W va vc T',za zq2 w W→zai T' W (.slice va ms.length vc) ms→Calls Tryz.prog 186 #[.slice va ms.length vc,.int .i64 c.lo,.int .i64 c.trim,.slice pa c.parts.length pc] W fun e w'=>∃v',e = .returned (.tuple #[zq7 m v',.nilIface])∧za zq2 W w'∧w'.ownsRow W.heap.size 125 35 v' m.parts.length (zaP m.parts)):=zz0 (fun W va vc T' k hq=>NX0.out W va vc T' _ k hq (zC.of (zc H.out.row k (fun _ _ e=>e)) HI.out.ok.p32))
 have LSw:Hid (∀W,za zq2 w W→W.cell? ⟨x,0,none⟩=some (.pointer (some ⟨b,0,none⟩))∧W.cell? ⟨x,2,none⟩=some (.int .i64 c.lo)∧W.cell? ⟨x,5,none⟩=some (.int .i64 c.trim)∧W.cell? ⟨x,6,none⟩=some (.slice pa c.parts.length pc)):=zz0 (fun W k=>by
  have hxx:=zh k H.out.ex;exact⟨ex_0 hxx,ex_2 hxx,ex_5 hxx,ex_6 hxx⟩)
 obtain⟨WX,hWX⟩:∃WX,WX=w.drew:=⟨_,rfl⟩;have KX:Hid (za zq2 w WX):=zz0 (by rw[hWX];exact(za.refl _ _).drew)
 have HW:Hid (w.drew=WX):=zz0 hWX.symm;have LS:=zz0 (fun W (k:za zq2 WX W)=>LSw.out W (KX.out.trans1 k))
 have LS1:=zz0 (LSw.out w.drew (za.refl _ _).drew);have LZ:Hid (WX.heap.size≤WX.heap.size):=zz0 (Nat.le_refl _);have CH:=zz0 (fun W (k:za zq2 WX W)=>CH.out W (KX.out.trans1 k))
 have NX:=zz0 (fun W va vc T' (k:za zq2 WX W) hq=>NX.out W va vc T' (KX.out.trans1 k) hq)
 have HMP:Hid (m.parts=c.parts):=zz0 hmp;have HMX:Hid (m=exT ms c):=zz0 hm;have HTL:=zz0 hTL;have CL0:Hid (∀W F',zk F' W q p Y→Calls Tryz.prog 70 #[.pointer (some ⟨q,0,none⟩),.string ⟨zx.toArray⟩] W fun e w'=>e = .returned (zbU code)∧zn F' W q p (Y.sdel zx).2 w'):=zz0 (fun W F' d=>by
  refine(zdv F' q p zx Y W d hmild hmap zal).mono ?_;rintro e w' ⟨rfl,t⟩;rw[hdel];exact⟨by first|rfl|(rw[if_neg hcode]),t⟩)
 clear h hi ht hl hYm hYp hm hm' hok hln hWX LSw NX0 hmp hcd hmild hmap hdel hfol0 hY hms hTL
 go_enter Tryz.func120,Tryz.ntmps120
 go_wp2_with fail
 refine(fun(FIN:Hid ?T)=>?main) (zz0 ?fin)
 case' main=>refine wp_region_noPanic ?_
 refine wp_region_held_drew (S:=fun W=>W.cell? ⟨x,0,none⟩=some (.pointer (some ⟨b,0,none⟩))∧W.cell? ⟨x,2,none⟩=some (.int .i64 c.lo)∧W.cell? ⟨x,5,none⟩=some (.int .i64 c.trim)∧W.cell? ⟨x,6,none⟩=some (.slice pa c.parts.length pc)) (by as_aux_lemma=>kernel_rfl) LS1.out (fun hHeld=>?_)
 refine tq 0 ?_;refine tq 1 ?_;refine tq 2 ?_;refine tq 3 ?_;refine tq 5 ?_;refine tq 6 ?_;refine tq 7 ?_;refine tq 8 ?_;refine tq 9 ?_;refine tq 10 ?_;refine tq 11 ?_;refine tq 12 ?_;refine tq 13 ?_;refine tq 14 ?_;refine tq 15 ?_;refine tq 16 ?_;refine tq 17 ?_;refine tq 18 ?_;refine tq 19 ?_;rw[HW.out];clear hHeld;have hHeld:=LS.out WX (za.refl _ _);refine wpAnyH_ready (rs:=[4,24]) (by as_aux_lemma=>kernel_rfl) (by simp) ?_
 refine AllReadyH.cons (by simp only[List.getElem?_toArray,List.getElem?_cons_succ,List.getElem?_cons_zero];rfl) (fun K hK=>?arm20_4) (AllReadyH.cons (by simp only[List.getElem?_toArray,List.getElem?_cons_succ,List.getElem?_cons_zero];rfl) (fun K hK=>?arm20_24) AllReadyH.nil)
 case' arm20_4 =>
  go_simp;refine(CH.out WX (za.refl zq2 WX)).mono ?_;rintro e w21 ⟨va21,vc21,rfl,t21,m21⟩;have M21:=zz0 m21;clear m21;have k21:=zz0 (((za.refl zq2 WX)).trans1 t21);clear t21
  go_wp2_with fail
  refine hK.out _ _ (LS.out w21 k21.out) (fun hHeld21=>?_)
  clear hK K
  try simp only[Act.put,List.setIfInBounds_toArray,List.set_cons_zero,List.set_cons_succ]
  refine wpAnyH_ready (rs:=[20,24]) (by as_aux_lemma=>kernel_rfl) (by simp) ?_
  refine AllReadyH.cons (by simp only[List.getElem?_toArray,List.getElem?_cons_succ,List.getElem?_cons_zero];rfl) (fun K hK=>?arm22_20) (AllReadyH.cons (by simp only[List.getElem?_toArray,List.getElem?_cons_succ,List.getElem?_cons_zero];rfl) (fun K hK=>?arm22_24) AllReadyH.nil)
  case' arm22_20 =>
   go_simp;refine(NX.out w21 va21 vc21 _ k21.out M21.out).mono ?_;rintro e w23 ⟨v6,rfl,t23,o23⟩;obtain⟨a6,c6,rfl⟩:∃a c',v6 = .slice a m.parts.length c':=by obtain⟨a,c',e,_,_⟩:=zb o23;exact⟨a,c',e⟩
   have k23:=zz0 ((k21.out).trans1 t23);have O23:=zz0 o23;clear t23 o23
   go_wp2_with fail
   refine hK.out _ _ (LS.out w23 k23.out) (fun hHeld23=>?_)
   clear hK K
   try simp only[Act.put,List.setIfInBounds_toArray,List.set_cons_zero,List.set_cons_succ]
   refine tq 21 ?_;refine tq 22 ?_;refine tq 23 ?_;refine rc (i:=24) (fun K hK=>?_)
   go_simp;have hst:=zaZ w23 m a6 m.parts.length c6 M32.out;dsimp only[zra,zq1] at hst;have E:=zz0 (zlc (m:=m) k23.out O23.out (k21.out).size);refine hK.out _ _ (LS.out _ ((k23.out).alloc _)) (fun hHeld27=>?_)
   clear hK K
   try simp only[Act.put,List.setIfInBounds_toArray,List.set_cons_zero,List.set_cons_succ]
   refine rc (i:=25) (fun K hK=>?_)
   go_simp;refine hK.out _ _ (LS.out _ ((k23.out).alloc _)) (fun hHeld28=>?_)
   clear hK K
   try simp only[Act.put,List.setIfInBounds_toArray,List.set_cons_zero,List.set_cons_succ]
   refine tq 26 ?_;refine wpAnyH_done (by as_aux_lemma=>kernel_rfl) ?_ _
   refine NoPanic.normal ?_;have e0:=E.out;dsimp only[zq1] at e0;generalize (w23.alloc _)=W5 at e0 ⊢;generalize w23.heap.size=nb at e0 ⊢;have E6:=zz0 e0
   try clear hst
   clear e0 E;clear O23
   try clear hHeld21
   try clear hHeld23
   try clear hHeld27
   try clear hHeld28
   clear M21;revert va21 vc21 a6 c6 W5 nb;exact FIN.out
  case' arm22_24 =>
   go_simp;have k30:Hid (za zq2 WX (w21.alloc (.cells zra 54))):=zz0 ((k21.out).alloc _);have z30:Hid ((w21.alloc (.cells zra 54)).heap[w21.heap.size]? = some (.cells zra 54 (0,0))):=zz0 (ze w21 _);have y30:Hid (WX.heap.size≤w21.heap.size):=zz0 ((k21.out).size);have l30:Hid (w21.heap.size<(w21.alloc (.cells zra 54)).heap.size):=zz0 (lt_of_block z30.out);have M30:=zz0 ((M21.out).keepNon ((za.refl zq2 w21).alloc (.cells zra 54)));obtain⟨v30,hv30⟩:∃v30,v30=w21.alloc (.cells zra 54):=⟨_,rfl⟩;rw[←hv30] at k30 z30 l30 M30;dsimp only[zra] at hv30
   try rw[←hv30]
   clear hv30;refine hK.out _ _ (LS.out v30 k30.out) (fun hHeld30=>?_)
   clear hK K
   try simp only[Act.put,List.setIfInBounds_toArray,List.set_cons_zero,List.set_cons_succ]
   refine rc (i:=20) (fun K hK=>?_)
   go_simp;refine(NX.out v30 va21 vc21 _ k30.out M30.out).mono ?_;rintro e w31 ⟨v6,rfl,t31,o31⟩;obtain⟨a6,c6,rfl⟩:∃a c',v6 = .slice a m.parts.length c':=by obtain⟨a,c',e,_,_⟩:=zb o31;exact⟨a,c',e⟩
   have k31:=zz0 ((k30.out).trans1 t31);have O31:=zz0 o31;have z31:=zz0 (zh t31 z30.out);clear t31 o31
   go_wp2_with fail
   refine hK.out _ _ (LS.out w31 k31.out) (fun hHeld31=>?_)
   clear hK K
   try simp only[Act.put,List.setIfInBounds_toArray,List.set_cons_zero,List.set_cons_succ]
   refine tq 21 ?_;refine tq 22 ?_;refine tq 23 ?_;refine rc (i:=25) (fun K hK=>?_)
   have hst:=zax w31 w21.heap.size m a6 m.parts.length c6 zra M32.out rfl z31.out;have E:=zz0 (zgp (m:=m) k31.out z31.out y30.out O31.out l30.out);go_simp;refine hK.out _ _ (LS.out _ E.out.kp) (fun hHeld35=>?_)
   clear hK K
   try simp only[Act.put,List.setIfInBounds_toArray,List.set_cons_zero,List.set_cons_succ]
   refine tq 26 ?_;refine wpAnyH_done (by as_aux_lemma=>kernel_rfl) ?_ _
   refine NoPanic.normal ?_;have e0:=E.out;generalize (w31.setRow _ _)=W5 at e0 ⊢;generalize w21.heap.size=nb at e0 ⊢;have E6:=zz0 e0
   try clear hst
   clear e0 E;clear O31
   try clear hHeld21
   try clear hHeld30
   try clear hHeld31
   try clear hHeld35
   clear M21 M30;revert va21 vc21 a6 c6 W5 nb;exact FIN.out
 case' arm20_24 =>
  go_simp;have k37:Hid (za zq2 WX (WX.alloc (.cells zra 54))):=zz0 (((za.refl zq2 WX)).alloc _);have z37:Hid ((WX.alloc (.cells zra 54)).heap[WX.heap.size]? = some (.cells zra 54 (0,0))):=zz0 (ze WX _);have y37:Hid (WX.heap.size≤WX.heap.size):=zz0 (((za.refl zq2 WX)).size);have l37:Hid (WX.heap.size<(WX.alloc (.cells zra 54)).heap.size):=zz0 (lt_of_block z37.out);obtain⟨v37,hv37⟩:∃v37,v37=WX.alloc (.cells zra 54):=⟨_,rfl⟩;rw[←hv37] at k37 z37 l37;dsimp only[zra] at hv37
  try rw[←hv37]
  clear hv37;refine hK.out _ _ (LS.out v37 k37.out) (fun hHeld37=>?_)
  clear hK K
  try simp only[Act.put,List.setIfInBounds_toArray,List.set_cons_zero,List.set_cons_succ]
  refine rc (i:=4) (fun K hK=>?_)
  go_simp;refine(CH.out v37 k37.out).mono ?_;rintro e w38 ⟨va38,vc38,rfl,t38,m38⟩;have M38:=zz0 m38;clear m38;have k38:=zz0 ((k37.out).trans1 t38);have z38:=zz0 (zh t38 z37.out);have l38:=zz0 (Nat.lt_of_lt_of_le (l37.out) t38.size);clear t38
  go_wp2_with fail
  refine hK.out _ _ (LS.out w38 k38.out) (fun hHeld38=>?_)
  clear hK K
  try simp only[Act.put,List.setIfInBounds_toArray,List.set_cons_zero,List.set_cons_succ]
  refine rc (i:=20) (fun K hK=>?_)
  go_simp;refine(NX.out w38 va38 vc38 _ k38.out M38.out).mono ?_;rintro e w39 ⟨v6,rfl,t39,o39⟩;obtain⟨a6,c6,rfl⟩:∃a c',v6 = .slice a m.parts.length c':=by obtain⟨a,c',e,_,_⟩:=zb o39;exact⟨a,c',e⟩
  have k39:=zz0 ((k38.out).trans1 t39);have O39:=zz0 o39;have z39:=zz0 (zh t39 z38.out);clear t39 o39
  go_wp2_with fail
  refine hK.out _ _ (LS.out w39 k39.out) (fun hHeld39=>?_)
  clear hK K
  try simp only[Act.put,List.setIfInBounds_toArray,List.set_cons_zero,List.set_cons_succ]
  refine tq 21 ?_;refine tq 22 ?_;refine tq 23 ?_;refine rc (i:=25) (fun K hK=>?_)
  have hst:=zax w39 WX.heap.size m a6 m.parts.length c6 zra M32.out rfl z39.out;have E:=zz0 (zgp (m:=m) k39.out z39.out y37.out O39.out l38.out);go_simp;refine hK.out _ _ (LS.out _ E.out.kp) (fun hHeld43=>?_)
  clear hK K
  try simp only[Act.put,List.setIfInBounds_toArray,List.set_cons_zero,List.set_cons_succ]
  refine tq 26 ?_;refine wpAnyH_done (by as_aux_lemma=>kernel_rfl) ?_ _
  refine NoPanic.normal ?_;have e0:=E.out;generalize (w39.setRow _ _)=W5 at e0 ⊢;generalize WX.heap.size=nb at e0 ⊢;have E6:=zz0 e0
  try clear hst
  clear e0 E;clear O39
  try clear hHeld37
  try clear hHeld38
  try clear hHeld39
  try clear hHeld43
  clear M38;revert va38 vc38 a6 c6 W5 nb;exact FIN.out
 intro va0 vc0 a6 c6 W5 nb E6
 go_wp2_with fail
 obtain⟨wd,hwd⟩:∃wd,wd=W5.drew:=⟨_,rfl⟩;have HD:Hid (W5.drew=wd):=zz0 hwd.symm;have K5:Hid (za zq2 W5 wd):=zz0 (by rw[hwd];exact(za.refl _ _).drew)
 have KWD:Hid (za zq2 w wd):=zz0 (KX.out.trans1 (E6.out.kp.trans1 K5.out));have hnw:w.heap.size≤nb:=Nat.le_trans KX.out.size E6.out.lo;have hbw:b<w.heap.size:=lt_of_block H.out.vt;have LM:Hid (∀W,za (fun g=>F g∨g=b) wd W→W.cell? ⟨x,0,none⟩=some (.pointer (some ⟨b,0,none⟩))∧(zZ 54 ⟨nb,0,none⟩).run Tryz.prog W = .ok (zq7 m (.slice a6 m.parts.length c6)) W):=zz0 (fun W k=>by
  have h1:=k.at (zh KWD.out H.out.ex) (fun e=>by rcases e with e|e;exact H.out.out.1 e;exact H.out.out.2.2.1 e)
  have h2:=k.at (zh K5.out E6.out.bx) (fun e=>by rcases e with e|e;(have:=(H.out.low _ e).2;omega);omega)
  exact⟨ex_0 h1,zO h2 M32.out⟩)
 have LM0:=zz0 (LM.out wd (za.refl _ _));have LM1:Hid (W5.drew.cell? ⟨x,0,none⟩=some (.pointer (some ⟨b,0,none⟩))∧(zZ 54 ⟨nb,0,none⟩).run Tryz.prog W5.drew = .ok (zq7 m (.slice a6 m.parts.length c6)) W5.drew):=zz0 (by rw[HD.out];exact LM0.out)
 have CM:=zz0 (CM0.out wd _ KWD.out (zC.of (zc E6.out.row K5.out (fun _ _ e=>e)) P32.out))
 have HNW:=zz0 hnw;have HBW:=zz0 hbw;clear hwd CM0 hnw hbw;refine wp_region_noPanic ?_;refine wp_region_held_drew (S:=fun W=>W.cell? ⟨x,0,none⟩=some (.pointer (some ⟨b,0,none⟩))∧(zZ 54 ⟨nb,0,none⟩).run Tryz.prog W = .ok (zq7 m (.slice a6 m.parts.length c6)) W) (by as_aux_lemma=>kernel_rfl) LM1.out (fun hHeld=>?_)
 refine tq 0 ?_;refine tq 1 ?_;refine tq 2 ?_;refine tq 3 ?_;refine tq 4 ?_;rw[HD.out];clear hHeld;have hHeld:=LM0.out;refine rc (i:=5) (fun K hK=>?_)
 go_simp;refine CM.out.mono ?_;rintro e w9 ⟨rfl,t9⟩
 go_wp2_with fail
 refine hK.out _ _ (LM.out w9 t9.1) (fun hHeld50=>?_)
 clear hK K
 try simp only[Act.put,List.setIfInBounds_toArray,List.set_cons_zero,List.set_cons_succ]
 refine tq 6 ?_;refine wpAnyH_done (by as_aux_lemma=>kernel_rfl) ?_ _
 refine NoPanic.normal ?_;obtain⟨k9,v3,T,F',s',nb',hT,mq,d',vb⟩:=t9;have mq2:=mq.lowN HNE.out (by simp)
 obtain⟨la2,lc2,rfl⟩:∃a c',v3 = .slice a (ms.length+1) c':=by
  obtain⟨a,c',e,_⟩:=mq2;exact⟨a,c',by rw[e,List.length_append];rfl⟩
 have KF:Hid (za (fun g=>F g∨g=b) w w9):=zz0 (KWD.out.ofNon.trans k9 (fun _ _ y=>y) (fun _ _ y=>y))
 have X9:=zz0 (KF.out.at H.out.ex (fun e=>by rcases e with e|e;exact H.out.out.1 e;exact H.out.out.2.2.1 e))
 have hxw:x<w.heap.size:=lt_of_block H.out.ex;have hnx:¬F' x:=fun y=>by
  rcases s' x y with u|u
  ·exact H.out.out.1 u
  ·have:=KWD.out.size;omega
 have kx:za (zq3 x) w9 (w9.setCell ⟨x,7,none⟩ (.bool true)):=(za.refl _ _).setOne _ _;have VS:=zz0 (kx.at vb (fun e=>H.out.out.2.2.1 (by have e':b=x:=e;exact e'.symm)))
 have DS:=zz0 (d'.keep kx (fun g y e=>by have e':g=x:=e;exact hnx (e' ▸ y)))
 have ST:=zz0 (zcy b q (.slice la2 (ms.length+1) lc2) _ VS.out);have CL:=zz0 (CL0.out _ _ DS.out);have c0:=ex_0 X9.out;have c0s:=ex_0 (zlA X9.out true);have c7:=ex_7 X9.out;have f7:=ex_f X9.out 7;have MS:=zz0 mq2;have SS:=zz0 (And.intro s' (And.intro nb' hT));have KX9:=zz0 kx;have HNX:=zz0 (And.intro hnx hxw);clear k9 s' nb' hT mq mq2 d' vb hxw hnx kx CL0;unfold zx at CL
 go_wp2_with(first
  |(go_at_call 66;refine ST.out.mono ?_;rintro e wS ⟨rfl,rfl⟩)
  |(go_at_call 70;refine CL.out.mono ?_;rintro e wE ⟨rfl,tE⟩))
 go_ret;obtain⟨kE,F2,s2,d2⟩:=tE;have d2':=d2.low;have hwd:=KWD.out.size;have h9:=KF.out.size;have hE:=kE.size;have hS:=KX9.out.size;have hF2:∀g,F2 g→F g∨w.heap.size≤g:=fun g y=>by
  rcases s2 g y with u|u
  ·rcases SS.out.1 g u with v|v
   ·exact .inl v
   ·exact .inr (by omega)
  ·exact .inr (by omega)
 have kA:za (fun g=>F g∨g=x∨g=b) w (w9.setCell ⟨x,7,none⟩ (.bool true)):=KF.out.trans KX9.out (fun g _ y=>by rcases y with y|y;exact .inl y;exact .inr (.inr y)) (fun g _ y=>.inr (.inl y))
 have kB:za (fun g=>F g∨g=x∨g=b) w wE:=kA.trans kE (fun _ _ y=>y) (fun g hg y=>by
  rcases SS.out.1 g y with u|u
  ·exact .inl u
  ·omega)
 have xE:=kE.at (zlA X9.out true) HNX.out.1;have bE:=kE.at VS.out SS.out.2.1;have hTx:∀g,T g→g≠x:=fun g y e=>by
  rcases(SS.out.2.2 g y).2.2 with u|u
  ·exact(HTL.out g u).2.2.1 e
  ·have:=HNX.out.2;omega
 have msE:=(MS.out.keep KX9.out (fun g y e=>hTx g y.1 e)).keep kE (fun g y=>(SS.out.2.2 g y.1).1)
 refine⟨rfl,fun g=>F2 g∧g<wE.heap.size,la2,lc2,fun g=>T g∧g<w9.heap.size,fun g y=>hF2 g y.1,kB,?_,by rw[←HMX.out];exact msE,fun g y=>⟨fun z=>?_,(SS.out.2.2 g y.1).2.1,hTx g y.1,by have:=y.2;omega,?_⟩⟩
 ·refine⟨xE,zc H.out.row kB (fun g e y=>?_),bE,d2',H.out.lg.keep kB (fun g e y=>?_),H.out.lay.keep kB (fun g e y=>?_),⟨fun y=>?_,fun y=>?_,H.out.out.2.2.1,H.out.out.2.2.2.1,H.out.out.2.2.2.2.1,H.out.out.2.2.2.2.2.1,H.out.out.2.2.2.2.2.2⟩,fun g y z=>?_,fun g y=>⟨?_,y.2⟩,fun g y=>Nat.lt_of_lt_of_le (H.out.lowL g y) kB.size,fun g e=>?_⟩
  ·obtain⟨h1,h2,h3,_⟩:=H.out.pvo g e
   rcases y with y|y|y
   ·exact h1 y
   ·exact h2 y
   ·exact h3 y
  ·rcases y with y|y|y
   ·exact H.out.apart g y e
   ·subst y;exact H.out.out.2.2.2.1 e
   ·subst y;exact H.out.out.2.2.2.2.1 e
  ·have hx10:=H.out.out.2.2.2.2.2.1
   have hb10:=H.out.out.2.2.2.2.2.2;rcases y with y|y|y
   ·have:=(H.out.low g y).1;omega
   ·omega
   ·omega
  ·rcases s2 x y.1 with u|u
   ·exact HNX.out.1 u
   ·have:=HNX.out.2;omega
  ·rcases s2 b y.1 with u|u
   ·exact SS.out.2.1 u
   ·have:=HBW.out;omega
  ·rcases hF2 g y.1 with u|u
   ·exact H.out.apart g u z
   ·have:=H.out.lowL g z;omega
  ·rcases hF2 g y.1 with u|u
   ·exact(H.out.low g u).1
   ·have:=HNX.out.2;have:=H.out.out.2.2.2.2.2.1;omega
  ·obtain⟨h1,h2,h3,h4⟩:=H.out.pvo g e
   refine⟨fun z=>?_,h2,h3,h4⟩
   have:=(H.out.row.lt g e).2;rcases hF2 g z.1 with u|u
   ·exact h1 u
   ·omega
 ·rcases s2 g z.1 with u|u
  ·exact(SS.out.2.2 g y.1).1 u
  ·have:=y.2;omega
 ·rcases(SS.out.2.2 g y.1).2.2 with u|u
  ·exact .inl u
  ·exact .inr (Nat.le_trans hwd u)
end
section
attribute [local go_sem ↓] zbB zU zbC zbD zV zbE zab zbK hBS39
theorem zoC (F TL:Nat→Prop)(b q p:Nat)(ms:List Mf)(la:Option Addr)(lc:Nat)(m:Mf)(pv:Value)(X:Dk)(a k fu:Nat)(w:World)(hb:w.heap[b]? = some (VtB q (.slice la ms.length lc)))(hms:zai TL w (.slice la ms.length lc) ms)(hTL:∀g,TL g→¬F g∧g≠b∧g<w.heap.size)(d:zk F w q p X)(hF:∀g,F g→10≤g∧g<w.heap.size)(hbF:¬F b)(hl:X.lim a k fu)(ha:a≤505)(hk:k≤990)(hf:fu≤400000000)(hdn:X.down=false)(hlay:Lay w)
 (hp:zC w pv m.parts) (hok:okMf m) (hnum:m.num=ms.length) (hn90:ms.length<90) (och:okCh ms) (hfo:folM ms m) (h64:m.parts.length≤64) (h32:zbI m.parts) (hS:HasSegsN X ms.length m.parts) (hby:(zb2 m).length≤65536) (code:Int) (hcd:(X.sput (zw ms.length) (zb2 m)).1=code) (hc0:code≠0) :
 Calls Tryz.prog 187 #[.pointer (some ⟨b,0,none⟩),zq7 m pv] w fun e w'=>e = .returned (.iface 89 (.int .i64 code))∧zn F w q p (X.sput (zw ms.length) (zb2 m)).2 w':=by
 obtain⟨es,ems,hes,hen,hec⟩:=hms.es;subst ems;rw[List.length_map] at hb hnum hn90 hS hcd ⊢;have hpr:m.prev.length=32:=hok.prev;have PA:=zz0 hp;have B:=zz0 hb;have DD:=zz0 d;have HF:=zz0 hF;have HL:=zz0 hlay;have HOK:=zz0 hok;obtain⟨pa,pc,rfl,hc,hpa,hx⟩:=hp;have hlm:=zO (ze w (zq1 m (.slice pa m.parts.length pc))) hpr;have CO:=zz0 (zgM m (.slice pa m.parts.length pc) (w.alloc (zq1 m (.slice pa m.parts.length pc))) (PA.out.keepNon ((za.refl zq2 w).alloc _)) hpr h32 (by omega))
 have TT:=zz0 (fun W=>zd3 es.length W (by omega))
 have SP:=zz0 (fun W v F0 (st:zk F0 W q p X) (hv:Bs W v (zb2 m)) (hnp:∀g,v.ownBlock=some g→¬F0 g)=>zdn F0 q p v (zw es.length) (zb2 m) X a k fu W st hl ha hk hf (zaD es.length (by omega)) hv hby hnp)
 rw[hcd] at SP;rw[zaA hc0] at SP;have HE:=zz0 (fun W lv pv (k:za zq2 w W) (hp:zC W pv m.parts) (hb':W.heap[b]? = some (VtB q lv))=>zh6 F b q p lv m pv X W hb' (d.keep k (fun _ _ e=>e)) hdn (hlay.keepNon k) hp hpr es.length hnum (by omega) h64 hS)
 have CK:=zz0 (fun T W v (h:zai T W v (es.map (·.1) ++ [m])) (k:za zq2 w W)=>zbl T v (es.map (·.1) ++ [m]) W h (och.snoc hok hfo h64 hby) (by rw[List.length_append,List.length_map];simp;omega) (hlay.keepNon k).kon (hlay.keepNon k).frs)
 have CL:=zz0 (fun W (k:za zq2 w W)=>zja la lc es W (hes.keep k (fun _ _ e=>e)) hen (fun ad e j u hu=>by have h0:=hec ad e j u hu;exact(World.cell?_of_block (k.block _ (World.block_lt_of_cell? _ _ h0) (fun e=>e))).trans h0) (by omega))
 have HES:=zz0 hes;have HTL:=zz0 hTL;have MP:=zz0 (fun W pv (hp:zC W pv m.parts)=>ziy m pv W hok hp h64)
 obtain⟨i0,hi0,hz0,hz1,hz2⟩:=info_parts infoMf;have I0:=zz0 (And.intro hi0 (And.intro hz0 (And.intro hz1 hz2)));clear hx hpa hb d hF hlay hok hS hl hi0 hz0 hz1 hz2 hby hcd hes hec hen och hfo hTL hms;unfold sv at TT SP;unfold zq1 at hlm;dsimp only[zq1] at CO;unfold zq7 at *
 go_enter Tryz.func187,Tryz.ntmps187
 go_wp2_with(go_at_call 26;refine CO.out.mono ?_;rintro r w2 ⟨v2,rfl,k2,o2⟩;obtain⟨a2,c2,rfl,_,_⟩:=zb o2;have hst:=zax w2 w.heap.size m a2 m.parts.length c2 (zq6 m (.slice pa m.parts.length pc)).toArray hpr (by rw[List.size_toArray,zaV hpr]) (zh k2 (ze w (zq1 m (.slice pa m.parts.length pc))));unfold zq7 at hst;have K2:=zz0 (((za.refl zq2 w).alloc (zq1 m (.slice pa m.parts.length pc))).trans1 k2);have BX2:=zz0 (zh k2 (ze w (zq1 m (.slice pa m.parts.length pc))));have O2:=zz0 o2;clear k2 o2)
 obtain⟨m3,k3,o3⟩:=zjb h32 K2.out BX2.out (zg O2.out (by simp))
 obtain⟨w3,hw3⟩:∃w3,w3=w2.setRow w.heap.size (zq6 m (.slice a2 m.parts.length c2)).toArray:=⟨_,rfl⟩;rw[←hw3] at m3 k3 o3 hst;rw[←hw3];have M3:=zz0 m3;have K3:=zz0 k3;have O3:=zz0 o3;have PLM:Hid (∀W,za zq2 w3 W→(zZ 54 ⟨w.heap.size,0,none⟩).run Tryz.prog W = .ok (zq7 m (.slice a2 m.parts.length c2)) W):=zz0 (fun W kk=>zO (zh kk M3.out) hpr)
 have VB:Hid (∀W,za zq2 w3 W→W.heap[b]? = some (VtB q (.slice la es.length lc))):=zz0 (fun W kk=>zh (K3.out.trans1 kk) B.out)
 have MN:Hid (∀W,za zq2 w3 W→W.cell? ⟨w.heap.size,0,none⟩=some (.int .i64 m.num)):=zz0 (fun W kk=>mf_0 (zh kk M3.out))
 have kd:za zq2 w3 w3.drew:=(za.refl _ _).drew;have ka:za zq2 w3 (w3.alloc (zq1 m (.slice a2 m.parts.length c2))):=(za.refl _ _).alloc _;have l0:=PLM.out _ (za.refl _ _);have l1:=PLM.out _ kd;have b0:=zaQ m a2 m.parts.length c2 hpr w3;have b1:=zaQ m a2 m.parts.length c2 hpr w3.drew;have x0:=vt_1 (VB.out _ (za.refl _ _));have x1:=vt_1 (VB.out _ ka);have BK:=zz0 (ze w3 (zq1 m (.slice a2 m.parts.length c2)));have KAD:Hid (za zq2 w3 (w3.alloc (zq1 m (.slice a2 m.parts.length c2))).drew):=zz0 ka.drew;have PLM':=zz0 (fun W kk=>by have:=PLM.out W kk;unfold zq7 at this;exact this)
 have KD3:=zz0 kd;clear m3 k3 o3 hw3 kd ka K2 BX2 O2 hlm CO;unfold zq7 at l0 l1 b0 b1;dsimp only[zq1] at b0 b1 x1
 go_region_law(first
  |(go_simp;go_at_call 241;first
     |(refine(CL.out _ (K3.out.trans1 KD3.out)).mono ?_;rintro r w4 ⟨v4,rfl,k4,o4⟩;obtain⟨a4,c4,rfl,_,_⟩:=zb o4;have K4:=zz0 (KD3.out.trans1 k4);have LB4:Hid (w3.heap.size≤w3.drew.heap.size):=zz0 (Nat.le_refl _);have O4:=zz0 o4;have l4:=PLM.out w4 K4.out;have b4:=zaQ m a2 m.parts.length c2 hpr w4;unfold zq7 at l4 b4;dsimp only[zq1] at b4;clear k4 o4)
     |(refine(CL.out _ (K3.out.trans1 KAD.out)).mono ?_;rintro r w4 ⟨v4,rfl,k4,o4⟩;obtain⟨a4,c4,rfl,_,_⟩:=zb o4;have K4:=zz0 (KAD.out.trans1 k4);have LB4:=zz0 KAD.out.size;have BK4:=zz0 (zh k4 BK.out);have O4:=zz0 o4;clear k4 o4))
  |(refine zl (by rfl) (.tmp 21) (.tmp 23) 39 (by rfl) w3.heap.size 54 i0 (.agg zra) 37 88 Tryz.underlying39 I0.out.1 I0.out.2.1 I0.out.2.2.1 I0.out.2.2.2 rfl (by decide) (.slice a4 es.length c4) es.length (msE es) (by first|rfl|simp[Act.eval]|simp[Act.eval,Act.put]) (zc (zg O4.out LB4.out) ((za.refl zq2 w4).alloc _) (fun _ _ e=>e)) ⟨w4.heap.size,0,none⟩ 1 1 (zq6 m (.slice a2 m.parts.length c2)) (by first|rfl|simp[Act.eval]|simp[Act.eval,Act.put]) (by rw[zaV hpr]) (by exact zdi (ze w4 (zq1 m (.slice a2 m.parts.length c2)))) (zcJ m a2 m.parts.length c2) (by unfold maxLen;omega) (by omega) (by exact(K4.out.alloc (zq1 m (.slice a2 m.parts.length c2))).size) ?_;intro v5 w5 ho hg hpp;obtain⟨a5,c5,rfl,_,_⟩:=zb ho;obtain⟨k5,ms5,pt5⟩:=zdE hpr h32 K3.out O3.out HES.out (K4.out.alloc (zq1 m (.slice a2 m.parts.length c2))) (fun g e=>by have:=(O4.out.lt g e).1;have:=LB4.out;omega) ho hg;have CKW:=zz0 (CK.out _ w5 _ ms5 (K3.out.trans1 k5));have K5:=zz0 k5;have MS5:=zz0 ms5;have PT5:=zz0 pt5;clear ho hg hpp k5 ms5 pt5)
  |(refine zl (by rfl) (.tmp 21) (.tmp 23) 39 (by rfl) w3.heap.size 54 i0 (.agg zra) 37 88 Tryz.underlying39 I0.out.1 I0.out.2.1 I0.out.2.2.1 I0.out.2.2.2 rfl (by decide) (.slice a4 es.length c4) es.length (msE es) (by first|rfl|simp[Act.eval]|simp[Act.eval,Act.put]) (zc (zg O4.out LB4.out) (za.refl zq2 w4) (fun _ _ e=>e)) ⟨w3.heap.size,0,none⟩ 1 1 (zq6 m (.slice a2 m.parts.length c2)) (by first|rfl|simp[Act.eval]|simp[Act.eval,Act.put]) (by rw[zaV hpr]) (by exact zdi BK4.out) (zcJ m a2 m.parts.length c2) (by unfold maxLen;omega) (by omega) (by exact(K4.out).size) ?_;intro v5 w5 ho hg hpp;obtain⟨a5,c5,rfl,_,_⟩:=zb ho;obtain⟨k5,ms5,pt5⟩:=zdE hpr h32 K3.out O3.out HES.out (K4.out) (fun g e=>by have:=(O4.out.lt g e).1;have:=LB4.out;omega) ho hg;have CKW:=zz0 (CK.out _ w5 _ ms5 (K3.out.trans1 k5));have K5:=zz0 k5;have MS5:=zz0 ms5;have PT5:=zz0 pt5;clear ho hg hpp k5 ms5 pt5))
 all_goals go_wp2_with(first
  |(go_at_call 51;refine CKW.out.mono ?_;rintro r w6 ⟨rfl,k6⟩;have k36:=K5.out.trans1 k6;have l6:=PLM'.out _ k36;have HEW:=zz0 (HE.out w6 _ (.slice a2 m.parts.length c2) (K3.out.trans1 k36) (PT5.out.keepNon k6) (VB.out _ k36));have K6:=zz0 k36;have K56:=zz0 k6;clear k6 k36)
  |(go_at_call 242;refine HEW.out.mono ?_;rintro r w7 ⟨rfl,k7⟩;have k37:=K6.out.trans1 k7;have l7:=PLM'.out _ k37;have MPW:=zz0 (MP.out w7 (.slice a2 m.parts.length c2) (PT5.out.keepNon (K56.out.trans1 k7)));have K7:=zz0 k37;have K57:=zz0 (K56.out.trans1 k7);clear k7 k37)
  |(go_at_call 243;refine MPW.out.mono ?_;rintro r w8 ⟨v8,rfl,k8,o8⟩;obtain⟨a8,c8,rfl,_,_⟩:=zb o8;have k38:=K7.out.trans1 k8;have K8:=zz0 k38;have K58:=zz0 (K57.out.trans1 k8);have O8:=zz0 o8;clear k8 k38 o8))
 all_goals
  have k8d:za zq2 w3 w8.drew:=K8.out.drew;have y0:w8.cell? ⟨b,0,none⟩=some (.pointer (some ⟨q,0,none⟩)):=vt_0 (VB.out _ K8.out);have y0d:w8.drew.cell? ⟨b,0,none⟩=some (.pointer (some ⟨q,0,none⟩)):=y0;have n0:w8.cell? ⟨w.heap.size,0,none⟩=some (.int .i64 es.length):=by have:=MN.out _ K8.out;rw[hnum] at this;exact this
  have n0d:w8.drew.cell? ⟨w.heap.size,0,none⟩=some (.int .i64 es.length):=n0;have TTW:=zz0 (TT.out w8.drew);have VB8:Hid (∀W,za zq2 w8.drew W→W.cell? ⟨b,0,none⟩=some (.pointer (some ⟨q,0,none⟩))):=zz0 (fun W kk=>vt_0 (VB.out _ (K8.out.drew.trans1 kk)))
  have sz38:w.heap.size≤w8.heap.size:=Nat.le_trans K3.out.size K8.out.size;have SPW:Hid (∀W,za zq2 w8.drew W→Calls Tryz.prog 117 #[.pointer (some ⟨q,0,none⟩),.string ⟨(zw es.length).toArray⟩,.slice a8 (zb2 m).length c8] W fun e w'=>e = .returned (.iface 89 (.int .i64 code))∧zn F W q p (X.sput (zw es.length) (zb2 m)).2 w'):=zz0 (fun W kk=>SP.out W _ F (DD.out.keep (K3.out.trans1 (K8.out.drew.trans1 kk)) (fun _ _ e=>e)) ((Rd.ofOwns O8.out).keepNon ((za.refl zq2 w8).drew.trans1 kk)) (fun g e x=>by have:=(O8.out.lt g e).1;have:=(HF.out g x).2;have:=K3.out.size;have:=K7.out.size;omega))
  clear k8d
  go_region_law(go_simp;first
   |(go_at_call 49;refine TTW.out.mono ?_;rintro r w9 ⟨rfl,k9⟩;have y9:=VB8.out _ k9;have SPX:=zz0 (SPW.out w9 k9);have K9:=zz0 k9;clear k9)
   |(go_at_call 117;refine SPX.out.mono ?_;rintro r wa ⟨rfl,ka⟩;have k39:=K8.out.drew.trans1 K9.out;have KA:=zz0 ka;have K39:=zz0 k39;clear ka k39))
 all_goals go_wp2_with fail
 all_goals
  go_ret;exact⟨rfl,zn.after (K3.out.trans1 K39.out) KA.out⟩
end
section
attribute [local go_sem ↓] zbB zU zbC zbD zV zbE zab zbK
theorem zkO {F FL TL:Nat→Prop}{C:Nat→Cl}{x b lb q p:Nat}{la:Option Addr}{lc:Nat}{ms:List Mf}{c:Cu}{pv:Value}{X:Dk}{L:Lg}(w:World)(h:ExSt F FL w x b lb q p (.slice la ms.length lc) c pv false X L)(hms:zai TL w (.slice la ms.length lc) ms)(hTL:∀g,TL g→¬F g∧g≠b∧g≠x∧g<w.heap.size)(hi:TF L C X.shown ms c)(ht:TDk X)(hl:Log1 L)(hd:c.next=c.hi)(Y:Dk)(code:Int)(hY:X.sput (zw ms.length) (zb2 (exT ms c))=(code,Y))(hc0:code≠0) :
 Calls Tryz.prog 120 #[.pointer (some ⟨x,0,none⟩)] w fun e w'=>e = .returned (.iface 89 (.int .i64 code))∧ExOut F FL w x b lb q p (.slice la ms.length lc) c false Y L w':=by
 have H:=zz0 h;have HI:=zz0 hi;have h4:c.parts.length≤4:=by have:=hi.part;have:=hi.hi;omega
 have hfw:=hi.few;have hok:=zji hi hd;have hfol0:=zil hi;obtain⟨m,hm⟩:∃m,m=exT ms c:=⟨_,rfl⟩;have hm':nxM ms.length c.lo (zp c.lo c.parts) c.trim (aheadD ms) c.parts=m:=by rw[hm,exT,hok.2]
 have hmp:m.parts=c.parts:=by rw[hm];rfl
 have hln:=zgw hi hd;have OKM:=zz0 hok.1;rw[←hm] at OKM hln hY hfol0;have hcd:=hY;have M32:Hid (m.prev.length=32):=zz0 OKM.out.prev;have P32:Hid (zbI m.parts):=zz0 (by rw[hmp];exact hi.ok.p32)
 have NX0:Hid (∀W va vc T' v,za zq2 w W→zai T' W (.slice va ms.length vc) ms→zC W v c.parts→Calls Tryz.prog 186 #[.slice va ms.length vc,.int .i64 c.lo,.int .i64 c.trim,v] W fun e w'=>∃v',e = .returned (.tuple #[zq7 m v',.nilIface])∧za zq2 W w'∧w'.ownsRow W.heap.size 125 35 v' m.parts.length (zaP m.parts)):=zz0 (fun W va vc T' v k hq hv=>by
  have:=zeP T' ms va vc c.lo c.trim v c.parts W hq (by omega) hi.b.ok hi.lo hi.last (H.out.lay.keepNon k).kon (H.out.lay.keepNon k).frs hv hi.ok.p32 (by omega) hi.ok.parts (by rw[hi.ok.stop];have:=hi.ok.le;have:=hi.ok.hi;omega) hi.ok.trim
  rw[hm',←hmp] at this;exact this)
 have CM0:Hid (∀W v,za zq2 w W→zC W v m.parts→Calls Tryz.prog 187 #[.pointer (some ⟨b,0,none⟩),zq7 m v] W fun e w'=>e = .returned (.iface 89 (.int .i64 code))∧zn F W q p Y w'):=zz0 (fun W v k hv=>by
  have hnum:m.num=ms.length:=by rw[hm];rfl
  have:=zoC F TL b q p ms la lc m v X _ _ _ W (zh k H.out.vt) (hms.keepNon k) (fun g y=>⟨(hTL g y).1,(hTL g y).2.1,k.lt (hTL g y).2.2.2⟩) (H.out.st.keep k (fun _ _ e=>e)) (fun g y=>⟨(H.out.low g y).1,k.lt (H.out.low g y).2⟩) H.out.out.2.1 (hi.lim ht) (by omega) (by omega) (by omega) ht.calm.down (H.out.lay.keepNon k) hv OKM.out hnum (by omega) hi.b.ok hfol0 (by rw[hmp];omega) P32.out (by rw[hmp];exact(hi.segs hl)) (by omega) code (by rw[hcd]) hc0
  rw[hcd] at this;exact this)
 have CH:Hid (∀W,za zq2 w W→Calls Tryz.prog 9 #[.pointer (some ⟨b,0,none⟩)] W fun e w'=>∃va vc,e = .returned (.slice va ms.length vc)∧za zq2 W w'∧zai (fun g=>W.heap.size≤g∧g<w'.heap.size) w' (.slice va ms.length vc) ms):=zz0 (fun W k=>by
  refine(zar TL b q _ ms W (zh k H.out.vt) (hms.keepNon k) hi.b.p32 (by omega)).mono ?_
  rintro e w' ⟨v',rfl,k',hq⟩;obtain⟨va,vc,rfl,_⟩:=id hq;exact⟨va,vc,rfl,k',hq⟩)
 obtain⟨pa,pc,rfl,_,_⟩:=zb h.row;have NX:Hid (∀W va vc T',za zq2 w W→zai T' W (.slice va ms.length vc) ms→Calls Tryz.prog 186 #[.slice va ms.length vc,.int .i64 c.lo,.int .i64 c.trim,.slice pa c.parts.length pc] W fun e w'=>∃v',e = .returned (.tuple #[zq7 m v',.nilIface])∧za zq2 W w'∧w'.ownsRow W.heap.size 125 35 v' m.parts.length (zaP m.parts)):=zz0 (fun W va vc T' k hq=>NX0.out W va vc T' _ k hq (zC.of (zc H.out.row k (fun _ _ e=>e)) HI.out.ok.p32))
 have LSw:Hid (∀W,za zq2 w W→W.cell? ⟨x,0,none⟩=some (.pointer (some ⟨b,0,none⟩))∧W.cell? ⟨x,2,none⟩=some (.int .i64 c.lo)∧W.cell? ⟨x,5,none⟩=some (.int .i64 c.trim)∧W.cell? ⟨x,6,none⟩=some (.slice pa c.parts.length pc)):=zz0 (fun W k=>by
  have hxx:=zh k H.out.ex;exact⟨ex_0 hxx,ex_2 hxx,ex_5 hxx,ex_6 hxx⟩)
 obtain⟨WX,hWX⟩:∃WX,WX=w.drew:=⟨_,rfl⟩;have KX:Hid (za zq2 w WX):=zz0 (by rw[hWX];exact(za.refl _ _).drew)
 have HW:Hid (w.drew=WX):=zz0 hWX.symm;have LS:=zz0 (fun W (k:za zq2 WX W)=>LSw.out W (KX.out.trans1 k))
 have LS1:=zz0 (LSw.out w.drew (za.refl _ _).drew);have LZ:Hid (WX.heap.size≤WX.heap.size):=zz0 (Nat.le_refl _);have CH:=zz0 (fun W (k:za zq2 WX W)=>CH.out W (KX.out.trans1 k))
 have NX:=zz0 (fun W va vc T' (k:za zq2 WX W) hq=>NX.out W va vc T' (KX.out.trans1 k) hq)
 have HMP:Hid (m.parts=c.parts):=zz0 hmp;have HMX:Hid (m=exT ms c):=zz0 hm;have HTL:=zz0 hTL;clear h hi ht hl hm hm' hok hln hWX LSw NX0 hmp hcd hfol0 hY hms hTL
 go_enter Tryz.func120,Tryz.ntmps120
 go_wp2_with fail
 refine(fun(FIN:Hid ?T)=>?main) (zz0 ?fin)
 case' main=>refine wp_region_noPanic ?_
 refine wp_region_held_drew (S:=fun W=>W.cell? ⟨x,0,none⟩=some (.pointer (some ⟨b,0,none⟩))∧W.cell? ⟨x,2,none⟩=some (.int .i64 c.lo)∧W.cell? ⟨x,5,none⟩=some (.int .i64 c.trim)∧W.cell? ⟨x,6,none⟩=some (.slice pa c.parts.length pc)) (by as_aux_lemma=>kernel_rfl) LS1.out (fun hHeld=>?_)
 refine tq 0 ?_;refine tq 1 ?_;refine tq 2 ?_;refine tq 3 ?_;refine tq 5 ?_;refine tq 6 ?_;refine tq 7 ?_;refine tq 8 ?_;refine tq 9 ?_;refine tq 10 ?_;refine tq 11 ?_;refine tq 12 ?_;refine tq 13 ?_;refine tq 14 ?_;refine tq 15 ?_;refine tq 16 ?_;refine tq 17 ?_;refine tq 18 ?_;refine tq 19 ?_;rw[HW.out];clear hHeld;have hHeld:=LS.out WX (za.refl _ _);refine wpAnyH_ready (rs:=[4,24]) (by as_aux_lemma=>kernel_rfl) (by simp) ?_
 refine AllReadyH.cons (by simp only[List.getElem?_toArray,List.getElem?_cons_succ,List.getElem?_cons_zero];rfl) (fun K hK=>?arm20_4) (AllReadyH.cons (by simp only[List.getElem?_toArray,List.getElem?_cons_succ,List.getElem?_cons_zero];rfl) (fun K hK=>?arm20_24) AllReadyH.nil)
 case' arm20_4 =>
  go_simp;refine(CH.out WX (za.refl zq2 WX)).mono ?_;rintro e w21 ⟨va21,vc21,rfl,t21,m21⟩;have M21:=zz0 m21;clear m21;have k21:=zz0 (((za.refl zq2 WX)).trans1 t21);clear t21
  go_wp2_with fail
  refine hK.out _ _ (LS.out w21 k21.out) (fun hHeld21=>?_)
  clear hK K
  try simp only[Act.put,List.setIfInBounds_toArray,List.set_cons_zero,List.set_cons_succ]
  refine wpAnyH_ready (rs:=[20,24]) (by as_aux_lemma=>kernel_rfl) (by simp) ?_
  refine AllReadyH.cons (by simp only[List.getElem?_toArray,List.getElem?_cons_succ,List.getElem?_cons_zero];rfl) (fun K hK=>?arm22_20) (AllReadyH.cons (by simp only[List.getElem?_toArray,List.getElem?_cons_succ,List.getElem?_cons_zero];rfl) (fun K hK=>?arm22_24) AllReadyH.nil)
  case' arm22_20 =>
   go_simp;refine(NX.out w21 va21 vc21 _ k21.out M21.out).mono ?_;rintro e w23 ⟨v6,rfl,t23,o23⟩;obtain⟨a6,c6,rfl⟩:∃a c',v6 = .slice a m.parts.length c':=by obtain⟨a,c',e,_,_⟩:=zb o23;exact⟨a,c',e⟩
   have k23:=zz0 ((k21.out).trans1 t23);have O23:=zz0 o23;clear t23 o23
   go_wp2_with fail
   refine hK.out _ _ (LS.out w23 k23.out) (fun hHeld23=>?_)
   clear hK K
   try simp only[Act.put,List.setIfInBounds_toArray,List.set_cons_zero,List.set_cons_succ]
   refine tq 21 ?_;refine tq 22 ?_;refine tq 23 ?_;refine rc (i:=24) (fun K hK=>?_)
   go_simp;have hst:=zaZ w23 m a6 m.parts.length c6 M32.out;dsimp only[zra,zq1] at hst;have E:=zz0 (zlc (m:=m) k23.out O23.out (k21.out).size);refine hK.out _ _ (LS.out _ ((k23.out).alloc _)) (fun hHeld27=>?_)
   clear hK K
   try simp only[Act.put,List.setIfInBounds_toArray,List.set_cons_zero,List.set_cons_succ]
   refine rc (i:=25) (fun K hK=>?_)
   go_simp;refine hK.out _ _ (LS.out _ ((k23.out).alloc _)) (fun hHeld28=>?_)
   clear hK K
   try simp only[Act.put,List.setIfInBounds_toArray,List.set_cons_zero,List.set_cons_succ]
   refine tq 26 ?_;refine wpAnyH_done (by as_aux_lemma=>kernel_rfl) ?_ _
   refine NoPanic.normal ?_;have e0:=E.out;dsimp only[zq1] at e0;generalize (w23.alloc _)=W5 at e0 ⊢;generalize w23.heap.size=nb at e0 ⊢;have E6:=zz0 e0
   try clear hst
   clear e0 E;clear O23
   try clear hHeld21
   try clear hHeld23
   try clear hHeld27
   try clear hHeld28
   clear M21;revert va21 vc21 a6 c6 W5 nb;exact FIN.out
  case' arm22_24 =>
   go_simp;have k30:Hid (za zq2 WX (w21.alloc (.cells zra 54))):=zz0 ((k21.out).alloc _);have z30:Hid ((w21.alloc (.cells zra 54)).heap[w21.heap.size]? = some (.cells zra 54 (0,0))):=zz0 (ze w21 _);have y30:Hid (WX.heap.size≤w21.heap.size):=zz0 ((k21.out).size);have l30:Hid (w21.heap.size<(w21.alloc (.cells zra 54)).heap.size):=zz0 (lt_of_block z30.out);have M30:=zz0 ((M21.out).keepNon ((za.refl zq2 w21).alloc (.cells zra 54)));obtain⟨v30,hv30⟩:∃v30,v30=w21.alloc (.cells zra 54):=⟨_,rfl⟩;rw[←hv30] at k30 z30 l30 M30;dsimp only[zra] at hv30
   try rw[←hv30]
   clear hv30;refine hK.out _ _ (LS.out v30 k30.out) (fun hHeld30=>?_)
   clear hK K
   try simp only[Act.put,List.setIfInBounds_toArray,List.set_cons_zero,List.set_cons_succ]
   refine rc (i:=20) (fun K hK=>?_)
   go_simp;refine(NX.out v30 va21 vc21 _ k30.out M30.out).mono ?_;rintro e w31 ⟨v6,rfl,t31,o31⟩;obtain⟨a6,c6,rfl⟩:∃a c',v6 = .slice a m.parts.length c':=by obtain⟨a,c',e,_,_⟩:=zb o31;exact⟨a,c',e⟩
   have k31:=zz0 ((k30.out).trans1 t31);have O31:=zz0 o31;have z31:=zz0 (zh t31 z30.out);clear t31 o31
   go_wp2_with fail
   refine hK.out _ _ (LS.out w31 k31.out) (fun hHeld31=>?_)
   clear hK K
   try simp only[Act.put,List.setIfInBounds_toArray,List.set_cons_zero,List.set_cons_succ]
   refine tq 21 ?_;refine tq 22 ?_;refine tq 23 ?_;refine rc (i:=25) (fun K hK=>?_)
   have hst:=zax w31 w21.heap.size m a6 m.parts.length c6 zra M32.out rfl z31.out;have E:=zz0 (zgp (m:=m) k31.out z31.out y30.out O31.out l30.out);go_simp;refine hK.out _ _ (LS.out _ E.out.kp) (fun hHeld35=>?_)
   clear hK K
   try simp only[Act.put,List.setIfInBounds_toArray,List.set_cons_zero,List.set_cons_succ]
   refine tq 26 ?_;refine wpAnyH_done (by as_aux_lemma=>kernel_rfl) ?_ _
   refine NoPanic.normal ?_;have e0:=E.out;generalize (w31.setRow _ _)=W5 at e0 ⊢;generalize w21.heap.size=nb at e0 ⊢;have E6:=zz0 e0
   try clear hst
   clear e0 E;clear O31
   try clear hHeld21
   try clear hHeld30
   try clear hHeld31
   try clear hHeld35
   clear M21 M30;revert va21 vc21 a6 c6 W5 nb;exact FIN.out
 case' arm20_24 =>
  go_simp;have k37:Hid (za zq2 WX (WX.alloc (.cells zra 54))):=zz0 (((za.refl zq2 WX)).alloc _);have z37:Hid ((WX.alloc (.cells zra 54)).heap[WX.heap.size]? = some (.cells zra 54 (0,0))):=zz0 (ze WX _);have y37:Hid (WX.heap.size≤WX.heap.size):=zz0 (((za.refl zq2 WX)).size);have l37:Hid (WX.heap.size<(WX.alloc (.cells zra 54)).heap.size):=zz0 (lt_of_block z37.out);obtain⟨v37,hv37⟩:∃v37,v37=WX.alloc (.cells zra 54):=⟨_,rfl⟩;rw[←hv37] at k37 z37 l37;dsimp only[zra] at hv37
  try rw[←hv37]
  clear hv37;refine hK.out _ _ (LS.out v37 k37.out) (fun hHeld37=>?_)
  clear hK K
  try simp only[Act.put,List.setIfInBounds_toArray,List.set_cons_zero,List.set_cons_succ]
  refine rc (i:=4) (fun K hK=>?_)
  go_simp;refine(CH.out v37 k37.out).mono ?_;rintro e w38 ⟨va38,vc38,rfl,t38,m38⟩;have M38:=zz0 m38;clear m38;have k38:=zz0 ((k37.out).trans1 t38);have z38:=zz0 (zh t38 z37.out);have l38:=zz0 (Nat.lt_of_lt_of_le (l37.out) t38.size);clear t38
  go_wp2_with fail
  refine hK.out _ _ (LS.out w38 k38.out) (fun hHeld38=>?_)
  clear hK K
  try simp only[Act.put,List.setIfInBounds_toArray,List.set_cons_zero,List.set_cons_succ]
  refine rc (i:=20) (fun K hK=>?_)
  go_simp;refine(NX.out w38 va38 vc38 _ k38.out M38.out).mono ?_;rintro e w39 ⟨v6,rfl,t39,o39⟩;obtain⟨a6,c6,rfl⟩:∃a c',v6 = .slice a m.parts.length c':=by obtain⟨a,c',e,_,_⟩:=zb o39;exact⟨a,c',e⟩
  have k39:=zz0 ((k38.out).trans1 t39);have O39:=zz0 o39;have z39:=zz0 (zh t39 z38.out);clear t39 o39
  go_wp2_with fail
  refine hK.out _ _ (LS.out w39 k39.out) (fun hHeld39=>?_)
  clear hK K
  try simp only[Act.put,List.setIfInBounds_toArray,List.set_cons_zero,List.set_cons_succ]
  refine tq 21 ?_;refine tq 22 ?_;refine tq 23 ?_;refine rc (i:=25) (fun K hK=>?_)
  have hst:=zax w39 WX.heap.size m a6 m.parts.length c6 zra M32.out rfl z39.out;have E:=zz0 (zgp (m:=m) k39.out z39.out y37.out O39.out l38.out);go_simp;refine hK.out _ _ (LS.out _ E.out.kp) (fun hHeld43=>?_)
  clear hK K
  try simp only[Act.put,List.setIfInBounds_toArray,List.set_cons_zero,List.set_cons_succ]
  refine tq 26 ?_;refine wpAnyH_done (by as_aux_lemma=>kernel_rfl) ?_ _
  refine NoPanic.normal ?_;have e0:=E.out;generalize (w39.setRow _ _)=W5 at e0 ⊢;generalize WX.heap.size=nb at e0 ⊢;have E6:=zz0 e0
  try clear hst
  clear e0 E;clear O39
  try clear hHeld37
  try clear hHeld38
  try clear hHeld39
  try clear hHeld43
  clear M38;revert va38 vc38 a6 c6 W5 nb;exact FIN.out
 intro va0 vc0 a6 c6 W5 nb E6
 go_wp2_with fail
 obtain⟨wd,hwd⟩:∃wd,wd=W5.drew:=⟨_,rfl⟩;have HD:Hid (W5.drew=wd):=zz0 hwd.symm;have K5:Hid (za zq2 W5 wd):=zz0 (by rw[hwd];exact(za.refl _ _).drew)
 have KWD:Hid (za zq2 w wd):=zz0 (KX.out.trans1 (E6.out.kp.trans1 K5.out));have hnw:w.heap.size≤nb:=Nat.le_trans KX.out.size E6.out.lo;have hbw:b<w.heap.size:=lt_of_block H.out.vt;have LM:Hid (∀W,za (fun g=>F g∨g=b) wd W→W.cell? ⟨x,0,none⟩=some (.pointer (some ⟨b,0,none⟩))∧(zZ 54 ⟨nb,0,none⟩).run Tryz.prog W = .ok (zq7 m (.slice a6 m.parts.length c6)) W):=zz0 (fun W k=>by
  have h1:=k.at (zh KWD.out H.out.ex) (fun e=>by rcases e with e|e;exact H.out.out.1 e;exact H.out.out.2.2.1 e)
  have h2:=k.at (zh K5.out E6.out.bx) (fun e=>by rcases e with e|e;(have:=(H.out.low _ e).2;omega);omega)
  exact⟨ex_0 h1,zO h2 M32.out⟩)
 have LM0:=zz0 (LM.out wd (za.refl _ _));have LM1:Hid (W5.drew.cell? ⟨x,0,none⟩=some (.pointer (some ⟨b,0,none⟩))∧(zZ 54 ⟨nb,0,none⟩).run Tryz.prog W5.drew = .ok (zq7 m (.slice a6 m.parts.length c6)) W5.drew):=zz0 (by rw[HD.out];exact LM0.out)
 have CM:=zz0 (CM0.out wd _ KWD.out (zC.of (zc E6.out.row K5.out (fun _ _ e=>e)) P32.out))
 have HNW:=zz0 hnw;have HBW:=zz0 hbw;clear hwd CM0 hnw hbw;refine wp_region_noPanic ?_;refine wp_region_held_drew (S:=fun W=>W.cell? ⟨x,0,none⟩=some (.pointer (some ⟨b,0,none⟩))∧(zZ 54 ⟨nb,0,none⟩).run Tryz.prog W = .ok (zq7 m (.slice a6 m.parts.length c6)) W) (by as_aux_lemma=>kernel_rfl) LM1.out (fun hHeld=>?_)
 refine tq 0 ?_;refine tq 1 ?_;refine tq 2 ?_;refine tq 3 ?_;refine tq 4 ?_;rw[HD.out];clear hHeld;have hHeld:=LM0.out;refine rc (i:=5) (fun K hK=>?_)
 go_simp;refine CM.out.mono ?_;rintro e w9 ⟨rfl,t9⟩
 go_wp2_with fail
 refine hK.out _ _ (LM.out w9 (t9.1.mono (fun _ _ y=>.inl y))) (fun hHeld50=>?_)
 clear hK K
 try simp only[Act.put,List.setIfInBounds_toArray,List.set_cons_zero,List.set_cons_succ]
 refine tq 6 ?_;refine wpAnyH_done (by as_aux_lemma=>kernel_rfl) ?_ _
 refine NoPanic.normal ?_
 go_wp2_with fail
 go_ret;obtain⟨k9,F',s',d'⟩:=t9;have KF:za F w w9:=KWD.out.ofNon.trans k9 (fun _ _ y=>y) (fun _ _ y=>y)
 have sub:zq5 F' F w:=fun g y=>by
  rcases s' g y with z|z
  ·exact .inl z
  ·exact .inr (Nat.le_trans KWD.out.size z)
 refine⟨rfl,fun g=>F' g∧g<w9.heap.size,.slice pa c.parts.length pc,fun g y=>sub g y.1,KF.mono (fun _ _ y=>.inl y),?_⟩
 refine H.out.turn (KF.mono (fun _ _ y=>.inl y)) (fun g y=>sub g y.1) (fun g y=>y.2) d'.low (KF.at H.out.ex H.out.out.1) (zc H.out.row KF (fun g y=>(H.out.pvo g y).1)) (fun g y=>?_)
 obtain⟨h1,h2,h3,h4'⟩:=H.out.pvo g y;refine⟨fun z=>?_,h2,h3,h4'⟩
 have:=(H.out.row.lt g y).2;rcases sub g z.1 with u|u
 ·exact h1 u
 ·omega
end
end Go.Proofs.YtpojgmeoaflmoaaGreatDoor
