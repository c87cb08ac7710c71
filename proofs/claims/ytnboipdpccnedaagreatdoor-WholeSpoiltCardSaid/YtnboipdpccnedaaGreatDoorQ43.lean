/- (*Restore).save in the world at hand; (*Restore).item over its callees: walked. · Restoring's log: two units, a hole put, trimmed at 0, cut at 1. · A  -/
import Derived.Test.YtnboipdpccnedaaGreatDoorQ42
set_option linter.unusedVariables false
set_option maxRecDepth 100000
set_option maxHeartbeats 16000000
namespace Go.Proofs.YtnboipdpccnedaaGreatDoor
open Go.RowKit Go.Maps
def cuAt (u N M:Nat):Cu:=⟨u,u,N,M,[]⟩
theorem zm4 (F:Nat→Prop) (x b lb q p N B M t u:Nat) (ia:Option Addr) (il ic:Nat) (X Z:Dk) (w:World) (hx:w.heap[x]? = some (RsB b lb q N B M (.slice ia il ic) t false)) (hxF:¬ F x)
    (d:StoreAt F w q p X) (hF:∀ g,F g→g < w.heap.size) (hlim:X.lim 2 2 20000) (okc:okCu (cuAt u N M)) (hsv:X.sput rname (cuBy (cuAt u N M))=(0,Z)) :
    Calls Tryz.prog 108 #[.pointer (some ⟨x,0,none⟩),.int .i64 u] w fun e w'=>e = .returned .nilIface∧∃ F',Keep (fun g=>F g∨g=x) w w'∧Sub F' F w∧(∀ g,F' g→g < w'.heap.size∧g≠x)∧StoreAt F' w' q p Z∧w'.heap[x]? = some (RsB b lb q N B M (.slice ia il ic) u false):=by
  have hxl:x < w.heap.size:=by
    rcases Nat.lt_or_ge x w.heap.size with h | h
    · exact h
    · rw [Array.getElem?_eq_none h] at hx;cases hx
  refine (zik x b lb q N B M t u ia il ic (StoreTo F w q p Z) w hx ?_ ?_).mono ?_
  · rintro w' ⟨kk,_⟩
    exact kk.at hx hxF
  · intro W kW
    have hp:PtsAt W (.slice none 0 0) (cuAt u N M).parts:=PtsAt.of (B:=0) (World.ownsRow_nil _ _ _ _) (fun p hp=>by cases hp)
    have:=zcj F q p (cuAt u N M) (.slice none 0 0) rname X _ _ _ W (d.keep kW (fun _ _ e=>e)) hlim (by omega) (by omega) (by omega) (fun g y=>kW.lt (hF g y)) zdy okc hp (by have:=zbt okc;omega)
    rw [hsv] at this
    refine this.mono ?_
    rintro e w' ⟨rfl,kk,F',s',d'⟩
    refine ⟨rfl,(kW.ofNon.trans kk (fun _ _ y=>y) (fun _ _ y=>y)),F',fun g y=>?_,d'⟩
    rcases s' g y with u | u
    · exact .inl u
    · exact .inr (Nat.le_trans kW.size u)
  · rintro e w' ⟨rfl,w1,⟨kk,F',s',d'⟩,rfl⟩
    have hn:∀ g,F' g→g≠x:=fun g y e=>by
      rcases s' g y with u | u
      · exact hxF (e ▸ u)
      · omega
    have b1:=kk.at hx hxF
    have k6:Keep (One x) w1 (w1.setCell ⟨x,7,none⟩ (.int .i64 u)):=(Keep.refl _ _).setOne _ _
    refine ⟨rfl,fun g=>F' g∧g < w1.heap.size,kk.trans k6 (fun _ _ e=>.inl e) (fun _ _ e=>.inr e),fun g y=>s' g y.1,fun g y=>⟨k6.lt y.2,hn g y.1⟩,d'.low.keep k6 (fun g y e=>hn g y.1 e),zk9 b1 u⟩
def ItL:Obj:=.cells #[.int .i64 0,.int .i64 0,.int .i64 0,.int .i64 1] 257 (0,0)
def SgL (a:Option Addr) (c:Nat):Obj:=.cells #[.int .i64 0,.slice a 1 c] 109 (0,0)
def GtE (WX W:World) (sb:Nat) (a:Option Addr) (c:Nat):Prop:=W.heap[sb]? = some (SgL a c)∧Keep Non WX W∧∀ W2,Keep Non W W2→Calls Tryz.prog 226 #[.agg #[.int .i64 0,.slice a 1 c],.int .i64 0] W2 fun e w2=>∃ xa xc,e = .returned (.tuple #[.agg #[.int .i64 2,.slice xa 0 xc],.bool true])∧Keep Non W2 w2
theorem zom {WX w1:World} {B c:Nat} {a:Option Addr} (k:Keep Non WX w1) (h:∀ W2,Keep (fun g=>g < B) w1 W2→Calls Tryz.prog 226 #[.agg #[.int .i64 0,.slice a 1 c],.int .i64 0] W2 fun e w2=>∃ xa xc,e = .returned (.tuple #[.agg #[.int .i64 2,.slice xa 0 xc],.bool true])∧Keep Non W2 w2):GtE WX (w1.alloc (SgL a c)) w1.heap.size a c :=
  ⟨zab w1 _,k.alloc _,fun W2 k2=>h W2 ((((Keep.refl Non w1).alloc _).trans1 k2).ofNon)⟩
theorem zon {WX w1:World} {B c sb:Nat} {a:Option Addr} (k:Keep Non WX w1) (z:w1.heap[sb]? = some (SgB 0 (.slice none 0 0))) (y:WX.heap.size≤sb) (l:sb < B) (h:∀ W2,Keep (fun g=>g < B) w1 W2→Calls Tryz.prog 226 #[.agg #[.int .i64 0,.slice a 1 c],.int .i64 0] W2 fun e w2=>∃ xa xc,e = .returned (.tuple #[.agg #[.int .i64 2,.slice xa 0 xc],.bool true])∧Keep Non W2 w2):GtE WX ((w1.setCell ⟨sb,0,none⟩ (.int .i64 0)).setCell ⟨sb,1,none⟩ (.slice a 1 c)) sb a c:=by
  have kf:Keep (One sb) w1 ((w1.setCell ⟨sb,0,none⟩ (.int .i64 0)).setCell ⟨sb,1,none⟩ (.slice a 1 c)):=((Keep.refl _ _).setOne _ _).setOne _ _
  refine ⟨zaf (zaf z 0 _) 1 _,k.trans kf (fun _ _ e=>e) (fun g hg e=>by have e':g=sb:=e;omega),fun W2 k2=>h W2 (kf.trans k2 (fun g _ e=>by have e':g=sb:=e;show g < B;omega) (fun _ _ e=>e.elim))⟩
theorem znb {w1:World} {sb:Nat} (z:w1.heap[sb]? = some (SgB 0 (.slice none 0 0))):w1.cell? ⟨sb,0,none⟩=some (.int .i64 0)∧w1.cell? ⟨sb,1,none⟩=some (.slice none 0 0)∧w1.frozen? ⟨sb,0,none⟩=false∧w1.frozen? ⟨sb,1,none⟩=false:=⟨sg_0 z,sg_1 z,sg_f z 0,sg_f z 1⟩
theorem sgl_0 {w:World} {p c:Nat} {a:Option Addr} (h:w.heap[p]? = some (SgL a c)):w.cell? ⟨p,0,none⟩=some (.int .i64 0)∧w.cell? ⟨p,1,none⟩=some (.slice a 1 c):=⟨by simp [World.cell?,h,SgL],by simp [World.cell?,h,SgL]⟩
theorem zm0 (x b lb q:Nat) (iv:Value) (Q1:World→World→Prop) (Q2:World→Prop) (w:World) (hx:w.heap[x]? = some (RsB b lb q 1 0 0 iv 0 false))
    (hget:∀ W,Keep Non w W→Calls Tryz.prog 48 #[.pointer (some ⟨b,0,none⟩),.int .i64 0,.int .i64 0] W fun e w'=>∃ a c,e = .returned (.tuple #[.agg #[.int .i64 0,.slice a 1 c],.nilIface])∧Keep Non W w'∧∀ W2,Keep (fun g=>g < W.heap.size) w' W2→Calls Tryz.prog 226 #[.agg #[.int .i64 0,.slice a 1 c],.int .i64 0] W2 fun e w2=>∃ xa xc,e = .returned (.tuple #[.agg #[.int .i64 2,.slice xa 0 xc],.bool true])∧Keep Non W2 w2)
    (hput:∀ W xa xc,Keep Non w W→Calls Tryz.prog 22 #[.pointer (some ⟨lb,0,none⟩),.int .i64 0,.agg #[.int .i64 2,.slice xa 0 xc]] W fun e w'=>e = .returned .nilIface∧Q1 W w')
    (hQ:∀ W w',Keep Non w W→Q1 W w'→∀ g o,w.heap.size≤g→W.heap[g]? = some o→w'.heap[g]? = some o)
    (hsave:∀ W w1,Keep Non w W→Q1 W w1→Calls Tryz.prog 108 #[.pointer (some ⟨x,0,none⟩),.int .i64 1] w1 fun e w'=>e = .returned .nilIface∧Q2 w') :
    Calls Tryz.prog 165 #[.pointer (some ⟨x,0,none⟩),.agg #[.int .i64 0,.int .i64 0,.int .i64 0,.int .i64 1]] w fun e w'=>e = .returned .nilIface∧Q2 w':=by
  obtain ⟨WX,hWX⟩:∃ WX,WX=(w.alloc ItL).drew:=⟨_,rfl⟩
  have KX:Hid (Keep Non w WX):=zz0 (by rw [hWX];exact ((Keep.refl _ _).alloc _).drew)
  have IX:Hid (WX.heap[w.heap.size]? = some ItL):=zz0 (by rw [hWX];exact zab w ItL)
  have HX:=zz0 hx
  have LS:Hid (∀ W,Keep Non WX W→W.cell? ⟨x,0,none⟩=some (.pointer (some ⟨b,0,none⟩))∧W.cell? ⟨w.heap.size,0,none⟩=some (.int .i64 0)∧W.cell? ⟨w.heap.size,1,none⟩=some (.int .i64 0)):=zz0 (fun W k=>by
    obtain ⟨i0,i1,_,_,_⟩:=zaQ (nonAt k IX.out)
    exact ⟨rs_0 (nonAt (KX.out.trans1 k) HX.out),i0,i1⟩)
  have GT:=zz0 (fun W (k:Keep Non WX W)=>hget W (KX.out.trans1 k))
  have HW:Hid ((w.alloc (.cells #[.int .i64 0,.int .i64 0,.int .i64 0,.int .i64 1] 257)).drew=WX):=zz0 hWX.symm
  have LS0:=LS.out WX (Keep.refl _ _)
  rw [← HW.out] at LS0
  have LS1:=zz0 LS0
  have PU:=zz0 hput
  have HQ:=zz0 hQ
  have SV:=zz0 hsave
  clear hx hget hput hQ hsave hWX LS0
  go_enter Tryz.func165,Tryz.ntmps165
  go_wp2_with fail
  refine (fun (FIN2:Hid ?T2)=>?main2) (zz0 ?fin2)
  case' main2=>refine wp_region_noPanic ?_
  refine wp_region_held_drew (S:=fun W=>W.cell? ⟨x,0,none⟩=some (.pointer (some ⟨b,0,none⟩))∧W.cell? ⟨w.heap.size,0,none⟩=some (.int .i64 0)∧W.cell? ⟨w.heap.size,1,none⟩=some (.int .i64 0)) (by as_aux_lemma=>kernel_rfl) LS1.out (fun hHeld=>?_)
  refine tq 0 ?_;refine tq 1 ?_;refine tq 2 ?_;refine tq 3 ?_;refine tq 4 ?_;refine tq 5 ?_;refine tq 6 ?_;refine tq 7 ?_
  rw [HW.out]
  clear hHeld
  have hHeld:=LS.out WX (Keep.refl _ _)
  refine wpAnyH_ready (rs:=[8,12]) (by as_aux_lemma=>kernel_rfl) (by simp) ?_
  refine AllReadyH.cons (by simp only [List.getElem?_toArray,List.getElem?_cons_succ,List.getElem?_cons_zero];rfl) (fun K hK=>?arm9_8) (AllReadyH.cons (by simp only [List.getElem?_toArray,List.getElem?_cons_succ,List.getElem?_cons_zero];rfl) (fun K hK=>?arm9_12) AllReadyH.nil)
  case' arm9_8 =>
    go_simp
    refine (GT.out WX (Keep.refl Non WX)).mono ?_
    rintro e w10 ⟨a,c,rfl,t10,h10⟩
    have k10:=zz0 (((Keep.refl Non WX)).trans1 t10)
    have h10':=zz0 h10
    clear t10 h10
    go_wp2_with fail
    refine hK.out _ _ (LS.out w10 k10.out) (fun hHeld10=>?_)
    clear hK K
    try simp only [Act.put,List.setIfInBounds_toArray,List.set_cons_zero,List.set_cons_succ]
    refine tq 9 ?_;refine tq 10 ?_;refine tq 11 ?_
    refine rc (i:=12) (fun K hK=>?_)
    go_simp
    have E:=zz0 (zom k10.out h10'.out)
    refine hK.out _ _ (LS.out _ ((k10.out).alloc _)) (fun hHeld14=>?_)
    clear hK K
    try simp only [Act.put,List.setIfInBounds_toArray,List.set_cons_zero,List.set_cons_succ]
    refine rc (i:=13) (fun K hK=>?_)
    go_simp
    refine hK.out _ _ (LS.out _ ((k10.out).alloc _)) (fun hHeld15=>?_)
    clear hK K
    try simp only [Act.put,List.setIfInBounds_toArray,List.set_cons_zero,List.set_cons_succ]
    refine tq 14 ?_
    refine wpAnyH_done (by as_aux_lemma=>kernel_rfl) ?_ _
    refine NoPanic.normal ?_
    have e0:=E.out
    dsimp only [SgL] at e0
    generalize (w10.alloc _)=W5 at e0 ⊢
    generalize w10.heap.size=nb at e0 ⊢
    have E6:=zz0 e0
    clear e0 E
    clear h10'
    try clear hHeld10
    try clear hHeld14
    try clear hHeld15
    revert a c W5 nb
    exact FIN2.out
  case' arm9_12 =>
    go_simp
    have k17:Hid (Keep Non WX (WX.alloc (.cells #[.int .i64 0,.slice none 0 0] 109))):=zz0 (((Keep.refl Non WX)).alloc _)
    have z17:Hid ((WX.alloc (.cells #[.int .i64 0,.slice none 0 0] 109)).heap[WX.heap.size]? = some (SgB 0 (.slice none 0 0))):=zz0 (zab WX _)
    have y17:Hid (WX.heap.size≤WX.heap.size):=zz0 (((Keep.refl Non WX)).size)
    have l17:Hid (WX.heap.size < (WX.alloc (.cells #[.int .i64 0,.slice none 0 0] 109)).heap.size):=zz0 (lt_of_block z17.out)
    obtain ⟨v17,hv17⟩:∃ v17,v17=WX.alloc (.cells #[.int .i64 0,.slice none 0 0] 109):=⟨_,rfl⟩
    rw [← hv17] at k17 z17 l17
    try rw [← hv17]
    clear hv17
    refine hK.out _ _ (LS.out v17 k17.out) (fun hHeld17=>?_)
    clear hK K
    try simp only [Act.put,List.setIfInBounds_toArray,List.set_cons_zero,List.set_cons_succ]
    refine rc (i:=8) (fun K hK=>?_)
    go_simp
    refine (GT.out v17 k17.out).mono ?_
    rintro e w18 ⟨a,c,rfl,t18,h18⟩
    have k18:=zz0 ((k17.out).trans1 t18)
    have h18':=zz0 h18
    have z18:=zz0 (nonAt t18 z17.out)
    clear t18 h18
    go_wp2_with fail
    refine hK.out _ _ (LS.out w18 k18.out) (fun hHeld18=>?_)
    clear hK K
    try simp only [Act.put,List.setIfInBounds_toArray,List.set_cons_zero,List.set_cons_succ]
    refine tq 9 ?_;refine tq 10 ?_;refine tq 11 ?_
    refine rc (i:=13) (fun K hK=>?_)
    obtain ⟨y0,y1,z0,z1⟩:=znb z18.out
    have E:=zz0 (zon k18.out z18.out y17.out l17.out h18'.out)
    go_simp
    refine hK.out _ _ (LS.out _ E.out.2.1) (fun hHeld22=>?_)
    clear hK K
    try simp only [Act.put,List.setIfInBounds_toArray,List.set_cons_zero,List.set_cons_succ]
    refine tq 14 ?_
    refine wpAnyH_done (by as_aux_lemma=>kernel_rfl) ?_ _
    refine NoPanic.normal ?_
    have e0:=E.out
    clear y0 y1 z0 z1
    generalize (World.setCell (World.setCell w18 _ _) _ _)=W5 at e0 ⊢
    generalize WX.heap.size=nb at e0 ⊢
    have E6:=zz0 e0
    clear e0 E
    clear h18'
    try clear hHeld17
    try clear hHeld18
    try clear hHeld22
    revert a c W5 nb
    exact FIN2.out
  intro a c W5 nb E6
  have KZ:Hid (Keep Non w W5):=zz0 (KX.out.trans1 E6.out.2.1)
  have c7:W5.cell? ⟨x,7,none⟩=some (.int .i64 0):=rs_7 (nonAt KZ.out HX.out)
  obtain ⟨_,_,i2,i3,_⟩:=zaQ (nonAt E6.out.2.1 IX.out)
  obtain ⟨g0,g1⟩:=sgl_0 E6.out.1
  have AT5:=zz0 (E6.out.2.2 W5.drew (Keep.refl Non W5).drew)
  go_wp2_with fail
  refine (fun (FIN3:Hid ?T3)=>?main3) (zz0 ?fin3)
  case' main3 =>
    go_region_law go_simp
    all_goals exact FIN3.out
  go_wp2_with fail
  refine wp_loop_rounds 2 ?_
  rw [rounds_succ]
  go_wp2_with (go_at_call 226;go_loud (((with_reducible refine AT5.out.mono ?_);rintro e w6 ⟨xa,xc,rfl,k6⟩);have K6:=zz0 k6;clear k6;have kw:=(K6.out.alloc (.cells #[.int .i64 2,.slice xa 0 xc] 60 (0,0)));have K7:=zz0 (KZ.out.drew.trans1 kw);have I7:=zz0 (nonAt kw (nonAt E6.out.2.1.drew IX.out));have C7:=zz0 (zab w6 (.cells #[.int .i64 2,.slice xa 0 xc] 60 (0,0)));have d0:(w6.alloc (.cells #[.int .i64 2,.slice xa 0 xc] 60 (0,0))).cell? ⟨w6.heap.size,0,none⟩=some (.int .i64 2):=cl0 (k:=2) C7.out;have d1:(w6.alloc (.cells #[.int .i64 2,.slice xa 0 xc] 60 (0,0))).cell? ⟨w6.heap.size,1,none⟩=some (.slice xa 0 xc):=cl1 (k:=2) C7.out;have x1:=rs_1 (nonAt K7.out HX.out);clear kw))
  go_region_law (go_simp;go_at_call 22;refine (PU.out _ xa xc K7.out.drew).mono ?_;rintro e w8 ⟨rfl,q8⟩;have Q8:=zz0 q8;have I8:=zz0 (HQ.out _ w8 K7.out.drew q8 w.heap.size ItL (Nat.le_refl _) (by exact I7.out));have SV8:=zz0 (SV.out _ w8 K7.out.drew q8);clear q8)
  all_goals
    obtain ⟨_,_,_,l3,_⟩:=zaQ I8.out
    go_wp2_with fail
    rw [rounds_succ]
    go_wp2_with (go_at_call 108;((with_reducible refine SV8.out.mono ?_);rintro e w9 ⟨rfl,q9⟩))
    go_ret
    exact ⟨rfl,q9⟩
def lA:Lg:=⟨List.replicate 2 (sh1 16777216),1,0,1⟩
def sHo:Sh:=(sh1 16777216).did (actBy 3 1 0 []) 1 0 (uput (.map []) 0 (2,[]))
def lB:Lg:=⟨[sHo,sh1 16777216],1,1,1⟩
def lC:Lg:=⟨[trimS 0 sHo,trimS 0 (sh1 16777216)],1,1,1⟩
def lD:Lg:=⟨[cutS 2 1 (trimS 0 sHo),cutS 2 1 (trimS 0 (sh1 16777216))],2,1,2⟩
theorem zim:(sh1 16777216).ok:=zli.did (by decide) (zap 1 1 0 [] (by omega) (by omega) (by omega) (by simp)) (Nat.le_succ _)
theorem znO:sHo.ok:=zim.did (by decide) (zap 3 1 0 [] (by omega) (by omega) (by omega) (by simp)) (by decide)
theorem zqa:(trimS 0 (sh1 16777216)).ok:=zim.did (by decide) (zap 4 1 0 [] (by omega) (by omega) (by omega) (by simp)) (by decide)
theorem znT:(trimS 0 sHo).ok:=znO.did (by decide) (zap 4 1 0 [] (by omega) (by omega) (by omega) (by simp)) (by decide)
theorem zp3 {F:Nat→Prop} {b xc:Nat} {xa:Option Addr} (w:World) (h:LgAt F w b 2 lA) (hlay:Lay w) :
    Calls Tryz.prog 22 #[.pointer (some ⟨b,0,none⟩),.int .i64 0,.agg #[.int .i64 2,.slice xa 0 xc]] w fun r w'=>r = .returned .nilIface∧LgTo F w b 2 lB w':=by
  refine (zh5 (a:=0) (m:=0) (k:=2) (L2:=⟨[sHo,sh1 16777216],1,0,1⟩) w h rfl rfl (by omega) (zkm 0) (by omega) (by decide) (.inr rfl) ?_).mono ?_
  · intro W F' kk hF' hW
    have ac:=zfW (s:=sh1 16777216) zim (by decide) 0 (by decide) (by omega) (by decide) (by decide)
    exact ze4 (u:=0) (e:=1) (a:=0) (pa:=xa) (m:=0) (c:=xc) (L:=lA) (s:=sh1 16777216) (s2:=sHo) Any W hW rfl (hlay.keepNon kk) ac (fun _ _ _ _=>trivial)
  · rintro r w' ⟨rfl,t⟩
    exact ⟨rfl,t⟩
theorem zpk {F:Nat→Prop} {b:Nat} (w:World) (h:LgAt F w b 2 lB) (hlay:Lay w) :
    Calls Tryz.prog 227 #[.pointer (some ⟨b,0,none⟩),.int .i64 0] w fun r w'=>r = .returned .nilIface∧LgTo F w b 2 lC w':=by
  refine (zku (a:=0) (L:=lB) w h hlay (by omega) rfl (by omega) rfl ?_).mono ?_
  · intro s hs
    rcases List.mem_cons.1 hs with rfl | hs
    · exact ⟨znO,by decide,rfl,by decide⟩
    · rcases List.mem_cons.1 hs with rfl | hs
      · exact ⟨zim,by decide,rfl,by decide⟩
      · cases hs
  · rintro r w' ⟨rfl,t⟩
    exact ⟨rfl,t⟩
theorem zpN {F:Nat→Prop} {b:Nat} (w:World) (h:LgAt F w b 2 lC) (hlay:Lay w) :
    Calls Tryz.prog 228 #[.pointer (some ⟨b,0,none⟩),.int .i64 1] w fun r w'=>r = .returned .nilIface∧LgTo F w b 2 lD w':=by
  refine (zms (a:=1) (E:=2) (L:=lC) w h hlay (by omega) rfl (by omega) rfl rfl (by omega) ?_).mono ?_
  · intro s hs
    rcases List.mem_cons.1 hs with rfl | hs
    · exact ⟨znT,by decide,rfl,by decide⟩
    · rcases List.mem_cons.1 hs with rfl | hs
      · exact ⟨zqa,by decide,rfl,by decide⟩
      · cases hs
  · rintro r w' ⟨rfl,t⟩
    exact ⟨rfl,t⟩
theorem lD_at:uat (cutS 2 1 (trimS 0 sHo)).l (cutS 2 1 (trimS 0 sHo)).D 0=(2,[]):=by decide
structure RsIn (F FL:Nat→Prop) (w0 W:World) (b lb x q p c t:Nat) (ad:Addr) (Z:Dk) (L:Lg):Prop where
  keep:Keep Non w0 W
  lo:∀ g,F g→w0.heap.size≤g∧g < W.heap.size
  loL:∀ g,FL g→w0.heap.size≤g∧g < W.heap.size
  apart:∀ g,F g→¬ FL g
  xn:w0.heap.size≤x∧¬ F x∧¬ FL x
  an:w0.heap.size≤ad.block∧ad.block < W.heap.size∧¬ F ad.block∧¬ FL ad.block∧ad.block≠x
  st:StoreAt F W q p Z
  lg:LgAt FL W lb 2 L
  rs:W.heap[x]? = some (RsB b lb q 1 0 0 (.slice (some ad) 1 c) t false)
  it:ItAt W ad 0 0 0 1
section
variable {F FL : Nat → Prop} {w0 W w' : World} {b lb x q p c t : Nat} {ad : Addr} {Z : Dk} {L : Lg}
theorem RsIn.non (h:RsIn F FL w0 W b lb x q p c t ad Z L) (k:Keep Non W w'):RsIn F FL w0 w' b lb x q p c t ad Z L :=
  ⟨h.keep.trans1 k,fun g y=>⟨(h.lo g y).1,k.lt (h.lo g y).2⟩,fun g y=>⟨(h.loL g y).1,k.lt (h.loL g y).2⟩,h.apart,h.xn,⟨h.an.1,k.lt h.an.2.1,h.an.2.2⟩,h.st.keep k (fun _ _ e=>e),h.lg.keepNon k,nonAt k h.rs,h.it.keep k (fun e=>e)⟩
theorem RsIn.log (h:RsIn F FL w0 W b lb x q p c t ad Z L) {L':Lg} (k:LgTo FL W lb 2 L' w'):∃ FL',RsIn F FL' w0 w' b lb x q p c t ad Z L':=by
  obtain ⟨k,F',s,l⟩:=k
  have hxl:x < W.heap.size:=lt_of_block h.rs
  refine ⟨fun g=>F' g∧g < w'.heap.size,h.keep.trans k (fun _ _ e=>e) (fun g hg y=>by have:=(h.loL g y).1;omega),fun g y=>⟨(h.lo g y).1,k.lt (h.lo g y).2⟩,fun g y=>⟨?_,y.2⟩,fun g y z=>?_,⟨h.xn.1,h.xn.2.1,fun y=>?_⟩,⟨h.an.1,k.lt h.an.2.1,h.an.2.2.1,fun y=>?_,h.an.2.2.2.2⟩,h.st.keep k (fun g y=>h.apart g y),l.low,k.at h.rs h.xn.2.2,h.it.keep k h.an.2.2.2.1⟩
  · rcases s g y.1 with u | u
    · exact (h.loL g u).1
    · have:=h.keep.size;omega
  · rcases s g z.1 with u | u
    · exact h.apart g y u
    · have:=(h.lo g y).2;omega
  · rcases s x y.1 with u | u
    · exact h.xn.2.2 u
    · omega
  · rcases s _ y.1 with u | u
    · exact h.an.2.2.2.1 u
    · have:=h.an.2.1;omega
theorem RsIn.saved (h:RsIn F FL w0 W b lb x q p c t ad Z L) {F':Nat→Prop} {u:Nat} {Z':Dk} (k:Keep (fun g=>F g∨g=x) W w') (s:Sub F' F W) (f:∀ g,F' g→g < w'.heap.size∧g≠x) (d:StoreAt F' w' q p Z') (r:w'.heap[x]? = some (RsB b lb q 1 0 0 (.slice (some ad) 1 c) u false)):RsIn F' FL w0 w' b lb x q p c u ad Z' L:=by
  refine ⟨h.keep.trans k (fun _ _ e=>e) (fun g hg y=>?_),fun g y=>⟨?_,(f g y).1⟩,fun g y=>⟨(h.loL g y).1,k.lt (h.loL g y).2⟩,fun g y z=>?_,⟨h.xn.1,fun y=>(f x y).2 rfl,h.xn.2.2⟩,⟨h.an.1,k.lt h.an.2.1,fun y=>?_,h.an.2.2.2⟩,d,h.lg.keep k (fun g y z=>?_),r,h.it.keep k (fun z=>?_)⟩
  · rcases y with y | y
    · have:=(h.lo g y).1;omega
    · have:=h.xn.1;omega
  · rcases s g y with u | u
    · exact (h.lo g u).1
    · have:=h.keep.size;omega
  · rcases s g y with u | u
    · exact h.apart g u z
    · have:=(h.loL g z).2;omega
  · rcases s _ y with u | u
    · exact h.an.2.2.1 u
    · have:=h.an.2.1;omega
  · rcases z with z | z
    · exact h.apart g z y
    · exact h.xn.2.2 (z ▸ y)
  · rcases z with z | z
    · exact h.an.2.2.1 z
    · exact h.an.2.2.2.2 z
end
structure RvIn (F0 T:Nat→Prop) (w0:World) (b q0 p0:Nat) (lv:Value) (m:Mf) (X0:Dk):Prop where
  hb:w0.heap[b]? = some (VtB q0 lv)
  st:StoreAt F0 w0 q0 p0 X0
  up:X0.down=false
  lay:Lay w0
  ms:MsAt T w0 lv [m]
  ok:okMf m
  num:m.num=0
  lo:m.lo=0
  hi:m.hi=1
  trim:m.trim=0
  parts:m.parts = [ptOf 0 [(2,[])]]
  has:fhas X0.shown (labelN 0 0)=true
  get:fget X0.shown (labelN 0 0)=segB 0 [(2,[])]
theorem zkl:okCl ((2:Int),([]:Byt)):=⟨by show (0:Int)≤2;omega,by show (2:Int)≤3;omega,by show 0≤64;omega,fun _=>rfl⟩
theorem zp4 {F0 T F FL:Nat→Prop} {w0 W:World} {b q0 p0 lb x q p c:Nat} {lv:Value} {m:Mf} {ad:Addr} {X0 Z Z2:Dk} (v:RvIn F0 T w0 b q0 p0 lv m X0) (h:RsIn F FL w0 W b lb x q p c 0 ad Z lA) (hlim:Z.lim 2 2 20000) (hsv:Z.sput rname (cuBy (cuAt 1 1 0))=(0,Z2)) :
    Calls Tryz.prog 165 #[.pointer (some ⟨x,0,none⟩),itV 0 0 0 1] W fun e w'=>e = .returned .nilIface∧∃ F' FL',RsIn F' FL' w0 w' b lb x q p c 1 ad Z2 lB:=by
  have okc:okCu (cuAt 1 1 0):=⟨trivial,rfl,Nat.le_refl _,by show 1≤1048576;omega,by show 0≤1048576;omega,by show 0≤64;omega⟩
  refine zm0 x b lb q (.slice (some ad) 1 c) (fun W1 w1=>LgTo FL W1 lb 2 lB w1) (fun w'=>∃ F' FL',RsIn F' FL' w0 w' b lb x q p c 1 ad Z2 lB) W h.rs ?_ ?_ ?_ ?_
  · intro W1 k1
    have k:=h.keep.trans1 k1
    refine (zpz F0 T b q0 p0 0 0 lv m [(2,[])] X0 W1 (nonAt k v.hb) (v.st.keep k (fun _ _ e=>e)) v.up (v.lay.keepNon k) (v.ms.keepNon k) (by rw [v.parts];rfl) (by rw [v.parts];decide) (by omega) v.has v.get (by decide) (fun y hy=>by rcases List.mem_cons.1 hy with rfl | hy;exact zkl;cases hy) (by decide)).mono ?_
    rintro e w' ⟨v',rfl,k2,xs,o,qs⟩
    obtain ⟨a,cc,rfl,_,_⟩:=zaa o
    refine ⟨a,cc,rfl,k2,fun W2 k3=>?_⟩
    have cs:CsAt W2 (.slice a 1 cc) [(2,[])]:=CsAt.of (zac o k3 (fun g e y=>by have:=(o.lt g e).1;have y':g < W1.heap.size:=y;omega)) (qs.keep (S':=Non) k3 (fun g hg y=>by have y':g < W1.heap.size:=y;omega) (fun _ _ e=>e))
    refine (zo8 0 0 (.slice a 1 cc) [(2,[])] W2 cs (by decide) (fun y hy=>by rcases List.mem_cons.1 hy with rfl | hy;exact zkl;cases hy) (by omega) (by decide) (by decide)).mono ?_
    rintro e w2 ⟨v2,rfl,k4,o4⟩
    obtain ⟨xa,xc,rfl,_,_⟩:=zaa o4
    exact ⟨xa,xc,rfl,k4⟩
  · intro W1 xa xc k1
    exact zp3 W1 (h.lg.keepNon k1) (v.lay.keepNon (h.keep.trans1 k1))
  · intro W1 w1 k1 t g o hg ho
    exact t.1.at ho (fun y=>by have:=(h.loL g y).2;omega)
  · intro W1 w1 k1 t
    obtain ⟨FL',h2⟩:=(h.non k1).log t
    refine (zm4 F x b lb q p 1 0 0 0 1 (some ad) 1 c Z Z2 w1 h2.rs h2.xn.2.1 h2.st (fun g y=>(h2.lo g y).2) hlim okc hsv).mono ?_
    rintro e w' ⟨rfl,F',kk,s',f',d',r'⟩
    exact ⟨rfl,F',FL',h2.saved kk s' f' d' r'⟩
def RsOut (w0:World) (b lb x q c:Nat) (ad:Addr) (w':World):Prop :=
  Keep Non w0 w'∧(∃ FL',LgAt FL' w' lb 2 lD)∧w'.heap[x]? = some (RsB b lb q 1 0 0 (.slice (some ad) 1 c) 1 true)
theorem zoR {F FL:Nat→Prop} {w0 W:World} {b lb x q p c:Nat} {ad:Addr} {Z:Dk} (hlay:Lay w0) (h:RsIn F FL w0 W b lb x q p c 1 ad Z lB) (hm:Z.mild) (hmap:IsMap Z.shown) (hdel:(Z.sdel rname).1=0) :
    Calls Tryz.prog 166 #[.pointer (some ⟨x,0,none⟩)] W fun e w'=>e = .returned .nilIface∧RsOut w0 b lb x q c ad w':=by
  refine zoQ x b lb q 1 0 0 1 (some ad) 1 c (fun w'=>∃ FL',RsIn F FL' w0 w' b lb x q p c 1 ad Z lC) (fun w'=>∃ FL',RsIn F FL' w0 w' b lb x q p c 1 ad Z lD) (RsOut w0 b lb x q c ad) W h.rs ?_ ?_ ?_ ?_ ?_
  · rintro w' ⟨_,h'⟩
    exact h'.rs
  · rintro w' ⟨_,h'⟩
    exact h'.rs
  · intro W1 k1
    have h1:=h.non k1
    refine (zpk W1 h1.lg (hlay.keepNon h1.keep)).mono ?_
    rintro e w' ⟨rfl,t⟩
    exact ⟨rfl,h1.log t⟩
  · rintro w1 W1 ⟨FL',h1⟩ k1
    have h2:=h1.non k1
    refine (zpN W1 h2.lg (hlay.keepNon h2.keep)).mono ?_
    rintro e w' ⟨rfl,t⟩
    exact ⟨rfl,h2.log t⟩
  · rintro w2 ⟨FL',h2⟩
    have k8:Keep (One x) w2 (w2.setCell ⟨x,8,none⟩ (.bool true)):=(Keep.refl _ _).setOne _ _
    have d8:StoreAt F (w2.setCell ⟨x,8,none⟩ (.bool true)) q p Z:=h2.st.keep k8 (fun g y e=>by have e':g=x:=e;exact h2.xn.2.1 (e' ▸ y))
    have l8:LgAt FL' (w2.setCell ⟨x,8,none⟩ (.bool true)) lb 2 lD:=h2.lg.keep k8 (fun g y e=>by have e':g=x:=e;exact h2.xn.2.2 (e' ▸ y))
    have x8:=zla h2.rs true
    refine (zdX F q p rname Z _ d8 hm hmap zdy).mono ?_
    rintro e w' ⟨rfl,k,F',s,d⟩
    rw [hdel]
    refine ⟨rfl,?_,⟨FL',l8.keep k (fun g y z=>h2.apart g z y)⟩,k.at x8 h2.xn.2.1⟩
    have kk:=h2.keep.trans k8 (fun _ _ e=>e) (fun g hg e=>by have e':g=x:=e;have:=h2.xn.1;omega)
    exact kk.trans k (fun _ _ e=>e) (fun g hg y=>by have:=(h2.lo g y).1;omega)
theorem zoO {F0 T F FL:Nat→Prop} {w0 W:World} {b q0 p0 lb x q p c:Nat} {lv:Value} {m:Mf} {ad:Addr} {X0 Z Z2:Dk} (v:RvIn F0 T w0 b q0 p0 lv m X0) (h:RsIn F FL w0 W b lb x q p c 0 ad Z lA) (hlim:Z.lim 2 2 20000) (hsv:Z.sput rname (cuBy (cuAt 1 1 0))=(0,Z2))
    (hm:Z2.mild) (hmap:IsMap Z2.shown) (hdel:(Z2.sdel rname).1=0) :
    Calls Tryz.prog 50 #[.pointer (some ⟨x,0,none⟩)] W fun e w'=>∃ n:Nat,e = .returned (.tuple #[.int .i64 n,.nilIface])∧RsOut w0 b lb x q c ad w':=by
  refine (zmR x W 2 (by omega) (fun j W=>(j=2∧RsIn F FL w0 W b lb x q p c 0 ad Z lA)∨(j=1∧∃ F' FL',RsIn F' FL' w0 W b lb x q p c 1 ad Z2 lB)) (fun u w'=>u = .nilIface∧RsOut w0 b lb x q c ad w') (.inl ⟨rfl,h⟩) ?_).mono ?_
  · rintro j W1 (⟨rfl,h1⟩ | ⟨rfl,F',FL',h1⟩)
    · refine (zjb x b lb q 1 0 0 0 0 0 0 1 c ad (fun u w'=>u = .nilIface∧∃ F' FL',RsIn F' FL' w0 w' b lb x q p c 1 ad Z2 lB) W1 h1.rs h1.it (by omega) (fun W2 k=>?_)).mono ?_
      · refine (zp4 v (h1.non k) hlim hsv).mono ?_
        rintro e w' ⟨rfl,t⟩
        exact ⟨_,rfl,rfl,t⟩
      · rintro e w' ⟨u,rfl,rfl,t⟩
        exact .inl ⟨1,by omega,rfl,.inr ⟨rfl,t⟩⟩
    · refine (zlb x b lb q 1 0 0 1 0 0 0 1 c ad (fun u w'=>u = .nilIface∧RsOut w0 b lb x q c ad w') W1 h1.rs h1.it (by omega) (fun W2 k=>?_)).mono ?_
      · refine (zoR v.lay (h1.non k) hm hmap hdel).mono ?_
        rintro e w' ⟨rfl,t⟩
        exact ⟨rfl,rfl,t⟩
      · rintro e w' ⟨rfl,t⟩
        exact .inr (.inl ⟨rfl,t⟩)
  · rintro e w' ⟨n,u,rfl,rfl,t⟩
    exact ⟨n,rfl,t⟩
end Go.Proofs.YtnboipdpccnedaaGreatDoor
