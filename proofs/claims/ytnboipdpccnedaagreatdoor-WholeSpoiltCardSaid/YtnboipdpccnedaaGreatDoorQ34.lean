/- slog: Put, Read, has, Unit, Projection: walked. · slog.add: a unit more: walked. · slog.add: walked. · slog.Projection, export.low: walked. -/
import Derived.Test.YtnboipdpccnedaaGreatDoorQ31
set_option linter.unusedVariables false
set_option maxRecDepth 100000
set_option maxHeartbeats 16000000
namespace Go.Proofs.YtnboipdpccnedaaGreatDoor
open Go.RowKit Go.Maps
theorem zh4 {F:Nat→Prop} {b n a m xc:Nat} {k:Int} {xa:Option Addr} {L:Lg} (w:World) (h:LgAt F w b n L) (ha:a≤1048575) (hk:cellE k m≠0∨k=0∨k=3) :
    Calls Tryz.prog 22 #[.pointer (some ⟨b,0,none⟩),.int .i64 a,.agg #[.int .i64 k,.slice xa m xc]] w fun r w'=>(∃ e,r = .returned (errv e))∧Keep Non w w':=by
  have hcc:=zci k xa m xc
  have kA:Keep Non w (w.alloc (ClB k (.slice xa m xc))):=(Keep.refl _ _).alloc _
  have IN:=zz0 (zbN a 1048575 (w.alloc (ClB k (.slice xa m xc))) (by omega) (by omega))
  have AK:=zz0 (zcn b (w.alloc (ClB k (.slice xa m xc))))
  have KA:=zz0 kA
  clear kA h
  by_cases hc:cellE k m=0
  · have hk2:k=0∨k=3:=hk.resolve_left (fun x=>x hc)
    have CC:=zz0 (hcc (w.alloc (ClB k (.slice xa m xc))))
    have PB:Hid (∀ W,Keep Non (w.alloc (ClB k (.slice xa m xc))) W→W.cell? ⟨w.heap.size,0,none⟩=some (.int .i64 k)):=zz0 (fun W kk=>cl0 (kk.at (zab w (ClB k (.slice xa m xc))) (fun e=>e)))
    rw [hc,zaK] at CC
    have k0:=cl0 (zab w (ClB k (.slice xa m xc)))
    have k1:=cl1 (zab w (ClB k (.slice xa m xc)))
    dsimp only [ClB] at *
    clear hcc hc hk
    rcases hk2 with rfl | rfl
    all_goals
      go_enter Tryz.func22,Tryz.ntmps22
      go_wp2_with (first
        | (go_at_call 53;refine IN.out.mono ?_;rintro r w1 ⟨rfl,rfl⟩)
        | (go_at_call 52;refine AK.out.mono ?_;rintro r w1 ⟨rfl,rfl⟩)
        | (go_at_call 62;refine CC.out.mono ?_;rintro r w1 ⟨rfl,k⟩;have p0:=PB.out _ k;have K1:=zz0 k;clear k))
      go_ret
      exact ⟨⟨2,(by rw [zaU (by decide)];rfl)⟩,KA.out.trans1 K1.out⟩
  · have CC:=zz0 (hcc (w.alloc (ClB k (.slice xa m xc))))
    rw [zaU hc] at CC
    have k0:=cl0 (zab w (ClB k (.slice xa m xc)))
    have k1:=cl1 (zab w (ClB k (.slice xa m xc)))
    have EX:Hid (∃ e,(.iface 55 (.int .i64 (cellE k m)):Value)=errv e):=zz0 ⟨_,(zaU hc).symm⟩
    generalize cellE k m=ee at CC hc EX
    dsimp only [ClB] at *
    clear hcc hk
    go_enter Tryz.func22,Tryz.ntmps22
    go_wp2_with (first
      | (go_at_call 53;refine IN.out.mono ?_;rintro r w1 ⟨rfl,rfl⟩)
      | (go_at_call 52;refine AK.out.mono ?_;rintro r w1 ⟨rfl,rfl⟩)
      | (go_at_call 62;refine CC.out.mono ?_;rintro r w1 ⟨rfl,k⟩;have K1:=zz0 k;clear k))
    go_ret
    obtain ⟨e,he⟩:=EX.out
    exact ⟨⟨e,(by rw [← he];rfl)⟩,KA.out.trans1 K1.out⟩
theorem zh5 {F0:Nat→Prop} {b n a m xc u:Nat} {k:Int} {xa:Option Addr} {L L2:Lg} (w:World) (h:LgAt F0 w b n L) (he:L2.ep=L.ep) (hse:L2.se=L2.ep) (hn:0 < n) (hu1:homeN n a = [u]) (ha:a≤1048575) (hc:cellE k m=0) (hk:k=1∨k=2)
    (hp:∀ W F,Keep Non w W→(∀ g,F g→F0 g∧g < w.heap.size)→LgAt F W b n L→Calls Tryz.prog 126 #[.pointer (some ⟨b,0,none⟩),.int .i64 u,.int .i64 L.ep,.int .i64 a,.agg #[.int .i64 k,.slice xa m xc]] W fun r w'=>r = .returned .nilIface∧LgTo F W b n L2 w') :
    Calls Tryz.prog 22 #[.pointer (some ⟨b,0,none⟩),.int .i64 a,.agg #[.int .i64 k,.slice xa m xc]] w fun r w'=>r = .returned .nilIface∧LgTo F0 w b n { L2 with next:=max L2.next (a+1) } w':=by
  have CC:=zz0 (zci k xa m xc (w.alloc (ClB k (.slice xa m xc))))
  rw [hc,zaK] at CC
  have kA:Keep Non w (w.alloc (ClB k (.slice xa m xc))):=(Keep.refl _ _).alloc _
  have IN:=zz0 (zbN a 1048575 (w.alloc (ClB k (.slice xa m xc))) (by omega) (by omega))
  have AK:=zz0 (zcn b (w.alloc (ClB k (.slice xa m xc))))
  have KA:=zz0 kA
  have PB:Hid (∀ W,Keep Non (w.alloc (ClB k (.slice xa m xc))) W→W.cell? ⟨w.heap.size,0,none⟩=some (.int .i64 k)∧W.cell? ⟨w.heap.size,1,none⟩=some (.slice xa m xc)):=zz0 (fun W kk=>⟨cl0 (kk.at (zab w (ClB k (.slice xa m xc))) (fun e=>e)),cl1 (kk.at (zab w (ClB k (.slice xa m xc))) (fun e=>e))⟩)
  have hlow:=h.low
  have HM0:=(fun W (kk:Keep Non (w.alloc (ClB k (.slice xa m xc))) W)=>zed (a:=a) W (h.keepNon (kA.trans1 kk)) hn ha)
  simp only [hu1,List.length_singleton] at HM0
  have HM:=zz0 HM0
  clear HM0
  have SP:=zz0 (fun W g o c (kk:Keep Non (w.alloc (ClB k (.slice xa m xc))) W) (hi:Is W (.slice (some ⟨g,o,none⟩) 1 c) [u])=>(zhb (k:=k) (xa:=xa) (m:=m) (xc:=xc) (L2:=L2) W (hlow.keepNon (kA.trans1 kk)) he hse hi (by omega) (fun W' F kk' hF hL=>hp W' F ((kA.trans1 kk).trans1 kk') (fun g x=>(hF g x).1) hL)).mono (fun r w' (⟨x,y⟩:_∧_)=>(⟨x,(LgTo.pre (kA.trans1 kk) y).ofLow⟩:r=_∧LgTo F0 w b n { L2 with next:=max L2.next (a+1) } w')))
  have k0:=cl0 (zab w (ClB k (.slice xa m xc)))
  have k1:=cl1 (zab w (ClB k (.slice xa m xc)))
  dsimp only [ClB] at *
  clear kA h hlow hp hc
  rcases hk with rfl | rfl
  all_goals
    go_enter Tryz.func22,Tryz.ntmps22
    go_wp2_with (first
      | (go_at_call 53;refine IN.out.mono ?_;rintro r w1 ⟨rfl,rfl⟩)
      | (go_at_call 52;refine AK.out.mono ?_;rintro r w1 ⟨rfl,rfl⟩)
      | (go_at_call 62;refine CC.out.mono ?_;rintro r w1 ⟨rfl,k⟩;obtain ⟨p0,p1⟩:=PB.out _ k;obtain ⟨q0,q1⟩:=PB.out _ k.drew;have HMW:=zz0 (HM.out _ k.drew);have K1:=zz0 k;clear k))
    go_region_law (first
      | (go_simp;go_at_call 54;refine HMW.out.mono ?_;rintro r w2 ⟨g2,o2,c2,rfl,k2,i2⟩;obtain ⟨s0,s1⟩:=PB.out _ (K1.out.drew.trans1 k2);have SPW:=zz0 (SP.out w2 _ _ _ (K1.out.drew.trans1 k2) i2);clear k2 i2)
      | (go_simp;go_at_call 63;refine SPW.out.mono ?_;rintro r w3 ⟨rfl,t⟩;have T:=zz0 t;clear t))
    all_goals go_wp2_with fail
    all_goals
      go_ret
      exact ⟨rfl,T.out⟩
theorem zgi {F:Nat→Prop} {b n a u:Nat} {L:Lg} {s:Sh} (w:World) (h:LgAt F w b n L) (hn:0 < n) (hu1:homeN n a = [u]) (hs:L.shs[u]? = some s) (he:s.e=L.ep) (hd:s.X.down=false) (ha:a≤1048575) (hx:(uat s.l s.D a).2.length≤100000000) :
    Calls Tryz.prog 19 #[.pointer (some ⟨b,0,none⟩),.int .i64 a] w fun r w'=>∃ v,r = .returned (.tuple #[.agg #[.int .i64 (uat s.l s.D a).1,v],.nilIface])∧Keep Non w w'∧w'.ownsRow w.heap.size 5 1 v (uat s.l s.D a).2.length ((uat s.l s.D a).2.map bv):=by
  have kA:Keep Non w (w.alloc (ClB 0 (.slice none 0 0))):=(Keep.refl _ _).alloc _
  have IN:=zz0 (zbN a 1048575 (w.alloc (ClB 0 (.slice none 0 0))) (by omega) (by omega))
  have AK:=zz0 (zcn b (w.alloc (ClB 0 (.slice none 0 0))))
  have HM0:=zed (a:=a) _ (h.keepNon kA) hn ha
  simp only [hu1,List.length_singleton] at HM0
  have HM:=zz0 HM0
  clear HM0
  have RD:=zz0 (fun W (k:Keep Non w W)=>ze6 (a:=a) (u:=u) W (h.keepNon k) hs he hd ha hx)
  have KA:=zz0 kA
  have RB:=zz0 (zab w (ClB 0 (.slice none 0 0)))
  generalize uat s.l s.D a=x at RD ⊢
  obtain ⟨kx,lx⟩:=x
  dsimp only at RD ⊢
  dsimp only [ClB] at IN AK HM
  clear kA h hx
  go_enter Tryz.func19,Tryz.ntmps19
  go_wp2_with (first
    | (go_at_call 53;refine IN.out.mono ?_;rintro r w1 ⟨rfl,rfl⟩)
    | (go_at_call 52;refine AK.out.mono ?_;rintro r w1 ⟨rfl,rfl⟩)
    | (go_at_call 54;refine HM.out.mono ?_;rintro r w2 ⟨g2,o2,c2,rfl,k2,i2⟩;have hcell:w2.cell? ⟨g2,o2,none⟩=some (.int .i64 (u:Int)):=by
        obtain ⟨a',c',e,hx'⟩:=i2
        injection e with e1 e2 e3
        obtain ⟨g',off,e4,hc⟩:=hx' (by simp)
        rw [← e1] at e4
        injection e4 with e4
        injection e4 with e4 e5
        subst e4
        subst e5
        exact hc 0 _ (by rfl)
       have K2:=zz0 (KA.out.trans1 k2);have RB2:=zz0 (k2.at RB.out (fun e=>e));have RDW:=zz0 (RD.out _ (KA.out.trans1 k2));clear k2 i2)
    | (go_at_call 55;refine RDW.out.mono ?_;rintro r w3 ⟨v,rfl,k3,o3⟩;obtain ⟨va,vc,rfl,_,_⟩:=zaa o3;have rb3:=k3.at RB2.out (fun e=>e);have r0:=cl0 rb3;have r1:=cl1 rb3;have r0f:=clf rb3 0;have r1f:=clf rb3 1;have q0:=cl0 (zbd (zaY rb3 kx) (.slice va lx.length vc));have q1:=cl1 (zbd (zaY rb3 kx) (.slice va lx.length vc));have K3:=zz0 k3;have O3:=zz0 o3;clear k3 o3 rb3))
  all_goals
    refine bodyPost_ret (v:=.tuple #[.agg #[.int .i64 kx,.slice va lx.length vc],.nilIface]) (by simp [results,Tryz.results19,go_sem,q0,q1]) rfl ?_
    obtain ⟨k,o⟩:=zdL K2.out K3.out O3.out (by have:=lt_of_block RB2.out;omega) kx (.slice va lx.length vc)
    exact ⟨_,rfl,k,o⟩
theorem ziS {F:Nat→Prop} {b n a u v:Nat} {L:Lg} {s:Sh} (w:World) (h:LgAt F w b n L) (hn:0 < n) (hu1:homeN n a = [v,u]) (hs:L.shs[u]? = some s) (he:s.e=L.ep) (hd:s.X.down=false) (ha:a≤1048575) (hx:(uat s.l s.D a).2.length≤100000000) :
    Calls Tryz.prog 19 #[.pointer (some ⟨b,0,none⟩),.int .i64 a] w fun r w'=>∃ v,r = .returned (.tuple #[.agg #[.int .i64 (uat s.l s.D a).1,v],.nilIface])∧Keep Non w w'∧w'.ownsRow w.heap.size 5 1 v (uat s.l s.D a).2.length ((uat s.l s.D a).2.map bv):=by
  have kA:Keep Non w (w.alloc (ClB 0 (.slice none 0 0))):=(Keep.refl _ _).alloc _
  have IN:=zz0 (zbN a 1048575 (w.alloc (ClB 0 (.slice none 0 0))) (by omega) (by omega))
  have AK:=zz0 (zcn b (w.alloc (ClB 0 (.slice none 0 0))))
  have HM0:=zed (a:=a) _ (h.keepNon kA) hn ha
  simp only [hu1,List.length_cons,List.length_nil,Nat.zero_add,Nat.reduceAdd] at HM0
  have HM:=zz0 HM0
  clear HM0
  have RD:=zz0 (fun W (k:Keep Non w W)=>ze6 (a:=a) (u:=u) W (h.keepNon k) hs he hd ha hx)
  have KA:=zz0 kA
  have RB:=zz0 (zab w (ClB 0 (.slice none 0 0)))
  generalize uat s.l s.D a=x at RD ⊢
  obtain ⟨kx,lx⟩:=x
  dsimp only at RD ⊢
  dsimp only [ClB] at IN AK HM
  clear kA h hx
  go_enter Tryz.func19,Tryz.ntmps19
  go_wp2_with (first
    | (go_at_call 53;refine IN.out.mono ?_;rintro r w1 ⟨rfl,rfl⟩)
    | (go_at_call 52;refine AK.out.mono ?_;rintro r w1 ⟨rfl,rfl⟩)
    | (go_at_call 54;refine HM.out.mono ?_;rintro r w2 ⟨g2,o2,c2,rfl,k2,i2⟩;have hcell:w2.cell? ⟨g2,o2+1,none⟩=some (.int .i64 (u:Int)):=by
        obtain ⟨a',c',e,hx'⟩:=i2
        injection e with e1 e2 e3
        obtain ⟨g',off,e4,hc⟩:=hx' (by simp)
        rw [← e1] at e4
        injection e4 with e4
        injection e4 with e4 e5
        subst e4
        subst e5
        exact hc 1 _ (by rfl)
       have K2:=zz0 (KA.out.trans1 k2);have RB2:=zz0 (k2.at RB.out (fun e=>e));have RDW:=zz0 (RD.out _ (KA.out.trans1 k2));clear k2 i2)
    | (go_at_call 55;refine RDW.out.mono ?_;rintro r w3 ⟨v,rfl,k3,o3⟩;obtain ⟨va,vc,rfl,_,_⟩:=zaa o3;have rb3:=k3.at RB2.out (fun e=>e);have r0:=cl0 rb3;have r1:=cl1 rb3;have r0f:=clf rb3 0;have r1f:=clf rb3 1;have q0:=cl0 (zbd (zaY rb3 kx) (.slice va lx.length vc));have q1:=cl1 (zbd (zaY rb3 kx) (.slice va lx.length vc));have K3:=zz0 k3;have O3:=zz0 o3;clear k3 o3 rb3))
  all_goals
    refine bodyPost_ret (v:=.tuple #[.agg #[.int .i64 kx,.slice va lx.length vc],.nilIface]) (by simp [results,Tryz.results19,go_sem,q0,q1]) rfl ?_
    obtain ⟨k,o⟩:=zdL K2.out K3.out O3.out (by have:=lt_of_block RB2.out;omega) kx (.slice va lx.length vc)
    exact ⟨_,rfl,k,o⟩
theorem zh6 {F:Nat→Prop} {b n u:Nat} {L:Lg} (w:World) (h:LgAt F w b n L) (hu:u < L.shs.length) :
    Calls Tryz.prog 190 #[.pointer (some ⟨b,0,none⟩),.int .i64 u] w fun r w'=>r = .returned .nilIface∧w'=w:=by
  obtain ⟨A,dps,sps,dv,sv,cv,q,h,hF⟩:=h
  have c0:=lg_0 h.blk
  obtain ⟨da,dc,rfl,_,_⟩:=zaa h.disks
  rw [h.len.1] at c0
  have IN:=zz0 (zbN u ((L.shs.length:Int) - 1) w (by omega) (by omega))
  have hsm:=h.small.2
  clear h
  go_enter Tryz.func190,Tryz.ntmps190
  go_wp2_with (go_at_call 53;refine IN.out.mono ?_;rintro r w1 ⟨rfl,rfl⟩)
  go_ret
  exact ⟨rfl,rfl⟩
theorem zkv {F:Nat→Prop} {b n u:Nat} {L:Lg} {s:Sh} (w:World) (h:LgAt F w b n L) (hs:L.shs[u]? = some s) :
    Calls Tryz.prog 132 #[.pointer (some ⟨b,0,none⟩),.int .i64 u] w fun r w'=>∃ b' F',r = .returned (.pointer (some ⟨b',0,none⟩))∧Keep Non w w'∧UnAt F' w' b' s.e s.l s.D:=by
  have HS:=zz0 (zh6 w h (zai hs))
  obtain ⟨A,dps,sps,dv,sv,cv,q,h,hF⟩:=h
  obtain ⟨p,dp,sg,sc,dg,dc,rfl,rfl,hp,hd',hu,hcs,hcd,hsh⟩:=h.at hs
  have c1:=lg_1 h.blk
  unfold ptrV at hcs
  have UN:=zz0 (zgF w hsh)
  have hlt:(u:Int) < L.shs.length:=by omega
  clear h hsh hcd hp hd' hs
  go_enter Tryz.func132,Tryz.ntmps132
  go_wp2_with (first
    | (go_at_call 190;refine HS.out.mono ?_;rintro r w1 ⟨rfl,rfl⟩)
    | (go_at_call 191;refine UN.out.mono ?_;rintro r w2 ⟨b',rfl,k2,u2⟩;have K2:=zz0 k2;have U2:=zz0 u2;clear k2 u2))
  go_ret
  exact ⟨_,_,rfl,K2.out,U2.out⟩
theorem zfZ {W0 W w3:World} {v v3:Value} {S:Nat→Prop} (k:Keep S W0 W) (hg:W.grownBy w3 v.ownBlock) (hp:v3.ownBlock=v.ownBlock∨v3.ownBlock=some W.heap.size) :
    Keep (fun g=>S g∨v.ownBlock=some g) W0 w3∧(v3.ownBlock=v.ownBlock∨∃ g,W0.heap.size≤g∧W.heap.size≤g∧g < w3.heap.size+1∧v3.ownBlock=some g):=by
  have kg:Keep (fun g=>v.ownBlock=some g) W w3:=(Keep.refl _ _).grown hg (fun k e=>.inl e)
  refine ⟨k.trans kg (fun _ _ x=>.inl x) (fun _ _ x=>.inr x),?_⟩
  rcases hp with x | x
  · exact .inl x
  · exact .inr ⟨_,k.size,Nat.le_refl _,by have:=kg.size;omega,x⟩
def addA (A:Nat→Nat→Prop) (m:Nat) (v3 v5:Value) (FU:Nat→Prop):Nat→Nat→Prop:=fun j g=>if j=2 then v3.ownBlock=some g else if j=3 then v5.ownBlock=some g else if j=5+m then FU g else j < 5+m∧A j g
theorem LgIn.add {A:Nat→Nat→Prop} {F FU:Nat→Prop} {w W W':World} {b:Nat} {dps sps:List Nat} {dv sv cv v3 v5:Value} {q n p sp:Nat} {L:Lg} {s:Sh} (h:LgIn A W b dps sps dv sv cv q n L) (hF:∀ i g,A i g→F g)
    (hw:∀ i g,A i g→g < w.heap.size) (hww:w.heap.size≤W.heap.size) (h10:10≤w.heap.size) (hsh:ShAt FU W sp p s) (hFU:∀ g,FU g→w.heap.size≤g) (hl:L.shs.length < 3)
    (k:Keep (fun g=>g=b∨dv.ownBlock=some g∨sv.ownBlock=some g) W W') (hb:W'.heap[b]? = some (LgB v3 v5 L.ep cv q))
    (o3:W'.ownsRow 0 29 1 v3 (dps.length+1) (dps.map ptrV ++ [ptrV p])) (o5:W'.ownsRow 0 194 1 v5 (sps.length+1) (sps.map ptrV ++ [ptrV sp]))
    (p3:v3.ownBlock=dv.ownBlock∨∃ g,W.heap.size≤g∧v3.ownBlock=some g) (p5:v5.ownBlock=sv.ownBlock∨∃ g,W.heap.size≤g∧v5.ownBlock=some g)
    (p35:∀ g,v3.ownBlock=some g→v5.ownBlock≠some g) :
    LgIn (addA A L.shs.length v3 v5 FU) W' b (dps ++ [p]) (sps ++ [sp]) v3 v5 cv q n { L with shs:=L.shs ++ [s] }∧∀ i g,addA A L.shs.length v3 v5 FU i g→F g∨w.heap.size≤g:=by
  have lo3:∀ g,v3.ownBlock=some g→A 2 g∨W.heap.size≤g:=fun g x=>by
    rcases p3 with e | ⟨g',e1,e2⟩
    · exact .inl (h.mem.2.2.1 g (e ▸ x))
    · rw [e2] at x;injection x with x;exact .inr (x ▸ e1)
  have lo5:∀ g,v5.ownBlock=some g→A 3 g∨W.heap.size≤g:=fun g x=>by
    rcases p5 with e | ⟨g',e1,e2⟩
    · exact .inl (h.mem.2.2.2 g (e ▸ x))
    · rw [e2] at x;injection x with x;exact .inr (x ▸ e1)
  have nS:∀ i g,A i g→i≠0→i≠2→i≠3→¬ (g=b∨dv.ownBlock=some g∨sv.ownBlock=some g):=by
    rintro i g x h0 h2 h3 (rfl | y | y)
    · exact h0 (h.apart _ _ _ x h.mem.1)
    · exact h2 (h.apart _ _ _ x (h.mem.2.2.1 g y))
    · exact h3 (h.apart _ _ _ x (h.mem.2.2.2 g y))
  have nF:∀ g,FU g→¬ (g=b∨dv.ownBlock=some g∨sv.ownBlock=some g):=by
    rintro g x (rfl | y | y)
    · have:=hFU g x;have:=hw _ _ h.mem.1;omega
    · have:=hFU g x;have:=hw _ _ (h.mem.2.2.1 g y);omega
    · have:=hFU g x;have:=hw _ _ (h.mem.2.2.2 g y);omega
  have aq:∀ j,j≠2→j≠3→j < 5+L.shs.length→addA A L.shs.length v3 v5 FU j=A j:=fun j h2 h3 h5=>by
    funext g
    unfold addA
    rw [if_neg h2,if_neg h3,if_neg (by omega)]
    exact propext ⟨fun x=>x.2,fun x=>⟨h5,x⟩⟩
  have a2:addA A L.shs.length v3 v5 FU 2=fun g=>v3.ownBlock=some g:=by funext g;unfold addA;rw [if_pos rfl]
  have a3:addA A L.shs.length v3 v5 FU 3=fun g=>v5.ownBlock=some g:=by funext g;unfold addA;rw [if_neg (by omega),if_pos rfl]
  have a5:addA A L.shs.length v3 v5 FU (5+L.shs.length)=FU:=by funext g;unfold addA;rw [if_neg (by omega),if_neg (by omega),if_pos rfl]
  -- what a block belongs to: an old part,or a new one
  have cls:∀ j g,addA A L.shs.length v3 v5 FU j g→(A j g∧g < w.heap.size)∨(j=5+L.shs.length∧FU g∧w.heap.size≤g∧g < W.heap.size)∨((j=2∧v3.ownBlock=some g∨j=3∧v5.ownBlock=some g)∧W.heap.size≤g):=by
    intro j g x
    unfold addA at x
    split at x
    · rename_i e;subst e
      rcases lo3 g x with y | y
      · exact .inl ⟨y,hw _ _ y⟩
      · exact .inr (.inr ⟨.inl ⟨rfl,x⟩,y⟩)
    · split at x
      · rename_i e;subst e
        rcases lo5 g x with y | y
        · exact .inl ⟨y,hw _ _ y⟩
        · exact .inr (.inr ⟨.inr ⟨rfl,x⟩,y⟩)
      · split at x
        · rename_i e
          exact .inr (.inl ⟨e,x,hFU g x,hsh.low g x⟩)
        · exact .inl ⟨x.2,hw _ _ x.2⟩
  refine ⟨⟨hb,k.at h.sq (nS 1 _ h.mem.2.1 (by omega) (by omega) (by omega)),h.sqin,?_,?_,?_,?_,?_,?_,?_,?_,?_⟩,?_⟩
  · simpa using o3
  · simpa using o5
  · simp [h.len.1,h.len.2]
  · rw [aq 4 (by omega) (by omega) (by omega)]
    exact h.proj.keep k (fun g x=>nS 4 g x (by omega) (by omega) (by omega))
  · intro i s' p' dp' hi hpi hdi
    simp only at hi
    rcases Nat.lt_or_ge i L.shs.length with x | x
    · rw [List.getElem?_append_left x] at hi
      rw [List.getElem?_append_left (by have:=h.len;omega)] at hpi hdi
      rw [aq (5+i) (by omega) (by omega) (by omega)]
      exact (h.sh i s' p' dp' hi hpi hdi).keep k (fun g y=>nS (5+i) g y (by omega) (by omega) (by omega))
    · have e:i=L.shs.length:=by have:=zai hi;simp at this;omega
      subst e
      rw [List.getElem?_append_right (Nat.le_refl _)] at hi
      rw [List.getElem?_append_right (by have:=h.len;omega)] at hpi hdi
      have l1:=h.len.1
      have l2:=h.len.2
      rw [Nat.sub_self] at hi
      rw [l2,Nat.sub_self] at hpi
      rw [l1,Nat.sub_self] at hdi
      simp only [List.getElem?_cons_zero,Option.some.injEq] at hi hpi hdi
      subst hi
      subst hpi
      subst hdi
      rw [a5]
      exact hsh.keep k (fun g y=>nF g y)
  · rw [aq 0 (by omega) (by omega) (by omega),aq 1 (by omega) (by omega) (by omega),a2,a3]
    exact ⟨h.mem.1,h.mem.2.1,fun _ x=>x,fun _ x=>x⟩
  · intro i j g x y
    rcases cls i g x with ⟨x1,x2⟩ | ⟨x1,x2,x3,x4⟩ | ⟨x1,x2⟩
    · rcases cls j g y with ⟨y1,y2⟩ | ⟨y1,y2,y3,y4⟩ | ⟨y1,y2⟩
      · exact h.apart _ _ _ x1 y1
      · omega
      · omega
    · rcases cls j g y with ⟨y1,y2⟩ | ⟨y1,y2,y3,y4⟩ | ⟨y1,y2⟩
      · omega
      · omega
      · omega
    · rcases cls j g y with ⟨y1,y2⟩ | ⟨y1,y2,y3,y4⟩ | ⟨y1,y2⟩
      · omega
      · omega
      · rcases x1 with ⟨e1,e2⟩ | ⟨e1,e2⟩ <;> rcases y1 with ⟨e3,e4⟩ | ⟨e3,e4⟩
        · omega
        · exact absurd e4 (p35 g e2)
        · exact absurd e2 (p35 g e4)
        · omega
  · intro i g x
    have ks:=k.size
    rcases cls i g x with ⟨x1,x2⟩ | ⟨x1,x2,x3,x4⟩ | ⟨x1,x2⟩
    · exact ⟨(h.low i g x1).1,by omega⟩
    · exact ⟨by omega,by omega⟩
    · refine ⟨by omega,?_⟩
      rcases x1 with ⟨e1,e2⟩ | ⟨e1,e2⟩
      · exact (o3.lt g e2).2
      · exact (o5.lt g e2).2
  · simp;exact ⟨h.small.1,by omega⟩
  · intro i g x
    rcases cls i g x with ⟨x1,x2⟩ | ⟨x1,x2,x3,x4⟩ | ⟨x1,x2⟩
    · exact .inl (hF i g x1)
    · exact .inr x3
    · exact .inr (by omega)
def oD (p:Nat):Obj:=.cells #[.pointer (some ⟨p,0,none⟩)] 29 (0,0)
def oS (p:Nat):Obj:=.cells #[.pointer (some ⟨p,0,none⟩)] 194 (0,0)
theorem zfJ {w:World} {g p:Nat} (h:w.heap[g]? = some (oD p)):∀ (j:Nat) u,[Value.pointer (some ⟨p,0,none⟩)][j]? = some u→w.cell? ((⟨g,0,none⟩:Addr).add j)=some u:=by
  intro j u hu
  unfold oD at h
  rw [zau,Nat.zero_add,cell_of_row _ _ j _ _ _ h]
  simpa using hu
theorem zfK {w:World} {g p:Nat} (h:w.heap[g]? = some (oS p)):∀ (j:Nat) u,[Value.pointer (some ⟨p,0,none⟩)][j]? = some u→w.cell? ((⟨g,0,none⟩:Addr).add j)=some u:=by
  intro j u hu
  unfold oS at h
  rw [zau,Nat.zero_add,cell_of_row _ _ j _ _ _ h]
  simpa using hu
theorem infoD:(Tryz.prog.info? 29).map (fun i=>(i.zero,i.size,i.bytes))=some (some (.pointer none),1,8):=by kernel_rfl
theorem infoS:(Tryz.prog.info? 194).map (fun i=>(i.zero,i.size,i.bytes))=some (some (.pointer none),1,8):=by kernel_rfl
section
variable {A : Nat → Nat → Prop} {w2 W w3 : World} {b : Nat} {dps sps : List Nat} {dv sv cv v3 : Value} {q n p m : Nat} {L : Lg}
structure A8 (A:Nat→Nat→Prop) (w2 w3:World) (b:Nat) (dps sps:List Nat) (dv sv cv v3:Value) (q p:Nat) (L:Lg):Prop where
  keep:Keep (fun g=>dv.ownBlock=some g) w2 w3
  own:v3.ownBlock=dv.ownBlock∨∃ g,w2.heap.size≤g∧v3.ownBlock=some g
  row:w3.ownsRow 0 29 1 v3 (dps.length+1) (dps.map ptrV ++ [ptrV p])
  blk:w3.heap[b]? = some (LgB dv sv L.ep cv q)
  shelves:w3.ownsRow 0 194 1 sv sps.length (sps.map ptrV)
theorem A8.of (h:LgIn A w2 b dps sps dv sv cv q n L) (k:Keep Non w2 W) (ho:w3.ownsRow 0 29 1 v3 (dps.length+1) (dps.map ptrV ++ [ptrV p])) (hg:W.grownBy w3 dv.ownBlock) (hpp:v3.ownBlock=dv.ownBlock∨v3.ownBlock=some W.heap.size) :
    A8 A w2 w3 b dps sps dv sv cv v3 q p L∧∀ g o,w2.heap.size≤g→W.heap[g]? = some o→w3.heap[g]? = some o:=by
  obtain ⟨k3,p3⟩:=zfZ k hg hpp
  have k3':Keep (fun g=>dv.ownBlock=some g) w2 w3:=k3.mono (fun g _ x=>x.resolve_left (fun y=>y))
  refine ⟨⟨k3',?_,ho,k3'.at h.blk (fun x=>?_),zac h.shelves k3' (fun g x y=>?_)⟩,fun g o hgs hgo=>?_⟩
  · rcases p3 with x | ⟨g,x,_,_,y⟩
    · exact .inl x
    · exact .inr ⟨g,x,y⟩
  · have:=h.apart _ _ _ h.mem.1 (h.mem.2.2.1 _ x);omega
  · have:=h.apart _ _ _ (h.mem.2.2.2 _ x) (h.mem.2.2.1 _ y);omega
  · have kg:Keep (fun k=>dv.ownBlock=some k) W w3:=(Keep.refl _ _).grown hg (fun k e=>.inl e)
    exact kg.at hgo (fun x=>by have:=(h.low _ _ (h.mem.2.2.1 _ x)).2;omega)
theorem A8.alloc (h:A8 A w2 w3 b dps sps dv sv cv v3 q p L) (o:Obj):A8 A w2 (w3.alloc o) b dps sps dv sv cv v3 q p L :=
  ⟨h.keep.trans1 ((Keep.refl _ _).alloc o),h.own,zac h.row ((Keep.refl Non w3).alloc o) (fun _ _ e=>e),zae h.blk o,zac h.shelves ((Keep.refl Non w3).alloc o) (fun _ _ e=>e)⟩
structure A15 (A:Nat→Nat→Prop) (w2 w5:World) (b:Nat) (dps sps:List Nat) (dv sv cv v3 v5:Value) (q p sp:Nat) (L:Lg):Prop where
  keep:Keep (fun g=>dv.ownBlock=some g∨sv.ownBlock=some g) w2 w5
  blk:w5.heap[b]? = some (LgB dv sv L.ep cv q)
  own3:v3.ownBlock=dv.ownBlock∨∃ g,w2.heap.size≤g∧v3.ownBlock=some g
  own5:v5.ownBlock=sv.ownBlock∨∃ g,w2.heap.size≤g∧v5.ownBlock=some g
  ne:∀ g,v3.ownBlock=some g→v5.ownBlock≠some g
  row3:w5.ownsRow 0 29 1 v3 (dps.length+1) (dps.map ptrV ++ [ptrV p])
  row5:w5.ownsRow 0 194 1 v5 (sps.length+1) (sps.map ptrV ++ [ptrV sp])
theorem A15.of {w5:World} {v5:Value} {sp:Nat} (h:LgIn A w2 b dps sps dv sv cv q n L) (h8:A8 A w2 W b dps sps dv sv cv v3 q p L) (ho:w5.ownsRow 0 194 1 v5 (sps.length+1) (sps.map ptrV ++ [ptrV sp])) (hg:W.grownBy w5 sv.ownBlock) (hpp:v5.ownBlock=sv.ownBlock∨v5.ownBlock=some W.heap.size) :
    A15 A w2 w5 b dps sps dv sv cv v3 v5 q p sp L:=by
  have kg:Keep (fun k=>sv.ownBlock=some k) W w5:=(Keep.refl _ _).grown hg (fun k e=>.inl e)
  obtain ⟨k5,p5⟩:=zfZ h8.keep hg hpp
  have n3:∀ g,v3.ownBlock=some g→sv.ownBlock≠some g:=fun g x y=>by
    rcases h8.own with e | ⟨g',e1,e2⟩
    · rw [e] at x
      have:=h.apart _ _ _ (h.mem.2.2.1 _ x) (h.mem.2.2.2 _ y);omega
    · rw [e2] at x;injection x with x
      have:=(h.low _ _ (h.mem.2.2.2 _ y)).2;omega
  refine ⟨k5,kg.at h8.blk (fun x=>?_),h8.own,?_,fun g x y=>?_,zac h8.row kg (fun g x y=>n3 g x y),ho⟩
  · have:=h.apart _ _ _ h.mem.1 (h.mem.2.2.2 _ x);omega
  · rcases p5 with x | ⟨g,x,_,_,y⟩
    · exact .inl x
    · exact .inr ⟨g,x,y⟩
  · rcases hpp with e | e
    · exact n3 g x (e ▸ y)
    · rw [e] at y;injection y with y
      have:=(h8.row.lt g x).2;omega
theorem A15.put {w5:World} {v5:Value} {sp:Nat} (h:A15 A w2 w5 b dps sps dv sv cv v3 v5 q p sp L) (hA:LgIn A w2 b dps sps dv sv cv q n L) :
    Keep (fun g=>g=b∨dv.ownBlock=some g∨sv.ownBlock=some g) w2 ((w5.setCell ⟨b,0,none⟩ v3).setCell ⟨b,1,none⟩ v5)∧((w5.setCell ⟨b,0,none⟩ v3).setCell ⟨b,1,none⟩ v5).heap[b]? = some (LgB v3 v5 L.ep cv q) ∧
    ((w5.setCell ⟨b,0,none⟩ v3).setCell ⟨b,1,none⟩ v5).ownsRow 0 29 1 v3 (dps.length+1) (dps.map ptrV ++ [ptrV p])∧((w5.setCell ⟨b,0,none⟩ v3).setCell ⟨b,1,none⟩ v5).ownsRow 0 194 1 v5 (sps.length+1) (sps.map ptrV ++ [ptrV sp]):=by
  have kb:Keep (One b) w5 ((w5.setCell ⟨b,0,none⟩ v3).setCell ⟨b,1,none⟩ v5):=((Keep.refl _ _).setOne _ _).setOne _ _
  have hbl:=(hA.low _ _ hA.mem.1).2
  refine ⟨h.keep.trans kb (fun g _ x=>.inr x) (fun g _ x=>.inl x),zos (zcB h.blk v3) v5,zac h.row3 kb (fun g x y=>?_),zac h.row5 kb (fun g x y=>?_)⟩
  · have y':g=b:=y
    rcases h.own3 with e | ⟨g',e1,e2⟩
    · rw [e] at x;have:=hA.apart _ _ _ (hA.mem.2.2.1 _ x) (y' ▸ hA.mem.1);omega
    · rw [e2] at x;injection x with x;omega
  · have y':g=b:=y
    rcases h.own5 with e | ⟨g',e1,e2⟩
    · rw [e] at x;have:=hA.apart _ _ _ (hA.mem.2.2.2 _ x) (y' ▸ hA.mem.1);omega
    · rw [e2] at x;injection x with x;omega
end
def sh0 (room:Nat):Sh:=⟨dk0 room,0,0,.map [],0⟩
def sh1 (room:Nat):Sh:=(sh0 room).did (actBy 1 1 0 []) 1 0 (.map [])
theorem zli:(sh0 16777216).ok:=⟨⟨rfl,by decide⟩,⟨by decide,by decide,by decide,by decide,⟨[],rfl⟩⟩,rfl,by decide⟩
theorem zdD {A:Nat→Nat→Prop} {F FU:Nat→Prop} {w w2 w5:World} {b:Nat} {dps sps:List Nat} {dv sv cv v3 v5:Value} {q n p sp:Nat} {L:Lg} (h:LgIn A w b dps sps dv sv cv q n L) (hF:∀ i g,A i g→F g) (hl:L.shs.length < 3) (hlay:Lay w)
    (k2:Keep Non w w2) (hFU:∀ g,FU g→w.heap.size≤g) (hsh:ShAt FU w2 sp p (sh0 16777216)) (a15:A15 A w2 w5 b dps sps dv sv cv v3 v5 q p sp L) :
    Calls Tryz.prog 120 #[.pointer (some ⟨sp,0,none⟩),.agg #[.int .i64 1,.int .i64 1,.int .i64 0,.slice none 0 0]] ((w5.setCell ⟨b,0,none⟩ v3).setCell ⟨b,1,none⟩ v5) fun r w'=>(∃ n:Int,r = .returned (.tuple #[.int .i64 n,.nilIface]))∧LgTo F w b n { L with shs:=L.shs ++ [sh1 16777216] } w':=by
  have h2:=h.keep k2 (fun _ _ _ e=>e)
  have h10:10≤w.heap.size:=by have:=h.low 0 b h.mem.1;omega
  obtain ⟨kW,bW,o3,o5⟩:=a15.put h2
  obtain ⟨hN,hNF⟩:=LgIn.add (F:=F) (w:=w) h2 hF (fun i g x=>(h.low i g x).2) k2.size h10 hsh hFU hl kW bW o3 o5 a15.own3 a15.own5 a15.ne
  have hs:(L.shs ++ [sh0 16777216])[L.shs.length]? = some (sh0 16777216):=by simp
  have hp:(sps ++ [sp])[L.shs.length]? = some sp:=by rw [← h.len.2];simp
  have hd:(dps ++ [p])[L.shs.length]? = some p:=by rw [← h.len.1];simp
  have kall:Keep F w ((w5.setCell ⟨b,0,none⟩ v3).setCell ⟨b,1,none⟩ v5):=k2.ofNon.trans kW (fun _ _ x=>x) (fun g hg x=>by
    rcases x with rfl | x | x
    · exact hF _ _ h.mem.1
    · exact hF _ _ (h.mem.2.2.1 _ x)
    · exact hF _ _ (h.mem.2.2.2 _ x))
  have hmem5:=hN.sh L.shs.length _ sp p hs hp hd
  have lay2:Lay ((w5.setCell ⟨b,0,none⟩ v3).setCell ⟨b,1,none⟩ v5):=(hlay.keepNon k2).keep kW (fun g hg x=>by
    rcases x with rfl | x | x
    · have:=(h.low _ _ h.mem.1).1;omega
    · have:=(h.low _ _ (h.mem.2.2.1 _ x)).1;omega
    · have:=(h.low _ _ (h.mem.2.2.2 _ x)).1;omega)
  have AC:=zfX zli (by decide) 1 (by decide) (by decide) _ _ sp p trivial lay2 (fun g x=>(hN.low _ g x).1) hmem5
  refine AC.mono ?_
  rintro r w' ⟨e,t⟩
  refine ⟨e,?_⟩
  have T:=hN.unitTo (F:=fun g=>F g∨w.heap.size≤g) hNF hs hp hd t
  have e2:(L.shs ++ [sh0 16777216]).set L.shs.length (sh1 16777216)=L.shs ++ [sh1 16777216]:=by simp
  obtain ⟨k',F',s',t'⟩:=T
  refine ⟨kall.trans k' (fun _ _ x=>x) (fun g hg x=>x.resolve_right (by omega)),F',fun g x=>?_,?_⟩
  · rcases s' g x with (y | y) | y
    · exact .inl y
    · exact .inr y
    · exact .inr (Nat.le_trans (Nat.le_trans k2.size kW.size) y)
  · have e3:(sh0 16777216).did (actBy 1 1 0 []) 1 (sh0 16777216).l (sh0 16777216).D=sh1 16777216:=rfl
    simp only at t'
    rw [e3] at t'
    rw [e2] at t'
    exact t'
theorem zkt {F:Nat→Prop} {b n:Nat} {L:Lg} (w:World) (h:LgAt F w b n L) (h1:1≤n) :
    Calls Tryz.prog 131 #[.pointer (some ⟨b,0,none⟩)] w fun r w'=>∃ cv',r = .returned (.agg #[.int .i64 L.ep,cv'])∧Keep Non w w'∧PrAt (fun g=>w.heap.size≤g∧g < w'.heap.size) w' cv' n:=by
  obtain ⟨A,dps,sps,dv,sv,cv,q,h,hF⟩:=h
  have kA:Keep Non w (w.alloc (PrB 0 (.slice none 0 0))):=(Keep.refl _ _).alloc _
  have hA:=h.keep kA (fun _ _ _ e=>e)
  have CP:=zz0 (zid (A 4) L.ep n cv _ hA.proj h1 h.small.1)
  have c2:=lg_2 hA.blk
  have c3:=lg_3 hA.blk
  have RB:=zz0 (zab w (PrB 0 (.slice none 0 0)))
  have KA:=zz0 kA
  obtain ⟨g0,vs0,c0,rfl,_⟩:=id h.proj
  clear h hA kA
  dsimp only [PrB] at c2 c3 CP
  rw [show ((0:Nat):Int)=0 from rfl] at c2 c3 CP
  go_enter Tryz.func131,Tryz.ntmps131
  go_wp2_with (go_at_call 58;refine CP.out.mono ?_;rintro r w3 ⟨cv',rfl,k3,p3⟩;obtain ⟨g3,vs3,c3',rfl,_⟩:=id p3;have rb3:=k3.at RB.out (fun e=>e);have r0:=pr_0 rb3;have r1:=pr_1 rb3;have r0f:=pr_f rb3 0;have r1f:=pr_f rb3 1;have q0:=pr_0 (zem (zfL rb3 L.ep) (.slice (some ⟨g3,0,none⟩) (chN n) c3'));have q1:=pr_1 (zem (zfL rb3 L.ep) (.slice (some ⟨g3,0,none⟩) (chN n) c3'));have K3:=zz0 k3;have P3:=zz0 p3;clear k3 p3 rb3)
  refine bodyPost_ret (v:=.agg #[.int .i64 L.ep,.slice (some ⟨g3,0,none⟩) (chN n) c3']) (by simp [results,Tryz.results131,go_sem,q0,q1]) rfl ?_
  have k5:Keep (One w.heap.size) w3 ((w3.setCell ⟨w.heap.size,0,none⟩ (.int .i64 L.ep)).setCell ⟨w.heap.size,1,none⟩ (.slice (some ⟨g3,0,none⟩) (chN n) c3')):=((Keep.refl _ _).setOne _ _).setOne _ _
  have hP:=P3.out.keep k5 (fun g x e=>by have e':g=w.heap.size:=e;have:=x.1;simp at this;omega)
  obtain ⟨g,vs,c,e1,e2,e3,e4,e5,e6⟩:=hP
  have ks:=k5.size
  exact ⟨_,rfl,setNew (setNew (KA.out.trans1 K3.out) _ _ _ (Nat.le_refl _)) _ _ _ (Nat.le_refl _),g,vs,c,e1,e2,e3,e4,⟨by have:=e5.1;simp at this;omega,by omega⟩,fun v hv k e=>⟨by have:=(e6 v hv k e).1;simp at this;omega,by have:=(e6 v hv k e).2;omega⟩⟩
theorem zpU {F:Nat→Prop} {b n:Nat} {L:Lg} (w:World) (h:LgAt F w b n L) (h1:1≤n) (h2:n≤3) (hl:L.shs.length=n) (h0:∀ s ∈ L.shs,s.l=0) :
    Calls Tryz.prog 67 #[.pointer (some ⟨b,0,none⟩)] w fun r w'=>r = .returned (.int .i64 0)∧Keep Non w w':=by
  have PJ:=zz0 (zkt w h h1)
  have UN:=zz0 (fun W e cv (k:Keep Non w W) T (hp:PrAt T W cv n)=>zb6 T e n cv W hp h1 h2)
  have UI:Hid (∀ W u,Keep Non w W→u < n→Calls Tryz.prog 132 #[.pointer (some ⟨b,0,none⟩),.int .i64 u] W fun r w'=>∃ b' F' e D,r = .returned (.pointer (some ⟨b',0,none⟩))∧Keep Non W w'∧UnAt F' w' b' e 0 D):=zz0 (fun W u k hu=>by
    have hs:L.shs[u]? = some L.shs[u]:=List.getElem?_eq_getElem (by omega)
    refine (zkv W (h.keepNon k) hs).mono ?_
    rintro r w' ⟨b',F',e1,e2,e3⟩
    rw [h0 _ (List.getElem_mem _)] at e3
    exact ⟨b',F',_,_,e1,e2,e3⟩)
  clear h h0 hl
  go_enter Tryz.func67,Tryz.ntmps67
  go_wp2_with (first
    | (go_at_call 131;refine PJ.out.mono ?_;rintro r w1 ⟨cv',rfl,k1,p1⟩;obtain ⟨g3,vs3,c3',rfl,_⟩:=id p1;have K1:=zz0 k1;have UNW:=zz0 (UN.out _ L.ep _ k1 _ p1);clear k1 p1)
    | (go_at_call 57;refine UNW.out.mono ?_;rintro r w2 ⟨ug,uc,rfl,k2,hug,u2⟩;have K2:=zz0 (K1.out.trans1 k2);have U2:=zz0 u2;clear k2 u2))
  go_loopw [3,10] (fun m i wr=>∃ j:Nat,j≤n∧i = .int .i64 j∧m = .int .i64 (if j=0 then 1048576 else 0)∧Keep Non w2 wr) (fun _ i _=>n - (intOf i).toNat)
  case atStart=>exact ⟨0,by omega,rfl,rfl,Keep.refl _ _⟩
  case round =>
    obtain ⟨j,hj,rfl,rfl,hk⟩:=hrel
    have HK:=zz0 hk
    have u3:=U2.out.keepNon hk
    clear hk
    by_cases hlt:j < n
    · have hlj:(j:Int) < (n:Int):=by omega
      have hcell:wr.cell? ⟨ug,j,none⟩=some (.int .i64 (j:Int)):=by
        obtain ⟨a',c',e,hx⟩:=u3
        injection e with e1 e2 e3
        obtain ⟨g',off,e4,hc⟩:=hx (by intro e;have e':=List.map_eq_nil_iff.1 e;have e2:=congrArg List.length e';simp at e2;omega)
        rw [← e1] at e4
        injection e4 with e4
        injection e4 with e4 e5
        subst e4
        subst e5
        have:=hc j (iv j) (by rw [List.getElem?_map,List.getElem?_range hlt];rfl)
        rwa [Nat.zero_add] at this
      have UIW:=zz0 (UI.out wr j (K2.out.trans1 HK.out) hlt)
      have hmin:∀ x:Int,x=(if j=0 then 1048576 else 0)→0≤x:=fun x e=>by split at e <;> omega
      generalize hm:(if j=0 then (1048576:Int) else 0)=m
      have hm0:=hmin m hm.symm
      clear u3 hmin
      go_wp2_with (first
        | (go_at_call 132;refine UIW.out.mono ?_;rintro r w3 ⟨b',F',e,D,rfl,k3,u3⟩;have K3:=zz0 k3;have LW:=zz0 (zit F' b' e 0 D w3 u3);clear k3 u3)
        | (go_at_call 133;refine LW.out.mono ?_;rintro r w4 ⟨rfl,rfl⟩))
      refine ⟨⟨j+1,by omega,by first | rfl | go_num,?_,HK.out.trans1 K3.out⟩,by simp [intOf];omega⟩
      rw [if_neg (by omega)]
      first
        | rfl
        | (congr 1;omega)
        | (congr 1;simp;omega)
    · obtain rfl:j=n:=by omega
      have e0:(if j=0 then (1048576:Int) else 0)=0:=if_neg (by omega)
      rw [e0]
      clear u3
      go_wp2_with fail
      go_ret
      exact ⟨rfl,K2.out.trans1 HK.out⟩
end Go.Proofs.YtnboipdpccnedaaGreatDoor
