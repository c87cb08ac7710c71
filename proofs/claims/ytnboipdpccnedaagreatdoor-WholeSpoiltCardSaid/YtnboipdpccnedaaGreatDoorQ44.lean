/- vault.part, vault.Get of a part of any chain, whole or spoilt: walked (turned from WVPart, WVGet). · (*Export).All behind a chain, where all goes well -/
import Derived.Test.YtnboipdpccnedaaGreatDoorQ42
set_option linter.unusedVariables false
set_option maxRecDepth 100000
set_option maxHeartbeats 16000000
namespace Go.Proofs.YtnboipdpccnedaaGreatDoor
open Go.RowKit Go.Maps
section
attribute [local go_sem ↓] hV84 hV106 hV87 hW84 hW106 hW87 hB106 hB87
theorem zgS (T:Nat→Prop) (b q j place:Nat) (lv:Value) (ms:List Mf) (m:Mf) (p:Pt) (w:World) (h:w.heap[b]? = some (VtB q lv)) (hm:MsAt T w lv ms) (hj:ms[j]? = some m) (hlen:ms.length≤1000) (hp:m.parts[place]? = some p) (h5:p.sum.length=32) (h64:m.parts.length≤10000) :
    Calls Tryz.prog 103 #[.pointer (some ⟨b,0,none⟩),.int .i64 j,.int .i64 place] w fun e w'=>e = .returned (.tuple #[ptV p,.nilIface])∧Keep Non w w':=by
  have kA:Keep Non w (w.alloc (.cells zPt 106)):=(Keep.refl _ _).alloc _
  have c1:=vt_1 (nonAt kA h)
  obtain ⟨a,c,rfl,hc,ha,hx⟩:=hm
  obtain ⟨hp32,g,off,pa,pc,rfl,x1,x2,x3⟩:=hx j m hj
  have c36:=x3 36 _ (ze9 m _ hp32)
  replace c36:=(World.cell?_of_block (kA.block g (World.block_lt_of_cell? _ _ c36) (fun e=>e))).trans c36
  obtain ⟨hlt,_⟩:=List.getElem?_eq_some_iff.1 hp
  obtain ⟨a1,c1',e1,hcc,_,hy⟩:=x1.keepNon kA
  injection e1 with e1 e2 e3
  subst e1
  subst e3
  obtain ⟨g2,off2,rfl,hcell⟩:=hy place p hp
  have hld:=load101 _ g2 (off2+place * 35) p h5 hcell
  have hst:=zas w p h5
  have HL:=zz0 (zaG (zab w (PtB p)) h5)
  have hlj:(j:Int) < (ms.length:Int):=by have:=(List.getElem?_eq_some_iff.1 hj).1;omega
  dsimp only [zPt] at c1 c36 hld hst
  have hlp:(place:Int) < m.parts.length:=by omega
  have K:=zz0 ((Keep.refl Non w).alloc (PtB p))
  clear h hx ha x1 x2 x3 hp hy hcell kA hj
  go_enter Tryz.func103,Tryz.ntmps103
  go_wp2_with fail
  have hlv:=HL.out
  unfold holdV at hlv
  refine bodyPost_ret (v:=.tuple #[ptV p,.nilIface]) (by simp [results,Tryz.results103,asAddr,hlv]) rfl ?_
  exact ⟨rfl,K.out⟩
theorem znt (F T:Nat→Prop) (b q p j place f:Nat) (lv:Value) (ms:List Mf) (m:Mf) (cl:List Cl) (X:Dk) (w:World) (hb:w.heap[b]? = some (VtB q lv)) (d:StoreAt F w q p X) (hdn:X.down=false) (hlay:Lay w) (hm:MsAt T w lv ms) (hj:ms[j]? = some m) (hlen:ms.length < 90) (hp:m.parts[place]? = some (ptOf f cl)) (h64:m.parts.length≤10000) (hpl:place < 64)
    (f1:fhas X.shown (labelN j place)=true) (f2:fget X.shown (labelN j place)=segB f cl) (hcl:cl.length≤64) (hokc:∀ x ∈ cl,okCl x) (hfl:f+cl.length≤1048576) :
    Calls Tryz.prog 48 #[.pointer (some ⟨b,0,none⟩),.int .i64 j,.int .i64 place] w fun e w'=>∃ v',e = .returned (.tuple #[.agg #[.int .i64 f,v'],.nilIface])∧Keep Non w w'∧∃ xs,w'.ownsRow w.heap.size 60 2 v' cl.length xs∧CellsOf w.heap.size Non w' xs cl:=by
  have hsl:=zcC hokc hcl (show f≤1048576 by omega)
  have hrl:=zdd hokc hcl (show f≤1048576 by omega)
  have hj9:j < 90:=by have:=(List.getElem?_eq_some_iff.1 hj).1;omega
  have p5:(ptOf f cl).sum.length=32:=zal _
  have VP:=zz0 (fun W (k:Keep Non w W)=>zgS T b q j place lv ms m (ptOf f cl) W (nonAt k hb) (hm.keepNon k) hj (by omega) hp p5 h64)
  have LB:=zz0 (fun W=>zcg j place W (by omega) (by omega))
  have GT:=zz0 (fun W (k:Keep Non w W)=>by
    have:=zcD F q p (labelN j place) X W (d.keep k (fun _ _ e=>e)) (zaI j place (by omega) (by omega)) hdn f1 (by rw [f2];omega)
    rw [f2] at this
    exact this)
  have MH:=zz0 (fun W v (k:Keep Non w W) (hb:Bs W v (segB f cl)) (ho:okc v) (hv:∀ g,v.ownBlock=some g→g < W.heap.size)=>zeh f v cl W hb ho hv hcl hokc hfl (by omega) (by omega) (hlay.keepNon k).kon (hlay.keepNon k).frs)
  have BB:Hid (∀ W,Keep Non w W→W.cell? ⟨b,0,none⟩=some (.pointer (some ⟨q,0,none⟩))):=zz0 (fun W k=>vt_0 (nonAt k hb))
  have K0:Hid (Keep Non w (w.alloc SgZ0)):=zz0 ((Keep.refl _ _).alloc _)
  have R0:Hid ((w.alloc SgZ0).heap[w.heap.size]? = some (SgB 0 (.slice none 0 0))):=zz0 (zab w SgZ0)
  have VPW:=zz0 (VP.out _ K0.out)
  clear hb d hlay hm hp f1 f2 hj
  unfold sv at LB GT
  dsimp only [SgZ0] at VPW
  generalize hpt:ptOf f cl=pt at VPW MH p5 VP
  generalize hsb:segB f cl=sb at GT MH
  go_enter Tryz.func48,Tryz.ntmps48
  go_wp2_with (go_at_call 103;((with_reducible refine VPW.out.mono ?_);rintro e w1 ⟨rfl,k1⟩);have K1:=zz0 (K0.out.trans1 k1);have hsp:=zas w1 pt p5;have R1:=zz0 (nonAt (w:=w.alloc SgZ0) k1 R0.out);dsimp only [zPt,PtB] at hsp;clear k1)
  have kp:Keep Non w1 (w1.alloc (PtB pt)).drew:=((Keep.refl _ _).alloc _).drew
  have KP:=zz0 kp
  have PL:Hid (∀ W,Keep Non (w1.alloc (PtB pt)).drew W→(holdV 106 ⟨w1.heap.size,0,none⟩).run Tryz.prog W = .ok (ptV pt) W):=zz0 (fun W k=>zaG (nonAt k (by exact zab w1 (PtB pt))) p5)
  have KW:=zz0 (K1.out.trans1 kp)
  have v0:=BB.out _ KW.out
  have LBW:=zz0 (LB.out (w1.alloc (PtB pt)).drew)
  dsimp only [PtB] at v0 LBW
  clear kp hsp
  go_region_law (go_simp;first
    | (go_at_call 104;((with_reducible refine LBW.out.mono ?_);rintro r w2 ⟨rfl,k2⟩);have k2':=KW.out.trans1 k2;have v2:=BB.out _ k2';have GTW:=zz0 (GT.out w2 k2');have K2:=zz0 k2';have KP2:=zz0 (show Keep Non (w1.alloc (PtB pt)).drew w2 from k2);clear k2 k2')
    | (go_at_call 11;((with_reducible refine GTW.out.mono ?_);rintro r w3 ⟨v3,rfl,k3,o3⟩);obtain ⟨a3,c3,rfl,_,_⟩:=zaa o3;have hl3:=PL.out _ (KP2.out.trans1 k3);have MHW:=zz0 (MH.out w3 _ (K2.out.trans1 k3) (Rd.ofOwns o3) (zbw o3) (fun g e=>(o3.lt g e).2));have K3:=zz0 (K2.out.trans1 k3);have R3:=zz0 (nonAt k3 (nonAt KP2.out (nonAt KP.out R1.out)));clear k3 o3))
  all_goals go_wp2_with (go_at_call 105;refine MHW.out.mono ?_;rintro r w4 ⟨v4,rfl,k4,xs,o4,q4⟩;obtain ⟨a4,c4,rfl,_,_⟩:=zaa o4;have r4:=nonAt k4 R3.out;have R4:=zz0 r4;have K4:=zz0 (K3.out.trans1 k4);have O4:=zz0 o4;have Q4:=zz0 q4;have rf0:=sg_f r4 0;have rf1:=sg_f r4 1;have rc0:=sg_0 r4;have rc1:=sg_1 r4;have rx0:=sg_0 (zaz r4 f);clear k4 o4 q4 r4)
  all_goals
    have s0:=sg_0 (zaV (zaz R4.out f) (.slice a4 cl.length c4))
    have s1:=sg_1 (zaV (zaz R4.out f) (.slice a4 cl.length c4))
    refine bodyPost_ret (v:=.tuple #[.agg #[.int .i64 f,.slice a4 cl.length c4],.nilIface]) (by simp [results,Tryz.results48,go_sem,s0,s1]) rfl ?_
    have kf:Keep (One w.heap.size) w4 ((w4.setCell ⟨w.heap.size,0,none⟩ (.int .i64 f)).setCell ⟨w.heap.size,1,none⟩ (.slice a4 cl.length c4)):=((Keep.refl _ _).setOne _ _).setOne _ _
    have h3:=K3.out.size
    have hz:w.heap.size < w3.heap.size:=lt_of_block R3.out
    refine ⟨_,rfl,K4.out.trans kf (fun _ _ e=>e) (fun g hg e=>by have e':g=w.heap.size:=e;omega),xs,zad (zac O4.out kf (fun g e e2=>by have e':g=w.heap.size:=e2;have:=(O4.out.lt g e).1;omega)) (by omega),(Q4.out.keep (S':=Non) kf (fun g hg e=>by have e':g=w.heap.size:=e;omega) (fun _ _ e=>e.elim)).low (by omega) (fun _ e=>e)⟩
theorem zpy (F T:Nat→Prop) (b q p j place f:Nat) (lv:Value) (ms:List Mf) (m:Mf) (cl:List Cl) (X:Dk) (w:World) (hb:w.heap[b]? = some (VtB q lv)) (d:StoreAt F w q p X) (hdn:X.down=false) (hlay:Lay w) (hm:MsAt T w lv ms) (hj:ms[j]? = some m) (hlen:ms.length < 90) (hp:m.parts[place]? = some (ptOf f cl)) (h64:m.parts.length≤10000) (hpl:place < 64)
    (B:List UInt8) (f1:fhas X.shown (labelN j place)=true) (f2:fget X.shown (labelN j place)=B) (hB:Bad B) :
    Calls Tryz.prog 48 #[.pointer (some ⟨b,0,none⟩),.int .i64 j,.int .i64 place] w fun e w'=>e = .returned (.tuple #[.agg #[.int .i64 0,.slice none 0 0],.iface 55 (.int .i64 11)])∧Keep Non w w':=by
  have hbl:=hB.len
  have hj9:j < 90:=by have:=(List.getElem?_eq_some_iff.1 hj).1;omega
  have p5:(ptOf f cl).sum.length=32:=zal _
  have VP:=zz0 (fun W (k:Keep Non w W)=>zgS T b q j place lv ms m (ptOf f cl) W (nonAt k hb) (hm.keepNon k) hj (by omega) hp p5 h64)
  have LB:=zz0 (fun W=>zcg j place W (by omega) (by omega))
  have GT:=zz0 (fun W (k:Keep Non w W)=>by
    have:=zcD F q p (labelN j place) X W (d.keep k (fun _ _ e=>e)) (zaI j place (by omega) (by omega)) hdn f1 (by rw [f2];omega)
    rw [f2] at this
    exact this)
  have MH:=zz0 (fun W v (k:Keep Non w W) (hb:Bs W v B) (ho:okc v) (hv:∀ g,v.ownBlock=some g→g < W.heap.size)=>zkC (ptOf f cl) v B W p5 hb hB ho hv (hlay.keepNon k).kon (hlay.keepNon k).frs)
  have BB:Hid (∀ W,Keep Non w W→W.cell? ⟨b,0,none⟩=some (.pointer (some ⟨q,0,none⟩))):=zz0 (fun W k=>vt_0 (nonAt k hb))
  have K0:Hid (Keep Non w (w.alloc SgZ0)):=zz0 ((Keep.refl _ _).alloc _)
  have R0:Hid ((w.alloc SgZ0).heap[w.heap.size]? = some (SgB 0 (.slice none 0 0))):=zz0 (zab w SgZ0)
  have VPW:=zz0 (VP.out _ K0.out)
  clear hb d hlay hm hp f1 f2 hj hB
  unfold sv at LB GT
  dsimp only [SgZ0] at VPW
  generalize hpt:ptOf f cl=pt at VPW MH p5 VP
  go_enter Tryz.func48,Tryz.ntmps48
  go_wp2_with (go_at_call 103;((with_reducible refine VPW.out.mono ?_);rintro e w1 ⟨rfl,k1⟩);have K1:=zz0 (K0.out.trans1 k1);have hsp:=zas w1 pt p5;have R1:=zz0 (nonAt (w:=w.alloc SgZ0) k1 R0.out);dsimp only [zPt,PtB] at hsp;clear k1)
  have kp:Keep Non w1 (w1.alloc (PtB pt)).drew:=((Keep.refl _ _).alloc _).drew
  have KP:=zz0 kp
  have PL:Hid (∀ W,Keep Non (w1.alloc (PtB pt)).drew W→(holdV 106 ⟨w1.heap.size,0,none⟩).run Tryz.prog W = .ok (ptV pt) W):=zz0 (fun W k=>zaG (nonAt k (by exact zab w1 (PtB pt))) p5)
  have KW:=zz0 (K1.out.trans1 kp)
  have v0:=BB.out _ KW.out
  have LBW:=zz0 (LB.out (w1.alloc (PtB pt)).drew)
  dsimp only [PtB] at v0 LBW
  clear kp hsp
  go_region_law (go_simp;first
    | (go_at_call 104;((with_reducible refine LBW.out.mono ?_);rintro r w2 ⟨rfl,k2⟩);have k2':=KW.out.trans1 k2;have v2:=BB.out _ k2';have GTW:=zz0 (GT.out w2 k2');have K2:=zz0 k2';have KP2:=zz0 (show Keep Non (w1.alloc (PtB pt)).drew w2 from k2);clear k2 k2')
    | (go_at_call 11;((with_reducible refine GTW.out.mono ?_);rintro r w3 ⟨v3,rfl,k3,o3⟩);obtain ⟨a3,c3,rfl,_,_⟩:=zaa o3;have hl3:=PL.out _ (KP2.out.trans1 k3);have MHW:=zz0 (MH.out w3 _ (K2.out.trans1 k3) (Rd.ofOwns o3) (zbw o3) (fun g e=>(o3.lt g e).2));have K3:=zz0 (K2.out.trans1 k3);have R3:=zz0 (nonAt k3 (nonAt KP2.out (nonAt KP.out R1.out)));clear k3 o3))
  all_goals go_wp2_with (go_at_call 105;refine MHW.out.mono ?_;rintro r w4 ⟨rfl,k4⟩;have r4:=nonAt k4 R3.out;have R4:=zz0 r4;have K4:=zz0 (K3.out.trans1 k4);have rf0:=sg_f r4 0;have rf1:=sg_f r4 1;have rc0:w4.cell? ⟨w.heap.size,0,none⟩=some (.int .i64 0):=sg_0 r4;have rc1:=sg_1 r4;have rx0:(w4.setCell ⟨w.heap.size,0,none⟩ (.int .i64 0)).cell? ⟨w.heap.size,0,none⟩=some (.int .i64 0):=sg_0 (zaz r4 0);clear k4 r4)
  all_goals
    have s0:((w4.setCell ⟨w.heap.size,0,none⟩ (.int .i64 0)).setCell ⟨w.heap.size,1,none⟩ (.slice none 0 0)).cell? ⟨w.heap.size,0,none⟩=some (.int .i64 0):=sg_0 (zaV (zaz R4.out 0) (.slice none 0 0))
    have s1:((w4.setCell ⟨w.heap.size,0,none⟩ (.int .i64 0)).setCell ⟨w.heap.size,1,none⟩ (.slice none 0 0)).cell? ⟨w.heap.size,1,none⟩=some (.slice none 0 0):=sg_1 (zaV (zaz R4.out 0) (.slice none 0 0))
    refine bodyPost_ret (v:=.tuple #[.agg #[.int .i64 0,.slice none 0 0],.iface 55 (.int .i64 11)]) (by simp [results,Tryz.results48,go_sem,s0,s1]) rfl ?_
    have kf:Keep (One w.heap.size) w4 ((w4.setCell ⟨w.heap.size,0,none⟩ (.int .i64 0)).setCell ⟨w.heap.size,1,none⟩ (.slice none 0 0)):=((Keep.refl _ _).setOne _ _).setOne _ _
    exact ⟨rfl,K4.out.trans kf (fun _ _ e=>e) (fun g hg e=>by have e':g=w.heap.size:=e;omega)⟩
end
theorem SmOut.trans {F F1 FL TL:Nat→Prop} {w w1 w2:World} {x b lb q p:Nat} {ms:List Mf} {c:Cu} {pv:Value} {Z:Dk} {L:Lg} (s:Sub F1 F w) (k:Keep (fun g=>F g∨g=x) w w1) (h:SmOut F1 FL TL w1 x b lb q p ms c pv Z L w2):SmOut F FL TL w x b lb q p ms c pv Z L w2:=by
  obtain ⟨F2,la,lc,T,s2,k2,e1,e2,e3⟩:=h
  refine ⟨F2,la,lc,T,s.trans s2 k.size,k.trans k2 (fun g _ y=>?_) (fun g hg y=>?_),e1,e2,fun g y=>⟨(e3 g y).1,(e3 g y).2.1,(e3 g y).2.2.1,(e3 g y).2.2.2.1,?_⟩⟩
  · rcases y with y | y
    · exact .inl y
    · exact .inr (.inl y)
  · rcases y with y | y
    · rcases s g y with z | z
      · exact .inl z
      · omega
    · exact .inr y
  · rcases (e3 g y).2.2.2.2 with u | u
    · exact .inl u
    · exact .inr (Nat.le_trans k.size u)
def SAll (F FL TL:Nat→Prop) (w:World) (x b lb q p hi:Nat) (ms:List Mf) (L:Lg) (w':World):Prop :=
  ∃ c pv Z,c.hi=hi∧SmOut F FL TL w x b lb q p ms c pv Z L w'∧Bk Z (ms ++ [exN ms c])∧Bare Z (ms ++ [exN ms c])∧SCont L Z ms.length c.lo hi c.parts∧c.lo=endM ms∧c.lo+64 * c.parts.length < hi+64∧hi≤c.lo+64 * c.parts.length
theorem zo7 {F FL TL:Nat→Prop} {x b lb q p:Nat} {la:Option Addr} {lc:Nat} {ms:List Mf} {c:Cu} {pv:Value} {X:Dk} {L:Lg} (w:World) (h:ExSt F FL w x b lb q p (.slice la ms.length lc) c pv false X L) (hms:MsAt TL w (.slice la ms.length lc) ms) (hTL:∀ g,TL g→¬ F g∧g≠b∧g≠x∧g < w.heap.size) (hi:SInv L X ms c) (hl:Log1 L) (h3:∀ a,(cellL L a).1≠3) :
    Calls Tryz.prog 25 #[.pointer (some ⟨x,0,none⟩)] w fun e w'=>∃ (n:Nat) (v:Value),e = .returned (.tuple #[.int .i64 n,v])∧v = .nilIface∧SAll F FL TL w x b lb q p c.hi ms L w':=by
  refine znz x w (c.hi - c.next) (by have:=hi.hi;omega) (fun j W=>∃ F' c' pv' X',j=c'.hi - c'.next∧Sub F' F w∧Keep (fun g=>F g∨g=x) w W∧ExSt F' FL W x b lb q p (.slice la ms.length lc) c' pv' false X' L∧SInv L X' ms c'∧c'.hi=c.hi) (fun v w'=>v = .nilIface∧SAll F FL TL w x b lb q p c.hi ms L w') ⟨F,c,pv,X,rfl,Sub.refl _ _,Keep.refl _ _,h,hi,rfl⟩ ?_
  rintro j W ⟨F',c',pv',X',rfl,s,k,h',hi',e1⟩
  obtain ⟨pa,pc,rfl,_,_⟩:=zaa h'.row
  have hx:x < w.heap.size:=lt_of_block h.ex
  have hmW:MsAt TL W (.slice la ms.length lc) ms:=hms.keep k (fun g y e=>by
    obtain ⟨a1,_,a3,_⟩:=hTL g y
    rcases e with e | e
    · exact a1 e
    · exact a3 e)
  have ks:∀ W',Keep Non W W'→ExSt F' FL W' x b lb q p (.slice la ms.length lc) c' (.slice pa c'.parts.length pc) false X' L∧Keep (fun g=>F g∨g=x) w W'∧MsAt TL W' (.slice la ms.length lc) ms∧∀ g,TL g→¬ F' g∧g≠b∧g≠x∧g < W'.heap.size:=fun W' kk=>⟨h'.keep kk (fun _ _ e=>e),k.trans1 kk.ofNon,hmW.keepNon kk,fun g y=>by
    obtain ⟨a1,a2,a3,a4⟩:=hTL g y
    have z1:=k.size
    have z2:=kk.size
    refine ⟨fun e=>?_,a2,a3,by omega⟩
    rcases s g e with u | u
    · exact a1 u
    · omega⟩
  by_cases hd:c'.next=c'.hi
  · obtain ⟨-,-,-,-,-,hbk,hba,hco⟩:=zdR hi' hd
    refine (zgU (fun w'=>SAll F FL TL w x b lb q p c.hi ms L w') W h'.ex hd (fun W' kk=>(zjc W' (ks W' kk).1 (ks W' kk).2.2.1 (ks W' kk).2.2.2 hi' hd).mono ?_)).mono ?_
    · rintro e w' ⟨rfl,o⟩
      exact ⟨rfl,c',_,_,e1,SmOut.trans s (ks W' kk).2.1 o,hbk,hba,by rw [← e1];exact hco,hi'.lo,by have:=hi'.part;omega,by have:=hi'.stand;omega⟩
    · rintro e w' ⟨rfl,o⟩
      exact .inr (.inl ⟨rfl,rfl,o⟩)
  · have hlt:c'.next < c'.hi:=by have:=hi'.ok.le;omega
    obtain ⟨ep,-,-,ep2,hi2⟩:=zgo hi' hl h3 hlt
    have hcd:(X'.sput (labelN ms.length c'.parts.length) (segB c'.next (slabL L c'.hi c'.next))).1=0:=by rw [ep]
    have hsp:=zoM ep
    refine (zjA .nilIface (fun w'=>ExOut F FL w x b lb q p (.slice la ms.length lc) (partCu L c') false (putX (putX X' (labelN ms.length c'.parts.length) (segB c'.next (slabL L c'.hi c'.next))) cname (cuBy (partCu L c'))) L w') W h'.ex hd (fun W' kk=>(zlq W' (ks W' kk).1 (ks W' kk).2.2.1 hi' hl h3 hlt hcd 0 (by rw [hsp,ep2])).mono ?_)).mono ?_
    · rintro e w' ⟨rfl,o⟩
      rw [if_pos rfl,hsp,ep2] at o
      exact ⟨rfl,ExOut.trans s (ks W' kk).2.1 o⟩
    · rintro e w' ⟨rfl,F2,pv2,s2,k2,st2⟩
      refine .inl ⟨(partCu L c').hi - (partCu L c').next,?_,rfl,F2,_,pv2,_,rfl,s2,k2,st2,hi2,by rw [← e1];rfl⟩
      show c'.hi - (c'.next+(slabL L c'.hi c'.next).length) < c'.hi - c'.next
      rw [zbU]
      omega
theorem zj9 {F F' FL T:Nat→Prop} {w w':World} {x b lb q p lo n:Nat} {lv:Value} {ms:List Mf} {X Y:Dk} {L:Lg} (h:VsSt F FL T w b lb q p lv ms X L) (k:Keep F w w') (s:Sub F' F w) (l:∀ g,F' g→g < w'.heap.size) (st:StoreAt F' w' q p Y) (hx:w.heap.size≤x) (nx:¬ F' x) (xb:w'.heap[x]? = some (ExB b lb (cuN lo n) (.slice none 0 0) false)) :
    ExSt F' FL w' x b lb q p lv (cuN lo n) (.slice none 0 0) false Y L∧MsAt T w' lv ms∧∀ g,T g→¬ F' g∧g≠b∧g≠x∧g < w'.heap.size:=by
  have hbw:b < w.heap.size:=lt_of_block h.vt
  have hb10:=h.out.2.2.2
  refine ⟨⟨xb,World.ownsRow_nil _ _ _ _,k.at h.vt h.out.1,st,h.lg.keep k (fun g y z=>h.apart g z y),h.lay.keep k (fun g y z=>by have:=(h.low g z).1;omega),⟨nx,fun y=>?_,by omega,fun y=>by have:=h.lowL x y;omega,h.out.2.1,by omega,hb10⟩,fun g y z=>?_,fun g y=>⟨?_,l g y⟩,fun g y=>Nat.lt_of_lt_of_le (h.lowL g y) k.size,fun g e=>by cases e⟩,h.ms.keep k (fun g y z=>(h.apartT g y).1 z),fun g y=>⟨fun z=>?_,fun e=>?_,?_,?_⟩⟩
  · rcases s b y with u | u
    · exact h.out.1 u
    · omega
  · rcases s g y with u | u
    · exact h.apart g u z
    · have:=h.lowL g z;omega
  · rcases s g y with u | u
    · exact (h.low g u).1
    · omega
  · rcases s g z with u | u
    · exact (h.apartT g y).1 u
    · have:=h.lowT g y;omega
  · subst e;exact h.out.2.2.1 y
  · have:=h.lowT g y;omega
  · exact Nat.lt_of_lt_of_le (h.lowT g y) k.size
def SXpo (F FL T:Nat→Prop) (w:World) (b lb q p n:Nat) (ms:List Mf) (L:Lg) (w':World):Prop :=
  Keep (fun g=>F g∨g=b) w w'∧∃ F' T' la lc m Z,VsSt F' FL T' w' b lb q p (.slice la (ms ++ [m]).length lc) (ms ++ [m]) Z L∧Bk Z (ms ++ [m])∧Bare Z (ms ++ [m])∧endM (ms ++ [m])=n∧Sub F' F w∧(∀ g,T' g→T g∨w.heap.size≤g)∧SCont L Z ms.length (endM ms) n m.parts∧endM ms+64 * m.parts.length < n+64∧n≤endM ms+64 * m.parts.length
theorem Bk.start {X:Dk} {ms:List Mf} (h:Bk X ms):Bk { X with fuse:=-1 } ms :=
  ⟨⟨h.free.1,by show (-1:Int) < 0;omega⟩,h.tidy,h.room,h.few,h.ok,h.trim,h.four,h.stop,h.tit,h.no,h.segs⟩
theorem Bare.start {X:Dk} {ms:List Mf} (h:Bare X ms):Bare { X with fuse:=-1 } ms :=
  ⟨h.cur,h.all,⟨h.lim.files,h.lim.pend,h.lim.used,by show (-1:Int)≤1000000000;omega,h.lim.map⟩⟩
theorem zoc (ms:List Mf) (c:Cu):endM (ms ++ [exN ms c])=c.hi:=by
  unfold endM
  rw [zea]
  rfl
theorem zjn {F F6 FL T:Nat→Prop} {w w6 w7:World} {x b lb q p n:Nat} {lv:Value} {ms:List Mf} {X:Dk} {L:Lg} (h:VsSt F FL T w b lb q p lv ms X L) (k6:Keep F w w6) (s6:Sub F6 F w) (hxx:w.heap.size≤x) (o:SAll F6 FL T w6 x b lb q p n ms L w7) :
    Calls Tryz.prog 26 #[.pointer (some ⟨p,0,none⟩)] w7 fun e w'=>e = .returned (.tuple #[])∧SXpo F FL T w b lb q p n ms L w':=by
  obtain ⟨c,pv,Z,hc,o,hbk,hba,hco,hlo,hp1,hp2⟩:=o
  rw [hlo] at hco hp1 hp2
  obtain ⟨F7,la,lc,T7,s7,k7,e7,ms7,hT7⟩:=o
  obtain ⟨G,dG,hG⟩:=e7.st.dk
  refine (zj1 G p Z w7 dG hbk.free.1).mono ?_
  rintro e w8 ⟨rfl,t⟩
  have t8:=StoreTo.of t e7.st.blk e7.st.inF hG
  obtain ⟨k8,F8,s8,d8⟩:=t8
  have d8':=d8.low
  have k67:=k6.size
  have k77:=k7.size
  have k88:=k8.size
  have hb:b < w.heap.size:=lt_of_block h.vt
  have kA:Keep (fun g=>F g∨g=b) w w7:=k6.trans k7 (fun _ _ y=>.inl y) (fun g hg y=>by
    rcases y with y | y | y
    · rcases s6 g y with u | u
      · exact .inl u
      · omega
    · omega
    · exact .inr y)
  have s7w:∀ g,F7 g→F g∨w.heap.size≤g:=fun g y=>by
    rcases s7 g y with u | u
    · exact s6 g u
    · exact .inr (by omega)
  have s8w:∀ g,F8 g→F g∨w.heap.size≤g:=fun g y=>by
    rcases s8 g y with u | u
    · exact s7w g u
    · exact .inr (by omega)
  have kB:Keep (fun g=>F g∨g=b) w w8:=kA.trans k8 (fun _ _ y=>y) (fun g hg y=>by
    rcases s7w g y with u | u
    · exact .inl u
    · omega)
  have hT8:∀ g,T7 g→¬ F8 g∧g≠b∧g < w8.heap.size∧(T g∨w.heap.size≤g):=fun g y=>by
    obtain ⟨a1,a2,a3,a4,a5⟩:=hT7 g y
    refine ⟨fun z=>?_,a2,by omega,?_⟩
    · rcases s8 g z with u | u
      · exact a1 u
      · omega
    · rcases a5 with u | u
      · exact .inl u
      · exact .inr (by omega)
  have el:(ms ++ [exN ms c]).length=ms.length+1:=by simp
  refine ⟨rfl,kB,fun g=>F8 g∧g < w8.heap.size,T7,la,lc,exN ms c,{ Z with fuse:=-1 },⟨?_,?_,d8',e7.lg.keep k8 (fun g y z=>e7.apart g z y),h.lay.keep kB (fun g y z=>?_),⟨fun y=>?_,h.out.2.1,fun y=>(hT7 b y).2.1 rfl,h.out.2.2.2⟩,fun g y z=>?_,fun g y=>⟨fun z=>(hT8 g y).1 z.1,fun z=>?_⟩,fun g y=>⟨?_,y.2⟩,fun g y=>Nat.lt_of_lt_of_le (h.lowL g y) kB.size,fun g y=>(hT8 g y).2.2.1⟩,hbk.start,hba.start,?_,fun g y=>s8w g y.1,fun g y=>(hT8 g y).2.2.2,hco,hp1,hp2⟩
  · rw [el];exact k8.at e7.vt e7.out.2.1
  · rw [el];exact ms7.keep k8 (fun g y=>(hT7 g y).1)
  · rcases z with z | z
    · have:=(h.low g z).1;omega
    · have:=h.out.2.2.2;omega
  · rcases s8 b y.1 with u | u
    · exact e7.out.2.1 u
    · omega
  · rcases s8w g y.1 with u | u
    · exact h.apart g u z
    · have:=h.lowL g z;omega
  · rcases (hT8 g y).2.2.2 with u | u
    · exact (h.apartT g u).2 z
    · have:=h.lowL g z;omega
  · rcases s8w g y.1 with u | u
    · exact (h.low g u).1
    · have:=h.out.2.2.2;omega
  · rw [zoc,hc]
theorem zeE {F FL T:Nat→Prop} {b lb q p n lo:Nat} {la:Option Addr} {lc:Nat} {ms:List Mf} {X:Dk} {L:Lg} (w:World) (h:VsSt F FL T w b lb q p (.slice la ms.length lc) ms X L) (hbk:Bk X ms) (hba:Bare X ms) (h4:ms.length≤4) (hl:Log1 L) (h3:∀ a,(cellL L a).1≠3) (hlow:∀ s ∈ L.shs,s.l=0) (hlo:lo=endM ms) (h0:lo < n) (hn:n≤L.next) :
    Calls Tryz.prog 7 #[.pointer (some ⟨b,0,none⟩),.pointer (some ⟨lb,0,none⟩),.pointer (some ⟨p,0,none⟩),.int .i64 n,.slice none 0 0] w fun e w'=>e = .returned (.tuple #[.pointer (some ⟨b,0,none⟩),.bool true])∧SXpo F FL T w b lb q p n ms L w':=by
  have hn2:n≤200:=by have:=hl.next;omega
  obtain ⟨hbp,PI⟩:=ziy (L:=L) hbk hba h4 (n:=n) hn2 (by omega)
  rw [← hlo] at hbp PI
  have hcd1:(X.sput cname (cuBy (cuN lo n))).1=0:=by rw [hbp]
  have hcd2:(X.sput cname (cuBy (cuN lo n))).2=putX X cname (cuBy (cuN lo n)):=by rw [hbp]
  have BG:=zz0 (zld w h hbk hba hl hlow lo n hlo h0 hn 0 hcd1)
  have AL:=zz0 (fun F' x W (e:ExSt F' FL W x b lb q p (.slice la ms.length lc) (cuN lo n) (.slice none 0 0) false (putX X cname (cuBy (cuN lo n))) L) (hm:MsAt T W (.slice la ms.length lc) ms) (hT:∀ g,T g→¬ F' g∧g≠b∧g≠x∧g < W.heap.size)=>zo7 W e hm hT PI hl h3)
  have H:=zz0 h
  have HC:=zz0 hcd2
  clear h PI hcd1 hcd2 hbp h3 hlow hbk hba hl hlo
  go_enter Tryz.func7,Tryz.ntmps7
  go_wp2_with (go_at_call 23;refine BG.out.mono ?_;rintro e w6 ⟨x,he,-,k6,F6,s6,l6,st6,hx6⟩;obtain rfl:=he rfl;obtain ⟨hxx,nx,xb⟩:=hx6 rfl;rw [HC.out] at st6;obtain ⟨y1,y2,y3⟩:=zj9 H.out k6 s6 l6 st6 hxx nx xb;have ALW:=zz0 (AL.out F6 x w6 y1 y2 y3);have K6:=zz0 k6;have S6:=zz0 s6;have XX:=zz0 hxx;clear he k6 s6 l6 st6 hx6 hxx nx xb y1 y2 y3)
  refine wp_loop_rounds 1 ?_
  rw [rounds_succ]
  go_wp2_with (first
    | (go_at_call 25;refine ALW.out.mono ?_;rintro e w7 ⟨k,v,rfl,rfl,o⟩;have DS:=zz0 (zjn H.out K6.out S6.out XX.out o);clear o)
    | (go_at_call 26;refine DS.out.mono ?_;rintro e w8 ⟨rfl,o8⟩;have O8:=zz0 o8;clear o8))
  go_ret2
  exact ⟨rfl,O8.out⟩
theorem zhw {F FL T:Nat→Prop} {b lb q p lo:Nat} {lv:Value} {ms:List Mf} {X:Dk} {L:Lg} (n:Int) (w:World) (h:VsSt F FL T w b lb q p lv ms X L) (hbk:Bk X ms) (hba:Bare X ms) (hl:Log1 L) (hlo:lo=endM ms) (hn:¬ ((lo:Int) < n∧n≤L.next)) :
    Calls Tryz.prog 7 #[.pointer (some ⟨b,0,none⟩),.pointer (some ⟨lb,0,none⟩),.pointer (some ⟨p,0,none⟩),.int .i64 n,.slice none 0 0] w fun e w'=>e = .returned (.tuple #[.pointer (some ⟨b,0,none⟩),.bool true])∧Keep Non w w':=by
  have BG:=zz0 (zlc w h hbk hba hl lo hlo n hn)
  clear h hbk hba hl hlo hn
  go_enter Tryz.func7,Tryz.ntmps7
  go_wp2_with (go_at_call 23;refine BG.out.mono ?_;rintro e w6 ⟨rfl,k6⟩;have K6:=zz0 k6;clear k6)
  go_ret2
  exact ⟨rfl,K6.out⟩
section
attribute [local go_sem ↓] hV84 hV106 hV87 hW84 hW106 hW87 hB106 hB87
theorem zjx (T:Nat→Prop) (b q:Nat) (lv:Value) (ms:List Mf) (p:Pt) (w:World) (h:w.heap[b]? = some (VtB q lv)) (hm:MsAt T w lv ms) (hlen:ms.length≤1000) (hz:(lastM ms).trim < p.first+p.many) (hp:p.first+p.many≤1048576) :
    Calls Tryz.prog 47 #[.pointer (some ⟨b,0,none⟩),ptV p] w fun e w'=>e = .returned (.bool true)∧Keep Non w w':=by
  have kA:Keep Non w (w.alloc (PtB p)):=(Keep.refl _ _).alloc _
  have VB:Hid (∀ W,Keep Non w W→W.cell? ⟨b,1,none⟩=some lv):=zz0 (fun W k=>vt_1 (nonAt k h))
  have MK:=zz0 (fun W (k:Keep Non w W)=>zcI T lv ms W (hm.keepNon k) (by omega))
  have B1:=zz0 (zab w (PtB p))
  have P0:Hid (∀ W,Keep Non (w.alloc (PtB p)) W→W.cell? ⟨w.heap.size,0,none⟩=some (.int .i64 p.first)∧W.cell? ⟨w.heap.size,1,none⟩=some (.int .i64 p.many)):=zz0 (fun W k=>⟨pt_0 (nonAt k B1.out),pt_1 (nonAt k B1.out)⟩)
  have KA:=zz0 kA
  obtain ⟨la,lc,rfl,_⟩:=id hm
  clear h hm kA
  unfold ptV
  go_enter Tryz.func47,Tryz.ntmps47
  go_wp2_with fail
  have kd:Keep Non (w.alloc (PtB p)) (w.alloc (PtB p)).drew:=(Keep.refl _ _).drew
  obtain ⟨y0,y1⟩:=P0.out _ kd
  have v1:=VB.out _ (KA.out.trans1 kd)
  have MKW:=zz0 (MK.out _ (KA.out.trans1 kd))
  have hgt:((lastM ms).trim:Int) < (p.first:Int)+(p.many:Int):=by omega
  have hwr:IntKind.wrap .i64 ((p.first:Int)+(p.many:Int))=(p.first:Int)+(p.many:Int):=IntWalk.i64_in _ (by omega)
  have KD:=zz0 (KA.out.trans1 kd)
  clear kd
  dsimp only [PtB] at y0 y1 v1 MKW
  go_region_law (go_simp;go_at_call 68;((with_reducible refine MKW.out.mono ?_);rintro e w2 ⟨rfl,k2⟩);have k2':Keep Non (w.alloc (PtB p)) w2:=((Keep.refl _ _).drew).trans1 k2;obtain ⟨z0,z1⟩:=P0.out w2 k2';have u1:=VB.out w2 (KA.out.trans1 k2');have K2:=zz0 (KA.out.trans1 k2');clear k2 k2')
  all_goals
    go_wp2_with fail
    go_ret
    exact ⟨rfl,K2.out⟩
theorem zlI (F T:Nat→Prop) (b q p:Nat) (lv:Value) (ms:List Mf) (X:Dk) (w:World) (hb:w.heap[b]? = some (VtB q lv)) (d:StoreAt F w q p X) (hdn:X.down=false) (hlay:Lay w) (hm:MsAt T w lv ms) (hlen:ms.length < 90)
    (hms:∀ (j:Nat) m,ms[j]? = some m→m.num=j∧m.parts.length≤64∧∀ (i:Nat) pt,m.parts[i]? = some pt→pt.sum.length=32∧(lastM ms).trim < pt.first+pt.many∧pt.first+pt.many≤1048576)
    (J I:Nat) (M:Mf) (B:List UInt8) (hJ:ms[J]? = some M) (hI:I < M.parts.length) (b0:∃ f cl,M.parts[I]? = some (ptOf f cl)) (b1:fhas X.shown (labelN J I)=true) (b2:fget X.shown (labelN J I)=B) (hB:Bad B)
    (good:∀ (j i:Nat) m pt,ms[j]? = some m→m.parts[i]? = some pt→j < J∨j=J∧i < I→SegN X j i pt) :
    Calls Tryz.prog 17 #[.pointer (some ⟨b,0,none⟩)] w fun e w'=>∃ n:Nat,e = .returned (.tuple #[.int .i64 n,.iface 55 (.int .i64 11)])∧Keep Non w w':=by
  have hJl:J < ms.length:=(List.getElem?_eq_some_iff.1 hJ).1
  have BB:=zz0 hb
  have H:=zz0 hm
  have HMS:=zz0 hms
  have c1:=vt_1 hb
  have NE:=zz0 (fun W pt (k:Keep Non w W) h1 h2=>zjx T b q lv ms pt W (nonAt k hb) (hm.keepNon k) (by omega) h1 h2)
  have GO:=zz0 (fun W (k:Keep Non w W) j i m f cl (h1:ms[j]? = some m) (h2:m.parts[i]? = some (ptOf f cl)) (h3:m.parts.length≤64) s1 s2 s3 s4 s5=>znt F T b q p j i f lv ms m cl X W (nonAt k hb) (d.keep k (fun _ _ e=>e)) hdn (hlay.keepNon k) (hm.keepNon k) h1 hlen h2 (by omega) (by have:=(List.getElem?_eq_some_iff.1 h2).1;omega) s1 s2 s3 s4 s5)
  have GN:=zz0 (fun W (k:Keep Non w W) m f cl (h1:ms[J]? = some m) (h2:m.parts[I]? = some (ptOf f cl)) (h3:m.parts.length≤64)=>zpy F T b q p J I f lv ms m cl X W (nonAt k hb) (d.keep k (fun _ _ e=>e)) hdn (hlay.keepNon k) (hm.keepNon k) h1 hlen h2 (by omega) (by have:=(List.getElem?_eq_some_iff.1 h2).1;omega) B b1 b2 hB)
  have GD:=zz0 good
  have HJ:=zz0 hJ
  have B0:=zz0 b0
  obtain ⟨a,c,rfl,hc,ha,hx⟩:=hm
  clear hb d hdn hlay hx ha hms good hJ b0 b1 b2 hB
  go_enter Tryz.func17,Tryz.ntmps17
  go_wp2_with fail
  go_loopw [4,19] (fun n i wr=>∃ j k:Nat,j≤J∧i = .int .i64 j∧n = .int .i64 k∧k≤64 * j∧Keep Non w wr) (fun _ i _=>ms.length - (intOf i).toNat)
  case atStart=>exact ⟨0,0,by omega,rfl,rfl,by omega,Keep.refl _ _⟩
  case round =>
    obtain ⟨j,k,hj,rfl,rfl,hk,kw⟩:=hrel
    have K:=zz0 kw
    clear kw
    have hlj:(j:Int) < (ms.length:Int):=by omega
    obtain ⟨m,hmj⟩:∃ m,ms[j]? = some m:=⟨_,List.getElem?_eq_getElem (by omega)⟩
    obtain ⟨a1,c1',e1,hc1,ha1,hx⟩:=H.out.keepNon K.out
    injection e1 with e1 e3 e4
    subst e1
    subst e4
    obtain ⟨hp32,g,off,pa,pc,rfl,x1,x2,x3⟩:=hx j m hmj
    obtain ⟨hnum,h64,hpts⟩:=HMS.out j m hmj
    have hld:=load83 wr g (off+j * 37) m (.slice pa m.parts.length pc) hp32 x3
    have hst:=zaF wr m pa m.parts.length pc hp32
    have m36:=mf_36 (zab wr (MfB m (.slice pa m.parts.length pc))) hp32
    have PA:=zz0 (x1.keepNon ((Keep.refl Non wr).alloc (MfB m (.slice pa m.parts.length pc))))
    have MB:=zz0 (zab wr (MfB m (.slice pa m.parts.length pc)))
    have K0:=zz0 (K.out.alloc (MfB m (.slice pa m.parts.length pc)))
    have HPT:=zz0 hpts
    have HMJ:=zz0 hmj
    have HNUM:=zz0 hnum
    dsimp only [zMf,MfB] at hst
    dsimp only [MfB] at m36
    clear hx ha1 x1 x2 x3 hpts hmj hnum
    go_wp2_with fail
    obtain ⟨W0,hW0⟩:∃ W0,W0=wr.alloc (MfB m (.slice pa m.parts.length pc)):=⟨_,rfl⟩
    rw [← hW0] at PA MB K0
    obtain ⟨mb,hmb⟩:∃ mb,mb=wr.heap.size:=⟨_,rfl⟩
    rw [← hmb] at MB
    unfold MfB at hW0
    rw [← hW0]
    try rw [← hmb]
    clear hW0 hmb m36 hst hld
    obtain ⟨N,hN⟩:∃ N,(j=J∧N=I)∨(j < J∧N=m.parts.length):=by
      rcases Nat.lt_or_ge j J with h | h
      · exact ⟨_,.inr ⟨h,rfl⟩⟩
      · exact ⟨_,.inl ⟨by omega,rfl⟩⟩
    have hNle:N≤m.parts.length:=by
      rcases hN with ⟨e1,e2⟩ | ⟨_,e2⟩
      · have:m=M:=by
          have:=HMJ.out
          rw [e1,HJ.out] at this
          injection this with this
          exact this.symm
        rw [this,e2]
        omega
      · omega
    go_loopw [4,26] (fun n i wr=>∃ u v:Nat,u≤N∧i = .int .i64 u∧n = .int .i64 v∧v≤64 * j+u∧Keep Non W0 wr) (fun _ i _=>m.parts.length - (intOf i).toNat)
    case atStart=>exact ⟨0,k,by omega,rfl,rfl,by omega,Keep.refl _ _⟩
    case round =>
      obtain ⟨u,v,hu,rfl,rfl,hv,kq⟩:=hrel
      have KQ:=zz0 kq
      clear kq
      by_cases hlt:u < N
      · have hlm:(u:Int) < (m.parts.length:Int):=by omega
        obtain ⟨pt,hpt⟩:∃ pt,m.parts[u]? = some pt:=⟨_,List.getElem?_eq_getElem (by omega)⟩
        obtain ⟨p5,hz,hs⟩:=HPT.out u pt hpt
        obtain ⟨f,cl,rfl,s1,s2,s3,s4,s5,s6⟩:=GD.out j u m pt HMJ.out hpt (by
          rcases hN with ⟨e1,e2⟩ | ⟨e1,_⟩
          · exact .inr ⟨e1,by omega⟩
          · exact .inl e1)
        have GOJ:=zz0 (fun W (k:Keep Non w W)=>GO.out W k j u m f cl HMJ.out hpt h64 s1 s2 s4 s5 s6)
        obtain ⟨a1,c1,e1,_,_,hx⟩:=PA.out.keepNon KQ.out
        injection e1 with e1 e3 e4
        subst e1
        subst e4
        obtain ⟨g2,off2,rfl,hcell⟩:=hx u _ hpt
        have NEJ:=zz0 (fun W (k:Keep Non w W)=>NE.out W (ptOf f cl) k hz hs)
        generalize hptg:ptOf f cl=pt at hcell p5 NEJ
        have hld:=load101 wr g2 (off2+u * 35) pt p5 hcell
        have hsp:=zas wr pt p5
        have hlp:=zaG (zab wr (PtB pt)) p5
        have kwp:Keep Non w (wr.alloc (PtB pt)):=(K0.out.trans1 KQ.out).alloc _
        have NEW:=zz0 (NEJ.out _ kwp)
        have KWP:=zz0 kwp
        have KQP:Hid (Keep Non W0 (wr.alloc (PtB pt))):=zz0 (KQ.out.alloc _)
        dsimp only [zPt,PtB] at hsp
        dsimp only [PtB] at hlp NEW
        clear s1 s2 s3 s4 s5 s6 hx hcell hpt kwp hz hs hptg
        go_wp2_with (first
          | (go_at_call 47;((with_reducible refine NEW.out.mono ?_);rintro r w2 ⟨rfl,k2⟩);have K2:=zz0 (KWP.out.trans1 k2);have n2:=mf_0 (nonAt (KQP.out.trans1 k2) MB.out);rw [HNUM.out] at n2;have GOW:=zz0 (GOJ.out w2 K2.out);have KK2:=zz0 (KQP.out.trans1 k2);clear k2)
          | (go_at_call 48;refine GOW.out.mono ?_;rintro r w3 ⟨v3,rfl,k3,xs,o3,_⟩;obtain ⟨a3,c3,rfl,_,_⟩:=zaa o3;have K3:=zz0 (KK2.out.trans1 k3);clear k3 o3))
        exact ⟨⟨u+1,v+1,by omega,by first | rfl | go_num,by first | rfl | go_num,by omega,K3.out.alloc _⟩,by simp [intOf];omega⟩
      · obtain rfl:u=N:=by omega
        rcases hN with ⟨e1,e2⟩ | ⟨hjl,e2⟩
        · have hmM:m=M:=by
            have:=HMJ.out
            rw [e1,HJ.out] at this
            injection this with this
            exact this.symm
          obtain ⟨f,cl,hpt0⟩:=B0.out
          have hpt:m.parts[u]? = some (ptOf f cl):=by rw [hmM,e2];exact hpt0
          have hum:u < m.parts.length:=(List.getElem?_eq_some_iff.1 hpt).1
          have hlm:(u:Int) < (m.parts.length:Int):=by omega
          obtain ⟨p5,hz,hs⟩:=HPT.out u _ hpt
          have GOJ:=zz0 (fun W (k:Keep Non w W)=>GN.out W k m f cl (by rw [← e1];exact HMJ.out) (by rw [← e2];exact hpt) h64)
          rw [← e1,← e2] at GOJ
          clear e1 e2 hmM hpt0
          obtain ⟨a1,c1,ea,_,_,hx⟩:=PA.out.keepNon KQ.out
          injection ea with ea e3 e4
          subst ea
          subst e4
          obtain ⟨g2,off2,rfl,hcell⟩:=hx u _ hpt
          have NEJ:=zz0 (fun W (k:Keep Non w W)=>NE.out W (ptOf f cl) k hz hs)
          generalize hptg:ptOf f cl=pt at hcell p5 NEJ
          have hld:=load101 wr g2 (off2+u * 35) pt p5 hcell
          have hsp:=zas wr pt p5
          have hlp:=zaG (zab wr (PtB pt)) p5
          have kwp:Keep Non w (wr.alloc (PtB pt)):=(K0.out.trans1 KQ.out).alloc _
          have NEW:=zz0 (NEJ.out _ kwp)
          have KWP:=zz0 kwp
          have KQP:Hid (Keep Non W0 (wr.alloc (PtB pt))):=zz0 (KQ.out.alloc _)
          dsimp only [zPt,PtB] at hsp
          dsimp only [PtB] at hlp NEW
          clear hx hcell hpt kwp hz hs hptg
          go_wp2_with (first
            | (go_at_call 47;((with_reducible refine NEW.out.mono ?_);rintro r w2 ⟨rfl,k2⟩);have K2:=zz0 (KWP.out.trans1 k2);have n2:=mf_0 (nonAt (KQP.out.trans1 k2) MB.out);rw [HNUM.out] at n2;have GOW:=zz0 (GOJ.out w2 K2.out);have KK2:=zz0 (K2.out);clear k2)
            | (go_at_call 48;refine GOW.out.mono ?_;rintro r w3 ⟨rfl,k3⟩;have K3:=zz0 (KK2.out.trans1 k3);clear k3))
          go_ret2
          exact ⟨v,rfl,K3.out.alloc _⟩
        · have hll:¬ ((u:Int) < (m.parts.length:Int)):=by omega
          go_wp2_with fail
          exact ⟨⟨j+1,v,by omega,by first | rfl | go_num,rfl,by omega,K0.out.trans1 KQ.out⟩,by simp [intOf];omega⟩
end
end Go.Proofs.YtnboipdpccnedaaGreatDoor
