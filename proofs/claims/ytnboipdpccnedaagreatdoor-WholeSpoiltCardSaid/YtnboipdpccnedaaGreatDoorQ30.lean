/- The taker of a cursor: address, part: walked. · slog.all, where the units are read only before they are done: walked (turned from WAll). · cursor.Take -/
import Derived.Test.YtnboipdpccnedaaGreatDoorQ26
import Derived.Test.YtnboipdpccnedaaGreatDoorQ27
set_option linter.unusedVariables false
set_option maxRecDepth 100000
set_option maxHeartbeats 16000000
namespace Go.Proofs.YtnboipdpccnedaaGreatDoor
open Go.RowKit
theorem zb4 {w w':World} {p:Nat} {b:Nat} {o:Obj} (k:Keep (One p) w w') (h:w.heap[b]? = some o) (hne:b≠p):w'.heap[b]? = some o:=k.at h hne
theorem zop:(Tryz.prog.info? 5).map (·.size)=some 1:=by kernel_rfl
section
attribute [local go_sem ↓] hV84 hV106 hV87 hW84 hW106 hW87 hB106 hB87
end
theorem zjD (g:Nat) (x y z:Value) (a:Option Addr) (c:Nat) (us:List Nat) (I:Nat→World→Prop) (w:World)
    (eg:∀ args w,(callFunc g args).run Tryz.prog w = .ok (.enter g args) w)
    (hr:∀ (j:Nat) W,j < us.length→I j W→Rd W (.slice a us.length c) (us.map iv)) (h0:I 0 w) (hl:us.length≤1000)
    (hs:∀ (j u:Nat) W,us[j]? = some u→I j W→Calls Tryz.prog g #[.int .i64 u,x,y,z] W fun e w'=>e = .returned .nilIface∧I (j+1) w') :
    Calls Tryz.prog 124 #[.slice a us.length c,.func (.func g) #[] #[x,y,z]] w fun e w'=>e = .returned .nilIface∧I us.length w':=by
  have HS:=zz0 hs
  have HR:=zz0 hr
  clear hs hr
  go_enter Tryz.func124,Tryz.ntmps124
  go_wp2_with fail
  go_loopw [10] (fun i wr=>∃ j:Nat,j≤us.length∧i = .int .i64 j∧I j wr) (fun i _=>us.length - (intOf i).toNat)
  case atStart=>exact ⟨0,by omega,rfl,h0⟩
  case round =>
    obtain ⟨j,hj,rfl,hi⟩:=hrel
    have HI:=zz0 hi
    clear hi
    by_cases hlt:j < us.length
    · have hrd:=HR.out j wr hlt HI.out
      have hlj:(j:Int) < (us.length:Int):=by omega
      obtain ⟨b,off,rfl,hc⟩:∃ b off,a=some ⟨b,off,none⟩∧∀ (k:Nat) u,(us.map iv)[k]? = some u→wr.cell? ⟨b,off+k,none⟩=some u:=by
        obtain ⟨a',c',e,hx⟩:=hrd
        injection e with e1 e2 e3
        obtain ⟨g',off,e4,hc⟩:=hx (by intro e;have e':=List.map_eq_nil_iff.1 e;rw [e'] at hlt;exact absurd hlt (by simp))
        exact ⟨g',off,e1.trans e4,hc⟩
      obtain ⟨u,hu⟩:∃ u,us[j]? = some u:=⟨_,List.getElem?_eq_getElem hlt⟩
      have hcell:wr.cell? ⟨b,off+j,none⟩=some (.int .i64 (u:Int)):=hc j _ (by rw [List.getElem?_map,hu];rfl)
      have ST:=zz0 (HS.out j u wr hu HI.out)
      clear hc hrd hu
      clear HR
      go_wp2_with fail
      refine ST.out.mono ?_
      rintro e w1 ⟨rfl,i1⟩
      have I1:=zz0 i1
      clear i1 ST HS
      go_wp2_with fail
      exact ⟨⟨j+1,by omega,by first | rfl | go_num,I1.out⟩,by simp [intOf];omega⟩
    · obtain rfl:j=us.length:=by omega
      go_wp2_with fail
      go_ret
      exact ⟨rfl,HI.out⟩
end Go.Proofs.YtnboipdpccnedaaGreatDoor
namespace Go.Proofs.YtnboipdpccnedaaGreatDoor
open Go.RowKit Go.Maps
section
variable {F : Nat → Prop} {W0 W : World} {q tb rb n : Nat} {r rest : List UInt8} {A : Option Nat}
theorem zn2 {cb:Nat} (h:W.heap[cb]? = some (CuB ⟨0,0,0,0,[]⟩ (.slice none 0 0))) (a b c d:Nat) :
    W.cell? ⟨cb,0,none⟩=some (.int .i64 ((0:Nat):Int))∧(W.setCell ⟨cb,0,none⟩ (.int .i64 a)).cell? ⟨cb,1,none⟩=some (.int .i64 ((0:Nat):Int))∧((W.setCell ⟨cb,0,none⟩ (.int .i64 a)).setCell ⟨cb,1,none⟩ (.int .i64 b)).cell? ⟨cb,2,none⟩=some (.int .i64 ((0:Nat):Int))∧(((W.setCell ⟨cb,0,none⟩ (.int .i64 a)).setCell ⟨cb,1,none⟩ (.int .i64 b)).setCell ⟨cb,2,none⟩ (.int .i64 c)).cell? ⟨cb,3,none⟩=some (.int .i64 ((0:Nat):Int))∧((((W.setCell ⟨cb,0,none⟩ (.int .i64 a)).setCell ⟨cb,1,none⟩ (.int .i64 b)).setCell ⟨cb,2,none⟩ (.int .i64 c)).setCell ⟨cb,3,none⟩ (.int .i64 d)).cell? ⟨cb,4,none⟩=some (.slice none 0 0) ∧
    W.frozen? ⟨cb,0,none⟩=false∧(W.setCell ⟨cb,0,none⟩ (.int .i64 a)).frozen? ⟨cb,1,none⟩=false∧((W.setCell ⟨cb,0,none⟩ (.int .i64 a)).setCell ⟨cb,1,none⟩ (.int .i64 b)).frozen? ⟨cb,2,none⟩=false∧(((W.setCell ⟨cb,0,none⟩ (.int .i64 a)).setCell ⟨cb,1,none⟩ (.int .i64 b)).setCell ⟨cb,2,none⟩ (.int .i64 c)).frozen? ⟨cb,3,none⟩=false∧((((W.setCell ⟨cb,0,none⟩ (.int .i64 a)).setCell ⟨cb,1,none⟩ (.int .i64 b)).setCell ⟨cb,2,none⟩ (.int .i64 c)).setCell ⟨cb,3,none⟩ (.int .i64 d)).frozen? ⟨cb,4,none⟩=false:=by
  have h1:(W.setCell ⟨cb,0,none⟩ (.int .i64 a)).heap[cb]? = some (CuB ⟨a,0,0,0,[]⟩ (.slice none 0 0)):=zaf h 0 _
  have h2:((W.setCell ⟨cb,0,none⟩ (.int .i64 a)).setCell ⟨cb,1,none⟩ (.int .i64 b)).heap[cb]? = some (CuB ⟨a,b,0,0,[]⟩ (.slice none 0 0)):=zaf h1 1 _
  have h3:(((W.setCell ⟨cb,0,none⟩ (.int .i64 a)).setCell ⟨cb,1,none⟩ (.int .i64 b)).setCell ⟨cb,2,none⟩ (.int .i64 c)).heap[cb]? = some (CuB ⟨a,b,c,0,[]⟩ (.slice none 0 0)):=zaf h2 2 _
  have h4:((((W.setCell ⟨cb,0,none⟩ (.int .i64 a)).setCell ⟨cb,1,none⟩ (.int .i64 b)).setCell ⟨cb,2,none⟩ (.int .i64 c)).setCell ⟨cb,3,none⟩ (.int .i64 d)).heap[cb]? = some (CuB ⟨a,b,c,d,[]⟩ (.slice none 0 0)):=zaf h3 3 _
  exact ⟨cu_0 h,cu_1 h1,cu_2 h2,cu_3 h3,cu_4 h4,cu_f h 0,cu_f h1 1,cu_f h2 2,cu_f h3 3,cu_f h4 4⟩
end
section
attribute [local go_sem ↓] hV84 hV106 hV87 hW84 hW106 hW87 hB106 hB87 hBS85
end
end Go.Proofs.YtnboipdpccnedaaGreatDoor
namespace Go.Proofs.YtnboipdpccnedaaGreatDoor
open Go.RowKit
theorem zl5 {w:World} {b g c n:Nat} {D:List UInt8} (h3:D.length=32) (hb:w.heap[b]? = some (.cells z32 84 (0,0))) (o:w.ownsRow n 5 1 (.slice (some ⟨g,0,none⟩) 32 c) 32 (D.map bv)) :
    (Builtin.copy_ #[44,44] 3 #[.slice (some ⟨b,0,none⟩) 32 32,.slice (some ⟨g,0,none⟩) 32 c]).run Tryz.prog w = .ok (.int .i64 32) (w.setRow b (D.map bv).toArray):=by
  have hr:=Rd.ofOwns o
  have h:=zbS (P:=Tryz.prog) w 44 44 3 5 1 b 0 32 32 ⟨g,0,none⟩ 32 c z32 84 (D.map bv) Tryz.underlying44 zop hb (by rw [List.length_map,h3];rfl)
    (by
      obtain ⟨a,c',e,hx⟩:=hr
      injection e with e1 e2 e3
      obtain ⟨g',off,e4,hc⟩:=hx (by intro e;have:=congrArg List.length e;rw [List.length_map,h3] at this;cases this)
      rw [← e1] at e4
      injection e4 with e4
      injection e4 with e4 e5
      subst e4
      subst e5
      intro j v hv
      rw [zau]
      exact hc j v hv)
    (by rw [List.length_map,h3];decide) (zam _)
  rw [h]
  have e:z32.toList.take 0 ++ D.map bv ++ z32.toList.drop (0+(D.map bv).length)=D.map bv:=by
    have hd:z32.toList.drop (0+32) = []:=by rfl
    rw [List.length_map,h3,hd,List.append_nil]
    rfl
  rw [e]
  rfl
section
attribute [local go_sem ↓] hV84 hV106 hV87 hW84 hW106 hW87 hB106 hB87
theorem zkA (F:Nat→Prop) (q:Nat) (D r:List UInt8) (w:World) (h:RdAt F w q (D ++ r)) (h3:D.length=32) (hF:∀ g,F g→g < w.heap.size) :
    Calls Tryz.prog 96 #[.pointer (some ⟨q,0,none⟩)] w fun e w'=>e = .returned (arrV D)∧Keep (One q) w w'∧RdAt F w' q r:=by
  have hq:q < w.heap.size:=by obtain ⟨_,q1,_⟩:=h;exact lt_of_block q1
  have H:=zz0 h
  have HF:=zz0 hF
  clear h hF
  go_enter Tryz.func96,Tryz.ntmps96
  go_wp2_with fail
  have kA:Keep Non w ((w.alloc (.cells z32 84)).alloc (.cells z32 84)):=((Keep.refl _ _).alloc _).alloc _
  have gA:((w.alloc (.cells z32 84)).alloc (.cells z32 84)).heap[w.heap.size]? = some (.cells z32 84 (0,0)):=zae (zab w _) _
  have zA:((w.alloc (.cells z32 84)).alloc (.cells z32 84)).heap[w.heap.size+1]? = some (.cells z32 84 (0,0)):=zaA _ _ _
  have sA:w.heap.size+2=((w.alloc (.cells z32 84)).alloc (.cells z32 84)).heap.size:=by simp
  obtain ⟨wA,hwA⟩:∃ wA,wA=((w.alloc (.cells z32 84)).alloc (.cells z32 84)):=⟨_,rfl⟩
  rw [← hwA] at kA gA zA sA
  unfold z32 at hwA
  rw [← hwA]
  clear hwA
  have FX:=zz0 (zhX F q D r wA.drew (H.out.keep kA.drew (fun _ _ e=>e)) (by rw [h3];omega))
  rw [h3] at FX
  have KA:=zz0 kA
  have GA:=zz0 gA
  have ZA:=zz0 zA
  clear kA gA zA
  go_region_law (go_simp;go_at_call 152;refine FX.out.mono ?_;rintro e w5 ⟨v5,rfl,k5',r5,o5⟩;obtain ⟨g5,c5,rfl,_,y5,_⟩:=zbO o5 (by omega);have k5:Keep (One q) wA w5:=((Keep.refl Non wA).drew).ofNon.trans1 k5';have z5:=zb4 k5 ZA.out (by omega);have g5':=zb4 k5 GA.out (by omega);have hcp:=zl5 h3 z5 o5;have hlp:=zco (w:=w5.setRow (w.heap.size+1) (D.map bv).toArray) (setRow_heap _ _ _ _ _ _ z5) h3;have kS:Keep (One (w.heap.size+1)) w5 (w5.setRow (w.heap.size+1) (D.map bv).toArray):=(Keep.refl (One (w.heap.size+1)) _).setRow (.inl (zar _)) _;have g6:=zb4 kS g5' (by omega);have hsp:=zcd (w5.setRow (w.heap.size+1) (D.map bv).toArray) w.heap.size D z32 h3 rfl g6;have Q4:=zz0 (zco (setRow_heap _ _ _ (D.map bv).toArray _ _ g6) h3);have kT:Keep (One w.heap.size) (w5.setRow (w.heap.size+1) (D.map bv).toArray) ((w5.setRow (w.heap.size+1) (D.map bv).toArray).setRow w.heap.size (D.map bv).toArray):=(Keep.refl (One w.heap.size) _).setRow (.inl (zar _)) _;have Q5:Hid (Keep (One q) w ((w5.setRow (w.heap.size+1) (D.map bv).toArray).setRow w.heap.size (D.map bv).toArray)):=zz0 (((KA.out.ofNon.trans1 k5).trans kS (fun _ _ e=>e) (fun g hg e=>by have e':g=w.heap.size+1:=e;omega)).trans kT (fun _ _ e=>e) (fun g hg e=>by have e':g=w.heap.size:=e;omega));have Q6:Hid (RdAt F ((w5.setRow (w.heap.size+1) (D.map bv).toArray).setRow w.heap.size (D.map bv).toArray) q r):=zz0 ((r5.keep kS (fun g hg e=>by have e':g=w.heap.size+1:=e;have:=HF.out g hg;omega)).keep kT (fun g hg e=>by have e':g=w.heap.size:=e;have:=HF.out g hg;omega));clear k5' k5 r5 o5 y5 z5 g5' g6 kS kT)
  go_wp2_with fail
  have hlv:=Q4.out
  unfold holdV at hlv
  refine bodyPost_ret (v:=arrV D) (by simp [results,Tryz.results96,asAddr,hlv]) rfl ?_
  exact ⟨rfl,Q5.out,Q6.out⟩
theorem zmA (F:Nat→Prop) (q:Nat) (p:Pt) (r:List UInt8) (w:World) (h:RdAt F w q (vput p.many ++ (vput p.size ++ (p.sum ++ r)))) (h1:p.many≤64) (h2:p.size≤65536) (h3:p.sum.length=32) (hF:∀ g,F g→g < w.heap.size) :
    Calls Tryz.prog 99 #[.pointer (some ⟨q,0,none⟩),.int .i64 p.first] w fun e w'=>e = .returned (ptV p)∧Keep (One q) w w'∧RdAt F w' q r:=by
  have hq:q < w.heap.size:=by obtain ⟨_,q1,_⟩:=h;exact lt_of_block q1
  have B0:=zz0 (zab w (.cells zPt 106 (0,0)))
  have K0:Hid (Keep Non w (w.alloc (.cells zPt 106))):=zz0 ((Keep.refl _ _).alloc _)
  have Z0:Hid ((w.alloc (.cells zPt 106)).heap.size=w.heap.size+1):=zz0 (by simp)
  have W1':Calls Tryz.prog 95 #[.pointer (some ⟨q,0,none⟩),.int .u64 64] (w.alloc (.cells zPt 106)) fun e w'=>e = .returned (.int .i64 p.many)∧Keep (One q) (w.alloc (.cells zPt 106)) w'∧RdAt F w' q (vput p.size ++ (p.sum ++ r)):=zbc F q p.many 64 _ _ (h.keep K0.out (fun _ _ e=>e)) h1 (by omega)
  have W2':∀ W1,RdAt F W1 q (vput p.size ++ (p.sum ++ r))→Calls Tryz.prog 95 #[.pointer (some ⟨q,0,none⟩),.int .u64 65536] W1 fun e w'=>e = .returned (.int .i64 p.size)∧Keep (One q) W1 w'∧RdAt F w' q (p.sum ++ r):=fun W1 x=>zbc F q p.size 65536 _ W1 x h2 (by omega)
  dsimp only [zPt] at W1'
  have W1:=zz0 W1'
  have W2:=zz0 W2'
  clear W1' W2'
  have W3:=zz0 (fun W2 (x:RdAt F W2 q (p.sum ++ r)) (y:∀ g,F g→g < W2.heap.size)=>zkA F q p.sum r W2 x h3 y)
  have hbu:∀ W:World,(holdB 106 #[(0,.int .i64 p.first),(1,.int .i64 p.many),(2,.int .i64 p.size),(3,arrV p.sum)]).run Tryz.prog W = .ok (ptV p) W:=fun W=>zhN p.first p.many p.size p.sum h3 W
  have HF:=zz0 hF
  clear h hF
  go_enter Tryz.func99,Tryz.ntmps99
  go_wp2_with (first
    | (go_at_call 95;first
      | ((with_reducible refine W1.out.mono ?_);rintro e w1 ⟨rfl,k1,r1⟩;have K1:Hid (Keep (One q) (w.alloc (.cells zPt 106)) w1):=zz0 k1;have R1:=zz0 r1;clear k1 r1)
      | ((with_reducible refine (W2.out _ R1.out).mono ?_);rintro e w2 ⟨rfl,k2,r2⟩;have K2:=zz0 (K1.out.trans1 k2);have R2:=zz0 r2;clear k2 r2))
    | (go_at_call 96;refine (W3.out _ R2.out (fun g e=>by have:=HF.out g e;have:=K2.out.size;have:=Z0.out;omega)).mono ?_;rintro e w3 ⟨rfl,k3,r3⟩;have k3':=K2.out.trans1 k3;have b3:=zb4 k3' B0.out (by omega);have hst:=zcq w3 w.heap.size p zPt h3 rfl b3;have Q4:=zz0 (zaG (setRow_heap _ _ _ (ptC p).toArray _ _ b3) h3);have kS:Keep (One w.heap.size) w3 (w3.setRow w.heap.size (ptC p).toArray):=(Keep.refl (One w.heap.size) _).setRow (.inl (zar _)) _;have Q5:Hid (Keep (One q) w (w3.setRow w.heap.size (ptC p).toArray)):=zz0 ((K0.out.ofNon.trans1 k3').trans kS (fun _ _ e=>e) (fun g hg e=>by have e':g=w.heap.size:=e;omega));have Q6:Hid (RdAt F (w3.setRow w.heap.size (ptC p).toArray) q r):=zz0 (r3.keep kS (fun g hg e=>by have e':g=w.heap.size:=e;have:=HF.out g hg;omega));clear k3 k3' r3 b3 kS))
  have hlv:=Q4.out
  unfold holdV at hlv
  refine bodyPost_ret (v:=ptV p) (by simp [results,Tryz.results99,asAddr,hlv]) rfl ?_
  exact ⟨rfl,Q5.out,Q6.out⟩
end
end Go.Proofs.YtnboipdpccnedaaGreatDoor
namespace Go.Proofs.YtnboipdpccnedaaGreatDoor
open Go.RowKit Go.Maps
theorem zlZ (num lo hi trim:Nat) (D:List UInt8) (h:D.length=32) (ps:List Pt) (w:World):(holdB 87 #[(0,.int .i64 num),(1,.int .i64 lo),(2,.int .i64 hi),(3,.int .i64 trim),(4,arrV D)]).run Tryz.prog w = .ok (mfV ⟨num,lo,hi,trim,D,ps⟩ (.slice none 0 0)) w:=by
  obtain ⟨d0,d1,d2,d3,d4,d5,d6,d7,d8,d9,d10,d11,d12,d13,d14,d15,d16,d17,d18,d19,d20,d21,d22,d23,d24,d25,d26,d27,d28,d29,d30,d31,rfl⟩:=list32 D h
  exact run_build w 87 _ _ (by kernel_rfl)
def zMfB:Obj:=.cells zMf 87 (0,0)
structure MtLp (F:Nat→Prop) (W5:World) (q rb b4:Nat) (m:Mf) (j:Nat) (ov:Value) (W:World):Prop where
  rs:W.heap[rb]? = some zMfB
  bx:W.heap[b4]? = some (MfB m ov)
  row:W.ownsRow W5.heap.size 106 35 ov j (ptsC (m.parts.take j))
  rd:RdAt F W q (ptsB (m.parts.drop j))
  kp:Keep (fun g=>g=q∨g=b4) W5 W
theorem zoA {F:Nat→Prop} {W5 wr w6 w9:World} {q rb b4 j oc:Nat} {oa:Option Addr} {m:Mf} {p:Pt} {v3:Value} (hpr:m.prev.length=32) (h:MtLp F W5 q rb b4 m j (.slice oa j oc) wr) (hF:∀ g,F g→g < W5.heap.size∧g≠b4) (hne:q≠rb∧q≠b4∧rb≠b4∧q < W5.heap.size∧rb < W5.heap.size∧b4 < W5.heap.size) (hp:m.parts[j]? = some p) (k6:Keep (One q) wr w6) (r6:RdAt F w6 q (ptsB (m.parts.drop (j+1))))
    (ho:w9.ownsRow W5.heap.size 106 35 v3 (j+1) (ptsC (m.parts.take j) ++ ptC p)) (hg:((w6.alloc (PtB p)).alloc (PtB p)).grownBy w9 (Value.slice oa j oc).ownBlock) :
    MtLp F W5 q rb b4 m (j+1) v3 (w9.setCell ⟨b4,36,none⟩ v3)∧w9.heap[b4]? = some (MfB m (.slice oa j oc)):=by
  have ka:Keep Non w6 ((w6.alloc (PtB p)).alloc (PtB p)):=((Keep.refl _ _).alloc _).alloc _
  have kg:Keep (fun g=>(Value.slice oa j oc).ownBlock=some g) ((w6.alloc (PtB p)).alloc (PtB p)) w9:=(Keep.refl _ _).grown hg (fun k e=>.inl e)
  have kb:Keep (One b4) w9 (w9.setCell ⟨b4,36,none⟩ v3):=(Keep.refl _ _).setOne _ _
  have lo:∀ g,(Value.slice oa j oc).ownBlock=some g→W5.heap.size≤g:=fun g e=>(h.row.lt g e).1
  have at9:∀ {g:Nat} {o:Obj},g < W5.heap.size→g≠q→wr.heap[g]? = some o→w9.heap[g]? = some o:=fun hg' hq ho=>kg.at (nonAt ka (zb4 k6 ho hq)) (fun e=>by have:=lo _ e;omega)
  have b9:=at9 hne.2.2.2.2.2 (fun e=>hne.2.1 e.symm) h.bx
  have s5:=h.kp.size
  have s6:=k6.size
  refine ⟨⟨kb.at (at9 hne.2.2.2.2.1 (fun e=>hne.1 e.symm) h.rs) (fun e=>hne.2.2.1 e),zh7 b9 hpr v3,?_,?_,?_⟩,b9⟩
  · have e1:ptsC (m.parts.take (j+1))=ptsC (m.parts.take j) ++ ptC p:=by
      rw [List.take_add_one,hp]
      simp [ptsC]
    rw [e1]
    exact zac ho kb (fun g e e2=>by have e':g=b4:=e2;have:=(ho.lt g e).1;omega)
  · exact ((r6.keep ka (fun _ _ e=>e)).keep kg (fun g x e=>by have:=lo g e;have:=(hF g x).1;omega)).keep kb (fun g x e=>(hF g x).2 e)
  · refine ((h.kp.trans k6 (fun _ _ x=>x) (fun g _ x=>.inl x)).trans1 ka.ofNon).trans (kg.trans kb (U:=fun g=>(Value.slice oa j oc).ownBlock=some g∨g=b4) (fun _ _ x=>.inl x) (fun _ _ x=>.inr x)) (fun _ _ x=>x) (fun g hg' x=>?_)
    rcases x with x | x
    · have:=lo g x;omega
    · exact .inr x
section
attribute [local go_sem ↓] hV84 hV106 hV87 hW84 hW106 hW87 hB106 hB87 hBS85
theorem zmD (v:Value) (m:Mf) (w:World) (h:Bs w v (mfBy m)) (hc:okc v) (hv:∀ g,v.ownBlock=some g→g < w.heap.size) (ok:okMf m) (h64:m.parts.length≤64) (hl:(mfT m).length≤65536) :
    Calls Tryz.prog 44 #[v] w fun e w'=>∃ v',e = .returned (.tuple #[mfV m v',.nilIface])∧Keep Non w w'∧w'.ownsRow w.heap.size 106 35 v' m.parts.length (ptsC m.parts):=by
  have FO:=zz0 (fun w1 (k:Keep Non w w1)=>zg6 v (mfT m) w1 (h.keepNon k) hc hl (fun g e=>k.lt (hv g e)))
  obtain ⟨a,k,rfl,_⟩:=zaw h
  clear h hc hv
  have B0:Hid ((w.alloc (.cells zMf 87)).heap[w.heap.size]? = some zMfB):=zz0 (zab w zMfB)
  have K0:Hid (Keep Non w (w.alloc (.cells zMf 87))):=zz0 ((Keep.refl _ _).alloc _)
  have hpr:=ok.prev
  have hb1:=ok.num
  have hb2:=ok.hi
  have hb3:=ok.trim
  have hb4:=(zaH m.parts m.lo 0).2
  rw [ok.stop] at hb4
  simp only [List.take_zero,endPts] at hb4
  have hT:mfT m=vput m.num ++ (vput m.lo ++ (vput m.hi ++ (vput m.trim ++ (m.prev ++ (vput m.parts.length ++ ptsB m.parts))))):=by simp [mfT,List.append_assoc]
  have HT:=zz0 hT
  have hbu:=fun (W:World)=>zlZ m.num m.lo m.hi m.trim m.prev hpr m.parts W
  have OK:=zz0 ok
  clear ok hT
  have FK0:=zz0 (FO.out _ K0.out)
  dsimp only [zMf] at FK0
  go_enter Tryz.func44,Tryz.ntmps44
  go_wp2_with (first
    | (go_at_call 12;refine FK0.out.mono ?_;rintro e w1 ⟨k1',v1,rfl,n1⟩;have k1:Keep Non (w.alloc (.cells zMf 87)) w1:=k1';obtain ⟨b1,b2,b3⟩:=n1;have K1:=zz0 (K0.out.trans1 k1);have G1:=zz0 (nonAt k1 B0.out);have Z1:Hid (w.heap.size+1≤w1.heap.size):=zz0 (by have:=k1.size;simpa using this);have B1:=zz0 b1;have B2:=zz0 b2;have B3:Hid (∀ g,v1.ownBlock=some g→w.heap.size < g∧g < w1.heap.size):=zz0 (fun g e=>⟨by have:=(b3 g e).1;simp at this;omega,(b3 g e).2⟩);clear k1 k1' b1 b2 b3)
    | (go_at_call 94;refine (zk5 (fun g=>w.heap.size < g∧g < w1.heap.size) v1 (mfT m) w1 B1.out B2.out (fun g e=>⟨(B3.out g e).2,B3.out g e⟩)).mono ?_;rintro e w2 ⟨rfl,k2,r2⟩;have K2:=zz0 (K1.out.trans1 k2);have G2:=zz0 (nonAt k2 G1.out);have Z2:Hid (w1.heap.size < w2.heap.size):=zz0 (by obtain ⟨_,q,_⟩:=r2;exact lt_of_block q);have r2':=r2;rw [HT.out] at r2'
       have HF2:Hid (∀ g,((w.heap.size < g∧g < w1.heap.size)∨g=w1.heap.size)→g < w2.heap.size):=zz0 (fun g x=>by have:=Z2.out;rcases x with x | x <;> omega)
       have N1:Hid (Calls Tryz.prog 95 #[.pointer (some ⟨w1.heap.size,0,none⟩),.int .u64 999999] w2 fun e w'=>e = .returned (.int .i64 m.num)∧Keep (One w1.heap.size) w2 w'∧RdAt (fun g=>(w.heap.size < g∧g < w1.heap.size)∨g=w1.heap.size) w' w1.heap.size (vput m.lo ++ (vput m.hi ++ (vput m.trim ++ (m.prev ++ (vput m.parts.length ++ ptsB m.parts)))))):=zz0 (zbc _ _ m.num 999999 _ w2 r2' hb1 (by omega))
       clear k2 r2 r2')
    | (go_at_call 95;first
      | ((with_reducible refine N1.out.mono ?_);rintro e w3 ⟨rfl,k3,r3⟩;have K3:=zz0 k3;have N2:Hid (Calls Tryz.prog 95 #[.pointer (some ⟨w1.heap.size,0,none⟩),.int .u64 1048576] w3 fun e w'=>e = .returned (.int .i64 m.lo)∧Keep (One w1.heap.size) w3 w'∧RdAt (fun g=>(w.heap.size < g∧g < w1.heap.size)∨g=w1.heap.size) w' w1.heap.size (vput m.hi ++ (vput m.trim ++ (m.prev ++ (vput m.parts.length ++ ptsB m.parts))))):=zz0 (zbc _ _ m.lo 1048576 _ w3 r3 (by omega) (by omega));clear k3 r3)
      | ((with_reducible refine N2.out.mono ?_);rintro e w4 ⟨rfl,k4,r4⟩;have K4:=zz0 (K3.out.trans1 k4);have N3:Hid (Calls Tryz.prog 95 #[.pointer (some ⟨w1.heap.size,0,none⟩),.int .u64 1048576] w4 fun e w'=>e = .returned (.int .i64 m.hi)∧Keep (One w1.heap.size) w4 w'∧RdAt (fun g=>(w.heap.size < g∧g < w1.heap.size)∨g=w1.heap.size) w' w1.heap.size (vput m.trim ++ (m.prev ++ (vput m.parts.length ++ ptsB m.parts)))):=zz0 (zbc _ _ m.hi 1048576 _ w4 r4 (by omega) (by omega));clear k4 r4)
      | ((with_reducible refine N3.out.mono ?_);rintro e w5 ⟨rfl,k5,r5⟩;have K5:=zz0 (K4.out.trans1 k5);have N4:Hid (Calls Tryz.prog 95 #[.pointer (some ⟨w1.heap.size,0,none⟩),.int .u64 1048576] w5 fun e w'=>e = .returned (.int .i64 m.trim)∧Keep (One w1.heap.size) w5 w'∧RdAt (fun g=>(w.heap.size < g∧g < w1.heap.size)∨g=w1.heap.size) w' w1.heap.size (m.prev ++ (vput m.parts.length ++ ptsB m.parts))):=zz0 (zbc _ _ m.trim 1048576 _ w5 r5 (by omega) (by omega));clear k5 r5)
      | ((with_reducible refine N4.out.mono ?_);rintro e w6 ⟨rfl,k6,r6⟩;have K6:=zz0 (K5.out.trans1 k6);have N5:Hid (Calls Tryz.prog 96 #[.pointer (some ⟨w1.heap.size,0,none⟩)] w6 fun e w'=>e = .returned (arrV m.prev)∧Keep (One w1.heap.size) w6 w'∧RdAt (fun g=>(w.heap.size < g∧g < w1.heap.size)∨g=w1.heap.size) w' w1.heap.size (vput m.parts.length ++ ptsB m.parts)):=zz0 (zkA _ _ m.prev _ w6 r6 hpr (fun g x=>by have:=HF2.out g x;have:=K6.out.size;omega));clear k6 r6))
    | (go_at_call 96;refine N5.out.mono ?_;rintro e w7 ⟨rfl,k7,r7⟩;have K7:=zz0 (K6.out.trans1 k7);have R7:=zz0 r7;have hst:=zaF w7 m none 0 0 hpr;dsimp only [zMf] at hst
       have ka:Keep Non w7 (w7.alloc (MfB m (.slice none 0 0))):=(Keep.refl _ _).alloc _
       have KA:=zz0 (K7.out.trans1 ka.ofNon)
       have BA:=zz0 (zab w7 (MfB m (.slice none 0 0)))
       have NB:=zz0 (zej _ w1.heap.size m.parts.length (ptsB m.parts) (w7.alloc (MfB m (.slice none 0 0))) (r7.keep ka (fun _ _ e=>e)) (by omega));clear k7 r7 ka)
    | (go_at_call 97;refine NB.out.mono ?_;rintro e w8 ⟨rfl,k8,r8⟩;have K8:=zz0 (KA.out.trans1 k8);have R8:=zz0 r8;have b8:=zb4 k8 BA.out (by have:=K7.out.size;have:=Z2.out;omega);have e81:=mf_1 b8;have B8:=zz0 b8;have hmany:¬ (1024:Int) < (m.parts.length:Int):=(by omega);have G8:=zz0 (zb4 K8.out G2.out (by have:=Z1.out;omega));clear k8 r8 b8))
  obtain ⟨i0,hi0,hz0,hz1,hz2⟩:=info_parts infoPt
  have I0:=zz0 (And.intro hi0 (And.intro hz0 (And.intro hz1 hz2)))
  clear hi0 hz0 hz1 hz2 N1 N2 N3 N4 N5 FK0 FO NB hbu hst
  have NE:Hid (w1.heap.size≠w.heap.size∧w1.heap.size≠w7.heap.size∧w.heap.size≠w7.heap.size∧w1.heap.size < w8.heap.size∧w.heap.size < w8.heap.size∧w7.heap.size < w8.heap.size):=zz0 (by
    have z1:=Z1.out
    have z2:=Z2.out
    have z3:=K7.out.size
    have z4:=K8.out.size
    have z7:=lt_of_block B8.out
    refine ⟨?_,?_,?_,?_,?_,?_⟩ <;> omega)
  have HFF:Hid (∀ g,((w.heap.size < g∧g < w1.heap.size)∨g=w1.heap.size)→g < w8.heap.size∧g≠w7.heap.size):=zz0 (fun g x=>by have:=NE.out;have:=K7.out.size;have:=Z2.out;rcases x with x | x <;> constructor <;> omega)
  have L0:Hid (MtLp (fun g=>(w.heap.size < g∧g < w1.heap.size)∨g=w1.heap.size) w8 w1.heap.size w.heap.size w7.heap.size m 0 (.slice none 0 0) w8):=zz0 ⟨G8.out,B8.out,by simpa [ptsC] using World.ownsRow_nil _ _ _ _,R8.out,Keep.refl _ _⟩
  clear e81
  go_loopw [9,46] (fun at_ i wr=>∃ j:Nat,j≤m.parts.length∧i = .int .u64 j∧at_ = .int .i64 (endPts m.lo (m.parts.take j))∧∃ ov,MtLp (fun g=>(w.heap.size < g∧g < w1.heap.size)∨g=w1.heap.size) w8 w1.heap.size w.heap.size w7.heap.size m j ov wr) (fun _ i _=>m.parts.length - (intOf i).toNat)
  case atStart=>exact ⟨0,by omega,rfl,rfl,_,L0.out⟩
  case round =>
    obtain ⟨j,hj,rfl,rfl,ov,lp⟩:=hrel
    obtain ⟨oa,oc,rfl,_,_⟩:=zaa lp.row
    have LP:=zz0 lp
    clear lp
    by_cases hlt:j < m.parts.length
    · have hlj:(j:Int) < (m.parts.length:Int):=by omega
      obtain ⟨p,hpj⟩:∃ p,m.parts[j]? = some p:=⟨_,List.getElem?_eq_getElem hlt⟩
      obtain ⟨⟨p1,p2,p3,p4,p5⟩,p6⟩:=zaN m.parts m.lo j p OK.out.parts hpj
      have hst:=za7 m.parts m.lo j p hpj
      have hle:=(zaH m.parts m.lo (j+1)).2
      rw [OK.out.stop,hst] at hle
      have hdrop:ptsB (m.parts.drop j)=vput p.many ++ (vput p.size ++ (p.sum ++ ptsB (m.parts.drop (j+1)))):=by
        have e1:m.parts.drop j=p :: m.parts.drop (j+1):=by
          rw [List.drop_eq_getElem_cons hlt]
          rw [List.getElem?_eq_getElem hlt] at hpj
          injection hpj with hpj
          rw [hpj]
        rw [e1]
        simp [ptsB,List.append_assoc]
      have rdj:=LP.out.rd
      rw [hdrop] at rdj
      have TP:=zz0 (zmA _ w1.heap.size p (ptsB (m.parts.drop (j+1))) wr rdj p2 p4 p5 (fun g x=>by have:=(HFF.out g x).1;have:=LP.out.kp.size;omega))
      rw [p6] at TP
      have HPJ:=zz0 hpj
      have ST:=zz0 hst
      have q1:=ptc_1 p
      clear rdj hdrop hpj p6 hst
      unfold ptV at TP
      go_wp2_with (first
        | (go_at_call 99;refine TP.out.mono ?_;rintro e wp ⟨rfl,kp',rp⟩;have hsp:=zas wp p p5;have hlp:=zaG (zab wp (PtB p)) p5;have hbu:=zf3 p p5 (wp.alloc (PtB p));have z1:=pt_1 (zab wp (PtB p));have b7:=nonAt ((Keep.refl Non wp).alloc (PtB p)) (zb4 kp' LP.out.bx (fun e=>NE.out.2.1 e.symm));have z4:=mf_36 b7 hpr;have b8:=nonAt ((Keep.refl Non (wp.alloc (PtB p))).alloc (PtB p)) b7;have z4':=mf_36 b8 hpr;have KP:=zz0 kp';have RP:=zz0 rp;have BB:=zz0 (zaA wp (PtB p) (PtB p));have O8:=zz0 (zac LP.out.row (kp'.trans1 (((Keep.refl Non wp).alloc (PtB p)).alloc (PtB p)).ofNon) (fun g e e2=>by have e':g=w1.heap.size:=e2;have:=(LP.out.row.lt g e).1;have:=NE.out;omega));clear kp' rp b7 b8;unfold ptV at hsp hlp hbu;dsimp only [zPt,PtB] at hsp hlp hbu z1 z4 z4')
        | (at_builtin;refine zaj rfl _ _ 85 rfl w8.heap.size 106 i0 (.agg zPt) 35 56 Tryz.underlying85 I0.out.1 I0.out.2.1 I0.out.2.2.1 I0.out.2.2.2 rfl (by decide) (.slice oa j oc) j (ptsC (m.parts.take j)) rfl O8.out ⟨wp.heap.size+1,0,none⟩ 1 1 (ptC p) rfl (by rw [zbq p5]) (by exact zfN BB.out) (zfM p) (by unfold maxLen;omega) (by omega) (by have:=(LP.out.kp.size);have:=KP.out.size;simp;omega) ?_;intro v3 w9 ho hg hpp;obtain ⟨a3,c3,rfl,_,_⟩:=zaa ho;obtain ⟨nx,b9⟩:=zoA hpr LP.out HFF.out NE.out HPJ.out KP.out RP.out ho hg;have f4:=mf_f b9 36;have g4:=mf_36 b9 hpr;have NX:=zz0 nx;clear ho hg hpp nx b9))
      exact ⟨⟨j+1,by omega,by first | rfl | go_num,(by rw [ST.out];first | rfl | go_num | (congr 1;omega)),_,NX.out⟩,by simp [intOf];omega⟩
    · obtain rfl:j=m.parts.length:=by omega
      have hd0:ptsB (m.parts.drop m.parts.length) = []:=by rw [List.drop_length];rfl
      have rdj:=LP.out.rd
      rw [hd0] at rdj
      have EN:=zz0 (znG _ w1.heap.size wr rdj)
      have row:=LP.out.row
      rw [List.take_length] at row
      have ROW:=zz0 row
      have P32:pts32 m.parts:=fun p hp=>by
        obtain ⟨i,hi,rfl⟩:=List.getElem_of_mem hp
        exact (zaN m.parts m.lo i _ OK.out.parts (List.getElem?_eq_getElem hi)).1.2.2.2.2
      have CK:=zz0 (zbp m (.slice oa m.parts.length oc) wr OK.out (PtsAt.of row P32))
      have hlm:=zan LP.out.bx hpr
      clear rdj hd0 row P32
      go_wp2_with (first
        | (go_at_call 100;refine EN.out.mono ?_;rintro e we ⟨rfl,e2⟩;subst e2)
        | (go_at_call 101;refine CK.out.mono ?_;rintro e w9 ⟨rfl,k9⟩;have z9:w9.heap[w.heap.size]? = some (.cells zMf 87 (0,0)):=nonAt k9 LP.out.rs;have l9:=nonAt k9 LP.out.bx;have hl9:=zan l9 hpr;have hs9:=zaT w9 w.heap.size m oa m.parts.length oc zMf hpr rfl z9;have Z9:=zz0 z9;have K9:=zz0 k9;clear k9 z9 l9))
      have hlv:=zan (w:=w9.setRow w.heap.size (mfC m (.slice oa m.parts.length oc)).toArray) (setRow_heap _ _ _ (mfC m (.slice oa m.parts.length oc)).toArray _ _ Z9.out) hpr
      unfold holdV at hlv
      refine bodyPost_ret (v:=.tuple #[mfV m (.slice oa m.parts.length oc),.nilIface]) (by simp [results,Tryz.results44,asAddr,hlv]) rfl ?_
      have z1:=Z1.out
      have z2:=Z2.out
      have z3:=K7.out.size
      have z8:=K8.out.size
      have kf:Keep (One w.heap.size) w9 (w9.setRow w.heap.size (mfC m (.slice oa m.parts.length oc)).toArray):=(Keep.refl (One w.heap.size) _).setRow (.inl (zar _)) _
      have k0:Keep Non w w8:=K2.out.trans K8.out (fun _ _ e=>e) (fun g hg e=>by have e':g=w1.heap.size:=e;omega)
      have ne:=NE.out
      have s2:=K2.out.size
      have k1:Keep Non w w9:=k0.trans (LP.out.kp.trans1 K9.out.ofNon) (fun _ _ e=>e) (fun g hg e=>by rcases e with e | e <;> omega)
      have o9:=zac ROW.out K9.out (fun _ _ e=>e)
      exact ⟨_,rfl,k1.trans kf (fun _ _ e=>e) (fun g hg e=>by have e':g=w.heap.size:=e;omega),zad (zac o9 kf (fun g hg e=>by have e':g=w.heap.size:=e;have:=(o9.lt g hg).1;omega)) (by omega)⟩
end
end Go.Proofs.YtnboipdpccnedaaGreatDoor
