/- cursor.Take: walked (printed by wip/cuta -/
import Derived.Test.YtpojgmeoaflmoaaGreatDoorQ18
import Derived.Test.YtpojgmeoaflmoaaGreatDoorQ29
set_option linter.unusedVariables false
set_option maxRecDepth 100000
set_option maxHeartbeats 16000000
namespace Go.Proofs.YtpojgmeoaflmoaaGreatDoor
open Go.RowKit Go.Maps
def CtB (q:Nat):Obj:=.cells #[.pointer (some ⟨q,0,none⟩)] 310 (0,0)
theorem zN {w:World}{b q:Nat}(h:w.heap[b]? = some (CtB q)):w.cell? ⟨b,0,none⟩=some (.pointer (some ⟨q,0,none⟩)):=by simp[World.cell?,h,CtB]
structure CtSt (F:Nat→Prop)(W0:World)(q tb rb:Nat)(rest:List UInt8)(A:Option Nat)(W:World):Prop where
 tk:W.heap[tb]? = some (CtB q)
 rs:W.heap[rb]? = some (zq0 ⟨0,0,0,0,[]⟩ (.slice none 0 0))
 rd:zbf F W q rest
 kp:za (zq3 q) W0 W
 nq:q≠tb∧q≠rb∧q<W0.heap.size∧tb<W0.heap.size∧rb<W0.heap.size∧∀g,F g→g<W0.heap.size
 bx:∀cb,A=some cb→W.heap[cb]? = some (zq0 ⟨0,0,0,0,[]⟩ (.slice none 0 0))∧W0.heap.size≤cb
structure CtEnd (F:Nat→Prop)(W0:World)(q tb rb:Nat)(rest:List UInt8)(c:Cu)(b:Nat)(W:World):Prop where
 tk:W.heap[tb]? = some (CtB q)
 rs:W.heap[rb]? = some (zq0 ⟨0,0,0,0,[]⟩ (.slice none 0 0))
 rd:zbf F W q rest
 kp:za (zq3 q) W0 W
 bx:W.heap[b]? = some (zq0 ⟨c.lo,c.next,c.hi,c.trim,[]⟩ (.slice none 0 0))∧W0.heap.size≤b
section
variable {F : Nat → Prop} {W0 W : World} {q tb rb n : Nat} {r rest : List UInt8} {A : Option Nat}
theorem za8 (h:CtSt F W0 q tb rb (zo n++r) A W)(hn:n≤1048576) :
 Calls Tryz.prog 233 #[.agg #[.pointer (some ⟨q,0,none⟩)]] W fun e w'=>e = .returned (.int .i64 n)∧CtSt F W0 q tb rb r A w':=by
 refine(zmO F q n r W h.rd hn).mono ?_;rintro e w' ⟨x,k,rd⟩;refine⟨x,zL k h.tk (fun e=>h.nq.1 e.symm),zL k h.rs (fun e=>h.nq.2.1 e.symm),rd,h.kp.trans1 k,h.nq,fun cb e=>?_⟩
 obtain⟨a,b⟩:=h.bx cb e;exact⟨zL k a (fun e=>by have:=h.nq.2.2.1;omega),b⟩
theorem zdG (h:CtSt F W0 q tb rb rest none W):CtSt F W0 q tb rb rest (some W.heap.size) (W.alloc (zq0 ⟨0,0,0,0,[]⟩ (.slice none 0 0))):=by
 have k:za zq2 W (W.alloc (zq0 ⟨0,0,0,0,[]⟩ (.slice none 0 0))):=(za.refl _ _).alloc _;refine⟨zh k h.tk,zh k h.rs,h.rd.keep k (fun _ _ e=>e),h.kp.trans1 k.ofNon,h.nq,fun cb e=>?_⟩
 injection e with e
 subst e;exact⟨ze _ _,h.kp.size⟩
theorem zph {c:Cu}(h:CtSt F W0 q tb rb rest none W):CtEnd F W0 q tb rb rest c W.heap.size (W.alloc (zq0 ⟨c.lo,c.next,c.hi,c.trim,[]⟩ (.slice none 0 0))):=by
 have k:za zq2 W (W.alloc (zq0 ⟨c.lo,c.next,c.hi,c.trim,[]⟩ (.slice none 0 0))):=(za.refl _ _).alloc _;exact⟨zh k h.tk,zh k h.rs,h.rd.keep k (fun _ _ e=>e),h.kp.trans1 k.ofNon,ze _ _,h.kp.size⟩
theorem zgq {c:Cu}{cb:Nat}(h:CtSt F W0 q tb rb rest (some cb) W):CtEnd F W0 q tb rb rest c cb (((((W.setCell ⟨cb,0,none⟩ (.int .i64 c.lo)).setCell ⟨cb,1,none⟩ (.int .i64 c.next)).setCell ⟨cb,2,none⟩ (.int .i64 c.hi)).setCell ⟨cb,3,none⟩ (.int .i64 c.trim)).setCell ⟨cb,4,none⟩ (.slice none 0 0)):=by
 obtain⟨a,b⟩:=h.bx cb rfl;have k:za (zq3 cb) W (((((W.setCell ⟨cb,0,none⟩ (.int .i64 c.lo)).setCell ⟨cb,1,none⟩ (.int .i64 c.next)).setCell ⟨cb,2,none⟩ (.int .i64 c.hi)).setCell ⟨cb,3,none⟩ (.int .i64 c.trim)).setCell ⟨cb,4,none⟩ (.slice none 0 0)):=((((((za.refl _ _).setOne _ _).setOne _ _).setOne _ _).setOne _ _).setOne _ _);have nq:=h.nq;refine⟨zL k h.tk (by omega),zL k h.rs (by omega),h.rd.keep k (fun g x e=>by have e':g=cb:=e;have:=nq.2.2.2.2.2 g x;omega),h.kp.trans k (fun _ _ e=>e) (fun g hg e=>by have e':g=cb:=e;omega),?_,b⟩
 exact zj (zj (zj (zj (zj a 0 (.int .i64 c.lo)) 1 (.int .i64 c.next)) 2 (.int .i64 c.hi)) 3 (.int .i64 c.trim)) 4 (.slice none 0 0)
theorem zeV {cb:Nat}(h:W.heap[cb]? = some (zq0 ⟨0,0,0,0,[]⟩ (.slice none 0 0)))(a b c d:Nat) :
 W.cell? ⟨cb,0,none⟩=some (.int .i64 ((0:Nat):Int))∧(W.setCell ⟨cb,0,none⟩ (.int .i64 a)).cell? ⟨cb,1,none⟩=some (.int .i64 ((0:Nat):Int))∧((W.setCell ⟨cb,0,none⟩ (.int .i64 a)).setCell ⟨cb,1,none⟩ (.int .i64 b)).cell? ⟨cb,2,none⟩=some (.int .i64 ((0:Nat):Int))∧(((W.setCell ⟨cb,0,none⟩ (.int .i64 a)).setCell ⟨cb,1,none⟩ (.int .i64 b)).setCell ⟨cb,2,none⟩ (.int .i64 c)).cell? ⟨cb,3,none⟩=some (.int .i64 ((0:Nat):Int))∧((((W.setCell ⟨cb,0,none⟩ (.int .i64 a)).setCell ⟨cb,1,none⟩ (.int .i64 b)).setCell ⟨cb,2,none⟩ (.int .i64 c)).setCell ⟨cb,3,none⟩ (.int .i64 d)).cell? ⟨cb,4,none⟩=some (.slice none 0 0) ∧
 W.frozen? ⟨cb,0,none⟩=false∧(W.setCell ⟨cb,0,none⟩ (.int .i64 a)).frozen? ⟨cb,1,none⟩=false∧((W.setCell ⟨cb,0,none⟩ (.int .i64 a)).setCell ⟨cb,1,none⟩ (.int .i64 b)).frozen? ⟨cb,2,none⟩=false∧(((W.setCell ⟨cb,0,none⟩ (.int .i64 a)).setCell ⟨cb,1,none⟩ (.int .i64 b)).setCell ⟨cb,2,none⟩ (.int .i64 c)).frozen? ⟨cb,3,none⟩=false∧((((W.setCell ⟨cb,0,none⟩ (.int .i64 a)).setCell ⟨cb,1,none⟩ (.int .i64 b)).setCell ⟨cb,2,none⟩ (.int .i64 c)).setCell ⟨cb,3,none⟩ (.int .i64 d)).frozen? ⟨cb,4,none⟩=false:=by
 have h1:(W.setCell ⟨cb,0,none⟩ (.int .i64 a)).heap[cb]? = some (zq0 ⟨a,0,0,0,[]⟩ (.slice none 0 0)):=zj h 0 _;have h2:((W.setCell ⟨cb,0,none⟩ (.int .i64 a)).setCell ⟨cb,1,none⟩ (.int .i64 b)).heap[cb]? = some (zq0 ⟨a,b,0,0,[]⟩ (.slice none 0 0)):=zj h1 1 _;have h3:(((W.setCell ⟨cb,0,none⟩ (.int .i64 a)).setCell ⟨cb,1,none⟩ (.int .i64 b)).setCell ⟨cb,2,none⟩ (.int .i64 c)).heap[cb]? = some (zq0 ⟨a,b,c,0,[]⟩ (.slice none 0 0)):=zj h2 2 _;have h4:((((W.setCell ⟨cb,0,none⟩ (.int .i64 a)).setCell ⟨cb,1,none⟩ (.int .i64 b)).setCell ⟨cb,2,none⟩ (.int .i64 c)).setCell ⟨cb,3,none⟩ (.int .i64 d)).heap[cb]? = some (zq0 ⟨a,b,c,d,[]⟩ (.slice none 0 0)):=zj h3 3 _;exact⟨cu_0 h,cu_1 h1,cu_2 h2,cu_3 h3,cu_4 h4,zb5 h 0,zb5 h1 1,zb5 h2 2,zb5 h3 3,zb5 h4 4⟩
structure CtLp (F:Nat→Prop)(W5:World)(q tb rb b4:Nat)(c:Cu)(j:Nat)(ov:Value)(W:World):Prop where
 tk:W.heap[tb]? = some (CtB q)
 rs:W.heap[rb]? = some (zq0 ⟨0,0,0,0,[]⟩ (.slice none 0 0))
 bx:W.heap[b4]? = some (zq0 c ov)
 row:W.ownsRow W5.heap.size 125 35 ov j (zaP (c.parts.take j))
 rd:zbf F W q (za6 (c.parts.drop j))
 kp:za (fun g=>g=q∨g=b4) W5 W
theorem zpi {F:Nat→Prop}{W5 wr w6 w9:World}{q tb rb b4 j oc:Nat}{oa:Option Addr}{c:Cu}{p:Pt}{v3:Value}(h:CtLp F W5 q tb rb b4 c j (.slice oa j oc) wr)(hF:∀g,F g→g<W5.heap.size∧g≠b4)(hne:q≠tb∧q≠rb∧q≠b4∧tb≠b4∧rb≠b4∧q<W5.heap.size∧tb<W5.heap.size∧rb<W5.heap.size∧b4<W5.heap.size)(hp:c.parts[j]? = some p)(k6:za (zq3 q) wr w6)(r6:zbf F w6 q (za6 (c.parts.drop (j+1))))
 (ho:w9.ownsRow W5.heap.size 125 35 v3 (j+1) (zaP (c.parts.take j)++zq8 p)) (hg:((w6.alloc (zq4 p)).alloc (zq4 p)).grownBy w9 (Value.slice oa j oc).ownBlock) :
 CtLp F W5 q tb rb b4 c (j+1) v3 (w9.setCell ⟨b4,4,none⟩ v3)∧w9.heap[b4]? = some (zq0 c (.slice oa j oc)):=by
 have ka:za zq2 w6 ((w6.alloc (zq4 p)).alloc (zq4 p)):=((za.refl _ _).alloc _).alloc _;have kg:za (fun g=>(Value.slice oa j oc).ownBlock=some g) ((w6.alloc (zq4 p)).alloc (zq4 p)) w9:=(za.refl _ _).grown hg (fun k e=>.inl e)
 have kb:za (zq3 b4) w9 (w9.setCell ⟨b4,4,none⟩ v3):=(za.refl _ _).setOne _ _;have lo:∀g,(Value.slice oa j oc).ownBlock=some g→W5.heap.size≤g:=fun g e=>(h.row.lt g e).1
 have at9:∀{g:Nat} {o:Obj},g<W5.heap.size→g≠q→wr.heap[g]? = some o→w9.heap[g]? = some o:=fun hg' hq ho=>kg.at (zh ka (zL k6 ho hq)) (fun e=>by have:=lo _ e;omega)
 have b9:=at9 hne.2.2.2.2.2.2.2.2 (fun e=>hne.2.2.1 e.symm) h.bx
 have s5:=h.kp.size;have s6:=k6.size;refine⟨⟨kb.at (at9 hne.2.2.2.2.2.2.1 (fun e=>hne.1 e.symm) h.tk) (fun e=>hne.2.2.2.1 e),kb.at (at9 hne.2.2.2.2.2.2.2.1 (fun e=>hne.2.1 e.symm) h.rs) (fun e=>hne.2.2.2.2.1 e),zlj b9 v3,?_,?_,?_⟩,b9⟩
 ·have e1:zaP (c.parts.take (j+1))=zaP (c.parts.take j)++zq8 p:=by
   rw[List.take_add_one,hp];simp[zaP]
  rw[e1];exact zc ho kb (fun g e e2=>by have e':g=b4:=e2;have:=(ho.lt g e).1;omega)
 ·exact((r6.keep ka (fun _ _ e=>e)).keep kg (fun g x e=>by have:=lo g e;have:=(hF g x).1;omega)).keep kb (fun g x e=>(hF g x).2 e)
 ·refine((h.kp.trans k6 (fun _ _ x=>x) (fun g _ x=>.inl x)).trans1 ka.ofNon).trans (kg.trans kb (U:=fun g=>(Value.slice oa j oc).ownBlock=some g∨g=b4) (fun _ _ x=>.inl x) (fun _ _ x=>.inr x)) (fun _ _ x=>x) (fun g hg' x=>?_)
  rcases x with x|x
  ·have:=lo g x;omega
  ·exact .inr x
end
section
attribute [local go_sem ↓] zbB zU zbC zbD zV zbE zab zbK hBS52
theorem zln (v:Value)(c:Cu)(w:World)(h:Bs w v (zco c))(hc:okc v)(hv:∀g,v.ownBlock=some g→g<w.heap.size)(ok:zdQ c)(hl:(cuT c).length≤65536) :
 Calls Tryz.prog 175 #[v] w fun e w'=>∃v',e = .returned (.tuple #[cuV c v',.nilIface])∧za zq2 w w'∧w'.ownsRow w.heap.size 125 35 v' c.parts.length (zaP c.parts):=by
 have FO:=zz0 (fun w1 (k:za zq2 w w1)=>zio v (cuT c) w1 (h.keepNon k) hc hl (fun g e=>k.lt (hv g e)))
 obtain⟨a,k,rfl,_⟩:=zY h;clear h hc hv;have B0:=zz0 (ze w (zq0 ⟨0,0,0,0,[]⟩ (.slice none 0 0)));have K0:Hid (za zq2 w (w.alloc (zq0 ⟨0,0,0,0,[]⟩ (.slice none 0 0)))):=zz0 ((za.refl _ _).alloc _);have hb1:=ok.le;have hb2:=ok.hi;have hb3:=ok.trim;have hb4:=(zaq c.parts c.lo 0).2;rw[ok.stop] at hb4;simp only[List.take_zero,zp] at hb4;have OK:=zz0 ok;clear ok
 go_enter Tryz.func175,Tryz.ntmps175
 go_wp2_with(first
  |(go_at_call 96;refine(FO.out _ K0.out).mono ?_;rintro e w1 ⟨k1,v1,rfl,n1⟩;obtain⟨b1,b2,b3⟩:=n1;have K1:=zz0 (K0.out.trans1 k1);have G1:=zz0 (zh k1 B0.out);have Z1:Hid (w.heap.size+1≤w1.heap.size):=zz0 (by have:=k1.size;simpa [zq0] using this);have B1:=zz0 b1;have B2:=zz0 b2;have B3:Hid (∀g,v1.ownBlock=some g→w.heap.size<g∧g<w1.heap.size):=zz0 (fun g e=>⟨by have:=(b3 g e).1;simp at this;omega,(b3 g e).2⟩);clear k1 b1 b2 b3)
  |(go_at_call 97;refine(ziL (fun g=>w.heap.size<g∧g<w1.heap.size) v1 (cuT c) w1 B1.out B2.out (fun g e=>⟨(B3.out g e).2,B3.out g e⟩)).mono ?_;rintro e w2 ⟨rfl,k2,r2⟩;have K2:=zz0 (K1.out.trans1 k2);have G2:=zz0 (zh k2 G1.out);have Z2:Hid (w1.heap.size<w2.heap.size):=zz0 (by obtain⟨_,q,_⟩:=r2;exact lt_of_block q);have R2:=zz0 r2;clear k2 r2))
 have ka:za zq2 w2 (w2.alloc (CtB w1.heap.size)).drew:=((za.refl _ _).alloc _).drew;have hT:cuT c=zo c.lo++(zo c.next++(zo c.hi++(zo c.trim++(zo c.parts.length++za6 c.parts)))):=by simp[cuT,zm,List.append_assoc]
 have s0:CtSt (fun g=>(w.heap.size<g∧g<w1.heap.size)∨g=w1.heap.size) (w2.alloc (CtB w1.heap.size)).drew w1.heap.size w2.heap.size w.heap.size (zo c.lo++(zo c.next++(zo c.hi++(zo c.trim++(zo c.parts.length++za6 c.parts))))) none (w2.alloc (CtB w1.heap.size)).drew:=by
  have z1:=Z1.out;have z2:=Z2.out;have sz:(w2.alloc (CtB w1.heap.size)).drew.heap.size=w2.heap.size+1:=by show(w2.alloc (CtB w1.heap.size)).heap.size=_;simp
  refine⟨ze w2 (CtB w1.heap.size),zh ka G2.out,by rw[←hT];exact R2.out.keep ka (fun _ _ e=>e),za.refl _ _,⟨by omega,by omega,by omega,by omega,by omega,fun g x=>by rcases x with x|x<;>omega⟩,fun cb e=>by cases e⟩
 have S0:=zz0 s0;have HC0:=zz0 (zN s0.tk);have KA:=zz0 ka;clear s0 hT ka;obtain⟨WX,hWX⟩:∃WX,WX=(w2.alloc (CtB w1.heap.size)).drew:=⟨_,rfl⟩;rw[←hWX] at S0 KA;have HWX:=zz0 hWX;clear hWX;refine(fun(FIN:Hid ?T)=>?main) (zz0 ?fin)
 case' main=>refine wp_region_noPanic ?_
 refine wp_region_held_drew (S:=fun W=>W.cell? ⟨w2.heap.size,0,none⟩=some (.pointer (some ⟨w1.heap.size,0,none⟩))) (by as_aux_lemma=>kernel_rfl) HC0.out (fun hHeld=>?_)
 refine tq 0 ?_;refine tq 2 ?_;refine tq 4 ?_;refine tq 6 ?_;have hw:(w2.alloc (.cells #[.pointer (some ⟨w1.heap.size,0,none⟩)] 310)).drew=WX:=HWX.out.symm;rw[hw];clear hw hHeld;have hHeld:=zN S0.out.tk;refine wpAnyH_ready (rs:=[1,9]) (by as_aux_lemma=>kernel_rfl) (by simp) ?_
 refine AllReadyH.cons (by simp only[List.getElem?_toArray,List.getElem?_cons_succ,List.getElem?_cons_zero];rfl) (fun K hK=>?arm5_1) (AllReadyH.cons (by simp only[List.getElem?_toArray,List.getElem?_cons_succ,List.getElem?_cons_zero];rfl) (fun K hK=>?arm5_9) AllReadyH.nil)
 case' arm5_1 =>
  go_simp;refine(za8 S0.out (by omega)).mono ?_
  rintro e w6 ⟨rfl,t6⟩;have s6:=zz0 t6;clear t6
  go_wp2_with fail
  refine hK.out _ _ (zN s6.out.tk) (fun hHeld6=>?_)
  clear hK K
  try simp only[Act.put,List.setIfInBounds_toArray,List.set_cons_zero,List.set_cons_succ]
  refine wpAnyH_ready (rs:=[3,9]) (by as_aux_lemma=>kernel_rfl) (by simp) ?_
  refine AllReadyH.cons (by simp only[List.getElem?_toArray,List.getElem?_cons_succ,List.getElem?_cons_zero];rfl) (fun K hK=>?arm7_3) (AllReadyH.cons (by simp only[List.getElem?_toArray,List.getElem?_cons_succ,List.getElem?_cons_zero];rfl) (fun K hK=>?arm7_9) AllReadyH.nil)
  case' arm7_3 =>
   go_simp;refine(za8 s6.out (by omega)).mono ?_
   rintro e w8 ⟨rfl,t8⟩;have s8:=zz0 t8;clear t8
   go_wp2_with fail
   refine hK.out _ _ (zN s8.out.tk) (fun hHeld8=>?_)
   clear hK K
   try simp only[Act.put,List.setIfInBounds_toArray,List.set_cons_zero,List.set_cons_succ]
   refine wpAnyH_ready (rs:=[5,9]) (by as_aux_lemma=>kernel_rfl) (by simp) ?_
   refine AllReadyH.cons (by simp only[List.getElem?_toArray,List.getElem?_cons_succ,List.getElem?_cons_zero];rfl) (fun K hK=>?arm9_5) (AllReadyH.cons (by simp only[List.getElem?_toArray,List.getElem?_cons_succ,List.getElem?_cons_zero];rfl) (fun K hK=>?arm9_9) AllReadyH.nil)
   case' arm9_5 =>
    go_simp;refine(za8 s8.out (by omega)).mono ?_
    rintro e w10 ⟨rfl,t10⟩;have s10:=zz0 t10;clear t10
    go_wp2_with fail
    refine hK.out _ _ (zN s10.out.tk) (fun hHeld10=>?_)
    clear hK K
    try simp only[Act.put,List.setIfInBounds_toArray,List.set_cons_zero,List.set_cons_succ]
    refine wpAnyH_ready (rs:=[7,9]) (by as_aux_lemma=>kernel_rfl) (by simp) ?_
    refine AllReadyH.cons (by simp only[List.getElem?_toArray,List.getElem?_cons_succ,List.getElem?_cons_zero];rfl) (fun K hK=>?arm11_7) (AllReadyH.cons (by simp only[List.getElem?_toArray,List.getElem?_cons_succ,List.getElem?_cons_zero];rfl) (fun K hK=>?arm11_9) AllReadyH.nil)
    case' arm11_7 =>
     go_simp;refine(za8 s10.out (by omega)).mono ?_
     rintro e w12 ⟨rfl,t12⟩;have s12:=zz0 t12;clear t12
     go_wp2_with fail
     refine hK.out _ _ (zN s12.out.tk) (fun hHeld12=>?_)
     clear hK K
     try simp only[Act.put,List.setIfInBounds_toArray,List.set_cons_zero,List.set_cons_succ]
     refine tq 8 ?_;refine rc (i:=9) (fun K hK=>?_)
     go_simp;have s12e:=zz0 (zph (c:=c) s12.out);have s14:=zz0 (zdG s12.out);refine hK.out _ _ (zN s14.out.tk) (fun hHeld14=>?_)
     clear hK K
     try simp only[Act.put,List.setIfInBounds_toArray,List.set_cons_zero,List.set_cons_succ]
     refine rc (i:=10) (fun K hK=>?_)
     go_simp;refine hK.out _ _ (zN s12e.out.tk) (fun hHeld15=>?_)
     clear hK K
     try simp only[Act.put,List.setIfInBounds_toArray,List.set_cons_zero,List.set_cons_succ]
     refine wpAnyH_done (by as_aux_lemma=>kernel_rfl) ?_ _
     refine NoPanic.normal ?_;have e0:=s12e.out;dsimp only[zq0] at e0;generalize (World.alloc w12 _)=W4 at e0 ⊢;generalize w12.heap.size=b4 at e0 ⊢;have E4:=zz0 e0;clear e0;revert W4 b4;exact FIN.out
    case' arm11_9 =>
     go_simp;have s16:=zz0 (zdG s10.out);refine hK.out _ _ (zN s16.out.tk) (fun hHeld16=>?_)
     clear hK K
     try simp only[Act.put,List.setIfInBounds_toArray,List.set_cons_zero,List.set_cons_succ]
     refine rc (i:=7) (fun K hK=>?_)
     go_simp;refine(za8 s16.out (by omega)).mono ?_
     rintro e w17 ⟨rfl,t17⟩;have s17:=zz0 t17;clear t17
     go_wp2_with fail
     refine hK.out _ _ (zN s17.out.tk) (fun hHeld17=>?_)
     clear hK K
     try simp only[Act.put,List.setIfInBounds_toArray,List.set_cons_zero,List.set_cons_succ]
     refine tq 8 ?_;refine rc (i:=10) (fun K hK=>?_)
     have fb:=s17.out.bx _ rfl;obtain⟨y0,y1,y2,y3,y4,z0,z1,z2,z3,z4⟩:=zeV fb.1 c.lo c.next c.hi c.trim;have s17e:=zz0 (zgq (c:=c) s17.out);clear fb;go_simp;refine hK.out _ _ (zN s17e.out.tk) (fun hHeld19=>?_)
     clear hK K
     try simp only[Act.put,List.setIfInBounds_toArray,List.set_cons_zero,List.set_cons_succ]
     refine wpAnyH_done (by as_aux_lemma=>kernel_rfl) ?_ _
     refine NoPanic.normal ?_;have e0:=s17e.out;clear y0 y1 y2 y3 y4 z0 z1 z2 z3 z4;generalize (World.setCell (World.setCell (World.setCell (World.setCell (World.setCell w17 _ _) _ _) _ _) _ _) _ _)=W4 at e0 ⊢;generalize w10.heap.size=b4 at e0 ⊢;have E4:=zz0 e0;clear e0;revert W4 b4;exact FIN.out
   case' arm9_9 =>
    go_simp;have s20:=zz0 (zdG s8.out);refine hK.out _ _ (zN s20.out.tk) (fun hHeld20=>?_)
    clear hK K
    try simp only[Act.put,List.setIfInBounds_toArray,List.set_cons_zero,List.set_cons_succ]
    refine rc (i:=5) (fun K hK=>?_)
    go_simp;refine(za8 s20.out (by omega)).mono ?_
    rintro e w21 ⟨rfl,t21⟩;have s21:=zz0 t21;clear t21
    go_wp2_with fail
    refine hK.out _ _ (zN s21.out.tk) (fun hHeld21=>?_)
    clear hK K
    try simp only[Act.put,List.setIfInBounds_toArray,List.set_cons_zero,List.set_cons_succ]
    refine rc (i:=7) (fun K hK=>?_)
    go_simp;refine(za8 s21.out (by omega)).mono ?_
    rintro e w22 ⟨rfl,t22⟩;have s22:=zz0 t22;clear t22
    go_wp2_with fail
    refine hK.out _ _ (zN s22.out.tk) (fun hHeld22=>?_)
    clear hK K
    try simp only[Act.put,List.setIfInBounds_toArray,List.set_cons_zero,List.set_cons_succ]
    refine tq 8 ?_;refine rc (i:=10) (fun K hK=>?_)
    have fb:=s22.out.bx _ rfl;obtain⟨y0,y1,y2,y3,y4,z0,z1,z2,z3,z4⟩:=zeV fb.1 c.lo c.next c.hi c.trim;have s22e:=zz0 (zgq (c:=c) s22.out);clear fb;go_simp;refine hK.out _ _ (zN s22e.out.tk) (fun hHeld24=>?_)
    clear hK K
    try simp only[Act.put,List.setIfInBounds_toArray,List.set_cons_zero,List.set_cons_succ]
    refine wpAnyH_done (by as_aux_lemma=>kernel_rfl) ?_ _
    refine NoPanic.normal ?_;have e0:=s22e.out;clear y0 y1 y2 y3 y4 z0 z1 z2 z3 z4;generalize (World.setCell (World.setCell (World.setCell (World.setCell (World.setCell w22 _ _) _ _) _ _) _ _) _ _)=W4 at e0 ⊢;generalize w8.heap.size=b4 at e0 ⊢;have E4:=zz0 e0;clear e0;revert W4 b4;exact FIN.out
  case' arm7_9 =>
   go_simp;have s25:=zz0 (zdG s6.out);refine hK.out _ _ (zN s25.out.tk) (fun hHeld25=>?_)
   clear hK K
   try simp only[Act.put,List.setIfInBounds_toArray,List.set_cons_zero,List.set_cons_succ]
   refine rc (i:=3) (fun K hK=>?_)
   go_simp;refine(za8 s25.out (by omega)).mono ?_
   rintro e w26 ⟨rfl,t26⟩;have s26:=zz0 t26;clear t26
   go_wp2_with fail
   refine hK.out _ _ (zN s26.out.tk) (fun hHeld26=>?_)
   clear hK K
   try simp only[Act.put,List.setIfInBounds_toArray,List.set_cons_zero,List.set_cons_succ]
   refine rc (i:=5) (fun K hK=>?_)
   go_simp;refine(za8 s26.out (by omega)).mono ?_
   rintro e w27 ⟨rfl,t27⟩;have s27:=zz0 t27;clear t27
   go_wp2_with fail
   refine hK.out _ _ (zN s27.out.tk) (fun hHeld27=>?_)
   clear hK K
   try simp only[Act.put,List.setIfInBounds_toArray,List.set_cons_zero,List.set_cons_succ]
   refine rc (i:=7) (fun K hK=>?_)
   go_simp;refine(za8 s27.out (by omega)).mono ?_
   rintro e w28 ⟨rfl,t28⟩;have s28:=zz0 t28;clear t28
   go_wp2_with fail
   refine hK.out _ _ (zN s28.out.tk) (fun hHeld28=>?_)
   clear hK K
   try simp only[Act.put,List.setIfInBounds_toArray,List.set_cons_zero,List.set_cons_succ]
   refine tq 8 ?_;refine rc (i:=10) (fun K hK=>?_)
   have fb:=s28.out.bx _ rfl;obtain⟨y0,y1,y2,y3,y4,z0,z1,z2,z3,z4⟩:=zeV fb.1 c.lo c.next c.hi c.trim;have s28e:=zz0 (zgq (c:=c) s28.out);clear fb;go_simp;refine hK.out _ _ (zN s28e.out.tk) (fun hHeld30=>?_)
   clear hK K
   try simp only[Act.put,List.setIfInBounds_toArray,List.set_cons_zero,List.set_cons_succ]
   refine wpAnyH_done (by as_aux_lemma=>kernel_rfl) ?_ _
   refine NoPanic.normal ?_;have e0:=s28e.out;clear y0 y1 y2 y3 y4 z0 z1 z2 z3 z4;generalize (World.setCell (World.setCell (World.setCell (World.setCell (World.setCell w28 _ _) _ _) _ _) _ _) _ _)=W4 at e0 ⊢;generalize w6.heap.size=b4 at e0 ⊢;have E4:=zz0 e0;clear e0;revert W4 b4;exact FIN.out
 case' arm5_9 =>
  go_simp;have s31:=zz0 (zdG S0.out);refine hK.out _ _ (zN s31.out.tk) (fun hHeld31=>?_)
  clear hK K
  try simp only[Act.put,List.setIfInBounds_toArray,List.set_cons_zero,List.set_cons_succ]
  refine rc (i:=1) (fun K hK=>?_)
  go_simp;refine(za8 s31.out (by omega)).mono ?_
  rintro e w32 ⟨rfl,t32⟩;have s32:=zz0 t32;clear t32
  go_wp2_with fail
  refine hK.out _ _ (zN s32.out.tk) (fun hHeld32=>?_)
  clear hK K
  try simp only[Act.put,List.setIfInBounds_toArray,List.set_cons_zero,List.set_cons_succ]
  refine rc (i:=3) (fun K hK=>?_)
  go_simp;refine(za8 s32.out (by omega)).mono ?_
  rintro e w33 ⟨rfl,t33⟩;have s33:=zz0 t33;clear t33
  go_wp2_with fail
  refine hK.out _ _ (zN s33.out.tk) (fun hHeld33=>?_)
  clear hK K
  try simp only[Act.put,List.setIfInBounds_toArray,List.set_cons_zero,List.set_cons_succ]
  refine rc (i:=5) (fun K hK=>?_)
  go_simp;refine(za8 s33.out (by omega)).mono ?_
  rintro e w34 ⟨rfl,t34⟩;have s34:=zz0 t34;clear t34
  go_wp2_with fail
  refine hK.out _ _ (zN s34.out.tk) (fun hHeld34=>?_)
  clear hK K
  try simp only[Act.put,List.setIfInBounds_toArray,List.set_cons_zero,List.set_cons_succ]
  refine rc (i:=7) (fun K hK=>?_)
  go_simp;refine(za8 s34.out (by omega)).mono ?_
  rintro e w35 ⟨rfl,t35⟩;have s35:=zz0 t35;clear t35
  go_wp2_with fail
  refine hK.out _ _ (zN s35.out.tk) (fun hHeld35=>?_)
  clear hK K
  try simp only[Act.put,List.setIfInBounds_toArray,List.set_cons_zero,List.set_cons_succ]
  refine tq 8 ?_;refine rc (i:=10) (fun K hK=>?_)
  have fb:=s35.out.bx _ rfl;obtain⟨y0,y1,y2,y3,y4,z0,z1,z2,z3,z4⟩:=zeV fb.1 c.lo c.next c.hi c.trim;have s35e:=zz0 (zgq (c:=c) s35.out);clear fb;go_simp;refine hK.out _ _ (zN s35e.out.tk) (fun hHeld37=>?_)
  clear hK K
  try simp only[Act.put,List.setIfInBounds_toArray,List.set_cons_zero,List.set_cons_succ]
  refine wpAnyH_done (by as_aux_lemma=>kernel_rfl) ?_ _
  refine NoPanic.normal ?_;have e0:=s35e.out;clear y0 y1 y2 y3 y4 z0 z1 z2 z3 z4;generalize (World.setCell (World.setCell (World.setCell (World.setCell (World.setCell w35 _ _) _ _) _ _) _ _) _ _)=W4 at e0 ⊢;generalize WX.heap.size=b4 at e0 ⊢;have E4:=zz0 e0;clear e0;revert W4 b4;exact FIN.out
 intro W4 b4 E4;have tk4:=zN E4.out.tk;have NB:=zz0 (zei _ w1.heap.size c.parts.length (za6 c.parts) W4 E4.out.rd (by have:=OK.out.many;omega))
 have hmany:¬(1024:Int)<(c.parts.length:Int):=by have:=OK.out.many;omega
 go_wp2_with(go_at_call 100;refine NB.out.mono ?_;rintro e w5 ⟨rfl,k5,r5⟩;have K5:=zz0 k5;have R5:=zz0 r5;have b5:=zL k5 E4.out.bx.1 (fun e=>by have:=E4.out.bx.2;have:=KA.out.size;have:=Z2.out;omega);have e50:=cu_0 b5;have B5:=zz0 b5;have T5:=zz0 (zL k5 E4.out.tk (fun e=>by have:=Z2.out;omega));have S5:=zz0 (zL k5 E4.out.rs (fun e=>by have:=Z1.out;omega));clear k5 r5 b5)
 obtain⟨i0,hi0,hz0,hz1,hz2⟩:=info_parts infoPt;have I0:=zz0 (And.intro hi0 (And.intro hz0 (And.intro hz1 hz2)));clear hi0 hz0 hz1 hz2;have NE:Hid (w1.heap.size≠w2.heap.size∧w1.heap.size≠w.heap.size∧w1.heap.size≠b4∧w2.heap.size≠b4∧w.heap.size≠b4∧w1.heap.size<w5.heap.size∧w2.heap.size<w5.heap.size∧w.heap.size<w5.heap.size∧b4<w5.heap.size):=zz0 (by
  have z1:=Z1.out;have z2:=Z2.out;have z3:=KA.out.size;have z4:=E4.out.kp.size;have z5:=K5.out.size;have z6:=E4.out.bx.2;have z7:=lt_of_block B5.out;have z8:=lt_of_block T5.out;have z9:=lt_of_block S0.out.tk;refine⟨?_,?_,?_,?_,?_,?_,?_,?_,?_⟩<;>omega)
 have HFF:Hid (∀g,((w.heap.size<g∧g<w1.heap.size)∨g=w1.heap.size)→g<w5.heap.size∧g≠b4):=zz0 (fun g x=>by have:=NE.out;have:=E4.out.bx.2;have:=KA.out.size;have:=Z2.out;rcases x with x|x<;>constructor<;>omega)
 have L0:Hid (CtLp (fun g=>(w.heap.size<g∧g<w1.heap.size)∨g=w1.heap.size) w5 w1.heap.size w2.heap.size w.heap.size b4 c 0 (.slice none 0 0) w5):=zz0 ⟨T5.out,S5.out,B5.out,by simpa [zaP] using World.ownsRow_nil _ _ _ _,R5.out,za.refl _ _⟩
 clear tk4 e50
 go_loopw [9,47] (fun at_ i wr=>∃j:Nat,j≤c.parts.length∧i = .int .u64 j∧at_ = .int .i64 (zp c.lo (c.parts.take j))∧∃ov,CtLp (fun g=>(w.heap.size<g∧g<w1.heap.size)∨g=w1.heap.size) w5 w1.heap.size w2.heap.size w.heap.size b4 c j ov wr) (fun _ i _=>c.parts.length-(intOf i).toNat)
 case atStart=>exact⟨0,by omega,rfl,rfl,_,L0.out⟩
 case round =>
  obtain⟨j,hj,rfl,rfl,ov,lp⟩:=hrel;obtain⟨oa,oc,rfl,_,_⟩:=zb lp.row;have LP:=zz0 lp;clear lp;by_cases hlt:j<c.parts.length
  ·have hlj:(j:Int)<(c.parts.length:Int):=by omega
   obtain⟨p,hpj⟩:∃p,c.parts[j]? = some p:=⟨_,List.getElem?_eq_getElem hlt⟩;obtain⟨⟨p1,p2,p3,p4,p5⟩,p6⟩:=zay c.parts c.lo j p OK.out.parts hpj;have hst:=za2 c.parts c.lo j p hpj;have hle:=(zaq c.parts c.lo (j+1)).2;rw[OK.out.stop,hst] at hle;have hdrop:za6 (c.parts.drop j)=zo p.many++(zo p.size++(p.sum++za6 (c.parts.drop (j+1)))):=by
    have e1:c.parts.drop j=p::c.parts.drop (j+1):=by
     rw[List.drop_eq_getElem_cons hlt];rw[List.getElem?_eq_getElem hlt] at hpj;injection hpj with hpj
     rw[hpj]
    rw[e1];simp[za6,List.append_assoc]
   have rdj:=LP.out.rd;rw[hdrop] at rdj;have TP:=zz0 (zmR _ w1.heap.size p (za6 (c.parts.drop (j+1))) wr rdj p2 p4 p5 (fun g x=>by have:=(HFF.out g x).1;have:=LP.out.kp.size;omega))
   rw[p6] at TP;have tkr:=zN LP.out.tk;have HPJ:=zz0 hpj;have ST:=zz0 hst;have q1:=ptc_1 p;clear rdj hdrop hpj p6 hst;unfold ptV at TP
   go_wp2_with(first
    |(go_at_call 234;refine TP.out.mono ?_;rintro e w6 ⟨rfl,k6,r6⟩;have hsp:=zac w6 p p5;have hlp:=zaB (ze w6 (zq4 p)) p5;have hbu:=zeL p p5 (w6.alloc (zq4 p));have z1:=pt_1 (ze w6 (zq4 p));have b7:=zh ((za.refl zq2 w6).alloc (zq4 p)) (zL k6 LP.out.bx (fun e=>NE.out.2.2.1 e.symm));have z4:=cu_4 b7;have b8:=zh ((za.refl zq2 (w6.alloc (zq4 p))).alloc (zq4 p)) b7;have z4':=cu_4 b8;have K6:=zz0 k6;have R6:=zz0 r6;have BB:=zz0 (zaa w6 (zq4 p) (zq4 p));have O8:=zz0 (zc LP.out.row (k6.trans1 (((za.refl zq2 w6).alloc (zq4 p)).alloc (zq4 p)).ofNon) (fun g e e2=>by have e':g=w1.heap.size:=e2;have:=(LP.out.row.lt g e).1;have:=NE.out;omega));clear k6 r6 b7 b8;unfold ptV at hsp hlp hbu;dsimp only[zrb,zq4] at hsp hlp hbu z1 z4 z4')
    |(at_builtin;refine zv rfl _ _ 52 rfl w5.heap.size 125 i0 (.agg zrb) 35 56 Tryz.underlying52 I0.out.1 I0.out.2.1 I0.out.2.2.1 I0.out.2.2.2 rfl (by decide) (.slice oa j oc) j (zaP (c.parts.take j)) rfl O8.out ⟨w6.heap.size+1,0,none⟩ 1 1 (zq8 p) rfl (by rw[zbc p5]) (by exact zey BB.out) (zex p) (by have:=OK.out.many;unfold maxLen;omega) (by have:=OK.out.many;omega) (by have:=(LP.out.kp.size);have:=K6.out.size;simp;omega) ?_;intro v3 w9 ho hg hpp;obtain⟨a3,c3,rfl,_,_⟩:=zb ho;obtain⟨nx,b9⟩:=zpi LP.out HFF.out NE.out HPJ.out K6.out R6.out ho hg;have f4:=zb5 b9 4;have g4:=cu_4 b9;have NX:=zz0 nx;clear ho hg hpp nx b9))
   exact⟨⟨j+1,by omega,by first|rfl|go_num,(by rw[ST.out];first|rfl|go_num|(congr 1;omega)),_,NX.out⟩,by simp[intOf];omega⟩
  ·obtain rfl:j=c.parts.length:=by omega
   have hnx:zp c.lo (c.parts.take c.parts.length)=c.next:=by rw[List.take_length,OK.out.stop]
   rw[hnx];have hd0:za6 (c.parts.drop c.parts.length) = []:=by rw[List.drop_length];rfl
   have rdj:=LP.out.rd;rw[hd0] at rdj;have EN:=zz0 (zlw _ w1.heap.size wr rdj);have tkr:=zN LP.out.tk;have y0:=cu_0 LP.out.bx;have y1:=cu_1 LP.out.bx;have y2:=cu_2 LP.out.bx;have y3:=cu_3 LP.out.bx;have y4:=cu_4 LP.out.bx;have row:=LP.out.row;rw[List.take_length] at row;have ROW:=zz0 row;have P32:zbI c.parts:=fun p hp=>by
    obtain⟨i,hi,rfl⟩:=List.getElem_of_mem hp;exact(zay c.parts c.lo i _ OK.out.parts (List.getElem?_eq_getElem hi)).1.2.2.2.2
   have CK:=zz0 (zdb c (.slice oa c.parts.length oc) wr OK.out (zC.of row P32));unfold cuV at CK;clear rdj hd0 hnx row P32
   go_wp2_with(first
    |(go_at_call 103;refine EN.out.mono ?_;rintro e w8 ⟨rfl,e2⟩;subst e2)
    |(go_at_call 178;refine CK.out.mono ?_;rintro e w9 ⟨rfl,k9⟩;have z9:=zh k9 LP.out.rs;have l9:=zh k9 LP.out.bx;have i0':=cu_0 z9;have i1':=cu_1 z9;have i2':=cu_2 z9;have i3':=cu_3 z9;have i4':=cu_4 z9;have j0':=zb5 z9 0;have j1':=zb5 z9 1;have j2':=zb5 z9 2;have j3':=zb5 z9 3;have j4':=zb5 z9 4;have m0:=cu_0 l9;have m1:=cu_1 l9;have m2:=cu_2 l9;have m3:=cu_3 l9;have m4:=cu_4 l9;have Z9:=zz0 z9;have K9:=zz0 k9;clear k9 z9 l9))
   obtain⟨r0,r1,r2,r3,r4,kf⟩:=zdu Z9.out (.int .i64 c.lo) (.int .i64 c.next) (.int .i64 c.hi) (.int .i64 c.trim) (.slice oa c.parts.length oc) _ rfl;refine bodyPost_ret (v:=.tuple #[.agg #[.int .i64 c.lo,.int .i64 c.next,.int .i64 c.hi,.int .i64 c.trim,.slice oa c.parts.length oc],.nilIface]) (by simp[results,Tryz.results175,go_sem,r0,r1,r2,r3,r4]) rfl ?_
   have z1:=Z1.out;have z2:=Z2.out;have z3:=KA.out.size;have z4:=E4.out.kp.size;have z5:=K5.out.size;have k25:za (zq3 w1.heap.size) w2 w5:=KA.out.ofNon.trans (E4.out.kp.trans1 K5.out) (fun _ _ x=>x) (fun _ _ x=>x)
   have k0:za zq2 w w5:=K2.out.trans k25 (fun _ _ e=>e) (fun g hg e=>by have e':g=w1.heap.size:=e;omega)
   have k1:za zq2 w w9:=k0.trans (LP.out.kp.trans1 K9.out.ofNon) (fun _ _ e=>e) (fun g hg e=>by have:=E4.out.bx.2;rcases e with e|e<;>omega)
   have o9:=zc ROW.out K9.out (fun _ _ e=>e)
   exact⟨_,rfl,k1.trans kf (fun _ _ e=>e) (fun g hg e=>by have e':g=w.heap.size:=e;omega),zg (zc o9 kf (fun g hg e=>by have e':g=w.heap.size:=e;have:=(o9.lt g hg).1;omega)) (by omega)⟩
end
end Go.Proofs.YtpojgmeoaflmoaaGreatDoor
