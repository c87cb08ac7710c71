/- (*Export).part, where Add fails: walked  -/
import Derived.Test.YtpojgmeoaflmoaaGreatDoorQ28
import Derived.Test.YtpojgmeoaflmoaaGreatDoorQ30
set_option linter.unusedVariables false
set_option maxRecDepth 100000
set_option maxHeartbeats 16000000
namespace Go.Proofs.YtpojgmeoaflmoaaGreatDoor
open Go.RowKit Go.Maps
structure PaEnd (F:Nat→Prop)(W1:World)(q p:Nat)(Y:Dk)(o:Obj)(b5:Nat)(W4:World):Prop where
 bx:W4.heap[b5]? = some o
 lo:W1.heap.size≤b5
 kp:za F W1 W4
 st:∃F',zq5 F' F W1∧(∀g,F' g→g<W4.heap.size)∧¬F' b5∧zk F' W4 q p Y
theorem zkJ (w:World):(holdW 125 ⟨w.heap.size,0,none⟩ (.agg zrb)).run Tryz.prog (w.alloc (.cells zrb 125)) = .ok () (w.alloc (.cells zrb 125 (0,0))):=by
 rw[zdY _ _ (ze _ _),zdm]
theorem zmg {F:Nat→Prop}{W1 w2 w3:World}{q p:Nat}{Y:Dk}{o:Obj}(k2:za zq2 W1 w2)(t:zn F w2 q p Y w3)(hF:∀g,F g→g<W1.heap.size):PaEnd F W1 q p Y o w3.heap.size (w3.alloc o):=by
 obtain⟨k3,F',s,d⟩:=t;have ka:za zq2 w3 (w3.alloc o):=(za.refl _ _).alloc _;have s2:=k2.size;have s3:=k3.size;refine⟨ze _ _,by omega,(k2.ofNon.trans k3 (fun _ _ x=>x) (fun _ _ x=>x)).trans1 ka.ofNon,fun g=>F' g∧g<w3.heap.size,fun g x=>?_,fun g x=>ka.lt x.2,fun x=>by have:=x.2;omega,d.low.keep ka (fun _ _ e=>e)⟩
 rcases s g x.1 with y|y
 ·exact .inl y
 ·exact .inr (by omega)
theorem zgS {F:Nat→Prop}{W1 w2 w3:World}{q p b5:Nat}{Y:Dk}{o:Obj}{arr:Array Value}(ho:o = .cells arr 125 (0,0))(k2:za zq2 W1 w2)(hb:w2.heap[b5]? = some (.cells zrb 125 (0,0)))(hb1:W1.heap.size≤b5)(t:zn F w2 q p Y w3)(hF:∀g,F g→g<W1.heap.size) :
 w3.heap[b5]? = some (.cells zrb 125 (0,0))∧PaEnd F W1 q p Y o b5 (w3.setRow b5 arr):=by
 obtain⟨k3,F',s,d⟩:=t;have hl:b5<w2.heap.size:=lt_of_block hb;have b3:w3.heap[b5]? = some (.cells zrb 125 (0,0)):=k3.at hb (fun e=>by have:=hF b5 e;omega)
 have kr:za (zq3 b5) w3 (w3.setRow b5 arr):=(za.refl (zq3 b5) _).setRow (.inl (zK _)) _;have s2:=k2.size;have s3:=k3.size;have hn:¬F' b5:=fun e=>by
  rcases s b5 e with y|y
  ·have:=hF b5 y;omega
  ·omega
 subst ho;refine⟨b3,setRow_heap _ _ _ _ _ _ b3,hb1,(k2.ofNon.trans k3 (fun _ _ x=>x) (fun _ _ x=>x)).trans kr (fun _ _ x=>x) (fun g hg e=>by have e':g=b5:=e;omega),fun g=>F' g∧g<w3.heap.size,fun g x=>?_,fun g x=>kr.lt x.2,fun x=>hn x.1,d.low.keep kr (fun g x e=>by have e':g=b5:=e;exact hn (e' ▸ x.1))⟩
 rcases s g x.1 with y|y
 ·exact .inl y
 ·exact .inr (by omega)
theorem zpQ {F FL:Nat→Prop}{w WX W4:World}{x b lb q p b5:Nat}{lv pv:Value}{c:Cu}{ov:Bool}{X Y:Dk}{L:Lg}{o:Obj}(h:ExSt F FL w x b lb q p lv c pv ov X L)(kX:za zq2 w WX)(e:PaEnd F WX q p Y o b5 W4) :
 ∃F',zq5 F' F w∧za (fun g=>F g∨g=x) w W4∧ExSt F' FL W4 x b lb q p lv c pv ov Y L∧¬F' b5:=by
 obtain⟨F',s,hlow,hn,d⟩:=e.st;have k:za F w W4:=kX.ofNon.trans e.kp (fun _ _ x=>x) (fun _ _ x=>x)
 have k':za (fun g=>F g∨g=x) w W4:=k.mono (fun _ _ y=>.inl y)
 have sub:zq5 F' F w:=fun g y=>by
  rcases s g y with z|z
  ·exact .inl z
  ·exact .inr (Nat.le_trans kX.size z)
 have hpv:∀g,pv.ownBlock=some g→¬F' g∧g≠x∧g≠b∧¬FL g:=fun g y=>by
  obtain⟨h1,h2,h3,h4⟩:=h.pvo g y;refine⟨fun z=>?_,h2,h3,h4⟩
  rcases sub g z with z|z
  ·exact h1 z
  ·have:=(h.row.lt g y).2;omega
 exact⟨F',sub,k',h.turn k' sub hlow d (k.at h.ex h.out.1) (zc h.row k (fun g y=>(h.pvo g y).1)) hpv,hn⟩
section
attribute [local go_sem ↓] zbB zU zbC zbD zV zbE zab zbK
end
def ExOut (F FL:Nat→Prop)(w:World)(x b lb q p:Nat)(lv:Value)(c:Cu)(ov:Bool)(X:Dk)(L:Lg)(w':World):Prop :=
 ∃F' pv',zq5 F' F w∧za (fun g=>F g∨g=x) w w'∧ExSt F' FL w' x b lb q p lv c pv' ov X L
structure StEnd (W4:World)(c2:Cu)(n:Nat)(v:Value)(nb:Nat)(W5:World):Prop where
 bx:W5.heap[nb]? = some (zq0 c2 v)
 lo:W4.heap.size≤nb
 kp:za zq2 W4 W5
 row:W5.ownsRow W4.heap.size 125 35 v n (zaP c2.parts)
 ne:∀g,v.ownBlock=some g→g≠nb
theorem zqh {W4 w6:World}{c2:Cu}{v:Value}{n B:Nat}(k6:za zq2 W4 w6)(o:w6.ownsRow B 125 35 v n (zaP c2.parts))(hB:W4.heap.size≤B):StEnd W4 c2 n v w6.heap.size (w6.alloc (zq0 c2 v)) :=
 ⟨ze _ _,k6.size,k6.alloc _,zg (zc o ((za.refl zq2 _).alloc _) (fun _ _ e=>e)) hB,fun g e=>by have:=(o.lt g e).2;omega⟩
theorem zqi {W4 w6:World}{c2:Cu}{v:Value}{n B nb:Nat}(k6:za zq2 W4 w6)(hb:w6.heap[nb]? = some (zq0 ⟨0,0,0,0,[]⟩ (.slice none 0 0)))(h1:W4.heap.size≤nb)(o:w6.ownsRow B 125 35 v n (zaP c2.parts))(hB:nb<B) :
 StEnd W4 c2 n v nb (((((w6.setCell ⟨nb,0,none⟩ (.int .i64 c2.lo)).setCell ⟨nb,1,none⟩ (.int .i64 c2.next)).setCell ⟨nb,2,none⟩ (.int .i64 c2.hi)).setCell ⟨nb,3,none⟩ (.int .i64 c2.trim)).setCell ⟨nb,4,none⟩ v):=by
 have k:za (zq3 nb) w6 (((((w6.setCell ⟨nb,0,none⟩ (.int .i64 c2.lo)).setCell ⟨nb,1,none⟩ (.int .i64 c2.next)).setCell ⟨nb,2,none⟩ (.int .i64 c2.hi)).setCell ⟨nb,3,none⟩ (.int .i64 c2.trim)).setCell ⟨nb,4,none⟩ v):=((((((za.refl _ _).setOne _ _).setOne _ _).setOne _ _).setOne _ _).setOne _ _);exact⟨zj (zj (zj (zj (zj hb 0 (.int .i64 c2.lo)) 1 (.int .i64 c2.next)) 2 (.int .i64 c2.hi)) 3 (.int .i64 c2.trim)) 4 v,h1,k6.trans k (fun _ _ e=>e) (fun g hg e=>by have e':g=nb:=e;omega),
  zg (zc o k (fun g e e2=>by have e':g=nb:=e2;have:=(o.lt g e).1;omega)) (by omega),fun g e=>by have:=(o.lt g e).1;omega⟩
theorem zpP {F:Nat→Prop}{W1 W4:World}{q p b5:Nat}{Y:Dk}{o:Obj}(e:PaEnd F W1 q p Y o b5 W4):PaEnd F W1 q p Y o b5 W4.drew:=by
 obtain⟨F',s,hl,hn,d⟩:=e.st;exact⟨e.bx,e.lo,e.kp.drew,F',s,hl,hn,d.keep ((za.refl zq2 W4).drew) (fun _ _ e=>e)⟩
theorem zpw {w:World}{x b lb:Nat}{c:Cu}{pv:Value}{ov:Bool}(h:w.heap[x]? = some (ExB b lb c pv ov))(c2:Cu)(v:Value) :
 w.cell? ⟨x,2,none⟩=some (.int .i64 c.lo)∧(w.setCell ⟨x,2,none⟩ (.int .i64 c2.lo)).cell? ⟨x,3,none⟩=some (.int .i64 c.next)∧((w.setCell ⟨x,2,none⟩ (.int .i64 c2.lo)).setCell ⟨x,3,none⟩ (.int .i64 c2.next)).cell? ⟨x,4,none⟩=some (.int .i64 c.hi)∧(((w.setCell ⟨x,2,none⟩ (.int .i64 c2.lo)).setCell ⟨x,3,none⟩ (.int .i64 c2.next)).setCell ⟨x,4,none⟩ (.int .i64 c2.hi)).cell? ⟨x,5,none⟩=some (.int .i64 c.trim)∧((((w.setCell ⟨x,2,none⟩ (.int .i64 c2.lo)).setCell ⟨x,3,none⟩ (.int .i64 c2.next)).setCell ⟨x,4,none⟩ (.int .i64 c2.hi)).setCell ⟨x,5,none⟩ (.int .i64 c2.trim)).cell? ⟨x,6,none⟩=some pv ∧
 w.frozen? ⟨x,2,none⟩=false∧(w.setCell ⟨x,2,none⟩ (.int .i64 c2.lo)).frozen? ⟨x,3,none⟩=false∧((w.setCell ⟨x,2,none⟩ (.int .i64 c2.lo)).setCell ⟨x,3,none⟩ (.int .i64 c2.next)).frozen? ⟨x,4,none⟩=false∧(((w.setCell ⟨x,2,none⟩ (.int .i64 c2.lo)).setCell ⟨x,3,none⟩ (.int .i64 c2.next)).setCell ⟨x,4,none⟩ (.int .i64 c2.hi)).frozen? ⟨x,5,none⟩=false∧((((w.setCell ⟨x,2,none⟩ (.int .i64 c2.lo)).setCell ⟨x,3,none⟩ (.int .i64 c2.next)).setCell ⟨x,4,none⟩ (.int .i64 c2.hi)).setCell ⟨x,5,none⟩ (.int .i64 c2.trim)).frozen? ⟨x,6,none⟩=false ∧
 (((((w.setCell ⟨x,2,none⟩ (.int .i64 c2.lo)).setCell ⟨x,3,none⟩ (.int .i64 c2.next)).setCell ⟨x,4,none⟩ (.int .i64 c2.hi)).setCell ⟨x,5,none⟩ (.int .i64 c2.trim)).setCell ⟨x,6,none⟩ v).heap[x]? = some (ExB b lb c2 v ov) ∧
 za (zq3 x) w (((((w.setCell ⟨x,2,none⟩ (.int .i64 c2.lo)).setCell ⟨x,3,none⟩ (.int .i64 c2.next)).setCell ⟨x,4,none⟩ (.int .i64 c2.hi)).setCell ⟨x,5,none⟩ (.int .i64 c2.trim)).setCell ⟨x,6,none⟩ v):=by
 have h1:(w.setCell ⟨x,2,none⟩ (.int .i64 c2.lo)).heap[x]? = some (ExB b lb ⟨c2.lo,c.next,c.hi,c.trim,c.parts⟩ pv ov):=zpr h c2.lo;have h2:((w.setCell ⟨x,2,none⟩ (.int .i64 c2.lo)).setCell ⟨x,3,none⟩ (.int .i64 c2.next)).heap[x]? = some (ExB b lb ⟨c2.lo,c2.next,c.hi,c.trim,c.parts⟩ pv ov):=zps h1 c2.next;have h3:(((w.setCell ⟨x,2,none⟩ (.int .i64 c2.lo)).setCell ⟨x,3,none⟩ (.int .i64 c2.next)).setCell ⟨x,4,none⟩ (.int .i64 c2.hi)).heap[x]? = some (ExB b lb ⟨c2.lo,c2.next,c2.hi,c.trim,c.parts⟩ pv ov):=zpt h2 c2.hi;have h4:((((w.setCell ⟨x,2,none⟩ (.int .i64 c2.lo)).setCell ⟨x,3,none⟩ (.int .i64 c2.next)).setCell ⟨x,4,none⟩ (.int .i64 c2.hi)).setCell ⟨x,5,none⟩ (.int .i64 c2.trim)).heap[x]? = some (ExB b lb ⟨c2.lo,c2.next,c2.hi,c2.trim,c.parts⟩ pv ov):=zpu h3 c2.trim;exact⟨ex_2 h,ex_3 (c:=⟨c2.lo,c.next,c.hi,c.trim,c.parts⟩) h1,ex_4 (c:=⟨c2.lo,c2.next,c.hi,c.trim,c.parts⟩) h2,ex_5 (c:=⟨c2.lo,c2.next,c2.hi,c.trim,c.parts⟩) h3,ex_6 h4,ex_f h 2,ex_f h1 3,ex_f h2 4,ex_f h3 5,ex_f h4 6,zpv h4 v,(((((za.refl _ _).setOne _ _).setOne _ _).setOne _ _).setOne _ _).setOne _ _⟩
theorem zqP {F F4 FL:Nat→Prop}{w WX W4 wd w9:World}{x b lb q p:Nat}{lv pv:Value}{c:Cu}{ov:Bool}{X Z:Dk}{L:Lg}(h:ExSt F FL w x b lb q p lv c pv ov X L)(kX:za zq2 w WX)(k4:za F WX W4)(s4:zq5 F4 F WX)(l4:∀g,F4 g→g<W4.heap.size)(kN:za zq2 W4 wd)(t:zn F4 wd q p Z w9) :
 ∃F',zq5 F' F w∧(∀g,F' g→g<w9.heap.size)∧zk F' w9 q p Z∧za F w w9∧∀g,F' g→F g∨(WX.heap.size≤g∧g<W4.heap.size)∨wd.heap.size≤g:=by
 obtain⟨k9,F9,s9,d9⟩:=t;have hs1:=kX.size;have hs2:=k4.size;have hs3:=kN.size;have hF:∀g,F9 g→F g∨(WX.heap.size≤g∧g<W4.heap.size)∨wd.heap.size≤g:=fun g y=>by
  rcases s9 g y with z|z
  ·rcases s4 g z with z2|z2
   ·exact .inl z2
   ·exact .inr (.inl ⟨z2,l4 g z⟩)
  ·exact .inr (.inr z)
 refine⟨fun g=>F9 g∧g<w9.heap.size,fun g y=>?_,fun g y=>y.2,d9.low,?_,fun g y=>hF g y.1⟩
 ·rcases hF g y.1 with z|⟨z,_⟩|z
  ·exact .inl z
  ·exact .inr (by omega)
  ·exact .inr (by omega)
 ·refine((kX.ofNon.trans k4 (fun _ _ y=>y) (fun _ _ y=>y)).trans1 kN.ofNon).trans k9 (fun _ _ y=>y) (fun g hg y=>?_)
  rcases s4 g y with z|z
  ·exact z
  ·omega
section
attribute [local go_sem ↓] zbB zU zbC zbD zV zbE zab zbK
end
end Go.Proofs.YtpojgmeoaflmoaaGreatDoor
