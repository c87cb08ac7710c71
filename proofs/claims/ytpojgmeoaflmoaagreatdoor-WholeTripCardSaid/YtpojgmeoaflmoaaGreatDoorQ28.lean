/- A cursor stays one, a part farther. · sl -/
import Derived.Test.YtpojgmeoaflmoaaGreatDoorQ19
import Derived.Test.YtpojgmeoaflmoaaGreatDoorQ20
import Derived.Test.YtpojgmeoaflmoaaGreatDoorQ27
set_option linter.unusedVariables false
set_option maxRecDepth 100000
set_option maxHeartbeats 16000000
namespace Go.Proofs.YtpojgmeoaflmoaaGreatDoor
open Go.RowKit
theorem zf7:∀(l:List Pt)(a:Nat)(p:Pt),okPts a l→p.first=zp a l→okPt p→okPts a (l ++ [p])
 |[],a,p,_,h,hp=>⟨h,hp,trivial⟩
 |q::r,a,p,h,h2,hp=>⟨h.1,h.2.1,zf7 r (a+q.many) p h.2.2 h2 hp⟩
theorem ze3:∀(l:List Pt)(a:Nat)(p:Pt),zp a (l ++ [p])=zp a l+p.many
 |[],a,p=>rfl
 |q::r,a,p=>ze3 r (a+q.many) p
theorem zpW {f:Nat}{cl:List Cl}(hne:cl≠[])(h:∀x ∈ cl,zcl x)(hl:cl.length≤64)(hf:f≤1048576):okPt (zaI f cl):=by
 have h1:=zeb h hl hf;have h2:=List.length_pos_iff.2 hne;have h3:1≤(zaC f cl).length:=by
  unfold zaC zbb sealB;rw[List.length_append,zbZ];omega
 exact⟨h2,hl,h3,Nat.le_trans h1 (by decide),zJ _⟩
theorem zli {c:Cu}{cl:List Cl}(h:zdQ c)(hne:cl≠[])(hok:∀x ∈ cl,zcl x)(hl:cl.length≤64)(hs:c.next+cl.length≤c.hi)(hm:c.parts.length<64):zdQ (zb8 c (zaI c.next cl)):=by
 have hn:c.next≤1048576:=by have:=h.le;have:=h.hi;omega
 refine⟨zf7 _ _ _ h.parts h.stop.symm (zpW hne hok hl hn),?_,hs,h.hi,h.trim,?_⟩
 ·show zp c.lo (c.parts ++ [zaI c.next cl])=_
  rw[ze3,h.stop]
  rfl
 ·show(c.parts ++ [zaI c.next cl]).length≤64
  simp;omega
end Go.Proofs.YtpojgmeoaflmoaaGreatDoor
namespace Go.Proofs.YtpojgmeoaflmoaaGreatDoor
open Go.RowKit Go.Maps
theorem zg6 {W0 W w3:World}{v v3:Value}{S:Nat→Prop}(k:za S W0 W)(hg:W.grownBy w3 v.ownBlock)(hp:v3.ownBlock=v.ownBlock∨v3.ownBlock=some W.heap.size) :
 za (fun g=>S g∨v.ownBlock=some g) W0 w3∧(v3.ownBlock=v.ownBlock∨∃g,W0.heap.size≤g∧W.heap.size≤g∧g<w3.heap.size+1∧v3.ownBlock=some g):=by
 have kg:za (fun g=>v.ownBlock=some g) W w3:=(za.refl _ _).grown hg (fun k e=>.inl e)
 refine⟨k.trans kg (fun _ _ x=>.inl x) (fun _ _ x=>.inr x),?_⟩
 rcases hp with x|x
 ·exact .inl x
 ·exact .inr ⟨_,k.size,Nat.le_refl _,by have:=kg.size;omega,x⟩
def addA (A:Nat→Nat→Prop)(m:Nat)(v3 v5:Value)(FU:Nat→Prop):Nat→Nat→Prop:=fun j g=>if j=2 then v3.ownBlock=some g else if j=3 then v5.ownBlock=some g else if j=5+m then FU g else j<5+m∧A j g
theorem LgIn.add {A:Nat→Nat→Prop}{F FU:Nat→Prop}{w W W':World}{b:Nat}{dps sps:List Nat}{dv sv cv v3 v5:Value}{q n p sp:Nat}{L:Lg}{s:Sh}(h:LgIn A W b dps sps dv sv cv q n L)(hF:∀i g,A i g→F g)
 (hw:∀i g,A i g→g<w.heap.size) (hww:w.heap.size≤W.heap.size) (h10:10≤w.heap.size) (hsh:ShAt FU W sp p s) (hFU:∀g,FU g→w.heap.size≤g) (hl:L.shs.length<3)
 (k:za (fun g=>g=b∨dv.ownBlock=some g∨sv.ownBlock=some g) W W') (hb:W'.heap[b]? = some (LgB v3 v5 L.ep cv q))
 (o3:W'.ownsRow 0 30 1 v3 (dps.length+1) (dps.map zcP ++ [zcP p])) (o5:W'.ownsRow 0 144 1 v5 (sps.length+1) (sps.map zcP ++ [zcP sp]))
 (p3:v3.ownBlock=dv.ownBlock∨∃g,W.heap.size≤g∧v3.ownBlock=some g) (p5:v5.ownBlock=sv.ownBlock∨∃g,W.heap.size≤g∧v5.ownBlock=some g)
 (p35:∀g,v3.ownBlock=some g→v5.ownBlock≠some g) :
 LgIn (addA A L.shs.length v3 v5 FU) W' b (dps ++ [p]) (sps ++ [sp]) v3 v5 cv q n { L with shs:=L.shs ++ [s] }∧∀i g,addA A L.shs.length v3 v5 FU i g→F g∨w.heap.size≤g:=by
 have lo3:∀g,v3.ownBlock=some g→A 2 g∨W.heap.size≤g:=fun g x=>by
  rcases p3 with e|⟨g',e1,e2⟩
  ·exact .inl (h.mem.2.2.1 g (e ▸ x))
  ·rw[e2] at x;injection x with x;exact .inr (x ▸ e1)
 have lo5:∀g,v5.ownBlock=some g→A 3 g∨W.heap.size≤g:=fun g x=>by
  rcases p5 with e|⟨g',e1,e2⟩
  ·exact .inl (h.mem.2.2.2 g (e ▸ x))
  ·rw[e2] at x;injection x with x;exact .inr (x ▸ e1)
 have nS:∀i g,A i g→i≠0→i≠2→i≠3→¬(g=b∨dv.ownBlock=some g∨sv.ownBlock=some g):=by
  rintro i g x h0 h2 h3 (rfl|y|y)
  ·exact h0 (h.apart _ _ _ x h.mem.1)
  ·exact h2 (h.apart _ _ _ x (h.mem.2.2.1 g y))
  ·exact h3 (h.apart _ _ _ x (h.mem.2.2.2 g y))
 have nF:∀g,FU g→¬(g=b∨dv.ownBlock=some g∨sv.ownBlock=some g):=by
  rintro g x (rfl|y|y)
  ·have:=hFU g x;have:=hw _ _ h.mem.1;omega
  ·have:=hFU g x;have:=hw _ _ (h.mem.2.2.1 g y);omega
  ·have:=hFU g x;have:=hw _ _ (h.mem.2.2.2 g y);omega
 have aq:∀j,j≠2→j≠3→j<5+L.shs.length→addA A L.shs.length v3 v5 FU j=A j:=fun j h2 h3 h5=>by
  funext g
  unfold addA;rw[if_neg h2,if_neg h3,if_neg (by omega)]
  exact propext ⟨fun x=>x.2,fun x=>⟨h5,x⟩⟩
 have a2:addA A L.shs.length v3 v5 FU 2=fun g=>v3.ownBlock=some g:=by funext g;unfold addA;rw[if_pos rfl]
 have a3:addA A L.shs.length v3 v5 FU 3=fun g=>v5.ownBlock=some g:=by funext g;unfold addA;rw[if_neg (by omega),if_pos rfl]
 have a5:addA A L.shs.length v3 v5 FU (5+L.shs.length)=FU:=by funext g;unfold addA;rw[if_neg (by omega),if_neg (by omega),if_pos rfl]
 -- what a block belongs to: an old part,or a new one
 have cls:∀j g,addA A L.shs.length v3 v5 FU j g→(A j g∧g<w.heap.size)∨(j=5+L.shs.length∧FU g∧w.heap.size≤g∧g<W.heap.size)∨((j=2∧v3.ownBlock=some g∨j=3∧v5.ownBlock=some g)∧W.heap.size≤g):=by
  intro j g x;unfold addA at x
  split at x
  ·rename_i e;subst e
   rcases lo3 g x with y|y
   ·exact .inl ⟨y,hw _ _ y⟩
   ·exact .inr (.inr ⟨.inl ⟨rfl,x⟩,y⟩)
  ·split at x
   ·rename_i e;subst e
    rcases lo5 g x with y|y
    ·exact .inl ⟨y,hw _ _ y⟩
    ·exact .inr (.inr ⟨.inr ⟨rfl,x⟩,y⟩)
   ·split at x
    ·rename_i e
     exact .inr (.inl ⟨e,x,hFU g x,hsh.low g x⟩)
    ·exact .inl ⟨x.2,hw _ _ x.2⟩
 refine⟨⟨hb,k.at h.sq (nS 1 _ h.mem.2.1 (by omega) (by omega) (by omega)),h.sqin,?_,?_,?_,?_,?_,?_,?_,?_,?_⟩,?_⟩
 ·simpa using o3
 ·simpa using o5
 ·simp[h.len.1,h.len.2]
 ·rw[aq 4 (by omega) (by omega) (by omega)]
  exact h.proj.keep k (fun g x=>nS 4 g x (by omega) (by omega) (by omega))
 ·intro i s' p' dp' hi hpi hdi
  simp only at hi;rcases Nat.lt_or_ge i L.shs.length with x|x
  ·rw[List.getElem?_append_left x] at hi
   rw[List.getElem?_append_left (by have:=h.len;omega)] at hpi hdi
   rw[aq (5+i) (by omega) (by omega) (by omega)]
   exact(h.sh i s' p' dp' hi hpi hdi).keep k (fun g y=>nS (5+i) g y (by omega) (by omega) (by omega))
  ·have e:i=L.shs.length:=by have:=zr hi;simp at this;omega
   subst e;rw[List.getElem?_append_right (Nat.le_refl _)] at hi;rw[List.getElem?_append_right (by have:=h.len;omega)] at hpi hdi
   have l1:=h.len.1;have l2:=h.len.2;rw[Nat.sub_self] at hi;rw[l2,Nat.sub_self] at hpi;rw[l1,Nat.sub_self] at hdi;simp only[List.getElem?_cons_zero,Option.some.injEq] at hi hpi hdi;subst hi;subst hpi;subst hdi;rw[a5];exact hsh.keep k (fun g y=>nF g y)
 ·rw[aq 0 (by omega) (by omega) (by omega),aq 1 (by omega) (by omega) (by omega),a2,a3]
  exact⟨h.mem.1,h.mem.2.1,fun _ x=>x,fun _ x=>x⟩
 ·intro i j g x y
  rcases cls i g x with ⟨x1,x2⟩|⟨x1,x2,x3,x4⟩|⟨x1,x2⟩
  ·rcases cls j g y with ⟨y1,y2⟩|⟨y1,y2,y3,y4⟩|⟨y1,y2⟩
   ·exact h.apart _ _ _ x1 y1
   ·omega
   ·omega
  ·rcases cls j g y with ⟨y1,y2⟩|⟨y1,y2,y3,y4⟩|⟨y1,y2⟩
   ·omega
   ·omega
   ·omega
  ·rcases cls j g y with ⟨y1,y2⟩|⟨y1,y2,y3,y4⟩|⟨y1,y2⟩
   ·omega
   ·omega
   ·rcases x1 with ⟨e1,e2⟩|⟨e1,e2⟩<;>rcases y1 with ⟨e3,e4⟩|⟨e3,e4⟩
    ·omega
    ·exact absurd e4 (p35 g e2)
    ·exact absurd e2 (p35 g e4)
    ·omega
 ·intro i g x
  have ks:=k.size;rcases cls i g x with ⟨x1,x2⟩|⟨x1,x2,x3,x4⟩|⟨x1,x2⟩
  ·exact⟨(h.low i g x1).1,by omega⟩
  ·exact⟨by omega,by omega⟩
  ·refine⟨by omega,?_⟩
   rcases x1 with ⟨e1,e2⟩|⟨e1,e2⟩
   ·exact(o3.lt g e2).2
   ·exact(o5.lt g e2).2
 ·simp;exact⟨h.small.1,by omega⟩
 ·intro i g x
  rcases cls i g x with ⟨x1,x2⟩|⟨x1,x2,x3,x4⟩|⟨x1,x2⟩
  ·exact .inl (hF i g x1)
  ·exact .inr x3
  ·exact .inr (by omega)
def oD (p:Nat):Obj:=.cells #[.pointer (some ⟨p,0,none⟩)] 30 (0,0)
def oS (p:Nat):Obj:=.cells #[.pointer (some ⟨p,0,none⟩)] 144 (0,0)
theorem zgQ {w:World}{g p:Nat}(h:w.heap[g]? = some (oD p)):∀(j:Nat) u,[Value.pointer (some ⟨p,0,none⟩)][j]? = some u→w.cell? ((⟨g,0,none⟩:Addr).add j)=some u:=by
 intro j u hu;unfold oD at h;rw[zag,Nat.zero_add,cell_of_row _ _ j _ _ _ h];simpa using hu
theorem zgR {w:World}{g p:Nat}(h:w.heap[g]? = some (oS p)):∀(j:Nat) u,[Value.pointer (some ⟨p,0,none⟩)][j]? = some u→w.cell? ((⟨g,0,none⟩:Addr).add j)=some u:=by
 intro j u hu;unfold oS at h;rw[zag,Nat.zero_add,cell_of_row _ _ j _ _ _ h];simpa using hu
theorem infoD:(Tryz.prog.info? 30).map (fun i=>(i.zero,i.size,i.bytes))=some (some (.pointer none),1,8):=by kernel_rfl
theorem infoS:(Tryz.prog.info? 144).map (fun i=>(i.zero,i.size,i.bytes))=some (some (.pointer none),1,8):=by kernel_rfl
section
variable {A : Nat → Nat → Prop} {w2 W w3 : World} {b : Nat} {dps sps : List Nat} {dv sv cv v3 : Value} {q n p m : Nat} {L : Lg}
structure A8 (A:Nat→Nat→Prop)(w2 w3:World)(b:Nat)(dps sps:List Nat)(dv sv cv v3:Value)(q p:Nat)(L:Lg):Prop where
 keep:za (fun g=>dv.ownBlock=some g) w2 w3
 own:v3.ownBlock=dv.ownBlock∨∃g,w2.heap.size≤g∧v3.ownBlock=some g
 row:w3.ownsRow 0 30 1 v3 (dps.length+1) (dps.map zcP ++ [zcP p])
 blk:w3.heap[b]? = some (LgB dv sv L.ep cv q)
 shelves:w3.ownsRow 0 144 1 sv sps.length (sps.map zcP)
theorem A8.of (h:LgIn A w2 b dps sps dv sv cv q n L)(k:za zq2 w2 W)(ho:w3.ownsRow 0 30 1 v3 (dps.length+1) (dps.map zcP ++ [zcP p]))(hg:W.grownBy w3 dv.ownBlock)(hpp:v3.ownBlock=dv.ownBlock∨v3.ownBlock=some W.heap.size) :
 A8 A w2 w3 b dps sps dv sv cv v3 q p L∧∀g o,w2.heap.size≤g→W.heap[g]? = some o→w3.heap[g]? = some o:=by
 obtain⟨k3,p3⟩:=zg6 k hg hpp;have k3':za (fun g=>dv.ownBlock=some g) w2 w3:=k3.mono (fun g _ x=>x.resolve_left (fun y=>y))
 refine⟨⟨k3',?_,ho,k3'.at h.blk (fun x=>?_),zc h.shelves k3' (fun g x y=>?_)⟩,fun g o hgs hgo=>?_⟩
 ·rcases p3 with x|⟨g,x,_,_,y⟩
  ·exact .inl x
  ·exact .inr ⟨g,x,y⟩
 ·have:=h.apart _ _ _ h.mem.1 (h.mem.2.2.1 _ x);omega
 ·have:=h.apart _ _ _ (h.mem.2.2.2 _ x) (h.mem.2.2.1 _ y);omega
 ·have kg:za (fun k=>dv.ownBlock=some k) W w3:=(za.refl _ _).grown hg (fun k e=>.inl e)
  exact kg.at hgo (fun x=>by have:=(h.low _ _ (h.mem.2.2.1 _ x)).2;omega)
theorem A8.alloc (h:A8 A w2 w3 b dps sps dv sv cv v3 q p L)(o:Obj):A8 A w2 (w3.alloc o) b dps sps dv sv cv v3 q p L :=
 ⟨h.keep.trans1 ((za.refl _ _).alloc o),h.own,zc h.row ((za.refl zq2 w3).alloc o) (fun _ _ e=>e),zi h.blk o,zc h.shelves ((za.refl zq2 w3).alloc o) (fun _ _ e=>e)⟩
structure A15 (A:Nat→Nat→Prop)(w2 w5:World)(b:Nat)(dps sps:List Nat)(dv sv cv v3 v5:Value)(q p sp:Nat)(L:Lg):Prop where
 keep:za (fun g=>dv.ownBlock=some g∨sv.ownBlock=some g) w2 w5
 blk:w5.heap[b]? = some (LgB dv sv L.ep cv q)
 own3:v3.ownBlock=dv.ownBlock∨∃g,w2.heap.size≤g∧v3.ownBlock=some g
 own5:v5.ownBlock=sv.ownBlock∨∃g,w2.heap.size≤g∧v5.ownBlock=some g
 ne:∀g,v3.ownBlock=some g→v5.ownBlock≠some g
 row3:w5.ownsRow 0 30 1 v3 (dps.length+1) (dps.map zcP ++ [zcP p])
 row5:w5.ownsRow 0 144 1 v5 (sps.length+1) (sps.map zcP ++ [zcP sp])
theorem A15.of {w5:World}{v5:Value}{sp:Nat}(h:LgIn A w2 b dps sps dv sv cv q n L)(h8:A8 A w2 W b dps sps dv sv cv v3 q p L)(ho:w5.ownsRow 0 144 1 v5 (sps.length+1) (sps.map zcP ++ [zcP sp]))(hg:W.grownBy w5 sv.ownBlock)(hpp:v5.ownBlock=sv.ownBlock∨v5.ownBlock=some W.heap.size) :
 A15 A w2 w5 b dps sps dv sv cv v3 v5 q p sp L:=by
 have kg:za (fun k=>sv.ownBlock=some k) W w5:=(za.refl _ _).grown hg (fun k e=>.inl e)
 obtain⟨k5,p5⟩:=zg6 h8.keep hg hpp;have n3:∀g,v3.ownBlock=some g→sv.ownBlock≠some g:=fun g x y=>by
  rcases h8.own with e|⟨g',e1,e2⟩
  ·rw[e] at x
   have:=h.apart _ _ _ (h.mem.2.2.1 _ x) (h.mem.2.2.2 _ y);omega
  ·rw[e2] at x;injection x with x
   have:=(h.low _ _ (h.mem.2.2.2 _ y)).2;omega
 refine⟨k5,kg.at h8.blk (fun x=>?_),h8.own,?_,fun g x y=>?_,zc h8.row kg (fun g x y=>n3 g x y),ho⟩
 ·have:=h.apart _ _ _ h.mem.1 (h.mem.2.2.2 _ x);omega
 ·rcases p5 with x|⟨g,x,_,_,y⟩
  ·exact .inl x
  ·exact .inr ⟨g,x,y⟩
 ·rcases hpp with e|e
  ·exact n3 g x (e ▸ y)
  ·rw[e] at y;injection y with y
   have:=(h8.row.lt g x).2;omega
theorem A15.put {w5:World}{v5:Value}{sp:Nat}(h:A15 A w2 w5 b dps sps dv sv cv v3 v5 q p sp L)(hA:LgIn A w2 b dps sps dv sv cv q n L) :
 za (fun g=>g=b∨dv.ownBlock=some g∨sv.ownBlock=some g) w2 ((w5.setCell ⟨b,0,none⟩ v3).setCell ⟨b,1,none⟩ v5)∧((w5.setCell ⟨b,0,none⟩ v3).setCell ⟨b,1,none⟩ v5).heap[b]? = some (LgB v3 v5 L.ep cv q) ∧
 ((w5.setCell ⟨b,0,none⟩ v3).setCell ⟨b,1,none⟩ v5).ownsRow 0 30 1 v3 (dps.length+1) (dps.map zcP ++ [zcP p])∧((w5.setCell ⟨b,0,none⟩ v3).setCell ⟨b,1,none⟩ v5).ownsRow 0 144 1 v5 (sps.length+1) (sps.map zcP ++ [zcP sp]):=by
 have kb:za (zq3 b) w5 ((w5.setCell ⟨b,0,none⟩ v3).setCell ⟨b,1,none⟩ v5):=((za.refl _ _).setOne _ _).setOne _ _;have hbl:=(hA.low _ _ hA.mem.1).2;refine⟨h.keep.trans kb (fun g _ x=>.inr x) (fun g _ x=>.inl x),zpC (zdz h.blk v3) v5,zc h.row3 kb (fun g x y=>?_),zc h.row5 kb (fun g x y=>?_)⟩
 ·have y':g=b:=y
  rcases h.own3 with e|⟨g',e1,e2⟩
  ·rw[e] at x;have:=hA.apart _ _ _ (hA.mem.2.2.1 _ x) (y' ▸ hA.mem.1);omega
  ·rw[e2] at x;injection x with x;omega
 ·have y':g=b:=y
  rcases h.own5 with e|⟨g',e1,e2⟩
  ·rw[e] at x;have:=hA.apart _ _ _ (hA.mem.2.2.2 _ x) (y' ▸ hA.mem.1);omega
  ·rw[e2] at x;injection x with x;omega
end
def sh0 (room:Nat):Sh:=⟨dk0 room,0,0,.map [],0⟩
def sh1 (room:Nat):Sh:=(sh0 room).did (zaE 1 1 0 []) 1 0 (.map [])
theorem zmD:(sh0 16777216).ok:=⟨⟨rfl,by decide⟩,⟨by decide,by decide,by decide,by decide,⟨[],rfl⟩⟩,rfl,by decide⟩
theorem zeD {A:Nat→Nat→Prop}{F FU:Nat→Prop}{w w2 w5:World}{b:Nat}{dps sps:List Nat}{dv sv cv v3 v5:Value}{q n p sp:Nat}{L:Lg}(h:LgIn A w b dps sps dv sv cv q n L)(hF:∀i g,A i g→F g)(hl:L.shs.length<3)(hlay:Lay w)
 (k2:za zq2 w w2) (hFU:∀g,FU g→w.heap.size≤g) (hsh:ShAt FU w2 sp p (sh0 16777216)) (a15:A15 A w2 w5 b dps sps dv sv cv v3 v5 q p sp L) :
 Calls Tryz.prog 89 #[.pointer (some ⟨sp,0,none⟩),.agg #[.int .i64 1,.int .i64 1,.int .i64 0,.slice none 0 0]] ((w5.setCell ⟨b,0,none⟩ v3).setCell ⟨b,1,none⟩ v5) fun r w'=>(∃n:Int,r = .returned (.tuple #[.int .i64 n,.nilIface]))∧zan F w b n { L with shs:=L.shs ++ [sh1 16777216] } w':=by
 have h2:=h.keep k2 (fun _ _ _ e=>e)
 have h10:10≤w.heap.size:=by have:=h.low 0 b h.mem.1;omega
 obtain⟨kW,bW,o3,o5⟩:=a15.put h2;obtain⟨hN,hNF⟩:=LgIn.add (F:=F) (w:=w) h2 hF (fun i g x=>(h.low i g x).2) k2.size h10 hsh hFU hl kW bW o3 o5 a15.own3 a15.own5 a15.ne
 have hs:(L.shs ++ [sh0 16777216])[L.shs.length]? = some (sh0 16777216):=by simp
 have hp:(sps ++ [sp])[L.shs.length]? = some sp:=by rw[←h.len.2];simp
 have hd:(dps ++ [p])[L.shs.length]? = some p:=by rw[←h.len.1];simp
 have kall:za F w ((w5.setCell ⟨b,0,none⟩ v3).setCell ⟨b,1,none⟩ v5):=k2.ofNon.trans kW (fun _ _ x=>x) (fun g hg x=>by
  rcases x with rfl|x|x
  ·exact hF _ _ h.mem.1
  ·exact hF _ _ (h.mem.2.2.1 _ x)
  ·exact hF _ _ (h.mem.2.2.2 _ x))
 have hmem5:=hN.sh L.shs.length _ sp p hs hp hd;have lay2:Lay ((w5.setCell ⟨b,0,none⟩ v3).setCell ⟨b,1,none⟩ v5):=(hlay.keepNon k2).keep kW (fun g hg x=>by
  rcases x with rfl|x|x
  ·have:=(h.low _ _ h.mem.1).1;omega
  ·have:=(h.low _ _ (h.mem.2.2.1 _ x)).1;omega
  ·have:=(h.low _ _ (h.mem.2.2.2 _ x)).1;omega)
 have AC:=zg4 zmD (by decide) 1 (by decide) (by decide) _ _ sp p trivial lay2 (fun g x=>(hN.low _ g x).1) hmem5
 refine AC.mono ?_;rintro r w' ⟨e,t⟩;refine⟨e,?_⟩;have T:=hN.unitTo (F:=fun g=>F g∨w.heap.size≤g) hNF hs hp hd t
 have e2:(L.shs ++ [sh0 16777216]).set L.shs.length (sh1 16777216)=L.shs ++ [sh1 16777216]:=by simp
 obtain⟨k',F',s',t'⟩:=T;refine⟨kall.trans k' (fun _ _ x=>x) (fun g hg x=>x.resolve_right (by omega)),F',fun g x=>?_,?_⟩
 ·rcases s' g x with (y|y)|y
  ·exact .inl y
  ·exact .inr y
  ·exact .inr (Nat.le_trans (Nat.le_trans k2.size kW.size) y)
 ·have e3:(sh0 16777216).did (zaE 1 1 0 []) 1 (sh0 16777216).l (sh0 16777216).D=sh1 16777216:=rfl
  simp only at t';rw[e3] at t';rw[e2] at t';exact t'
def lgS (L:Lg):Sh:=L.shs.headD (sh0 0)
def unitL (L:Lg)(a:Nat):Sh:=L.shs.getD (lastN L.shs.length a) (sh0 0)
def zbx (L:Lg)(a:Nat):Cl:=uat (unitL L a).l (unitL L a).D a
structure Log1 (L:Lg):Prop where
 kd:L.shs.length=1∨L.shs.length=3
 all:∀s ∈ L.shs,s.e=L.ep∧s.X.down=false
 se:L.se=L.ep
 next:L.next≤200
 cells:∀a,zcl (zbx L a)
theorem zoW {L:Lg}(h:L.shs = [lgS L])(a:Nat):unitL L a=lgS L:=by
 have e:lastN 1 a=0:=by unfold lastN;rw[zgC];rfl
 unfold unitL;rw[h];simp only[List.length_singleton,e]
 rfl
theorem zeq {L:Lg}(h:L.shs = [lgS L])(a:Nat):zbx L a=uat (lgS L).l (lgS L).D a:=by
 unfold zbx;rw[zoW h]
theorem Log1.home {L:Lg}(h:Log1 L)(a:Nat):(∃u,zci L.shs.length a = [u]∧L.shs[u]? = some (unitL L a))∨(∃v u,zci L.shs.length a = [v,u]∧L.shs[u]? = some (unitL L a)):=by
 have key:∀u,(zci L.shs.length a).getLastD 0=u→u<L.shs.length→L.shs[u]? = some (unitL L a):=fun u e hu=>by
  unfold unitL lastN;rw[e,List.getD_eq_getElem?_getD,List.getElem?_eq_getElem hu]
  rfl
 rcases h.kd with e|e
 ·left
  refine⟨0,by rw[e,zgC],key 0 (by rw[e,zgC];rfl) (by omega)⟩
 ·by_cases h2:a%2=0
  ·left
   refine⟨0,by rw[e,zgD,if_pos h2],key 0 (by rw[e,zgD,if_pos h2];rfl) (by omega)⟩
  ·right
   refine⟨1,2,by rw[e,zgD,if_neg h2],key 2 (by rw[e,zgD,if_neg h2];rfl) (by omega)⟩
theorem Log1.unit {L:Lg}(h:Log1 L)(a:Nat):(unitL L a).e=L.ep∧(unitL L a).X.down=false:=by
 rcases h.home a with ⟨u,_,e⟩|⟨v,u,_,e⟩
 ·exact h.all _ (List.mem_of_getElem? e)
 ·exact h.all _ (List.mem_of_getElem? e)
def zaF (L:Lg)(hi f:Nat):List Cl:=(List.range (min 64 (hi-f))).map (fun j=>zbx L (f+j))
theorem zbw (L:Lg)(hi f:Nat):(zaF L hi f).length=min 64 (hi-f):=by simp[zaF]
theorem zeA {L:Lg}{hi f j:Nat}(h:j<min 64 (hi-f)):(zaF L hi f)[j]? = some (zbx L (f+j)):=by
 unfold zaF;rw[List.getElem?_map,List.getElem?_range h]
 rfl
theorem zgY {L:Lg}(h:Log1 L){hi f:Nat}:∀x ∈ zaF L hi f,zcl x:=by
 intro x hx;unfold zaF at hx;obtain⟨j,_,rfl⟩:=List.mem_map.1 hx;exact h.cells _
theorem ziQ {L:Lg}{hi f:Nat}(h:f<hi):zaF L hi f≠[]:=by
 intro e;have:=zbw L hi f;rw[e] at this;simp at this;omega
def trimC:Nat→Nat→List Cl→Nat
 |t,_,[]=>t
 |t,f,x::r=>trimC (if x.1=3 then max t (f+1) else t) (f+1) r
theorem zjO:∀(l:List Cl)(t f m:Nat),t≤m→f+l.length≤m→trimC t f l≤m
 |[],t,f,m,h,_=>h
 |x::r,t,f,m,h,h2=>by
  simp at h2;refine zjO r _ (f+1) m ?_ (by omega)
  split
  ·omega
  ·exact h
def zaM (L:Lg)(c:Cu):Cu:=⟨c.lo,c.next+(zaF L c.hi c.next).length,c.hi,trimC c.trim c.next (zaF L c.hi c.next),c.parts ++ [zaI c.next (zaF L c.hi c.next)]⟩
theorem zfm {L:Lg}{c:Cu}(h:zdQ c)(hl:Log1 L)(hlt:c.next<c.hi)(hm:c.parts.length<64):zdQ (zaM L c):=by
 have hn:=zbw L c.hi c.next;have h1:=zli (cl:=zaF L c.hi c.next) h (ziQ hlt) (zgY hl) (by omega) (by omega) hm
 exact⟨h1.parts,h1.stop,h1.le,h1.hi,zjO _ _ _ _ h.trim (by have:=h.hi;omega),h1.many⟩
def zx:zqY:=[99,45,101,120,112,111,114,116]
theorem zal:zbg zx:=by
 refine⟨?_,by decide,by decide⟩
 unfold za5
 decide
def ExB (b lb:Nat)(c:Cu)(pv:Value)(ov:Bool):Obj:=.cells #[.pointer (some ⟨b,0,none⟩),.pointer (some ⟨lb,0,none⟩),.int .i64 c.lo,.int .i64 c.next,.int .i64 c.hi,.int .i64 c.trim,pv,.bool ov] 134 (0,0)
section
variable {w : World} {x b lb : Nat} {c : Cu} {pv : Value} {ov : Bool}
theorem ex_0 (h:w.heap[x]? = some (ExB b lb c pv ov)):w.cell? ⟨x,0,none⟩=some (.pointer (some ⟨b,0,none⟩)):=by simp[World.cell?,h,ExB]
theorem ex_1 (h:w.heap[x]? = some (ExB b lb c pv ov)):w.cell? ⟨x,1,none⟩=some (.pointer (some ⟨lb,0,none⟩)):=by simp[World.cell?,h,ExB]
theorem ex_2 (h:w.heap[x]? = some (ExB b lb c pv ov)):w.cell? ⟨x,2,none⟩=some (.int .i64 c.lo):=by simp[World.cell?,h,ExB]
theorem ex_3 (h:w.heap[x]? = some (ExB b lb c pv ov)):w.cell? ⟨x,3,none⟩=some (.int .i64 c.next):=by simp[World.cell?,h,ExB]
theorem ex_4 (h:w.heap[x]? = some (ExB b lb c pv ov)):w.cell? ⟨x,4,none⟩=some (.int .i64 c.hi):=by simp[World.cell?,h,ExB]
theorem ex_5 (h:w.heap[x]? = some (ExB b lb c pv ov)):w.cell? ⟨x,5,none⟩=some (.int .i64 c.trim):=by simp[World.cell?,h,ExB]
theorem ex_6 (h:w.heap[x]? = some (ExB b lb c pv ov)):w.cell? ⟨x,6,none⟩=some pv:=by simp[World.cell?,h,ExB]
theorem ex_7 (h:w.heap[x]? = some (ExB b lb c pv ov)):w.cell? ⟨x,7,none⟩=some (.bool ov):=by simp[World.cell?,h,ExB]
theorem ex_f (h:w.heap[x]? = some (ExB b lb c pv ov))(i:Nat):w.frozen? ⟨x,i,none⟩=false:=by simp[World.frozen?,h,ExB]
theorem zpr (h:w.heap[x]? = some (ExB b lb c pv ov))(n:Nat):(w.setCell ⟨x,2,none⟩ (.int .i64 n)).heap[x]? = some (ExB b lb { c with lo:=n } pv ov):=zj h 2 _
theorem zps (h:w.heap[x]? = some (ExB b lb c pv ov))(n:Nat):(w.setCell ⟨x,3,none⟩ (.int .i64 n)).heap[x]? = some (ExB b lb { c with next:=n } pv ov):=zj h 3 _
theorem zpt (h:w.heap[x]? = some (ExB b lb c pv ov))(n:Nat):(w.setCell ⟨x,4,none⟩ (.int .i64 n)).heap[x]? = some (ExB b lb { c with hi:=n } pv ov):=zj h 4 _
theorem zpu (h:w.heap[x]? = some (ExB b lb c pv ov))(n:Nat):(w.setCell ⟨x,5,none⟩ (.int .i64 n)).heap[x]? = some (ExB b lb { c with trim:=n } pv ov):=zj h 5 _
theorem zpv (h:w.heap[x]? = some (ExB b lb c pv ov))(v:Value):(w.setCell ⟨x,6,none⟩ v).heap[x]? = some (ExB b lb c v ov):=zj h 6 _
theorem zlA (h:w.heap[x]? = some (ExB b lb c pv ov))(k:Bool):(w.setCell ⟨x,7,none⟩ (.bool k)).heap[x]? = some (ExB b lb c pv k):=zj h 7 _
end
structure ExSt (F FL:Nat→Prop)(w:World)(x b lb q p:Nat)(lv:Value)(c:Cu)(pv:Value)(ov:Bool)(X:Dk)(L:Lg):Prop where
 ex:w.heap[x]? = some (ExB b lb c pv ov)
 row:w.ownsRow 0 125 35 pv c.parts.length (zaP c.parts)
 vt:w.heap[b]? = some (VtB q lv)
 st:zk F w q p X
 lg:zaH FL w lb L.shs.length L
 lay:Lay w
 out:¬F x∧¬F b∧x≠b∧¬FL x∧¬FL b∧10≤x∧10≤b
 apart:∀g,F g→¬FL g
 low:∀g,F g→10≤g∧g<w.heap.size
 lowL:∀g,FL g→g<w.heap.size
 pvo:∀g,pv.ownBlock=some g→¬F g∧g≠x∧g≠b∧¬FL g
theorem ExSt.keep {F FL S:Nat→Prop}{w w':World}{x b lb q p:Nat}{lv pv:Value}{c:Cu}{ov:Bool}{X:Dk}{L:Lg}(h:ExSt F FL w x b lb q p lv c pv ov X L)(k:za S w w')(hn:∀g,g<w.heap.size→¬S g):ExSt F FL w' x b lb q p lv c pv ov X L:=by
 have k':za zq2 w w':=k.mono (fun g hg e=>hn g hg e)
 exact⟨zh k' h.ex,zc h.row k' (fun _ _ e=>e),zh k' h.vt,h.st.keep k' (fun _ _ e=>e),h.lg.keepNon k',h.lay.keepNon k',h.out,h.apart,fun g x=>⟨(h.low g x).1,Nat.lt_of_lt_of_le (h.low g x).2 k'.size⟩,fun g x=>Nat.lt_of_lt_of_le (h.lowL g x) k'.size,h.pvo⟩
theorem ExSt.turn {F FL F':Nat→Prop}{w w':World}{x b lb q p:Nat}{lv pv pv':Value}{c c':Cu}{ov ov':Bool}{X X':Dk}{L:Lg}(h:ExSt F FL w x b lb q p lv c pv ov X L)(k:za (fun g=>F g∨g=x) w w')(sub:zq5 F' F w)(hlow:∀g,F' g→g<w'.heap.size)(st:zk F' w' q p X')(ex:w'.heap[x]? = some (ExB b lb c' pv' ov'))
 (row:w'.ownsRow 0 125 35 pv' c'.parts.length (zaP c'.parts)) (hpv:∀g,pv'.ownBlock=some g→¬F' g∧g≠x∧g≠b∧¬FL g):ExSt F' FL w' x b lb q p lv c' pv' ov' X' L:=by
 have hb:b<w.heap.size:=lt_of_block h.vt;have hx:x<w.heap.size:=lt_of_block h.ex;refine⟨ex,row,k.at h.vt (fun e=>?_),st,h.lg.keep k (fun g e s=>?_),h.lay.keep k (fun g e s=>?_),⟨fun e=>?_,fun e=>?_,h.out.2.2.1,h.out.2.2.2.1,h.out.2.2.2.2.1,h.out.2.2.2.2.2.1,h.out.2.2.2.2.2.2⟩,fun g e e2=>?_,fun g e=>⟨?_,hlow g e⟩,fun g e=>Nat.lt_of_lt_of_le (h.lowL g e) k.size,hpv⟩
 ·rcases e with e|e
  ·exact h.out.2.1 e
  ·exact h.out.2.2.1 e.symm
 ·rcases s with s|s
  ·exact h.apart g s e
  ·subst s;exact h.out.2.2.2.1 e
 ·rcases s with s|s
  ·have:=(h.low g s).1;omega
  ·have:=h.out.2.2.2.2.2.1;omega
 ·rcases sub x e with y|y
  ·exact h.out.1 y
  ·omega
 ·rcases sub b e with y|y
  ·exact h.out.2.1 y
  ·omega
 ·rcases sub g e with y|y
  ·exact h.apart g y e2
  ·have:=h.lowL g e2;omega
 ·rcases sub g e with y|y
  ·exact(h.low g y).1
  ·have:=(lt_of_block h.st.blk);have:=(h.low q h.st.inF).1;omega
theorem zdy (n i:Nat):zt n i≠zx:=by
 intro e;simp[zt,zx] at e
theorem zis (n i m:Nat):zt n i≠zw m:=by
 intro e;simp[zt,zw] at e
theorem zdw (m:Nat):zx≠zw m:=by
 intro e;simp[zx,zw] at e
theorem zfk {p:Pt}(h:okPt p):p.many<2^63∧p.size<2^63∧p.sum.length=32:=by
 obtain⟨h1,h2,h3,h4,h5⟩:=h;refine⟨?_,?_,h5⟩<;>omega
theorem zct:∀(l:List Pt)(a:Nat),okPts a l→∀p ∈ l,okPt p
 |[],_,_,p,hp=>by cases hp
 |q::r,a,h,p,hp=>by
  rcases List.mem_cons.1 hp with rfl|hp
  ·exact h.2.1
  ·exact zct r _ h.2.2 p hp
theorem zdQ.p32 {c:Cu}(h:zdQ c):zbI c.parts:=fun p hp=>(zct _ _ h.parts p hp).2.2.2.2
theorem zcC {c:Cu}(h:zdQ c):(zco c).length≤3300:=zqB h (fun p hp=>zfk (zct _ _ h.parts p hp))
theorem zec (L:Lg)(hi f:Nat):(zaF L hi f).length≤64:=by rw[zbw];omega
theorem zox {L:Lg}(h:Log1 L)(hi f:Nat)(hf:f≤1048576):(zaC f (zaF L hi f)).length≤6207:=zeb (zgY h) (zec _ _ _) hf
section
variable {L : Lg} {X : Dk} {c : Cu}
theorem zqM {m:Mf}(hm:okMf m)(h64:m.parts.length≤64)(hn:m.num≤1048576)(h1:m.lo≤1048576)(h2:m.hi≤1048576)(h3:m.trim≤1048576)(hp:∀p ∈ m.parts,p.many<2^63∧p.size<2^63∧p.sum.length=32):(zb2 m).length≤3400:=by
 have l1:=zdk m.parts hp;have a1:=za0 (n:=m.num) (by omega)
 have a2:=za0 (n:=m.lo) (by omega)
 have a3:=za0 (n:=m.hi) (by omega)
 have a4:=za0 (n:=m.trim) (by omega)
 have a5:=za0 (n:=m.parts.length) (by omega)
 have hpr:=hm.prev;have h8:(mfT m).length≤3380:=by
  unfold mfT;simp only[List.length_append];omega
 have h9:=zdM (t:=mfT m) (by omega)
 exact Nat.le_trans h9 (by omega)
end
def SgZ:Obj:=.cells #[.int .i64 0,.slice none 0 0] 263 (0,0)
structure RdLp (W0:World)(sb f:Nat)(cl:List Cl)(j:Nat)(ov:Value)(W:World):Prop where
 bx:W.heap[sb]? = some (SgB f ov)
 row:∃xs,W.ownsRow W0.heap.size 45 2 ov j xs∧zG W0.heap.size (fun g=>g=sb∨ov.ownBlock=some g) W xs (cl.take j)
 kp:za (zq3 sb) W0 W
theorem zmp {W0 wr w2 w5:World}{sb f j n oc c2:Nat}{oa a2:Option Addr}{cl:List Cl}{x:Cl}{v5:Value}{xs:List Value}{o1 o2:Obj}(hb:wr.heap[sb]? = some (SgB f (.slice oa j oc)))(hrow:wr.ownsRow W0.heap.size 45 2 (.slice oa j oc) j xs)(hcs:zG W0.heap.size (fun g=>g=sb∨(Value.slice oa j oc).ownBlock=some g) wr xs (cl.take j))(kp:za (zq3 sb) W0 wr)(hsb:sb<W0.heap.size)(hx:cl[j]? = some x)
 (k2:za zq2 wr w2) (r2:w2.ownsRow wr.heap.size 5 1 (.slice a2 n c2) x.2.length (x.2.map bv)) (ho:w5.ownsRow W0.heap.size 45 2 v5 (j+1) (xs ++ [.int .i64 x.1,.slice a2 n c2])) (hg:((w2.alloc o1).alloc o2).grownBy w5 (Value.slice oa j oc).ownBlock) (hpp:v5.ownBlock=(Value.slice oa j oc).ownBlock∨v5.ownBlock=some ((w2.alloc o1).alloc o2).heap.size) :
 RdLp W0 sb f cl (j+1) v5 (w5.setCell ⟨sb,1,none⟩ v5)∧w5.heap[sb]? = some (SgB f (.slice oa j oc)):=by
 have ka:za zq2 w2 ((w2.alloc o1).alloc o2):=((za.refl _ _).alloc _).alloc _;have kg:za (fun g=>(Value.slice oa j oc).ownBlock=some g) ((w2.alloc o1).alloc o2) w5:=(za.refl _ _).grown hg (fun k e=>.inl e)
 have kb:za (zq3 sb) w5 (w5.setCell ⟨sb,1,none⟩ v5):=(za.refl _ _).setOne _ _;have k4:=k2.trans1 ka;have lo:∀g,(Value.slice oa j oc).ownBlock=some g→W0.heap.size≤g∧g<wr.heap.size:=fun g e=>hrow.lt g e
 have s0:=kp.size;have s2:=k2.size;have s4:=k4.size;have sa:((w2.alloc o1).alloc o2).heap.size=w2.heap.size+2:=by simp
 have b5:w5.heap[sb]? = some (SgB f (.slice oa j oc)):=kg.at (zh k4 hb) (fun e=>by have:=(lo sb e).1;omega)
 have vlo:∀g,v5.ownBlock=some g→W0.heap.size≤g:=fun g e=>(ho.lt g e).1
 refine⟨⟨zc4 b5 v5,⟨_,zc ho kb (fun g e e2=>by have e':g=sb:=e2;have:=vlo g e;omega),?_⟩,(kp.trans1 k4.ofNon).trans (kg.trans kb (U:=fun g=>(Value.slice oa j oc).ownBlock=some g∨g=sb) (fun _ _ x=>.inl x) (fun _ _ x=>.inr x)) (fun _ _ x=>x) (fun g hg' x=>by
  rcases x with x|x
  ·have:=(lo g x).1;omega
  ·exact x)⟩,b5⟩
 have et:cl.take (j+1)=cl.take j ++ [x]:=by rw[List.take_add_one,hx];rfl
 rw[et];refine zG.keep (S:=fun g=>g=sb∨v5.ownBlock=some g) ?_ kb (fun g _ e=>.inl e) (fun g _ e=>e)
 refine zG.append ?_ ?_
 ·refine((hcs.keep (S':=fun g=>g=sb∨(Value.slice oa j oc).ownBlock=some g) k4 (fun _ _ e=>e.elim) (fun _ _ e=>e)).keep kg (fun g _ e=>.inr e) ?_)
  rintro g hg' (e|e)
  ·exact .inl e
  ·rcases hpp with e3|e3
   ·exact .inr (by rw[←e3,e])
   ·rw[e3] at e;injection e with e;omega
 ·refine⟨rfl,fun i y hy=>?_⟩
  cases i with
  |succ i=>simp at hy
  |zero =>
   simp at hy;subst hy;have own2:∀g,(Value.slice a2 n c2).ownBlock=some g→wr.heap.size≤g∧g<w2.heap.size:=fun g e=>r2.lt g e
   have nk:∀g,(Value.slice a2 n c2).ownBlock=some g→¬((Value.slice oa j oc).ownBlock=some g):=fun g e e2=>by have:=own2 g e;have:=lo g e2;omega
   refine⟨.slice a2 n c2,rfl,rfl,((Rd.ofOwns r2).keepNon ka).keep kg (fun g e=>nk g e),zdA r2,fun g e=>?_⟩
   have h1:=own2 g e;have h5:g<w5.heap.size:=kg.lt (ka.lt h1.2);refine⟨by omega,h5,?_⟩
   rintro(e2|e2)
   ·omega
   ·rcases hpp with e3|e3
    ·rw[e3] at e2;exact nk g e e2
    ·rw[e3] at e2;injection e2 with e2;omega
theorem zmY {w:World}{g:Nat}{k:Int}{v:Value}{t:TypeId}(h:w.heap[g]? = some (.cells #[.int .i64 k,v] t (0,0))):∀(j:Nat) u,[Value.int .i64 k,v][j]? = some u→w.cell? ((⟨g,0,none⟩:Addr).add j)=some u:=by
 intro j u hu;rw[zag,Nat.zero_add];simp only[World.cell?,h];simpa using hu
theorem zjU {FL:Nat→Prop}{x b lb:Nat}{c:Cu}{pv:Value}{ov:Bool}{L:Lg}(w:World)(hx:w.heap[x]? = some (ExB b lb c pv ov))(hl:zaH FL w lb L.shs.length L)(h1:Log1 L)(hlt:c.next<c.hi)(hhi:c.hi≤1048576) :
 Calls Tryz.prog 183 #[.pointer (some ⟨x,0,none⟩)] w fun e w'=>∃v',e = .returned (.tuple #[.agg #[.int .i64 c.next,v'],.nilIface])∧za zq2 w w'∧∃xs,w'.ownsRow w.heap.size 45 2 v' (zaF L c.hi c.next).length xs∧zG w.heap.size zq2 w' xs (zaF L c.hi c.next):=by
 have RD:Hid (∀W (a:Nat),za zq2 w W→a≤1048575→Calls Tryz.prog 11 #[.pointer (some ⟨lb,0,none⟩),.int .i64 a] W fun r w'=>∃v,r = .returned (.tuple #[.agg #[.int .i64 (zbx L a).1,v],.nilIface])∧za zq2 W w'∧w'.ownsRow W.heap.size 5 1 v (zbx L a).2.length ((zbx L a).2.map bv)):=zz0 (fun W a k ha=>by
  have hpos:0<L.shs.length:=by have:=h1.kd;omega
  obtain⟨he,hup⟩:=h1.unit a;have hx0:(uat (unitL L a).l (unitL L a).D a).2.length≤100000000:=by have:=(h1.cells a).2.2.1;unfold zbx at this;omega
  rcases h1.home a with ⟨u,hu,hs⟩|⟨v,u,hu,hs⟩
  ·exact zdN W (hl.keepNon k) hpos hu hs he hup ha hx0
  ·exact zf1 W (hl.keepNon k) hpos hu hs he hup ha hx0)
 have XB:Hid (∀W,za zq2 w W→W.heap[x]? = some (ExB b lb c pv ov)):=zz0 (fun W k=>zh k hx)
 have hn:=zbw L c.hi c.next;have hwb:x<w.heap.size:=lt_of_block hx;generalize hcl:zaF L c.hi c.next=cl at hn ⊢;have GT:Hid (∀j,j<cl.length→cl[j]? = some (zbx L (c.next+j))):=zz0 (fun j hj=>by rw[←hcl];exact zeA (by omega))
 obtain⟨i0,hi0,hz0,hz1,hz2⟩:=info_parts infoCell;have I0:=zz0 (And.intro hi0 (And.intro hz0 (And.intro hz1 hz2)));have K2:Hid (za zq2 w (w.alloc SgZ)):=zz0 ((za.refl _ _).alloc _);have e1:=ex_0 (XB.out _ K2.out);have e3:=ex_3 (XB.out _ K2.out);have K3:Hid (za zq2 w ((w.alloc SgZ).alloc (SgB c.next (.slice none 0 0)))):=zz0 (((za.refl _ _).alloc _).alloc _);have e3':=ex_3 (XB.out _ K3.out);have S3:=zz0 (zaa w SgZ (SgB c.next (.slice none 0 0)));have R3:=zz0 (zh ((za.refl zq2 _).alloc (SgB c.next (.slice none 0 0))) (ze w SgZ));have Z3:Hid (((w.alloc SgZ).alloc (SgB c.next (.slice none 0 0))).heap.size=w.heap.size+2):=zz0 (by simp)
 dsimp only[SgB,SgZ] at e1 e3 e3';clear hx hl h1 hi0 hz0 hz1 hz2 hcl
 go_enter Tryz.func183,Tryz.ntmps183
 go_wp2_with fail
 clear e1 e3 e3';obtain⟨W0,hW0⟩:∃W0,W0=(w.alloc SgZ).alloc (SgB c.next (.slice none 0 0)):=⟨_,rfl⟩;rw[←hW0] at K3 S3 R3 Z3;unfold SgZ SgB at hW0;rw[←hW0];clear hW0
 go_loopw [5] (fun i wr=>∃j:Nat,j≤cl.length∧i = .int .i64 (c.next+j:Nat)∧∃ov,RdLp W0 (w.heap.size+1) c.next cl j ov wr) (fun i _=>c.next+cl.length-(intOf i).toNat)
 case atStart=>exact⟨0,by omega,rfl,_,S3.out,⟨[],World.ownsRow_nil _ _ _ _,by simpa using zG.nil _ _ _⟩,za.refl _ _⟩
 case round =>
  obtain⟨j,hj,rfl,ov,lp⟩:=hrel;obtain⟨bx,⟨xs,row,cs⟩,kp⟩:=lp;obtain⟨oa,oc,rfl,_,_⟩:=zb row;have kw:za zq2 w wr:=K3.out.trans kp (fun _ _ e=>e) (fun g hg e=>by have e':g=w.heap.size+1:=e;omega)
  have x1:=ex_1 (XB.out _ kw);have x3:=ex_3 (XB.out _ kw);have x4:=ex_4 (XB.out _ kw);have KW:=zz0 kw;have BX:=zz0 bx;have ROW:=zz0 row;have CS:=zz0 cs;have KP:=zz0 kp;clear kw bx row cs kp;have hwr:IntKind.wrap .i64 ((c.next:Int)+64)=(c.next:Int)+64:=IntWalk.i64_in _ (by omega)
  have kd:za zq2 wr wr.drew:=(za.refl _ _).drew;have BD:Hid (wr.drew.heap[w.heap.size+1]? = some (SgB c.next (.slice oa j oc))):=zz0 BX.out;have RWD:Hid (wr.drew.ownsRow W0.heap.size 45 2 (.slice oa j oc) j xs):=zz0 (zc ROW.out kd (fun _ _ e=>e))
  have CSD:Hid (zG W0.heap.size (fun g=>g=w.heap.size+1∨(Value.slice oa j oc).ownBlock=some g) wr.drew xs (cl.take j)):=zz0 (CS.out.keep kd (fun _ _ e=>e.elim) (fun _ _ e=>e))
  have KPD:Hid (za (zq3 (w.heap.size+1)) W0 wr.drew):=zz0 KP.out.drew;have KWD:Hid (za zq2 w wr.drew):=zz0 KW.out.drew;have y1:=ex_1 (XB.out _ KWD.out);clear kd;by_cases hlt2:j<cl.length
  ·have hj2:(c.next:Int)+j<c.hi:=by omega
   have hj3:(c.next:Int)+j<min ((c.next:Int)+64) c.hi:=by omega
   have RDJ:=zz0 (RD.out wr.drew (c.next+j) KWD.out (by omega))
   have hcj:=zz0 (GT.out j hlt2);generalize zbx L (c.next+j)=y at RDJ hcj;rw[Int.natCast_add] at RDJ
   go_wp2_with fail
   go_region_law(fail)
   all_goals
    obtain⟨wd,hwd⟩:∃wd,wd=wr.drew:=⟨_,rfl⟩;rw[←hwd] at BD RWD CSD KPD KWD y1 RDJ ⊢;clear hwd x1 x3 x4 BX ROW CS KP KW
    go_wp2_with(first
     |(go_at_call 11;((with_reducible refine RDJ.out.mono ?_);rintro e w2 ⟨v2,rfl,k2,o2⟩);obtain⟨a2,c2,rfl,_,_⟩:=zb o2;have b4:=zh (((za.refl zq2 w2).alloc (.cells #[.int .i64 y.1,.slice a2 y.2.length c2] 45)).alloc (.cells #[.int .i64 y.1,.slice a2 y.2.length c2] 45)) (zh k2 BD.out);have b3:=zh ((za.refl zq2 w2).alloc (.cells #[.int .i64 y.1,.slice a2 y.2.length c2] 45)) (zh k2 BD.out);have d1:=sg_1 b4;have d1':=sg_1 b3;have K2:=zz0 k2;have O2:=zz0 o2;have N4:=zz0 (zaa w2 (.cells #[.int .i64 y.1,.slice a2 y.2.length c2] 45 (0,0)) (.cells #[.int .i64 y.1,.slice a2 y.2.length c2] 45 (0,0)));clear k2 o2 b4 b3)
     |(at_builtin;refine zv rfl _ _ 22 rfl W0.heap.size 45 i0 _ 2 32 Tryz.underlying22 I0.out.1 I0.out.2.1 I0.out.2.2.1 I0.out.2.2.2 rfl (by decide) (.slice oa j oc) j xs rfl (zc RWD.out (K2.out.trans1 (((za.refl zq2 w2).alloc _).alloc _)) (fun _ _ e=>e)) ⟨w2.heap.size+1,0,none⟩ 1 1 [.int .i64 y.1,.slice a2 y.2.length c2] rfl rfl (by exact zmY N4.out) (by intro u hu;simp at hu;rcases hu with rfl|rfl<;>rfl) (by unfold maxLen;omega) (by omega) (by have:=KPD.out.size;have:=K2.out.size;simp;omega) ?_;intro v5 w5 ho hg hpp;obtain⟨a5,c5,rfl,_,_⟩:=zb ho;obtain⟨nx,b5⟩:=zmp BD.out RWD.out CSD.out KPD.out (by have:=Z3.out;omega) hcj.out K2.out O2.out ho hg hpp;have f5:=sg_f b5 1;have g5:=sg_1 b5;have NX:=zz0 nx;clear ho hg hpp nx b5))
   all_goals exact⟨⟨j+1,by omega,by first|rfl|go_num|(congr 1;omega),_,NX.out⟩,by simp[intOf];omega⟩
  ·obtain rfl:j=cl.length:=by omega
   have hj3:¬(c.next:Int)+(cl.length:Int)<min ((c.next:Int)+64) c.hi:=by omega
   have HN:=zz0 hn;clear hn hlt2;have r3:wr.drew.heap[w.heap.size]? = some (SgB 0 (.slice none 0 0)):=KPD.out.at R3.out (fun e=>by have e':w.heap.size=w.heap.size+1:=e;omega)
   have RB:=zz0 r3;have rf0:=sg_f r3 0;have rf1:=sg_f r3 1;have rc0:=sg_0 r3;have rc1:=sg_1 r3;have rx0:=sg_0 (zcj r3 c.next);have d0:=sg_0 BD.out;have d1:=sg_1 BD.out;clear r3
   go_wp2_with fail
   go_region_law(fail)
   all_goals
    obtain⟨wd,hwd⟩:∃wd,wd=wr.drew:=⟨_,rfl⟩;rw[←hwd] at BD RWD CSD KPD KWD rf0 rf1 rc0 rc1 rx0 d0 d1 RB ⊢;clear hwd x1 x3 x4 BX ROW CS KP KW
    go_wp2_with fail
   all_goals
    have s0:=sg_0 (zc4 (zcj RB.out c.next) (.slice oa cl.length oc));have s1:=sg_1 (zc4 (zcj RB.out c.next) (.slice oa cl.length oc));refine bodyPost_ret (v:=.tuple #[.agg #[.int .i64 c.next,.slice oa cl.length oc],.nilIface]) (by simp[results,Tryz.results183,go_sem,s0,s1]) rfl ?_
    have kf:za (zq3 w.heap.size) wd ((wd.setCell ⟨w.heap.size,0,none⟩ (.int .i64 c.next)).setCell ⟨w.heap.size,1,none⟩ (.slice oa cl.length oc)):=((za.refl _ _).setOne _ _).setOne _ _;have z3:=Z3.out;have cs:=CSD.out;rw[List.take_length] at cs;refine⟨_,rfl,KWD.out.trans kf (fun _ _ e=>e) (fun g hg e=>by have e':g=w.heap.size:=e;omega),xs,zg (zc RWD.out kf (fun g e e2=>by have e':g=w.heap.size:=e2;have:=(RWD.out.lt g e).1;omega)) (by omega),(cs.keep (S':=zq2) kf (fun g hg e=>by have e':g=w.heap.size:=e;omega) (fun _ _ e=>e.elim)).low (by omega) (fun _ e=>e)⟩
end Go.Proofs.YtpojgmeoaflmoaaGreatDoor
