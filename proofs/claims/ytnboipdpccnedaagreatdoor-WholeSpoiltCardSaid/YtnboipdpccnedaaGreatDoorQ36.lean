/- A cursor stays one, a part farther. · Exports: their blocks, what they read, what a step makes of them (plain). · (*Export).read: walked. · Exports on -/
import Derived.Test.YtnboipdpccnedaaGreatDoorQ34
set_option linter.unusedVariables false
set_option maxRecDepth 100000
set_option maxHeartbeats 16000000
namespace Go.Proofs.YtnboipdpccnedaaGreatDoor
open Go.RowKit
theorem zfa:∀ (l:List Pt) (a:Nat) (p:Pt),okPts a l→p.first=endPts a l→okPt p→okPts a (l ++ [p])
  | [],a,p,_,h,hp=>⟨h,hp,trivial⟩
  | q :: r,a,p,h,h2,hp=>⟨h.1,h.2.1,zfa r (a+q.many) p h.2.2 h2 hp⟩
theorem zd3:∀ (l:List Pt) (a:Nat) (p:Pt),endPts a (l ++ [p])=endPts a l+p.many
  | [],a,p=>rfl
  | q :: r,a,p=>zd3 r (a+q.many) p
theorem zoL {f:Nat} {cl:List Cl} (hne:cl≠[]) (h:∀ x ∈ cl,okCl x) (hl:cl.length≤64) (hf:f≤1048576):okPt (ptOf f cl):=by
  have h1:=zcC h hl hf
  have h2:=List.length_pos_iff.2 hne
  have h3:1≤(segB f cl).length:=by
    unfold segB frameB sealB
    rw [List.length_append,zba]
    omega
  exact ⟨h2,hl,h3,Nat.le_trans h1 (by decide),zal _⟩
theorem zjP {c:Cu} {cl:List Cl} (h:okCu c) (hne:cl≠[]) (hok:∀ x ∈ cl,okCl x) (hl:cl.length≤64) (hs:c.next+cl.length≤c.hi) (hm:c.parts.length < 64):okCu (cuStep c (ptOf c.next cl)):=by
  have hn:c.next≤1048576:=by have:=h.le;have:=h.hi;omega
  refine ⟨zfa _ _ _ h.parts h.stop.symm (zoL hne hok hl hn),?_,hs,h.hi,h.trim,?_⟩
  · show endPts c.lo (c.parts ++ [ptOf c.next cl])=_
    rw [zd3,h.stop]
    rfl
  · show (c.parts ++ [ptOf c.next cl]).length≤64
    simp
    omega
end Go.Proofs.YtnboipdpccnedaaGreatDoor
namespace Go.Proofs.YtnboipdpccnedaaGreatDoor
open Go.RowKit Go.Maps
def lgS (L:Lg):Sh:=L.shs.headD (sh0 0)
def unitL (L:Lg) (a:Nat):Sh:=L.shs.getD (lastN L.shs.length a) (sh0 0)
def cellL (L:Lg) (a:Nat):Cl:=uat (unitL L a).l (unitL L a).D a
structure Log1 (L:Lg):Prop where
  kd:L.shs.length=1∨L.shs.length=3
  all:∀ s ∈ L.shs,s.e=L.ep∧s.X.down=false
  se:L.se=L.ep
  next:L.next≤200
  cells:∀ a,okCl (cellL L a)
theorem zns {L:Lg} (h:L.shs = [lgS L]) (a:Nat):unitL L a=lgS L:=by
  have e:lastN 1 a=0:=by unfold lastN;rw [zfA];rfl
  unfold unitL
  rw [h]
  simp only [List.length_singleton,e]
  rfl
theorem zhQ {L:Lg} (h:L.shs = [lgS L]) (a:Nat):cellL L a=uat (lgS L).l (lgS L).D a:=by
  unfold cellL
  rw [zns h]
theorem Log1.home {L:Lg} (h:Log1 L) (a:Nat):(∃ u,homeN L.shs.length a = [u]∧L.shs[u]? = some (unitL L a))∨(∃ v u,homeN L.shs.length a = [v,u]∧L.shs[u]? = some (unitL L a)):=by
  have key:∀ u,(homeN L.shs.length a).getLastD 0=u→u < L.shs.length→L.shs[u]? = some (unitL L a):=fun u e hu=>by
    unfold unitL lastN
    rw [e,List.getD_eq_getElem?_getD,List.getElem?_eq_getElem hu]
    rfl
  rcases h.kd with e | e
  · left
    refine ⟨0,by rw [e,zfA],key 0 (by rw [e,zfA];rfl) (by omega)⟩
  · by_cases h2:a % 2=0
    · left
      refine ⟨0,by rw [e,zfB,if_pos h2],key 0 (by rw [e,zfB,if_pos h2];rfl) (by omega)⟩
    · right
      refine ⟨1,2,by rw [e,zfB,if_neg h2],key 2 (by rw [e,zfB,if_neg h2];rfl) (by omega)⟩
theorem Log1.unit {L:Lg} (h:Log1 L) (a:Nat):(unitL L a).e=L.ep∧(unitL L a).X.down=false:=by
  rcases h.home a with ⟨u,_,e⟩ | ⟨v,u,_,e⟩
  · exact h.all _ (List.mem_of_getElem? e)
  · exact h.all _ (List.mem_of_getElem? e)
def slabL (L:Lg) (hi f:Nat):List Cl:=(List.range (min 64 (hi - f))).map (fun j=>cellL L (f+j))
theorem zbU (L:Lg) (hi f:Nat):(slabL L hi f).length=min 64 (hi - f):=by simp [slabL]
theorem znd {L:Lg} {hi f j:Nat} (h:j < min 64 (hi - f)):(slabL L hi f)[j]? = some (cellL L (f+j)):=by
  unfold slabL
  rw [List.getElem?_map,List.getElem?_range h]
  rfl
theorem zfQ {L:Lg} (h:Log1 L) {hi f:Nat}:∀ x ∈ slabL L hi f,okCl x:=by
  intro x hx
  unfold slabL at hx
  obtain ⟨j,_,rfl⟩:=List.mem_map.1 hx
  exact h.cells _
theorem zhq {L:Lg} {hi f:Nat} (h:f < hi):slabL L hi f≠[]:=by
  intro e
  have:=zbU L hi f
  rw [e] at this
  simp at this
  omega
def trimC:Nat→Nat→List Cl→Nat
  | t,_,[]=>t
  | t,f,x :: r=>trimC (if x.1=3 then max t (f+1) else t) (f+1) r
theorem zir:∀ (l:List Cl) (t f m:Nat),t≤m→f+l.length≤m→trimC t f l≤m
  | [],t,f,m,h,_=>h
  | x :: r,t,f,m,h,h2=>by
    simp at h2
    refine zir r _ (f+1) m ?_ (by omega)
    split
    · omega
    · exact h
theorem zdh:∀ (l:List Cl) (t f:Nat),(∀ x ∈ l,x.1≠3)→trimC t f l=t
  | [],t,f,_=>rfl
  | x :: r,t,f,h=>by
    show trimC _ (f+1) r=t
    rw [if_neg (h x (by simp))]
    exact zdh r t (f+1) (fun y hy=>h y (by simp [hy]))
def partCu (L:Lg) (c:Cu):Cu:=⟨c.lo,c.next+(slabL L c.hi c.next).length,c.hi,trimC c.trim c.next (slabL L c.hi c.next),c.parts ++ [ptOf c.next (slabL L c.hi c.next)]⟩
theorem zgn {L:Lg} {c:Cu} (h:okCu c) (hl:Log1 L) (hlt:c.next < c.hi) (hm:c.parts.length < 64):okCu (partCu L c):=by
  have hn:=zbU L c.hi c.next
  have h1:=zjP (cl:=slabL L c.hi c.next) h (zhq hlt) (zfQ hl) (by omega) (by omega) hm
  exact ⟨h1.parts,h1.stop,h1.le,h1.hi,zir _ _ _ _ h.trim (by have:=h.hi;omega),h1.many⟩
def cname:Byt:=[99,45,101,120,112,111,114,116]
theorem zbf:okObj cname:=by
  refine ⟨?_,by decide,by decide⟩
  unfold okName
  decide
def ExB (b lb:Nat) (c:Cu) (pv:Value) (ov:Bool):Obj:=.cells #[.pointer (some ⟨b,0,none⟩),.pointer (some ⟨lb,0,none⟩),.int .i64 c.lo,.int .i64 c.next,.int .i64 c.hi,.int .i64 c.trim,pv,.bool ov] 146 (0,0)
section
variable {w : World} {x b lb : Nat} {c : Cu} {pv : Value} {ov : Bool}
theorem ex_0 (h:w.heap[x]? = some (ExB b lb c pv ov)):w.cell? ⟨x,0,none⟩=some (.pointer (some ⟨b,0,none⟩)):=by simp [World.cell?,h,ExB]
theorem ex_1 (h:w.heap[x]? = some (ExB b lb c pv ov)):w.cell? ⟨x,1,none⟩=some (.pointer (some ⟨lb,0,none⟩)):=by simp [World.cell?,h,ExB]
theorem ex_2 (h:w.heap[x]? = some (ExB b lb c pv ov)):w.cell? ⟨x,2,none⟩=some (.int .i64 c.lo):=by simp [World.cell?,h,ExB]
theorem ex_3 (h:w.heap[x]? = some (ExB b lb c pv ov)):w.cell? ⟨x,3,none⟩=some (.int .i64 c.next):=by simp [World.cell?,h,ExB]
theorem ex_4 (h:w.heap[x]? = some (ExB b lb c pv ov)):w.cell? ⟨x,4,none⟩=some (.int .i64 c.hi):=by simp [World.cell?,h,ExB]
theorem ex_5 (h:w.heap[x]? = some (ExB b lb c pv ov)):w.cell? ⟨x,5,none⟩=some (.int .i64 c.trim):=by simp [World.cell?,h,ExB]
theorem ex_6 (h:w.heap[x]? = some (ExB b lb c pv ov)):w.cell? ⟨x,6,none⟩=some pv:=by simp [World.cell?,h,ExB]
theorem ex_7 (h:w.heap[x]? = some (ExB b lb c pv ov)):w.cell? ⟨x,7,none⟩=some (.bool ov):=by simp [World.cell?,h,ExB]
theorem ex_f (h:w.heap[x]? = some (ExB b lb c pv ov)) (i:Nat):w.frozen? ⟨x,i,none⟩=false:=by simp [World.frozen?,h,ExB]
theorem zod (h:w.heap[x]? = some (ExB b lb c pv ov)) (n:Nat):(w.setCell ⟨x,2,none⟩ (.int .i64 n)).heap[x]? = some (ExB b lb { c with lo:=n } pv ov):=zaf h 2 _
theorem zoe (h:w.heap[x]? = some (ExB b lb c pv ov)) (n:Nat):(w.setCell ⟨x,3,none⟩ (.int .i64 n)).heap[x]? = some (ExB b lb { c with next:=n } pv ov):=zaf h 3 _
theorem zof (h:w.heap[x]? = some (ExB b lb c pv ov)) (n:Nat):(w.setCell ⟨x,4,none⟩ (.int .i64 n)).heap[x]? = some (ExB b lb { c with hi:=n } pv ov):=zaf h 4 _
theorem zog (h:w.heap[x]? = some (ExB b lb c pv ov)) (n:Nat):(w.setCell ⟨x,5,none⟩ (.int .i64 n)).heap[x]? = some (ExB b lb { c with trim:=n } pv ov):=zaf h 5 _
theorem zoh (h:w.heap[x]? = some (ExB b lb c pv ov)) (v:Value):(w.setCell ⟨x,6,none⟩ v).heap[x]? = some (ExB b lb c v ov):=zaf h 6 _
theorem zka (h:w.heap[x]? = some (ExB b lb c pv ov)) (k:Bool):(w.setCell ⟨x,7,none⟩ (.bool k)).heap[x]? = some (ExB b lb c pv k):=zaf h 7 _
end
structure ExSt (F FL:Nat→Prop) (w:World) (x b lb q p:Nat) (lv:Value) (c:Cu) (pv:Value) (ov:Bool) (X:Dk) (L:Lg):Prop where
  ex:w.heap[x]? = some (ExB b lb c pv ov)
  row:w.ownsRow 0 106 35 pv c.parts.length (ptsC c.parts)
  vt:w.heap[b]? = some (VtB q lv)
  st:StoreAt F w q p X
  lg:LgAt FL w lb L.shs.length L
  lay:Lay w
  out:¬ F x∧¬ F b∧x≠b∧¬ FL x∧¬ FL b∧10≤x∧10≤b
  apart:∀ g,F g→¬ FL g
  low:∀ g,F g→10≤g∧g < w.heap.size
  lowL:∀ g,FL g→g < w.heap.size
  pvo:∀ g,pv.ownBlock=some g→¬ F g∧g≠x∧g≠b∧¬ FL g
theorem ExSt.keep {F FL S:Nat→Prop} {w w':World} {x b lb q p:Nat} {lv pv:Value} {c:Cu} {ov:Bool} {X:Dk} {L:Lg} (h:ExSt F FL w x b lb q p lv c pv ov X L) (k:Keep S w w') (hn:∀ g,g < w.heap.size→¬ S g):ExSt F FL w' x b lb q p lv c pv ov X L:=by
  have k':Keep Non w w':=k.mono (fun g hg e=>hn g hg e)
  exact ⟨nonAt k' h.ex,zac h.row k' (fun _ _ e=>e),nonAt k' h.vt,h.st.keep k' (fun _ _ e=>e),h.lg.keepNon k',h.lay.keepNon k',h.out,h.apart,fun g x=>⟨(h.low g x).1,Nat.lt_of_lt_of_le (h.low g x).2 k'.size⟩,fun g x=>Nat.lt_of_lt_of_le (h.lowL g x) k'.size,h.pvo⟩
theorem ExSt.turn {F FL F':Nat→Prop} {w w':World} {x b lb q p:Nat} {lv pv pv':Value} {c c':Cu} {ov ov':Bool} {X X':Dk} {L:Lg} (h:ExSt F FL w x b lb q p lv c pv ov X L) (k:Keep (fun g=>F g∨g=x) w w') (sub:Sub F' F w) (hlow:∀ g,F' g→g < w'.heap.size) (st:StoreAt F' w' q p X') (ex:w'.heap[x]? = some (ExB b lb c' pv' ov'))
    (row:w'.ownsRow 0 106 35 pv' c'.parts.length (ptsC c'.parts)) (hpv:∀ g,pv'.ownBlock=some g→¬ F' g∧g≠x∧g≠b∧¬ FL g):ExSt F' FL w' x b lb q p lv c' pv' ov' X' L:=by
  have hb:b < w.heap.size:=lt_of_block h.vt
  have hx:x < w.heap.size:=lt_of_block h.ex
  refine ⟨ex,row,k.at h.vt (fun e=>?_),st,h.lg.keep k (fun g e s=>?_),h.lay.keep k (fun g e s=>?_),⟨fun e=>?_,fun e=>?_,h.out.2.2.1,h.out.2.2.2.1,h.out.2.2.2.2.1,h.out.2.2.2.2.2.1,h.out.2.2.2.2.2.2⟩,fun g e e2=>?_,fun g e=>⟨?_,hlow g e⟩,fun g e=>Nat.lt_of_lt_of_le (h.lowL g e) k.size,hpv⟩
  · rcases e with e | e
    · exact h.out.2.1 e
    · exact h.out.2.2.1 e.symm
  · rcases s with s | s
    · exact h.apart g s e
    · subst s;exact h.out.2.2.2.1 e
  · rcases s with s | s
    · have:=(h.low g s).1;omega
    · have:=h.out.2.2.2.2.2.1;omega
  · rcases sub x e with y | y
    · exact h.out.1 y
    · omega
  · rcases sub b e with y | y
    · exact h.out.2.1 y
    · omega
  · rcases sub g e with y | y
    · exact h.apart g y e2
    · have:=h.lowL g e2;omega
  · rcases sub g e with y | y
    · exact (h.low g y).1
    · have:=(lt_of_block h.st.blk);have:=(h.low q h.st.inF).1;omega
def SgZ:Obj:=.cells #[.int .i64 0,.slice none 0 0] 109 (0,0)
structure RdLp (W0:World) (sb f:Nat) (cl:List Cl) (j:Nat) (ov:Value) (W:World):Prop where
  bx:W.heap[sb]? = some (SgB f ov)
  row:∃ xs,W.ownsRow W0.heap.size 60 2 ov j xs∧CellsOf W0.heap.size (fun g=>g=sb∨ov.ownBlock=some g) W xs (cl.take j)
  kp:Keep (One sb) W0 W
theorem zk0 {W0 wr w2 w5:World} {sb f j n oc c2:Nat} {oa a2:Option Addr} {cl:List Cl} {x:Cl} {v5:Value} {xs:List Value} {o1 o2:Obj} (hb:wr.heap[sb]? = some (SgB f (.slice oa j oc))) (hrow:wr.ownsRow W0.heap.size 60 2 (.slice oa j oc) j xs) (hcs:CellsOf W0.heap.size (fun g=>g=sb∨(Value.slice oa j oc).ownBlock=some g) wr xs (cl.take j)) (kp:Keep (One sb) W0 wr) (hsb:sb < W0.heap.size) (hx:cl[j]? = some x)
    (k2:Keep Non wr w2) (r2:w2.ownsRow wr.heap.size 5 1 (.slice a2 n c2) x.2.length (x.2.map bv)) (ho:w5.ownsRow W0.heap.size 60 2 v5 (j+1) (xs ++ [.int .i64 x.1,.slice a2 n c2])) (hg:((w2.alloc o1).alloc o2).grownBy w5 (Value.slice oa j oc).ownBlock) (hpp:v5.ownBlock=(Value.slice oa j oc).ownBlock∨v5.ownBlock=some ((w2.alloc o1).alloc o2).heap.size) :
    RdLp W0 sb f cl (j+1) v5 (w5.setCell ⟨sb,1,none⟩ v5)∧w5.heap[sb]? = some (SgB f (.slice oa j oc)):=by
  have ka:Keep Non w2 ((w2.alloc o1).alloc o2):=((Keep.refl _ _).alloc _).alloc _
  have kg:Keep (fun g=>(Value.slice oa j oc).ownBlock=some g) ((w2.alloc o1).alloc o2) w5:=(Keep.refl _ _).grown hg (fun k e=>.inl e)
  have kb:Keep (One sb) w5 (w5.setCell ⟨sb,1,none⟩ v5):=(Keep.refl _ _).setOne _ _
  have k4:=k2.trans1 ka
  have lo:∀ g,(Value.slice oa j oc).ownBlock=some g→W0.heap.size≤g∧g < wr.heap.size:=fun g e=>hrow.lt g e
  have s0:=kp.size
  have s2:=k2.size
  have s4:=k4.size
  have sa:((w2.alloc o1).alloc o2).heap.size=w2.heap.size+2:=by simp
  have b5:w5.heap[sb]? = some (SgB f (.slice oa j oc)):=kg.at (nonAt k4 hb) (fun e=>by have:=(lo sb e).1;omega)
  have vlo:∀ g,v5.ownBlock=some g→W0.heap.size≤g:=fun g e=>(ho.lt g e).1
  refine ⟨⟨zaV b5 v5,⟨_,zac ho kb (fun g e e2=>by have e':g=sb:=e2;have:=vlo g e;omega),?_⟩,(kp.trans1 k4.ofNon).trans (kg.trans kb (U:=fun g=>(Value.slice oa j oc).ownBlock=some g∨g=sb) (fun _ _ x=>.inl x) (fun _ _ x=>.inr x)) (fun _ _ x=>x) (fun g hg' x=>by
    rcases x with x | x
    · have:=(lo g x).1;omega
    · exact x)⟩,b5⟩
  have et:cl.take (j+1)=cl.take j ++ [x]:=by rw [List.take_add_one,hx];rfl
  rw [et]
  refine CellsOf.keep (S:=fun g=>g=sb∨v5.ownBlock=some g) ?_ kb (fun g _ e=>.inl e) (fun g _ e=>e)
  refine CellsOf.append ?_ ?_
  · refine ((hcs.keep (S':=fun g=>g=sb∨(Value.slice oa j oc).ownBlock=some g) k4 (fun _ _ e=>e.elim) (fun _ _ e=>e)).keep kg (fun g _ e=>.inr e) ?_)
    rintro g hg' (e | e)
    · exact .inl e
    · rcases hpp with e3 | e3
      · exact .inr (by rw [← e3,e])
      · rw [e3] at e;injection e with e;omega
  · refine ⟨rfl,fun i y hy=>?_⟩
    cases i with
    | succ i=>simp at hy
    | zero =>
      simp at hy
      subst hy
      have own2:∀ g,(Value.slice a2 n c2).ownBlock=some g→wr.heap.size≤g∧g < w2.heap.size:=fun g e=>r2.lt g e
      have nk:∀ g,(Value.slice a2 n c2).ownBlock=some g→¬ ((Value.slice oa j oc).ownBlock=some g):=fun g e e2=>by have:=own2 g e;have:=lo g e2;omega
      refine ⟨.slice a2 n c2,rfl,rfl,((Rd.ofOwns r2).keepNon ka).keep kg (fun g e=>nk g e),zbw r2,fun g e=>?_⟩
      have h1:=own2 g e
      have h5:g < w5.heap.size:=kg.lt (ka.lt h1.2)
      refine ⟨by omega,h5,?_⟩
      rintro (e2 | e2)
      · omega
      · rcases hpp with e3 | e3
        · rw [e3] at e2;exact nk g e e2
        · rw [e3] at e2;injection e2 with e2;omega
theorem zlA {w:World} {g:Nat} {k:Int} {v:Value} {t:TypeId} (h:w.heap[g]? = some (.cells #[.int .i64 k,v] t (0,0))):∀ (j:Nat) u,[Value.int .i64 k,v][j]? = some u→w.cell? ((⟨g,0,none⟩:Addr).add j)=some u:=by
  intro j u hu
  rw [zau,Nat.zero_add]
  simp only [World.cell?,h]
  simpa using hu
theorem znA {FL:Nat→Prop} {x b lb:Nat} {c:Cu} {pv:Value} {ov:Bool} {L:Lg} (w:World) (hx:w.heap[x]? = some (ExB b lb c pv ov)) (hl:LgAt FL w lb L.shs.length L) (h1:Log1 L) (hlt:c.next < c.hi) (hhi:c.hi≤1048576) :
    Calls Tryz.prog 195 #[.pointer (some ⟨x,0,none⟩)] w fun e w'=>∃ v',e = .returned (.tuple #[.agg #[.int .i64 c.next,v'],.nilIface])∧Keep Non w w'∧∃ xs,w'.ownsRow w.heap.size 60 2 v' (slabL L c.hi c.next).length xs∧CellsOf w.heap.size Non w' xs (slabL L c.hi c.next):=by
  have RD:Hid (∀ W (a:Nat),Keep Non w W→a≤1048575→Calls Tryz.prog 19 #[.pointer (some ⟨lb,0,none⟩),.int .i64 a] W fun r w'=>∃ v,r = .returned (.tuple #[.agg #[.int .i64 (cellL L a).1,v],.nilIface])∧Keep Non W w'∧w'.ownsRow W.heap.size 5 1 v (cellL L a).2.length ((cellL L a).2.map bv)):=zz0 (fun W a k ha=>by
    have hpos:0 < L.shs.length:=by have:=h1.kd;omega
    obtain ⟨he,hup⟩:=h1.unit a
    have hx0:(uat (unitL L a).l (unitL L a).D a).2.length≤100000000:=by have:=(h1.cells a).2.2.1;unfold cellL at this;omega
    rcases h1.home a with ⟨u,hu,hs⟩ | ⟨v,u,hu,hs⟩
    · exact zgi W (hl.keepNon k) hpos hu hs he hup ha hx0
    · exact ziS W (hl.keepNon k) hpos hu hs he hup ha hx0)
  have XB:Hid (∀ W,Keep Non w W→W.heap[x]? = some (ExB b lb c pv ov)):=zz0 (fun W k=>nonAt k hx)
  have hn:=zbU L c.hi c.next
  have hwb:x < w.heap.size:=lt_of_block hx
  generalize hcl:slabL L c.hi c.next=cl at hn ⊢
  have GT:Hid (∀ j,j < cl.length→cl[j]? = some (cellL L (c.next+j))):=zz0 (fun j hj=>by rw [← hcl];exact znd (by omega))
  obtain ⟨i0,hi0,hz0,hz1,hz2⟩:=info_parts infoCell
  have I0:=zz0 (And.intro hi0 (And.intro hz0 (And.intro hz1 hz2)))
  have K2:Hid (Keep Non w (w.alloc SgZ)):=zz0 ((Keep.refl _ _).alloc _)
  have e1:=ex_0 (XB.out _ K2.out)
  have e3:=ex_3 (XB.out _ K2.out)
  have K3:Hid (Keep Non w ((w.alloc SgZ).alloc (SgB c.next (.slice none 0 0)))):=zz0 (((Keep.refl _ _).alloc _).alloc _)
  have e3':=ex_3 (XB.out _ K3.out)
  have S3:=zz0 (zaA w SgZ (SgB c.next (.slice none 0 0)))
  have R3:=zz0 (nonAt ((Keep.refl Non _).alloc (SgB c.next (.slice none 0 0))) (zab w SgZ))
  have Z3:Hid (((w.alloc SgZ).alloc (SgB c.next (.slice none 0 0))).heap.size=w.heap.size+2):=zz0 (by simp)
  dsimp only [SgB,SgZ] at e1 e3 e3'
  clear hx hl h1 hi0 hz0 hz1 hz2 hcl
  go_enter Tryz.func195,Tryz.ntmps195
  go_wp2_with fail
  clear e1 e3 e3'
  obtain ⟨W0,hW0⟩:∃ W0,W0=(w.alloc SgZ).alloc (SgB c.next (.slice none 0 0)):=⟨_,rfl⟩
  rw [← hW0] at K3 S3 R3 Z3
  unfold SgZ SgB at hW0
  rw [← hW0]
  clear hW0
  go_loopw [5] (fun i wr=>∃ j:Nat,j≤cl.length∧i = .int .i64 (c.next+j:Nat)∧∃ ov,RdLp W0 (w.heap.size+1) c.next cl j ov wr) (fun i _=>c.next+cl.length - (intOf i).toNat)
  case atStart=>exact ⟨0,by omega,rfl,_,S3.out,⟨[],World.ownsRow_nil _ _ _ _,by simpa using CellsOf.nil _ _ _⟩,Keep.refl _ _⟩
  case round =>
    obtain ⟨j,hj,rfl,ov,lp⟩:=hrel
    obtain ⟨bx,⟨xs,row,cs⟩,kp⟩:=lp
    obtain ⟨oa,oc,rfl,_,_⟩:=zaa row
    have kw:Keep Non w wr:=K3.out.trans kp (fun _ _ e=>e) (fun g hg e=>by have e':g=w.heap.size+1:=e;omega)
    have x1:=ex_1 (XB.out _ kw)
    have x3:=ex_3 (XB.out _ kw)
    have x4:=ex_4 (XB.out _ kw)
    have KW:=zz0 kw
    have BX:=zz0 bx
    have ROW:=zz0 row
    have CS:=zz0 cs
    have KP:=zz0 kp
    clear kw bx row cs kp
    have hwr:IntKind.wrap .i64 ((c.next:Int)+64)=(c.next:Int)+64:=IntWalk.i64_in _ (by omega)
    have kd:Keep Non wr wr.drew:=(Keep.refl _ _).drew
    have BD:Hid (wr.drew.heap[w.heap.size+1]? = some (SgB c.next (.slice oa j oc))):=zz0 BX.out
    have RWD:Hid (wr.drew.ownsRow W0.heap.size 60 2 (.slice oa j oc) j xs):=zz0 (zac ROW.out kd (fun _ _ e=>e))
    have CSD:Hid (CellsOf W0.heap.size (fun g=>g=w.heap.size+1∨(Value.slice oa j oc).ownBlock=some g) wr.drew xs (cl.take j)):=zz0 (CS.out.keep kd (fun _ _ e=>e.elim) (fun _ _ e=>e))
    have KPD:Hid (Keep (One (w.heap.size+1)) W0 wr.drew):=zz0 KP.out.drew
    have KWD:Hid (Keep Non w wr.drew):=zz0 KW.out.drew
    have y1:=ex_1 (XB.out _ KWD.out)
    clear kd
    by_cases hlt2:j < cl.length
    · have hj2:(c.next:Int)+j < c.hi:=by omega
      have hj3:(c.next:Int)+j < min ((c.next:Int)+64) c.hi:=by omega
      have RDJ:=zz0 (RD.out wr.drew (c.next+j) KWD.out (by omega))
      have hcj:=zz0 (GT.out j hlt2)
      generalize cellL L (c.next+j)=y at RDJ hcj
      rw [Int.natCast_add] at RDJ
      go_wp2_with fail
      go_region_law (fail)
      all_goals
        obtain ⟨wd,hwd⟩:∃ wd,wd=wr.drew:=⟨_,rfl⟩
        rw [← hwd] at BD RWD CSD KPD KWD y1 RDJ ⊢
        clear hwd x1 x3 x4 BX ROW CS KP KW
        go_wp2_with (first
          | (go_at_call 19;((with_reducible refine RDJ.out.mono ?_);rintro e w2 ⟨v2,rfl,k2,o2⟩);obtain ⟨a2,c2,rfl,_,_⟩:=zaa o2;have b4:=nonAt (((Keep.refl Non w2).alloc (.cells #[.int .i64 y.1,.slice a2 y.2.length c2] 60)).alloc (.cells #[.int .i64 y.1,.slice a2 y.2.length c2] 60)) (nonAt k2 BD.out);have b3:=nonAt ((Keep.refl Non w2).alloc (.cells #[.int .i64 y.1,.slice a2 y.2.length c2] 60)) (nonAt k2 BD.out);have d1:=sg_1 b4;have d1':=sg_1 b3;have K2:=zz0 k2;have O2:=zz0 o2;have N4:=zz0 (zaA w2 (.cells #[.int .i64 y.1,.slice a2 y.2.length c2] 60 (0,0)) (.cells #[.int .i64 y.1,.slice a2 y.2.length c2] 60 (0,0)));clear k2 o2 b4 b3)
          | (at_builtin;refine zaj rfl _ _ 22 rfl W0.heap.size 60 i0 _ 2 32 Tryz.underlying22 I0.out.1 I0.out.2.1 I0.out.2.2.1 I0.out.2.2.2 rfl (by decide) (.slice oa j oc) j xs rfl (zac RWD.out (K2.out.trans1 (((Keep.refl Non w2).alloc _).alloc _)) (fun _ _ e=>e)) ⟨w2.heap.size+1,0,none⟩ 1 1 [.int .i64 y.1,.slice a2 y.2.length c2] rfl rfl (by exact zlA N4.out) (by intro u hu;simp at hu;rcases hu with rfl | rfl <;> rfl) (by unfold maxLen;omega) (by omega) (by have:=KPD.out.size;have:=K2.out.size;simp;omega) ?_;intro v5 w5 ho hg hpp;obtain ⟨a5,c5,rfl,_,_⟩:=zaa ho;obtain ⟨nx,b5⟩:=zk0 BD.out RWD.out CSD.out KPD.out (by have:=Z3.out;omega) hcj.out K2.out O2.out ho hg hpp;have f5:=sg_f b5 1;have g5:=sg_1 b5;have NX:=zz0 nx;clear ho hg hpp nx b5))
      all_goals exact ⟨⟨j+1,by omega,by first | rfl | go_num | (congr 1;omega),_,NX.out⟩,by simp [intOf];omega⟩
    · obtain rfl:j=cl.length:=by omega
      have hj3:¬ (c.next:Int)+(cl.length:Int) < min ((c.next:Int)+64) c.hi:=by omega
      have HN:=zz0 hn
      clear hn hlt2
      have r3:wr.drew.heap[w.heap.size]? = some (SgB 0 (.slice none 0 0)):=KPD.out.at R3.out (fun e=>by have e':w.heap.size=w.heap.size+1:=e;omega)
      have RB:=zz0 r3
      have rf0:=sg_f r3 0
      have rf1:=sg_f r3 1
      have rc0:=sg_0 r3
      have rc1:=sg_1 r3
      have rx0:=sg_0 (zaz r3 c.next)
      have d0:=sg_0 BD.out
      have d1:=sg_1 BD.out
      clear r3
      go_wp2_with fail
      go_region_law (fail)
      all_goals
        obtain ⟨wd,hwd⟩:∃ wd,wd=wr.drew:=⟨_,rfl⟩
        rw [← hwd] at BD RWD CSD KPD KWD rf0 rf1 rc0 rc1 rx0 d0 d1 RB ⊢
        clear hwd x1 x3 x4 BX ROW CS KP KW
        go_wp2_with fail
      all_goals
        have s0:=sg_0 (zaV (zaz RB.out c.next) (.slice oa cl.length oc))
        have s1:=sg_1 (zaV (zaz RB.out c.next) (.slice oa cl.length oc))
        refine bodyPost_ret (v:=.tuple #[.agg #[.int .i64 c.next,.slice oa cl.length oc],.nilIface]) (by simp [results,Tryz.results195,go_sem,s0,s1]) rfl ?_
        have kf:Keep (One w.heap.size) wd ((wd.setCell ⟨w.heap.size,0,none⟩ (.int .i64 c.next)).setCell ⟨w.heap.size,1,none⟩ (.slice oa cl.length oc)):=((Keep.refl _ _).setOne _ _).setOne _ _
        have z3:=Z3.out
        have cs:=CSD.out
        rw [List.take_length] at cs
        refine ⟨_,rfl,KWD.out.trans kf (fun _ _ e=>e) (fun g hg e=>by have e':g=w.heap.size:=e;omega),xs,zad (zac RWD.out kf (fun g e e2=>by have e':g=w.heap.size:=e2;have:=(RWD.out.lt g e).1;omega)) (by omega),(cs.keep (S':=Non) kf (fun g hg e=>by have e':g=w.heap.size:=e;omega) (fun _ _ e=>e.elim)).low (by omega) (fun _ e=>e)⟩
theorem zb3 (n i:Nat):labelN n i≠cname:=by
  intro e
  simp [labelN,cname] at e
theorem zc9 (n i m:Nat):labelN n i≠titleN m:=by
  intro e
  simp [labelN,titleN] at e
theorem zcz (m:Nat):cname≠titleN m:=by
  intro e
  simp [cname,titleN] at e
def putX (X:Dk) (n b:Byt):Dk:={ X with sure:=putFl X.shown n b,shown:=putFl X.shown n b,pend:=[] }
section
variable {X : Dk} {n b m : Byt}
theorem zaS (hm:IsMap X.shown):fhas (putX X n b).shown n=true:=zeN hm
theorem zaR (hm:IsMap X.shown):fget (putX X n b).shown n=b:=zeM hm
theorem za3 (h1:okObj m) (h2:m≠n):fhas (putX X n b).shown m=fhas X.shown m:=zb7 h2 (h1.ne_tilde)
theorem zbh (h1:okObj m) (h2:m≠n):fget (putX X n b).shown m=fget X.shown m:=zeo h2 (h1.ne_tilde)
end
theorem zet {X:Dk} (hf:X.free) {a k f:Nat} (hl:X.lim a k f) (ha:a < 512) (n b:Byt) (hb:b.length≤65536) :
    (X.sput n b=(5,X)∧X.room < f+b.length)∨X.sput n b=(0,putX X n b):=by
  rw [zcY hf hl.map n b hb]
  by_cases h:X.full (tilde n) b
  · rw [if_pos h]
    refine .inl ⟨rfl,?_⟩
    rcases Nat.lt_or_ge X.room (f+b.length) with h2 | h2
    · exact h2
    · exact absurd h (zic hl ha h2)
  · rw [if_neg h]
    exact .inr rfl
theorem zes {X:Dk} (hf:X.free) (n b:Byt):(putX X n b).free:=hf
theorem zoM {X:Dk} {n b:Byt} (h:X.sput n b=(0,putX X n b)):(X.sput n b).2=putX X n b:=by rw [h]
theorem zbQ {X:Dk} {a k f:Nat} (hl:X.lim a k f) {n b:Byt} (h:X.sput n b=(0,putX X n b)):(putX X n b).lim (a+2) (k+2) (f+2 * b.length):=by
  have:=hl.sput n b
  rwa [h] at this
theorem zbA {X:Dk} (ht:X.tidy) (hf:X.free) (hm:IsMap X.shown) {n b:Byt} (hn:okObj n) (hb:b.length≤65536) (h:X.sput n b=(0,putX X n b)):(putX X n b).tidy:=by
  have:=ht.sput hf hm hn hb
  rwa [h] at this
theorem zek {p:Pt} (h:okPt p):p.many < 2 ^ 63∧p.size < 2 ^ 63∧p.sum.length=32:=by
  obtain ⟨h1,h2,h3,h4,h5⟩:=h
  refine ⟨?_,?_,h5⟩ <;> omega
theorem zbz:∀ (l:List Pt) (a:Nat),okPts a l→∀ p ∈ l,okPt p
  | [],_,_,p,hp=>by cases hp
  | q :: r,a,h,p,hp=>by
    rcases List.mem_cons.1 hp with rfl | hp
    · exact h.2.1
    · exact zbz r _ h.2.2 p hp
theorem okCu.p32 {c:Cu} (h:okCu c):pts32 c.parts:=fun p hp=>(zbz _ _ h.parts p hp).2.2.2.2
theorem zbt {c:Cu} (h:okCu c):(cuBy c).length≤3300:=zpM h (fun p hp=>zek (zbz _ _ h.parts p hp))
theorem zdf (L:Lg) (hi f:Nat):(slabL L hi f).length≤64:=by rw [zbU];omega
theorem zne {L:Lg} (h:Log1 L) (hi f:Nat) (hf:f≤1048576):(segB f (slabL L hi f)).length≤6207:=zcC (zfQ h) (zdf _ _ _) hf
section
variable {L : Lg} {X : Dk} {c : Cu}
theorem znJ {m:Mf} (hm:okMf m) (h64:m.parts.length≤64) (hn:m.num≤1048576) (h1:m.lo≤1048576) (h2:m.hi≤1048576) (h3:m.trim≤1048576) (hp:∀ p ∈ m.parts,p.many < 2 ^ 63∧p.size < 2 ^ 63∧p.sum.length=32):(mfBy m).length≤3400:=by
  have l1:=zcQ m.parts hp
  have a1:=zaX (n:=m.num) (by omega)
  have a2:=zaX (n:=m.lo) (by omega)
  have a3:=zaX (n:=m.hi) (by omega)
  have a4:=zaX (n:=m.trim) (by omega)
  have a5:=zaX (n:=m.parts.length) (by omega)
  have hpr:=hm.prev
  have h8:(mfT m).length≤3380:=by
    unfold mfT
    simp only [List.length_append]
    omega
  have h9:=zcL (t:=mfT m) (by omega)
  exact Nat.le_trans h9 (by omega)
end
structure PaEnd (F:Nat→Prop) (W1:World) (q p:Nat) (Y:Dk) (o:Obj) (b5:Nat) (W4:World):Prop where
  bx:W4.heap[b5]? = some o
  lo:W1.heap.size≤b5
  kp:Keep F W1 W4
  st:∃ F',Sub F' F W1∧(∀ g,F' g→g < W4.heap.size)∧¬ F' b5∧StoreAt F' W4 q p Y
theorem zoH {F:Nat→Prop} {W1 w2 w3:World} {q p:Nat} {Y:Dk} {o:Obj} (k2:Keep Non W1 w2) (t:StoreTo F w2 q p Y w3) (hF:∀ g,F g→g < W1.heap.size):PaEnd F W1 q p Y o w3.heap.size (w3.alloc o):=by
  obtain ⟨k3,F',s,d⟩:=t
  have ka:Keep Non w3 (w3.alloc o):=(Keep.refl _ _).alloc _
  have s2:=k2.size
  have s3:=k3.size
  refine ⟨zab _ _,by omega,(k2.ofNon.trans k3 (fun _ _ x=>x) (fun _ _ x=>x)).trans1 ka.ofNon,fun g=>F' g∧g < w3.heap.size,fun g x=>?_,fun g x=>ka.lt x.2,fun x=>by have:=x.2;omega,d.low.keep ka (fun _ _ e=>e)⟩
  rcases s g x.1 with y | y
  · exact .inl y
  · exact .inr (by omega)
theorem zkS {F:Nat→Prop} {W1 w2 w3:World} {q p b5:Nat} {Y:Dk} {o:Obj} {arr:Array Value} (ho:o = .cells arr 106 (0,0)) (k2:Keep Non W1 w2) (hb:w2.heap[b5]? = some (.cells zPt 106 (0,0))) (hb1:W1.heap.size≤b5) (t:StoreTo F w2 q p Y w3) (hF:∀ g,F g→g < W1.heap.size) :
    w3.heap[b5]? = some (.cells zPt 106 (0,0))∧PaEnd F W1 q p Y o b5 (w3.setRow b5 arr):=by
  obtain ⟨k3,F',s,d⟩:=t
  have hl:b5 < w2.heap.size:=lt_of_block hb
  have b3:w3.heap[b5]? = some (.cells zPt 106 (0,0)):=k3.at hb (fun e=>by have:=hF b5 e;omega)
  have kr:Keep (One b5) w3 (w3.setRow b5 arr):=(Keep.refl (One b5) _).setRow (.inl (zar _)) _
  have s2:=k2.size
  have s3:=k3.size
  have hn:¬ F' b5:=fun e=>by
    rcases s b5 e with y | y
    · have:=hF b5 y;omega
    · omega
  subst ho
  refine ⟨b3,setRow_heap _ _ _ _ _ _ b3,hb1,(k2.ofNon.trans k3 (fun _ _ x=>x) (fun _ _ x=>x)).trans kr (fun _ _ x=>x) (fun g hg e=>by have e':g=b5:=e;omega),fun g=>F' g∧g < w3.heap.size,fun g x=>?_,fun g x=>kr.lt x.2,fun x=>hn x.1,d.low.keep kr (fun g x e=>by have e':g=b5:=e;exact hn (e' ▸ x.1))⟩
  rcases s g x.1 with y | y
  · exact .inl y
  · exact .inr (by omega)
section
attribute [local go_sem ↓] hV84 hV106 hV87 hW84 hW106 hW87 hB106 hB87
end
def ExOut (F FL:Nat→Prop) (w:World) (x b lb q p:Nat) (lv:Value) (c:Cu) (ov:Bool) (X:Dk) (L:Lg) (w':World):Prop :=
  ∃ F' pv',Sub F' F w∧Keep (fun g=>F g∨g=x) w w'∧ExSt F' FL w' x b lb q p lv c pv' ov X L
structure StEnd (W4:World) (c2:Cu) (n:Nat) (v:Value) (nb:Nat) (W5:World):Prop where
  bx:W5.heap[nb]? = some (CuB c2 v)
  lo:W4.heap.size≤nb
  kp:Keep Non W4 W5
  row:W5.ownsRow W4.heap.size 106 35 v n (ptsC c2.parts)
  ne:∀ g,v.ownBlock=some g→g≠nb
theorem zpe {W4 w6:World} {c2:Cu} {v:Value} {n B:Nat} (k6:Keep Non W4 w6) (o:w6.ownsRow B 106 35 v n (ptsC c2.parts)) (hB:W4.heap.size≤B):StEnd W4 c2 n v w6.heap.size (w6.alloc (CuB c2 v)) :=
  ⟨zab _ _,k6.size,k6.alloc _,zad (zac o ((Keep.refl Non _).alloc _) (fun _ _ e=>e)) hB,fun g e=>by have:=(o.lt g e).2;omega⟩
theorem zpf {W4 w6:World} {c2:Cu} {v:Value} {n B nb:Nat} (k6:Keep Non W4 w6) (hb:w6.heap[nb]? = some (CuB ⟨0,0,0,0,[]⟩ (.slice none 0 0))) (h1:W4.heap.size≤nb) (o:w6.ownsRow B 106 35 v n (ptsC c2.parts)) (hB:nb < B) :
    StEnd W4 c2 n v nb (((((w6.setCell ⟨nb,0,none⟩ (.int .i64 c2.lo)).setCell ⟨nb,1,none⟩ (.int .i64 c2.next)).setCell ⟨nb,2,none⟩ (.int .i64 c2.hi)).setCell ⟨nb,3,none⟩ (.int .i64 c2.trim)).setCell ⟨nb,4,none⟩ v):=by
  have k:Keep (One nb) w6 (((((w6.setCell ⟨nb,0,none⟩ (.int .i64 c2.lo)).setCell ⟨nb,1,none⟩ (.int .i64 c2.next)).setCell ⟨nb,2,none⟩ (.int .i64 c2.hi)).setCell ⟨nb,3,none⟩ (.int .i64 c2.trim)).setCell ⟨nb,4,none⟩ v):=((((((Keep.refl _ _).setOne _ _).setOne _ _).setOne _ _).setOne _ _).setOne _ _)
  exact ⟨zaf (zaf (zaf (zaf (zaf hb 0 (.int .i64 c2.lo)) 1 (.int .i64 c2.next)) 2 (.int .i64 c2.hi)) 3 (.int .i64 c2.trim)) 4 v,h1,k6.trans k (fun _ _ e=>e) (fun g hg e=>by have e':g=nb:=e;omega),
    zad (zac o k (fun g e e2=>by have e':g=nb:=e2;have:=(o.lt g e).1;omega)) (by omega),fun g e=>by have:=(o.lt g e).1;omega⟩
theorem zoG {F:Nat→Prop} {W1 W4:World} {q p b5:Nat} {Y:Dk} {o:Obj} (e:PaEnd F W1 q p Y o b5 W4):PaEnd F W1 q p Y o b5 W4.drew:=by
  obtain ⟨F',s,hl,hn,d⟩:=e.st
  exact ⟨e.bx,e.lo,e.kp.drew,F',s,hl,hn,d.keep ((Keep.refl Non W4).drew) (fun _ _ e=>e)⟩
theorem zoi {w:World} {x b lb:Nat} {c:Cu} {pv:Value} {ov:Bool} (h:w.heap[x]? = some (ExB b lb c pv ov)) (c2:Cu) (v:Value) :
    w.cell? ⟨x,2,none⟩=some (.int .i64 c.lo)∧(w.setCell ⟨x,2,none⟩ (.int .i64 c2.lo)).cell? ⟨x,3,none⟩=some (.int .i64 c.next)∧((w.setCell ⟨x,2,none⟩ (.int .i64 c2.lo)).setCell ⟨x,3,none⟩ (.int .i64 c2.next)).cell? ⟨x,4,none⟩=some (.int .i64 c.hi)∧(((w.setCell ⟨x,2,none⟩ (.int .i64 c2.lo)).setCell ⟨x,3,none⟩ (.int .i64 c2.next)).setCell ⟨x,4,none⟩ (.int .i64 c2.hi)).cell? ⟨x,5,none⟩=some (.int .i64 c.trim)∧((((w.setCell ⟨x,2,none⟩ (.int .i64 c2.lo)).setCell ⟨x,3,none⟩ (.int .i64 c2.next)).setCell ⟨x,4,none⟩ (.int .i64 c2.hi)).setCell ⟨x,5,none⟩ (.int .i64 c2.trim)).cell? ⟨x,6,none⟩=some pv ∧
    w.frozen? ⟨x,2,none⟩=false∧(w.setCell ⟨x,2,none⟩ (.int .i64 c2.lo)).frozen? ⟨x,3,none⟩=false∧((w.setCell ⟨x,2,none⟩ (.int .i64 c2.lo)).setCell ⟨x,3,none⟩ (.int .i64 c2.next)).frozen? ⟨x,4,none⟩=false∧(((w.setCell ⟨x,2,none⟩ (.int .i64 c2.lo)).setCell ⟨x,3,none⟩ (.int .i64 c2.next)).setCell ⟨x,4,none⟩ (.int .i64 c2.hi)).frozen? ⟨x,5,none⟩=false∧((((w.setCell ⟨x,2,none⟩ (.int .i64 c2.lo)).setCell ⟨x,3,none⟩ (.int .i64 c2.next)).setCell ⟨x,4,none⟩ (.int .i64 c2.hi)).setCell ⟨x,5,none⟩ (.int .i64 c2.trim)).frozen? ⟨x,6,none⟩=false ∧
    (((((w.setCell ⟨x,2,none⟩ (.int .i64 c2.lo)).setCell ⟨x,3,none⟩ (.int .i64 c2.next)).setCell ⟨x,4,none⟩ (.int .i64 c2.hi)).setCell ⟨x,5,none⟩ (.int .i64 c2.trim)).setCell ⟨x,6,none⟩ v).heap[x]? = some (ExB b lb c2 v ov) ∧
    Keep (One x) w (((((w.setCell ⟨x,2,none⟩ (.int .i64 c2.lo)).setCell ⟨x,3,none⟩ (.int .i64 c2.next)).setCell ⟨x,4,none⟩ (.int .i64 c2.hi)).setCell ⟨x,5,none⟩ (.int .i64 c2.trim)).setCell ⟨x,6,none⟩ v):=by
  have h1:(w.setCell ⟨x,2,none⟩ (.int .i64 c2.lo)).heap[x]? = some (ExB b lb ⟨c2.lo,c.next,c.hi,c.trim,c.parts⟩ pv ov):=zod h c2.lo
  have h2:((w.setCell ⟨x,2,none⟩ (.int .i64 c2.lo)).setCell ⟨x,3,none⟩ (.int .i64 c2.next)).heap[x]? = some (ExB b lb ⟨c2.lo,c2.next,c.hi,c.trim,c.parts⟩ pv ov):=zoe h1 c2.next
  have h3:(((w.setCell ⟨x,2,none⟩ (.int .i64 c2.lo)).setCell ⟨x,3,none⟩ (.int .i64 c2.next)).setCell ⟨x,4,none⟩ (.int .i64 c2.hi)).heap[x]? = some (ExB b lb ⟨c2.lo,c2.next,c2.hi,c.trim,c.parts⟩ pv ov):=zof h2 c2.hi
  have h4:((((w.setCell ⟨x,2,none⟩ (.int .i64 c2.lo)).setCell ⟨x,3,none⟩ (.int .i64 c2.next)).setCell ⟨x,4,none⟩ (.int .i64 c2.hi)).setCell ⟨x,5,none⟩ (.int .i64 c2.trim)).heap[x]? = some (ExB b lb ⟨c2.lo,c2.next,c2.hi,c2.trim,c.parts⟩ pv ov):=zog h3 c2.trim
  exact ⟨ex_2 h,ex_3 (c:=⟨c2.lo,c.next,c.hi,c.trim,c.parts⟩) h1,ex_4 (c:=⟨c2.lo,c2.next,c.hi,c.trim,c.parts⟩) h2,ex_5 (c:=⟨c2.lo,c2.next,c2.hi,c.trim,c.parts⟩) h3,ex_6 h4,ex_f h 2,ex_f h1 3,ex_f h2 4,ex_f h3 5,ex_f h4 6,zoh h4 v,(((((Keep.refl _ _).setOne _ _).setOne _ _).setOne _ _).setOne _ _).setOne _ _⟩
theorem zp2 {F F4 FL:Nat→Prop} {w WX W4 wd w9:World} {x b lb q p:Nat} {lv pv:Value} {c:Cu} {ov:Bool} {X Z:Dk} {L:Lg} (h:ExSt F FL w x b lb q p lv c pv ov X L) (kX:Keep Non w WX) (k4:Keep F WX W4) (s4:Sub F4 F WX) (l4:∀ g,F4 g→g < W4.heap.size) (kN:Keep Non W4 wd) (t:StoreTo F4 wd q p Z w9) :
    ∃ F',Sub F' F w∧(∀ g,F' g→g < w9.heap.size)∧StoreAt F' w9 q p Z∧Keep F w w9∧∀ g,F' g→F g∨(WX.heap.size≤g∧g < W4.heap.size)∨wd.heap.size≤g:=by
  obtain ⟨k9,F9,s9,d9⟩:=t
  have hs1:=kX.size
  have hs2:=k4.size
  have hs3:=kN.size
  have hF:∀ g,F9 g→F g∨(WX.heap.size≤g∧g < W4.heap.size)∨wd.heap.size≤g:=fun g y=>by
    rcases s9 g y with z | z
    · rcases s4 g z with z2 | z2
      · exact .inl z2
      · exact .inr (.inl ⟨z2,l4 g z⟩)
    · exact .inr (.inr z)
  refine ⟨fun g=>F9 g∧g < w9.heap.size,fun g y=>?_,fun g y=>y.2,d9.low,?_,fun g y=>hF g y.1⟩
  · rcases hF g y.1 with z | ⟨z,_⟩ | z
    · exact .inl z
    · exact .inr (by omega)
    · exact .inr (by omega)
  · refine ((kX.ofNon.trans k4 (fun _ _ y=>y) (fun _ _ y=>y)).trans1 kN.ofNon).trans k9 (fun _ _ y=>y) (fun g hg y=>?_)
    rcases s4 g y with z | z
    · exact z
    · omega
section
attribute [local go_sem ↓] hV84 hV106 hV87 hW84 hW106 hW87 hB106 hB87
end
end Go.Proofs.YtnboipdpccnedaaGreatDoor
