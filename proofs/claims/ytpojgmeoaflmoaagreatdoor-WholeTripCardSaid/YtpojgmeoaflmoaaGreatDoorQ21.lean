/- Units in memory; their small functions:  -/
import Derived.Test.YtpojgmeoaflmoaaGreatDoorQ03
import Derived.Test.YtpojgmeoaflmoaaGreatDoorQ05
set_option linter.unusedVariables false
set_option maxRecDepth 100000
set_option maxHeartbeats 16000000
namespace Go.Proofs.YtpojgmeoaflmoaaGreatDoor
open Go.RowKit Go.Maps
def zcS (w:World)(T:Nat→Prop)(v:Value)(x:Cl):Prop:=∃u,v = .agg #[.int .i64 x.1,u]∧zbT w T u x.2
theorem zcS.fun1 (w:World)(T:Nat→Prop):Fun1 (zcS w T):=by
 rintro v ⟨k,l⟩ ⟨k',l'⟩ ⟨u,rfl,h⟩ ⟨u',e,h'⟩;simp only[Value.agg.injEq,Array.mk.injEq,List.cons.injEq,Value.int.injEq,true_and,and_true] at e;obtain⟨e1,e2⟩:=e;subst e2;subst e1;have e:l=l':=zbT.fun1 w T _ _ _ h h';rw[e]
theorem zcS.keep {w w':World}{S T U:Nat→Prop}{v:Value}{x:Cl}(h:zcS w T v x)(k:za S w w')(hn:∀g,T g→¬S g)(hu:∀g,T g→U g):zcS w' U v x:=by
 obtain⟨u,e,hb⟩:=h;exact⟨u,e,hb.keep k hn hu⟩
theorem zbT.nil (w:World)(T:Nat→Prop)(c:Nat):zbT w T (.slice none 0 c) []:=⟨⟨none,c,rfl,fun h=>absurd rfl h⟩,fun g e=>by cases e⟩
theorem zcS.nil (w:World)(T:Nat→Prop)(k:Int):zcS w T (.agg #[.int .i64 k,.slice none 0 0]) (k,[]):=⟨_,rfl,zbT.nil w T 0⟩
abbrev Un:=DataW Cl
def ulit (a:Nat):Lit:=.int .i64 a
def heldC:DataW Cl→Cl
 |.held x=>x
 |_=>(0,[])
def zaT (D:Un)(a:Nat):Cl:=heldC (D.atKey (ulit a) (.held (0,[])))
def uput (D:Un)(a:Nat)(x:Cl):Un:=D.put (ulit a) (.held x)
theorem zoT (a:Nat):WideAt.IsKeyLit (ulit a):=trivial
theorem zqq {a b:Nat}(h:a≠b):ulit a≠ulit b:=fun e=>h (by unfold ulit at e;injection e with _ e;omega)
theorem zck {D:Un}{a:Nat}{x:Cl}(h:IsMap D):zaT (uput D a x) a=x:=by unfold zaT uput;rw[atKey_put_same h (zoT a)];rfl
theorem zbe {D:Un}{a b:Nat}{x:Cl}(h:b≠a):zaT (uput D a x) b=zaT D b:=by unfold zaT uput;rw[atKey_put_other (zqq h)]
abbrev CsMap (w:World)(T:Nat→Prop)(b:Nat)(D:Un):Prop:=zF w 3 (zcS w T) b D
theorem CsMap.keep {w w':World}{S T U:Nat→Prop}{b:Nat}{D:Un}(h:CsMap w T b D)(k:za S w w')(hb:¬S b)(hn:∀g,T g→¬S g)(hu:∀g,T g→U g):CsMap w' U b D :=
 zF.keep h k hb (zcS.fun1 _ _) (fun v x hx=>hx.keep k hn hu)
theorem zbm:Keyed Tryz.prog 3:=int_keyed Tryz.underlying3
theorem zee (a:Nat)(h:a≤4611686018427387904):keyOf Tryz.prog 3 (.int .i64 a)=some (ulit a) :=
 keyOf_int_mk Tryz.underlying3 (by simp only[Lit.wf,IntKind.min,IntKind.max,IntKind.signed,IntKind.bits,Bool.and_eq_true,decide_eq_true_eq,if_true];omega)
def UnB (e l m:Nat):Obj:=.cells #[.int .i64 e,.int .i64 l,.map (some m)] 257 (0,0)
section
variable {w : World} {b e l m : Nat}
theorem un_0 (h:w.heap[b]? = some (UnB e l m)):w.cell? ⟨b,0,none⟩=some (.int .i64 e):=by simp[World.cell?,h,UnB]
theorem un_1 (h:w.heap[b]? = some (UnB e l m)):w.cell? ⟨b,1,none⟩=some (.int .i64 l):=by simp[World.cell?,h,UnB]
theorem un_2 (h:w.heap[b]? = some (UnB e l m)):w.cell? ⟨b,2,none⟩=some (.map (some m)):=by simp[World.cell?,h,UnB]
theorem un_f (h:w.heap[b]? = some (UnB e l m))(i:Nat):w.frozen? ⟨b,i,none⟩=false:=by simp[World.frozen?,h,UnB]
theorem zqr (h:w.heap[b]? = some (UnB e l m))(k:Nat):(w.setCell ⟨b,0,none⟩ (.int .i64 k)).heap[b]? = some (UnB k l m):=zj h 0 _
theorem zqs (h:w.heap[b]? = some (UnB e l m))(k:Nat):(w.setCell ⟨b,1,none⟩ (.int .i64 k)).heap[b]? = some (UnB e k m):=zj h 1 _
end
def keysOk (D:Un):Prop:=∀kl,has D kl=true→∃a:Nat,kl=ulit a∧a<1048576
theorem keysOk.nil:keysOk (.map []):=fun kl h=>by simp[has] at h
theorem keysOk.put {D:Un}(h:keysOk D){a:Nat}(ha:a<1048576)(x:Cl):keysOk (uput D a x):=by
 intro kl hk;by_cases e:kl=ulit a
 ·exact⟨a,e,ha⟩
 ·exact h kl (by rw[←hk];unfold uput;rw[has_put_other e])
structure UnIn (F T:Nat→Prop)(w:World)(b m e l:Nat)(D:Un):Prop where
 blk:w.heap[b]? = some (UnB e l m)
 cells:CsMap w T m D
 inF:F b∧F m∧∀g,T g→F g
 apart:b≠m
 outT:¬T b∧¬T m∧∀g,T g→g<w.heap.size
 ep:e≤1099511627776
 lo:l≤1048576
 keys:keysOk D
def zcn (F:Nat→Prop)(w:World)(b e l:Nat)(D:Un):Prop:=∃T m,UnIn F T w b m e l D
theorem UnIn.keep {F T S:Nat→Prop}{w w':World}{b m e l:Nat}{D:Un}(h:UnIn F T w b m e l D)(k:za S w w')(hn:∀g,F g→¬S g):UnIn F T w' b m e l D :=
 ⟨k.at h.blk (hn _ h.inF.1),h.cells.keep k (hn _ h.inF.2.1) (fun g e=>hn g (h.inF.2.2 g e)) (fun _ e=>e),h.inF,h.apart,⟨h.outT.1,h.outT.2.1,fun g e=>k.lt (h.outT.2.2 g e)⟩,h.ep,h.lo,h.keys⟩
theorem zcn.keep {F S:Nat→Prop}{w w':World}{b e l:Nat}{D:Un}(h:zcn F w b e l D)(k:za S w w')(hn:∀g,F g→¬S g):zcn F w' b e l D:=by
 obtain⟨T,m,h⟩:=h;exact⟨T,m,h.keep k hn⟩
theorem zcn.keepNon {F:Nat→Prop}{w w':World}{b e l:Nat}{D:Un}(h:zcn F w b e l D)(k:za zq2 w w'):zcn F w' b e l D:=h.keep k (fun _ _ e=>e)
theorem zcn.mono {F G:Nat→Prop}{w:World}{b e l:Nat}{D:Un}(h:zcn F w b e l D)(hs:∀g,F g→G g):zcn G w b e l D:=by
 obtain⟨T,m,h⟩:=h;exact⟨T,m,h.blk,h.cells,⟨hs _ h.inF.1,hs _ h.inF.2.1,fun g e=>hs g (h.inF.2.2 g e)⟩,h.apart,h.outT,h.ep,h.lo,h.keys⟩
theorem zdo (x most:Int)(w:World)(h1:0≤x)(h2:x≤most) :
 Calls Tryz.prog 190 #[.int .i64 x,.int .i64 most] w fun e w'=>e = .returned (.bool true)∧w'=w:=by
 go_enter Tryz.func190,Tryz.ntmps190
 go_wp2_with fail
 go_ret;exact⟨rfl,rfl⟩
theorem zao (w:World)(a b:Obj):((w.alloc a).alloc b).heap[w.heap.size+1]? = some b:=by have:=ze (w.alloc a) b;rwa [show(w.alloc a).heap.size=w.heap.size+1 by simp] at this
theorem zm1 (w:World) :
 Calls Tryz.prog 207 #[] w fun e w'=>∃b,e = .returned (.pointer (some ⟨b,0,none⟩))∧za zq2 w w'∧zcn (fun g=>w.heap.size≤g∧g<w'.heap.size) w' b 0 0 (.map []):=by
 have hmm:=@run_makeMap Tryz.prog
 go_enter Tryz.func207,Tryz.ntmps207
 go_wp2_with fail
 go_ret;have k1:za zq2 w (w.alloc (.map #[] 0)):=(za.refl _ _).alloc _;have k2:za zq2 (w.alloc (.map #[] 0)) ((w.alloc (.map #[] 0)).alloc (UnB 0 0 w.heap.size)):=(za.refl _ _).alloc _;have hb:=zao w (.map #[] 0) (UnB 0 0 w.heap.size);have hm:CsMap (w.alloc (.map #[] 0)) zq2 w.heap.size (.map []):=zF.new w _ _;exact⟨_,rfl,k1.trans1 k2,zq2,_,hb,hm.keep k2 (fun e=>e) (fun _ e=>e.elim) (fun _ e=>e),⟨by first|(simp;done)|(simp;omega),by first|(simp;done)|(simp;omega),fun _ e=>e.elim⟩,by omega,⟨fun e=>e,fun e=>e,fun _ e=>e.elim⟩,by omega,by omega,keysOk.nil⟩
theorem zep (F:Nat→Prop)(b e l:Nat)(D:Un)(w:World)(h:zcn F w b e l D) :
 Calls Tryz.prog 244 #[.pointer (some ⟨b,0,none⟩),.int .i64 e] w fun r w'=>r = .returned .nilIface∧w'=w:=by
 obtain⟨T,m,h⟩:=h;have c0:=un_0 h.blk;clear h
 go_enter Tryz.func244,Tryz.ntmps244
 go_wp2_with fail
 go_ret;exact⟨rfl,rfl⟩
theorem zd0 (F:Nat→Prop)(b e l:Nat)(D:Un)(w:World)(h:zcn F w b e l D) :
 Calls Tryz.prog 189 #[.pointer (some ⟨b,0,none⟩),.int .i64 e,.bool true] w fun r w'=>r = .returned .nilIface∧w'=w:=by
 have CU:=zz0 (zep F b e l D w h);clear h
 go_enter Tryz.func189,Tryz.ntmps189
 go_wp2_with(go_at_call 244;refine CU.out.mono ?_;rintro r w1 ⟨rfl,e1⟩;subst e1)
 go_ret;exact⟨rfl,rfl⟩
theorem zjQ (F:Nat→Prop)(b e l:Nat)(D:Un)(w:World)(h:zcn F w b e l D) :
 Calls Tryz.prog 115 #[.pointer (some ⟨b,0,none⟩)] w fun r w'=>r = .returned (.int .i64 l)∧w'=w:=by
 obtain⟨T,m,h⟩:=h;have c1:=un_1 h.blk;clear h
 go_enter Tryz.func115,Tryz.ntmps115
 go_wp2_with fail
 go_ret;exact⟨rfl,rfl⟩
theorem zkU (F:Nat→Prop)(b e l:Nat)(D:Un)(w:World)(h:zcn F w b e l D) :
 Calls Tryz.prog 331 #[.pointer (some ⟨b,0,none⟩)] w fun r w'=>r = .returned (.int .i64 e)∧w'=w:=by
 obtain⟨T,m,h⟩:=h;have c1:=un_0 h.blk;clear h
 go_enter Tryz.func331,Tryz.ntmps331
 go_wp2_with fail
 go_ret;exact⟨rfl,rfl⟩
theorem zjY {w:World}{o o':Obj}{T F:Nat→Prop}{v:Value}{l:List UInt8}(hT:∀g,T g→g<w.heap.size)(h:zbT (w.alloc o) T v l)(hF:∀g,T g→F g):zbT (w.alloc o') F v l:=by
 refine⟨?_,fun g e=>hF g (h.2 g e)⟩
 obtain⟨a,c,rfl,hx⟩:=h.1;refine⟨a,c,rfl,fun hne=>?_⟩
 obtain⟨g,off,rfl,hc⟩:=hx hne;have hg:=hT g (h.2 g rfl);refine⟨g,off,rfl,fun j u hu=>?_⟩
 have:=hc j u hu;unfold World.cell? at this ⊢;rw[Below.heap_alloc w o g hg] at this;rw[Below.heap_alloc w o' g hg];exact this
def uat (l:Nat)(D:Un)(a:Nat):Cl:=if a<l then (3,[]) else zaT D a
theorem ziY (F:Nat→Prop)(b e l a:Nat)(D:Un)(w:World)(h:zcn F w b e l D)(ha:a≤1048576) :
 Calls Tryz.prog 192 #[.pointer (some ⟨b,0,none⟩),.int .i64 a] w fun r w'=>∃v,r = .returned v∧zcS w' F v (uat l D a)∧za zq2 w w':=by
 obtain⟨T,m,h⟩:=h;have kA:za zq2 w (w.alloc (zqZ 0 (.slice none 0 0))):=(za.refl _ _).alloc _;have hA:=h.keep kA (fun _ _ e=>e)
 have c1:=un_1 hA.blk;have c2:=un_2 hA.blk;have hkey:=zee a (by omega)
 have M:=zz0 hA.cells;have IF:=zz0 h.inF.2.2;have hB:=ze w (zqZ 0 (.slice none 0 0));have B:=zz0 hB;have hz:=Tryz.zeroValue45;unfold zqZ at c1 c2;have HT:=zz0 h.outT.2.2;clear h hA;by_cases hl:a<l
 ·have e0:uat l D a=(3,[]):=if_pos hl
  rw[e0]
  go_enter Tryz.func192,Tryz.ntmps192
  go_wp2_with fail
  have hb:=ze w (zqZ 3 (.slice none 0 0));have k0:=cl0 hb;have k1:=cl1 hb;unfold zqZ at k0 k1;refine bodyPost_ret (v:=.agg #[.int .i64 3,.slice none 0 0]) (by simp[results,Tryz.results192,go_sem,k0,k1]) rfl ?_
  exact⟨_,rfl,zcS.nil _ _ 3,(za.refl _ _).alloc _⟩
 ·have e0:uat l D a=zaT D a:=if_neg hl
  rw[e0];have hl2:¬(a:Int)<l:=by omega
  go_enter Tryz.func192,Tryz.ntmps192
  go_wp2_with(at_lookup;refine zi2 rfl _ _ 33 rfl 45 zbm Tryz.underlying33 (hz _) ((0,[]):Cl) (zcS.fun1 _ T) (zcS.nil _ _ 0) rfl M.out _ _ rfl hkey ?_;intro v y hv hat;have HV:=zz0 hv;have HAT:=zz0 hat;obtain⟨u,rfl,⟨ua,uc,rfl,_⟩,_⟩:=hv;clear hat)
  have e1:zaT D a=y:=by unfold zaT;rw[HAT.out];rfl
  rw[e1];have hb:=ze w (zqZ y.1 (.slice ua y.2.length uc));have k0:=cl0 hb;have k1:=cl1 hb;unfold zqZ at k0 k1;refine bodyPost_ret (v:=.agg #[.int .i64 y.1,.slice ua y.2.length uc]) (by simp[results,Tryz.results192,go_sem,k0,k1]) rfl ?_
  have hv:=HV.out;rw[List.length_map] at hv;refine⟨_,rfl,?_,(za.refl _ _).alloc _⟩;obtain⟨u,eu,hu⟩:=hv;exact⟨u,eu,zjY HT.out hu IF.out⟩
end Go.Proofs.YtpojgmeoaflmoaaGreatDoor
