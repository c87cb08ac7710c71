/- Units in memory; their small functions: walked. · unit.Fill: walked. · unit.Read, Copy, Write: walked. · unit.tail, Seal: walked. · unit.Write: walked -/
import Derived.Lib.SlMapFilter
import Derived.Test.YtnboipdpccnedaaGreatDoorQ07
import Derived.Test.YtnboipdpccnedaaGreatDoorQ08
set_option linter.unusedVariables false
set_option maxRecDepth 100000
set_option maxHeartbeats 16000000
namespace Go.Proofs.YtnboipdpccnedaaGreatDoor
open Go.RowKit Go.Maps
def ClIn (w:World) (T:Nat→Prop) (v:Value) (x:Cl):Prop:=∃ u,v = .agg #[.int .i64 x.1,u]∧BsIn w T u x.2
theorem ClIn.fun1 (w:World) (T:Nat→Prop):Fun1 (ClIn w T):=by
  rintro v ⟨k,l⟩ ⟨k',l'⟩ ⟨u,rfl,h⟩ ⟨u',e,h'⟩
  simp only [Value.agg.injEq,Array.mk.injEq,List.cons.injEq,Value.int.injEq,true_and,and_true] at e
  obtain ⟨e1,e2⟩:=e
  subst e2
  subst e1
  have e:l=l':=BsIn.fun1 w T _ _ _ h h'
  rw [e]
theorem ClIn.keep {w w':World} {S T U:Nat→Prop} {v:Value} {x:Cl} (h:ClIn w T v x) (k:Keep S w w') (hn:∀ g,T g→¬ S g) (hu:∀ g,T g→U g):ClIn w' U v x:=by
  obtain ⟨u,e,hb⟩:=h
  exact ⟨u,e,hb.keep k hn hu⟩
theorem BsIn.nil (w:World) (T:Nat→Prop) (c:Nat):BsIn w T (.slice none 0 c) []:=⟨⟨none,c,rfl,fun h=>absurd rfl h⟩,fun g e=>by cases e⟩
theorem ClIn.nil (w:World) (T:Nat→Prop) (k:Int):ClIn w T (.agg #[.int .i64 k,.slice none 0 0]) (k,[]):=⟨_,rfl,BsIn.nil w T 0⟩
abbrev Un:=DataW Cl
def ulit (a:Nat):Lit:=.int .i64 a
def heldC:DataW Cl→Cl
  | .held x=>x
  | _=>(0,[])
def ucell (D:Un) (a:Nat):Cl:=heldC (D.atKey (ulit a) (.held (0,[])))
def uput (D:Un) (a:Nat) (x:Cl):Un:=D.put (ulit a) (.held x)
theorem znp (a:Nat):WideAt.IsKeyLit (ulit a):=trivial
theorem zpu {a b:Nat} (h:a≠b):ulit a≠ulit b:=fun e=>h (by unfold ulit at e;injection e with _ e;omega)
theorem zeQ {D:Un} {a:Nat} {x:Cl} (h:IsMap D):ucell (uput D a x) a=x:=by unfold ucell uput;rw [atKey_put_same h (znp a)];rfl
theorem zcf {D:Un} {a b:Nat} {x:Cl} (h:b≠a):ucell (uput D a x) b=ucell D b:=by unfold ucell uput;rw [atKey_put_other (zpu h)]
abbrev CsMap (w:World) (T:Nat→Prop) (b:Nat) (D:Un):Prop:=MapAt w 3 (ClIn w T) b D
theorem CsMap.keep {w w':World} {S T U:Nat→Prop} {b:Nat} {D:Un} (h:CsMap w T b D) (k:Keep S w w') (hb:¬ S b) (hn:∀ g,T g→¬ S g) (hu:∀ g,T g→U g):CsMap w' U b D :=
  MapAt.keep h k hb (ClIn.fun1 _ _) (fun v x hx=>hx.keep k hn hu)
theorem zbn:Keyed Tryz.prog 3:=int_keyed Tryz.underlying3
theorem zfT (a:Nat) (h:a≤4611686018427387904):keyOf Tryz.prog 3 (.int .i64 a)=some (ulit a) :=
  keyOf_int_mk Tryz.underlying3 (by simp only [Lit.wf,IntKind.min,IntKind.max,IntKind.signed,IntKind.bits,Bool.and_eq_true,decide_eq_true_eq,if_true];omega)
def UnB (e l m:Nat):Obj:=.cells #[.int .i64 e,.int .i64 l,.map (some m)] 285 (0,0)
section
variable {w : World} {b e l m : Nat}
theorem un_0 (h:w.heap[b]? = some (UnB e l m)):w.cell? ⟨b,0,none⟩=some (.int .i64 e):=by simp [World.cell?,h,UnB]
theorem un_1 (h:w.heap[b]? = some (UnB e l m)):w.cell? ⟨b,1,none⟩=some (.int .i64 l):=by simp [World.cell?,h,UnB]
theorem un_2 (h:w.heap[b]? = some (UnB e l m)):w.cell? ⟨b,2,none⟩=some (.map (some m)):=by simp [World.cell?,h,UnB]
theorem un_f (h:w.heap[b]? = some (UnB e l m)) (i:Nat):w.frozen? ⟨b,i,none⟩=false:=by simp [World.frozen?,h,UnB]
theorem zpv (h:w.heap[b]? = some (UnB e l m)) (k:Nat):(w.setCell ⟨b,0,none⟩ (.int .i64 k)).heap[b]? = some (UnB k l m):=zaf h 0 _
theorem zpw (h:w.heap[b]? = some (UnB e l m)) (k:Nat):(w.setCell ⟨b,1,none⟩ (.int .i64 k)).heap[b]? = some (UnB e k m):=zaf h 1 _
end
def keysOk (D:Un):Prop:=∀ kl,has D kl=true→∃ a:Nat,kl=ulit a∧a < 1048576
theorem keysOk.nil:keysOk (.map []):=fun kl h=>by simp [has] at h
theorem keysOk.put {D:Un} (h:keysOk D) {a:Nat} (ha:a < 1048576) (x:Cl):keysOk (uput D a x):=by
  intro kl hk
  by_cases e:kl=ulit a
  · exact ⟨a,e,ha⟩
  · exact h kl (by rw [← hk];unfold uput;rw [has_put_other e])
structure UnIn (F T:Nat→Prop) (w:World) (b m e l:Nat) (D:Un):Prop where
  blk:w.heap[b]? = some (UnB e l m)
  cells:CsMap w T m D
  inF:F b∧F m∧∀ g,T g→F g
  apart:b≠m
  outT:¬ T b∧¬ T m∧∀ g,T g→g < w.heap.size
  ep:e≤1099511627776
  lo:l≤1048576
  keys:keysOk D
def UnAt (F:Nat→Prop) (w:World) (b e l:Nat) (D:Un):Prop:=∃ T m,UnIn F T w b m e l D
theorem UnIn.keep {F T S:Nat→Prop} {w w':World} {b m e l:Nat} {D:Un} (h:UnIn F T w b m e l D) (k:Keep S w w') (hn:∀ g,F g→¬ S g):UnIn F T w' b m e l D :=
  ⟨k.at h.blk (hn _ h.inF.1),h.cells.keep k (hn _ h.inF.2.1) (fun g e=>hn g (h.inF.2.2 g e)) (fun _ e=>e),h.inF,h.apart,⟨h.outT.1,h.outT.2.1,fun g e=>k.lt (h.outT.2.2 g e)⟩,h.ep,h.lo,h.keys⟩
theorem UnAt.keep {F S:Nat→Prop} {w w':World} {b e l:Nat} {D:Un} (h:UnAt F w b e l D) (k:Keep S w w') (hn:∀ g,F g→¬ S g):UnAt F w' b e l D:=by
  obtain ⟨T,m,h⟩:=h
  exact ⟨T,m,h.keep k hn⟩
theorem UnAt.keepNon {F:Nat→Prop} {w w':World} {b e l:Nat} {D:Un} (h:UnAt F w b e l D) (k:Keep Non w w'):UnAt F w' b e l D:=h.keep k (fun _ _ e=>e)
theorem UnAt.mono {F G:Nat→Prop} {w:World} {b e l:Nat} {D:Un} (h:UnAt F w b e l D) (hs:∀ g,F g→G g):UnAt G w b e l D:=by
  obtain ⟨T,m,h⟩:=h
  exact ⟨T,m,h.blk,h.cells,⟨hs _ h.inF.1,hs _ h.inF.2.1,fun g e=>hs g (h.inF.2.2 g e)⟩,h.apart,h.outT,h.ep,h.lo,h.keys⟩
theorem zcr (x most:Int) (w:World) (h1:0≤x) (h2:x≤most) :
    Calls Tryz.prog 231 #[.int .i64 x,.int .i64 most] w fun e w'=>e = .returned (.bool true)∧w'=w:=by
  go_enter Tryz.func231,Tryz.ntmps231
  go_wp2_with fail
  go_ret
  exact ⟨rfl,rfl⟩
theorem zaD (w:World) (a b:Obj):((w.alloc a).alloc b).heap[w.heap.size+1]? = some b:=by have:=zab (w.alloc a) b;rwa [show (w.alloc a).heap.size=w.heap.size+1 by simp] at this
theorem zlD (w:World) :
    Calls Tryz.prog 247 #[] w fun e w'=>∃ b,e = .returned (.pointer (some ⟨b,0,none⟩))∧Keep Non w w'∧UnAt (fun g=>w.heap.size≤g∧g < w'.heap.size) w' b 0 0 (.map []):=by
  have hmm:=@run_makeMap Tryz.prog
  go_enter Tryz.func247,Tryz.ntmps247
  go_wp2_with fail
  go_ret
  have k1:Keep Non w (w.alloc (.map #[] 0)):=(Keep.refl _ _).alloc _
  have k2:Keep Non (w.alloc (.map #[] 0)) ((w.alloc (.map #[] 0)).alloc (UnB 0 0 w.heap.size)):=(Keep.refl _ _).alloc _
  have hb:=zaD w (.map #[] 0) (UnB 0 0 w.heap.size)
  have hm:CsMap (w.alloc (.map #[] 0)) Non w.heap.size (.map []):=MapAt.new w _ _
  exact ⟨_,rfl,k1.trans1 k2,Non,_,hb,hm.keep k2 (fun e=>e) (fun _ e=>e.elim) (fun _ e=>e),⟨by first | (simp;done) | (simp;omega),by first | (simp;done) | (simp;omega),fun _ e=>e.elim⟩,by omega,⟨fun e=>e,fun e=>e,fun _ e=>e.elim⟩,by omega,by omega,keysOk.nil⟩
theorem zdp (F:Nat→Prop) (b e l:Nat) (D:Un) (w:World) (h:UnAt F w b e l D) :
    Calls Tryz.prog 304 #[.pointer (some ⟨b,0,none⟩),.int .i64 e] w fun r w'=>r = .returned .nilIface∧w'=w:=by
  obtain ⟨T,m,h⟩:=h
  have c0:=un_0 h.blk
  clear h
  go_enter Tryz.func304,Tryz.ntmps304
  go_wp2_with fail
  go_ret
  exact ⟨rfl,rfl⟩
theorem zcZ (F:Nat→Prop) (b e l:Nat) (D:Un) (w:World) (h:UnAt F w b e l D) :
    Calls Tryz.prog 230 #[.pointer (some ⟨b,0,none⟩),.int .i64 e,.bool true] w fun r w'=>r = .returned .nilIface∧w'=w:=by
  have CU:=zz0 (zdp F b e l D w h)
  clear h
  go_enter Tryz.func230,Tryz.ntmps230
  go_wp2_with (go_at_call 304;refine CU.out.mono ?_;rintro r w1 ⟨rfl,e1⟩;subst e1)
  go_ret
  exact ⟨rfl,rfl⟩
theorem zit (F:Nat→Prop) (b e l:Nat) (D:Un) (w:World) (h:UnAt F w b e l D) :
    Calls Tryz.prog 133 #[.pointer (some ⟨b,0,none⟩)] w fun r w'=>r = .returned (.int .i64 l)∧w'=w:=by
  obtain ⟨T,m,h⟩:=h
  have c1:=un_1 h.blk
  clear h
  go_enter Tryz.func133,Tryz.ntmps133
  go_wp2_with fail
  go_ret
  exact ⟨rfl,rfl⟩
theorem zjs (F:Nat→Prop) (b e l:Nat) (D:Un) (w:World) (h:UnAt F w b e l D) :
    Calls Tryz.prog 373 #[.pointer (some ⟨b,0,none⟩)] w fun r w'=>r = .returned (.int .i64 e)∧w'=w:=by
  obtain ⟨T,m,h⟩:=h
  have c1:=un_0 h.blk
  clear h
  go_enter Tryz.func373,Tryz.ntmps373
  go_wp2_with fail
  go_ret
  exact ⟨rfl,rfl⟩
theorem ziz {w:World} {o o':Obj} {T F:Nat→Prop} {v:Value} {l:List UInt8} (hT:∀ g,T g→g < w.heap.size) (h:BsIn (w.alloc o) T v l) (hF:∀ g,T g→F g):BsIn (w.alloc o') F v l:=by
  refine ⟨?_,fun g e=>hF g (h.2 g e)⟩
  obtain ⟨a,c,rfl,hx⟩:=h.1
  refine ⟨a,c,rfl,fun hne=>?_⟩
  obtain ⟨g,off,rfl,hc⟩:=hx hne
  have hg:=hT g (h.2 g rfl)
  refine ⟨g,off,rfl,fun j u hu=>?_⟩
  have:=hc j u hu
  unfold World.cell? at this ⊢
  rw [Below.heap_alloc w o g hg] at this
  rw [Below.heap_alloc w o' g hg]
  exact this
def uat (l:Nat) (D:Un) (a:Nat):Cl:=if a < l then (3,[]) else ucell D a
theorem zhB (F:Nat→Prop) (b e l a:Nat) (D:Un) (w:World) (h:UnAt F w b e l D) (ha:a≤1048576) :
    Calls Tryz.prog 233 #[.pointer (some ⟨b,0,none⟩),.int .i64 a] w fun r w'=>∃ v,r = .returned v∧ClIn w' F v (uat l D a)∧Keep Non w w':=by
  obtain ⟨T,m,h⟩:=h
  have kA:Keep Non w (w.alloc (ClB 0 (.slice none 0 0))):=(Keep.refl _ _).alloc _
  have hA:=h.keep kA (fun _ _ e=>e)
  have c1:=un_1 hA.blk
  have c2:=un_2 hA.blk
  have hkey:=zfT a (by omega)
  have M:=zz0 hA.cells
  have IF:=zz0 h.inF.2.2
  have hB:=zab w (ClB 0 (.slice none 0 0))
  have B:=zz0 hB
  have hz:=Tryz.zeroValue60
  unfold ClB at c1 c2
  have HT:=zz0 h.outT.2.2
  clear h hA
  by_cases hl:a < l
  · have e0:uat l D a=(3,[]):=if_pos hl
    rw [e0]
    go_enter Tryz.func233,Tryz.ntmps233
    go_wp2_with fail
    have hb:=zab w (ClB 3 (.slice none 0 0))
    have k0:=cl0 hb
    have k1:=cl1 hb
    unfold ClB at k0 k1
    refine bodyPost_ret (v:=.agg #[.int .i64 3,.slice none 0 0]) (by simp [results,Tryz.results233,go_sem,k0,k1]) rfl ?_
    exact ⟨_,rfl,ClIn.nil _ _ 3,(Keep.refl _ _).alloc _⟩
  · have e0:uat l D a=ucell D a:=if_neg hl
    rw [e0]
    have hl2:¬ (a:Int) < l:=by omega
    go_enter Tryz.func233,Tryz.ntmps233
    go_wp2_with (at_lookup;refine zhF rfl _ _ 283 rfl 60 zbn Tryz.underlying283 (hz _) ((0,[]):Cl) (ClIn.fun1 _ T) (ClIn.nil _ _ 0) rfl M.out _ _ rfl hkey ?_;intro v y hv hat;have HV:=zz0 hv;have HAT:=zz0 hat;obtain ⟨u,rfl,⟨ua,uc,rfl,_⟩,_⟩:=hv;clear hat)
    have e1:ucell D a=y:=by unfold ucell;rw [HAT.out];rfl
    rw [e1]
    have hb:=zab w (ClB y.1 (.slice ua y.2.length uc))
    have k0:=cl0 hb
    have k1:=cl1 hb
    unfold ClB at k0 k1
    refine bodyPost_ret (v:=.agg #[.int .i64 y.1,.slice ua y.2.length uc]) (by simp [results,Tryz.results233,go_sem,k0,k1]) rfl ?_
    have hv:=HV.out
    rw [List.length_map] at hv
    refine ⟨_,rfl,?_,(Keep.refl _ _).alloc _⟩
    obtain ⟨u,eu,hu⟩:=hv
    exact ⟨u,eu,ziz HT.out hu IF.out⟩
def UnTo (F:Nat→Prop) (w:World) (b e l:Nat) (D:Un) (w':World):Prop:=Keep F w w'∧∃ F',Sub F' F w∧UnAt F' w' b e l D
theorem zf8 {w w':World} {T:Nat→Prop} {b:Nat} {D:Un} (h:MapAt w' 3 (ClIn w T) b D) (k:Keep (One b) w w') (hT:¬ T b):CsMap w' T b D :=
  MapAt.keep h (Keep.refl Non w') (fun e=>e) (ClIn.fun1 _ _) (fun v x hx=>hx.keep k (fun g hg e=>hT (by have e':g=b:=e;rw [← e'];exact hg)) (fun _ e=>e))
theorem UnIn.turned {F T:Nat→Prop} {w w':World} {b m e l:Nat} {D D':Un} (h:UnIn F T w b m e l D) (k:Keep (One m) w w') (hc:MapAt w' 3 (ClIn w T) m D') (hk:keysOk D'):UnIn F T w' b m e l D' :=
  ⟨k.at h.blk h.apart,zf8 hc k h.outT.2.1,h.inF,h.apart,⟨h.outT.1,h.outT.2.1,fun g e=>k.lt (h.outT.2.2 g e)⟩,h.ep,h.lo,hk⟩
theorem zhP (k:Int) (u:Value) (w:World):(Instr.field 60 (.agg #[.int .i64 k,u]) 0).run Tryz.prog w = .ok (.int .i64 k) w:=by kernel_rfl
theorem zjt (F:Nat→Prop) (b e l a:Nat) (D:Un) (w:World) (h:UnAt F w b e l D) (ha:a≤1048575) (hs:size D≤1000000) (h3:(uat l D a).1≠3) (h1:(uat l D a).1≠1) :
    Calls Tryz.prog 253 #[.pointer (some ⟨b,0,none⟩),.int .i64 e,.int .i64 a] w fun r w'=>r = .returned .nilIface∧UnTo F w b e l (uput D a (2,[])) w':=by
  have AS:=zz0 (zcZ F b e l D w h)
  have AT:=zz0 (zhB F b e l a D w h (by omega))
  obtain ⟨T,m,h⟩:=h
  have H:=zz0 h
  have hkey:=zfT a (by omega)
  have B:=zz0 h.blk
  have fd:=zhP
  clear h
  generalize (uat l D a)=x at AT h3 h1
  obtain ⟨kx,lx⟩:=x
  dsimp only at h3 h1
  go_enter Tryz.func253,Tryz.ntmps253
  go_wp2_with (first
    | (go_at_call 231;refine (zcr _ _ _ (by omega) (by omega)).mono ?_;rintro r w1 ⟨rfl,e1⟩;subst e1)
    | (go_at_call 230;refine AS.out.mono ?_;rintro r w1 ⟨rfl,e1⟩;subst e1)
    | (go_at_call 233;refine AT.out.mono ?_;rintro r w1 ⟨v,rfl,⟨u,rfl,_⟩,k1⟩;have K1:=zz0 k1;have c2:=un_2 (k1.at B.out (fun e=>e));have H1:=zz0 (H.out.keep k1 (fun _ _ e=>e));clear k1)
    | (at_mapUpdate;refine zbW rfl _ _ _ 283 rfl 60 zbn Tryz.underlying283 (ClIn.fun1 _ T) rfl H1.out.cells (by unfold maxLen;omega) _ _ _ rfl rfl hkey ((2,[]):Cl) (ClIn.nil _ _ 2) ?_;intro w2 hm2 ht2;have M2:=zz0 hm2;have K2:=zz0 (zaL ht2);clear hm2 ht2))
  go_ret
  exact ⟨rfl,K1.out.trans K2.out (fun _ _ e=>e.elim) (fun g _ e=>by have e':g=m:=e;rw [e'];exact H.out.inF.2.1),F,Sub.refl _ _,T,m,H1.out.turned K2.out M2.out (H.out.keys.put (by omega) _)⟩
theorem zlE (F:Nat→Prop) (b e l a:Nat) (D:Un) (w:World) (h:UnAt F w b e l D) (ha:a≤1048575) (hx:(uat l D a).2.length≤100000000) :
    Calls Tryz.prog 168 #[.pointer (some ⟨b,0,none⟩),.int .i64 e,.int .i64 a] w fun r w'=>∃ v,r = .returned (.tuple #[.agg #[.int .i64 (uat l D a).1,v],.nilIface])∧Keep Non w w'∧w'.ownsRow w.heap.size 5 1 v (uat l D a).2.length ((uat l D a).2.map bv):=by
  have AS:=zz0 (fun W (k:Keep Non w W)=>zcZ F b e l D W (h.keepNon k))
  have AT:=zz0 (fun W (k:Keep Non w W)=>zhB F b e l a D W (h.keepNon k) (by omega))
  clear h
  generalize (uat l D a)=x at AT hx ⊢
  obtain ⟨kx,lx⟩:=x
  dsimp only at hx ⊢
  go_enter Tryz.func168,Tryz.ntmps168
  have kA:Keep Non w (w.alloc (ClB 0 (.slice none 0 0))):=(Keep.refl _ _).alloc _
  have ASA:=zz0 (AS.out _ kA)
  have ATA:=zz0 (AT.out _ kA)
  have KA:=zz0 kA
  have B0:=zz0 (zab w (ClB 0 (.slice none 0 0)))
  have CP:=zz0 (fun W v (h:Bs W v lx)=>zf4 kx v lx W h hx)
  dsimp only [ClB] at ASA ATA
  clear kA AS AT
  go_wp2_with (first
    | (go_at_call 231;refine (zcr _ _ _ (by omega) (by omega)).mono ?_;rintro r w1 ⟨rfl,rfl⟩)
    | (go_at_call 230;refine ASA.out.mono ?_;rintro r w1 ⟨rfl,rfl⟩)
    | (go_at_call 233;refine ATA.out.mono ?_;rintro r w1 ⟨v,rfl,⟨u,rfl,hu,_⟩,k1⟩;have K1:=zz0 (KA.out.trans1 k1);have CPW:=zz0 (CP.out w1 u hu);have B1:=zz0 (k1.at B0.out (fun e=>e));clear k1 hu)
    | (go_at_call 232;refine CPW.out.mono ?_;rintro r w2 ⟨v2,rfl,k2,o2⟩;obtain ⟨a2,c2,rfl,_,_⟩:=zaa o2;have K2:=zz0 (K1.out.trans1 k2);have O2:=zz0 (zad o2 K1.out.size);have b2:=k2.at B1.out (fun e=>e);have S2:Hid (w.heap.size < w1.heap.size):=zz0 (lt_of_block B1.out);have OG:Hid (∀ g,(Value.slice a2 lx.length c2).ownBlock=some g→w1.heap.size≤g):=zz0 (fun g e=>(o2.lt g e).1);have d0:=cl0 b2;have d1:=cl1 b2;have f0:=clf b2 0;have f1:=clf b2 1;have k0':=cl0 (zaY b2 kx);have q0:=cl0 (zbd (zaY b2 kx) (.slice a2 lx.length c2));have q1:=cl1 (zbd (zaY b2 kx) (.slice a2 lx.length c2));clear k2 o2 b2))
  refine bodyPost_ret (v:=.tuple #[.agg #[.int .i64 kx,.slice a2 lx.length c2],.nilIface]) (by simp [results,Tryz.results168,go_sem,q0,q1]) rfl ?_
  have s2:=S2.out
  have k3:Keep (One w.heap.size) w2 ((w2.setCell ⟨w.heap.size,0,none⟩ (.int .i64 kx)).setCell ⟨w.heap.size,1,none⟩ (.slice a2 lx.length c2)):=((Keep.refl _ _).setOne _ _).setOne _ _
  exact ⟨_,rfl,K2.out.trans k3 (fun _ _ e=>e) (fun g hg e=>by have e':g=w.heap.size:=e;omega),zac O2.out k3 (fun g hg e=>by have e':g=w.heap.size:=e;have:=OG.out g hg;omega)⟩
theorem zgR (F:Nat→Prop) (b e l:Nat) (D:Un) (w:World) (h:UnAt F w b e l D) (hF:∀ g,F g→g < w.heap.size) :
    Calls Tryz.prog 178 #[.pointer (some ⟨b,0,none⟩)] w fun r w'=>∃ b',r = .returned (.pointer (some ⟨b',0,none⟩))∧Keep Non w w'∧w.heap.size≤b'∧UnAt (fun g=>F g∨(w.heap.size≤g∧g < w'.heap.size)) w' b' e l D:=by
  obtain ⟨T,m,h⟩:=h
  have c0:=un_0 h.blk
  have c1:=un_1 h.blk
  have c2:=un_2 h.blk
  obtain ⟨es,clock,hm,hma,hmb⟩:=ze8 h.cells
  have H:=zz0 h
  clear h
  go_enter Tryz.func178,Tryz.ntmps178
  have MC:=zz0 (zgk m es clock w.drew hm)
  have d0:w.drew.cell? ⟨b,0,none⟩=some (.int .i64 e):=c0
  have d1:w.drew.cell? ⟨b,1,none⟩=some (.int .i64 l):=c1
  have d2:w.drew.cell? ⟨b,2,none⟩=some (.map (some m)):=c2
  have kd:Keep Non w (w.alloc (.map es clock)):=(Keep.refl _ _).alloc _
  have hd:=H.out.keep kd (fun _ _ e=>e)
  have e0:=un_0 hd.blk
  have e1:=un_1 hd.blk
  go_wp2_with fail
  go_region_law (go_simp;go_at_call 249;refine MC.out.mono ?_;rintro r w1 ⟨rfl,rfl⟩)
  all_goals go_wp2_with fail
  all_goals
    go_ret
    have k2:Keep Non (w.alloc (.map es clock)) ((w.alloc (.map es clock)).alloc (UnB e l w.heap.size)).drew:=((Keep.refl _ _).alloc _).drew
    have hb:((w.alloc (.map es clock)).alloc (UnB e l w.heap.size)).drew.heap[w.heap.size+1]? = some (UnB e l w.heap.size):=zaD w (.map es clock) (UnB e l w.heap.size)
    have kk:Keep Non w ((w.alloc (.map es clock)).alloc (UnB e l w.heap.size)).drew:=kd.trans1 k2
    have hT:=H.out.outT.2.2
    exact ⟨w.heap.size+1,rfl,kk,by omega,T,w.heap.size,hb,MapAt.keep hma k2 (fun x=>x) (ClIn.fun1 _ _) (fun v x hx=>hx.keep kk (fun _ _ x=>x) (fun _ x=>x)),⟨.inr (by first | (simp;done) | (simp;omega)),.inr (by first | (simp;done) | (simp;omega)),fun g x=>.inl (H.out.inF.2.2 g x)⟩,by omega,⟨fun x=>by have:=hT _ x;omega,fun x=>by have:=hT _ x;omega,fun g x=>kk.lt (hT g x)⟩,H.out.ep,H.out.lo,H.out.keys⟩
theorem zkq {key:Value} {kl:Lit} (h:keyOf Tryz.prog 3 key=some kl):∃ x:Int,key = .int .i64 x:=by
  obtain ⟨x,e,_⟩:=Maps.keyOf_int_inv Tryz.underlying3 h
  exact ⟨x,e⟩
theorem zd9 {x:Int} {kl:Lit} (h:keyOf Tryz.prog 3 (.int .i64 x)=some kl):kl = .int .i64 x:=by
  obtain ⟨y,e,rfl,_⟩:=Maps.keyOf_int_inv Tryz.underlying3 h
  injection e with _ e
  rw [e]
theorem zj4 {w:World} {T:Nat→Prop} {v:Value} {y:DataW Cl × List MemPlace} (h:readAs (ClIn w T) v=some y):∃ c:Int × Option Addr × Nat × Nat,v = .agg #[.int .i64 c.1,.slice c.2.1 c.2.2.1 c.2.2.2]:=by
  obtain ⟨y1,y2⟩:=y
  obtain ⟨_,l,_,u,rfl,hb,_⟩:=zbj h
  obtain ⟨a,c,rfl,_⟩:=hb
  exact ⟨(l.1,a,_,c),rfl⟩
theorem zju (F:Nat→Prop) (b e l:Nat) (D:Un) (w:World) (h:UnAt F w b e l D) :
    Calls Tryz.prog 320 #[.pointer (some ⟨b,0,none⟩)] w fun r w'=>∃ n:Nat,r = .returned (.int .i64 n)∧n≤1048576∧Keep Non w w':=by
  obtain ⟨T,m,h⟩:=h
  have c1:=un_1 h.blk
  have c2:=un_2 h.blk
  have M:=zz0 h.cells
  have KO:=zz0 h.keys
  have hlo:=h.lo
  clear h
  go_enter Tryz.func320,Tryz.ntmps320
  go_wp2_with (at_range;refine wpList_range_own _ rfl _ 283 rfl 3 60 zbn Tryz.underlying283 _ m _ _ rfl M.out ?_;intro w0 hrg0 hg0 hs0)
  go_frame
  have HR:=zz0 hrg0
  have K0:=zz0 ((Keep.refl Non w).grown hg0 (row:=none) (fun k e=>by cases e))
  clear hrg0 hg0
  go_loopw [3] (fun o wr=>∃ left cnt,∃ n:Nat,wr.ranges Tryz.prog 3 (readAs (ClIn w T)) m w.heap.size (size D) D left cnt∧o = .int .i64 n∧n≤1048576∧Keep Non w wr) (fun _ wr=>wr.rangeLeft m w.heap.size)
  case atStart=>exact ⟨_,_,l,HR.out,rfl,hlo,K0.out⟩
  case round =>
    obtain ⟨left,cnt,n,hrg,rfl,hn,hk⟩:=hrel
    have RG:=zz0 hrg
    have K:=zz0 hk
    clear hrg hk
    go_wp2_with (at_next;refine wpList_next_ranges (α:=Int) (β:=Int × Option Addr × Nat × Nat) _ rfl _ rfl 3 zbn (readAs (ClIn w T)) (fun x=>.int .i64 x) (fun c=>.agg #[.int .i64 c.1,.slice c.2.1 c.2.2.1 c.2.2.2]) (fun _ _ h=>zkq h) (fun _ _ h=>zj4 h) m w.heap.size _ _ _ _ rfl RG.out ?_ ?_)
    · intro hc0 hl0
      go_wp2_with fail
      go_ret
      exact ⟨n,rfl,hn,K.out⟩
    · intro x c1 c2 c3 c4 kl y1 y2 w1 cnt1 hkx hlx hR hat hrg1 hlt hg1 hs1 hen
      obtain rfl:=zd9 hkx
      obtain ⟨a,ea,ha⟩:=KO.out _ (has_true_of_atKey hat)
      obtain rfl:x=(a:Int):=by unfold ulit at ea;injection ea
      have hmx:max (n:Int) ((a:Int)+1)=((max n (a+1):Nat):Int):=by omega
      have K1:=zz0 (K.out.grown hg1 (fun k e=>by injection e with e;subst e;exact .inr (Nat.le_refl _)))
      have RG1:=zz0 hrg1
      have HLT:Hid (w1.rangeLeft m w.heap.size < wr.rangeLeft m w.heap.size):=zz0 (by rw [hrg1.left_eq,RG.out.left_eq];exact hlt)
      clear hkx hlx hR hat hrg1 hlt hg1 hs1 RG K ea
      go_wp2_with fail
      exact ⟨⟨_,_,max n (a+1),RG1.out,by first | rfl | (rw [hmx]) | go_num,by omega,K1.out⟩,HLT.out⟩
theorem zlF (F:Nat→Prop) (b e e' l:Nat) (D:Un) (w:World) (h:UnAt F w b e l D) (he:e < e') (he':e'≤1099511627776) :
    Calls Tryz.prog 251 #[.pointer (some ⟨b,0,none⟩),.int .i64 e'] w fun r w'=>(∃ n:Nat,r = .returned (.tuple #[.int .i64 n,.nilIface]))∧UnTo F w b e' l D w':=by
  have H:=zz0 h
  obtain ⟨T,m,h⟩:=h
  have c0:=un_0 h.blk
  have f0:=un_f h.blk 0
  have kS:Keep (One b) w (w.setCell ⟨b,0,none⟩ (.int .i64 e')):=(Keep.refl _ _).setOne 0 _
  have hU:UnIn F T (w.setCell ⟨b,0,none⟩ (.int .i64 e')) b m e' l D:=⟨zpv h.blk e',h.cells.keep kS (fun x=>h.apart x.symm) (fun g hg x=>h.outT.1 (by have x':g=b:=x;rw [← x'];exact hg)) (fun _ x=>x),h.inF,h.apart,⟨h.outT.1,h.outT.2.1,fun g x=>kS.lt (h.outT.2.2 g x)⟩,he',h.lo,h.keys⟩
  have TL:=zz0 (zju F b e' l D _ ⟨T,m,hU⟩)
  have HU:=zz0 hU
  have hFb:=h.inF.1
  clear h hU
  go_enter Tryz.func251,Tryz.ntmps251
  go_wp2_with (first
    | (go_at_call 231;refine (zcr _ _ _ (by omega) (by omega)).mono ?_;rintro r w1 ⟨rfl,e1⟩;subst e1)
    | (go_at_call 320;refine TL.out.mono ?_;rintro r w1 ⟨n,rfl,_,k1⟩;have K1:=zz0 k1;clear k1))
  go_ret2
  exact ⟨⟨n,rfl⟩,(kS.mono (fun g _ x=>by have x':g=b:=x;rw [x'];exact hFb)).trans1 K1.out.ofNon,F,Sub.refl _ _,T,m,HU.out.keep K1.out (fun _ _ x=>x)⟩
theorem zjv {F T:Nat→Prop} {w:World} {b m e l a:Nat} {D:Un} {val:Value} {y:Cl} (h:UnIn F T w b m e l D) (hs:size D≤1000000) (ha:a < 1048576) (hv:ClIn w T val y) :
    ∃ w',(Instr.mapUpdate 283 (.map (some m)) (.int .i64 a) val).run Tryz.prog w = .ok () w'∧Keep (One m) w w'∧UnIn F T w' b m e l (uput D a y):=by
  obtain ⟨w',hrun,hm,ht⟩:=World.ownsMap.store h.cells zbn Tryz.underlying283 (by unfold maxLen;omega) (zfT a (by omega)) (zb8 (ClIn.fun1 w T) hv)
  exact ⟨w',hrun,zaL ht,h.turned (zaL ht) (MapAt.of hm) (h.keys.put ha _)⟩
theorem UnIn.more {F T:Nat→Prop} {w:World} {b m e l:Nat} {D:Un} (h:UnIn F T w b m e l D) (T2:Nat→Prop) (h2:∀ g,T2 g→g≠b∧g≠m∧g < w.heap.size):UnIn (fun g=>F g∨T2 g) (fun g=>T g∨T2 g) w b m e l D :=
  ⟨h.blk,h.cells.keep (Keep.refl Non w) (fun x=>x) (fun _ _ x=>x) (fun _ x=>.inl x),⟨.inl h.inF.1,.inl h.inF.2.1,fun g x=>by rcases x with x | x;exact .inl (h.inF.2.2 g x);exact .inr x⟩,h.apart,⟨fun x=>by rcases x with x | x;exact h.outT.1 x;exact (h2 _ x).1 rfl,fun x=>by rcases x with x | x;exact h.outT.2.1 x;exact (h2 _ x).2.1 rfl,fun g x=>by rcases x with x | x;exact h.outT.2.2 g x;exact (h2 g x).2.2⟩,h.ep,h.lo,h.keys⟩
theorem zhC (F:Nat→Prop) (b e l a:Nat) (D:Un) (d:List UInt8) (dv:Value) (w:World) (h:UnAt F w b e l D) (ha:a≤1048575) (hs:size D≤1000000) (hd:Bs w dv d) (hl:d.length≤64) (h0:(uat l D a).1=0) :
    Calls Tryz.prog 252 #[.pointer (some ⟨b,0,none⟩),.int .i64 e,.int .i64 a,dv] w fun r w'=>r = .returned .nilIface∧UnTo F w b e l (uput D a (1,d)) w':=by
  have CU:=zz0 (zdp F b e l D w h)
  have AT:=zz0 (zhB F b e l a D w h (by omega))
  obtain ⟨T,m,h⟩:=h
  have H:=zz0 h
  have hkey:=zfT a (by omega)
  have B:=zz0 h.blk
  have fd:=zhP
  have CL:=zz0 (fun W (k:Keep Non w W)=>za1 dv d W (hd.keepNon k) (by omega))
  obtain ⟨da,dc,rfl,_⟩:=hd
  rw [List.length_map] at CL ⊢
  clear h
  generalize (uat l D a)=x at AT h0
  obtain ⟨kx,lx⟩:=x
  dsimp only at h0
  subst h0
  go_enter Tryz.func252,Tryz.ntmps252
  go_wp2_with (first
    | (go_at_call 231;refine (zcr _ _ _ (by omega) (by omega)).mono ?_;rintro r w1 ⟨rfl,rfl⟩)
    | (go_at_call 304;refine CU.out.mono ?_;rintro r w1 ⟨rfl,rfl⟩)
    | (go_at_call 233;refine AT.out.mono ?_;rintro r w1 ⟨v,rfl,⟨u,rfl,_⟩,k1⟩;have K1:=zz0 k1;have c2:=un_2 (k1.at B.out (fun e=>e));have H1:=zz0 (H.out.keep k1 (fun _ _ e=>e));clear k1))
  have hb1:=H1.out.blk
  have LT:=zz0 (And.intro (lt_of_block H1.out.blk) (MapAt.lt H1.out.cells))
  have CW:=zz0 (CL.out w1.drew (K1.out.trans1 (Keep.refl Non w1).drew))
  have c2d:w1.drew.cell? ⟨b,2,none⟩=some (.map (some m)):=c2
  go_region_law (go_simp;go_at_call 81;refine CW.out.mono ?_;rintro r w2 ⟨v2,rfl,k2',o2⟩;have k2:=(Keep.refl Non w1).drew.trans1 k2';obtain ⟨a2,c2',rfl,_,_⟩:=zaa o2;have H2:=H1.out.keep k2 (fun _ _ x=>x);have e2:=un_2 H2.blk;have HX:=H2.more (fun g=>(Value.slice a2 d.length c2').ownBlock=some g) (fun g x=>by have y:w1.heap.size≤g∧g < w2.heap.size:=o2.lt g x;have z:=LT.out;omega);obtain ⟨w3,hrun,k3,h3⟩:=zjv (a:=a) (val:=.agg #[.int .i64 1,.slice a2 d.length c2']) (y:=(1,d)) HX hs (by omega) ⟨_,rfl,Rd.ofOwns o2,fun g x=>.inr x⟩;have K3:=zz0 k3;have H3:=zz0 h3;have K2:=zz0 (K1.out.trans1 k2);have OB:Hid (∀ g,(Value.slice a2 d.length c2').ownBlock=some g→w1.heap.size≤g):=zz0 (fun g x=>(o2.lt g x).1);clear k2 k2' o2 H2 HX k3 h3)
  all_goals go_wp2_with fail
  all_goals
    go_ret
    refine ⟨rfl,K2.out.trans K3.out (fun _ _ x=>x.elim) (fun g _ x=>by have x':g=m:=x;rw [x'];exact H.out.inF.2.1),_,?_,_,m,H3.out⟩
    intro g x
    rcases x with x | x
    · exact .inl x
    · exact .inr (Nat.le_trans K1.out.size (OB.out g x))
theorem Keep.grownNon {w w':World} (k:Keep Non w w'):w.grownBy w' none:=⟨k.os,k.tape,k.output,k.size,fun i hi _=>k.block i hi (fun e=>e)⟩
theorem zis (g m:Nat) (cv:Value) (T:Nat→Prop) (D:Un) (pd:Lit→Bool) (w:World) (eg:∀ args w,(callFunc g args).run Tryz.prog w = .ok (.enter g args) w) (hm:CsMap w T m D) (hT:¬ T m)
    (hdel:∀ (W:World) (x:Int) (k:Int) (a:Option Addr) (n c:Nat),Keep (One m) w W→Calls Tryz.prog g #[.int .i64 x,.agg #[.int .i64 k,.slice a n c],cv] W fun e w'=>e = .returned (.bool (pd (.int .i64 x)))∧Keep Non W w') :
    Calls Tryz.prog 321 #[.map (some m),.func (.func g) #[] #[cv]] w fun e w'=>e = .returned (.tuple #[])∧Keep (One m) w w'∧CsMap w' T m (Lib.deleteFuncD (fun kl _=>pd kl) D):=by
  have M:=zz0 hm
  have HD:=zz0 hdel
  obtain ⟨es0,rfl,hap,hkeys⟩:=World.ownsMap.entries hm zbn
  have AP:=zz0 hap
  have HK:=zz0 hkeys
  clear hdel hm hap hkeys
  go_enter Tryz.func321,Tryz.ntmps321
  go_wp2_with (at_range;refine wpList_range_own _ rfl _ 283 rfl 3 60 zbn Tryz.underlying283 _ m _ _ rfl M.out ?_;intro w0 hrg0 hg0 hs0)
  go_frame
  have HR:=zz0 hrg0
  have K0:=zz0 ((Keep.refl (One m) w).grown hg0 (row:=none) (fun k e=>by cases e))
  clear hrg0 hg0
  go_loopw [8] (fun _ wr=>∃ (left:Lit→Bool) (cnt:Nat),wr.ranges Tryz.prog 3 (readAs (ClIn w T)) m w.heap.size (size (DataW.map es0)) (Fk (fun kl _=>pd kl) es0 left) left cnt∧Keep (One m) w wr) (fun _ wr=>wr.rangeLeft m w.heap.size)
  case atStart=>exact ⟨_,_,by rw [Fk_start HK.out];exact HR.out,K0.out⟩
  case round =>
    obtain ⟨left,cnt,hrg,hk⟩:=hrel
    have RG:=zz0 hrg
    have K:=zz0 hk
    clear hrg hk
    go_wp2_with (at_next;refine wpList_next_ranges (α:=Int) (β:=Int × Option Addr × Nat × Nat) _ rfl _ rfl 3 zbn (readAs (ClIn w T)) (fun x=>.int .i64 x) (fun c=>.agg #[.int .i64 c.1,.slice c.2.1 c.2.2.1 c.2.2.2]) (fun _ _ h=>zkq h) (fun _ _ h=>zj4 h) m w.heap.size _ _ _ _ rfl RG.out ?_ ?_)
    · intro _ hl0
      have LL:=zz0 hl0
      clear hl0
      go_wp2_with fail
      go_end0
      have h1:=RG.out.owns
      rw [Fk_end LL.out] at h1
      exact ⟨rfl,K.out,zf8 (MapAt.of h1) K.out hT⟩
    · intro x c1 c2 c3 c4 kl yd y2 w1 cnt1 hkx hlx hR hat hrg1 hlt hg1 hs1 hen
      obtain rfl:=zd9 hkx
      have K1:=zz0 (K.out.grown hg1 (fun k e=>by injection e with e;subst e;exact .inr (Nat.le_refl _)))
      have RG1:=zz0 hrg1
      have HLT:Hid (w1.rangeLeft m w.heap.size < wr.rangeLeft m w.heap.size):=zz0 (by rw [hrg1.left_eq,RG.out.left_eq];exact hlt)
      have HX:=zz0 (And.intro hlx (And.intro hkx hat))
      have kA:Keep Non w1 (w1.alloc (ClB c1 (.slice c2 c3 c4))):=(Keep.refl _ _).alloc _
      have RA:=zz0 (hrg1.kept kA.grownNon (by simp) (by simp))
      have CD:=zz0 (HD.out (w1.alloc (ClB c1 (.slice c2 c3 c4))) x c1 c2 c3 c4 (K1.out.trans kA (fun _ _ e=>e) (fun _ _ e=>e.elim)))
      have KA:=zz0 kA
      dsimp only [ClB] at CD
      have hen2:=hen
      clear hkx hlx hR hat hrg1 hlt hg1 hs1 RG K kA
      cases hp:pd (.int .i64 x) <;> rw [hp] at CD
      · go_wp2_with fail
        refine CD.out.mono ?_
        rintro e w2 ⟨rfl,k2⟩
        have RG2:=zz0 (RA.out.kept k2.grownNon (by simp) (by simp))
        have K2:=zz0 ((K1.out.trans KA.out (fun _ _ e=>e) (fun _ _ e=>e.elim)).trans k2 (fun _ _ e=>e) (fun _ _ e=>e.elim):Keep (One m) w w2)
        clear k2 CD
        go_wp2_with fail
        refine ⟨⟨fun z=>left z && !z.sameKey (.int .i64 x),cnt1,?_,K2.out⟩,by rw [RG2.out.left_eq];have:=HLT.out;rw [RG1.out.left_eq] at this;exact this⟩
        rw [← Fk_stays AP.out (zbn.key HX.out.2.1) HX.out.1 hp HX.out.2.2]
        exact RG2.out
      · go_wp2_with fail
        refine CD.out.mono ?_
        rintro e w2 ⟨rfl,k2⟩
        have RG2:=zz0 (RA.out.kept k2.grownNon (by simp) (by simp))
        have K2:=zz0 ((K1.out.trans KA.out (fun _ _ e=>e) (fun _ _ e=>e.elim)).trans k2 (fun _ _ e=>e) (fun _ _ e=>e.elim):Keep (One m) w w2)
        have hkx:=HX.out.2.1
        clear k2 CD
        go_wp2_with (at_delete;refine wpList_delete_ranges _ rfl _ _ 283 3 rfl 60 zbn Tryz.underlying283 _ m w.heap.size _ _ _ _ rfl RG2.out _ _ rfl hkx ?_;intro w3 cnt3 hrg3 hle hturn;go_frame;have RG3:=zz0 hrg3;have LE3:=zz0 hle;have K3:=zz0 (zaL hturn);clear hrg3 hle hturn)
        have hrg3:=RG3.out
        rw [strike_twice] at hrg3
        refine ⟨⟨fun z=>left z && !z.sameKey (.int .i64 x),cnt3,?_,K2.out.trans1 K3.out⟩,by rw [hrg3.left_eq];have:=HLT.out;rw [RG1.out.left_eq] at this;have:=LE3.out;omega⟩
        rw [← Fk_struck AP.out (zbn.key HX.out.2.1) HX.out.1 hp HX.out.2.2]
        exact hrg3
end Go.Proofs.YtnboipdpccnedaaGreatDoor
