/- slices.Equal at parts, cursor.Same: walk -/
import Derived.Test.YtpojgmeoaflmoaaGreatDoorQ28
import Derived.Test.YtpojgmeoaflmoaaGreatDoorQ31
import Derived.Test.YtpojgmeoaflmoaaGreatDoorQ32
set_option linter.unusedVariables false
set_option maxRecDepth 100000
set_option maxHeartbeats 16000000
namespace Go.Proofs.YtpojgmeoaflmoaaGreatDoor
open Go.RowKit Go.Maps
section
attribute [local go_sem ↓] zbB zU zbC zbD zV zbE zab zbK
end
theorem zlk (F:Nat→Prop)(q p:Nat)(n:zqY)(c:Cu)(X:Dk)(w:World)(d:zk F w q p X)(hn:zbg n)(hd:X.down=false)(hh:zz X.shown n=true)(hg:zat X.shown n=zco c)(ok:zdQ c)(hl:(zco c).length≤65536)(hl2:(cuT c).length≤65536) :
 Calls Tryz.prog 112 #[.pointer (some ⟨q,0,none⟩),sv n] w fun e w'=>∃v',e = .returned (.tuple #[cuV c v',.bool true,.nilIface])∧za zq2 w w'∧w'.ownsRow w.heap.size 125 35 v' c.parts.length (zaP c.parts):=by
 have G:=zz0 (fun w1 (k:za zq2 w w1)=>zgW F q p n X w1 (d.keep k (fun _ _ e=>e)) hn hd hh (by rw[hg];omega))
 rw[hg] at G;have CT:=zz0 (fun W v (hb:Bs W v (zco c)) (hc:okc v) (hv:∀g,v.ownBlock=some g→g<W.heap.size)=>zln v c W hb hc hv ok hl2)
 have hne:=zdx 4;clear d hh hg;unfold cuV sv at *
 go_enter Tryz.func112,Tryz.ntmps112
 go_wp2_with(first
  |(go_at_call 48;refine(G.out _ ((za.refl _ _).alloc _)).mono ?_;rintro e w1 ⟨v1,rfl,k1,o1⟩;obtain⟨a1,c1,rfl,_,_⟩:=zb o1;have B1:=zz0 (zh k1 (ze w (zq0 ⟨0,0,0,0,[]⟩ (.slice none 0 0))));have CTW:=zz0 (CT.out w1 _ (Rd.ofOwns o1) (zdA o1) (fun g e=>(o1.lt g e).2));have K1:=zz0 (((za.refl zq2 w).alloc _).trans1 k1);have Z1:Hid (w.heap.size<w1.heap.size):=zz0 (lt_of_block B1.out);clear k1 o1)
  |(go_at_call 175;refine CTW.out.mono ?_;rintro e w2 ⟨v2,rfl,k2,o2⟩;obtain⟨a2,c2,rfl,_,_⟩:=zb o2;have K2:=zz0 k2;have O2:=zz0 o2;have b2:=zh ((za.refl zq2 w2).alloc (zq0 c (.slice a2 c.parts.length c2))) (zh k2 B1.out);have B2:=zz0 b2;have i0':=cu_0 b2;have i1':=cu_1 b2;have i2':=cu_2 b2;have i3':=cu_3 b2;have i4':=cu_4 b2;have j0':=zb5 b2 0;have j1':=zb5 b2 1;have j2':=zb5 b2 2;have j3':=zb5 b2 3;have j4':=zb5 b2 4;dsimp only[zq0] at i0' i1' i2' i3' i4' j0' j1' j2' j3' j4';clear k2 o2 b2))
 go_region_law(fail)
 go_wp2_with fail
 have ka:za zq2 w2 (w2.alloc (zq0 c (.slice a2 c.parts.length c2))):=(za.refl _ _).alloc _;have b3:(w2.alloc (zq0 c (.slice a2 c.parts.length c2))).heap[w.heap.size]? = some (zq0 ⟨0,0,0,0,[]⟩ (.slice none 0 0)):=B2.out;unfold zq0 at ka b3;generalize w2.alloc _=W3 at ka b3 ⊢;obtain⟨r0,r1,r2,r3,r4,kf⟩:=zdu (w:=W3) b3 (.int .i64 c.lo) (.int .i64 c.next) (.int .i64 c.hi) (.int .i64 c.trim) (.slice a2 c.parts.length c2) _ rfl;refine bodyPost_ret (v:=.tuple #[.agg #[.int .i64 c.lo,.int .i64 c.next,.int .i64 c.hi,.int .i64 c.trim,.slice a2 c.parts.length c2],.bool true,.nilIface]) (by simp[results,Tryz.results112,go_sem,r0,r1,r2,r3,r4]) rfl ?_
 have z1:=Z1.out;have s2:=K2.out.size;have k0:=(K1.out.trans1 K2.out).trans1 ka;have o3:=zc O2.out ka (fun _ _ e=>e)
 exact⟨_,rfl,(k0.trans kf (fun _ _ e=>e) (fun g hg e=>by have e':g=w.heap.size:=e;omega)).drew,zg (zc o3 kf.drew (fun g e e2=>by have e':g=w.heap.size:=e2;have:=(o3.lt g e).1;omega)) (by omega)⟩
def CuZ:Obj:=.cells #[.int .i64 0,.int .i64 0,.int .i64 0,.int .i64 0,.slice none 0 0] 127 (0,0)
theorem zif (w:World):(w.alloc CuZ).heap[w.heap.size]? = some (zq0 ⟨0,0,0,0,[]⟩ (.slice none 0 0)):=ze w CuZ
theorem zef (F:Nat→Prop)(b lb q p:Nat)(lv:Value)(X:Dk)(w:World)(hb:w.heap[b]? = some (VtB q lv))(d:zk F w q p X)(hd:X.down=false)(hh:zz X.shown zx=false) :
 Calls Tryz.prog 62 #[.pointer (some ⟨b,0,none⟩),.pointer (some ⟨lb,0,none⟩)] w fun e w'=>e = .returned (.tuple #[.agg #[.int .i64 0,.int .i64 0,.int .i64 0,.int .i64 0,.slice none 0 0],.bool false,.nilIface])∧za zq2 w w':=by
 have kA:za zq2 w (w.alloc CuZ):=(za.refl _ _).alloc _;have ST:=zz0 (zcy b q lv (w.alloc CuZ) (zh kA hb));have LD:=zz0 (zeW F q p zx X (w.alloc CuZ) (d.keep kA (fun _ _ e=>e)) zal hd hh)
 have KA:=zz0 kA;have BA:=zz0 (zif w);clear hb d kA;unfold sv zx at LD;dsimp only[CuZ] at LD ST
 go_enter Tryz.func62,Tryz.ntmps62
 go_wp2_with(first
  |(go_at_call 66;((with_reducible refine ST.out.mono ?_);rintro e w1 ⟨rfl,rfl⟩))
  |(go_at_call 112;((with_reducible refine LD.out.mono ?_);rintro e w2 ⟨rfl,k2⟩);have b2:=zh (w:=w.alloc CuZ) k2 BA.out;have B2:=zz0 b2;have K2:=zz0 (KA.out.trans1 k2);have i0':=cu_0 b2;have i1':=cu_1 b2;have i2':=cu_2 b2;have i3':=cu_3 b2;have i4':=cu_4 b2;have j0':=zb5 b2 0;have j1':=zb5 b2 1;have j2':=zb5 b2 2;have j3':=zb5 b2 3;have j4':=zb5 b2 4;clear k2 b2))
 obtain⟨r0,r1,r2,r3,r4,kf⟩:=zdu B2.out (.int .i64 0) (.int .i64 0) (.int .i64 0) (.int .i64 0) (.slice none 0 0) _ rfl;refine bodyPost_ret (v:=.tuple #[.agg #[.int .i64 0,.int .i64 0,.int .i64 0,.int .i64 0,.slice none 0 0],.bool false,.nilIface]) (by simp[results,Tryz.results62,go_sem,r0,r1,r2,r3,r4]) rfl ?_
 exact⟨rfl,K2.out.trans kf (fun _ _ e=>e) (fun g hg e=>by have e':g=w.heap.size:=e;omega)⟩
theorem zjT (F:Nat→Prop)(b lb q p:Nat)(lv:Value)(c:Cu)(X:Dk)(w:World)(hb:w.heap[b]? = some (VtB q lv))(d:zk F w q p X)(hd:X.down=false)(hh:zz X.shown zx=true)(hg:zat X.shown zx=zco c)(ok:zdQ c) :
 Calls Tryz.prog 62 #[.pointer (some ⟨b,0,none⟩),.pointer (some ⟨lb,0,none⟩)] w fun e w'=>∃v',e = .returned (.tuple #[cuV c v',.bool true,.nilIface])∧za zq2 w w'∧w'.ownsRow w.heap.size 125 35 v' c.parts.length (zaP c.parts):=by
 have kA:za zq2 w (w.alloc CuZ):=(za.refl _ _).alloc _;have ST:=zz0 (zcy b q lv (w.alloc CuZ) (zh kA hb));have hl:=zcC ok;have hl2:(cuT c).length≤65536:=by
  have h1:=zdk c.parts (fun p hp=>zfk (zct _ _ ok.parts p hp))
  have h2:=ok.many;have h3:=ok.le;have h4:=ok.hi;have h5:=ok.trim;have h6:=ok.lo;have h7:=zaf [c.lo,c.next,c.hi,c.trim,c.parts.length] (by intro n hn;simp at hn;omega)
  unfold cuT;rw[List.length_append];simp only[List.length_cons,List.length_nil] at h7;omega
 have LD:=zz0 (zlk F q p zx c X (w.alloc CuZ) (d.keep kA (fun _ _ e=>e)) zal hd hh hg ok (by omega) hl2)
 have KA:=zz0 kA;have BA:=zz0 (zif w);clear hb d kA hh hg hl hl2;unfold sv zx cuV at LD;dsimp only[CuZ] at LD ST;unfold cuV
 go_enter Tryz.func62,Tryz.ntmps62
 go_wp2_with(first
  |(go_at_call 66;((with_reducible refine ST.out.mono ?_);rintro e w1 ⟨rfl,rfl⟩))
  |(go_at_call 112;((with_reducible refine LD.out.mono ?_);rintro e w2 ⟨v2,rfl,k2,o2⟩);obtain⟨a2,c2,rfl,_,_⟩:=zb o2;have b2:=zh (w:=w.alloc CuZ) k2 BA.out;have B2:=zz0 b2;have K2:=zz0 (KA.out.trans1 k2);have O2:=zz0 o2;have i0':=cu_0 b2;have i1':=cu_1 b2;have i2':=cu_2 b2;have i3':=cu_3 b2;have i4':=cu_4 b2;have j0':=zb5 b2 0;have j1':=zb5 b2 1;have j2':=zb5 b2 2;have j3':=zb5 b2 3;have j4':=zb5 b2 4;clear k2 b2 o2))
 obtain⟨r0,r1,r2,r3,r4,kf⟩:=zdu B2.out (.int .i64 c.lo) (.int .i64 c.next) (.int .i64 c.hi) (.int .i64 c.trim) (.slice a2 c.parts.length c2) _ rfl;refine bodyPost_ret (v:=.tuple #[.agg #[.int .i64 c.lo,.int .i64 c.next,.int .i64 c.hi,.int .i64 c.trim,.slice a2 c.parts.length c2],.bool true,.nilIface]) (by simp[results,Tryz.results62,go_sem,r0,r1,r2,r3,r4]) rfl ?_
 have hz:w.heap.size<(w.alloc CuZ).heap.size:=lt_of_block BA.out;exact⟨_,rfl,K2.out.trans kf (fun _ _ e=>e) (fun g hg e=>by have e':g=w.heap.size:=e;omega),zg (zc O2.out kf (fun g e e2=>by have e':g=w.heap.size:=e2;have:=(O2.out.lt g e).1;dsimp only[CuZ] at hz;omega)) (by dsimp only[CuZ] at hz;omega)⟩
structure HasMs (X:Dk)(ms:List Mf):Prop where
 has:∀(j:Nat) m,ms[j]? = some m→zz X.shown (zw j)=true∧zat X.shown (zw j)=zb2 m
 no:zz X.shown (zw ms.length)=false
theorem zai.widen {T U:Nat→Prop}{w:World}{v:Value}{ms:List Mf}(h:zai T w v ms)(hs:∀g,T g→U g):zai U w v ms:=by
 obtain⟨a,c,rfl,hc,ha,hx⟩:=h;refine⟨a,c,rfl,hc,fun ad e=>?_,fun j m hj=>?_⟩
 ·obtain⟨g,off,e1,e2⟩:=ha ad e
  exact⟨g,off,e1,hs g e2⟩
 ·obtain⟨h32,g,off,pa,pc,rfl,h1,h2,h3⟩:=hx j m hj
  exact⟨h32,g,off,pa,pc,rfl,h1,fun g e=>hs g (h2 g e),h3⟩
def vtLen (w:World)(b:Nat):Nat:=match w.cell? ⟨b,1,none⟩ with|some (.slice _ n _)=>n|_=>0
theorem zjS {w:World}{b q:Nat}{a:Option Addr}{n c:Nat}(h:w.heap[b]? = some (VtB q (.slice a n c))):vtLen w b=n:=by
 unfold vtLen;rw[vt_1 h]
def VoLp (b q p:Nat)(F1:Nat→Prop)(wB:World)(X:Dk)(ms:List Mf)(j:Nat)(wr:World):Prop :=
 ∃oa oc xs,wr.heap[b]? = some (VtB q (.slice oa j oc))∧MsOwn (b+1) wr (.slice oa j oc) (ms.take j) xs∧zk F1 wr q p X∧za (zq3 b) wB wr
theorem zqJ (m:Mf)(n:Nat)(h:(zb2 m).length≤n):(mfT m).length≤n:=by
 simp only[zb2,zbb,zaG,sealB,List.length_append] at h;omega
theorem zqv {b q p j:Nat}{F1:Nat→Prop}{wB wr W w9:World}{X:Dk}{ms:List Mf}{m:Mf}{oa a4:Option Addr}{oc c4:Nat}{v9:Value}{xs:List Value}(hsB:wB.heap.size=b+1)(hB:b<wr.heap.size)(hj:j≤ms.length)(hF:∀g,F1 g→g<b)(hm:ms[j]? = some m)(h32:m.prev.length=32)(vb:wr.heap[b]? = some (VtB q (.slice oa j oc)))(ow:MsOwn (b+1) wr (.slice oa j oc) (ms.take j) xs)(st:zk F1 wr q p X)(kr:za (zq3 b) wB wr)(kW:za zq2 wr W)(hp:zC W (.slice a4 m.parts.length c4) m.parts)(hpo:∀g,(Value.slice a4 m.parts.length c4).ownBlock=some g→wr.heap.size≤g∧g<W.heap.size)
 (ho:w9.ownsRow (b+1) 54 37 v9 (j+1) (xs++zq6 m (.slice a4 m.parts.length c4))) (hg:W.grownBy w9 (Value.slice oa j oc).ownBlock) (hpp:v9.ownBlock=(Value.slice oa j oc).ownBlock∨v9.ownBlock=some W.heap.size) :
 VoLp b q p F1 wB X ms (j+1) (w9.setCell ⟨b,1,none⟩ v9)∧w9.heap[b]? = some (VtB q (.slice oa j oc))∧vtLen (w9.setCell ⟨b,1,none⟩ v9) b=j+1:=by
 have tl:(ms.take j).length=j:=by rw[List.length_take];omega
 obtain⟨a9,c9,rfl,_,_⟩:=zb ho;obtain⟨so,sk⟩:=MsOwn.snoc ow kW (by omega) h32 hp hpo (by rw[tl];exact ho) hg hpp
 have lo:∀g,(Value.slice oa j oc).ownBlock=some g→b+1≤g:=fun g e=>(ow.1.lt g e).1
 have b9:=sk.at vb (fun e=>by have:=lo b e;omega)
 have kb:za (zq3 b) w9 (w9.setCell ⟨b,1,none⟩ (.slice a9 (j+1) c9)):=(za.refl _ _).setOne _ _;have bb:=zj b9 1 (.slice a9 (j+1) c9);have tj:ms.take (j+1)=ms.take j ++ [m]:=by rw[List.take_add_one,hm];rfl
 have s0:=kr.size;refine⟨⟨a9,c9,_,bb,by rw[tj];exact so.keep kb (fun g e1 _ e=>by have e':g=b:=e;omega),(st.keep sk (fun g x e=>by have:=hF g x;have:=lo g e;omega)).keep kb (fun g x e=>by have e':g=b:=e;have:=hF g x;omega),?_⟩,b9,zjS bb⟩
 exact(kr.trans sk (U:=fun g=>zq3 b g∨(Value.slice oa j oc).ownBlock=some g) (fun _ _ x=>.inl x) (fun _ _ x=>.inr x)).trans kb (fun g hg x=>by rcases x with x|x;exact x;(have:=lo g x;omega)) (fun _ _ x=>x)
def VoOk (F0:Nat→Prop)(w:World)(p:Nat)(X:Dk)(ms:List Mf)(e:Ending)(w':World):Prop :=
 ∃b q la lc,e = .returned (.tuple #[.pointer (some ⟨b,0,none⟩),.nilIface])∧w'.heap[b]? = some (VtB q (.slice la ms.length lc))∧zai (fun g=>b<g∧g<w'.heap.size) w' (.slice la ms.length lc) ms∧za F0 w w'∧w.heap.size≤b∧∃F',zq5 F' F0 w∧(∀g,F' g→g<b)∧zk F' w' q p X
section
attribute [local go_sem ↓] zbB zU zbC zbD zV zbE zab zbK hBS52 hBS39
end
def SgZ0:Obj:=.cells #[.int .i64 0,.slice none 0 0] 263 (0,0)
section
attribute [local go_sem ↓] zbB zU zbC zbD zV zbE zab zbK
end
end Go.Proofs.YtpojgmeoaflmoaaGreatDoor
