/- Frames: put, taken. · Cells: looked at,  -/
import Derived.Test.YtpojgmeoaflmoaaGreatDoorQ02
set_option linter.unusedVariables false
set_option maxRecDepth 100000
set_option maxHeartbeats 16000000
namespace Go.Proofs.YtpojgmeoaflmoaaGreatDoor
open Go.RowKit
def zbb (t:List UInt8):List UInt8:=sealB (zaG t)
theorem zbz (t:List UInt8):(zaG t).length=(zo t.length).length+t.length:=by simp[zaG]
theorem zke (t:List UInt8):(zbb t).length=(zo t.length).length+t.length+4:=by simp[zbb,zhQ,zbz]
theorem zca (v:Value)(t:List UInt8)(w:World)(h:Bs w v t)(hl:t.length≤65536) :
 Calls Tryz.prog 180 #[.slice none 0 0,v] w fun e w'=>∃v',e = .returned (.tuple #[v',.nilIface])∧za zq2 w w'∧w'.ownsRow w.heap.size 5 1 v' (zbb t).length ((zbb t).map bv):=by
 have V:=zz0 h;have h3:(zo t.length).length≤3:=zP (by omega)
 obtain⟨a,c,rfl,_⟩:=h;rw[List.length_map] at V ⊢
 go_enter Tryz.func180,Tryz.ntmps180
 go_wp2_with(first
  |(go_at_call 224;refine(zfh _).mono ?_;rintro e w1 ⟨rfl,k1,m1⟩;have K1:=zz0 k1;have M1:Hid (MkNew w1 w.heap.size):=zz0 m1;clear k1 m1)
  |(go_at_call 216;refine(zft _ [] a c t _ (Rd.nil _) (by simp) (by exact V.out.keepNon K1.out) (by omega)).mono ?_;rintro e w2 ⟨v2,rfl,k2,o2⟩;rw[List.nil_append] at o2;have K2:=zz0 k2;have O2:=zz0 o2;clear k2 o2)
  |(go_at_call 237;refine(zkC w.heap.size _ (zaG t) _ (M1.out.keep K2.out (fun e=>e)) (Rd.ofOwns O2.out) (by rw[zbz];omega) (fun g e=>by have:=(O2.out.lt g e).1;have:=K1.out.size;have:=M1.out.lt;omega)).mono ?_;rintro e w3 ⟨v3,rfl,k3,o3⟩;obtain⟨a3,c3,rfl,_,_⟩:=zb o3;have K3:=zz0 k3;have O3:=zz0 o3;clear k3 o3)
  |(go_at_call 236;have hb2:Bss (w3.alloc (.cells #[Value.slice none 0 0,Value.slice a3 (sealB (zaG t)).length c3] 43)) [Value.slice none 0 0,Value.slice a3 (sealB (zaG t)).length c3] [[],sealB (zaG t)]:=zmX (Rd.nil _) (Rd.keepNon (Rd.ofOwns O3.out) ((za.refl _ _).alloc _));refine(zfT _ [Value.slice none 0 0,Value.slice a3 (sealB (zaG t)).length c3] [[],sealB (zaG t)] 2 _ (zmZ _ _) hb2 (by simp[zhQ,zbz];omega) (by simp)).mono ?_;rintro e w4 ⟨v4,rfl,k4,o4⟩;have K4:=zz0 k4;have O4:=zz0 o4;clear k4 o4))
 go_ret2;have ho:=O4.out;have e:[[],sealB (zaG t)].flatten=zbb t:=by simp[zbb]
 rw[e] at ho;have hk:=((K1.out.trans1 K2.out).trans K3.out (U:=zq2) (fun _ _ h=>h) (fun i hi e=>by unfold zq3 at e;omega)).trans1 (((za.refl _ _).alloc _).trans1 K4.out)
 exact⟨_,rfl,hk,zg ho (by have h1:=K1.out.size;have h2:=K2.out.size;have h3:=K3.out.size;simp;omega)⟩
theorem zcd {w:World}{base:Nat}{e:TypeId}{size:Nat}{v:Value}{n:Nat}{xs:List Value}(h:w.ownsRow base e size v n xs)(hn:0<n):∃g c,v = .slice (some ⟨g,0,none⟩) n c∧n≤c∧base≤g∧g<w.heap.size:=by
 rcases h.2 with ⟨_,h2⟩|⟨g,cap,cur,rfl,hb,hg,h1,_⟩
 ·omega
 ·exact⟨g,cap,rfl,h1,hb,lt_of_block hg⟩
theorem zme {x s:List UInt8}{e:Ending}{P:Value→Prop}(hq:zbO (zdF x)=s)(h:(zbO (zdF x)=s∧∃v',e = .returned (.tuple #[v',.nilIface])∧P v')∨(zbO (zdF x)≠s∧e = .returned (.tuple #[.slice none 0 0,zbU 11]))):∃v',e = .returned (.tuple #[v',.nilIface])∧P v':=by
 rcases h with ⟨_,h⟩|⟨q,_⟩
 ·exact h
 ·exact absurd hq q
theorem zmd {x s:List UInt8}{e:Ending}{P:Value→Prop}(hq:¬zbO (zdF x)=s)(h:(zbO (zdF x)=s∧∃v',e = .returned (.tuple #[v',.nilIface])∧P v')∨(zbO (zdF x)≠s∧e = .returned (.tuple #[.slice none 0 0,zbU 11]))):e = .returned (.tuple #[.slice none 0 0,.iface 89 (.int .i64 11)]):=by
 rcases h with ⟨q,_⟩|⟨_,h⟩
 ·exact absurd q hq
 ·exact h
theorem zlH (v:Value)(t s:List UInt8)(w:World)(h:Bs w v (zaG t++s))(hc:okc v)(hs:s.length=4)(hl:t.length≤65536)(hv:∀g,v.ownBlock=some g→g<w.heap.size) :
 Calls Tryz.prog 153 #[v] w fun e w'=>za zq2 w w'∧((zbO (zdF (zaG t))=s∧∃v',e = .returned (.tuple #[v',.int .i64 (zaG t++s).length,.nilIface])∧Bs w' v' t∧okc v'∧(∀g,v'.ownBlock=some g→w.heap.size≤g∧g<w'.heap.size))∨(zbO (zdF (zaG t))≠s∧e = .returned (.tuple #[.slice none 0 0,.int .i64 0,zbU 11]))):=by
 have V:=zz0 h;have HC:=zz0 hc;have VB:=zz0 hv;have h3:(zo t.length).length≤3:=zP (by omega)
 have hlen:(zaG t++s).length=(zo t.length).length+t.length+4:=by simp[zbz,hs]
 clear hv;obtain⟨a,c,rfl,hx⟩:=h;obtain⟨g,off,rfl,_⟩:=hx (by intro e;rw[List.map_eq_nil_iff] at e;rw[e] at hlen;simp at hlen)
 have hc1:=hc.1;rw[List.length_map,hlen] at V VB HC hc1 ⊢;clear hx hc;have V2:Hid (Bs w (.slice (some ⟨g,off,none⟩) ((zo t.length).length+t.length+4) c) (zo t.length++(t++s))):=zz0 (by have:=V.out;unfold zaG at this;rw[List.append_assoc] at this;exact this)
 generalize hhd:(zo t.length).length=hd at h3 hlen V VB HC hc1 V2 ⊢;have HHD:=zz0 hhd;clear hhd hlen
 go_enter Tryz.func153,Tryz.ntmps153
 have hd1:1≤hd:=by rw[←HHD.out];exact zd2 _
 have HVL:Hid ((zaG t).length=hd+t.length):=zz0 (by rw[zbz,HHD.out])
 by_cases hq:zbO (zdF (zaG t))=s
 ·go_wp2_with(go_at_call 156;refine(ziT _ t.length (t++s) _ V2.out HC.out (by omega)).mono ?_;rw[HHD.out];rintro e w0 ⟨rfl,e1⟩;subst e1)
  go_region_with (first
   |(go_at_call 224;refine(zfh _).mono ?_;rintro e w1 ⟨rfl,k1,m1⟩;have K1:=zz0 (zR (w:=w0) (by exact k1));have M1:Hid (MkNew w1 w0.heap.size):=zz0 m1;clear k1 m1)
   |(go_at_call 225;refine(zga w0.heap.size _ (zaG t) s _ M1.out (V.out.keepNon K1.out) HC.out hs (by rw[zbz,HHD.out];omega) (fun q e=>by have:=VB.out q e;omega)).mono ?_;rintro e w2 ⟨k2,h2⟩;obtain⟨v2,rfl,o2⟩:=zme hq h2;rw[HVL.out] at o2;obtain⟨g2,c2,rfl,hc2,hg2,hg3⟩:=zcd o2 (by omega);have K2:=zz0 k2;have O2:=zz0 o2;clear k2 o2 h2))
  all_goals
   go_wp2_with fail
   all_goals go_ret3
   all_goals
    have hk:=K1.out.trans K2.out (U:=zq2) (fun _ _ h=>h) (fun i hi e=>by unfold zq3 at e;omega)
    have hbs:Bs w2 (.slice (some ⟨g2,0,none⟩) (hd+t.length) c2) (zo t.length++t):=Rd.ofOwns O2.out;have hs1:=K1.out.size
   ·exact⟨hk,_,rfl,by have:=zgV 0 hbs hc2 (by rw[HHD.out];assumption);rw[HHD.out,Nat.add_sub_cancel_left] at this;exact this,⟨by omega,fun ad e=>by injection e with e;exact⟨_,_,e.symm⟩⟩,fun q e=>by injection e with e;subst e;exact⟨Nat.le_trans hs1 hg2,hg3⟩⟩
   ·exact⟨hk,_,rfl,by have:=zfx hbs;rw[HHD.out,Nat.add_sub_cancel_left,Nat.zero_add] at this;exact this,⟨by omega,fun ad e=>by injection e with e;exact⟨_,_,e.symm⟩⟩,fun q e=>by injection e with e;subst e;exact⟨Nat.le_trans hs1 hg2,hg3⟩⟩
 ·go_wp2_with(go_at_call 156;refine(ziT _ t.length (t++s) _ V2.out HC.out (by omega)).mono ?_;rw[HHD.out];rintro e w0 ⟨rfl,e1⟩;subst e1)
  go_region_with (first
   |(go_at_call 224;refine(zfh _).mono ?_;rintro e w1 ⟨rfl,k1,m1⟩;have K1:=zz0 (zR (w:=w0) (by exact k1));have M1:Hid (MkNew w1 w0.heap.size):=zz0 m1;clear k1 m1)
   |(go_at_call 225;refine(zga w0.heap.size _ (zaG t) s _ M1.out (V.out.keepNon K1.out) HC.out hs (by rw[zbz,HHD.out];omega) (fun q e=>by have:=VB.out q e;omega)).mono ?_;rintro e w2 ⟨k2,h2⟩;obtain rfl:=zmd hq h2;have K2:=zz0 k2;clear k2 h2))
  all_goals
   go_wp2_with fail
   go_ret3
   exact⟨K1.out.trans K2.out (U:=zq2) (fun _ _ h=>h) (fun i hi e=>by unfold zq3 at e;omega),.inr ⟨hq,rfl⟩⟩
def zb7 (k:Int)(n:Nat):Int:=if k<0∨3<k then 1 else if 64<n then 3 else if 0<n∧k≠1 then 2 else 0
theorem zda (k:Int)(a:Option Addr)(n c:Nat)(w:World) :
 Calls Tryz.prog 52 #[.agg #[.int .i64 k,.slice a n c]] w fun e w'=>e = .returned (zbU (zb7 k n))∧za zq2 w w':=by
 by_cases h1:k<0∨3<k
 ·have e:zbU (zb7 k n) = .iface 89 (.int .i64 1):=by unfold zb7;rw[if_pos h1];rfl
  rw[e];rcases h1 with h1|h1
  all_goals
   go_enter Tryz.func52,Tryz.ntmps52
   go_wp2_with fail
   go_ret;exact⟨rfl,(za.refl _ _).alloc _⟩
 ·have h1a:0≤k:=by omega
  have h1b:k≤3:=by omega
  by_cases h2:64<n
  ·have e:zbU (zb7 k n) = .iface 89 (.int .i64 3):=by unfold zb7;rw[if_neg h1,if_pos h2];rfl
   rw[e];clear h1
   go_enter Tryz.func52,Tryz.ntmps52
   go_wp2_with fail
   go_ret;exact⟨rfl,(za.refl _ _).alloc _⟩
  ·have h2a:n≤64:=by omega
   by_cases h3:0<n∧k≠1
   ·have e:zbU (zb7 k n) = .iface 89 (.int .i64 2):=by unfold zb7;rw[if_neg h1,if_neg h2,if_pos h3];rfl
    rw[e];obtain⟨h3a,h3b⟩:=h3;clear h1 h2
    go_enter Tryz.func52,Tryz.ntmps52
    go_wp2_with fail
    go_ret;exact⟨rfl,(za.refl _ _).alloc _⟩
   ·have e:zbU (zb7 k n) = .nilIface:=by unfold zb7;rw[if_neg h1,if_neg h2,if_neg h3];rfl
    rw[e];clear h1 h2;by_cases h4:0<n
    ·obtain rfl:k=1:=by rcases Classical.em (k=1) with h|h;exact h;exact absurd ⟨h4,h⟩ h3
     clear h3
     go_enter Tryz.func52,Tryz.ntmps52
     go_wp2_with fail
     go_ret;exact⟨rfl,(za.refl _ _).alloc _⟩
    ·obtain rfl:n=0:=by omega
     clear h3
     go_enter Tryz.func52,Tryz.ntmps52
     go_wp2_with fail
     go_ret;exact⟨rfl,(za.refl _ _).alloc _⟩
theorem zpd (v v':Value)(l m:List UInt8)(w:World)(h:Bs w v l)(h':Bs w v' m) :
 Calls Tryz.prog 41 #[v,v'] w fun e w'=>e = .returned (.bool (l==m))∧za zq2 w w':=by
 have c1:=zfU (P:=Tryz.prog) h 43 9 5 Tryz.underlying43 Tryz.underlying5 Tryz.underlying9;have c2:=zfU (P:=Tryz.prog) h' 43 9 5 Tryz.underlying43 Tryz.underlying5 Tryz.underlying9;clear h h'
 go_enter Tryz.func41,Tryz.ntmps41
 go_wp2_with fail
 go_ret;exact⟨rfl,za.refl _ _⟩
theorem zlg (k1 k2:Int)(v v':Value)(l m:List UInt8)(w:World)(h:Bs w v l)(h':Bs w v' m) :
 Calls Tryz.prog 14 #[.agg #[.int .i64 k1,v],.agg #[.int .i64 k2,v']] w fun e w'=>e = .returned (.bool (k1==k2&&l==m))∧za zq2 w w':=by
 have H:=zz0 h;have H':=zz0 h';obtain⟨a,c,rfl,_⟩:=zY h;obtain⟨a',c',rfl,_⟩:=zY h';clear h h';by_cases hk:k1=k2
 ·subst hk
  go_enter Tryz.func14,Tryz.ntmps14
  go_wp2_with(go_at_call 41;refine(zpd _ _ l m _ (Rd.keepNon H.out (((za.refl _ _).alloc _).alloc _)) (Rd.keepNon H'.out (((za.refl _ _).alloc _).alloc _))).mono ?_;rintro e w1 ⟨rfl,k1⟩;have K1:=zz0 k1;clear k1)
  go_ret;exact⟨by simp,(((za.refl _ _).alloc _).alloc _).trans1 K1.out⟩
 ·have hk2:(k1==k2)=false:=by simpa using hk
  go_enter Tryz.func14,Tryz.ntmps14
  go_wp2_with fail
  go_ret;exact⟨by simp[hk2],((za.refl _ _).alloc _).alloc _⟩
def zqZ (k:Int)(v:Value):Obj:=.cells #[.int .i64 k,v] 45 (0,0)
section
variable {w : World} {p : Nat} {k : Int} {v : Value}
theorem cl0 (h:w.heap[p]? = some (zqZ k v)):w.cell? ⟨p,0,none⟩=some (.int .i64 k):=by simp[World.cell?,h,zqZ]
theorem cl1 (h:w.heap[p]? = some (zqZ k v)):w.cell? ⟨p,1,none⟩=some v:=by simp[World.cell?,h,zqZ]
theorem clf (h:w.heap[p]? = some (zqZ k v))(i:Nat):w.frozen? ⟨p,i,none⟩=false:=by simp[World.frozen?,h,zqZ]
theorem za1 (h:w.heap[p]? = some (zqZ k v))(j:Int):(w.setCell ⟨p,0,none⟩ (.int .i64 j)).heap[p]? = some (zqZ j v):=zj h 0 _
theorem zbG (h:w.heap[p]? = some (zqZ k v))(u:Value):(w.setCell ⟨p,1,none⟩ u).heap[p]? = some (zqZ k u):=zj h 1 _
end
theorem zg8 (k:Int)(v:Value)(l:List UInt8)(w:World)(h:Bs w v l)(hl:l.length≤100000000) :
 Calls Tryz.prog 191 #[.agg #[.int .i64 k,v]] w fun e w'=>∃v',e = .returned (.agg #[.int .i64 k,v'])∧za zq2 w w'∧w'.ownsRow w.heap.size 5 1 v' l.length (l.map bv):=by
 have H:=zz0 h;obtain⟨a,c,rfl,_⟩:=zY h;clear h;have B1:Hid (((w.alloc (zqZ k (.slice a l.length c))).alloc (zqZ 0 (.slice none 0 0))).heap[w.heap.size]? = some (zqZ k (.slice a l.length c))):=zz0 (zi (ze _ _) _);have B2:Hid (((w.alloc (zqZ k (.slice a l.length c))).alloc (zqZ 0 (.slice none 0 0))).heap[w.heap.size+1]? = some (zqZ 0 (.slice none 0 0))):=zz0 (by have:=ze (w.alloc (zqZ k (.slice a l.length c))) (zqZ 0 (.slice none 0 0));rw[World.size_alloc] at this;exact this)
 go_enter Tryz.func191,Tryz.ntmps191
 go_wp2_with fail
 go_region_with (go_at_call 150;refine(za7 _ l ((w.alloc (zqZ k (.slice a l.length c))).alloc (zqZ 0 (.slice none 0 0))).drew (by exact Rd.keepNon H.out (((za.refl _ _).alloc _).alloc _).drew) (by omega)).mono ?_;rintro e w1 ⟨v1,rfl,k1,o1⟩;obtain⟨a1,c1,rfl,_,_⟩:=zb o1;have K1:=zz0 (zR k1);have O1:=zz0 o1;clear k1 o1;have b1:=K1.out.at B1.out (fun e=>e);have b2:=K1.out.at B2.out (fun e=>e);have BB2:=zz0 b2;have c0:=cl0 b1;have d0:=cl0 b2;have d1:=cl1 b2;have f0:=clf b2 0;have f1:=clf b2 1;have k0:=cl0 (za1 b2 k);have k1:=cl1 (zbG (za1 b2 k) (.slice a1 l.length c1));clear b1 b2)
 all_goals
  go_wp2_with fail
  refine bodyPost_ret (v:=.agg #[.int .i64 k,.slice a1 l.length c1]) (by simp[results,Tryz.results191,go_sem,k0,k1]) rfl ?_
  refine⟨_,rfl,?_,zg (zc (S:=zq3 (w.heap.size+1)) O1.out (((za.refl _ _).setOne _ _).setOne _ _) (fun g e=>by have:=(O1.out.lt g e).1;simp at this;unfold zq3;omega)) (by simp;omega)⟩
  exact((((za.refl zq2 w).alloc (zqZ k (.slice a l.length c))).alloc (zqZ 0 (.slice none 0 0))).trans1 K1.out).trans (T:=zq3 (w.heap.size+1)) (((za.refl _ _).setOne _ _).setOne _ _) (fun _ _ h=>h) (fun i hi h=>by unfold zq3 at h;omega)
abbrev Cl:=Int×List UInt8
def zbh (k:Int):List Cl→Nat
 |[]=>0
 |x::r=>if x.1=k then zbh k r+1 else 0
def zcR:List Cl→Nat
 |[]=>0
 |x::r=>if x.1=1 then 0 else zbh x.1 (x::r)
theorem zhM (k:Int):∀cl:List Cl,zbh k cl≤cl.length
 |[]=>Nat.le_refl _
 |x::r=>by
  have:=zhM k r;unfold zbh
  split
  ·simpa using this
  ·exact Nat.zero_le _
theorem ziM:∀cl:List Cl,zcR cl≤cl.length
 |[]=>Nat.le_refl _
 |x::r=>by
  show(if x.1=1 then 0 else zbh x.1 (x::r))≤_
  split
  ·exact Nat.zero_le _
  ·exact zhM _ _
def zad:List UInt8→List UInt8→Nat
 |x::r,y::s=>if x=y then zad r s+1 else 0
 |_,_=>0
theorem zcT:∀a b:List UInt8,zad a b≤a.length∧zad a b≤b.length
 |[],b=>by simp[zad]
 |x::r,[]=>by simp[zad]
 |x::r,y::s=>by
  have:=zcT r s;unfold zad
  split
  ·simp;omega
  ·simp
theorem zeG:∀a b:List UInt8,a.take (zad a b)=b.take (zad a b)
 |[],b=>by simp[zad]
 |x::r,[]=>by simp[zad]
 |x::r,y::s=>by
  unfold zad
  split
  ·rename_i h
   subst h;simp[zeG r s]
  ·simp
def zak:Nat→List UInt8→List Cl→List UInt8
 |0,_,_=>[]
 |_+1,_,[]=>[]
 |f+1,last,x::r =>
  if 0<zcR (x::r) then zo (zcR (x::r))++zo x.1.toNat++zak f last ((x::r).drop (zcR (x::r)))
  else zo 0++zo x.2.length++zo (zad last x.2)++x.2.drop (zad last x.2)++zak f x.2 r
def runB (cl:List Cl):List UInt8:=zo cl.length++zak cl.length [] cl
theorem zcD:∀(f g:Nat)(last:List UInt8)(cl:List Cl),cl.length≤f→cl.length≤g→zak f last cl=zak g last cl
 |0,0,_,_,_,_=>rfl
 |0,g+1,_,[],_,_=>rfl
 |f+1,0,_,[],_,_=>rfl
 |f+1,g+1,_,[],_,_=>rfl
 |f+1,g+1,last,x::r,hf,hg=>by
  have h1:r.length≤f:=by simpa using hf
  have h2:r.length≤g:=by simpa using hg
  unfold zak
  split
  ·rename_i h
   rw[zcD f g last _ (by rw[List.length_drop];simp;omega) (by rw[List.length_drop];simp;omega)]
  ·rw[zcD f g x.2 r h1 h2]
 |0,_,_,x::r,h,_=>by simp at h
 |f+1,0,_,x::r,_,h=>by simp at h
def CsAt (w:World)(v:Value)(cl:List Cl):Prop:=∃a c,v = .slice a cl.length c∧cl.length≤c∧(∀ad,a=some ad→∃g off,ad=⟨g,off,none⟩)∧∀j (hj:j<cl.length),∃g off s,a=some ⟨g,off,none⟩∧w.cell? ⟨g,off+j*2,none⟩=some (.int .i64 cl[j].1)∧w.cell? ⟨g,off+j*2+1,none⟩=some s∧Bs w s cl[j].2∧okc s
theorem CsAt.keepNon {w w':World}{v:Value}{cl:List Cl}(h:CsAt w v cl)(k:za zq2 w w'):CsAt w' v cl:=by
 obtain⟨a,c,rfl,hc,ha,hx⟩:=h;refine⟨a,c,rfl,hc,ha,fun j hj=>?_⟩
 obtain⟨g,off,s,rfl,h1,h2,h3,h4⟩:=hx j hj;have hg:=World.block_lt_of_cell? _ _ h1;exact⟨g,off,s,rfl,(World.cell?_of_block (k.block g hg (fun e=>e))).trans h1,(World.cell?_of_block (k.block g hg (fun e=>e))).trans h2,h3.keepNon k,h4⟩
theorem zfz (k:Int):∀(cl:List Cl)(j:Nat),(∀i (h:i<cl.length),i<j→cl[i].1=k)→j≤cl.length→zbh k cl=j+zbh k (cl.drop j)
 |cl,0,_,_=>by simp
 |[],j+1,_,h=>by simp at h
 |x::r,j+1,h,hj=>by
  have h0:x.1=k:=h 0 (by simp) (by omega)
  have:=zfz k r j (fun i hi hij=>h (i+1) (by simpa using hi) (by omega)) (by simpa using hj)
  rw[List.drop_succ_cons];show(if x.1=k then zbh k r+1 else 0)=_
  rw[if_pos h0,this];omega
theorem zeE:∀(a b:List UInt8)(j:Nat),a.take j=b.take j→j≤a.length→j≤b.length→zad a b=j+zad (a.drop j) (b.drop j)
 |a,b,0,_,_,_=>by simp
 |[],b,j+1,_,h,_=>by simp at h
 |x::r,[],j+1,_,_,h=>by simp at h
 |x::r,y::s,j+1,h,ha,hb=>by
  rw[List.take_succ_cons,List.take_succ_cons] at h;injection h with h1 h2
  have:=zeE r s j h2 (by simpa using ha) (by simpa using hb)
  rw[List.drop_succ_cons,List.drop_succ_cons];show(if x=y then zad r s+1 else 0)=_
  rw[if_pos h1,this];omega
theorem zfB (cl:List Cl)(j:Nat)(hj:j≤cl.length)(R:∀i (h:i<cl.length),i<j→cl[i].1≠1∧∀h0:0<cl.length,cl[i].1=cl[0].1)(hs:∀h:j<cl.length,cl[j].1=1∨cl[j].1≠cl[0].1):zcR cl=j:=by
 cases cl with
 |nil=>have:j=0:=by simpa using hj
       subst this;rfl
 |cons x r =>
  show(if x.1=1 then 0 else zbh x.1 (x::r))=j
  by_cases h1:x.1=1
  ·rw[if_pos h1]
   cases j with
   |zero=>rfl
   |succ j=>exact absurd h1 (R 0 (by simp) (by omega)).1
  ·rw[if_neg h1,zfz x.1 (x::r) j (fun i h hi=>(R i h hi).2 (by simp)) hj]
   rcases Nat.lt_or_ge j (x::r).length with h|h
   ·rw[List.drop_eq_getElem_cons h]
    show j+(if (x::r)[j].1=x.1 then _ else 0)=j
    rw[if_neg (fun e=>by rcases hs h with q|q;exact h1 (e.symm.trans q);exact q e)]
    rfl
   ·rw[List.drop_eq_nil_of_le h]
    rfl
theorem zmv (v:Value)(cl:List Cl)(w:World)(h:CsAt w v cl)(hl:cl.length≤1000000) :
 Calls Tryz.prog 353 #[v] w fun e w'=>e = .returned (.int .i64 (zcR cl))∧za zq2 w w':=by
 have H:=zz0 h;obtain⟨a,c,rfl,hc,ha,hx⟩:=h;clear hx
 go_enter Tryz.func353,Tryz.ntmps353
 go_wp2_with fail
 go_loopw [3] (fun i wr=>∃j:Nat,j≤cl.length∧i = .int .i64 j∧za zq2 w wr∧(∀i (h:i<cl.length),i<j→cl[i].1≠1∧∀h0:0<cl.length,cl[i].1=cl[0].1)) (fun i _=>cl.length-(intOf i).toNat)
 case atStart=>exact⟨0,by omega,rfl,za.refl _ _,fun i h hi=>by omega⟩
 case round =>
  obtain⟨j,hj,rfl,hk,hr⟩:=hrel;have K:=zz0 hk;have R:=zz0 hr;clear hk hr;by_cases hlt:j<cl.length
  ·have hlj:(j:Int)<(cl.length:Int):=by omega
   obtain⟨a1,c1,e1,q1,q2,hx⟩:=H.out.keepNon K.out;obtain⟨g,off,s,rfl,d1,_⟩:=hx j hlt;obtain⟨g',off',s',e2,d2,_⟩:=hx 0 (by omega)
   injection e1 with e1 e3 e4
   subst e1;subst e4;injection e2 with e2
   injection e2 with e2 e5
   subst e2;subst e5;clear hx q1 q2 e3;rw[Nat.zero_mul,Nat.add_zero] at d2;generalize hx1:cl[j].1=x at d1;generalize hy1:cl[0].1=y at d2;have HX:=zz0 hx1;have HY:=zz0 hy1;clear hx1 hy1;by_cases h1:x=1
   ·go_wp2_with fail
    go_quiet (fail)
    go_wp2_with fail
    go_ret;exact⟨by rw[zfB cl j (by omega) R.out (fun h=>.inl (HX.out.trans h1))];rfl,K.out.drewN _⟩
   ·have g1:(x != 1)=true:=by simpa using h1
    by_cases h2:x=y
    ·subst h2
     go_wp2_with fail
     go_quiet (fail)
     go_wp2_with fail
     exact⟨⟨j+1,by omega,by first|rfl|go_num,K.out.drewN _,fun i h hi=>by
      rcases Nat.lt_or_ge i j with h3|h3
      ·exact R.out i h h3
      ·obtain rfl:i=j:=by omega
       exact⟨fun e=>h1 (HX.out.symm.trans e),fun h0=>HX.out.trans HY.out.symm⟩⟩,by simp[intOf];omega⟩
    ·have g2:(x==y)=false:=by simpa using h2
     go_wp2_with fail
     go_quiet (fail)
     go_wp2_with fail
     go_ret;exact⟨by rw[zfB cl j (by omega) R.out (fun h=>.inr (fun e=>h2 (HX.out.symm.trans (e.trans HY.out))))];rfl,K.out.drewN _⟩
  ·obtain rfl:j=cl.length:=by omega
   go_wp2_with fail
   go_quiet (fail)
   go_wp2_with fail
   go_ret;exact⟨by rw[zfB cl cl.length (Nat.le_refl _) R.out (fun h=>absurd h (Nat.lt_irrefl _))];rfl,K.out.drewN _⟩
theorem zeF (a b:List UInt8)(j:Nat)(ha:j≤a.length)(hb:j≤b.length)(R:a.take j=b.take j)(hs:∀(h:j<a.length)(h':j<b.length),a[j]≠b[j]):zad a b=j:=by
 rw[zeE a b j R ha hb];rcases Nat.lt_or_ge j a.length with h|h
 ·rcases Nat.lt_or_ge j b.length with h'|h'
  ·rw[List.drop_eq_getElem_cons h,List.drop_eq_getElem_cons h']
   show j+(if a[j]=b[j] then _ else 0)=j
   rw[if_neg (hs h h')]
   rfl
  ·rw[List.drop_eq_nil_of_le h']
   cases a.drop j<;>rfl
 ·rw[List.drop_eq_nil_of_le h]
  rfl
theorem zg5 (v v':Value)(l m:List UInt8)(w:World)(h:Bs w v l)(h':Bs w v' m)(hl:l.length≤100000000)(hm:m.length≤100000000) :
 Calls Tryz.prog 354 #[v,v'] w fun e w'=>e = .returned (.int .i64 (zad l m))∧za zq2 w w':=by
 have H:=zz0 h;have H':=zz0 h';obtain⟨a,c,rfl,q0⟩:=zY h;obtain⟨a',c',rfl,q1⟩:=zY h';clear h h' q0 q1
 go_enter Tryz.func354,Tryz.ntmps354
 go_wp2_with fail
 go_loopw [5] (fun i wr=>∃j:Nat,j≤l.length∧j≤m.length∧i = .int .i64 j∧l.take j=m.take j∧za zq2 w wr) (fun i _=>l.length-(intOf i).toNat)
 case atStart=>exact⟨0,by omega,by omega,rfl,rfl,za.refl _ _⟩
 case round =>
  obtain⟨j,hj,hj2,rfl,he,hk⟩:=hrel;have HE:=zz0 he;have K:=zz0 hk;clear he hk;by_cases hlt:j<l.length∧j<m.length
  ·obtain⟨hlt,hlt'⟩:=hlt
   obtain⟨a1,c1,e1,q⟩:=zY (H.out.keepNon K.out);obtain⟨g,off,rfl,hcell⟩:=q j hlt;injection e1 with e1 e5 e3
   subst e1;subst e3;obtain⟨a2,c2,e2,q'⟩:=zY (H'.out.keepNon K.out);obtain⟨g2,off2,rfl,hcell2⟩:=q' j hlt';injection e2 with e2 e6 e4
   subst e2;subst e4;clear e5 e6;have hlj:(j:Int)<(l.length:Int):=by omega
   have hlj2:(j:Int)<(m.length:Int):=by omega
   have HQ:Hid (l[j].toNat=m[j].toNat↔l.take (j+1)=m.take (j+1)):=zz0 (zh0 hlt hlt' HE.out);have HN:Hid (l[j].toNat≠m[j].toNat→zad l m=j):=zz0 (fun hne=>zeF l m j (by omega) (by omega) HE.out (fun _ _ e=>hne (by rw[e])))
   have hmin:(j:Int)<min (l.length:Int) (m.length:Int):=by omega
   clear q q';generalize l[j].toNat=x at hcell HQ HN;generalize m[j].toNat=y at hcell2 HQ HN;by_cases hxy:x=y
   ·subst hxy
    have HQ2:=zz0 (HQ.out.1 rfl);clear HQ HN;rcases Int.lt_or_le (m.length:Int) (l.length:Int) with hml|hml
    all_goals
     go_wp2_with fail
     go_quiet (fail)
     go_wp2_with fail
     exact⟨⟨j+1,by omega,by omega,by first|rfl|go_num,HQ2.out,K.out.drewN _⟩,by simp[intOf];omega⟩
   ·have hne:(((x:Nat):Int)==(y:Int))=false:=by simp;omega
    have HN2:=zz0 (HN.out hxy);clear HQ HN;rcases Int.lt_or_le (m.length:Int) (l.length:Int) with hml|hml
    all_goals
     go_wp2_with fail
     go_quiet (fail)
     go_wp2_with fail
     go_ret;exact⟨by rw[HN2.out];rfl,K.out.drewN _⟩
  ·have HN:Hid (zad l m=j):=zz0 (zeF l m j hj hj2 HE.out (fun h h'=>absurd ⟨h,h'⟩ hlt))
   have hmin:¬(j:Int)<min (l.length:Int) (m.length:Int):=by omega
   clear hlt;rcases Int.lt_or_le (m.length:Int) (l.length:Int) with hml|hml
   ·have hq:¬j<m.length:=by omega
    clear hmin
    go_wp2_with fail
    go_quiet (fail)
    go_wp2_with fail
    go_ret;exact⟨by rw[HN.out];rfl,K.out.drewN _⟩
   ·have hq:¬j<l.length:=by omega
    clear hmin
    go_wp2_with fail
    go_quiet (fail)
    go_wp2_with fail
    go_ret;exact⟨by rw[HN.out];rfl,K.out.drewN _⟩
def zcl (x:Cl):Prop:=0≤x.1∧x.1≤3∧x.2.length≤64∧(x.1≠1→x.2 = [])
theorem zl9 {x:Cl}(h:zcl x):zb7 x.1 x.2.length=0:=by
 obtain⟨h1,h2,h3,h4⟩:=h;unfold zb7;rw[if_neg (by omega),if_neg (by omega),if_neg]
 rintro⟨h5,h6⟩;rw[h4 h6] at h5;exact absurd h5 (by simp)
def slen:Value→Nat
 |.slice _ n _=>n
 |_=>0
def PutRunR (w:World)(cl:List Cl)(l0:List UInt8)(rv ov la:Value)(wr:World):Prop :=
 ∃(rest:List Cl) (last done:List UInt8),CsAt wr rv rest∧Bs wr la last∧wr.ownsRow w.heap.size 5 1 ov (l0++zo cl.length++done).length ((l0++zo cl.length++done).map bv)∧za zq2 w wr ∧
  done++zak rest.length last rest=zak cl.length [] cl∧(∀x ∈ rest,zcl x)∧done.length+96*rest.length≤96*64∧last.length≤64
theorem zgZ {w:World}{t:TypeId}(u v z:Value):Rd (w.alloc (.cells #[u,v,z] t)) (.slice (some ⟨w.heap.size,0,none⟩) 3 3) [u,v,z]:=by
 refine⟨_,3,rfl,fun _=>⟨w.heap.size,0,rfl,fun j x hx=>?_⟩⟩
 match j with
 |0=>simp at hx;subst hx;exact World.cell?_alloc_new _ _ _ 0
 |1=>simp at hx;subst hx;exact World.cell?_alloc_new _ _ _ 1
 |2=>simp at hx;subst hx;exact World.cell?_alloc_new _ _ _ 2
 |j+3=>simp at hx
theorem zlf {w:World}{g off rc m n:Nat}{cl:List Cl}(h:CsAt w (.slice (some ⟨g,off,none⟩) m rc) cl)(hm:cl.length=m)(hn:n≤m)(hrc:m≤rc) :
 CsAt w (.slice (if rc=n then some ⟨g,off,none⟩ else some ⟨g,off+n*2,none⟩) (m-n) (rc-n)) (cl.drop n):=by
 obtain⟨a,c,e,_,_,hx⟩:=h;injection e with e1 e2 e3
 subst e1;have hl:(cl.drop n).length=m-n:=by rw[List.length_drop,hm]
 refine⟨_,_,by rw[hl],by rw[hl];omega,fun ad e=>?_,fun j hj=>?_⟩
 ·split at e<;>(injection e with e;exact⟨_,_,e.symm⟩)
 ·rw[hl] at hj
  obtain⟨g',off',s,e4,h1,h2,h3,h4⟩:=hx (n+j) (by omega)
  injection e4 with e4
  injection e4 with e4 e5
  subst e4;subst e5;refine⟨g,off+n*2,s,by rw[if_neg (by omega)],?_,?_,?_,h4⟩
  ·rw[List.getElem_drop,show off+n*2+j*2=off+(n+j)*2 by omega];exact h1
  ·rw[show off+n*2+j*2+1=off+(n+j)*2+1 by omega];exact h2
  ·rw[List.getElem_drop];exact h3
theorem PutRunR.drewN {w:World}{cl:List Cl}{l0:List UInt8}{rv ov la:Value}{wr:World}(n:Nat)(h:PutRunR w cl l0 rv ov la wr):PutRunR w cl l0 rv ov la (wr.drewN n):=by
 obtain⟨rest,last,done,h1,h2,h3,h4,h5⟩:=h;have k:za zq2 wr (wr.drewN n):=(za.refl _ _).drewN n;exact⟨rest,last,done,h1.keepNon k,h2.keepNon k,zc h3 k (fun _ _ e=>e),h4.drewN n,h5⟩
theorem zkx (v b:Value)(l0:List UInt8)(cl:List Cl)(w:World)(hb:Bs w b l0)(hl0:l0.length≤1000)(h:CsAt w v cl)(hl:cl.length≤64)(hok:∀x ∈ cl,zcl x) :
 Calls Tryz.prog 322 #[b,v] w fun e w'=>∃v',e = .returned (.tuple #[v',.nilIface])∧za zq2 w w'∧w'.ownsRow w.heap.size 5 1 v' (l0++runB cl).length ((l0++runB cl).map bv):=by
 have H:=zz0 h;have HB:=zz0 hb;obtain⟨a,c,rfl,hc,ha,hx⟩:=h;obtain⟨a0,c0,rfl,_⟩:=hb;clear hx;obtain⟨i0,hi0,hz0,hz1,hz2⟩:=info_parts infoU8;rw[List.length_map] at HB ⊢
 go_enter Tryz.func322,Tryz.ntmps322
 go_wp2_with fail
 go_loopw [20] (fun i wr=>∃j:Nat,j≤cl.length∧i = .int .i64 j∧za zq2 w wr) (fun i _=>cl.length-(intOf i).toNat)
 case atStart=>exact⟨0,by omega,rfl,za.refl _ _⟩
 case round =>
  obtain⟨j,hj,rfl,hk⟩:=hrel;have K:=zz0 hk;clear hk;by_cases hlt:j<cl.length
  ·have hlj:(j:Int)<(cl.length:Int):=by omega
   obtain⟨a1,c1,e1,q1,q2,hx⟩:=H.out.keepNon K.out;obtain⟨g,off,s,rfl,d1,d2,d3,d4⟩:=hx j hlt;have hce:=zl9 (hok _ (List.getElem_mem hlt));injection e1 with e1 e3 e4
   subst e1;subst e4;clear hx q1 q2 e3;obtain⟨a2,c2,rfl,_⟩:=zY d3;generalize cl[j].1=x at d1 hce;generalize cl[j].2.length=n at d2 hce;clear d3 d4;have HCE:=zz0 hce;clear hce
   go_wp2_with(go_at_call 52;refine(zda x a2 n c2 _).mono ?_;rw[HCE.out];rintro e w1 ⟨rfl,k1⟩;rw[zaK];have K1:=zz0 k1;clear k1)
   exact⟨⟨j+1,by omega,by first|rfl|go_num,(K.out.alloc _).trans1 K1.out⟩,by simp[intOf];omega⟩
  ·obtain rfl:j=cl.length:=by omega
   go_wp2_with(go_at_call 179;refine(zS _ l0 (some ⟨wr.heap.size,0,none⟩) 1 [cl.length] _ (HB.out.keepNon (K.out.alloc _)) (by omega) (zdR _ _ _) (by intro n hn;simp at hn;omega) (by simp)).mono ?_;rintro e w1 ⟨v1,rfl,k1,o1⟩;obtain⟨a1,c1,rfl,_,_⟩:=zb o1;have K1:=zz0 ((K.out.alloc _).trans1 k1);have O1:=zz0 o1;clear k1 o1)
   obtain⟨w0,hw0⟩:∃w0,w0=w1:=⟨_,rfl⟩;subst hw0;have hvl:(zo cl.length).length≤3:=zP (by omega)
   have O1':Hid (w0.ownsRow w.heap.size 5 1 (.slice a1 (l0.length+(zm [cl.length]).length) c1) (l0++zo cl.length ++ []).length ((l0++zo cl.length ++ []).map bv)):=zz0 (by
    have:=zg O1.out (base:=w.heap.size) (by have:=K.out.size;simp;omega)
    simpa [zm] using this)
   go_loopw [1,9,10] (fun rv ov la wr=>PutRunR w cl l0 rv ov la wr) (fun rv _ _ _=>slen rv)
   case atStart=>exact⟨cl,[],[],H.out.keepNon K1.out,Rd.nil _,O1'.out,K1.out,rfl,hok,by simp;omega,by simp⟩
   case round =>
    obtain⟨rest,last,done,hcs,hla,hou,hkk,henc,hokr,hbd,hlast⟩:=hrel;have CS:=zz0 hcs;have LA:=zz0 hla;have OU:=zz0 hou;have KK:=zz0 hkk;have EN:=zz0 henc;have OKR:=zz0 hokr;have BD:=zz0 hbd;obtain⟨va,vc,rfl,_,_⟩:=zb hou;obtain⟨ra,rc,rfl,hrc,hra,hrx⟩:=hcs;obtain⟨la1,lc,rfl,_⟩:=zY hla;clear hla hou hkk henc hokr hbd;cases rest with
    |nil =>
     clear hrx;have e0:l0++zo cl.length++done=l0++runB cl:=by
      have e1:done=zak cl.length [] cl:=by have:=EN.out;simpa [zak] using this
      rw[e1,List.append_assoc]
      rfl
     clear EN BD;rw[e0] at OU ⊢
     go_wp2_with fail
     go_ret2;exact⟨_,rfl,KK.out,OU.out⟩
    |cons x r =>
     obtain⟨g,off,s,rfl,d1,d2,d3,d4⟩:=hrx 0 (by simp)
     simp only[List.getElem_cons_zero,Nat.zero_mul,Nat.add_zero] at d1 d2 d3;obtain⟨a2,c2,rfl,_⟩:=zY d3;have T:=zz0 d3;have TO:=zz0 d4;obtain⟨hk0,hk3,hl64,hk1⟩:=OKR.out x (by simp)
     have hxn:((x.1.toNat:Nat):Int)=x.1:=by omega
     have hdl:done.length≤96*64:=by have:=BD.out;omega
     have hrl:(x::r).length≤64:=by have:=BD.out;omega
     have hrow:=ziM (x::r);clear hrx d3 d4;by_cases hn:0<zcR (x::r)
     ·have EN2:Hid (done++(zo (zcR (x::r))++zo x.1.toNat)++zak ((x::r).drop (zcR (x::r))).length last ((x::r).drop (zcR (x::r)))=zak cl.length [] cl):=zz0 (by
       rw[←EN.out];show _=done++(if 0<zcR (x::r) then _ else _)
       rw[if_pos hn,zcD r.length ((x::r).drop (zcR (x::r))).length last _ (by rw[List.length_drop];simp;omega) (Nat.le_refl _)]
       simp only[List.append_assoc])
      have hdc:done.length+96*(x::r).length≤96*64:=BD.out;have hv1:(zo (zcR (x::r))).length≤3:=zP (by omega)
      have hv2:(zo x.1.toNat).length≤3:=zP (by omega)
      have HV:=zz0 (And.intro hv1 hv2);have hlen:((x::r).length:Nat)≠0:=by simp
      have OKR2:Hid (∀y ∈ (x::r).drop (zcR (x::r)),zcl y):=zz0 (fun y hy=>OKR.out y (List.mem_of_mem_drop hy))
      clear EN BD OKR hk1 hv1 hv2;generalize hnn:zcR (x::r)=n at hn EN2 HV hrow OKR2;have hq:(l0++zo cl.length++done).length≤100000:=by simp only[List.length_append];omega
      have hm0:0<(x::r).length:=by simp
      clear hlen;have hx:IntKind.u64.wrap x.1=((x.1.toNat:Nat):Int):=by rw[←hxn,zX (by omega)];simp
      have hrow2:Calls Tryz.prog 353 #[.slice (some ⟨g,off,none⟩) (x::r).length rc] wr fun e w'=>e = .returned (.int .i64 n)∧za zq2 wr w':=by
       rw[←hnn];exact zmv _ (x::r) wr CS.out (by omega)
      have HR:=zz0 hrow2;have hkl:x.1.toNat≤3:=by omega
      clear hrow2 hnn;rw[←hxn] at d1;clear hxn hx hk0 hk3;generalize x.1.toNat=kn at EN2 HV hkl d1;generalize hmm:(x::r).length=m at CS HR hrc hrl hdc hrow hm0;have HM:=zz0 hmm;clear hmm;generalize hqq:(l0++zo cl.length++done).length=q at OU hq;have HQ:=zz0 hqq;clear hqq
      go_wp2_with(first
       |(go_at_call 353;refine HR.out.mono ?_;rintro e w2 ⟨rfl,k2⟩;have K2:=zz0 k2;clear k2;have d1':=(World.cell?_of_block (K2.out.block g (World.block_lt_of_cell? _ _ d1) (fun e=>e))).trans d1)
       |(go_at_call 179;refine(zS _ (l0++zo cl.length++done) (some ⟨w2.heap.size,0,none⟩) 2 [n,kn] _ (((Rd.ofOwns OU.out).keepNon K2.out).keepNon ((za.refl _ _).alloc _)) (by rw[HQ.out];omega) (by exact zmZ _ _) (by intro z hz;simp at hz;omega) (by simp)).mono ?_;rintro e w3 ⟨v3,rfl,k3,o3⟩;obtain⟨a3,c3,rfl,_,_⟩:=zb o3;have K3:=zz0 (((za.refl _ _).alloc _).trans1 k3);have O3:=zz0 o3;clear k3 o3))
      have e:l0++zo cl.length++done++zm [n,kn]=l0++zo cl.length++(done++(zo n++zo kn)):=by simp[zm]
      have o:=zg O3.out (base:=w.heap.size) (by have h1:=KK.out.size;have h2:=K2.out.size;simp;omega)
      rw[e] at o;have hl2:l0.length+((zo cl.length).length+(done.length+(zm [n,kn]).length))=(l0++zo cl.length++(done++(zo n++zo kn))).length:=by simp[zm]
      have K4:=K2.out.trans1 K3.out;rw[hl2];refine⟨⟨(x::r).drop n,last,done++(zo n++zo kn),zlf (CS.out.keepNon K4) HM.out hrow hrc,LA.out.keepNon K4,o,KK.out.trans1 K4,EN2.out,OKR2.out,?_,hlast⟩,?_⟩
      ·have hv:=HV.out
       rw[List.length_drop,HM.out];simp only[List.length_append];omega
      ·simp only[slen];omega
     ·have hn0:zcR (x::r)=0:=by omega
      have hs:=zcT last x.2;have EN2:Hid (done++(zo 0++zo x.2.length++zo (zad last x.2)++x.2.drop (zad last x.2))++zak r.length x.2 r=zak cl.length [] cl):=zz0 (by
       rw[←EN.out];show _=done++(if 0<zcR (x::r) then _ else _)
       rw[if_neg hn];simp only[List.append_assoc])
      have hdc:done.length+96*(x::r).length≤96*64:=BD.out;have hrow2:Calls Tryz.prog 353 #[.slice (some ⟨g,off,none⟩) (x::r).length rc] wr fun e w'=>e = .returned (.int .i64 0)∧za zq2 wr w':=by
       have:=zmv _ (x::r) wr CS.out (by omega)
       rw[hn0] at this;exact this
      have HR:=zz0 hrow2;have OKR2:Hid (∀y ∈ r,zcl y):=zz0 (fun y hy=>OKR.out y (by simp[hy]))
      have hq:(l0++zo cl.length++done).length≤100000:=by simp only[List.length_append];omega
      have CS2:Hid (CsAt wr (.slice (if rc=1 then some ⟨g,off,none⟩ else some ⟨g,off+1*2,none⟩) ((x::r).length-1) (rc-1)) r):=zz0 (zlf CS.out rfl (by simp) hrc)
      have hm0:0<(x::r).length:=by simp
      clear EN BD OKR hk1 hrow2 hn hn0 hrow hxn hk0 hk3 CS;generalize hsn:zad last x.2=sN at hs EN2;have HSN:=zz0 hsn;clear hsn;generalize hmm:(x::r).length=m at CS2 HR hrc hrl hdc hm0;have HM:=zz0 hmm;clear hmm;generalize hqq:(l0++zo cl.length++done).length=q at OU hq;have HQ:=zz0 hqq;clear hqq
      go_wp2_with(first
       |(go_at_call 353;refine HR.out.mono ?_;rintro e w2 ⟨rfl,k2⟩;have K2:=zz0 k2;clear k2;have d2':=(World.cell?_of_block (K2.out.block g (World.block_lt_of_cell? _ _ d2) (fun e=>e))).trans d2)
       |(go_at_call 354;refine(zg5 _ _ last x.2 _ (LA.out.keepNon K2.out) (T.out.keepNon K2.out) (by omega) (by omega)).mono ?_;rw[HSN.out];rintro e w3 ⟨rfl,k3⟩;have K3:=zz0 (K2.out.trans1 k3);clear k3))
      have TV:∀tv,Bs wr tv (x.2.drop sN)→Hid (Bs w3 tv (x.2.drop sN)):=fun tv h=>zz0 (h.keepNon K3.out)
      have hn2:x.2.length-sN≤64:=by omega
      have hdrop:(x.2.drop sN).length=x.2.length-sN:=List.length_drop;have T3:=zz0 (T.out.keepNon K3.out);cases a2 with
      |none =>
       have hx0:x.2 = []:=by
        rcases Classical.em (x.2 = []) with e|e
        ·exact e
        ·obtain⟨_,_,e1,hh⟩:=T.out
         obtain⟨g9,off9,e2,_⟩:=hh (by simpa using e)
         injection e1 with e1
         rw[←e1] at e2;cases e2
       have hx1:x.2.length=0:=by rw[hx0];rfl
       have hs0:sN=0:=by omega
       subst hs0;have TD:=TV (.slice none 0 c2) ⟨none,c2,by rw[hx0];rfl,fun h=>by rw[hx0] at h;exact(h rfl).elim⟩
       have hc2:=TO.out.1;have hn20:x.2.length=0:=hx1;have hnn:=hx1;simp only[hx1] at hc2 hn2 hdrop T3 hs hl64 d2 ⊢;clear hx0 hx1 hn20;have HV27:Hid ((zm [0,0,0]).length≤27):=zz0 (zaf [0,0,0] (by intro z hz;simp at hz;omega))
       have hw1:=zX (n:=0) (by omega)
       have hw2:=zX (n:=0) (by omega)
       go_region_law(first
        |(go_simp;go_at_call 179;refine(zS _ (l0++zo cl.length++done) (some ⟨w3.heap.size,0,none⟩) 3 [0,0,0] _ (by exact(((Rd.ofOwns OU.out).keepNon K3.out).keepNon (((za.refl zq2 w3).alloc _).drew))) (by rw[HQ.out];omega) (by exact zgZ _ _ _) (by intro z hz;simp at hz;omega) (by simp)).mono ?_;rintro e w4 ⟨v4,rfl,k4,o4⟩;obtain⟨Q2,hQ2⟩:∃Q2,Q2=(l0++zo cl.length++done++zm [0,0,0]).length:=⟨_,rfl⟩;rw[←hQ2] at o4;obtain⟨a4,c4,rfl,_,_⟩:=zb o4;have K4:Hid (za zq2 w3 w4):=zz0 ((((za.refl zq2 w3).alloc _).drew).trans1 k4);have O4:Hid (w4.ownsRow w.heap.size 5 1 (.slice a4 Q2 c4) Q2 ((l0++zo cl.length++done++zm [0,0,0]).map bv)):=zz0 (zg o4 (by have:=KK.out.size;have:=K3.out.size;simp;omega));have OB:Hid (∀g,(Value.slice a4 Q2 c4).ownBlock=some g→w3.heap.size≤g):=zz0 (fun g e=>by have:=(o4.lt g e).1;simp at this;omega);have HQ2:=zz0 hQ2;have hQB:Q2≤100030:=(by rw[hQ2,List.length_append,HQ.out];exact Nat.le_trans (Nat.add_le_add hq HV27.out) (Nat.le_of_ble_eq_true rfl));clear k4 o4 hQ2)
        |(refine zaj (by rfl) (.tmp 70) (.tmp 73) 43 (by rfl) w.heap.size 5 i0 (.int .u8 0) 1 Tryz.underlying43 hi0 hz0 hz1 hz2 rfl (.slice a4 Q2 c4) Q2 ((l0++zo cl.length++done++zm [0,0,0]).map bv) (by rfl) (by exact O4.out) (.slice none 0 c2) (by simp[Act.eval]) ((x.2.drop 0).map bv) (by exact TD.out.keepNon K4.out) (zy _) (by rw[List.length_map,hdrop];unfold maxLen;omega) (by rw[List.length_map,hdrop];omega) (by have:=KK.out.size;have:=K3.out.size;have:=K4.out.size;omega) ?_;intro v5 w5 ho hg hpp;have O5:=zz0 ho;have K5:Hid (za zq2 w3 w5):=zz0 (K4.out.grown hg (fun k e=>.inr (OB.out k e)));clear ho hg hpp))
       all_goals
        have o5:=O5.out;have e5:l0++zo cl.length++done++zm [0,0,0]++x.2.drop 0=l0++zo cl.length++(done++(zo 0++zo 0++zo 0++x.2.drop 0)):=by simp[zm]
        rw[←List.map_append,e5,show Q2+((x.2.drop 0).map bv).length=(l0++zo cl.length++(done++(zo 0++zo 0++zo 0++x.2.drop 0))).length by rw[←e5,List.length_append,←HQ2.out];simp] at o5
        have K6:=K3.out.trans1 K5.out;have CS3:=zz0 (CS2.out.keepNon K6);have T6:=T3.out.keepNon K5.out;have R6:∀rv,rv = .slice (if rc=1 then some ⟨g,off,none⟩ else some ⟨g,off+1*2,none⟩) (m-1) (rc-1)→PutRunR w cl l0 rv v5 (.slice none 0 c2) w5:=by
         rintro rv rfl;refine⟨r,x.2,done++(zo 0++zo 0++zo 0++x.2.drop 0),CS3.out,T6,o5,KK.out.trans1 K6,by rw[←EN2.out,hnn],OKR2.out,?_,by omega⟩
         have hm1:m=r.length+1:=by rw[←HM.out];rfl
         have hv27:=HV27.out;simp only[List.length_append,hdrop,zdp,zfJ,List.append_nil] at hv27 ⊢;omega
        clear o5 e5 T6 K6;have hm1i:(1:Int)≤(m:Int):=by omega
        by_cases hrc1:rc=1
        all_goals
         have R7:=R6 _ rfl;clear R6
         first|rw[if_pos hrc1,show rc-1=0 by omega] at R7|rw[if_neg hrc1] at R7
         have R8:=zz0 (fun n=>PutRunR.drewN n R7)
         clear R7;go_simp
         go_wp2_with fail
         go_region
         all_goals
          go_wp2_with fail
          exact⟨by first|exact R8.out 0|exact R8.out 1,by simp[slen];omega⟩
      |some ad =>
       obtain⟨g2,off2,rfl⟩:=TO.out.2 ad rfl;have hc2:=TO.out.1;by_cases hcq:c2=sN
       ·have TD:=TV (.slice (some ⟨g2,off2,none⟩) (x.2.length-sN) 0) ⟨_,0,by rw[List.length_map,hdrop],fun h=>by
         have h9:x.2.drop sN = []:=List.eq_nil_of_length_eq_zero (by rw[hdrop];omega)
         rw[h9] at h;exact(h rfl).elim⟩
        subst hcq;generalize hnn:x.2.length=n2 at hc2 hn2 hdrop T3 TD HSN hs hl64 d2;have HV27:Hid ((zm [0,n2,c2]).length≤27):=zz0 (zaf [0,n2,c2] (by intro z hz;simp at hz;omega))
        have hw1:=zX (n:=n2) (by omega)
        have hw2:=zX (n:=c2) (by omega)
        go_region_law(first
         |(go_simp;go_at_call 179;refine(zS _ (l0++zo cl.length++done) (some ⟨w3.heap.size,0,none⟩) 3 [0,n2,c2] _ (by exact(((Rd.ofOwns OU.out).keepNon K3.out).keepNon (((za.refl zq2 w3).alloc _).drew))) (by rw[HQ.out];omega) (by exact zgZ _ _ _) (by intro z hz;simp at hz;omega) (by simp)).mono ?_;rintro e w4 ⟨v4,rfl,k4,o4⟩;obtain⟨Q2,hQ2⟩:∃Q2,Q2=(l0++zo cl.length++done++zm [0,n2,c2]).length:=⟨_,rfl⟩;rw[←hQ2] at o4;obtain⟨a4,c4,rfl,_,_⟩:=zb o4;have K4:Hid (za zq2 w3 w4):=zz0 ((((za.refl zq2 w3).alloc _).drew).trans1 k4);have O4:Hid (w4.ownsRow w.heap.size 5 1 (.slice a4 Q2 c4) Q2 ((l0++zo cl.length++done++zm [0,n2,c2]).map bv)):=zz0 (zg o4 (by have:=KK.out.size;have:=K3.out.size;simp;omega));have OB:Hid (∀g,(Value.slice a4 Q2 c4).ownBlock=some g→w3.heap.size≤g):=zz0 (fun g e=>by have:=(o4.lt g e).1;simp at this;omega);have HQ2:=zz0 hQ2;have hQB:Q2≤100030:=(by rw[hQ2,List.length_append,HQ.out];exact Nat.le_trans (Nat.add_le_add hq HV27.out) (Nat.le_of_ble_eq_true rfl));clear k4 o4 hQ2)
         |(refine zaj (by rfl) (.tmp 70) (.tmp 73) 43 (by rfl) w.heap.size 5 i0 (.int .u8 0) 1 Tryz.underlying43 hi0 hz0 hz1 hz2 rfl (.slice a4 Q2 c4) Q2 ((l0++zo cl.length++done++zm [0,n2,c2]).map bv) (by rfl) (by exact O4.out) (.slice (some ⟨g2,off2,none⟩) (n2-c2) 0) (by simp[Act.eval]<;>omega) ((x.2.drop c2).map bv) (by exact TD.out.keepNon K4.out) (zy _) (by rw[List.length_map,hdrop];unfold maxLen;omega) (by rw[List.length_map,hdrop];omega) (by have:=KK.out.size;have:=K3.out.size;have:=K4.out.size;omega) ?_;intro v5 w5 ho hg hpp;have O5:=zz0 ho;have K5:Hid (za zq2 w3 w5):=zz0 (K4.out.grown hg (fun k e=>.inr (OB.out k e)));clear ho hg hpp))
        all_goals
         have o5:=O5.out;have e5:l0++zo cl.length++done++zm [0,n2,c2]++x.2.drop c2=l0++zo cl.length++(done++(zo 0++zo n2++zo c2++x.2.drop c2)):=by simp[zm]
         rw[←List.map_append,e5,show Q2+((x.2.drop c2).map bv).length=(l0++zo cl.length++(done++(zo 0++zo n2++zo c2++x.2.drop c2))).length by rw[←e5,List.length_append,←HQ2.out];simp] at o5
         have K6:=K3.out.trans1 K5.out;have CS3:=zz0 (CS2.out.keepNon K6);have T6:=T3.out.keepNon K5.out;have R6:∀rv,rv = .slice (if rc=1 then some ⟨g,off,none⟩ else some ⟨g,off+1*2,none⟩) (m-1) (rc-1)→PutRunR w cl l0 rv v5 (.slice (some ⟨g2,off2,none⟩) n2 c2) w5:=by
          rintro rv rfl;refine⟨r,x.2,done++(zo 0++zo n2++zo c2++x.2.drop c2),CS3.out,T6,o5,KK.out.trans1 K6,by rw[←EN2.out,hnn],OKR2.out,?_,by omega⟩
          have hm1:m=r.length+1:=by rw[←HM.out];rfl
          have hv27:=HV27.out;simp only[List.length_append,hdrop,zdp,zfJ,List.append_nil] at hv27 ⊢;omega
         clear o5 e5 T6 K6;have hm1i:(1:Int)≤(m:Int):=by omega
         by_cases hrc1:rc=1
         all_goals
          have R7:=R6 _ rfl;clear R6
          first|rw[if_pos hrc1,show rc-1=0 by omega] at R7|rw[if_neg hrc1] at R7
          have R8:=zz0 (fun n=>PutRunR.drewN n R7)
          clear R7;go_simp
          go_wp2_with fail
          go_region
          all_goals
           go_wp2_with fail
           exact⟨by first|exact R8.out 0|exact R8.out 1,by simp[slen];omega⟩
       ·have TD:=TV (.slice (some ⟨g2,off2+sN,none⟩) (x.2.length-sN) (c2-sN)) (by
         have h:=T.out;rw[←List.take_append_drop sN x.2] at h;have:=zfx h;rw[List.length_take,Nat.min_eq_left hs.2,List.length_append,List.length_take,List.length_drop,Nat.min_eq_left hs.2] at this;rw[show sN+(x.2.length-sN)-sN=x.2.length-sN by omega] at this
         exact this)
        generalize hnn:x.2.length=n2 at hc2 hn2 hdrop T3 TD HSN hs hl64 d2;have HV27:Hid ((zm [0,n2,sN]).length≤27):=zz0 (zaf [0,n2,sN] (by intro z hz;simp at hz;omega))
        have hw1:=zX (n:=n2) (by omega)
        have hw2:=zX (n:=sN) (by omega)
        go_region_law(first
         |(go_simp;go_at_call 179;refine(zS _ (l0++zo cl.length++done) (some ⟨w3.heap.size,0,none⟩) 3 [0,n2,sN] _ (by exact(((Rd.ofOwns OU.out).keepNon K3.out).keepNon (((za.refl zq2 w3).alloc _).drew))) (by rw[HQ.out];omega) (by exact zgZ _ _ _) (by intro z hz;simp at hz;omega) (by simp)).mono ?_;rintro e w4 ⟨v4,rfl,k4,o4⟩;obtain⟨Q2,hQ2⟩:∃Q2,Q2=(l0++zo cl.length++done++zm [0,n2,sN]).length:=⟨_,rfl⟩;rw[←hQ2] at o4;obtain⟨a4,c4,rfl,_,_⟩:=zb o4;have K4:Hid (za zq2 w3 w4):=zz0 ((((za.refl zq2 w3).alloc _).drew).trans1 k4);have O4:Hid (w4.ownsRow w.heap.size 5 1 (.slice a4 Q2 c4) Q2 ((l0++zo cl.length++done++zm [0,n2,sN]).map bv)):=zz0 (zg o4 (by have:=KK.out.size;have:=K3.out.size;simp;omega));have OB:Hid (∀g,(Value.slice a4 Q2 c4).ownBlock=some g→w3.heap.size≤g):=zz0 (fun g e=>by have:=(o4.lt g e).1;simp at this;omega);have HQ2:=zz0 hQ2;have hQB:Q2≤100030:=(by rw[hQ2,List.length_append,HQ.out];exact Nat.le_trans (Nat.add_le_add hq HV27.out) (Nat.le_of_ble_eq_true rfl));clear k4 o4 hQ2)
         |(refine zaj (by rfl) (.tmp 70) (.tmp 73) 43 (by rfl) w.heap.size 5 i0 (.int .u8 0) 1 Tryz.underlying43 hi0 hz0 hz1 hz2 rfl (.slice a4 Q2 c4) Q2 ((l0++zo cl.length++done++zm [0,n2,sN]).map bv) (by rfl) (by exact O4.out) (.slice (some ⟨g2,off2+sN,none⟩) (n2-sN) (c2-sN)) (by simp[Act.eval]) ((x.2.drop sN).map bv) (by exact TD.out.keepNon K4.out) (zy _) (by rw[List.length_map,hdrop];unfold maxLen;omega) (by rw[List.length_map,hdrop];omega) (by have:=KK.out.size;have:=K3.out.size;have:=K4.out.size;omega) ?_;intro v5 w5 ho hg hpp;have O5:=zz0 ho;have K5:Hid (za zq2 w3 w5):=zz0 (K4.out.grown hg (fun k e=>.inr (OB.out k e)));clear ho hg hpp))
        all_goals
         have o5:=O5.out;have e5:l0++zo cl.length++done++zm [0,n2,sN]++x.2.drop sN=l0++zo cl.length++(done++(zo 0++zo n2++zo sN++x.2.drop sN)):=by simp[zm]
         rw[←List.map_append,e5,show Q2+((x.2.drop sN).map bv).length=(l0++zo cl.length++(done++(zo 0++zo n2++zo sN++x.2.drop sN))).length by rw[←e5,List.length_append,←HQ2.out];simp] at o5
         have K6:=K3.out.trans1 K5.out;have CS3:=zz0 (CS2.out.keepNon K6);have T6:=T3.out.keepNon K5.out;have R6:∀rv,rv = .slice (if rc=1 then some ⟨g,off,none⟩ else some ⟨g,off+1*2,none⟩) (m-1) (rc-1)→PutRunR w cl l0 rv v5 (.slice (some ⟨g2,off2,none⟩) n2 c2) w5:=by
          rintro rv rfl;refine⟨r,x.2,done++(zo 0++zo n2++zo sN++x.2.drop sN),CS3.out,T6,o5,KK.out.trans1 K6,by rw[←EN2.out,hnn],OKR2.out,?_,by omega⟩
          have hm1:m=r.length+1:=by rw[←HM.out];rfl
          have hv27:=HV27.out;simp only[List.length_append,hdrop,zdp,zfJ,List.append_nil] at hv27 ⊢;omega
         clear o5 e5 T6 K6;have hm1i:(1:Int)≤(m:Int):=by omega
         by_cases hrc1:rc=1
         all_goals
          have R7:=R6 _ rfl;clear R6
          first|rw[if_pos hrc1,show rc-1=0 by omega] at R7|rw[if_neg hrc1] at R7
          have R8:=zz0 (fun n=>PutRunR.drewN n R7)
          clear R7;go_simp
          go_wp2_with fail
          go_region
          all_goals
           go_wp2_with fail
           exact⟨by first|exact R8.out 0|exact R8.out 1,by simp[slen];omega⟩
def zaC (f:Nat)(cl:List Cl):List UInt8:=zbb (zo f++runB cl)
theorem zh {w w':World}{b:Nat}{o:Obj}(k:za zq2 w w')(h:w.heap[b]? = some o):w'.heap[b]? = some o:=k.at h (fun e=>e)
theorem zm8 (n:Nat):zm [n]=zo n:=by simp[zm]
theorem zaa (w:World)(a b:Obj):((w.alloc a).alloc b).heap[w.heap.size+1]? = some b:=by have:=ze (w.alloc a) b;rwa [show(w.alloc a).heap.size=w.heap.size+1 by simp] at this
def SgB (f:Nat)(v:Value):Obj:=.cells #[.int .i64 f,v] 263 (0,0)
section
variable {w : World} {p f : Nat} {v : Value}
theorem sg_0 (h:w.heap[p]? = some (SgB f v)):w.cell? ⟨p,0,none⟩=some (.int .i64 f):=by simp[World.cell?,h,SgB]
theorem sg_f (h:w.heap[p]? = some (SgB f v))(i:Nat):w.frozen? ⟨p,i,none⟩=false:=by simp[World.frozen?,h,SgB]
theorem zcj (h:w.heap[p]? = some (SgB f v))(j:Nat):(w.setCell ⟨p,0,none⟩ (.int .i64 j)).heap[p]? = some (SgB j v):=zj h 0 _
theorem zc4 (h:w.heap[p]? = some (SgB f v))(u:Value):(w.setCell ⟨p,1,none⟩ u).heap[p]? = some (SgB f u):=zj h 1 _
theorem sg_1 (h:w.heap[p]? = some (SgB f v)):w.cell? ⟨p,1,none⟩=some v:=by simp[World.cell?,h,SgB]
end
theorem zor (f:Nat)(a:Option Addr)(n c:Nat)(w:World)(hf:f+n≤1000000000) :
 Calls Tryz.prog 352 #[.agg #[.int .i64 f,.slice a n c]] w fun e w'=>e = .returned (.int .i64 ((f:Int)+n))∧za zq2 w w':=by
 go_enter Tryz.func352,Tryz.ntmps352
 go_wp2_with fail
 go_ret;exact⟨rfl,(za.refl _ _).alloc _⟩
theorem zge (f:Nat)(v:Value)(cl:List Cl)(w:World)(h:CsAt w v cl)(hl:cl.length≤64)(hok:∀x ∈ cl,zcl x)(hf:f+cl.length≤1048576) :
 Calls Tryz.prog 321 #[.agg #[.int .i64 f,v]] w fun e w'=>e = .returned .nilIface∧za zq2 w w':=by
 have H:=zz0 h;obtain⟨a,c,rfl,hc,ha,hx⟩:=h;clear hx
 go_enter Tryz.func321,Tryz.ntmps321
 go_wp2_with(go_at_call 352;refine(zor f a cl.length c _ (by omega)).mono ?_;rintro e w1 ⟨rfl,k1⟩;have b1:=k1.at (ze w (SgB f (.slice a cl.length c))) (fun e=>e);have c1:=sg_1 b1;have K1:=zz0 (((za.refl zq2 w).alloc _).trans1 k1);clear k1 b1)
 go_loopw [30] (fun i wr=>∃j:Nat,j≤cl.length∧i = .int .i64 j∧za zq2 w wr) (fun i _=>cl.length-(intOf i).toNat)
 case atStart=>exact⟨0,by omega,rfl,K1.out⟩
 case round =>
  obtain⟨j,hj,rfl,hk⟩:=hrel;have K:=zz0 hk;clear hk;by_cases hlt:j<cl.length
  ·have hlj:(j:Int)<(cl.length:Int):=by omega
   obtain⟨a1,c1,e1,q1,q2,hx⟩:=H.out.keepNon K.out;obtain⟨g,off,s,rfl,d1,d2,d3,d4⟩:=hx j hlt;have hce:=zl9 (hok _ (List.getElem_mem hlt));injection e1 with e1 e3 e4
   subst e1;subst e4;clear hx q1 q2 e3;obtain⟨a2,c2,rfl,_⟩:=zY d3;generalize cl[j].1=x at d1 hce;generalize cl[j].2.length=n at d2 hce;clear d3 d4;have HCE:=zz0 hce;clear hce
   go_wp2_with(go_at_call 52;refine(zda x a2 n c2 _).mono ?_;rw[HCE.out];rintro e w1 ⟨rfl,k1⟩;rw[zaK];have K1:=zz0 k1;clear k1)
   exact⟨⟨j+1,by omega,by first|rfl|go_num,(K.out.alloc _).trans1 K1.out⟩,by simp[intOf];omega⟩
  ·obtain rfl:j=cl.length:=by omega
   go_wp2_with fail
   go_ret;exact⟨rfl,K.out⟩
theorem zos (f:Nat)(v:Value)(cl:List Cl)(w:World)(h:CsAt w v cl)(hl:cl.length≤64)(hok:∀x ∈ cl,zcl x)(hf:f+cl.length≤1048576)(hb:(zo f++runB cl).length≤65536) :
 Calls Tryz.prog 286 #[.agg #[.int .i64 f,v]] w fun e w'=>∃v',e = .returned (.tuple #[v',.nilIface])∧za zq2 w w'∧w'.ownsRow w.heap.size 5 1 v' (zaC f cl).length ((zaC f cl).map bv):=by
 have H:=zz0 h;have CK:=zz0 (fun w1 (k:za zq2 w w1)=>zge f v cl w1 (h.keepNon k) hl hok hf)
 obtain⟨a,c,rfl,hc,ha,hx⟩:=h;clear hx
 go_enter Tryz.func286,Tryz.ntmps286
 go_wp2_with(first|(go_at_call 321;refine(CK.out _ ((za.refl _ _).alloc _)).mono ?_;rintro e w1 ⟨rfl,k1⟩;have b1:=k1.at (ze w (SgB f (.slice a cl.length c))) (fun e=>e);have c0:=sg_0 b1;have c1:=sg_1 b1;have B1:=zz0 b1;have K1:=zz0 (((za.refl zq2 w).alloc _).trans1 k1);clear k1 b1))
 have hw1:=zX (n:=f) (by omega)
 have c1a:=sg_1 (zh (((za.refl zq2 w1).alloc (.cells #[.int .u64 f] 184))) B1.out);have hv3:(zo f).length≤3:=zP (by omega)
 go_region_with (first
  |(go_at_call 179;refine(zS (.slice none 0 0) [] (some ⟨_,0,none⟩) 1 [f] _ (Rd.nil _) (by simp) (by exact zdR _ _ _) (by intro n hn;simp at hn;omega) (by simp)).mono ?_;rintro e w2 ⟨v2,rfl,k2,o2⟩;have k2':za zq2 w1 w2:=(((za.refl zq2 w1).alloc _).drew).trans1 k2;have b2:=k2'.at B1.out (fun e=>e);have d0:=sg_0 b2;have d1:=sg_1 b2;have K2:=zz0 k2';have O2:=zz0 o2;clear k2 k2' o2 b2)
  |(go_at_call 322;(refine(zkx (.slice a cl.length c) _ (zo f) cl _ (by have h0:=Rd.ofOwns O2.out;rw[List.nil_append,zm8] at h0;exact h0) (by omega) (H.out.keepNon (K1.out.trans1 K2.out)) hl hok).mono ?_;rintro e w3 ⟨v3,rfl,k3,o3⟩;have K3:=zz0 k3;have O3:=zz0 o3;clear k3 o3)))
 all_goals
  go_wp2_with(go_at_call 180;refine(zca v3 (zo f++runB cl) _ (Rd.ofOwns O3.out) hb).mono ?_;rintro e w4 ⟨v4,rfl,k4,o4⟩;have K4:=zz0 k4;have O4:=zz0 o4;clear k4 o4)
  go_ret2;exact⟨_,rfl,((K1.out.trans1 K2.out).trans1 K3.out).trans1 K4.out,zg O4.out (by have h1:=K1.out.size;have h2:=K2.out.size;have h3:=K3.out.size;omega)⟩
theorem zqc (f ad:Nat)(v:Value)(cl:List Cl)(w:World)(h:CsAt w v cl)(hl:cl.length≤64)(hok:∀x ∈ cl,zcl x)(h1:f≤ad)(h2:ad-f<cl.length)(hf:f+cl.length≤1048576) :
 Calls Tryz.prog 202 #[.agg #[.int .i64 f,v],.int .i64 ad] w fun e w'=>∃v',e = .returned (.tuple #[.agg #[.int .i64 cl[ad-f].1,v'],.bool true])∧za zq2 w w'∧w'.ownsRow w.heap.size 5 1 v' cl[ad-f].2.length (cl[ad-f].2.map bv):=by
 have H:=zz0 h;obtain⟨a,c,rfl,hc,ha,hx⟩:=h;obtain⟨g,off,s,rfl,d1,d2,d3,d4⟩:=hx (ad-f) h2;clear hx;have D:=zz0 d3;obtain⟨a2,c2,rfl,_⟩:=zY d3;have ka:za zq2 w ((w.alloc (Obj.cells #[Value.int IntKind.i64 f,Value.slice (some { block:=g,off:=off }) cl.length c] 263)).alloc (Obj.cells #[Value.int IntKind.i64 0,Value.slice none 0 0] 45)):=((za.refl _ _).alloc _).alloc _;have KA:=zz0 ka
 replace d1:=(World.cell?_of_block (ka.block g (World.block_lt_of_cell? _ _ d1) (fun e=>e))).trans d1
 replace d2:=(World.cell?_of_block (ka.block g (World.block_lt_of_cell? _ _ d2) (fun e=>e))).trans d2
 have hl64:=(hok _ (List.getElem_mem h2)).2.2.1;generalize hx:cl[ad-f]=x at d1 d2 D hl64 ⊢;obtain⟨k,t⟩:=x;simp only at d1 d2 D hl64 ⊢;clear ka d3 d4 ha hok hx
 go_enter Tryz.func202,Tryz.ntmps202
 go_wp2_with(go_at_call 191;go_loud (refine(zg8 k _ t _ (D.out.keepNon (by exact KA.out)) (by omega)).mono ?_;rintro e w1 ⟨v1,rfl,k1,o1⟩;obtain⟨a1,c1,rfl,_,_⟩:=zb o1;have b1:w1.heap[w.heap.size+1]? = some (zqZ 0 (.slice none 0 0)):=zh k1 (by exact zaa _ _ _);have B1:=zz0 b1;have e0:=cl0 (k:=0) (v:=.slice none 0 0) b1;have e1:=cl1 (k:=0) (v:=.slice none 0 0) b1;have f0:=clf (k:=0) (v:=.slice none 0 0) b1 0;have f1:=clf (k:=0) (v:=.slice none 0 0) b1 1;have q0:=cl0 (za1 b1 k);have q1:=cl1 (zbG (za1 b1 k) (.slice a1 t.length c1));clear b1;have K1:=zz0 (KA.out.trans1 k1);have O1:=zz0 o1;clear k1 o1))
 refine bodyPost_ret (v:=.tuple #[.agg #[.int .i64 k,.slice a1 t.length c1],.bool true]) (by simp[results,Tryz.results202,go_sem,q0,q1]) rfl ?_
 have hs:w.heap.size+1+1≤w1.heap.size:=by have:=lt_of_block B1.out;omega
 refine⟨_,rfl,?_,zg (zc (S:=zq3 (w.heap.size+1)) O1.out (((za.refl _ _).setOne _ _).setOne _ _) (fun g e=>by have:=(O1.out.lt g e).1;simp at this;unfold zq3;omega)) (by simp;omega)⟩
 exact K1.out.trans (T:=zq3 (w.heap.size+1)) (((za.refl _ _).setOne _ _).setOne _ _) (fun _ _ h=>h) (fun i hi h=>by unfold zq3 at h;omega)
def NewR (w w':World)(v':Value)(t:List UInt8):Prop:=Bs w' v' t∧okc v'∧(∀g,v'.ownBlock=some g→w.heap.size≤g∧g<w'.heap.size)
theorem zio (v:Value)(t:List UInt8)(w:World)(h:Bs w v (zbb t))(hc:okc v)(hl:t.length≤65536)(hv:∀g,v.ownBlock=some g→g<w.heap.size) :
 Calls Tryz.prog 96 #[v] w fun e w'=>za zq2 w w'∧∃v',e = .returned (.tuple #[v',.nilIface])∧NewR w w' v' t:=by
 have hlen:(zaG t++zbO (zdF (zaG t))).length=(zbb t).length:=rfl;have C:Calls Tryz.prog 153 #[v] w fun e w'=>za zq2 w w'∧∃v',e = .returned (.tuple #[v',.int .i64 (zbb t).length,.nilIface])∧NewR w w' v' t:=by
  refine(zlH v t _ w h hc (zbZ _) hl hv).mono ?_;rw[hlen];rintro e w1 ⟨k1,h1⟩;exact⟨k1,(h1.resolve_right (fun q=>q.1 rfl)).2⟩
 have HC:=zz0 C;obtain⟨a,c,rfl,_⟩:=h;rw[List.length_map] at HC ⊢;have hl2:(zbb t).length≤100000:=by
  have h3:(zo t.length).length≤3:=zP (by omega)
  rw[zke];omega
 clear hc hv hlen C;generalize (zbb t).length=q at HC hl2 ⊢
 go_enter Tryz.func96,Tryz.ntmps96
 go_wp2_with(go_at_call 153;refine HC.out.mono ?_;rintro e w1 ⟨k1,v1,rfl,r1⟩;have K1:=zz0 k1;have R1:=zz0 r1;clear k1 r1)
 go_ret2;exact⟨K1.out,_,rfl,R1.out⟩
end Go.Proofs.YtpojgmeoaflmoaaGreatDoor
