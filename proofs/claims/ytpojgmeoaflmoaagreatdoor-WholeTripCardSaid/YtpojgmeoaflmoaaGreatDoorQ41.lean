/- What puts make of a log of one unit (pla -/
import Derived.Deep.SlicePairs
import Derived.Test.YtpojgmeoaflmoaaGreatDoorQ37
import Derived.Test.YtpojgmeoaflmoaaGreatDoorQ39
import Derived.Test.YtpojgmeoaflmoaaGreatDoorQ40
set_option linter.unusedVariables false
set_option maxRecDepth 100000
set_option maxHeartbeats 16000000
namespace Go.Proofs.YtpojgmeoaflmoaaGreatDoor
open Go.RowKit Go.Maps
structure zas (L:Lg)(i:Nat):Prop where
 shs:L.shs = [lgS L]
 ep:L.ep=1
 se:L.se=1
 e:(lgS L).e=1
 l:(lgS L).l=0
 ok:(lgS L).ok
 nx:(lgS L).next≤i+1
 next:L.next≤i
 map:IsMap (lgS L).D
 rest:∀a,i≤a→zaT (lgS L).D a=(0,[])
 cells:∀a,zcl (zaT (lgS L).D a)∧(zaT (lgS L).D a).1≠3
def putS (s:Sh)(i:Nat)(x:Cl):Sh:=if x.1=1 then s.did (zaE 2 s.e i x.2) s.e s.l (uput s.D i (1,x.2)) else s.did (zaE 3 s.e i []) s.e s.l (uput s.D i (2,[]))
def putL (L:Lg)(i:Nat)(x:Cl):Lg:=if zb7 x.1 x.2.length=0∧(x.1=1∨x.1=2) then ⟨[putS (lgS L) i x],L.ep,max L.next (i+1),L.se⟩ else L
theorem uat0 (D:Un)(a:Nat):uat 0 D a=zaT D a:=by unfold uat;rw[if_neg (by omega)]
theorem zas.log {L:Lg}{i:Nat}(h:zas L i)(hi:i≤200):Log1 L :=
 ⟨.inl (by rw[h.shs];rfl),fun s hs=>by rw[h.shs] at hs;simp only[List.mem_singleton] at hs;subst hs;exact⟨by rw[h.e,h.ep],h.ok.free.1⟩,by rw[h.se,h.ep],by have:=h.next;omega,fun a=>by rw[zeq h.shs,h.l,uat0];exact(h.cells a).1⟩
theorem zas.low {L:Lg}{i:Nat}(h:zas L i):∀s ∈ L.shs,s.l=0:=fun s hs=>by
 rw[h.shs] at hs;simp only[List.mem_singleton] at hs;rw[hs];exact h.l
theorem zas.one {L:Lg}{i:Nat}(h:zas L i):L.shs.length=1:=by rw[h.shs];rfl
theorem zas.not3 {L:Lg}{i:Nat}(h:zas L i)(a:Nat):(zbx L a).1≠3:=by
 rw[zeq h.shs,h.l,uat0];exact(h.cells a).2
theorem zas.step {L:Lg}{i:Nat}(h:zas L i){s2:Sh}{y:Cl}(e:s2.e=1)(l:s2.l=0)(ok:s2.ok)(nx:s2.next≤i+2)(hD:s2.D=uput (lgS L).D i y)(hy:zcl y)(hy3:y.1≠3):zas ⟨[s2],L.ep,max L.next (i+1),L.se⟩ (i+1):=by
 refine⟨rfl,h.ep,h.se,e,l,ok,nx,?_,?_,?_,?_⟩
 ·show max L.next (i+1)≤i+1
  have:=h.next;omega
 ·show IsMap s2.D
  rw[hD];exact h.map.put _ _
 ·intro a ha
  show zaT s2.D a=_
  rw[hD,zbe (by omega)]
  exact h.rest a (by omega)
 ·intro a
  show zcl (zaT s2.D a)∧(zaT s2.D a).1≠3
  rw[hD];by_cases ha:a=i
  ·rw[ha,zck h.map]
   exact⟨hy,hy3⟩
  ·rw[zbe ha]
   exact h.cells a
theorem zas.stay {L:Lg}{i:Nat}(h:zas L i):zas L (i+1) :=
 ⟨h.shs,h.ep,h.se,h.e,h.l,h.ok,by have:=h.nx;omega,by have:=h.next;omega,h.map,fun a ha=>h.rest a (by omega),h.cells⟩
theorem zfP {d:List UInt8}(h:zb7 1 d.length=0):d.length≤64:=by
 unfold zb7 at h;rw[if_neg (by omega)] at h
 split at h
 ·cases h
 ·omega
theorem zas.put {L:Lg}{i:Nat}(h:zas L i)(hi:i<200)(x:Cl):zas (putL L i x) (i+1):=by
 unfold putL
 split
 ·rename_i hc
  obtain⟨h0,h1⟩:=hc;have hn:=h.nx;unfold putS
  split
  ·rename_i e1
   rw[e1] at h0;have hd:=zfP h0;exact h.step h.e h.l (h.ok.did (by omega) (zI 2 _ i x.2 (by omega) (by rw[h.e];omega) (by omega) hd) (zc5 h.map _ _)) (by show(lgS L).next+1≤_;omega) rfl ⟨by show(0:Int)≤1;omega,by show(1:Int)≤3;omega,hd,fun e=>absurd rfl e⟩ (by show(1:Int)≠3;omega)
  ·exact h.step h.e h.l (h.ok.did (by omega) (zI 3 _ i [] (by omega) (by rw[h.e];omega) (by omega) (by simp)) (zc5 h.map _ _)) (by show(lgS L).next+1≤_;omega) rfl ⟨by decide,by decide,by simp,fun _=>rfl⟩ (by decide)
 ·exact h.stay
theorem filled0:zas ⟨[sh1 16777216],1,0,1⟩ 0:=by
 refine⟨rfl,rfl,rfl,rfl,rfl,?_,Nat.le_refl _,Nat.le_refl _,⟨[],rfl⟩,fun a _=>rfl,fun a=>⟨⟨by show(0:Int)≤0;omega,by show(0:Int)≤3;omega,by show 0≤64;omega,fun _=>rfl⟩,by show(0:Int)≠3;omega⟩⟩
 exact zmD.did (by decide) (zI 1 1 0 [] (by omega) (by omega) (by omega) (by simp)) (Nat.le_succ _)
theorem zjs {F:Nat→Prop}{b i xc:Nat}{x:Cl}{xa:Option Addr}{L:Lg}(w:World)(h:zaH F w b 1 L)(hf:zas L i)(hi:i<200)(hlay:Lay w)(hx:Bs w (.slice xa x.2.length xc) x.2)(ho:x.2 = []∨∀g,(Value.slice xa x.2.length xc).ownBlock=some g→¬F g∧g<w.heap.size) :
 Calls Tryz.prog 19 #[.pointer (some ⟨b,0,none⟩),.int .i64 i,.agg #[.int .i64 x.1,.slice xa x.2.length xc]] w fun r w'=>(∃e,r = .returned (zbU e))∧zan F w b 1 (putL L i x) w':=by
 obtain⟨k,d⟩:=x;dsimp only at hx ho ⊢;by_cases hc:zb7 k d.length=0∧(k=1∨k=2)
 ·obtain⟨h0,h1⟩:=hc
  have hn:=hf.nx;have hs0:L.shs[0]? = some (lgS L):=by rw[hf.shs];rfl
  have hee:(lgS L).e=L.ep:=by rw[hf.e,hf.ep]
  have hlen:(0:Nat)<1:=by omega
  have he:putL L i (k,d)=⟨[putS (lgS L) i (k,d)],L.ep,max L.next (i+1),L.se⟩:=by unfold putL;rw[if_pos ⟨h0,h1⟩]
  have hset:∀s2:Sh,L.shs.set 0 s2 = [s2]:=fun s2=>by rw[hf.shs];rfl
  rw[he];have hu:uat (lgS L).l (lgS L).D i=(0,[]):=by rw[hf.l,uat0,hf.rest i (Nat.le_refl _)]
  refine(zjq (L2:=⟨[putS (lgS L) i (k,d)],L.ep,L.next,L.se⟩) w h rfl (by rw[hf.se,hf.ep]) (by omega) (zgC i) (by omega) h0 h1 ?_).mono ?_
  ·intro W F' kk hF' hW
   rcases h1 with h1|h1
   ·subst h1
    have hd:=zfP h0;have ac:=zfN (s:=lgS L) hf.ok (by omega) i xa d xc hd (by rw[hf.e];omega) (by omega) (by rw[hu])
    rw[hee] at ac;have:=zf2 (c:=xc) (BsOut (.slice xa d.length xc) d) W hW hs0 (hlay.keepNon kk) ac (fun w' F2 k2 hF2=>⟨hx.keepNon (kk.trans1 k2),ho.imp id (fun ho g e=>⟨fun y=>(ho g e).1 (hF' g (hF2 g y)).1,by have:=(ho g e).2;have:=kk.size;have:=k2.size;omega⟩)⟩)
    rw[hset] at this;have e2:putS (lgS L) i (1,d)=(lgS L).did (zaE 2 L.ep i d) L.ep (lgS L).l (uput (lgS L).D i (1,d)):=by unfold putS;rw[if_pos rfl,hee]
    rw[e2];exact this
   ·subst h1
    have ac:=zg3 (s:=lgS L) hf.ok (by omega) i (by rw[hf.e];omega) (by omega) (by rw[hu];decide) (by rw[hu];decide)
    rw[hee] at ac;have:=zf3 (pa:=xa) (m:=d.length) (c:=xc) Any W hW hs0 (hlay.keepNon kk) ac (fun _ _ _ _=>trivial)
    rw[hset] at this;have e2:putS (lgS L) i (2,d)=(lgS L).did (zaE 3 L.ep i []) L.ep (lgS L).l (uput (lgS L).D i (2,[])):=by unfold putS;rw[if_neg (by show ¬(2:Int)=1;omega),hee]
    rw[e2];exact this
  ·rintro r w' ⟨rfl,t⟩
   exact⟨⟨0,rfl⟩,t⟩
 ·have he:putL L i (k,d)=L:=by unfold putL;rw[if_neg hc]
  rw[he];by_cases h0:zb7 k d.length=0
  ·have hk:k=0∨k=3:=by
    have hk12:¬(k=1∨k=2):=fun e=>hc ⟨h0,e⟩
    have hk03:¬(k<0∨3<k):=fun e=>by
     unfold zb7 at h0;rw[if_pos e] at h0;cases h0
    omega
   refine(zjp w h (by omega) (.inr hk)).mono ?_
   rintro r w' ⟨e,k⟩;exact⟨e,zan.refl h k⟩
  ·refine(zjp w h (by omega) (.inl h0)).mono ?_
   rintro r w' ⟨e,k⟩;exact⟨e,zan.refl h k⟩
def zbF (w:World)(v:Value)(cl:List Cl):Prop:=∃a c,v = .slice a cl.length c∧∀j (hj:j<cl.length),∃g off sa sc,a=some ⟨g,off,none⟩∧g<w.heap.size∧w.cell? ⟨g,off+j*2,none⟩=some (.int .i64 cl[j].1)∧w.cell? ⟨g,off+j*2+1,none⟩=some (.slice sa cl[j].2.length sc)∧Bs w (.slice sa cl[j].2.length sc) cl[j].2∧(cl[j].2 = []∨∀k,(Value.slice sa cl[j].2.length sc).ownBlock=some k→k<w.heap.size)
theorem zbF.keep {S:Nat→Prop}{w w':World}{v:Value}{cl:List Cl}(h:zbF w v cl)(k:za S w w')(hn:∀g,g<w.heap.size→¬S g):zbF w' v cl:=by
 obtain⟨a,c,rfl,hx⟩:=h;refine⟨a,c,rfl,fun j hj=>?_⟩
 obtain⟨g,off,sa,sc,h1,h2,h3,h4,h5,h6⟩:=hx j hj;have hc:∀i v,w.cell? ⟨g,i,none⟩=some v→w'.cell? ⟨g,i,none⟩=some v:=fun i v e=>by
  have:=k.block g h2 (hn g h2);unfold World.cell? at *;rw[this];exact e
 exact⟨g,off,sa,sc,h1,k.lt h2,hc _ _ h3,hc _ _ h4,zi5 h5 k (h6.imp id (fun h6 g e=>hn g (h6 g e))),h6.imp id (fun h6 k' e=>k.lt (h6 k' e))⟩
def longL (cl:List Cl):Bool:=cl.any (fun x=>decide (64<x.2.length))||decide (200<cl.length)
theorem zjN (v:Value)(cl:List Cl)(w:World)(h:zbF w v cl)(hm:cl.length≤9223372036854775807) :
 Calls Tryz.prog 5 #[v,.int .i64 200] w fun e w'=>e = .returned (.bool (longL cl))∧za zq2 w w':=by
 have H:=zz0 h;obtain⟨a,c,rfl,hx⟩:=h;clear hx
 go_enter Tryz.func5,Tryz.ntmps5
 go_wp2_with fail
 go_loopw [9] (fun i wr=>∃j:Nat,j≤cl.length∧i = .int .i64 j∧za zq2 w wr∧(cl.take j).any (fun x=>decide (64<x.2.length))=false) (fun i _=>cl.length-(intOf i).toNat)
 case atStart=>exact⟨0,by omega,rfl,za.refl _ _,rfl⟩
 case round =>
  obtain⟨j,hj,rfl,hk,hl⟩:=hrel;by_cases hlt:j<cl.length
  ·have hlj:(j:Int)<(cl.length:Int):=by omega
   obtain⟨a1,c1,e1,hx⟩:=H.out.keep hk (fun _ _ e=>e)
   injection e1 with e1 e3 e4
   subst e1;subst e4;obtain⟨g,off,sa,sc,rfl,h2,h3,h4,h5,h6⟩:=hx j hlt;have hst:(cl.take (j+1)).any (fun x=>decide (64<x.2.length))=((cl.take j).any (fun x=>decide (64<x.2.length))||decide (64<cl[j].2.length)):=by
    rw[List.take_add_one,List.getElem?_eq_getElem hlt,List.any_append];simp only[Option.toList_some,List.any_cons,List.any_nil,Bool.or_false]
   rw[hl,Bool.false_or] at hst;have hany:64<cl[j].2.length→longL cl=true:=fun e=>by
    unfold longL;rw[List.any_eq_true.2 ⟨cl[j],List.getElem_mem _,by simpa using e⟩]
    rfl
   generalize cl[j]=y at h3 h4 hst hany;clear hx h5 h6;by_cases h64:64<y.2.length
   ·have h64':(64:Int)<(y.2.length:Int):=by omega
    have hL:=hany h64
    go_wp2_with fail
    go_ret;exact⟨by first|rfl|rw[hL],hk.alloc _⟩
   ·have h64':¬(64:Int)<(y.2.length:Int):=by omega
    rw[decide_eq_false h64] at hst
    go_wp2_with fail
    exact⟨⟨j+1,by omega,by first|rfl|go_num,hk.alloc _,hst⟩,by simp[intOf];omega⟩
  ·obtain rfl:j=cl.length:=by omega
   rw[List.take_length] at hl;have hb:(decide ((200:Int)<(cl.length:Int)))=longL cl:=by
    unfold longL;rw[hl,Bool.false_or];by_cases h2:200<cl.length
    ·rw[decide_eq_true h2,decide_eq_true (by omega)]
    ·rw[decide_eq_false h2,decide_eq_false (by omega)]
   go_wp2_with fail
   go_ret;exact⟨by first|(rw[←hb];rfl)|(rw[←hb];simp),hk⟩
def putN (L:Lg):Nat→List Cl→Lg
 |_,[]=>L
 |i,x::r=>putN (putL L i x) (i+1) r
theorem zfs:∀(l:List Cl)(L:Lg)(i:Nat)(x:Cl),putN L i (l ++ [x])=putL (putN L i l) (i+l.length) x
 |[],L,i,x=>rfl
 |y::r,L,i,x=>by
  show putN (putL L i y) (i+1) (r ++ [x])=_
  rw[zfs r];have e:i+1+r.length=i+(y::r).length:=by simp;omega
  rw[e]
  rfl
theorem zfr:∀(l:List Cl)(L:Lg)(i:Nat),zas L i→i+l.length≤200→zas (putN L i l) (i+l.length)
 |[],L,i,h,_=>h
 |y::r,L,i,h,hl=>by
  simp at hl;have:=zfr r (putL L i y) (i+1) (h.put (by omega) y) (by omega)
  have e:i+1+r.length=i+(y::r).length:=by simp;omega
  rw[e] at this;exact this
theorem zdd (room:Nat):(dk0 room).free:=⟨rfl,by show(-1:Int)<0;decide⟩
theorem zcV (room:Nat)(n:zqY):zz (dk0 room).shown n=false:=rfl
theorem ze0 (room:Nat):(dk0 room).lim 0 0 0:=⟨Nat.le_refl _,Nat.le_refl _,Nat.le_refl _,by show(-1:Int)≤1000000000;decide,⟨[],rfl⟩⟩
theorem zhg (room:Nat):VtOk (dk0 room):=⟨zdd room,(fun n h=>by rw[zcV] at h;cases h),(ze0 room).mono (by omega) (by omega) (by omega),zcV _ _,zcV _ _⟩
end Go.Proofs.YtpojgmeoaflmoaaGreatDoor
namespace Go.Proofs.YtpojgmeoaflmoaaGreatDoor
open Go.ChangeShapes Go.WideShapes Go.Deep Go.RowKit
section
variable {H : Type} {enc : TypeId × Value → H} {w : World} {base : Nat} {spare : Nat → Bool} {held : Bool}
theorem cellStruct:∃f0 f1:Field,Tryz.prog.underlying 45=some (.struct #[f0,f1])∧f0.offset=0∧f1.offset=1∧f0.type=3∧f1.type=43:=⟨_,_,Tryz.underlying45,rfl,rfl,rfl,rfl⟩
theorem zkp {fuel:Nat}{v:Value}{x:DataW H×List MemPlace}(h:DataW.trod enc Tryz.prog w base spare held fuel 22 [v]=some x):∃cl,zbF w v cl∧cl.length≤maxLen:=by
 obtain⟨f0,f1,he,o0,o1,t0,t1⟩:=cellStruct;rcases open_slice_pairs Tryz.underlying22 he (by kernel_rfl) o0 o1 (by rw[t0];kernel_rfl) (by rw[t1];kernel_rfl) h with ⟨h0,_⟩|⟨a,len,cap,m,n,V0,V1,D0,D1,P0,P1,hcs,hb,hl,hm,hmm,hx,hi⟩
 ·simp at h0
  subst h0;exact⟨[],⟨none,0,rfl,fun j hj=>by simp at hj⟩,by simp⟩
 ·simp at hcs
  subst hcs;have hml:len≤m:=by rw[hmm];split<;>omega
  have each:∀j,j<len→∃c:Cl,∃sa sc,V0 j = .int .i64 c.1∧V1 j = .slice sa c.2.length sc∧Bs w (.slice sa c.2.length sc) c.2:=fun j hj=>by
   obtain⟨h1,h2,h3,h4⟩:=hi j (by omega)
   rw[t0] at h3;rw[t1] at h4;obtain⟨a1,l,c1,e1,b1,_⟩:=zko Tryz.underlying43 Tryz.underlying5 (by kernel_rfl) h4
   obtain⟨k,e0,_,_⟩:=DataW.trod_int Tryz.underlying3 h3;simp at e0;rw[e1] at b1;exact⟨(k,l),a1,c1,e0,e1,b1⟩
  by_cases hz:len=0
  ·subst hz
   exact⟨[],⟨some a,cap,rfl,fun j hj=>by simp at hj⟩,by simp⟩
  obtain⟨b,off,spot⟩:=a;have hc0:=(hi 0 (by omega)).1
  have hspot:spot=none:=by
   have:=World.cell?_spot hc0;simpa [Addr.add] using this
  subst hspot;have hbl:b<w.heap.size:=by
   have:=World.block_lt_of_cell? _ _ hc0;simpa [Addr.add] using this
  obtain⟨f,hf⟩:∃f:∀j,j<len→Cl,∀j hj,∃sa sc,V0 j = .int .i64 (f j hj).1∧V1 j = .slice sa (f j hj).2.length sc∧Bs w (.slice sa (f j hj).2.length sc) (f j hj).2:=⟨fun j hj=>Classical.choose (each j hj),fun j hj=>Classical.choose_spec (each j hj)⟩
  have hlen:(List.ofFn (fun j:Fin len=>f j.1 j.2)).length=len:=List.length_ofFn
  refine⟨List.ofFn (fun j:Fin len=>f j.1 j.2),⟨some ⟨b,off,none⟩,cap,by rw[hlen],fun j hj=>?_⟩,by rw[hlen];omega⟩
  have hj':j<len:=by rw[hlen] at hj;exact hj
  obtain⟨sa,sc,e0,e1,b1⟩:=hf j hj';obtain⟨h1,h2,_,_⟩:=hi j (by omega)
  rw[List.getElem_ofFn];refine⟨b,off,sa,sc,rfl,hbl,by rw[zag] at h1;rw[←e0];exact h1,by rw[zag] at h2;rw[←e1,Nat.add_assoc];exact h2,b1,?_⟩
  by_cases hne:(f j hj').2 = []
  ·exact .inl hne
  ·refine .inr fun k e=>?_
   obtain⟨a2,c2,e2,hx2⟩:=b1;obtain⟨g,off2,rfl,hc2⟩:=hx2 (by simpa using hne)
   injection e2 with e2 _ _
   subst e2;have hk:g=k:=by simpa [Value.ownBlock] using e
   subst hk;cases hd:(f j hj').2 with
   |nil=>exact absurd hd hne
   |cons u r =>
    have h1:=hc2 0 (bv u) (by simp[hd])
    have:=World.block_lt_of_cell? _ _ h1;simpa [Addr.add] using this
end
end Go.Proofs.YtpojgmeoaflmoaaGreatDoor
namespace Go.Proofs.YtpojgmeoaflmoaaGreatDoor
open Go.RowKit Go.Maps
def lA:Lg:=⟨List.replicate 2 (sh1 16777216),1,0,1⟩
def sHo:Sh:=(sh1 16777216).did (zaE 3 1 0 []) 1 0 (uput (.map []) 0 (2,[]))
def lB:Lg:=⟨[sHo,sh1 16777216],1,1,1⟩
theorem zqT:(sh1 16777216).ok:=zmD.did (by decide) (zI 1 1 0 [] (by omega) (by omega) (by omega) (by simp)) (Nat.le_succ _)
end Go.Proofs.YtpojgmeoaflmoaaGreatDoor
namespace Go.Proofs.YtpojgmeoaflmoaaGreatDoor
open Go.RowKit Go.Maps
def bagL (cl:List Cl):Lg:=putN ⟨[sh1 16777216],1,0,1⟩ 0 cl
theorem zbj (cl:List Cl)(h:cl.length≤200):zas (bagL cl) cl.length:=by
 have:=zfr cl ⟨[sh1 16777216],1,0,1⟩ 0 filled0 (by omega)
 rwa [Nat.zero_add] at this
theorem zjB (w:World):PrAt (fun g=>w.heap.size≤g) ((w.alloc (.cells #[.int .i64 0] 3)).alloc (.cells #[.slice (some ⟨w.heap.size,0,none⟩) 1 1] 23)) (.slice (some ⟨w.heap.size+1,0,none⟩) 1 1) 1:=by
 have h1:Rd (w.alloc (.cells #[.int .i64 0] 3)) (.slice (some ⟨w.heap.size,0,none⟩) 1 1) [.int .i64 0]:=zcQ w 3 [.int .i64 0];have h2:=zcQ (w.alloc (.cells #[.int .i64 0] 3)) 23 [.slice (some ⟨w.heap.size,0,none⟩) 1 1];have e:(w.alloc (.cells #[.int .i64 0] 3)).heap.size=w.heap.size+1:=by simp
 rw[e] at h2;refine⟨_,_,_,rfl,rfl,h2,⟨rfl,fun i u l hu hl=>?_⟩,by omega,fun v hv k hk=>?_⟩
 ·cases i with
  |succ i=>simp at hu
  |zero =>
   simp at hu;subst hu;have hl':l = [0]:=by simpa [zbk] using hl.symm
   subst hl';exact h1.keepNon ((za.refl _ _).alloc _)
 ·simp at hv
  subst hv;simp[Value.ownBlock] at hk;omega
theorem zol {x b lb q N B M t:Nat}{iv:Value}{ov:Bool}(w:World)(hx:w.heap[x]? = some (RsB b lb q N B M iv t ov)) :
 Calls Tryz.prog 40 #[.pointer (some ⟨x,0,none⟩)] w fun e w'=>e = .returned (.bool ov)∧w'=w:=by
 have c8:=rs_8 hx
 go_enter Tryz.func40,Tryz.ntmps40
 go_wp2_with fail
 go_ret;exact⟨rfl,rfl⟩
theorem zhV (F0:Nat→Prop)(p room:Nat)(w:World)(d0:zQ F0 w p (dk0 room)) :
 Calls Tryz.prog 37 #[.pointer (some ⟨p,0,none⟩)] w fun e w'=>∃q,e = .returned (.tuple #[.pointer (some ⟨q,0,none⟩),.nilIface])∧w.heap.size≤q∧zn F0 w q p (dk0 room) w':=by
 refine(zeB F0 p (dk0 room) 0 0 0 w d0 (zdd _) (ze0 _) (by omega) (by omega) (by omega) (fun n h=>((zhg room).tidy n h).1)).mono ?_
 rintro e w' ⟨q,ns,rfl,hq,hp,t⟩;rw[zf9 (zhg room).tidy ns hp d0.str] at t;exact⟨q,rfl,hq,t⟩
def o0:Obj:=.cells #[.int .i64 0] 3 (0,0)
def o1:Obj:=.cells #[.int .i64 1] 3 (0,0)
def o2 (n:Nat):Obj:=.cells #[.slice (some ⟨n,0,none⟩) 1 1,.slice (some ⟨n+1,0,none⟩) 1 1] 23 (0,0)
theorem zjC (w:World):PrAt (fun g=>w.heap.size≤g) (((w.alloc o0).alloc o1).alloc (o2 w.heap.size)) (.slice (some ⟨w.heap.size+1+1,0,none⟩) 2 2) 2:=by
 have h1:Rd (w.alloc o0) (.slice (some ⟨w.heap.size,0,none⟩) 1 1) [.int .i64 0]:=zcQ w 3 [.int .i64 0];have e1:(w.alloc o0).heap.size=w.heap.size+1:=by show(w.heap.push _).size=_;simp
 have e2:((w.alloc o0).alloc o1).heap.size=w.heap.size+1+1:=by show((w.heap.push _).push _).size=_;simp
 have h2:Rd ((w.alloc o0).alloc o1) (.slice (some ⟨w.heap.size+1,0,none⟩) 1 1) [.int .i64 1]:=by have:=zcQ (w.alloc o0) 3 [.int .i64 1];rw[e1] at this;exact this
 have h3:Rd (((w.alloc o0).alloc o1).alloc (o2 w.heap.size)) (.slice (some ⟨w.heap.size+1+1,0,none⟩) 2 2) [.slice (some ⟨w.heap.size,0,none⟩) 1 1,.slice (some ⟨w.heap.size+1,0,none⟩) 1 1]:=by have:=zcQ ((w.alloc o0).alloc o1) 23 [.slice (some ⟨w.heap.size,0,none⟩) 1 1,.slice (some ⟨w.heap.size+1,0,none⟩) 1 1];rw[e2] at this;exact this
 refine⟨_,_,_,rfl,rfl,h3,⟨rfl,fun i u l hu hl=>?_⟩,by omega,fun v hv k hk=>?_⟩
 ·match i,hu,hl with
  |0,hu,hl =>
   simp at hu;subst hu;have hl':l = [0]:=by simpa [zbk] using hl.symm
   subst hl';exact h1.keepNon (((za.refl _ _).alloc _).alloc _)
  |1,hu,hl =>
   simp at hu;subst hu;have hl':l = [1]:=by simpa [zbk] using hl.symm
   subst hl';exact h2.keepNon ((za.refl _ _).alloc _)
  |i+2,hu,hl=>simp at hu
 ·simp at hv
  rcases hv with rfl|rfl
  ·have:w.heap.size=k:=by simpa [Value.ownBlock] using hk
   omega
  ·have:w.heap.size+1=k:=by simpa [Value.ownBlock] using hk
   omega
theorem zkN (v:Value)(cl:List Cl)(w:World)(hc:zbF w v cl)(hn:cl.length≤200)(hlay:Lay w)(h10:10≤w.heap.size) :
 Calls Tryz.prog 6 #[v] w fun e w'=>∃lb b p q F FL,e = .returned (.tuple #[.pointer (some ⟨lb,0,none⟩),.pointer (some ⟨b,0,none⟩),.pointer (some ⟨p,0,none⟩),.bool true])∧za zq2 w w'∧VtSt F FL w' b lb q p (dk0 16777216) (bagL cl)∧∀g,(F g∨g=b)→w.heap.size≤g:=by
 have H:=zz0 hc;have HL:=zz0 hlay;have NW:=zz0 (zeu _ 1 _ _ (hlay.keepNon (((za.refl zq2 w).alloc _).alloc _)) (zjB w) (by omega) (by omega) (by simp;omega))
 obtain⟨a,c,rfl,hx⟩:=hc;clear hx hlay
 go_enter Tryz.func6,Tryz.ntmps6
 go_wp2_with(first
  |(go_at_call 16;refine NW.out.mono ?_;rintro e w1 ⟨lb,rfl,k1,l1⟩;have K1:=zz0 ((((za.refl zq2 w).alloc _).alloc _).trans1 k1);have Z1:Hid (w.heap.size+2≤w1.heap.size):=zz0 (by have:=k1.size;simpa using this);have LG1:=zz0 l1;clear k1 l1)
  |(go_at_call 17;refine(zdH 16777216 w1 (by omega)).mono ?_;rintro e w2 ⟨p,rfl,k2,d2⟩;have K2:=zz0 k2;have D2:=zz0 d2;clear k2 d2)
  |(go_at_call 18;refine(zjR _ p (dk0 16777216) 0 0 0 w2 D2.out (zdd _) (ze0 _) (by omega) (by omega) (by omega) (zhg _).tidy (zcV _ _)).mono ?_;rintro e w3 ⟨b,q,rfl,vb,k3,hb,F3,s3,nb,l3,st3⟩;have K3:=zz0 k3;have VB:=zz0 vb;have S3:=zz0 (And.intro s3 (And.intro nb (And.intro l3 hb)));have ST3:=zz0 st3;clear vb k3 hb s3 nb l3 st3))
 have K23:Hid (za zq2 w1 w3):=zz0 (K2.out.trans K3.out (fun _ _ e=>e) (fun g hg e=>by have:=e.1;omega))
 have L3:Hid (zaH (fun g=>w.heap.size+2≤g∧g<w1.heap.size) w3 lb 1 (bagL [])):=zz0 ((LG1.out.keepNon K23.out).mono (fun g y _=>⟨by have:=y.1;simp at this;omega,y.2⟩))
 have KW3:=zz0 (K1.out.trans1 K23.out)
 go_loopw [49] (fun i wr=>∃j:Nat,j≤cl.length∧i = .int .i64 j∧zan (fun g=>w.heap.size+2≤g∧g<w1.heap.size) w3 lb 1 (bagL (cl.take j)) wr) (fun i _=>cl.length-(intOf i).toNat)
 case atStart=>exact⟨0,by omega,rfl,zan.refl L3.out (za.refl _ _)⟩
 case round =>
  obtain⟨j,hj,rfl,tj⟩:=hrel;have TJ:=zz0 tj;obtain⟨kj,FJ,sj,lj⟩:=tj;have hz3:=K23.out.size;have CJ:=H.out.keep (S:=fun g=>w.heap.size≤g) ((KW3.out.mono (S:=zq2) (T:=fun g=>w.heap.size≤g) (fun _ _ e=>e.elim)).trans kj (fun _ _ e=>e) (fun g hg e=>by have:=e.1;omega)) (fun g hg e=>by omega)
  have CJH:=zz0 CJ;clear kj sj lj CJ;by_cases hlt:j<cl.length
  ·have hlj:(j:Int)<(cl.length:Int):=by omega
   obtain⟨a1,c1,e1,hx⟩:=CJH.out;injection e1 with e1 e3 e4
   subst e1;subst e4;obtain⟨g,off,sa,sc,rfl,h2,h3,h4,h5,h6⟩:=hx j hlt;obtain⟨kj,FJ,sj,lj⟩:=TJ.out;have hFJ:∀g,FJ g→w.heap.size≤g:=fun g y=>by
    rcases sj g y with u|u
    ·omega
    ·have:=KW3.out.size;omega
   have hst:bagL (cl.take (j+1))=putL (bagL (cl.take j)) j cl[j]:=by
    rw[List.take_add_one,List.getElem?_eq_getElem hlt];show putN _ 0 (cl.take j ++ [cl[j]])=_;rw[zfs,List.length_take,Nat.zero_add,Nat.min_eq_left (by omega)]
    rfl
   have hfl:zas (bagL (cl.take j)) j:=by
    have:=zbj (cl.take j) (by rw[List.length_take];omega)
    rwa [List.length_take,Nat.min_eq_left (by omega)] at this
   have PU:Hid (∀W,za zq2 wr W→Calls Tryz.prog 19 #[.pointer (some ⟨lb,0,none⟩),.int .i64 j,.agg #[.int .i64 cl[j].1,.slice sa cl[j].2.length sc]] W fun r w'=>(∃e,r = .returned (zbU e))∧zan FJ W lb 1 (putL (bagL (cl.take j)) j cl[j]) w'):=zz0 (fun W k=>by
    refine zjs W (lj.keepNon k) hfl (by omega) (HL.out.keep (S:=fun g=>w.heap.size≤g) ((KW3.out.mono (T:=fun g=>w.heap.size≤g) (fun _ _ e=>e.elim)).trans (kj.trans1 k.ofNon) (fun _ _ e=>e) (fun g hg e=>by have:=e.1;omega)) (fun g hg e=>by omega)) (Rd.keepNon h5 k) (by
     rcases h6 with h6|h6
     ·exact .inl h6
     by_cases hne:cl[j].2 = []
     ·exact .inl hne
     refine .inr (fun g e=>⟨fun y=>?_,k.lt (h6 g e)⟩)
     have hown:g<w.heap.size:=by
      obtain⟨_,_,e1,hx0⟩:=H.out;injection e1 with e1 _ _
      obtain⟨g1,off1,sa1,sc1,q1,q2,q3,q4,q5,q6⟩:=hx0 j hlt;rw[←e1] at q1;injection q1 with q1
      injection q1 with q1 q1'
      subst q1;subst q1';have kk:za (fun g=>w.heap.size≤g) w wr:=(KW3.out.mono (T:=fun g=>w.heap.size≤g) (fun _ _ e=>e.elim)).trans kj (fun _ _ e=>e) (fun g hg e=>by have:=e.1;omega)
      have h4':=za3 kk (by omega) q4
      rw[h4] at h4';injection h4' with h4'
      rw[h4'] at e;exact(q6.resolve_left hne) g e
     have:=hFJ g y;omega))
   have HJ:=zz0 (And.intro kj sj);have HST:=zz0 hst;clear h5 h6 hx lj hfl kj sj hst;generalize cl[j]=y at h3 h4 PU HST
   go_wp2_with(go_at_call 19;refine(PU.out _ ((za.refl _ _).alloc _)).mono ?_;rintro e w5 ⟨⟨ee,rfl⟩,t5⟩;have T5:=zz0 t5;clear t5)
   refine⟨⟨j+1,by omega,by first|rfl|go_num,?_⟩,by simp[intOf];omega⟩
   rw[HST.out];exact zan.trans HJ.out.2 HJ.out.1 (zan.pre ((za.refl _ _).alloc _) T5.out)
  ·obtain rfl:j=cl.length:=by omega
   rw[List.take_length] at TJ
   go_wp2_with fail
   refine bodyPost_ret (v:=.tuple #[.pointer (some ⟨lb,0,none⟩),.pointer (some ⟨b,0,none⟩),.pointer (some ⟨p,0,none⟩),.bool true]) (by simp[results,Tryz.results6,go_sem]) rfl ?_
   obtain⟨kj,FJ,sj,lj⟩:=TJ.out;have h1:=K1.out.size;have h2:=K2.out.size;have h3:=K3.out.size;have hw:w.heap.size≤w3.heap.size:=KW3.out.size;have hz:=Z1.out;have hF:∀g,F3 g→w1.heap.size≤g∧g<w3.heap.size:=fun g y=>by
    have:=S3.out.2.2.1 g y;rcases S3.out.1 g y with u|u
    ·exact⟨u.1,this⟩
    ·exact⟨by omega,this⟩
   have hbb:=S3.out.2.2.2;have kw:za zq2 w wr:=KW3.out.trans kj (fun _ _ e=>e) (fun g hg e=>by have:=e.1;omega)
   refine⟨lb,b,p,q,F3,fun g=>FJ g∧g<wr.heap.size,rfl,kw,⟨kj.at VB.out (fun e=>by have:=e.2;omega),ST3.out.keep kj (fun g y e=>by have:=hF g y;have:=e.2;omega),(by rw[(zbj cl hn).one];exact lj.low),HL.out.keepNon kw,⟨S3.out.2.1,fun y=>?_,by omega⟩,fun g y z=>?_,fun g y=>⟨by have:=hF g y;omega,by have:=hF g y;have:=kj.size;omega⟩,fun g y=>y.2⟩,fun g y=>y.elim (fun y=>by have:=hF g y;omega) (fun e=>by omega)⟩
   ·have hb3:b<w3.heap.size:=lt_of_block VB.out
    rcases sj b y.1 with u|u
    ·have:=u.2;omega
    ·omega
   ·have:=hF g y
    rcases sj g z.1 with u|u
    ·have:=u.2;omega
    ·omega
theorem zjW (v:Value)(cl:List Cl)(w:World)(hc:zbF w v cl)(hn:cl.length≤200)(hlay:Lay w)(h10:10≤w.heap.size) :
 Calls Tryz.prog 6 #[v] w fun e w'=>∃lb b p q F FL,e = .returned (.tuple #[.pointer (some ⟨lb,0,none⟩),.pointer (some ⟨b,0,none⟩),.pointer (some ⟨p,0,none⟩),.bool true])∧za zq2 w w'∧VtSt F FL w' b lb q p (dk0 16777216) (bagL cl)∧∀g,(F g∨g=b∨FL g)→w.heap.size≤g:=by
 have H:=zz0 hc;have HL:=zz0 hlay;have NW:=zz0 (zeu _ 1 _ _ (hlay.keepNon (((za.refl zq2 w).alloc _).alloc _)) (zjB w) (by omega) (by omega) (by simp;omega))
 obtain⟨a,c,rfl,hx⟩:=hc;clear hx hlay
 go_enter Tryz.func6,Tryz.ntmps6
 go_wp2_with(first
  |(go_at_call 16;refine NW.out.mono ?_;rintro e w1 ⟨lb,rfl,k1,l1⟩;have K1:=zz0 ((((za.refl zq2 w).alloc _).alloc _).trans1 k1);have Z1:Hid (w.heap.size+2≤w1.heap.size):=zz0 (by have:=k1.size;simpa using this);have LG1:=zz0 l1;clear k1 l1)
  |(go_at_call 17;refine(zdH 16777216 w1 (by omega)).mono ?_;rintro e w2 ⟨p,rfl,k2,d2⟩;have K2:=zz0 k2;have D2:=zz0 d2;clear k2 d2)
  |(go_at_call 18;refine(zjR _ p (dk0 16777216) 0 0 0 w2 D2.out (zdd _) (ze0 _) (by omega) (by omega) (by omega) (zhg _).tidy (zcV _ _)).mono ?_;rintro e w3 ⟨b,q,rfl,vb,k3,hb,F3,s3,nb,l3,st3⟩;have K3:=zz0 k3;have VB:=zz0 vb;have S3:=zz0 (And.intro s3 (And.intro nb (And.intro l3 hb)));have ST3:=zz0 st3;clear vb k3 hb s3 nb l3 st3))
 have K23:Hid (za zq2 w1 w3):=zz0 (K2.out.trans K3.out (fun _ _ e=>e) (fun g hg e=>by have:=e.1;omega))
 have L3:Hid (zaH (fun g=>w.heap.size+2≤g∧g<w1.heap.size) w3 lb 1 (bagL [])):=zz0 ((LG1.out.keepNon K23.out).mono (fun g y _=>⟨by have:=y.1;simp at this;omega,y.2⟩))
 have KW3:=zz0 (K1.out.trans1 K23.out)
 go_loopw [49] (fun i wr=>∃j:Nat,j≤cl.length∧i = .int .i64 j∧zan (fun g=>w.heap.size+2≤g∧g<w1.heap.size) w3 lb 1 (bagL (cl.take j)) wr) (fun i _=>cl.length-(intOf i).toNat)
 case atStart=>exact⟨0,by omega,rfl,zan.refl L3.out (za.refl _ _)⟩
 case round =>
  obtain⟨j,hj,rfl,tj⟩:=hrel;have TJ:=zz0 tj;obtain⟨kj,FJ,sj,lj⟩:=tj;have hz3:=K23.out.size;have CJ:=H.out.keep (S:=fun g=>w.heap.size≤g) ((KW3.out.mono (S:=zq2) (T:=fun g=>w.heap.size≤g) (fun _ _ e=>e.elim)).trans kj (fun _ _ e=>e) (fun g hg e=>by have:=e.1;omega)) (fun g hg e=>by omega)
  have CJH:=zz0 CJ;clear kj sj lj CJ;by_cases hlt:j<cl.length
  ·have hlj:(j:Int)<(cl.length:Int):=by omega
   obtain⟨a1,c1,e1,hx⟩:=CJH.out;injection e1 with e1 e3 e4
   subst e1;subst e4;obtain⟨g,off,sa,sc,rfl,h2,h3,h4,h5,h6⟩:=hx j hlt;obtain⟨kj,FJ,sj,lj⟩:=TJ.out;have hFJ:∀g,FJ g→w.heap.size≤g:=fun g y=>by
    rcases sj g y with u|u
    ·omega
    ·have:=KW3.out.size;omega
   have hst:bagL (cl.take (j+1))=putL (bagL (cl.take j)) j cl[j]:=by
    rw[List.take_add_one,List.getElem?_eq_getElem hlt];show putN _ 0 (cl.take j ++ [cl[j]])=_;rw[zfs,List.length_take,Nat.zero_add,Nat.min_eq_left (by omega)]
    rfl
   have hfl:zas (bagL (cl.take j)) j:=by
    have:=zbj (cl.take j) (by rw[List.length_take];omega)
    rwa [List.length_take,Nat.min_eq_left (by omega)] at this
   have PU:Hid (∀W,za zq2 wr W→Calls Tryz.prog 19 #[.pointer (some ⟨lb,0,none⟩),.int .i64 j,.agg #[.int .i64 cl[j].1,.slice sa cl[j].2.length sc]] W fun r w'=>(∃e,r = .returned (zbU e))∧zan FJ W lb 1 (putL (bagL (cl.take j)) j cl[j]) w'):=zz0 (fun W k=>by
    refine zjs W (lj.keepNon k) hfl (by omega) (HL.out.keep (S:=fun g=>w.heap.size≤g) ((KW3.out.mono (T:=fun g=>w.heap.size≤g) (fun _ _ e=>e.elim)).trans (kj.trans1 k.ofNon) (fun _ _ e=>e) (fun g hg e=>by have:=e.1;omega)) (fun g hg e=>by omega)) (Rd.keepNon h5 k) (by
     rcases h6 with h6|h6
     ·exact .inl h6
     by_cases hne:cl[j].2 = []
     ·exact .inl hne
     refine .inr (fun g e=>⟨fun y=>?_,k.lt (h6 g e)⟩)
     have hown:g<w.heap.size:=by
      obtain⟨_,_,e1,hx0⟩:=H.out;injection e1 with e1 _ _
      obtain⟨g1,off1,sa1,sc1,q1,q2,q3,q4,q5,q6⟩:=hx0 j hlt;rw[←e1] at q1;injection q1 with q1
      injection q1 with q1 q1'
      subst q1;subst q1';have kk:za (fun g=>w.heap.size≤g) w wr:=(KW3.out.mono (T:=fun g=>w.heap.size≤g) (fun _ _ e=>e.elim)).trans kj (fun _ _ e=>e) (fun g hg e=>by have:=e.1;omega)
      have h4':=za3 kk (by omega) q4
      rw[h4] at h4';injection h4' with h4'
      rw[h4'] at e;exact(q6.resolve_left hne) g e
     have:=hFJ g y;omega))
   have HJ:=zz0 (And.intro kj sj);have HST:=zz0 hst;clear h5 h6 hx lj hfl kj sj hst;generalize cl[j]=y at h3 h4 PU HST
   go_wp2_with(go_at_call 19;refine(PU.out _ ((za.refl _ _).alloc _)).mono ?_;rintro e w5 ⟨⟨ee,rfl⟩,t5⟩;have T5:=zz0 t5;clear t5)
   refine⟨⟨j+1,by omega,by first|rfl|go_num,?_⟩,by simp[intOf];omega⟩
   rw[HST.out];exact zan.trans HJ.out.2 HJ.out.1 (zan.pre ((za.refl _ _).alloc _) T5.out)
  ·obtain rfl:j=cl.length:=by omega
   rw[List.take_length] at TJ
   go_wp2_with fail
   refine bodyPost_ret (v:=.tuple #[.pointer (some ⟨lb,0,none⟩),.pointer (some ⟨b,0,none⟩),.pointer (some ⟨p,0,none⟩),.bool true]) (by simp[results,Tryz.results6,go_sem]) rfl ?_
   obtain⟨kj,FJ,sj,lj⟩:=TJ.out;have h1:=K1.out.size;have h2:=K2.out.size;have h3:=K3.out.size;have hw:w.heap.size≤w3.heap.size:=KW3.out.size;have hz:=Z1.out;have hF:∀g,F3 g→w1.heap.size≤g∧g<w3.heap.size:=fun g y=>by
    have:=S3.out.2.2.1 g y;rcases S3.out.1 g y with u|u
    ·exact⟨u.1,this⟩
    ·exact⟨by omega,this⟩
   have hbb:=S3.out.2.2.2;have kw:za zq2 w wr:=KW3.out.trans kj (fun _ _ e=>e) (fun g hg e=>by have:=e.1;omega)
   refine⟨lb,b,p,q,F3,fun g=>FJ g∧g<wr.heap.size,rfl,kw,⟨kj.at VB.out (fun e=>by have:=e.2;omega),ST3.out.keep kj (fun g y e=>by have:=hF g y;have:=e.2;omega),(by rw[(zbj cl hn).one];exact lj.low),HL.out.keepNon kw,⟨S3.out.2.1,fun y=>?_,by omega⟩,fun g y z=>?_,fun g y=>⟨by have:=hF g y;omega,by have:=hF g y;have:=kj.size;omega⟩,fun g y=>y.2⟩,fun g y=>?_⟩
   ·have hb3:b<w3.heap.size:=lt_of_block VB.out
    rcases sj b y.1 with u|u
    ·have:=u.2;omega
    ·omega
   ·have:=hF g y
    rcases sj g z.1 with u|u
    ·have:=u.2;omega
    ·omega
   ·rcases y with y|y|y
    ·have:=hF g y;omega
    ·omega
    ·rcases sj g y.1 with u|u
     ·have:=u.1;omega
     ·omega
end Go.Proofs.YtpojgmeoaflmoaaGreatDoor
