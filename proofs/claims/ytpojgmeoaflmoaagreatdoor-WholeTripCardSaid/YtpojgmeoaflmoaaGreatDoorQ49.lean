/- Restoring's log of two units: what it ho -/
import Derived.Test.YtpojgmeoaflmoaaGreatDoorQ41
import Derived.Test.YtpojgmeoaflmoaaGreatDoorQ46
set_option linter.unusedVariables false
set_option maxRecDepth 100000
set_option maxHeartbeats 16000000
namespace Go.Proofs.YtpojgmeoaflmoaaGreatDoor
open Go.RowKit Go.Maps
theorem ze6 {α:Type}(p q:α→Bool):∀(l:List α),(∀x ∈ l,q x=true→p x=true)→(l.filter p).find? q=l.find? q
 |[],_=>rfl
 |x::r,h=>by
  have ih:=ze6 p q r (fun y hy=>h y (List.mem_cons_of_mem _ hy))
  by_cases hq:q x=true
  ·have hp:=h x List.mem_cons_self hq
   rw[List.filter_cons_of_pos hp,List.find?_cons_of_pos hq,List.find?_cons_of_pos hq]
  ·by_cases hp:p x=true
   ·rw[List.filter_cons_of_pos hp,List.find?_cons_of_neg hq,List.find?_cons_of_neg hq,ih]
   ·rw[List.filter_cons_of_neg hp,List.find?_cons_of_neg hq,ih]
theorem zho {α:Type}(p q:α→Bool)(l:List α)(h:∀x ∈ l,q x=true→p x=false):(l.filter p).find? q=none:=by
 rw[List.find?_eq_none];intro x hx hq;have h1:=(List.mem_filter.1 hx);rw[h x h1.1 hq] at h1;cases h1.2
theorem zg0 {es:List (Lit×DataW Cl)}{a:Nat}:zaT (.map es) a=match es.find? (fun x=>x.1.sameKey (ulit a)) with|some x=>heldC x.2|none=>(0,[]):=by
 unfold zaT DataW.atKey;cases e:es.find? (fun x=>x.1.sameKey (ulit a)) with
 |none=>simp only[e];rfl
 |some x=>simp only[e]
theorem zeo {es:List (Lit×DataW Cl)}{p:Lit×DataW Cl→Bool}{a:Nat}:zaT (.map (es.filter p)) a=match (es.filter p).find? (fun x=>x.1.sameKey (ulit a)) with|some x=>heldC x.2|none=>(0,[]):=by
 exact zg0
theorem zfH {D:Un}(h:IsMap D)(n a:Nat):zaT (cutLo n D) a=if a<n then (0,[]) else zaT D a:=by
 obtain⟨es,rfl⟩:=h;have e0:cutLo n (.map es) = .map (es.filter fun p=>!ltL n p.1):=rfl
 rw[e0,zeo];by_cases ha:a<n
 ·rw[if_pos ha,zho _ _ _ (fun p hp hq=>by
   have:=WideAt.sameKey_eq hq;rw[this];show(!decide ((a:Int)<(n:Int)))=false;simpa using ha)]
 ·rw[if_neg ha,zg0,ze6 _ _ _ (fun p hp hq=>by
   have:=WideAt.sameKey_eq hq;rw[this];show(!decide ((a:Int)<(n:Int)))=true;simpa using ha)]
theorem ziX {D:Un}(h:IsMap D)(n a:Nat):zaT (cutHi n D) a=if n≤a then (0,[]) else zaT D a:=by
 obtain⟨es,rfl⟩:=h;have e0:cutHi n (.map es) = .map (es.filter fun p=>!geL n p.1):=rfl
 rw[e0,zeo];by_cases ha:n≤a
 ·rw[if_pos ha,zho _ _ _ (fun p hp hq=>by
   have:=WideAt.sameKey_eq hq;rw[this];show(!decide ((n:Int)≤(a:Int)))=false;simpa using ha)]
 ·rw[if_neg ha,zg0,ze6 _ _ _ (fun p hp hq=>by
   have:=WideAt.sameKey_eq hq;rw[this];show(!decide ((n:Int)≤(a:Int)))=true;simpa using ha)]
theorem zeX {D:Un}(h:IsMap D)(n:Nat):IsMap (cutLo n D):=by
 obtain⟨es,rfl⟩:=h;exact⟨_,rfl⟩
theorem zgr {D:Un}(h:IsMap D)(pd:Lit→DataW Cl→Bool):size (Lib.deleteFuncD pd D)≤size D:=by
 obtain⟨es,rfl⟩:=h;exact List.length_filter_le _ es
structure R2 (C:Nat→Cl)(mk t:Nat)(L:Lg):Prop where
 len:L.shs.length=2
 ep:L.ep=1
 se:L.se=1
 all:∀s ∈ L.shs,s.ok∧s.e=1∧s.l=0∧s.next≤t+1∧IsMap s.D
 next:L.next≤t
 get:∀(u:Nat) s,L.shs[u]? = some s→∀a,a%2=u→zaT s.D a=if mk≤a∧a<t∧((C a).1=1∨(C a).1=2) then C a else (0,[])
theorem R2.first (C:Nat→Cl)(mk:Nat):R2 C mk mk lA:=by
 have hx:∀s ∈ lA.shs,s=sh1 16777216:=fun s hs=>List.eq_of_mem_replicate hs
 refine⟨rfl,rfl,rfl,fun s hs=>?_,Nat.zero_le _,fun u s hs a ha=>?_⟩
 ·rw[hx s hs]
  exact⟨zqT,rfl,rfl,by show 1≤mk+1;omega,⟨[],rfl⟩⟩
 ·rw[hx s (List.mem_of_getElem? hs),if_neg (by omega)]
  rfl
theorem R2.skip {C:Nat→Cl}{mk t:Nat}{L:Lg}(h:R2 C mk t L)(hk:¬((C t).1=1∨(C t).1=2)):R2 C mk (t+1) L:=by
 refine⟨h.len,h.ep,h.se,fun s hs=>?_,by have:=h.next;omega,fun u s hs a ha=>?_⟩
 ·obtain⟨h1,h2,h3,h4,h5⟩:=h.all s hs
  exact⟨h1,h2,h3,by omega,h5⟩
 ·rw[h.get u s hs a ha]
  by_cases e:a=t
  ·subst e
   rw[if_neg (by omega),if_neg (fun y=>hk y.2.2)]
  ·by_cases c:mk≤a∧a<t∧((C a).1=1∨(C a).1=2)
   ·rw[if_pos c,if_pos ⟨c.1,by omega,c.2.2⟩]
   ·rw[if_neg c,if_neg (fun y=>c ⟨y.1,by omega,y.2.2⟩)]
theorem R2.step {C:Nat→Cl}{mk t:Nat}{L:Lg}(h:R2 C mk t L)(hmk:mk≤t)(hk:(C t).1=1∨(C t).1=2){s s2:Sh}(hs:L.shs[t%2]? = some s)(e:s2.e=1)(l:s2.l=0)(ok:s2.ok)(nx:s2.next=s.next+1)(hD:s2.D=uput s.D t (C t)):R2 C mk (t+1) ⟨L.shs.set (t%2) s2,L.ep,max L.next (t+1),L.se⟩:=by
 have hm:=(h.all s (List.mem_of_getElem? hs)).2.2.2.2;have hn:=(h.all s (List.mem_of_getElem? hs)).2.2.2.1;refine⟨by rw[List.length_set];exact h.len,h.ep,h.se,fun y hy=>?_,?_,fun u y hy a ha=>?_⟩
 ·rcases List.mem_or_eq_of_mem_set hy with z|z
  ·obtain⟨h1,h2,h3,h4,h5⟩:=h.all y z
   exact⟨h1,h2,h3,by omega,h5⟩
  ·rw[z]
   exact⟨ok,e,l,by omega,by rw[hD];exact hm.put _ _⟩
 ·show max L.next (t+1)≤t+1
  have:=h.next;omega
 ·have hy:(L.shs.set (t%2) s2)[u]? = some y:=hy
  by_cases eu:u=t%2
  ·subst eu
   rw[List.getElem?_set_self (by rw[h.len];omega)] at hy
   injection hy with hy
   subst hy;rw[hD];by_cases ea:a=t
   ·subst ea
    rw[zck hm,if_pos ⟨hmk,by omega,hk⟩]
   ·rw[zbe ea,h.get _ s hs a ha]
    by_cases c:mk≤a∧a<t∧((C a).1=1∨(C a).1=2)
    ·rw[if_pos c,if_pos ⟨c.1,by omega,c.2.2⟩]
    ·rw[if_neg c,if_neg (fun y=>c ⟨y.1,by omega,y.2.2⟩)]
  ·rw[List.getElem?_set_ne (fun e2=>eu e2.symm)] at hy
   have ea:a≠t:=fun e2=>eu (by rw[←ha,e2])
   rw[h.get _ y hy a ha];by_cases c:mk≤a∧a<t∧((C a).1=1∨(C a).1=2)
   ·rw[if_pos c,if_pos ⟨c.1,by omega,c.2.2⟩]
   ·rw[if_neg c,if_neg (fun y=>c ⟨y.1,by omega,y.2.2⟩)]
theorem rput2 {F:Nat→Prop}{b t mk xc:Nat}{C:Nat→Cl}{k:Int}{d:List UInt8}{xa:Option Addr}{L:Lg}(w:World)(h:zaH F w b 2 L)(hf:R2 C mk t L)(hmk:mk≤t)(ht:t<200)(hC:C t=(k,d))(hcl:zcl (C t))(h1:k=1∨k=2)(hlay:Lay w)(hx:Bs w (.slice xa d.length xc) d)(ho:d = []∨∀g,(Value.slice xa d.length xc).ownBlock=some g→¬F g∧g<w.heap.size) :
 Calls Tryz.prog 19 #[.pointer (some ⟨b,0,none⟩),.int .i64 t,.agg #[.int .i64 k,.slice xa d.length xc]] w fun r w'=>r = .returned .nilIface∧∃L',R2 C mk (t+1) L'∧zan F w b 2 L' w':=by
 rw[hC] at hcl;obtain⟨s,hs0⟩:∃s,L.shs[t%2]? = some s:=⟨_,List.getElem?_eq_getElem (by rw[hf.len];omega)⟩
 obtain⟨hok,he1,hl0,hnx,hmp⟩:=hf.all s (List.mem_of_getElem? hs0);have hee:s.e=L.ep:=by rw[he1,hf.ep]
 have hu:uat s.l s.D t=(0,[]):=by rw[hl0,uat0,hf.get _ s hs0 t rfl,if_neg (by omega)]
 have hd:d.length≤64:=hcl.2.2.1;refine(zjq (L2:=⟨L.shs.set (t%2) (putS s t (k,d)),L.ep,L.next,L.se⟩) w h rfl (by rw[hf.se,hf.ep]) (by omega) (zir t) (by omega) (zl9 hcl) h1 ?_).mono ?_
 ·intro W F' kk hF' hW
  rcases h1 with h1|h1
  ·subst h1
   have ac:=zfN (s:=s) hok (by omega) t xa d xc hd (by rw[he1];omega) (by omega) (by rw[hu])
   rw[hee] at ac;have:=zf2 (c:=xc) (BsOut (.slice xa d.length xc) d) W hW hs0 (hlay.keepNon kk) ac (fun w' F2 k2 hF2=>⟨hx.keepNon (kk.trans1 k2),ho.imp id (fun ho g e=>⟨fun y=>(ho g e).1 (hF' g (hF2 g y)).1,by have:=(ho g e).2;have:=kk.size;have:=k2.size;omega⟩)⟩)
   have e2:putS s t (1,d)=s.did (zaE 2 L.ep t d) L.ep s.l (uput s.D t (1,d)):=by unfold putS;rw[if_pos rfl,hee]
   rw[e2];exact this
  ·subst h1
   have ac:=zg3 (s:=s) hok (by omega) t (by rw[he1];omega) (by omega) (by rw[hu];decide) (by rw[hu];decide)
   rw[hee] at ac;have:=zf3 (pa:=xa) (m:=d.length) (c:=xc) Any W hW hs0 (hlay.keepNon kk) ac (fun _ _ _ _=>trivial)
   have e2:putS s t (2,d)=s.did (zaE 3 L.ep t []) L.ep s.l (uput s.D t (2,[])):=by unfold putS;rw[if_neg (by show ¬(2:Int)=1;omega),hee]
   rw[e2];exact this
 ·rintro r w' ⟨rfl,t'⟩
  refine⟨rfl,_,?_,t'⟩;have hk:(C t).1=1∨(C t).1=2:=by rw[hC];exact h1
  have hdd:k=2→d = []:=fun e=>hcl.2.2.2 (by show k≠1;omega)
  refine hf.step hmk hk hs0 ?_ ?_ ?_ ?_ ?_
  ·unfold putS;split<;>exact he1
  ·unfold putS;split<;>exact hl0
  ·unfold putS
   split
   ·exact hok.did (by omega) (zI 2 _ t d (by omega) (by rw[he1];omega) (by omega) hd) (zc5 hmp _ _)
   ·exact hok.did (by omega) (zI 3 _ t [] (by omega) (by rw[he1];omega) (by omega) (by simp)) (zc5 hmp _ _)
  ·unfold putS;split<;>rfl
  ·rw[hC]
   unfold putS;rcases h1 with h1|h1
   ·subst h1
    rw[if_pos rfl]
    rfl
   ·rw[if_neg (by show ¬k=1;omega),hdd h1,h1]
    rfl
def trimL (mk:Nat)(L:Lg):Lg:=⟨L.shs.map (trimS mk),L.ep,max L.next mk,L.se⟩
def endL (mk n:Nat)(L:Lg):Lg:=⟨(L.shs.map (trimS mk)).map (cutS 2 n),2,n,2⟩
theorem R2.trim {C:Nat→Cl}{mk t:Nat}{L:Lg}(h:R2 C mk t L)(ht:t≤200)(hm:mk≤200):∀s ∈ L.shs,(trimS mk s).ok∧(trimS mk s).next=s.next+1∧(trimS mk s).e=1∧(trimS mk s).l=mk∧(trimS mk s).D=cutLo mk s.D:=fun s hs=>by
 obtain⟨hok,he1,hl0,hnx,hmp⟩:=h.all s hs;have el:max s.l mk=mk:=by rw[hl0];omega
 refine⟨?_,rfl,he1,el,?_⟩
 ·exact hok.did (by omega) (zI 4 s.e mk [] (by omega) (by rw[he1];omega) (by omega) (by simp)) (Nat.le_trans (zgr hmp _) (Nat.le_succ _))
 ·show cutLo (max s.l mk) s.D=_
  rw[el]
theorem rtrim2 {F:Nat→Prop}{b t mk:Nat}{C:Nat→Cl}{L:Lg}(w:World)(h:zaH F w b 2 L)(hf:R2 C mk t L)(ht:t≤200)(hm:mk≤200)(hlay:Lay w) :
 Calls Tryz.prog 7 #[.pointer (some ⟨b,0,none⟩),.int .i64 mk] w fun r w'=>r = .returned .nilIface∧zan F w b 2 (trimL mk L) w':=by
 refine(zhx (a:=mk) (L:=L) w h hlay (by omega) hf.len (by omega) (by rw[hf.se,hf.ep]) ?_).mono ?_
 ·intro s hs
  obtain⟨hok,he1,hl0,hnx,hmp⟩:=hf.all s hs;exact⟨hok,by omega,by rw[he1,hf.ep],by rw[he1];omega⟩
 ·rintro r w' ⟨rfl,t⟩
  exact⟨rfl,t⟩
theorem rcut2 {F:Nat→Prop}{b n mk:Nat}{C:Nat→Cl}{L:Lg}(w:World)(h:zaH F w b 2 (trimL mk L))(hf:R2 C mk n L)(ht:n≤200)(hm:mk≤n)(hlay:Lay w) :
 Calls Tryz.prog 203 #[.pointer (some ⟨b,0,none⟩),.int .i64 n] w fun r w'=>r = .returned .nilIface∧zan F w b 2 (endL mk n L) w':=by
 refine(znR (a:=n) (E:=2) (L:=trimL mk L) w h hlay (by omega) (by show(L.shs.map _).length=2;rw[List.length_map];exact hf.len) (by omega) (by show L.se=L.ep;rw[hf.se,hf.ep]) (by show 2=L.ep+1;rw[hf.ep]) (by omega) ?_).mono ?_
 ·intro s hs
  obtain⟨s0,hs0,rfl⟩:=List.mem_map.1 hs;obtain⟨h1,h2,h3,h4,_⟩:=hf.trim ht (by omega) s0 hs0
  have:=(hf.all s0 hs0).2.2.2.1;exact⟨h1,by omega,by rw[h3];exact hf.ep.symm,by omega⟩
 ·rintro r w' ⟨rfl,t⟩
  exact⟨rfl,t⟩
theorem R2.fin {C:Nat→Cl}{mk n:Nat}{L:Lg}(h:R2 C mk n L)(hn:n≤200)(hm:mk≤n){a:Nat}(ha:a<n):∃s,(endL mk n L).shs[a%2]? = some s∧s.e=2∧s.X.down=false∧uat s.l s.D a=if a<mk then (3,[]) else if (C a).1=1∨(C a).1=2 then C a else (0,[]):=by
 obtain⟨s,hs⟩:∃s,L.shs[a%2]? = some s:=⟨_,List.getElem?_eq_getElem (by rw[h.len];omega)⟩
 have hin:=List.mem_of_getElem? hs;obtain⟨h1,h2,h3,h4,h5⟩:=h.trim hn (by omega) s hin
 have hmp:=(h.all s hin).2.2.2.2;have hnx:=(h.all s hin).2.2.2.1;have ok2:(sealS 2 (trimS mk s)).ok:=zjH h1 (by omega) (by omega)
 have ok3:(cutS 2 n (trimS mk s)).ok:=ok2.did (by show(trimS mk s).next+1<240;omega) (zI 5 2 n [] (by omega) (by omega) (by omega) (by simp)) (by
  show size (cutHi n (trimS mk s).D)≤size (trimS mk s).D+1
  rw[h5];exact Nat.le_trans (zgr (zeX hmp mk) _) (Nat.le_succ _))
 refine⟨cutS 2 n (trimS mk s),?_,rfl,ok3.free.1,?_⟩
 ·show((L.shs.map (trimS mk)).map (cutS 2 n))[a%2]? = _
  rw[List.getElem?_map,List.getElem?_map,hs]
  rfl
 ·show uat (trimS mk s).l (cutHi n (trimS mk s).D) a=_
  rw[h4,h5];unfold uat;by_cases c:a<mk
  ·rw[if_pos c,if_pos c]
  ·rw[if_neg c,if_neg c,ziX (zeX hmp mk),if_neg (by omega),zfH hmp,if_neg c,h.get _ s hs a rfl]
   by_cases c2:(C a).1=1∨(C a).1=2
   ·rw[if_pos ⟨by omega,ha,c2⟩,if_pos c2]
   ·rw[if_neg (fun y=>c2 y.2.2),if_neg c2]
section
attribute [local go_sem ↓] zbB zU zbC zbD zV zbE zab zbK
end
section
attribute [local go_sem ↓] zbB zU zbC zbD zV zbE zab zbK
theorem zm7 (T:Nat→Prop)(b q j place:Nat)(lv:Value)(ms:List Mf)(m:Mf)(p:Pt)(w:World)(h:w.heap[b]? = some (VtB q lv))(hm:zai T w lv ms)(hj:ms[j]? = some m)(hlen:ms.length≤1000)(hp:m.parts[place]? = some p)(h5:p.sum.length=32)(h64:m.parts.length≤10000) :
 Calls Tryz.prog 255 #[.pointer (some ⟨b,0,none⟩),.int .i64 j,.int .i64 place] w fun e w'=>e = .returned (.tuple #[ptV p,.nilIface])∧za zq2 w w':=by
 have kA:za zq2 w (w.alloc (.cells zrb 125)):=(za.refl _ _).alloc _;have c1:=vt_1 (zh kA h);obtain⟨a,c,rfl,hc,ha,hx⟩:=hm;obtain⟨hp32,g,off,pa,pc,rfl,x1,x2,x3⟩:=hx j m hj;have c36:=x3 36 _ (zhA m _ hp32)
 replace c36:=(World.cell?_of_block (kA.block g (World.block_lt_of_cell? _ _ c36) (fun e=>e))).trans c36
 obtain⟨hlt,_⟩:=List.getElem?_eq_some_iff.1 hp;obtain⟨a1,c1',e1,hcc,_,hy⟩:=x1.keepNon kA;injection e1 with e1 e2 e3
 subst e1;subst e3;obtain⟨g2,off2,rfl,hcell⟩:=hy place p hp;have hld:=load101 _ g2 (off2+place*35) p h5 hcell;have hst:=zac w p h5;have HL:=zz0 (zaB (ze w (zq4 p)) h5);have hlj:(j:Int)<(ms.length:Int):=by have:=(List.getElem?_eq_some_iff.1 hj).1;omega
 dsimp only[zrb] at c1 c36 hld hst;have hlp:(place:Int)<m.parts.length:=by omega
 have K:=zz0 ((za.refl zq2 w).alloc (zq4 p));clear h hx ha x1 x2 x3 hp hy hcell kA hj
 go_enter Tryz.func255,Tryz.ntmps255
 go_wp2_with fail
 have hlv:=HL.out;unfold zZ at hlv;refine bodyPost_ret (v:=.tuple #[ptV p,.nilIface]) (by simp[results,Tryz.results255,asAddr,hlv]) rfl ?_
 exact⟨rfl,K.out⟩
theorem zoX (F T:Nat→Prop)(b q p j place f:Nat)(lv:Value)(ms:List Mf)(m:Mf)(cl:List Cl)(X:Dk)(w:World)(hb:w.heap[b]? = some (VtB q lv))(d:zk F w q p X)(hdn:X.down=false)(hlay:Lay w)(hm:zai T w lv ms)(hj:ms[j]? = some m)(hlen:ms.length<90)(hp:m.parts[place]? = some (zaI f cl))(h64:m.parts.length≤10000)(hpl:place<64)
 (f1:zz X.shown (zt j place)=true) (f2:zat X.shown (zt j place)=zaC f cl) (hcl:cl.length≤64) (hokc:∀x ∈ cl,zcl x) (hfl:f+cl.length≤1048576) :
 Calls Tryz.prog 201 #[.pointer (some ⟨b,0,none⟩),.int .i64 j,.int .i64 place] w fun e w'=>∃v',e = .returned (.tuple #[.agg #[.int .i64 f,v'],.nilIface])∧za zq2 w w'∧∃xs,w'.ownsRow w.heap.size 45 2 v' cl.length xs∧zG w.heap.size zq2 w' xs cl:=by
 have hsl:=zeb hokc hcl (show f≤1048576 by omega)
 have hrl:=zfC hokc hcl (show f≤1048576 by omega)
 have hj9:j<90:=by have:=(List.getElem?_eq_some_iff.1 hj).1;omega
 have p5:(zaI f cl).sum.length=32:=zJ _;have VP:=zz0 (fun W (k:za zq2 w W)=>zm7 T b q j place lv ms m (zaI f cl) W (zh k hb) (hm.keepNon k) hj (by omega) hp p5 h64)
 have LB:=zz0 (fun W=>zd1 j place W (by omega) (by omega))
 have GT:=zz0 (fun W (k:za zq2 w W)=>by
  have:=zgW F q p (zt j place) X W (d.keep k (fun _ _ e=>e)) (zcb j place (by omega) (by omega)) hdn f1 (by rw[f2];omega)
  rw[f2] at this;exact this)
 have MH:=zz0 (fun W v (k:za zq2 w W) (hb:Bs W v (zaC f cl)) (ho:okc v) (hv:∀g,v.ownBlock=some g→g<W.heap.size)=>zhB f v cl W hb ho hv hcl hokc hfl (by omega) (by omega) (hlay.keepNon k).kon (hlay.keepNon k).frs)
 have BB:Hid (∀W,za zq2 w W→W.cell? ⟨b,0,none⟩=some (.pointer (some ⟨q,0,none⟩))):=zz0 (fun W k=>vt_0 (zh k hb))
 have K0:Hid (za zq2 w (w.alloc SgZ0)):=zz0 ((za.refl _ _).alloc _);have R0:Hid ((w.alloc SgZ0).heap[w.heap.size]? = some (SgB 0 (.slice none 0 0))):=zz0 (ze w SgZ0);have VPW:=zz0 (VP.out _ K0.out);clear hb d hlay hm hp f1 f2 hj;unfold sv at LB GT;dsimp only[SgZ0] at VPW;generalize hpt:zaI f cl=pt at VPW MH p5 VP;generalize hsb:zaC f cl=sb at GT MH
 go_enter Tryz.func201,Tryz.ntmps201
 go_wp2_with(go_at_call 255;((with_reducible refine VPW.out.mono ?_);rintro e w1 ⟨rfl,k1⟩);have K1:=zz0 (K0.out.trans1 k1);have hsp:=zac w1 pt p5;have R1:=zz0 (zh (w:=w.alloc SgZ0) k1 R0.out);dsimp only[zrb,zq4] at hsp;clear k1)
 have kp:za zq2 w1 (w1.alloc (zq4 pt)).drew:=((za.refl _ _).alloc _).drew;have KP:=zz0 kp;have PL:Hid (∀W,za zq2 (w1.alloc (zq4 pt)).drew W→(zZ 125 ⟨w1.heap.size,0,none⟩).run Tryz.prog W = .ok (ptV pt) W):=zz0 (fun W k=>zaB (zh k (by exact ze w1 (zq4 pt))) p5)
 have KW:=zz0 (K1.out.trans1 kp);have v0:=BB.out _ KW.out;have LBW:=zz0 (LB.out (w1.alloc (zq4 pt)).drew);dsimp only[zq4] at v0 LBW;clear kp hsp
 go_region_law(go_simp;first
  |(go_at_call 240;((with_reducible refine LBW.out.mono ?_);rintro r w2 ⟨rfl,k2⟩);have k2':=KW.out.trans1 k2;have v2:=BB.out _ k2';have GTW:=zz0 (GT.out w2 k2');have K2:=zz0 k2';have KP2:=zz0 (show za zq2 (w1.alloc (zq4 pt)).drew w2 from k2);clear k2 k2')
  |(go_at_call 48;((with_reducible refine GTW.out.mono ?_);rintro r w3 ⟨v3,rfl,k3,o3⟩);obtain⟨a3,c3,rfl,_,_⟩:=zb o3;have hl3:=PL.out _ (KP2.out.trans1 k3);have MHW:=zz0 (MH.out w3 _ (K2.out.trans1 k3) (Rd.ofOwns o3) (zdA o3) (fun g e=>(o3.lt g e).2));have K3:=zz0 (K2.out.trans1 k3);have R3:=zz0 (zh k3 (zh KP2.out (zh KP.out R1.out)));clear k3 o3))
 all_goals go_wp2_with(go_at_call 256;refine MHW.out.mono ?_;rintro r w4 ⟨v4,rfl,k4,xs,o4,q4⟩;obtain⟨a4,c4,rfl,_,_⟩:=zb o4;have r4:=zh k4 R3.out;have R4:=zz0 r4;have K4:=zz0 (K3.out.trans1 k4);have O4:=zz0 o4;have Q4:=zz0 q4;have rf0:=sg_f r4 0;have rf1:=sg_f r4 1;have rc0:=sg_0 r4;have rc1:=sg_1 r4;have rx0:=sg_0 (zcj r4 f);clear k4 o4 q4 r4)
 all_goals
  have s0:=sg_0 (zc4 (zcj R4.out f) (.slice a4 cl.length c4));have s1:=sg_1 (zc4 (zcj R4.out f) (.slice a4 cl.length c4));refine bodyPost_ret (v:=.tuple #[.agg #[.int .i64 f,.slice a4 cl.length c4],.nilIface]) (by simp[results,Tryz.results201,go_sem,s0,s1]) rfl ?_
  have kf:za (zq3 w.heap.size) w4 ((w4.setCell ⟨w.heap.size,0,none⟩ (.int .i64 f)).setCell ⟨w.heap.size,1,none⟩ (.slice a4 cl.length c4)):=((za.refl _ _).setOne _ _).setOne _ _;have h3:=K3.out.size;have hz:w.heap.size<w3.heap.size:=lt_of_block R3.out;refine⟨_,rfl,K4.out.trans kf (fun _ _ e=>e) (fun g hg e=>by have e':g=w.heap.size:=e;omega),xs,zg (zc O4.out kf (fun g e e2=>by have e':g=w.heap.size:=e2;have:=(O4.out.lt g e).1;omega)) (by omega),(Q4.out.keep (S':=zq2) kf (fun g hg e=>by have e':g=w.heap.size:=e;omega) (fun _ _ e=>e.elim)).low (by omega) (fun _ e=>e)⟩
end
structure RDk (Z:Dk):Prop where
 calm:Z.calm
 fl:IsFl 3300 Z.shown
 only:∀n,zz Z.shown n=true→n=zaw
 room:Z.room=1048576
 fuse:Z.fuse<0
theorem RDk.free {Z:Dk}(h:RDk Z):Z.free:=⟨h.calm.down,h.fuse⟩
theorem RDk.lim {Z:Dk}(h:RDk Z):Z.lim 2 2 20000:=by
 have hc:=h.fl.count [zaw] (fun n hn=>by rw[h.only n hn];exact List.mem_singleton.2 rfl)
 have e:[zaw].length=1:=rfl;rw[e] at hc;exact⟨by omega,by rw[h.calm.pend];exact Nat.zero_le _,by omega,by have:=h.fuse;omega,h.calm.map⟩
theorem RDk.put {Z:Dk}(h:RDk Z){b:zqY}(hb:b.length≤3300):∃Z',Z.sput zaw b=(0,Z')∧RDk Z'∧zz Z'.shown zaw=true:=by
 refine⟨{ Z with sure:=zae Z.shown zaw b,shown:=zae Z.shown zaw b,pend:=[] },?_,⟨⟨rfl,rfl,h.calm.down,?_,fun m hm=>?_⟩,?_,fun m hm=>?_,h.room,h.fuse⟩,zaY h.calm.map⟩
 ·rw[zc6 h.free h.calm.map zaw b (by omega),if_neg (zgP h.lim (by omega) (by rw[h.room];omega))]
 ·exact zmk h.calm.map
 ·have hm:zz (zae Z.shown zaw b) m=true:=hm
  by_cases e:m=zaw
  ·rw[e];exact zdV
  ·by_cases e2:m=tilde zaw
   ·rw[e2,zbd] at hm;cases hm
   ·rw[zaN e e2] at hm;exact h.calm.tidy m hm
 ·exact((h.fl.put hb).del).put hb
 ·have hm:zz (zae Z.shown zaw b) m=true:=hm
  by_cases e:m=zaw
  ·exact e
  ·by_cases e2:m=tilde zaw
   ·rw[e2,zbd] at hm;cases hm
   ·rw[zaN e e2] at hm;exact h.only m hm
theorem RDk.del {Z:Dk}(h:RDk Z)(hh:zz Z.shown zaw=true):(Z.sdel zaw).1=0:=by
 rw[zhP h.free,if_pos hh]
theorem rdk0:RDk (dk0 1048576):=⟨⟨rfl,rfl,rfl,⟨[],rfl⟩,fun n hn=>(by cases hn)⟩,IsFl.nil _,fun n hn=>(by cases hn),rfl,(by show(-1:Int)<0;omega)⟩
structure TsIn (F FL:Nat→Prop)(w0 W:World)(b lb x q p n mk t:Nat)(ia:Option Addr)(ic:Nat)(its:List It)(Z:Dk)(L:Lg):Prop where
 keep:za zq2 w0 W
 lo:∀g,F g→w0.heap.size≤g∧g<W.heap.size
 loL:∀g,FL g→w0.heap.size≤g∧g<W.heap.size
 apart:∀g,F g→¬FL g
 xn:w0.heap.size≤x∧¬F x∧¬FL x
 an:∀g,(Value.slice ia its.length ic).ownBlock=some g→w0.heap.size≤g∧g<W.heap.size∧¬F g∧¬FL g∧g≠x
 st:zk F W q p Z
 lg:zaH FL W lb 2 L
 rs:W.heap[x]? = some (RsB b lb q n 0 mk (.slice ia its.length ic) t false)
 it:zcm W (.slice ia its.length ic) its
section
variable {F FL : Nat → Prop} {w0 W w' : World} {b lb x q p n mk t ic : Nat} {ia : Option Addr} {its : List It} {Z : Dk} {L : Lg}
theorem TsIn.non (h:TsIn F FL w0 W b lb x q p n mk t ia ic its Z L)(k:za zq2 W w'):TsIn F FL w0 w' b lb x q p n mk t ia ic its Z L :=
 ⟨h.keep.trans1 k,fun g y=>⟨(h.lo g y).1,k.lt (h.lo g y).2⟩,fun g y=>⟨(h.loL g y).1,k.lt (h.loL g y).2⟩,h.apart,h.xn,fun g e=>⟨(h.an g e).1,k.lt (h.an g e).2.1,(h.an g e).2.2⟩,h.st.keep k (fun _ _ e=>e),h.lg.keepNon k,zh k h.rs,h.it.keepNon k⟩
theorem TsIn.log (h:TsIn F FL w0 W b lb x q p n mk t ia ic its Z L){L':Lg}(k:zan FL W lb 2 L' w'):∃FL',zq5 FL' FL W∧TsIn F FL' w0 w' b lb x q p n mk t ia ic its Z L':=by
 obtain⟨k,F',s,l⟩:=k;have hxl:x<W.heap.size:=lt_of_block h.rs;refine⟨fun g=>F' g∧g<w'.heap.size,fun g y=>s g y.1,h.keep.trans k (fun _ _ e=>e) (fun g hg y=>by have:=(h.loL g y).1;omega),fun g y=>⟨(h.lo g y).1,k.lt (h.lo g y).2⟩,fun g y=>⟨?_,y.2⟩,fun g y z=>?_,⟨h.xn.1,h.xn.2.1,fun y=>?_⟩,fun g e=>⟨(h.an g e).1,k.lt (h.an g e).2.1,(h.an g e).2.2.1,fun y=>?_,(h.an g e).2.2.2.2⟩,h.st.keep k (fun g y=>h.apart g y),l.low,k.at h.rs h.xn.2.2,h.it.keep k (fun g e=>(h.an g e).2.2.2.1)⟩
 ·rcases s g y.1 with u|u
  ·exact(h.loL g u).1
  ·have:=h.keep.size;omega
 ·rcases s g z.1 with u|u
  ·exact h.apart g y u
  ·have:=(h.lo g y).2;omega
 ·rcases s x y.1 with u|u
  ·exact h.xn.2.2 u
  ·omega
 ·rcases s _ y.1 with u|u
  ·exact(h.an g e).2.2.2.1 u
  ·have:=(h.an g e).2.1;omega
theorem TsIn.saved (h:TsIn F FL w0 W b lb x q p n mk t ia ic its Z L){F':Nat→Prop}{u:Nat}{Z':Dk}(k:za (fun g=>F g∨g=x) W w')(s:zq5 F' F W)(f:∀g,F' g→g<w'.heap.size∧g≠x)(d:zk F' w' q p Z')(r:w'.heap[x]? = some (RsB b lb q n 0 mk (.slice ia its.length ic) u false)):TsIn F' FL w0 w' b lb x q p n mk u ia ic its Z' L:=by
 refine⟨h.keep.trans k (fun _ _ e=>e) (fun g hg y=>?_),fun g y=>⟨?_,(f g y).1⟩,fun g y=>⟨(h.loL g y).1,k.lt (h.loL g y).2⟩,fun g y z=>?_,⟨h.xn.1,fun y=>(f x y).2 rfl,h.xn.2.2⟩,fun g e=>⟨(h.an g e).1,k.lt (h.an g e).2.1,fun y=>?_,(h.an g e).2.2.2⟩,d,h.lg.keep k (fun g y z=>?_),r,h.it.keep k (fun g e z=>?_)⟩
 ·rcases y with y|y
  ·have:=(h.lo g y).1;omega
  ·have:=h.xn.1;omega
 ·rcases s g y with u|u
  ·exact(h.lo g u).1
  ·have:=h.keep.size;omega
 ·rcases s g y with u|u
  ·exact h.apart g u z
  ·have:=(h.loL g z).2;omega
 ·rcases s _ y with u|u
  ·exact(h.an g e).2.2.1 u
  ·have:=(h.an g e).2.1;omega
 ·rcases z with z|z
  ·exact h.apart g z y
  ·exact h.xn.2.2 (z ▸ y)
 ·rcases z with z|z
  ·exact(h.an g e).2.2.1 z
  ·exact(h.an g e).2.2.2.2 z
end
structure TvIn (F0 T:Nat→Prop)(w0:World)(b q0 p0:Nat)(lv:Value)(ms:List Mf)(C:Nat→Cl)(X0:Dk):Prop where
 hb:w0.heap[b]? = some (VtB q0 lv)
 st:zk F0 w0 q0 p0 X0
 up:X0.down=false
 lay:Lay w0
 mat:zai T w0 lv ms
 tb:TB C X0.shown ms
theorem zov {C:Nat→Cl}{hi f ad:Nat}(h1:f≤ad)(h2:ad-f<(zbp C hi f).length):(zbp C hi f)[ad-f]=C ad:=by
 have h3:=h2;rw[zcw] at h3;have e:(zbp C hi f)[ad-f]? = some (C ad):=by
  unfold zbp;rw[List.getElem?_map,List.getElem?_range h3];show some (C (f+(ad-f)))=_;rw[show f+(ad-f)=ad by omega]
 exact(List.getElem?_eq_some_iff.1 e).2
theorem zqU {F0 T F FL:Nat→Prop}{C:Nat→Cl}{w0 W:World}{b q0 p0 lb x q p n mk t ic:Nat}{lv:Value}{ms:List Mf}{ia:Option Addr}{its:List It}{i:It}{X0 Z:Dk}{L:Lg}(v:TvIn F0 T w0 b q0 p0 lv ms C X0)(h:TsIn F FL w0 W b lb x q p n mk t ia ic its Z L)(hr:R2 C mk i.f L)(hmi:mk≤i.f)(hi:i ∈ zdf mk n ms)(htf:t≤i.f)(hu:i.u≤n)(hn:n≤200)(hmk:mk≤200)(hz:RDk Z) :
 Calls Tryz.prog 134 #[.pointer (some ⟨x,0,none⟩),itV i.n i.p i.f i.u] W fun e w'=>e = .returned .nilIface∧∃F' FL' Z' L',TsIn F' FL' w0 w' b lb x q p n mk i.u ia ic its Z' L'∧R2 C mk i.u L'∧RDk Z'∧zz Z'.shown zaw=true:=by
 obtain⟨hfu,m,f0,hm,hp,hpt,hf0,hf1,hf2,hf3,hh,hg⟩:=zqH v.tb hi;have hC:=v.tb.cells;have hfull:=(v.tb.full m (List.mem_of_getElem? hm)).1;have hlen:(zbp C m.hi f0).length≤64:=by rw[zcw];omega
 have hlen2:=zcw C m.hi f0;have h4:=(v.tb.four m (List.mem_of_getElem? hm)).1;have okc:zdQ (cuAt i.u n mk):=⟨trivial,rfl,by show i.u≤n;exact hu,by show n≤1048576;omega,by show mk≤1048576;omega,by show 0≤64;omega⟩
 have hcl:=zcC okc;obtain⟨Z',eZ,rZ,fZ⟩:=hz.put hcl;refine zoI C x b lb q n 0 mk t i.n i.p i.f i.u f0 (zbp C m.hi f0).length (.slice ia its.length ic) (fun V ad W1=>∃FL' L',TsIn F FL' w0 W1 b lb x q p n mk t ia ic its Z L'∧R2 C mk ad L'∧(∀g,FL' g→g<W.heap.size∨V.heap.size≤g)∧W.heap.size≤V.heap.size∧V.heap.size≤W1.heap.size) (fun w'=>∃F' FL' Z' L',TsIn F' FL' w0 w' b lb x q p n mk i.u ia ic its Z' L'∧R2 C mk i.u L'∧RDk Z'∧zz Z'.shown zaw=true) W h.rs htf hfu (by omega) ?_ ?_ ?_ ?_ ?_ ?_
 ·intro W1 k1
  have k:=h.keep.trans1 k1;refine(zoX F0 T b q0 p0 i.n i.p f0 lv ms m (zbp C m.hi f0) X0 W1 (zh k v.hb) (v.st.keep k (fun _ _ e=>e)) v.up (v.lay.keepNon k) (v.mat.keepNon k) hm (by have:=v.tb.few;omega) hpt (by omega) (by omega) hh hg hlen (zgX hC) (by omega)).mono ?_
  rintro e w' ⟨v',rfl,k2,xs,o,qs⟩;obtain⟨a,cc,rfl,_,_⟩:=zb o;refine⟨a,cc,rfl,k2,fun W2 k3 W3 k4 ad ha1 ha2=>?_⟩
  have cs0:CsAt W2 (.slice a (zbp C m.hi f0).length cc) (zbp C m.hi f0):=CsAt.of (zc o k3 (fun g e y=>by have:=(o.lt g e).1;have y':g<W1.heap.size:=y;omega)) (qs.keep (S':=zq2) k3 (fun g hg y=>by have y':g<W1.heap.size:=y;omega) (fun _ _ e=>e))
  have cs:=cs0.keepNon k4;have hlt:ad-f0<(zbp C m.hi f0).length:=by omega
  refine(zqc f0 ad _ (zbp C m.hi f0) W3 cs hlen (zgX hC) (by omega) hlt (by omega)).mono ?_
  rintro e w2 ⟨v2,rfl,k5,o5⟩;rw[zov (by omega) hlt] at o5 ⊢
  obtain⟨xa,xc,rfl,_,_⟩:=zb o5;exact⟨xa,xc,rfl,k5,o5⟩
 ·intro V kV
  exact⟨FL,L,h.non kV,hr,fun g y=>.inl (h.loL g y).2,kV.size,Nat.le_refl _⟩
 ·rintro V ad W1 ⟨FL',L',h',_⟩
  exact h'.rs
 ·rintro V ad W1 W2 xa xc ha1 ha2 hk ⟨FL',L',h',hr',hFL,hV,hV2⟩ k2 hb hown
  have h2:=h'.non k2;refine(rput2 (C:=C) (mk:=mk) W2 h2.lg hr' (by omega) (by omega) rfl (hC ad) hk (v.lay.keepNon h2.keep) hb (.inr (fun g e=>⟨fun y=>?_,(hown g e).2⟩))).mono ?_
  ·have:=(h'.loL g y).2
   have:=(hown g e).1;omega
  ·rintro e w' ⟨rfl,L2,hr2,t2⟩
   have kk:=t2.1;obtain⟨FL2,s2,h3⟩:=h2.log t2;refine⟨rfl,⟨FL2,L2,h3,hr2,fun g y=>?_,hV,?_⟩,kk.mono (fun g hg y=>hFL g y)⟩
   ·rcases s2 g y with u|u
    ·exact hFL g u
    ·have:=k2.size;exact .inr (by omega)
   ·have:=k2.size
    have:=kk.size;omega
 ·rintro V ad W1 W2 ha1 ha2 hk ⟨FL',L',h',hr',hFL,hV,hV2⟩ k2
  exact⟨FL',L',h'.non k2,hr'.skip hk,hFL,hV,by have:=k2.size;omega⟩
 ·rintro V W1 W2 ⟨FL',L',h',hr',hFL,hV,hV2⟩ k2
  have h2:=h'.non k2;refine(zon F x b lb q p n 0 mk t i.u ia its.length ic Z Z' W2 h2.rs h2.xn.2.1 h2.st (fun g y=>(h2.lo g y).2) hz.lim okc eZ).mono ?_
  rintro e w' ⟨rfl,F',kk,s',f',d',r'⟩;exact⟨rfl,F',FL',Z',L',h2.saved kk s' f' d' r',hr',rZ,fZ⟩
def TsOut (w0:World)(b lb x q n mk:Nat)(iv:Value)(C:Nat→Cl)(w':World):Prop :=
 za zq2 w0 w'∧(∃FL' L,R2 C mk n L∧zaH FL' w' lb 2 (endL mk n L)∧∀g,FL' g→w0.heap.size≤g)∧∃t,w'.heap[x]? = some (RsB b lb q n 0 mk iv t true)
theorem zqj {F FL:Nat→Prop}{C:Nat→Cl}{w0 W:World}{b lb x q p n mk t ic:Nat}{ia:Option Addr}{its:List It}{Z:Dk}{L:Lg}(hlay:Lay w0)(h:TsIn F FL w0 W b lb x q p n mk t ia ic its Z L)(hr:R2 C mk n L)(hmn:mk≤n)(hn:n≤200)(hz:RDk Z)(hh:zz Z.shown zaw=true) :
 Calls Tryz.prog 135 #[.pointer (some ⟨x,0,none⟩)] W fun e w'=>e = .returned .nilIface∧TsOut w0 b lb x q n mk (.slice ia its.length ic) C w':=by
 have hdel:=hz.del hh;refine zpY x b lb q n 0 mk t ia its.length ic (fun w'=>∃FL',TsIn F FL' w0 w' b lb x q p n mk t ia ic its Z (trimL mk L)) (fun w'=>∃FL',TsIn F FL' w0 w' b lb x q p n mk t ia ic its Z (endL mk n L)) (TsOut w0 b lb x q n mk (.slice ia its.length ic) C) W h.rs ?_ ?_ ?_ ?_ ?_
 ·rintro w' ⟨_,h'⟩
  exact h'.rs
 ·rintro w' ⟨_,h'⟩
  exact h'.rs
 ·intro W1 k1
  have h1:=h.non k1;have e0:(if mk<0 then ((0:Nat):Int) else (mk:Int))=(mk:Int):=if_neg (by omega)
  rw[e0];refine(rtrim2 W1 h1.lg hr hn (by omega) (hlay.keepNon h1.keep)).mono ?_
  rintro e w' ⟨rfl,t⟩;obtain⟨FL',_,h2⟩:=h1.log t;exact⟨rfl,FL',h2⟩
 ·rintro w1 W1 ⟨FL',h1⟩ k1
  have h2:=h1.non k1;refine(rcut2 W1 h2.lg hr hn hmn (hlay.keepNon h2.keep)).mono ?_;rintro e w' ⟨rfl,t⟩;obtain⟨FL2,_,h3⟩:=h2.log t;exact⟨rfl,FL2,h3⟩
 ·rintro w2 ⟨FL',h2⟩
  have k8:za (zq3 x) w2 (w2.setCell ⟨x,8,none⟩ (.bool true)):=(za.refl _ _).setOne _ _;have d8:zk F (w2.setCell ⟨x,8,none⟩ (.bool true)) q p Z:=h2.st.keep k8 (fun g y e=>by have e':g=x:=e;exact h2.xn.2.1 (e' ▸ y))
  have l8:zaH FL' (w2.setCell ⟨x,8,none⟩ (.bool true)) lb 2 (endL mk n L):=h2.lg.keep k8 (fun g y e=>by have e':g=x:=e;exact h2.xn.2.2 (e' ▸ y))
  have x8:=zmz h2.rs true;refine(zdv F q p zaw Z _ d8 (hz.lim.mild (by omega) (by omega) (by omega)) hz.calm.map zdV).mono ?_
  rintro e w' ⟨rfl,k,F',s,d⟩;rw[hdel];refine⟨rfl,?_,⟨FL',L,hr,l8.keep k (fun g y z=>h2.apart g z y),fun g y=>(h2.loL g y).1⟩,t,k.at x8 h2.xn.2.1⟩
  have kk:=h2.keep.trans k8 (fun _ _ e=>e) (fun g hg e=>by have e':g=x:=e;have:=h2.xn.1;omega)
  exact kk.trans k (fun _ _ e=>e) (fun g hg y=>by have:=(h2.lo g y).1;omega)
theorem zoR {F0 T F FL:Nat→Prop}{C:Nat→Cl}{w0 W:World}{b q0 p0 lb x q p n ic mk:Nat}{lv:Value}{ms:List Mf}{ia:Option Addr}{its:List It}{X0 Z:Dk}{L:Lg}(v:TvIn F0 T w0 b q0 p0 lv ms C X0)(hits:its=zdf mk n ms)(hmn:mk≤n)(hn:n≤zbr ms)(h:TsIn F FL w0 W b lb x q p n mk 0 ia ic its Z L)(hr:R2 C mk mk L)(hz:RDk Z)(hh:zz Z.shown zaw=true)(hil:its.length≤1000) :
 Calls Tryz.prog 39 #[.pointer (some ⟨x,0,none⟩)] W fun e w'=>∃k:Nat,e = .returned (.tuple #[.int .i64 k,.nilIface])∧TsOut w0 b lb x q n mk (.slice ia its.length ic) C w':=by
 have hn200:n≤200:=Nat.le_trans hn v.tb.stop;have htile:Tile mk n its:=by
  have ht:=zhs v.tb mk n ms.length (Nat.le_refl _);rw[List.take_length,←hits] at ht;have e1:max 0 mk=mk:=by omega
  have e2:min (zbr ms) n=n:=by omega
  unfold TileB at ht;rw[e1,e2] at ht;exact ht
 refine(zod x W (its.length+1) (by omega) (fun j W=>∃pre rest s t F FL Z L,j=rest.length+1∧its=pre++rest∧(∀y ∈ pre,y.u≤t)∧t≤s∧mk≤s∧Tile s n rest∧TsIn F FL w0 W b lb x q p n mk t ia ic its Z L∧R2 C mk s L∧s≤n∧RDk Z∧zz Z.shown zaw=true) (fun u w'=>u = .nilIface∧TsOut w0 b lb x q n mk (.slice ia its.length ic) C w') ⟨[],its,mk,0,F,FL,Z,L,rfl,rfl,(fun y hy=>by simp at hy),Nat.zero_le _,Nat.le_refl _,htile,h,hr,hmn,hz,hh⟩ ?_).mono ?_
 ·rintro j W1 ⟨pre,rest,s,t,F1,FL1,Z1,L1,rfl,hsplit,hpre,hts,hms,htl,h1,hr1,hsn,hz1,hh1⟩
  cases rest with
  |nil =>
   have hend:n≤s:=htl;obtain rfl:s=n:=by omega
   have hfn:fndI its t=none:=by
    rw[hsplit,List.append_nil];exact zin hpre
   refine(zmW x b lb q s 0 mk t ia ic its (fun u w'=>u = .nilIface∧TsOut w0 b lb x q s mk (.slice ia its.length ic) C w') W1 h1.rs h1.it hil hfn (fun W2 k=>?_)).mono ?_
   ·refine(zqj v.lay (h1.non k) hr1 hmn hn200 hz1 hh1).mono ?_
    rintro e w' ⟨rfl,t⟩;exact⟨rfl,rfl,t⟩
   ·rintro e w' ⟨rfl,t⟩
    exact .inr (.inl ⟨rfl,t⟩)
  |cons i r =>
   obtain⟨e1,e2,e3,e4⟩:=htl;have hfn:fndI its t=some ⟨i.n,i.p,i.f,i.u⟩:=by
    rw[hsplit];exact zlD hpre (by omega)
   have hin:i ∈ zdf mk n ms:=by rw[←hits,hsplit];simp
   refine(zkT x b lb q n 0 mk t i.n i.p i.f i.u ia ic its (fun u w'=>u = .nilIface∧∃F' FL' Z' L',TsIn F' FL' w0 w' b lb x q p n mk i.u ia ic its Z' L'∧R2 C mk i.u L'∧RDk Z'∧zz Z'.shown zaw=true) W1 h1.rs h1.it hil hfn (fun W2 k=>?_)).mono ?_
   ·refine(zqU v (h1.non k) (by rw[e1];exact hr1) (by omega) hin (by omega) e3 hn200 (by omega) hz1).mono ?_
    rintro e w' ⟨rfl,t⟩;exact⟨_,rfl,rfl,t⟩
   ·rintro e w' ⟨u,rfl,rfl,F2,FL2,Z2,L2,h2,hr2,hz2,hh2⟩
    refine .inl ⟨r.length+1,by simp,rfl,pre ++ [i],r,i.u,i.u,F2,FL2,Z2,L2,rfl,by rw[hsplit];simp,fun y hy=>?_,Nat.le_refl _,by omega,e4,h2,hr2,e3,hz2,hh2⟩
    rcases List.mem_append.1 hy with z|z
    ·have:=hpre y z;omega
    ·rw[List.mem_singleton.1 z];exact Nat.le_refl _
 ·rintro e w' ⟨k,u,rfl,rfl,t⟩
  exact⟨k,rfl,t⟩
def FLr (W w1:World):Nat→Prop:=fun g=>W.heap.size≤g∧g<w1.heap.size
theorem zmx {w W w1 w2 w3:World}{lb:Nat}{F':Nat→Prop}(kW:za zq2 w W)(k1:za zq2 W w1)(lg:zaH (FLr W w1) w1 lb 2 lA)(k2:za zq2 w1 w2)(k3:za (fun g=>w1.heap.size≤g∧g<w2.heap.size) w2 w3)(s3:zq5 F' (fun g=>w1.heap.size≤g∧g<w2.heap.size) w2) :
 za zq2 w w3∧zaH (FLr W w1) w3 lb 2 lA∧w1.heap.size≤w3.heap.size∧∀g,F' g→w1.heap.size≤g:=by
 have k13:za zq2 w1 w3:=k2.trans k3 (fun _ _ e=>e) (fun g hg e=>by have:=e.1;omega)
 refine⟨(kW.trans1 k1).trans1 k13,lg.keepNon k13,k13.size,fun g y=>?_⟩
 rcases s3 g y with u|u
 ·exact u.1
 ·have:=k2.size;omega
section
attribute [local go_sem ↓] zbB zU zbC zbD zV zbE zab zbK
theorem zpT {C:Nat→Cl}{D:Fl}(T:Nat→Prop)(v:Value)(ms:List Mf)(n:Int)(w:World)(hm:zai T w v ms)(hb:TB C D ms)(hno:ms = []∨n<0∨((zbr ms:Nat):Int)<n)(hlay:Lay w) :
 Calls Tryz.prog 78 #[v,.int .i64 n] w fun e w'=>∃k:Int,k≠0∧e = .returned (.tuple #[.agg #[.int .i64 0,.int .i64 0,.int .i64 0,.slice none 0 0],.iface 89 (.int .i64 k)])∧za zq2 w w':=by
 have hfew:=hb.few;have K0:Hid (za zq2 w (w.alloc PlZ)):=zz0 ((za.refl _ _).alloc _);have CK:Hid (Calls Tryz.prog 51 #[v] (w.alloc PlZ) fun e w'=>e = .returned (.tuple #[.int .i64 ms.length,.nilIface])∧za zq2 (w.alloc PlZ) w'):=zz0 (zbl T v ms (w.alloc PlZ) (hm.keepNon K0.out) hb.ok (by omega) (hlay.keepNon K0.out).kon (hlay.keepNon K0.out).frs)
 have hbg:beginM ms=0:=by
  cases ms with
  |nil=>rfl
  |cons m r=>exact hb.zero m rfl
 have BE:Hid (∀W,za zq2 w W→Calls Tryz.prog 13 #[v] W fun e w'=>e = .returned (.int .i64 0)∧w'=W):=zz0 (fun W k=>by
  have:=zd5 T v ms W (hm.keepNon k);rw[hbg] at this;exact this)
 have EN:Hid (∀W,za zq2 w W→Calls Tryz.prog 8 #[v] W fun e w'=>e = .returned (.int .i64 (zbr ms))∧za zq2 W w'):=zz0 (fun W k=>zbN T v ms W (hm.keepNon k) (by omega))
 generalize hE:zbr ms=E at EN hno;have R0:Hid ((w.alloc PlZ).heap[w.heap.size]? = some PlZ):=zz0 (ze w PlZ);obtain⟨a,c,rfl,hc,ha,hx⟩:=hm;clear hx ha hb hbg hE hlay;dsimp only[PlZ] at CK;by_cases hl:ms.length=0
 ·have hl0:((ms.length:Int)==0)=true:=by rw[hl];rfl
  clear hl hno
  go_enter Tryz.func78,Tryz.ntmps78
  go_wp2_with(go_at_call 51;((with_reducible refine CK.out.mono ?_);rintro e w1 ⟨rfl,k1⟩);have K1:=zz0 (K0.out.trans1 k1);have r1:=zh (w:=w.alloc PlZ) k1 R0.out;have R1:=zz0 r1;obtain⟨z0,z1,z2,z3,f0,f1,f2,f3,t4,kt⟩:=zes r1 (.int .i64 0) (.int .i64 0) (.int .i64 0) (.slice none 0 0);have KT:=zz0 kt;have T4:=zz0 t4;clear k1 kt t4 r1)
  obtain⟨r0,r1,r2,r3,_⟩:=za4 T4.out;refine bodyPost_ret (v:=.tuple #[.agg #[.int .i64 0,.int .i64 0,.int .i64 0,.slice none 0 0],.iface 89 (.int .i64 4)]) (by simp[results,Tryz.results78,go_sem,r0,r1,r2,r3]) rfl ?_
  exact⟨4,by decide,rfl,setNon4 K1.out KT.out⟩
 ·have hl0:((ms.length:Int)==0)=false:=by simpa using hl
  have hne:ms≠[]:=fun e=>hl (by rw[e];rfl)
  have hno2:n<0∨(E:Int)<n:=hno.resolve_left hne;rcases hno2 with hn|hn
  ·go_enter Tryz.func78,Tryz.ntmps78
   go_wp2_with(first
    |(go_at_call 51;((with_reducible refine CK.out.mono ?_);rintro e w1 ⟨rfl,k1⟩);have K1:=zz0 (K0.out.trans1 k1);have r1:=zh (w:=w.alloc PlZ) k1 R0.out;have BE1:=zz0 (BE.out w1 K1.out);obtain⟨z0,z1,z2,z3,f0,f1,f2,f3,t4,kt⟩:=zes r1 (.int .i64 0) (.int .i64 0) (.int .i64 0) (.slice none 0 0);have KT:=zz0 kt;have T4:=zz0 t4;clear k1 kt t4 r1)
    |(go_at_call 13;((with_reducible refine BE1.out.mono ?_);rintro e w2 ⟨rfl,rfl⟩)))
   obtain⟨r0,r1,r2,r3,_⟩:=za4 T4.out;refine bodyPost_ret (v:=.tuple #[.agg #[.int .i64 0,.int .i64 0,.int .i64 0,.slice none 0 0],.iface 89 (.int .i64 1)]) (by simp[results,Tryz.results78,go_sem,r0,r1,r2,r3]) rfl ?_
   exact⟨1,by decide,rfl,setNon4 K1.out KT.out⟩
  ·have hn0:¬n<0:=by omega
   go_enter Tryz.func78,Tryz.ntmps78
   go_wp2_with(first
    |(go_at_call 51;((with_reducible refine CK.out.mono ?_);rintro e w1 ⟨rfl,k1⟩);have K1:=zz0 (K0.out.trans1 k1);have R1:=zz0 (zh (w:=w.alloc PlZ) k1 R0.out);have BE1:=zz0 (BE.out w1 K1.out);have EN1:=zz0 (EN.out w1 K1.out);clear k1)
    |(go_at_call 13;((with_reducible refine BE1.out.mono ?_);rintro e w2 ⟨rfl,rfl⟩))
    |(go_at_call 8;((with_reducible refine EN1.out.mono ?_);rintro e w3 ⟨rfl,k3⟩);have K3:=zz0 (K1.out.trans1 k3);have r3:=zh k3 R1.out;obtain⟨z0,z1,z2,z3,f0,f1,f2,f3,t4,kt⟩:=zes r3 (.int .i64 0) (.int .i64 0) (.int .i64 0) (.slice none 0 0);have KT:=zz0 kt;have T4:=zz0 t4;clear k3 kt t4 r3))
   obtain⟨r0,r1,r2,r3,_⟩:=za4 T4.out;refine bodyPost_ret (v:=.tuple #[.agg #[.int .i64 0,.int .i64 0,.int .i64 0,.slice none 0 0],.iface 89 (.int .i64 1)]) (by simp[results,Tryz.results78,go_sem,r0,r1,r2,r3]) rfl ?_
   exact⟨1,by decide,rfl,setNon4 K3.out KT.out⟩
end
theorem zkP {C:Nat→Cl}{D:Fl}(F T:Nat→Prop)(b lb q0 q p:Nat)(n:Int)(lv:Value)(ms:List Mf)(X:Dk)(w:World)(hb:w.heap[b]? = some (VtB q0 lv))(hm:zai T w lv ms)(htb:TB C D ms)(hno:ms = []∨n<0∨((zbr ms:Nat):Int)<n)(hlay:Lay w)(d:zk F w q p X)(hup:X.down=false)(hcur:zz X.shown zaw=false) :
 Calls Tryz.prog 38 #[.pointer (some ⟨b,0,none⟩),.pointer (some ⟨lb,0,none⟩),.pointer (some ⟨q,0,none⟩),.int .i64 n] w fun e w'=>∃k:Int,k≠0∧e = .returned (.tuple #[.pointer none,.iface 89 (.int .i64 k)])∧za zq2 w w':=by
 have LD:=zz0 (zgc F b lb q p X w d hup hcur);have CH:=zz0 (fun W (k:za zq2 w W)=>zar T b q0 lv ms W (zh k hb) (hm.keepNon k) htb.p32 (by have:=htb.few;omega))
 have PO:=zz0 (fun T v W (k:za zq2 w W) (h:zai T W v ms)=>zpT T v ms n W h htb hno (hlay.keepNon k))
 clear hb hm htb hno hlay d hup hcur
 go_enter Tryz.func38,Tryz.ntmps38
 go_wp2_with(first
  |(go_at_call 77;((with_reducible refine LD.out.mono ?_);rintro e w1 ⟨rfl,k1⟩);have K1:=zz0 (k1.alloc CuZ);clear k1)
  |(go_at_call 9;refine(CH.out _ K1.out).mono ?_;rintro e w2 ⟨v2,rfl,k2,m2⟩;have K2:=zz0 (K1.out.trans1 k2);have PO2:=zz0 (PO.out _ v2 w2 K2.out m2);clear k2 m2)
  |(go_at_call 78;((with_reducible refine PO2.out.mono ?_);rintro e w3 ⟨k,hk0,rfl,k3⟩);have K3:=zz0 (K2.out.trans1 k3);have HK0:=zz0 hk0;clear k3))
 go_ret2;exact⟨k,HK0.out,rfl,K3.out.alloc _⟩
theorem zoQ {w W w1 w3 w4:World}{b lb x q p n mk:Nat}{its:List It}{F':Nat→Prop}{Z:Dk}(kW:za zq2 w W)(hW:W.heap.size≤w1.heap.size)(o:za zq2 w w3∧zaH (FLr W w1) w3 lb 2 lA∧w1.heap.size≤w3.heap.size∧∀g,F' g→w1.heap.size≤g)(r:TRbEnd F' w3 b lb q p n mk its Z x w4) :
 ∃ia ic F'',TsIn F'' (FLr W w1) w w4 b lb x q p n mk 0 ia ic its Z lA:=by
 obtain⟨k3,lg,h13,f'⟩:=o;obtain⟨ia,ic,F'',k4,s4,l4,d4,x1,x2,x3,x4,i4,an⟩:=r;have hw:=kW.size;have h34:=k4.size;have f'':∀g,F'' g→w1.heap.size≤g:=fun g y=>by
  rcases s4 g y with u|u
  ·exact f' g u
  ·omega
 refine⟨ia,ic,F'',k3.trans k4 (fun _ _ e=>e) (fun g hg y=>by have:=f' g y;omega),fun g y=>⟨by have:=f'' g y;omega,l4 g y⟩,fun g y=>⟨by have:=y.1;omega,by have:=y.2;omega⟩,fun g y z=>by have:=f'' g y;have:=z.2;omega,⟨by omega,x3,fun y=>by have:=y.2;omega⟩,fun g e=>?_,d4,lg.keep k4 (fun g y z=>by have:=f' g z;have:=y.2;omega),x4,i4⟩
 obtain⟨a1,a2,a3,a4⟩:=an g e;exact⟨by omega,a2,a3,fun y=>by have:=y.2;omega,a4⟩
theorem zfy {F0 T:Nat→Prop}{C:Nat→Cl}{b q0 p0 n mk:Nat}{lv:Value}{ms:List Mf}{X0:Dk}(w:World)(v:TvIn F0 T w b q0 p0 lv ms C X0)(h10:10≤w.heap.size)(hne:ms≠[])(hn:n≤zbr ms)(hmk:mk=zcI ms n) :
 Calls Tryz.prog 12 #[.pointer (some ⟨b,0,none⟩),.int .i64 n] w fun e w'=>∃lb FL L,e = .returned (.tuple #[.pointer (some ⟨lb,0,none⟩),.bool true])∧za zq2 w w'∧zaH FL w' lb 2 (endL mk n L)∧R2 C mk n L∧∀g,FL g→w.heap.size≤g:=by
 have hn200:n≤200:=Nat.le_trans hn v.tb.stop;have hmn:mk≤n:=by rw[hmk];unfold zcI;omega
 have kW:za zq2 w (((w.alloc o0).alloc o1).alloc (o2 w.heap.size)):=(((za.refl _ _).alloc _).alloc _).alloc _;have NW:=zz0 (zeu _ 2 _ _ (v.lay.keepNon kW) (zjC w) (by omega) (by omega) (by have:=kW.size;omega))
 have KW:=zz0 kW;have V:=zz0 v;have okc:zdQ (cuAt 0 n mk):=⟨trivial,rfl,Nat.zero_le _,by show n≤1048576;omega,by show mk≤1048576;omega,by show 0≤64;omega⟩
 obtain⟨Z,eZ,rZ,fZ⟩:=rdk0.put (zcC okc);have hil:(zdf mk n ms).length≤1000:=by
  have:=zgG mk n ms (fun m hm=>(v.tb.four m hm).1)
  have:=v.tb.few;omega
 have BG:Hid (∀F FL lb q p (W:World),za zq2 w W→zk F W q p (dk0 1048576)→(∀g,F g→g<W.heap.size)→zaH FL W lb 2 lA→Calls Tryz.prog 38 #[.pointer (some ⟨b,0,none⟩),.pointer (some ⟨lb,0,none⟩),.pointer (some ⟨q,0,none⟩),.int .i64 n] W fun e w'=>∃x,e = .returned (.tuple #[.pointer (some ⟨x,0,none⟩),.nilIface])∧TRbEnd F W b lb q p n mk (zdf mk n ms) Z x w'):=zz0 (fun F FL lb q p W k d hF lg=>by
  exact zkQ F FL T b lb q0 q p n mk (zdf mk n ms) lv ms hmk rfl (dk0 1048576) Z lA W (zh k v.hb) (v.mat.keepNon k) v.tb hne hn (v.lay.keepNon k) d hF lg rfl rfl (zdd _).1 (zcV _ _) ((ze0 _).mono (by omega) (by omega) (by omega)) eZ (by omega))
 have AL:Hid (∀F FL lb x q p ia ic (W:World),TsIn F FL w W b lb x q p n mk 0 ia ic (zdf mk n ms) Z lA→Calls Tryz.prog 39 #[.pointer (some ⟨x,0,none⟩)] W fun e w'=>∃k:Nat,e = .returned (.tuple #[.int .i64 k,.nilIface])∧TsOut w b lb x q n mk (.slice ia (zdf mk n ms).length ic) C w'):=zz0 (fun F FL lb x q p ia ic W h=>zoR v rfl hmn hn h (R2.first C mk) rZ fZ hil)
 generalize zdf mk n ms=its at BG AL;clear v kW okc hil hmk hne hn;unfold o0 o1 o2 at NW
 go_enter Tryz.func12,Tryz.ntmps12
 go_wp2_with(first
  |(go_at_call 16;refine NW.out.mono ?_;rintro e w1 ⟨lb,rfl,k1,l1⟩;have K1:=zz0 k1;have LG1:=zz0 l1;clear k1 l1)
  |(go_at_call 17;refine(zdH 1048576 w1 (by omega)).mono ?_;rintro e w2 ⟨p,rfl,k2,d2⟩;have K2:=zz0 k2;have D2:=zz0 d2;clear k2 d2)
  |(go_at_call 37;refine(zhV _ p 1048576 w2 D2.out).mono ?_;rintro e w3 ⟨q,rfl,hq,k3,F',s3,d3⟩;have D3:=zz0 d3.low;have O3:=zz0 (zmx (F':=fun g=>F' g∧g<w3.heap.size) KW.out K1.out (by exact LG1.out) K2.out k3 (fun g y=>s3 g y.1));clear k3 s3 d3 hq)
  |(go_at_call 38;refine(BG.out _ _ lb q p w3 O3.out.1 D3.out (fun g y=>y.2) O3.out.2.1).mono ?_;rintro e w4 ⟨x,rfl,r4⟩;obtain⟨ia,ic,F4,r5⟩:=zoQ KW.out K1.out.size O3.out r4;have R5:=zz0 r5;clear r4 r5)
  |(go_at_call 39;refine(AL.out _ _ _ _ _ _ _ _ w4 R5.out).mono ?_;rintro e w5 ⟨n5,rfl,r6⟩;obtain⟨t6,x6⟩:=r6.2.2;have X6:=zz0 x6;have R6:=zz0 r6;clear r6 x6)
  |(go_at_call 40;refine(zol w5 X6.out).mono ?_;rintro e w6 ⟨rfl,rfl⟩))
 go_ret2;obtain⟨FL',L',hr',l6,hnew⟩:=R6.out.2.1;exact⟨lb,FL',L',rfl,R6.out.1,l6,hr',hnew⟩
theorem ziK {F0 T:Nat→Prop}{C:Nat→Cl}{b q0 p0:Nat}{n:Int}{lv:Value}{ms:List Mf}{X0:Dk}(w:World)(v:TvIn F0 T w b q0 p0 lv ms C X0)(h10:10≤w.heap.size)(hno:ms = []∨n<0∨((zbr ms:Nat):Int)<n) :
 Calls Tryz.prog 12 #[.pointer (some ⟨b,0,none⟩),.int .i64 n] w fun e w'=>e = .returned (.tuple #[.pointer none,.bool true])∧za zq2 w w':=by
 have kW:za zq2 w (((w.alloc o0).alloc o1).alloc (o2 w.heap.size)):=(((za.refl _ _).alloc _).alloc _).alloc _;have NW:=zz0 (zeu _ 2 _ _ (v.lay.keepNon kW) (zjC w) (by omega) (by omega) (by have:=kW.size;omega))
 have KW:=zz0 kW;have BG:=zz0 (fun F lb q p (W:World) (k:za zq2 w W) (d:zk F W q p (dk0 1048576))=>zkP F T b lb q0 q p n lv ms (dk0 1048576) W (zh k v.hb) (v.mat.keepNon k) v.tb hno (v.lay.keepNon k) d (zdd _).1 (zcV _ _))
 clear v kW hno;unfold o0 o1 o2 at NW
 go_enter Tryz.func12,Tryz.ntmps12
 go_wp2_with(first
  |(go_at_call 16;refine NW.out.mono ?_;rintro e w1 ⟨lb,rfl,k1,l1⟩;have K1:=zz0 k1;have LG1:=zz0 l1;clear k1 l1)
  |(go_at_call 17;refine(zdH 1048576 w1 (by omega)).mono ?_;rintro e w2 ⟨p,rfl,k2,d2⟩;have K2:=zz0 k2;have D2:=zz0 d2;clear k2 d2)
  |(go_at_call 37;refine(zhV _ p 1048576 w2 D2.out).mono ?_;rintro e w3 ⟨q,rfl,hq,k3,F',s3,d3⟩;have D3:=zz0 d3.low;have O3:=zz0 (zmx (F':=fun g=>F' g∧g<w3.heap.size) KW.out K1.out (by exact LG1.out) K2.out k3 (fun g y=>s3 g y.1));clear k3 s3 d3 hq)
  |(go_at_call 38;refine(BG.out _ lb q p w3 O3.out.1 D3.out).mono ?_;rintro e w4 ⟨k,hk0,rfl,k4⟩;have hkb:(k != 0)=true:=(by simpa using hk0);have K4:=zz0 (O3.out.1.trans1 k4);clear k4))
 go_ret2;exact⟨rfl,K4.out⟩
theorem VtSt.second {F FL F5:Nat→Prop}{w3 w4 w5:World}{b lb q p b2 q2 p2:Nat}{X:Dk}{L:Lg}{room:Nat}(h:VtSt F FL w3 b lb q p X L)(k4:za zq2 w3 w4)(vb:w5.heap[b2]? = some (VtB q2 (.slice none 0 0)))(k5:za (fun g=>w3.heap.size≤g∧g<w4.heap.size) w4 w5)(hb2:w4.heap.size≤b2)(s5:zq5 F5 (fun g=>w3.heap.size≤g∧g<w4.heap.size) w4)(nb:¬F5 b2)(l5:∀g,F5 g→g<w5.heap.size)(st:zk F5 w5 q2 p2 (dk0 room)) :
 VtSt F5 FL w5 b2 lb q2 p2 (dk0 room) L∧za zq2 w3 w5∧∀g,F5 g→w3.heap.size≤g:=by
 have k35:za zq2 w3 w5:=k4.trans k5 (fun _ _ e=>e) (fun g hg e=>by have:=e.1;omega)
 have h3:10≤w3.heap.size:=by have:=h.out.2.2;have:=lt_of_block h.vt;omega
 have hs4:=k4.size;have hF:∀g,F5 g→w3.heap.size≤g:=fun g y=>by
  rcases s5 g y with u|u
  ·exact u.1
  ·omega
 refine⟨⟨vb,st,h.lg.keepNon k35,h.lay.keepNon k35,⟨nb,fun y=>?_,by omega⟩,fun g y z=>?_,fun g y=>⟨by have:=hF g y;omega,l5 g y⟩,fun g y=>k35.lt (h.lowL g y)⟩,k35,hF⟩
 ·have:=h.lowL b2 y;omega
 ·have:=h.lowL g z;have:=hF g y;omega
def clH:List Cl:=[(2,[])]
theorem slabH:zaF (bagL clH) 1 0 = [(2,[])]:=by decide
theorem nextH:(bagL clH).next=1:=by decide
end Go.Proofs.YtpojgmeoaflmoaaGreatDoor
