/- Names of objects: unlike for unlike numb -/
import Derived.Test.YtpojgmeoaflmoaaGreatDoorRows
import Derived.LaidMore
import Derived.Lib.LaidTab
import Derived.Lay
import Derived.Stop.Joined
import Derived.Test.YtpojgmeoaflmoaaGreatDoorQ33
set_option linter.unusedVariables false
set_option maxRecDepth 100000
set_option maxHeartbeats 16000000
namespace Go.Proofs.YtpojgmeoaflmoaaGreatDoor
open Go.RowKit Go.Maps
theorem zlo {n:Nat}(h:n<100):Lib.decDigits n=if n<10 then [UInt8.ofNat (48+n)] else [UInt8.ofNat (48+n / 10),UInt8.ofNat (48+n%10)]:=by
 by_cases h1:n<10
 ·rw[if_pos h1,Lib.decDigits_one h1]
 ·rw[if_neg h1,Lib.decDigits,dif_neg h1,Lib.decDigits_one (by omega)]
  rfl
def figV (l:zqY):Nat:=l.foldl (fun a b=>a*10+(b.toNat-48)) 0
theorem znE:∀n,n<100→figV (Lib.repeatL [48] (6-(if n<10 then [UInt8.ofNat (48+n)] else [UInt8.ofNat (48+n / 10),UInt8.ofNat (48+n%10)]:zqY).length)++(if n<10 then [UInt8.ofNat (48+n)] else [UInt8.ofNat (48+n / 10),UInt8.ofNat (48+n%10)]))=n:=by
 decide
theorem zlC:∀n,n<100→figV (Lib.repeatL [48] (4-(if n<10 then [UInt8.ofNat (48+n)] else [UInt8.ofNat (48+n / 10),UInt8.ofNat (48+n%10)]:zqY).length)++(if n<10 then [UInt8.ofNat (48+n)] else [UInt8.ofNat (48+n / 10),UInt8.ofNat (48+n%10)]))=n:=by
 decide
theorem zgx {n:Nat}(h:n<100):figV (zdr n 6)=n:=by
 unfold zdr;rw[zlo h];exact znE n h
theorem zjj {n:Nat}(h:n<100):figV (zdr n 4)=n:=by
 unfold zdr;rw[zlo h];exact zlC n h
theorem zpx {n k:Nat}(h:n<100)(hk:2≤k):(zdr n k).length=k:=by
 have:=zgs n h;unfold zdr;rw[List.length_append,zfw];omega
theorem zh2 {n m:Nat}(hn:n<100)(hm:m<100)(e:zw n=zw m):n=m:=by
 have e1:zdr n 6=zdr m 6:=by
  have:=congrArg (List.drop 1) e;exact this
 have:=congrArg figV e1
 rwa [zgx hn,zgx hm] at this
theorem zhv {n m i j:Nat}(hn:n<100)(hm:m<100)(hi:i<100)(hj:j<100)(e:zt n i=zt m j):n=m∧i=j:=by
 have l6:∀{k:Nat},k<100→(zdr k 6).length=6:=fun h=>zpx h (by omega)
 have f1:∀{k x:Nat},k<100→((zt k x).drop 1).take 6=zdr k 6:=fun {k x} h=>by
  show(((zdr k 6) ++ [45]++zdr x 4)).take 6=_
  rw[List.append_assoc,List.take_append_of_le_length (by rw[l6 h];exact Nat.le_refl _),List.take_of_length_le (by rw[l6 h];exact Nat.le_refl _)]
 have f2:∀{k x:Nat},k<100→(zt k x).drop 8=zdr x 4:=fun {k x} h=>by
  show(((zdr k 6) ++ [45]++zdr x 4)).drop 7=_
  rw[List.drop_append_of_le_length (by simp[l6 h])]
  have:((zdr k 6) ++ [(45:UInt8)]).drop 7 = []:=List.drop_eq_nil_of_le (by simp[l6 h])
  rw[this]
  rfl
 constructor
 ·have:=congrArg figV (show zdr n 6=zdr m 6 by rw[←f1 (x:=i) hn,←f1 (x:=j) hm,e])
  rwa [zgx hn,zgx hm] at this
 ·have:=congrArg figV (show zdr i 4=zdr j 4 by rw[←f2 (x:=i) hn,←f2 (x:=j) hm,e])
  rwa [zjj hi,zjj hj] at this
def zbr (ms:List Mf):Nat:=(zT ms).hi
def aheadD (ms:List Mf):List UInt8:=if ms = [] then List.replicate 32 0 else digM (zT ms)
theorem zjV (ms:List Mf):(aheadD ms).length=32:=by
 unfold aheadD
 split
 ·exact List.length_replicate ..
 ·exact zer _
theorem zbn (ms:List Mf)(m:Mf):zT (ms ++ [m])=m:=by simp[zT]
def IsFl (B:Nat)(D:Fl):Prop:=∃es,D = .map es∧es.Pairwise (fun p q=>p.1≠q.1)∧∀p ∈ es,(∃x,p.1 = .string x)∧(heldB p.2).length≤B
theorem IsFl.map {B:Nat}{D:Fl}(h:IsFl B D):IsMap D:=by
 obtain⟨es,e,_⟩:=h;exact⟨es,e⟩
theorem IsFl.nil (B:Nat):IsFl B (.map []):=⟨[],rfl,List.Pairwise.nil,fun p hp=>by simp at hp⟩
theorem IsFl.keys {B:Nat}{D:Fl}(h:IsFl B D):∃es,D = .map es∧es.Pairwise (fun p q=>p.1≠q.1)∧∀p ∈ es,∃x,p.1 = .string x:=by
 obtain⟨es,e,hp,hk⟩:=h;exact⟨es,e,hp,fun p q=>(hk p q).1⟩
theorem IsFl.put {B:Nat}{D:Fl}{n b:zqY}(h:IsFl B D)(hb:b.length≤B):IsFl B (zcz D n b):=by
 obtain⟨es,rfl,hp,hk⟩:=h;obtain⟨es',e',hp'⟩:=Tidy.put (H:=zqY) ⟨es,rfl,hp⟩ (isKey n) (.held b);have e2:es'=DataW.insert (.string n,.held b) (es.filter fun p=>!p.1.sameKey (.string n)):=by
  have e3:(DataW.map (DataW.insert (.string n,.held b) (es.filter fun p=>!p.1.sameKey (.string n))):Fl) = .map es':=e'
  injection e3 with e3
  exact e3.symm
 refine⟨es',e',hp',fun p hq=>?_⟩
 rw[e2] at hq;rcases Go.ChangeMaps.mem_insert_iff.1 hq with rfl|y
 ·exact⟨⟨n,rfl⟩,hb⟩
 ·exact hk p (List.mem_filter.1 y).1
theorem IsFl.del {B:Nat}{D:Fl}{n:zqY}(h:IsFl B D):IsFl B (zcp D n):=by
 obtain⟨es,rfl,hp,hk⟩:=h;exact⟨_,rfl,hp.filter _,fun p hq=>hk p (List.mem_filter.1 hq).1⟩
theorem IsFl.get {B:Nat}{D:Fl}(h:IsFl B D)(n:zqY):(zat D n).length≤B:=by
 obtain⟨es,rfl,hp,hk⟩:=h;unfold zat DataW.atKey;cases e:es.find? (fun p=>p.1.sameKey (.string n)) with
 |none=>simp only[e];exact Nat.zero_le _
 |some p=>simp only[e];exact(hk p (List.mem_of_find?_eq_some e)).2
theorem IsFl.on {B:Nat}{D:Fl}(h:IsFl B D){c:Chg}(hc:∀n b,c = .write n b→b.length≤B):IsFl B (c.on D):=by
 cases c with
 |write n b=>exact h.put (hc n b rfl)
 |rename n m =>
  show IsFl B (if zz D n then _ else _)
  split
  ·exact h.del.put (h.get n)
  ·exact h
 |remove n =>
  show IsFl B (if zz D n then _ else _)
  split
  ·exact h.del
  ·exact h
theorem zjc (B:Nat):∀(es:List (Lit×DataW zqY))(ns:List zqY),es.Pairwise (fun p q=>p.1≠q.1)→(∀p ∈ es,(∃x,p.1 = .string x∧x ∈ ns)∧(heldB p.2).length≤B)→es.length≤ns.length∧(es.map (fun p=>(heldB p.2).length)).sum≤B*es.length
 |[],_,_,_=>⟨Nat.zero_le _,Nat.zero_le _⟩
 |p::r,ns,hp,hk=>by
  obtain⟨⟨x,hx,hm⟩,hb⟩:=hk p (by simp)
  obtain⟨h1,h2⟩:=List.pairwise_cons.1 hp;obtain⟨i1,i2⟩:=zjc B r (ns.erase x) h2 (fun q hq=>by
   obtain⟨⟨y,hy,hm'⟩,hb'⟩:=hk q (by simp[hq])
   have hne:y≠x:=fun e=>h1 q hq (by rw[hx,hy,e])
   exact⟨⟨y,hy,(List.mem_erase_of_ne hne).2 hm'⟩,hb'⟩)
  have hl:=List.length_erase_of_mem hm;have hpos:=List.length_pos_of_mem hm;rw[List.map_cons,List.sum_cons,List.length_cons,Nat.mul_succ];omega
theorem IsFl.count {B:Nat}{D:Fl}(h:IsFl B D)(ns:List zqY)(hn:∀n,zz D n=true→n ∈ ns):size D≤ns.length∧fused D≤B*ns.length:=by
 obtain⟨es,rfl,hp,hk⟩:=h;obtain⟨a1,a2⟩:=zjc B es ns hp (fun p hq=>by
  obtain⟨⟨x,hx⟩,hb⟩:=hk p hq;refine⟨⟨x,hx,hn x ?_⟩,hb⟩;show es.any (fun q=>q.1.sameKey (.string x))=true
  exact List.any_eq_true.2 ⟨p,hq,by rw[hx];exact WideAt.sameKey_self (isKey x)⟩)
 exact⟨a1,Nat.le_trans a2 (Nat.mul_le_mul_left _ a1)⟩
def zbp (C:Nat→Cl)(hi f:Nat):List Cl:=(List.range (min 64 (hi-f))).map (fun j=>C (f+j))
theorem zqg (L:Lg)(hi f:Nat):zbp (zbx L) hi f=zaF L hi f:=rfl
theorem zcw (C:Nat→Cl)(hi f:Nat):(zbp C hi f).length=min 64 (hi-f):=by simp[zbp]
theorem ziP {C E:Nat→Cl}{hi f:Nat}(h:∀a,f≤a→a<hi→C a=E a):zbp C hi f=zbp E hi f:=by
 unfold zbp;refine List.map_congr_left (fun j hj=>?_)
 have:=List.mem_range.1 hj;exact h _ (by omega) (by omega)
theorem zgX {C:Nat→Cl}(h:∀a,zcl (C a)){hi f:Nat}:∀x ∈ zbp C hi f,zcl x:=by
 intro x hx;unfold zbp at hx;obtain⟨j,_,rfl⟩:=List.mem_map.1 hx;exact h _
theorem zow {C:Nat→Cl}{hi f:Nat}(h:f<hi):zbp C hi f≠[]:=by
 intro e;have:=congrArg List.length e;rw[zcw] at this;simp at this;omega
def TCont (C:Nat→Cl)(D:Fl)(num lo hi:Nat)(ps:List Pt):Prop:=∀i,i<ps.length→lo+64*i<hi∧ps[i]? = some (zaI (lo+64*i) (zbp C hi (lo+64*i)))∧zz D (zt num i)=true∧zat D (zt num i)=zaC (lo+64*i) (zbp C hi (lo+64*i))
theorem TCont.segs {C:Nat→Cl}{X:Dk}{num lo hi:Nat}{ps:List Pt}(h:TCont C X.shown num lo hi ps)(hC:∀a,zcl (C a))(hh:hi≤1048576):HasSegsN X num ps:=by
 intro i pt hi';obtain⟨h1,h2,h3,h4⟩:=h i (zr hi');rw[h2] at hi';injection hi' with hi'
 exact⟨_,_,hi'.symm,h3,h4,zow h1,by rw[zcw];omega,zgX hC,by rw[zcw];omega⟩
theorem TCont.congr {C E:Nat→Cl}{D:Fl}{num lo hi:Nat}{ps:List Pt}(h:TCont C D num lo hi ps)(he:∀a,lo≤a→a<hi→C a=E a):TCont E D num lo hi ps:=by
 intro i hi';obtain⟨h1,h2,h3,h4⟩:=h i hi';have e:zbp C hi (lo+64*i)=zbp E hi (lo+64*i):=ziP (fun a h5 h6=>he a (by omega) h6)
 rw[e] at h2 h4;exact⟨h1,h2,h3,h4⟩
theorem like.symm {D E:Fl}(h:like D E):like E D:=fun n hn=>⟨(h n hn).1.symm,(h n hn).2.symm⟩
theorem like.trans {D E G:Fl}(h:like D E)(k:like E G):like D G:=fun n hn=>⟨(h n hn).1.trans (k n hn).1,(h n hn).2.trans (k n hn).2⟩
theorem like.obj {D E:Fl}(h:like D E){n:zqY}(hn:zbg n):zz D n=zz E n∧zat D n=zat E n:=h n hn.2.2
theorem TCont.like {C:Nat→Cl}{D E:Fl}{num lo hi:Nat}{ps:List Pt}(h:TCont C D num lo hi ps)(k:like D E)(hn:num<100)(hp:ps.length≤4):TCont C E num lo hi ps:=by
 intro i hi';obtain⟨h1,h2,h3,h4⟩:=h i hi';obtain⟨k1,k2⟩:=k.obj (zcb num i (by omega) (by omega))
 exact⟨h1,h2,k1 ▸ h3,k2 ▸ h4⟩
structure TB (C:Nat→Cl)(D:Fl)(ms:List Mf):Prop where
 few:ms.length≤5
 ok:okCh ms
 four:∀m ∈ ms,m.parts.length≤4∧m.parts≠[]
 stop:zbr ms≤200
 tit:∀(j:Nat) m,ms[j]? = some m→zz D (zw j)=true∧zat D (zw j)=zb2 m
 no:∀k,ms.length≤k→k<100→zz D (zw k)=false
 cont:∀(j:Nat) m,ms[j]? = some m→TCont C D j m.lo m.hi m.parts
 cells:∀a,zcl (C a)
 full:∀m ∈ ms,m.hi≤200∧m.hi≤m.lo+64*m.parts.length
 below:∀m ∈ ms,m.hi≤zbr ms
 marks:∀m ∈ ms,m.trim≤200∧∀a,m.lo≤a→a<m.hi→(C a).1=3→a<m.trim
 zero:∀m,ms[0]? = some m→m.lo=0
theorem TB.like {C:Nat→Cl}{D E:Fl}{ms:List Mf}(h:TB C D ms)(k:like D E):TB C E ms:=by
 have hf:=h.few;refine⟨h.few,h.ok,h.four,h.stop,fun j m hj=>?_,fun j h1 h2=>?_,fun j m hj=>?_,h.cells,h.full,h.below,h.marks,h.zero⟩
 ·have hlt:=zr hj
  obtain⟨k1,k2⟩:=k.obj (zaD j (by omega))
  obtain⟨t1,t2⟩:=h.tit j m hj;exact⟨k1 ▸ t1,k2 ▸ t2⟩
 ·obtain⟨k1,k2⟩:=k.obj (zaD j (by omega))
  exact k1 ▸ h.no j h1 h2
 ·have hlt:=zr hj
  exact(h.cont j m hj).like k (by omega) (h.four m (List.mem_of_getElem? hj)).1
def inB (ms:List Mf)(n:zqY):Prop:=(∃j,j<ms.length∧n=zw j)∨∃(j i:Nat)(m:Mf),ms[j]? = some m∧i<m.parts.length∧n=zt j i
def inE (ms:List Mf)(np:Nat)(n:zqY):Prop:=inB ms n∨n=zx∨∃i,i<np∧n=zt ms.length i
def TAll (D:Fl)(P:zqY→Prop):Prop:=∀n,126 ∉ n→zz D n=true→P n
theorem TAll.like {D E:Fl}{P:zqY→Prop}(h:TAll D P)(k:Go.Proofs.YtpojgmeoaflmoaaGreatDoor.like D E):TAll E P:=fun n hn hh=>h n hn (by rw[(k n hn).1];exact hh)
structure TDk (X:Dk):Prop where
 calm:X.calm
 fl:IsFl 12500 X.shown
 room:X.room=16777216
 fuse : -1≤X.fuse∧X.fuse≤1000
structure TF (L:Lg)(C:Nat→Cl)(D:Fl)(ms:List Mf)(c:Cu):Prop where
 b:TB C D ms
 few:ms.length≤4
 all:TAll D (inE ms ((c.hi-c.lo+63) / 64))
 ok:zdQ c
 lo:c.lo=zbr ms
 hi:c.hi≤200
 pos:c.lo<c.hi
 stand:c.next=min c.hi (c.lo+64*c.parts.length)
 part:c.lo+64*c.parts.length<c.hi+64
 cur:zz D zx=true∧zat D zx=zco c
 cont:TCont (zbx L) D ms.length c.lo c.hi c.parts
 trim:c.trim≤200∧(ms≠[]→(zT ms).trim≤c.trim)∧∀a,c.lo≤a→a<c.hi→(zbx L a).1=3→a<c.trim
theorem TF.like {L:Lg}{C:Nat→Cl}{D E:Fl}{ms:List Mf}{c:Cu}(h:TF L C D ms c)(k:Go.Proofs.YtpojgmeoaflmoaaGreatDoor.like D E):TF L C E ms c:=by
 have hp:=h.part;have hh:=h.hi;have hf:=h.few;obtain⟨k1,k2⟩:=k.obj zal;exact⟨h.b.like k,h.few,h.all.like k,h.ok,h.lo,h.hi,h.pos,h.stand,h.part,⟨k1 ▸ h.cur.1,k2 ▸ h.cur.2⟩,h.cont.like k (by omega) (by omega),h.trim⟩
theorem zce {D:Fl}{n m b:zqY}(hm:126 ∉ m)(hne:m≠n):zz (zae D n b) m=zz D m∧zat (zae D n b) m=zat D m:=by
 have h2:m≠tilde n:=fun e=>hm (e ▸ zjJ n)
 exact⟨zaN hne h2,zfq hne h2⟩
theorem TCont.put {C:Nat→Cl}{D:Fl}{num lo hi:Nat}{ps:List Pt}{n b:zqY}(h:TCont C D num lo hi ps)(hn:num<100)(hp:ps.length≤4)(hl:∀i,i<ps.length→zt num i≠n):TCont C (zae D n b) num lo hi ps:=by
 intro i hi';obtain⟨h1,h2,h3,h4⟩:=h i hi';obtain⟨k1,k2⟩:=zce (D:=D) (b:=b) (zcb num i (by omega) (by omega)).2.2 (hl i hi')
 exact⟨h1,h2,k1.trans h3,k2.trans h4⟩
theorem TB.put {C:Nat→Cl}{D:Fl}{ms:List Mf}{n b:zqY}(h:TB C D ms)(ht:∀j,j<100→zw j≠n)(hl:∀j i,j<ms.length→i<4→zt j i≠n):TB C (zae D n b) ms:=by
 have hf:=h.few;refine⟨h.few,h.ok,h.four,h.stop,fun j m hj=>?_,fun j h1 h2=>?_,fun j m hj=>?_,h.cells,h.full,h.below,h.marks,h.zero⟩
 ·have hlt:=zr hj
  obtain⟨k1,k2⟩:=zce (D:=D) (b:=b) (zaD j (by omega)).2.2 (ht j (by omega))
  obtain⟨t1,t2⟩:=h.tit j m hj;exact⟨k1.trans t1,k2.trans t2⟩
 ·obtain⟨k1,k2⟩:=zce (D:=D) (b:=b) (zaD j (by omega)).2.2 (ht j (by omega))
  exact k1.trans (h.no j h1 h2)
 ·have hlt:=zr hj
  have h4:=(h.four m (List.mem_of_getElem? hj)).1;exact(h.cont j m hj).put (by omega) h4 (fun i hi=>hl j i hlt (by omega))
theorem TAll.put {D:Fl}{P:zqY→Prop}{n b:zqY}(h:TAll D P)(hn:P n):TAll (zae D n b) P:=fun m hm hh=>by
 by_cases e:m=n
 ·rw[e];exact hn
 ·rw[(zce hm e).1] at hh
  exact h m hm hh
theorem TAll.mono {D:Fl}{P Q:zqY→Prop}(h:TAll D P)(k:∀n,P n→Q n):TAll D Q:=fun n hn hh=>k n (h n hn hh)
def cuM (lo hi tr:Nat):Cu:=⟨lo,lo,hi,tr,[]⟩
theorem zjd {lo hi tr:Nat}(h1:lo≤hi)(h2:hi≤200)(h3:tr≤200):zdQ (cuM lo hi tr):=⟨trivial,rfl,h1,by show hi≤1048576;omega,by show tr≤1048576;omega,by show 0≤64;omega⟩
theorem zng {L:Lg}{C:Nat→Cl}{D:Fl}{ms:List Mf}(h:TB C D ms)(ha:TAll D (inB ms))(hm:IsMap D)(h4:ms.length≤4){n tr:Nat}(hn:n≤200)(h0:zbr ms<n)(ht:tr≤200∧(ms≠[]→(zT ms).trim≤tr)∧∀a,zbr ms≤a→a<n→(zbx L a).1=3→a<tr):TF L C (zae D zx (zco (cuM (zbr ms) n tr))) ms (cuM (zbr ms) n tr):=by
 refine⟨h.put (fun j _=>(zdw j).symm) (fun j i _ _=>zdy j i),h4,(ha.mono (fun n y=>.inl y)).put (.inr (.inl rfl)),zjd (by omega) hn ht.1,rfl,hn,h0,?_,?_,⟨zaY hm,zbv hm⟩,fun i hi=>by simp[cuM] at hi,ht⟩
 ·show zbr ms=min n (zbr ms+64*0);omega
 ·show zbr ms+64*0<n+64;omega
theorem zo6 {L:Lg}{C:Nat→Cl}{D:Fl}{ms:List Mf}{c:Cu}(h:TF L C D ms c)(hm:IsMap D)(hlt:c.next<c.hi):TF L C (zae D (zt ms.length c.parts.length) (zaC c.next (zaF L c.hi c.next))) ms c:=by
 have hp:=h.part;have hst:=h.stand;have hh:=h.hi;have hf:=h.few;have ho:=zcb ms.length c.parts.length (by omega) (by omega)
 refine⟨h.b.put (fun j _=>(zis _ _ _).symm) (fun j i hj hi e=>by have:=(zhv (by omega) (by omega) (by omega) (by omega) e).1;omega),h.few,h.all.put (.inr (.inr ⟨c.parts.length,by omega,rfl⟩)),h.ok,h.lo,h.hi,h.pos,h.stand,h.part,?_,h.cont.put (by omega) (by omega) (fun i hi e=>by have:=(zhv (by omega) (by omega) (by omega) (by omega) e).2;omega),h.trim⟩
 obtain⟨k1,k2⟩:=zce (D:=D) (b:=zaC c.next (zaF L c.hi c.next)) zal.2.2 (zdy ms.length c.parts.length).symm;exact⟨k1.trans h.cur.1,k2.trans h.cur.2⟩
theorem zgj:∀(l:List Cl)(t f:Nat),(∀j x,l[j]? = some x→x.1=3→f+j<t)→trimC t f l=t
 |[],_,_,_=>rfl
 |x::r,t,f,h=>by
  unfold trimC;have e:(if x.1=3 then max t (f+1) else t)=t:=by
   split
   ·have:=h 0 x rfl (by assumption)
    omega
   ·rfl
  rw[e];exact zgj r t (f+1) (fun j y hj hy=>by have:=h (j+1) y hj hy;omega)
theorem zcL {L:Lg}{c:Cu}(h:∀a,c.lo≤a→a<c.hi→(zbx L a).1=3→a<c.trim)(hl:c.lo≤c.next):(zaM L c).trim=c.trim:=by
 show trimC c.trim c.next (zaF L c.hi c.next)=_
 refine zgj _ _ _ (fun j x hj hx=>?_)
 have hlt:=zr hj;rw[zbw] at hlt;rw[zeA hlt] at hj;injection hj with hj
 exact h _ (by omega) (by omega) (by rw[hj];exact hx)
theorem zqC {L:Lg}{C:Nat→Cl}{D:Fl}{ms:List Mf}{c:Cu}(h:TF L C D ms c)(hm:IsMap D)(hl:Log1 L)(hlt:c.next<c.hi)(hs:zz D (zt ms.length c.parts.length)=true∧zat D (zt ms.length c.parts.length)=zaC c.next (zaF L c.hi c.next)):TF L C (zae D zx (zco (zaM L c))) ms (zaM L c):=by
 have hp:=h.part;have hst:=h.stand;have hh:=h.hi;have hf:=h.few;have hn:c.next=c.lo+64*c.parts.length:=by omega
 have hsl:=zbw L c.hi c.next;have hpl:(zaM L c).parts.length=c.parts.length+1:=by simp[zaM]
 refine⟨h.b.put (fun j _=>(zdw j).symm) (fun j i _ _=>zdy j i),h.few,h.all.put (.inr (.inl rfl)),zfm h.ok hl hlt (by omega),h.lo,h.hi,h.pos,?_,?_,⟨zaY hm,zbv hm⟩,?_,?_⟩
 ·rw[hpl]
  show c.next+(zaF L c.hi c.next).length=min c.hi (c.lo+64*(c.parts.length+1))
  omega
 ·rw[hpl]
  show c.lo+64*(c.parts.length+1)<c.hi+64
  omega
 ·have hc:TCont (zbx L) D ms.length c.lo c.hi (zaM L c).parts:=by
   intro i hi;rw[hpl] at hi;show _∧(c.parts ++ [zaI c.next (zaF L c.hi c.next)])[i]? = _∧_;rcases Nat.lt_or_ge i c.parts.length with hlt2|hge
   ·rw[List.getElem?_append_left hlt2]
    exact h.cont i hlt2
   ·obtain rfl:i=c.parts.length:=by omega
    rw[List.getElem?_append_right (Nat.le_refl _),←hn];exact⟨hlt,by simp[zqg],hs.1,hs.2⟩
  exact hc.put (by omega) (by rw[hpl];omega) (fun i _=>zdy _ _)
 ·rw[zcL h.trim.2.2 (by omega)]
  exact h.trim
def exT (ms:List Mf)(c:Cu):Mf:=nxM ms.length c.lo c.hi c.trim (aheadD ms) c.parts
theorem zji {L:Lg}{C:Nat→Cl}{D:Fl}{ms:List Mf}{c:Cu}(h:TF L C D ms c)(hd:c.next=c.hi):okMf (exT ms c)∧zp c.lo c.parts=c.hi:=by
 have h4:=h.part;have hh:=h.hi;have hst:=h.ok.stop;have hp:=h.ok.parts;have e:zp c.lo c.parts=c.hi:=by rw[hst,hd]
 refine⟨?_,e⟩;unfold exT;have hfew:=h.few;refine⟨by show ms.length≤999999;omega,h.ok.hi,h.ok.trim,zjV ms,fun e0=>?_,by show c.parts.length≤1024;omega,hp,e⟩
 have e0':ms = []:=List.eq_nil_of_length_eq_zero e0;show isZ (aheadD ms)=true;unfold aheadD;rw[if_pos e0']
 decide
theorem zgw {L:Lg}{C:Nat→Cl}{D:Fl}{ms:List Mf}{c:Cu}(h:TF L C D ms c)(hd:c.next=c.hi):(zb2 (exT ms c)).length≤3400:=by
 have h4:=h.part;have:=h.hi;have:=h.few;have:=h.pos;have:=h.trim.1;exact zqM (zji h hd).1 (by show c.parts.length≤64;omega) (by show ms.length≤1048576;omega) (by show c.lo≤1048576;omega) (by show c.hi≤1048576;omega) (by show c.trim≤1048576;omega) (fun p hp=>zfk (zct _ _ h.ok.parts p hp))
theorem zil {L:Lg}{C:Nat→Cl}{D:Fl}{ms:List Mf}{c:Cu}(h:TF L C D ms c):folM ms (exT ms c) :=
 ⟨rfl,fun hne=>⟨by show aheadD ms=_;unfold aheadD;rw[if_neg hne],h.lo,h.trim.2.1 hne⟩⟩
def joinC (C:Nat→Cl)(L:Lg)(lo:Nat)(a:Nat):Cl:=if a<lo then C a else zbx L a
theorem zld {L:Lg}{C:Nat→Cl}{D:Fl}{ms:List Mf}{c:Cu}(h:TF L C D ms c)(hm:IsMap D)(hl:Log1 L)(hd:c.next=c.hi):TB (joinC C L c.lo) (zae D (zw ms.length) (zb2 (exT ms c))) (ms ++ [exT ms c]):=by
 have hp:=h.part;have hh:=h.hi;have hf:=h.few;have hst:=h.stand;have hpos:=h.pos;have hlen:=zgw h hd;have hend:zbr (ms ++ [exT ms c])=c.hi:=by unfold zbr;rw[zbn];rfl
 have hget:∀(j:Nat) m,(ms ++ [exT ms c])[j]? = some m→(j<ms.length∧ms[j]? = some m)∨(j=ms.length∧m=exT ms c):=fun j m hj=>by
  rcases Nat.lt_or_ge j ms.length with hlt|hge
  ·rw[List.getElem?_append_left hlt] at hj;exact .inl ⟨hlt,hj⟩
  ·have hj':=zr hj
   simp at hj';obtain rfl:j=ms.length:=by omega
   rw[List.getElem?_append_right (Nat.le_refl _)] at hj;simp at hj;exact .inr ⟨rfl,hj.symm⟩
 have hpne:c.parts≠[]:=fun e0=>by
  rw[e0] at hst;simp at hst;omega
 refine⟨by simp;omega,h.b.ok.snoc (zji h hd).1 (zil h) (by show c.parts.length≤64;omega) (by omega),fun m hm'=>?_,by rw[hend];exact hh,fun j m hj=>?_,fun k k1 k2=>?_,fun j m hj=>?_,fun a=>?_,fun m hm'=>?_,fun m hm'=>?_,fun m hm'=>?_,fun m hm'=>?_⟩
 ·rcases List.mem_append.1 hm' with y|y
  ·exact h.b.four m y
  ·rw[List.mem_singleton.1 y];exact⟨by show c.parts.length≤4;omega,hpne⟩
 ·rcases hget j m hj with ⟨hlt,y⟩|⟨rfl,rfl⟩
  ·obtain⟨k1,k2⟩:=zce (D:=D) (b:=zb2 (exT ms c)) (zaD j (by omega)).2.2 (fun e=>by have:=zh2 (by omega) (by omega) e;omega:zw j≠zw ms.length)
   obtain⟨t1,t2⟩:=h.b.tit j m y;exact⟨k1.trans t1,k2.trans t2⟩
  ·exact⟨zaY hm,zbv hm⟩
 ·rw[List.length_append,List.length_singleton] at k1
  exact(zce (D:=D) (b:=zb2 (exT ms c)) (zaD k (by omega)).2.2 (fun e=>by have:=zh2 k2 (by omega) e;omega:zw k≠zw ms.length)).1.trans (h.b.no k (by omega) k2)
 ·rcases hget j m hj with ⟨hlt,y⟩|⟨rfl,rfl⟩
  ·have hb:=h.b.below m (List.mem_of_getElem? y)
   have h4:=(h.b.four m (List.mem_of_getElem? y)).1;exact((h.b.cont j m y).congr (fun a _ h2=>by unfold joinC;rw[if_pos (by rw[h.lo];omega)])).put (by omega) h4 (fun i _=>zis _ _ _)
  ·exact(h.cont.congr (fun a h1 _=>by unfold joinC;rw[if_neg (by omega)])).put (by omega) (by show c.parts.length≤4;omega) (fun i _=>zis _ _ _)
 ·unfold joinC
  split
  ·exact h.b.cells a
  ·exact hl.cells a
 ·rcases List.mem_append.1 hm' with y|y
  ·exact h.b.full m y
  ·rw[List.mem_singleton.1 y];exact⟨hh,by show c.hi≤c.lo+64*c.parts.length;omega⟩
 ·rw[hend]
  rcases List.mem_append.1 hm' with y|y
  ·have:=h.b.below m y;have:=h.lo;omega
  ·rw[List.mem_singleton.1 y];exact Nat.le_refl _
 ·rcases List.mem_append.1 hm' with y|y
  ·refine⟨(h.b.marks m y).1,fun a a1 a2 a3=>?_⟩
   have hb:=h.b.below m y;unfold joinC at a3;rw[if_pos (by rw[h.lo];omega)] at a3
   exact(h.b.marks m y).2 a a1 a2 a3
  ·rw[List.mem_singleton.1 y]
   refine⟨h.trim.1,fun a a1 a2 a3=>?_⟩
   have a1':c.lo≤a:=a1;unfold joinC at a3;rw[if_neg (by omega)] at a3
   exact h.trim.2.2 a a1' a2 a3
 ·rcases hget 0 m hm' with ⟨hlt,y⟩|⟨e0,rfl⟩
  ·exact h.b.zero m y
  ·have e1:ms = []:=List.eq_nil_of_length_eq_zero e0.symm
   show c.lo=0
   rw[h.lo,e1]
   rfl
theorem zj3 {L:Lg}{C:Nat→Cl}{D:Fl}{ms:List Mf}{c:Cu}(h:TF L C D ms c)(hd:c.next=c.hi):TAll (zae D (zw ms.length) (zb2 (exT ms c))) (fun n=>inB (ms ++ [exT ms c]) n∨n=zx):=by
 have hst:=h.stand;have hp:=h.part;have hpos:=h.pos;refine TAll.put (h.all.mono (fun n y=>?_)) (.inl (.inl ⟨ms.length,by simp,rfl⟩))
 rcases y with (⟨j,u,v⟩|⟨j,i,m,u,v,z⟩)|y|⟨i,u,v⟩
 ·exact .inl (.inl ⟨j,by simp;omega,v⟩)
 ·exact .inl (.inr ⟨j,i,m,by rw[List.getElem?_append_left (zr u)];exact u,v,z⟩)
 ·exact .inr y
 ·exact .inl (.inr ⟨ms.length,i,exT ms c,by simp,by show i<c.parts.length;omega,v⟩)
theorem zeR {D:Fl}{P:zqY→Prop}(h:TAll D (fun n=>P n∨n=zx)):TAll (zcp D zx) P:=fun n hn hh=>by
 by_cases e:n=zx
 ·rw[e,zaR] at hh;cases hh
 ·rw[zM e] at hh
  rcases h n hn hh with y|y
  ·exact y
  ·exact absurd y e
theorem TB.clear {C:Nat→Cl}{D:Fl}{ms:List Mf}(h:TB C D ms):TB C (zcp D zx) ms:=by
 have hf:=h.few;refine⟨h.few,h.ok,h.four,h.stop,fun j m hj=>?_,fun j h1 h2=>?_,fun j m hj=>?_,h.cells,h.full,h.below,h.marks,h.zero⟩
 ·rw[zM (zdw j).symm,zbs (zdw j).symm]
  exact h.tit j m hj
 ·rw[zM (zdw j).symm]
  exact h.no j h1 h2
 ·intro i hi
  obtain⟨h1,h2,h3,h4⟩:=h.cont j m hj i hi;exact⟨h1,h2,by rw[zM (zdy _ _)];exact h3,by rw[zbs (zdy _ _)];exact h4⟩
theorem znw (F T:Nat→Prop)(p s h:Nat)(pv:Value)(X:Dk)(n:Nat)(w:World)(d:zq F T w p s h pv X) :
 Calls Tryz.prog 28 #[.pointer (some ⟨p,0,none⟩),.int .i64 n] w fun e w'=>e = .returned .nilIface∧za (zq3 p) w w'∧zq F T w' p s h pv { X with fuse:=n }:=by
 have D:=zz0 d;have f4:=dk_f d.blk 4;have e4:=dk_4 d.blk;have hn:¬(n:Int)<0:=by omega
 clear d
 go_enter Tryz.func28,Tryz.ntmps28
 go_wp2_with fail
 go_ret;obtain⟨k,t⟩:=D.out.turn (i:=4) (u:=.int .i64 n) (Y:={ X with fuse:=n }) (zgu D.out.blk n) rfl rfl rfl rfl
 exact⟨rfl,k,t⟩
def CutTo (F:Nat→Prop)(w:World)(p:Nat)(X:Dk)(D:Fl)(w':World):Prop:=zaW F w p { X with sure:=D,shown:=D,pend:=[],down:=true } w'
theorem zie {F T:Nat→Prop}{w w1:World}{p s h:Nat}{pv:Value}{X Y:Dk}(k:za (fun g=>g=s) w w1)(d:zq F T w p s h pv X)(d1:zq F T w1 p s h pv Y)(hY:Y.room=X.room∧Y.fuse=X.fuse){es:Array MapEntry}{clock:Nat}(hes:w1.heap[s]? = some (.map es clock))(m1:zF (w1.alloc (.map es clock)) 9 (zbT w1 T) w1.heap.size Y.sure)(m2:zF (w1.alloc (.map es clock)) 9 (zbT w1 T) s Y.sure) :
 CutTo F w p X Y.sure ((((w1.alloc (.map es clock)).setCell ⟨p,2,none⟩ (.map (some w1.heap.size))).setCell ⟨p,3,none⟩ (.slice none 0 0)).setCell ⟨p,5,none⟩ (.bool true)):=by
 have kT:za (zq3 p) (w1.alloc (.map es clock)) ((((w1.alloc (.map es clock)).setCell ⟨p,2,none⟩ (.map (some w1.heap.size))).setCell ⟨p,3,none⟩ (.slice none 0 0)).setCell ⟨p,5,none⟩ (.bool true)):=(((za.refl (zq3 p) _).setOne 2 _).setOne 3 _).setOne 5 _;have kS:za (zq3 p) w1 ((((w1.alloc (.map es clock)).setCell ⟨p,2,none⟩ (.map (some w1.heap.size))).setCell ⟨p,3,none⟩ (.slice none 0 0)).setCell ⟨p,5,none⟩ (.bool true)):=((((za.refl (zq3 p) w1).alloc _).setOne 2 _).setOne 3 _).setOne 5 _;have b2:=zi d1.blk (.map es clock);have b5:=ze1 (zcW (zgt b2 w1.heap.size) (.slice none 0 0)) true;obtain⟨i1,i2,i3,i4,i5⟩:=d1.inF;obtain⟨a1,a2,a3,a4⟩:=d1.apart;obtain⟨o1,o2,o3,o4,o5⟩:=d1.outT;have hpl:=lt_of_block d1.blk;have hsl:=zF.lt d1.sure;have hT:=zq3.notT o1;refine⟨?_,fun g=>F g∨g=w1.heap.size,fun g y=>?_,T,s,w1.heap.size,.slice none 0 0,?_,?_,?_,⟨[],World.ownsRow_nil _ _ _ _,rfl,fun i c l hc=>by simp at hc⟩,⟨.inl i1,.inl i2,.inr rfl,fun g e=>(by cases e),fun g e=>.inl (i5 g e)⟩,⟨by omega,a2,by omega,fun g e=>(by cases e)⟩,⟨o1,o2,fun e=>by have:=o5 _ e;omega,fun g e=>(by cases e),fun g e=>kS.lt (o5 g e)⟩,?_⟩
 ·exact(k.mono (fun g _ e=>by rw[e];exact d.inF.2.1)).trans kS (fun _ _ e=>e) (fun g _ e=>by have e':g=p:=e;rw[e'];exact d.inF.1)
 ·rcases y with y|y
  ·exact .inl y
  ·exact .inr (by have:=k.size;omega)
 ·show _=some (DkB X.room s w1.heap.size (.slice none 0 0) X.fuse true)
  rw[←hY.1,←hY.2];exact b5
 ·exact zF.keep m2 kT (fun e=>a2 e.symm) (zbT.fun1 _ _) (fun v x hx=>hx.keep kS hT (fun _ e=>e))
 ·exact zF.keep m1 kT (fun e=>by unfold zq3 at e;omega) (zbT.fun1 _ _) (fun v x hx=>hx.keep kS hT (fun _ e=>e))
 ·exact d.room
theorem zhe (F T:Nat→Prop)(p s h:Nat)(pv:Value)(va:Option Addr)(vc:Nat)(X:Dk)(w:World)(d:zq F T w p s h pv X)(hp:X.pend = [])(n:Nat) :
 Calls Tryz.prog 32 #[.pointer (some ⟨p,0,none⟩),.slice va n vc] w fun e w'=>e = .returned (.tuple #[])∧CutTo F w p X X.sure w':=by
 have D:=zz0 d;obtain⟨xs,ho,hl,hx⟩:=d.pend;obtain⟨pa,pc,rfl,_,_⟩:=zb ho;have h0:X.pend.length=0:=by rw[hp];rfl
 have c3:=dk_3 d.blk;rw[h0] at c3;have c1:=dk_1 d.blk;obtain⟨es,clock,hes,m1,m2⟩:=zcs d.sure;have HES:=zz0 hes;have M1:=zz0 m1;have M2:=zz0 m2;have b2:=zi d.blk (.map es clock);have f2:=dk_f b2 2;have e2:=dk_2 b2;have b3:=zgt b2 w.heap.size;have f3:=dk_f b3 3;have e3:=dk_3 b3;have b4:=zcW b3 (.slice none 0 0);have f5:=dk_f b4 5;have e5:=dk_5 b4;clear d ho hl hx m1 m2 b2 b3 b4 hp h0
 go_enter Tryz.func32,Tryz.ntmps32
 go_wp2_with fail
 refine wp_loop_rounds 1 ?_;rw[rounds_succ]
 go_wp2_with(go_at_call 69;refine(zcc s es clock _ hes).mono ?_;rintro e w2 ⟨rfl,rfl⟩)
 go_end0
 exact⟨rfl,zie (za.refl _ _) D.out D.out ⟨rfl,rfl⟩ HES.out M1.out M2.out⟩
theorem znn {w:World}{T:Nat→Prop}{c:Chg}{l:List Value}(h:ChgV w T c l):∃k n m a b z,l = [.int .i64 k,.string n,.string m,.slice a b z]:=by
 cases c with
 |write n b =>
  obtain⟨v,rfl,hv⟩:=h;obtain⟨x,cap,rfl,_⟩:=hv.1;exact⟨_,_,_,_,_,_,rfl⟩
 |rename n m=>subst h;exact⟨_,_,_,_,_,_,rfl⟩
 |remove n=>subst h;exact⟨_,_,_,_,_,_,rfl⟩
theorem zqE (T:Nat→Prop)(b:Nat)(D:Fl)(c:Chg)(l:List Value)(w:World)(hm:zbA w T b D)(hT:¬T b)(hc:ChgV w T c l)(hn:c.short)(hs:size D≤1000000)(hTl:∀g,T g→g<w.heap.size) :
 Calls Tryz.prog 68 #[.map (some b),.agg l.toArray] w fun e w'=>e = .returned (.tuple #[])∧za (zq3 b) w w'∧zbA w' T b (c.on D):=by
 cases c with
 |write n bytes =>
  obtain⟨v,rfl,hv⟩:=hc;exact zjh T b D n bytes v w hm hT hv hs hn hTl
 |rename n m =>
  subst hc;cases hh:zz D n with
  |true =>
   have e:(Chg.rename n m).on D=zcz (zcp D n) m (zat D n):=by show(if zz D n then _ else _)=_;rw[if_pos hh]
   rw[e];exact zhj T b D n m w hm hT hs hn.1 hn.2 hTl hh
  |false =>
   have e:(Chg.rename n m).on D=D:=by show(if zz D n then _ else _)=_;rw[if_neg (by rw[hh];decide)]
   rw[e];exact zhk T b D n m w hm hT hs hn.1 hn.2 hTl hh
 |remove n =>
  subst hc;cases hh:zz D n with
  |true =>
   have e:(Chg.remove n).on D=zcp D n:=by show(if zz D n then _ else _)=_;rw[if_pos hh]
   rw[e];exact zhh T b D n w hm hT hs hn hTl hh
  |false =>
   have e:(Chg.remove n).on D=D:=by show(if zz D n then _ else _)=_;rw[if_neg (by rw[hh];decide)]
   rw[e];exact zhi T b D n w hm hT hs hn hTl hh
theorem zq.doSure {F T:Nat→Prop}{w w2:World}{p s h:Nat}{pv:Value}{X:Dk}{D:Fl}(d:zq F T w p s h pv X)(k:za (zq3 s) w w2)(m:zbA w2 T s D):zq F T w2 p s h pv { X with sure:=D }:=by
 obtain⟨a1,a2,a3,a4⟩:=d.apart;obtain⟨o1,o2,o3,o4,o5⟩:=d.outT;have hT:=zq3.notT o2;exact⟨k.at d.blk (fun e=>a2 e),m,d.shown.keep k (fun e=>a1 (Eq.symm e)) hT (fun _ e=>e),d.pend.keep k hT (fun g e e'=>(a4 g e).2.1 e') (fun _ e=>e),d.inF,d.apart,⟨o1,o2,o3,o4,fun g e=>k.lt (o5 g e)⟩,d.room⟩
theorem znu (F T:Nat→Prop)(p s h gv ov vc:Nat)(pv:Value)(k0 k1:Bool)(c:Chg)(X:Dk)(w:World)(d:zq F T w p s h pv X)(hp:X.pend = [c])(hc:c.short)(hs:size X.sure≤1000000)(hv0:w.cell? ⟨gv,ov,none⟩=some (.bool k0)) :
 Calls Tryz.prog 32 #[.pointer (some ⟨p,0,none⟩),.slice (some ⟨gv,ov,none⟩) 2 vc] w fun e w'=>e = .returned (.tuple #[])∧CutTo F w p X (if k0 then c.on X.sure else X.sure) w':=by
 have D:=zz0 d;obtain⟨xs,ho,hl,hx⟩:=d.pend;have h1:X.pend.length=1:=by rw[hp];rfl
 obtain⟨l,hxs⟩:∃l,xs = [l]:=by
  rw[h1] at hl
  match xs,hl with
  |[l],_=>exact⟨l,rfl⟩
 subst hxs;have hcl:ChgV w T c l:=hx 0 c l (by rw[hp];rfl) rfl
 obtain⟨ck,cn,cm,ca,cb,cz,rfl⟩:=znn hcl;rw[h1] at ho;obtain⟨pg,pc,rfl,hcells⟩:∃pg pc,pv = .slice (some ⟨pg,0,none⟩) 1 pc∧∀(j:Nat) u,[.int .i64 ck,.string cn,.string cm,.slice ca cb cz][j]? = some u→w.cell? ⟨pg,j,none⟩=some u:=by
  rcases ho.2 with ⟨_,hn⟩|⟨g,cap,cur,e,_⟩
  ·omega
  ·refine⟨g,cap,e,fun j u hu=>?_⟩
   have:=World.ownsRow.cells ho (g:=g) (by rw[e];rfl) j u (by simpa using hu)
   rwa [zag,Nat.zero_add] at this
 have y0:=hcells 0 _ rfl;have y1:=hcells 1 _ rfl;have y2:=hcells 2 _ rfl;have y3:=hcells 3 _ rfl;have c3:=dk_3 d.blk;have kb:za zq2 w (w.alloc (.cells #[.int .i64 ck,.string cn,.string cm,.slice ca cb cz] 139)):=(za.refl _ _).alloc _;have KB:=zz0 kb;have d1:=d.keep kb (fun _ _ e=>e)
 have D1:=zz0 d1;have hcl1:=zz0 (hcl.keep kb (fun _ _ e=>e) (fun _ e=>e))
 have hw:w.cell? ⟨w.heap.size,0,none⟩=none:=by simp[World.cell?]
 have B1:(w.alloc (.cells #[.int .i64 ck,.string cn,.string cm,.slice ca cb cz] 139)).heap[w.heap.size]? = some (.cells #[.int .i64 ck,.string cn,.string cm,.slice ca cb cz] 139):=ze w _;have z0:(w.alloc (.cells #[.int .i64 ck,.string cn,.string cm,.slice ca cb cz] 139)).cell? ⟨w.heap.size,0,none⟩=some (.int .i64 ck):=World.cell?_alloc_new _ _ _ 0;have z1:(w.alloc (.cells #[.int .i64 ck,.string cn,.string cm,.slice ca cb cz] 139)).cell? ⟨w.heap.size,1,none⟩=some (.string cn):=World.cell?_alloc_new _ _ _ 1;have z2:(w.alloc (.cells #[.int .i64 ck,.string cn,.string cm,.slice ca cb cz] 139)).cell? ⟨w.heap.size,2,none⟩=some (.string cm):=World.cell?_alloc_new _ _ _ 2;have z3:(w.alloc (.cells #[.int .i64 ck,.string cn,.string cm,.slice ca cb cz] 139)).cell? ⟨w.heap.size,3,none⟩=some (.slice ca cb cz):=World.cell?_alloc_new _ _ _ 3;have v1:(w.alloc (.cells #[.int .i64 ck,.string cn,.string cm,.slice ca cb cz] 139)).cell? ⟨gv,ov,none⟩=some (.bool k0):=(World.cell?_alloc_some _ _ _ (by rw[hv0];rfl)).trans hv0
 have c1:=dk_1 d1.blk;clear ho hl hx hp h1 hcl hcells kb hw B1 hv0;cases k0 with
 |false =>
  obtain⟨es,clock,hes,m1,m2⟩:=zcs d1.sure;have HES:=zz0 hes;have M1:=zz0 m1;have M2:=zz0 m2;have b2:=zi d1.blk (.map es clock);have f2:=dk_f b2 2;have e2:=dk_2 b2;have b3:=zgt b2 (w.heap.size+1);have f3:=dk_f b3 3;have e3:=dk_3 b3;have b4:=zcW b3 (.slice none 0 0);have f5:=dk_f b4 5;have e5:=dk_5 b4;clear d d1 m1 m2 b2 b3 b4
  go_enter Tryz.func32,Tryz.ntmps32
  go_wp2_with fail
  refine wp_loop_rounds 2 ?_;rw[rounds_succ]
  go_wp2_with fail
  rw[rounds_succ]
  go_wp2_with(go_at_call 69;refine(zcc s es clock _ hes).mono ?_;rintro e w2 ⟨rfl,rfl⟩)
  go_end0
  have q:=zie (KB.out.ofNon) D.out D1.out ⟨rfl,rfl⟩ HES.out M1.out M2.out;rw[show(w.alloc (.cells #[.int .i64 ck,.string cn,.string cm,.slice ca cb cz] 139)).heap.size=w.heap.size+1 by simp] at q
  exact⟨rfl,q⟩
 |true =>
  clear d d1
  go_enter Tryz.func32,Tryz.ntmps32
  go_wp2_with fail
  refine wp_loop_rounds 2 ?_;rw[rounds_succ]
  go_wp2_with fail
  have T0:=zz0 (fun g (e:T g)=>KB.out.lt (D.out.outT.2.2.2.2 g e))
  have MSd:=zz0 (zbA.keep D1.out.sure ((za.refl zq2 _).drew) (fun e=>e) (fun _ _ e=>e) (fun _ e=>e))
  have CLd:=zz0 (hcl1.out.keep ((za.refl zq2 _).drew) (fun _ _ e=>e) (fun _ e=>e))
  go_region_with (go_at_call 68;refine(zqE T s X.sure c [.int .i64 ck,.string cn,.string cm,.slice ca cb cz] _ MSd.out D.out.outT.2.1 CLd.out hc hs (fun g e=>T0.out g e)).mono ?_;rintro e w2 ⟨rfl,k2,m2⟩;have K2:=zz0 (zR k2);have M2:=zz0 m2;clear k2 m2)
  all_goals
   have d2:=zq.doSure D1.out K2.out M2.out;have D2:=zz0 d2;obtain⟨es,clock,hes,m1,m2⟩:=zcs d2.sure;have HES:=zz0 hes;have N1:=zz0 m1;have N2:=zz0 m2;have c12:=dk_1 d2.blk;have b2:=zi d2.blk (.map es clock);have f2:=dk_f b2 2;have e2:=dk_2 b2;have b3:=zgt b2 w2.heap.size;have f3:=dk_f b3 3;have e3:=dk_3 b3;have b4:=zcW b3 (.slice none 0 0);have f5:=dk_f b4 5;have e5:=dk_5 b4;clear d2 m1 m2 b2 b3 b4
   go_wp2_with fail
   rw[rounds_succ]
   go_wp2_with(go_at_call 69;refine(zcc s es clock _ hes).mono ?_;rintro e w3 ⟨rfl,rfl⟩)
   go_end0
   exact⟨rfl,zie ((KB.out.ofNon).trans1 K2.out) D.out D2.out ⟨rfl,rfl⟩ HES.out N1.out N2.out⟩
theorem znt (F:Nat→Prop)(p gv ov vc:Nat)(k0 k1:Bool)(X:Dk)(w:World)(d:zQ F w p X)(hp:X.pend = []∨∃c,X.pend = [c]∧c.short)(hs:size X.sure≤1000000)(hv0:w.cell? ⟨gv,ov,none⟩=some (.bool k0)) :
 Calls Tryz.prog 32 #[.pointer (some ⟨p,0,none⟩),.slice (some ⟨gv,ov,none⟩) 2 vc] w fun e w'=>e = .returned (.tuple #[])∧CutTo F w p X (keepC k0 k1 X.pend X.sure) w':=by
 obtain⟨T,s,h,pv,d⟩:=d;rcases hp with hp|⟨c,hp,hc⟩
 ·have:=zhe F T p s h pv (some ⟨gv,ov,none⟩) vc X w d hp 2
  rw[hp];exact this
 ·have:=znu F T p s h gv ov vc pv k0 k1 c X w d hp hc hs hv0
  rw[hp];exact this
theorem zii (F:Nat→Prop)(p:Nat)(X:Dk)(w:World)(d:zQ F w p X)(hd:X.down=true)(hp:X.pend = []) :
 Calls Tryz.prog 30 #[.pointer (some ⟨p,0,none⟩)] w fun e w'=>e = .returned (.tuple #[])∧zaW F w p { X with shown:=X.sure,fuse:=-1,down:=false } w':=by
 obtain⟨T,s,h,pv,d⟩:=d;have CU:=zz0 (zhe F T p s h pv none 0 X w d hp 0);have c5:=dk_5 d.blk;rw[hd] at c5;have HP:=zz0 hp;clear d hd hp
 go_enter Tryz.func30,Tryz.ntmps30
 go_wp2_with(go_at_call 32;refine CU.out.mono ?_;rintro e w1 ⟨rfl,k1,F1,u1,T1,s1,h1,pv1,d1⟩;have K1:=zz0 k1;have U1:=zz0 u1;have D1:=zz0 d1;have f5:=dk_f d1.blk 5;have e5:=dk_5 d1.blk;have B5:=ze1 d1.blk false;have f4:=dk_f B5 4;have e4:=dk_4 B5;clear k1 u1 d1 B5)
 have D2:=D1.out.turn (i:=5) (u:=.bool false) (Y:=Dk.mk X.room X.sure X.sure [] X.fuse false) (ze1 D1.out.blk false) rfl rfl rfl rfl;have D3:=D2.2.turn (i:=4) (u:=.int .i64 (-1)) (Y:=Dk.mk X.room X.sure X.sure [] (-1) false) (zgu D2.2.blk (-1)) rfl rfl rfl rfl
 go_end0
 refine⟨rfl,K1.out.trans (zcK D1.out (D2.1.trans1 D3.1)) (fun _ _ e=>e) (fun g hg e=>?_),F1,U1.out,T1,s1,h1,pv1,?_⟩
 ·exact(U1.out g e).resolve_right (by omega)
 ·rw[HP.out]
  exact D3.2
structure It where
 n:Nat
 p:Nat
 f:Nat
 u:Nat
def itOne (num mk n i:Nat)(p:Pt):List It:=if max p.first mk<min (p.first+p.many) n then [⟨num,i,max p.first mk,min (p.first+p.many) n⟩] else []
def itPs (num mk n:Nat):Nat→List Pt→List It
 |_,[]=>[]
 |i,p::r=>itOne num mk n i p++itPs num mk n (i+1) r
def zdf (mk n:Nat):List Mf→List It
 |[]=>[]
 |m::r=>itPs m.num mk n 0 m.parts++zdf mk n r
theorem zht (num mk n:Nat)(p:Pt):∀(ps:List Pt)(i:Nat),itPs num mk n i (ps ++ [p])=itPs num mk n i ps++itOne num mk n (i+ps.length) p
 |[],i=>by simp[itPs]
 |q::r,i=>by
  show itOne num mk n i q++itPs num mk n (i+1) (r ++ [p])=(itOne num mk n i q++itPs num mk n (i+1) r)++_
  rw[zht num mk n p r (i+1),List.append_assoc,List.length_cons];rw[show i+1+r.length=i+(r.length+1) by omega]
theorem ze9 (mk n:Nat)(m:Mf):∀(ms:List Mf),zdf mk n (ms ++ [m])=zdf mk n ms++itPs m.num mk n 0 m.parts
 |[]=>by simp[zdf]
 |q::r=>by
  show itPs q.num mk n 0 q.parts++zdf mk n (r ++ [m])=(itPs q.num mk n 0 q.parts++zdf mk n r)++_
  rw[ze9 mk n m r,List.append_assoc]
theorem zgH (num mk n:Nat):∀(ps:List Pt)(i:Nat),(itPs num mk n i ps).length≤ps.length
 |[],_=>Nat.zero_le _
 |p::r,i=>by
  have h1:=zgH num mk n r (i+1);have h2:(itOne num mk n i p).length≤1:=by unfold itOne;split<;>simp
  show(itOne num mk n i p++itPs num mk n (i+1) r).length≤r.length+1
  rw[List.length_append];omega
theorem zgG (mk n:Nat):∀(ms:List Mf),(∀m ∈ ms,m.parts.length≤4)→(zdf mk n ms).length≤4*ms.length
 |[],_=>Nat.zero_le _
 |m::r,h=>by
  have h1:=zgG mk n r (fun y hy=>h y (List.mem_cons_of_mem _ hy))
  have h2:=h m (by simp)
  have h3:=zgH m.num mk n m.parts 0;show(itPs m.num mk n 0 m.parts++zdf mk n r).length≤4*(r.length+1);rw[List.length_append];omega
def Tile:Nat→Nat→List It→Prop
 |s,e,[]=>e≤s
 |s,e,i::r=>i.f=s∧s<i.u∧i.u≤e∧Tile i.u e r
theorem Tile.empty {s e:Nat}{l:List It}(h:Tile s e l)(he:e≤s):l = []:=by
 cases l with
 |nil=>rfl
 |cons i r =>
  obtain⟨h1,h2,h3,_⟩:=h;omega
theorem Tile.app {m e:Nat}{l2:List It}(hme:m≤e):∀(l1:List It)(x:Nat),Tile x m l1→(∀y,x≤y→m≤y→(y=x∨y=m)→Tile y e l2)→Tile x e (l1++l2)
 |[],x,h,k=>k x (Nat.le_refl _) h (.inl rfl)
 |i::r,x,h,k=>by
  obtain⟨h1,h2,h3,h4⟩:=h;refine⟨h1,h2,Nat.le_trans h3 hme,Tile.app hme r i.u h4 (fun y a b c=>k y (by omega) b (.inr ?_))⟩
  rcases c with c|c
  ·omega
  ·exact c
def TileB (mk n lo hi:Nat)(l:List It):Prop:=Tile (max lo mk) (min hi n) l
theorem TileB.app {mk n lo mid hi:Nat}{l1 l2:List It}(h1:TileB mk n lo mid l1)(h2:TileB mk n mid hi l2)(a:lo≤mid)(b:mid≤hi):TileB mk n lo hi (l1++l2):=by
 refine Tile.app (by omega) l1 _ h1 (fun y y1 y2 y3=>?_)
 by_cases c:y=max mid mk
 ·rw[c];exact h2
 ·have h3:min hi n≤max mid mk∧min hi n≤y:=by rcases y3 with y3|y3<;>omega
  rw[Tile.empty h2 h3.1];exact h3.2
theorem zkh (num mk n i:Nat)(p:Pt):TileB mk n p.first (p.first+p.many) (itOne num mk n i p):=by
 unfold itOne TileB
 split
 ·rename_i h
  exact⟨rfl,h,Nat.le_refl _,Nat.le_refl _⟩
 ·rename_i h
  show min _ _≤max _ _
  omega
theorem zcX:∀(ps:List Pt)(lo:Nat),lo≤zp lo ps
 |[],_=>Nat.le_refl _
 |p::r,lo=>Nat.le_trans (Nat.le_add_right _ _) (zcX r (lo+p.many))
theorem zhu (num mk n:Nat):∀(ps:List Pt)(lo i:Nat),okPts lo ps→TileB mk n lo (zp lo ps) (itPs num mk n i ps)
 |[],lo,i,_=>by
  show min lo n≤max lo mk
  omega
 |p::r,lo,i,h=>by
  obtain⟨h1,h2,h3⟩:=h;have a:=zkh num mk n i p;rw[h1] at a;exact TileB.app a (zhu num mk n r (lo+p.many) (i+1) h3) (by omega) (zcX _ _)
theorem zby {α:Type}{l:List α}{k:Nat}{x:α}(h:l[k]? = some x):l.take (k+1)=l.take k ++ [x]:=by
 rw[List.take_add_one,h]
 rfl
theorem zhs {C:Nat→Cl}{D:Fl}{ms:List Mf}(h:TB C D ms)(mk n:Nat):∀k,k≤ms.length→TileB mk n 0 (zbr (ms.take k)) (zdf mk n (ms.take k))
 |0,_=>by
  show min _ n≤max 0 mk
  have e:zbr (ms.take 0)=0:=rfl;rw[e];omega
 |k+1,hk=>by
  obtain⟨m,hm⟩:∃m,ms[k]? = some m:=⟨_,List.getElem?_eq_getElem (by omega)⟩
  have ih:=zhs h mk n k (by omega)
  obtain⟨ok,fo,_,_⟩:=h.ok k m hm;have hlo:m.lo=zbr (ms.take k):=by
   by_cases e:ms.take k = []
   ·rw[e]
    have e0:k=0:=by
     have:=congrArg List.length e;rw[List.length_take,List.length_nil] at this;omega
    rw[h.zero m (by rw[←e0];exact hm)]
    rfl
   ·exact(fo.2 e).2.1
  rw[zby hm,ze9];have e2:zbr (ms.take k ++ [m])=m.hi:=by unfold zbr;rw[zbn]
  rw[e2,←ok.stop];have hp:=zhu m.num mk n m.parts m.lo 0 ok.parts;rw[←hlo] at ih;exact TileB.app ih hp (Nat.zero_le _) (zcX _ _)
theorem zjm {num mk n:Nat}{it:It}:∀(ps:List Pt)(i:Nat),it ∈ itPs num mk n i ps→it.n=num∧it.f<it.u∧∃(j:Nat)(p:Pt),ps[j]? = some p∧it.p=i+j∧p.first≤it.f∧it.u≤p.first+p.many
 |[],_,h=>by simp[itPs] at h
 |p::r,i,h=>by
  rcases List.mem_append.1 h with h|h
  ·unfold itOne at h
   split at h
   ·rename_i hc
    rw[List.mem_singleton.1 h];exact⟨rfl,hc,0,p,rfl,rfl,by show p.first≤max p.first mk;omega,by show min _ n≤_;omega⟩
   ·simp at h
  ·obtain⟨a1,a2,j,q,a3,a4,a5⟩:=zjm r (i+1) h
   exact⟨a1,a2,j+1,q,a3,by omega,a5⟩
theorem zjl {mk n:Nat}{it:It}:∀(ms:List Mf),it ∈ zdf mk n ms→∃m ∈ ms,it ∈ itPs m.num mk n 0 m.parts
 |[],h=>by simp[zdf] at h
 |m::r,h=>by
  rcases List.mem_append.1 h with h|h
  ·exact⟨m,by simp,h⟩
  ·obtain⟨q,a,b⟩:=zjl r h
   exact⟨q,List.mem_cons_of_mem _ a,b⟩
theorem zqH {C:Nat→Cl}{D:Fl}{ms:List Mf}(h:TB C D ms){mk n:Nat}{it:It}(hi:it ∈ zdf mk n ms):it.f<it.u∧∃m f,ms[it.n]? = some m∧it.p<m.parts.length∧m.parts[it.p]? = some (zaI f (zbp C m.hi f))∧f=m.lo+64*it.p∧f<m.hi∧f≤it.f∧it.u≤f+(zbp C m.hi f).length∧zz D (zt it.n it.p)=true∧zat D (zt it.n it.p)=zaC f (zbp C m.hi f):=by
 obtain⟨m,hm,hq⟩:=zjl ms hi;obtain⟨a1,a2,j,p,a3,a4,a5,a6⟩:=zjm m.parts 0 hq;obtain⟨k,hk,rfl⟩:=List.getElem_of_mem hm;have hk2:ms[k]? = some ms[k]:=List.getElem?_eq_getElem hk;have hnum:(ms[k]).num=k:=by
  have:=(h.ok k _ hk2).2.1.1;rw[this,List.length_take];omega
 have hn:it.n=k:=by rw[a1,hnum]
 have hp:it.p=j:=by omega
 have hjl:=zr a3;obtain⟨c1,c2,c3,c4⟩:=h.cont k _ hk2 j hjl;rw[c2] at a3;injection a3 with a3
 rw[←a3] at a5 a6;refine⟨a2,ms[k],(ms[k]).lo+64*j,by rw[hn];exact hk2,by rw[hp];exact hjl,by rw[hp];exact c2,by rw[hp],c1,a5,a6,by rw[hn,hp];exact c3,by rw[hn,hp];exact c4⟩
theorem zlD {pre rest:List It}{i:It}{t:Nat}(h:∀x ∈ pre,x.u≤t)(h2:t<i.u):(pre++i::rest).find? (fun x=>decide (t<x.u))=some i:=by
 rw[List.find?_append];have e:pre.find? (fun x=>decide (t<x.u))=none:=by
  rw[List.find?_eq_none];intro x hx;have:=h x hx;simp;omega
 rw[e,List.find?_cons_of_pos (by simpa using h2)]
 rfl
theorem zin {l:List It}{t:Nat}(h:∀x ∈ l,x.u≤t):l.find? (fun x=>decide (t<x.u))=none:=by
 rw[List.find?_eq_none];intro x hx;have:=h x hx;simp;omega
def whoM (ms:List Mf)(n:Nat):Mf:=(ms.find? (fun m=>decide (n≤m.hi))).getD mf0
def zcI (ms:List Mf)(n:Nat):Nat:=min (whoM ms n).trim n
end Go.Proofs.YtpojgmeoaflmoaaGreatDoor
namespace Go.Proofs.YtpojgmeoaflmoaaGreatDoor
open Go.RowKit
def zcm (w:World)(v:Value)(its:List It):Prop:=∃a c,v = .slice a its.length c∧∀(j:Nat) it,its[j]? = some it→∃g off,a=some ⟨g,off,none⟩∧ItAt w ⟨g,off+j*4,none⟩ it.n it.p it.f it.u
theorem zcm.keep {S:Nat→Prop}{w w':World}{v:Value}{its:List It}(h:zcm w v its)(k:za S w w')(hn:∀g,v.ownBlock=some g→¬S g):zcm w' v its:=by
 obtain⟨a,c,rfl,hx⟩:=h;refine⟨a,c,rfl,fun j it hj=>?_⟩
 obtain⟨g,off,rfl,hi⟩:=hx j it hj;exact⟨g,off,rfl,hi.keep k (hn g rfl)⟩
theorem zcm.keepNon {w w':World}{v:Value}{its:List It}(h:zcm w v its)(k:za zq2 w w'):zcm w' v its:=h.keep k (fun _ _ e=>e)
theorem zcm.at {w:World}{g off c n:Nat}{its:List It}(h:zcm w (.slice (some ⟨g,off,none⟩) n c) its){j:Nat}{it:It}(hj:its[j]? = some it):w.cell? ⟨g,off+j*4,none⟩=some (.int .i64 it.n)∧w.cell? ⟨g,off+j*4+1,none⟩=some (.int .i64 it.p)∧w.cell? ⟨g,off+j*4+2,none⟩=some (.int .i64 it.f)∧w.cell? ⟨g,off+j*4+3,none⟩=some (.int .i64 it.u):=by
 obtain⟨a,c',e,hx⟩:=h;injection e with e1 e2 e3
 subst e1;obtain⟨g',off',e,g2,o2,e4,h0,h1,h2,h3⟩:=hx j it hj;injection e with e
 injection e with e5 e6
 injection e4 with e7 e8
 subst e5;subst e6;subst e7;subst e8;exact⟨h0,h1,h2,h3⟩
def idxI (its:List It)(t:Nat):Int:=match its.findIdx? (fun x=>decide (t<x.u)) with
 |some j=>(j:Int)
 |none=>-1
theorem zlO {its:List It}{t j:Nat}{it:It}(h:∀k x,k<j→its[k]? = some x→¬t<x.u)(hj:its[j]? = some it)(ht:t<it.u):idxI its t=j:=by
 have e:its.findIdx? (fun x=>decide (t<x.u))=some j:=by
  rw[List.findIdx?_eq_some_iff_getElem];have hl:=zr hj;rw[List.getElem?_eq_getElem hl] at hj;injection hj with hj
  refine⟨hl,by rw[hj];simpa using ht,fun k hk=>?_⟩
  have:=h k _ hk (List.getElem?_eq_getElem (by omega))
  simpa using this
 unfold idxI;rw[e]
theorem zlN {its:List It}{t:Nat}(h:∀k x,k<its.length→its[k]? = some x→¬t<x.u):idxI its t = -1:=by
 have e:its.findIdx? (fun x=>decide (t<x.u))=none:=by
  rw[List.findIdx?_eq_none_iff];intro x hx;obtain⟨k,hk,rfl⟩:=List.getElem_of_mem hx;have:=h k _ hk (List.getElem?_eq_getElem hk);simpa using this
 unfold idxI;rw[e]
theorem zn7 (its:List It)(t g:Nat)(v:Value)(w:World)(h:w.heap[g]? = some (NB t))(hi:zcm w v its)(hl:its.length≤1000) :
 Calls Tryz.prog 254 #[v,.func (.func 200) #[] #[.pointer (some ⟨g,0,none⟩)]] w fun e w'=>e = .returned (.int .i64 (idxI its t))∧za zq2 w w':=by
 have HG:=zz0 h;have H:=zz0 hi;have en:=zh8;obtain⟨a,c,rfl,hx⟩:=hi;clear h hx
 go_enter Tryz.func254,Tryz.ntmps254
 go_wp2_with fail
 go_loopw [8] (fun i wr=>∃j:Nat,j≤its.length∧i = .int .i64 j∧(∀(k:Nat) x,k<j→its[k]? = some x→¬t<x.u)∧za zq2 w wr) (fun i _=>its.length-(intOf i).toNat)
 case atStart=>exact⟨0,by omega,rfl,fun k x hk=>by omega,za.refl _ _⟩
 case round =>
  obtain⟨j,hj,rfl,hpast,hk⟩:=hrel;have HK:=zz0 hk;have HP:=zz0 hpast;by_cases hlt:j<its.length
  ·have hlj:(j:Int)<(its.length:Int):=by omega
   have hji:its[j]? = some its[j]:=List.getElem?_eq_getElem hlt;obtain⟨a1,c1,e1,hx⟩:=H.out.keepNon hk;injection e1 with e1 e3 e4
   subst e1;subst e4;obtain⟨g1,off,rfl,_⟩:=hx j _ hji;obtain⟨h0,h1,h2,h3⟩:=(H.out.keepNon hk).at hji;have HJ:=zz0 hji;generalize its[j]=y at h0 h1 h2 h3 HJ;have AF:=zz0 (zkq y.n y.p y.f y.u t g wr (atNon hk HG.out));unfold itV at AF;clear hx hk hpast hji;by_cases hlu:t<y.u
   ·rw[decide_eq_true hlu] at AF
    go_wp2_with(go_at_call 200;refine AF.out.mono ?_;rintro e w1 ⟨rfl,k1⟩)
    go_ret;exact⟨by rw[zlO HP.out HJ.out hlu];rfl,HK.out.trans1 k1⟩
   ·rw[decide_eq_false hlu] at AF
    go_wp2_with(go_at_call 200;refine AF.out.mono ?_;rintro e w1 ⟨rfl,k1⟩;have K1:=zz0 k1;clear k1)
    refine⟨⟨j+1,by omega,by first|rfl|go_num,fun k x hk2 hx2=>?_,HK.out.trans1 K1.out⟩,by simp[intOf];omega⟩
    rcases Nat.lt_or_ge k j with q|q
    ·exact HP.out k x q hx2
    ·obtain rfl:k=j:=by omega
     have:=HJ.out;rw[hx2] at this;injection this with this
     rw[this];exact hlu
  ·obtain rfl:j=its.length:=by omega
   clear hk hpast
   go_wp2_with fail
   go_ret;exact⟨by rw[zlN HP.out];rfl,HK.out⟩
def fndI (its:List It)(t:Nat):Option It:=its.find? (fun x=>decide (t<x.u))
def fndV (its:List It)(t:Nat):Value:=match fndI its t with
 |some x=>itV x.n x.p x.f x.u
 |none=>itV 0 0 0 0
theorem zlG (its:List It)(t:Nat):(∃(j:Nat)(x:It),fndI its t=some x∧its[j]? = some x∧t<x.u∧idxI its t=j)∨(fndI its t=none∧idxI its t = -1):=by
 unfold fndI idxI;cases e:its.findIdx? (fun x=>decide (t<x.u)) with
 |none =>
  right
  refine⟨?_,rfl⟩;rw[List.find?_eq_none];intro x hx;have:=(List.findIdx?_eq_none_iff.1 e) x hx;simpa using this
 |some j =>
  left
  obtain⟨hl,h1,h2⟩:=List.findIdx?_eq_some_iff_getElem.1 e;refine⟨j,its[j],?_,List.getElem?_eq_getElem hl,by simpa using h1,rfl⟩
  rw[List.find?_eq_some_iff_getElem];exact⟨h1,j,hl,rfl,fun k hk=>by have:=h2 k hk;simpa using this⟩
theorem zkt (N B M t g:Nat)(its:List It)(v:Value)(w:World)(h:w.heap[g]? = some (NB t))(hi:zcm w v its)(hl:its.length≤1000) :
 Calls Tryz.prog 199 #[.agg #[.int .i64 N,.int .i64 B,.int .i64 M,v],.func (.func 200) #[] #[.pointer (some ⟨g,0,none⟩)]] w fun e w'=>e = .returned (.tuple #[fndV its t,.bool (fndI its t).isSome])∧za zq2 w w':=by
 have kA:za zq2 w ((w.alloc (PlB N B M v)).alloc (ItB 0 0 0 0)):=((za.refl _ _).alloc _).alloc _;have IXA:=zz0 (zn7 its t g v _ (atNon kA h) (hi.keepNon kA) hl);have HI:=zz0 hi;have RB:Hid (((w.alloc (PlB N B M v)).alloc (ItB 0 0 0 0)).heap[w.heap.size+1]? = some (ItB 0 0 0 0)):=zz0 (by have:=ze (w.alloc (PlB N B M v)) (ItB 0 0 0 0);simpa using this)
 have PB:=zz0 (zi (ze w (PlB N B M v)) (ItB 0 0 0 0));obtain⟨a,c,rfl,hx⟩:=id hi;clear hi h;have q3:=pl_3 PB.out;have KA:=zz0 kA;clear kA;dsimp only[PlB,ItB] at q3 IXA;rcases zlG its t with ⟨j,x,hf,hj,hlt,hidx⟩|⟨hf,hidx⟩
 ·have hjl:=zr hj
  have e1:fndV its t=itV x.n x.p x.f x.u:=by unfold fndV;rw[hf]
  rw[hidx] at IXA;rw[e1,hf];obtain⟨g1,off,rfl,_⟩:=hx j x hj;have HJ:=zz0 hj;clear hx hf e1 hidx;unfold itV;have hnj:¬(j:Int)<0:=by omega
  have hlj:(j:Int)<(its.length:Int):=by omega
  go_enter Tryz.func199,Tryz.ntmps199
  go_wp2_with(go_at_call 254;refine IXA.out.mono ?_;rintro e w1 ⟨rfl,k1⟩;have k1':=KA.out.trans1 k1;have c3:=pl_3 (atNon k1 PB.out);obtain⟨h0,h1,h2,h3⟩:=(HI.out.keepNon k1').at HJ.out;obtain⟨b0,b1,b2,b3,f0,f1,f2,f3,r4,k4⟩:=zfa (atNon k1 RB.out) x.n x.p x.f x.u;have R4:=zz0 r4;have K4:=zz0 k4;have K1:=zz0 k1';clear k1 k1' r4 k4)
  refine bodyPost_ret (v:=.tuple #[itV x.n x.p x.f x.u,.bool true]) (by simp[results,Tryz.results199,go_sem,it_0 R4.out,it_1 R4.out,it_2 R4.out,it_3 R4.out,itV]) rfl ?_
  exact⟨rfl,K1.out.trans K4.out (fun _ _ e=>e) (fun g' hg e=>by have e':g'=w.heap.size+1:=e;omega)⟩
 ·have e1:fndV its t=itV 0 0 0 0:=by unfold fndV;rw[hf]
  rw[hidx] at IXA;rw[e1,hf];clear hx hf e1 hidx;unfold itV
  go_enter Tryz.func199,Tryz.ntmps199
  go_wp2_with(go_at_call 254;refine IXA.out.mono ?_;rintro e w1 ⟨rfl,k1⟩;have k1':=KA.out.trans1 k1;obtain⟨b0,b1,b2,b3,f0,f1,f2,f3,r4,k4⟩:=zfa (atNon k1 RB.out) 0 0 0 0;have R4:=zz0 r4;have K4:=zz0 k4;have K1:=zz0 k1';clear k1 k1' r4 k4)
  have r:=And.intro (it_0 R4.out) (And.intro (it_1 R4.out) (And.intro (it_2 R4.out) (it_3 R4.out)));rw[show((0:Nat):Int)=0 from rfl] at r
  obtain⟨r0,r1,r2,r3⟩:=r;refine bodyPost_ret (v:=.tuple #[itV 0 0 0 0,.bool false]) (by simp[results,Tryz.results199,go_sem,itV,r0,r1,r2,r3]) rfl ?_
  exact⟨rfl,K1.out.trans K4.out (fun _ _ e=>e) (fun g' hg e=>by have e':g'=w.heap.size+1:=e;omega)⟩
theorem zgb (N B M t:Nat)(its:List It)(v:Value)(w:World)(hi:zcm w v its)(hl:its.length≤1000) :
 Calls Tryz.prog 133 #[.agg #[.int .i64 N,.int .i64 B,.int .i64 M,v],.int .i64 t] w fun e w'=>e = .returned (.tuple #[fndV its t,.bool (fndI its t).isSome])∧za zq2 w w':=by
 have kA:za zq2 w (((w.alloc (PlB N B M v)).alloc (NB t)).alloc (ItB 0 0 0 0)):=(((za.refl _ _).alloc _).alloc _).alloc _;have kB:za zq2 (w.alloc (PlB N B M v)) (((w.alloc (PlB N B M v)).alloc (NB t)).alloc (ItB 0 0 0 0)):=((za.refl _ _).alloc _).alloc _;have kC:za zq2 ((w.alloc (PlB N B M v)).alloc (NB t)) (((w.alloc (PlB N B M v)).alloc (NB t)).alloc (ItB 0 0 0 0)):=(za.refl _ _).alloc _;have hg:(((w.alloc (PlB N B M v)).alloc (NB t)).alloc (ItB 0 0 0 0)).heap[w.heap.size+1]? = some (NB t):=atNon kC (by have:=ze (w.alloc (PlB N B M v)) (NB t);simpa using this)
 have FI:=zz0 (zkt N B M t (w.heap.size+1) its v _ hg (hi.keepNon kA) hl);have P:=atNon kB (ze w (PlB N B M v));have RB:Hid ((((w.alloc (PlB N B M v)).alloc (NB t)).alloc (ItB 0 0 0 0)).heap[w.heap.size+2]? = some (ItB 0 0 0 0)):=zz0 (by have:=ze ((w.alloc (PlB N B M v)).alloc (NB t)) (ItB 0 0 0 0);simpa using this)
 obtain⟨a,c,rfl,hx⟩:=hi;clear hx;have q0:=pl_0 P;have q1:=pl_1 P;have q2:=pl_2 P;have q3:=pl_3 P;have KA:=zz0 kA;clear kA kB kC hg P;dsimp only[PlB,ItB,NB] at q0 q1 q2 q3 FI;have hv:∃n p f u:Nat,fndV its t=itV n p f u:=by
  unfold fndV;cases fndI its t with
  |none=>exact⟨0,0,0,0,rfl⟩
  |some x=>exact⟨x.n,x.p,x.f,x.u,rfl⟩
 obtain⟨n,p,f,u,hv⟩:=hv;rw[hv] at FI ⊢;generalize (fndI its t).isSome=is at FI ⊢;unfold itV at FI ⊢
 go_enter Tryz.func133,Tryz.ntmps133
 go_wp2_with(go_at_call 199;refine FI.out.mono ?_;rintro e w1 ⟨rfl,k1⟩;have k1':=KA.out.trans1 k1;obtain⟨b0,b1,b2,b3,f0,f1,f2,f3,r4,k4⟩:=zfa (atNon k1 RB.out) n p f u;have R4:=zz0 r4;have K4:=zz0 k4;have K1:=zz0 k1';clear k1 k1' r4 k4)
 refine bodyPost_ret (v:=.tuple #[itV n p f u,.bool is]) (by simp[results,Tryz.results133,go_sem,it_0 R4.out,it_1 R4.out,it_2 R4.out,it_3 R4.out,itV]) rfl ?_
 exact⟨rfl,K1.out.trans K4.out (fun _ _ e=>e) (fun g' hg e=>by have e':g'=w.heap.size+2:=e;omega)⟩
end Go.Proofs.YtpojgmeoaflmoaaGreatDoor
namespace Go.Proofs.YtpojgmeoaflmoaaGreatDoor
open Go.RowKit Go.Maps
theorem zkT (x b lb q N B M t n p f u:Nat)(ia:Option Addr)(ic:Nat)(its:List It)(Q:Value→World→Prop)(w:World)(hx:w.heap[x]? = some (RsB b lb q N B M (.slice ia its.length ic) t false))(hi:zcm w (.slice ia its.length ic) its)(hil:its.length≤1000)(hlt:fndI its t=some ⟨n,p,f,u⟩)
 (hp:∀W,za zq2 w W→Calls Tryz.prog 134 #[.pointer (some ⟨x,0,none⟩),itV n p f u] W fun e w'=>∃v,e = .returned v∧Q v w') :
 Calls Tryz.prog 80 #[.pointer (some ⟨x,0,none⟩)] w fun e w'=>∃v,e = .returned (.tuple #[.bool false,v])∧Q v w':=by
 have XB:Hid (∀W,za zq2 w W→W.cell? ⟨x,3,none⟩=some (.int .i64 N)∧W.cell? ⟨x,4,none⟩=some (.int .i64 B)∧W.cell? ⟨x,5,none⟩=some (.int .i64 M)∧W.cell? ⟨x,6,none⟩=some (.slice ia its.length ic)∧W.cell? ⟨x,7,none⟩=some (.int .i64 t)):=zz0 (fun W k=>by have h:=atNon k hx;exact⟨rs_3 h,rs_4 h,rs_5 h,rs_6 h,rs_7 h⟩)
 have hfv:fndV its t=itV n p f u:=by unfold fndV;rw[hlt]
 have AF:Hid (∀W,za zq2 w W→Calls Tryz.prog 133 #[.agg #[.int .i64 N,.int .i64 B,.int .i64 M,.slice ia its.length ic],.int .i64 t] W fun e w'=>e = .returned (.tuple #[itV n p f u,.bool true])∧za zq2 W w'):=zz0 (fun W k=>by have h:=zgb N B M t its _ W (hi.keepNon k) hil;rw[hfv,hlt] at h;exact h)
 have HP:=zz0 hp;have c8:=rs_8 hx;obtain⟨y3,y4,y5,y6,y7⟩:=XB.out w (za.refl _ _);obtain⟨z3,z4,z5,z6,z7⟩:=XB.out (w.alloc ZB) ((za.refl _ _).alloc _);have K0:Hid (za zq2 w (w.alloc ZB)):=zz0 ((za.refl _ _).alloc _);have KD:Hid (za zq2 w w.drew):=zz0 (za.refl zq2 w).drew;have AFA:=zz0 (AF.out (w.alloc ZB).drew K0.out.drew);have AFB:=zz0 (AF.out w.drew KD.out);have AB:=zz0 (znb w);clear hx hi hp AF hlt hfv;dsimp only[ZB] at z3 z4 z5 z6 z7 AFA;unfold itV at *
 go_enter Tryz.func80,Tryz.ntmps80
 go_wp2_with fail
 go_region_law(go_simp;go_at_call 133;first
  |((with_reducible refine AFA.out.mono ?_);rintro e w1 ⟨rfl,k1⟩;obtain⟨b0,b1,b2,b3,f0,f1,f2,f3,r4,k4⟩:=zfa (atNon (w:=(w.alloc ZB).drew) k1 AB.out) n p f u;have E4:=zz0 (And.intro r4 (setNon4 (K0.out.drew.trans1 k1) k4));clear r4 k4 k1)
  |((with_reducible refine AFB.out.mono ?_);rintro e w1 ⟨rfl,k1⟩;have E4:=zz0 (And.intro (ze w1 (ItB n p f u)) ((KD.out.trans1 k1).alloc (ItB n p f u)));clear k1))
 all_goals go_wp2_with(go_at_call 134;refine(HP.out _ E4.out.2).mono ?_;rintro e w2 ⟨v,rfl,q⟩)
 all_goals
  go_ret2;exact⟨v,rfl,q⟩
theorem zmW (x b lb q N B M t:Nat)(ia:Option Addr)(ic:Nat)(its:List It)(Q:Value→World→Prop)(w:World)(hx:w.heap[x]? = some (RsB b lb q N B M (.slice ia its.length ic) t false))(hi:zcm w (.slice ia its.length ic) its)(hil:its.length≤1000)(hlt:fndI its t=none)
 (hp:∀W,za zq2 w W→Calls Tryz.prog 135 #[.pointer (some ⟨x,0,none⟩)] W fun e w'=>e = .returned .nilIface∧Q .nilIface w') :
 Calls Tryz.prog 80 #[.pointer (some ⟨x,0,none⟩)] w fun e w'=>e = .returned (.tuple #[.bool true,.nilIface])∧Q .nilIface w':=by
 have XB:Hid (∀W,za zq2 w W→W.cell? ⟨x,3,none⟩=some (.int .i64 N)∧W.cell? ⟨x,4,none⟩=some (.int .i64 B)∧W.cell? ⟨x,5,none⟩=some (.int .i64 M)∧W.cell? ⟨x,6,none⟩=some (.slice ia its.length ic)∧W.cell? ⟨x,7,none⟩=some (.int .i64 t)):=zz0 (fun W k=>by have h:=atNon k hx;exact⟨rs_3 h,rs_4 h,rs_5 h,rs_6 h,rs_7 h⟩)
 have hfv:fndV its t=itV 0 0 0 0:=by unfold fndV;rw[hlt]
 have AF:Hid (∀W,za zq2 w W→Calls Tryz.prog 133 #[.agg #[.int .i64 N,.int .i64 B,.int .i64 M,.slice ia its.length ic],.int .i64 t] W fun e w'=>e = .returned (.tuple #[itV 0 0 0 0,.bool false])∧za zq2 W w'):=zz0 (fun W k=>by have h:=zgb N B M t its _ W (hi.keepNon k) hil;rw[hfv,hlt] at h;exact h)
 have HP:=zz0 hp;have c8:=rs_8 hx;obtain⟨y3,y4,y5,y6,y7⟩:=XB.out w (za.refl _ _);obtain⟨z3,z4,z5,z6,z7⟩:=XB.out (w.alloc ZB) ((za.refl _ _).alloc _);have K0:Hid (za zq2 w (w.alloc ZB)):=zz0 ((za.refl _ _).alloc _);have KD:Hid (za zq2 w w.drew):=zz0 (za.refl zq2 w).drew;have AFA:=zz0 (AF.out (w.alloc ZB).drew K0.out.drew);have AFB:=zz0 (AF.out w.drew KD.out);have AB:=zz0 (znb w);clear hx hi hp AF hlt hfv;dsimp only[ZB] at z3 z4 z5 z6 z7 AFA;unfold itV at *
 go_enter Tryz.func80,Tryz.ntmps80
 go_wp2_with fail
 go_region_law(go_simp;go_at_call 133;first
  |((with_reducible refine AFA.out.mono ?_);rintro e w1 ⟨rfl,k1⟩;obtain⟨b0,b1,b2,b3,f0,f1,f2,f3,r4,k4⟩:=zfa (atNon (w:=(w.alloc ZB).drew) k1 AB.out) 0 0 0 0;have E4:=zz0 (And.intro r4 (setNon4 (K0.out.drew.trans1 k1) k4));clear r4 k4 k1)
  |((with_reducible refine AFB.out.mono ?_);rintro e w1 ⟨rfl,k1⟩;have E4:=zz0 (And.intro (znb w1) ((KD.out.trans1 k1).alloc ZB));clear k1))
 all_goals go_wp2_with(go_at_call 135;refine(HP.out _ E4.out.2).mono ?_;rintro e w2 ⟨rfl,q⟩)
 all_goals
  go_ret2;exact⟨rfl,q⟩
section
attribute [local go_sem ↓] zbB zU zbC zbD zV zbE zab zbK
theorem zku (m:Mf)(pa:Option Addr)(pn pc g t:Nat)(w:World)(h:w.heap[g]? = some (NB t)) :
 Calls Tryz.prog 198 #[zq7 m (.slice pa pn pc),.pointer (some ⟨g,0,none⟩)] w fun e w'=>e = .returned (.bool (decide (t≤m.hi)))∧za zq2 w w':=by
 have kA:za zq2 w (w.alloc (zq1 m (.slice pa pn pc))):=(za.refl _ _).alloc _;have c0:=nb_0 (atNon kA h);have c2:=mf_2 (ze w (zq1 m (.slice pa pn pc)));have KA:=zz0 kA;clear h kA;dsimp only[zq1] at c0 c2;unfold zq7;by_cases ht:t≤m.hi
 ·have ht':(t:Int)≤(m.hi:Int):=by omega
  rw[decide_eq_true ht]
  go_enter Tryz.func198,Tryz.ntmps198
  go_wp2_with fail
  go_ret;exact⟨by simp,KA.out⟩
 ·have ht':¬(t:Int)≤(m.hi:Int):=by omega
  have ht2:(m.hi:Int)<(t:Int):=by omega
  rw[decide_eq_false ht]
  go_enter Tryz.func198,Tryz.ntmps198
  go_wp2_with fail
  go_ret;exact⟨by simp<;>omega,KA.out⟩
theorem znX (T:Nat→Prop)(v:Value)(ms:List Mf)(M:Mf)(J g t:Nat)(w:World)(h:w.heap[g]? = some (NB t))(hm:zai T w v ms)(hl:ms.length≤1000)(hJ:ms[J]? = some M)(ht:t≤M.hi)(hpast:∀(k:Nat) m,k<J→ms[k]? = some m→¬t≤m.hi) :
 Calls Tryz.prog 197 #[v,.func (.func 198) #[] #[.pointer (some ⟨g,0,none⟩)]] w fun e w'=>e = .returned (.int .i64 J)∧za zq2 w w':=by
 have HG:=zz0 h;have H:=zz0 hm;have hJl:=zr hJ;have en:=zkm;obtain⟨a,c,rfl,hc,ha,hx⟩:=hm;clear hx ha h
 go_enter Tryz.func197,Tryz.ntmps197
 go_wp2_with fail
 go_loopw [8] (fun i wr=>∃j:Nat,j≤J∧i = .int .i64 j∧za zq2 w wr) (fun i _=>ms.length-(intOf i).toNat)
 case atStart=>exact⟨0,by omega,rfl,za.refl _ _⟩
 case round =>
  obtain⟨j,hj,rfl,hk⟩:=hrel;have HK:=zz0 hk;have hlj:(j:Int)<(ms.length:Int):=by omega
  obtain⟨m,hmj⟩:∃m,ms[j]? = some m:=⟨_,List.getElem?_eq_getElem (by omega)⟩
  obtain⟨a1,c1,e1,hc1,ha1,hx⟩:=H.out.keepNon hk;injection e1 with e1 e3 e4
  subst e1;subst e4;obtain⟨h32,g1,off,pa,pc,rfl,hp,hT,hcell⟩:=hx j m hmj;have hld:=load83 wr g1 (off+j*37) m (.slice pa m.parts.length pc) h32 hcell;have MK:=zz0 (zku m pa m.parts.length pc g t wr (atNon hk HG.out));clear hx ha1 hcell hp hT hk;by_cases hlt:j<J
  ·rw[decide_eq_false (hpast j m hlt hmj)] at MK
   clear hpast
   go_wp2_with(go_at_call 198;refine MK.out.mono ?_;rintro e w1 ⟨rfl,k1⟩;have K1:=zz0 k1;clear k1)
   exact⟨⟨j+1,by omega,by first|rfl|go_num,HK.out.trans1 K1.out⟩,by simp[intOf];omega⟩
  ·obtain rfl:j=J:=by omega
   have e:m=M:=by rw[hJ] at hmj;injection hmj with hmj;exact hmj.symm
   rw[e,decide_eq_true ht] at MK;rw[e] at hld;clear hpast
   go_wp2_with(go_at_call 198;refine MK.out.mono ?_;rintro e w1 ⟨rfl,k1⟩;have K1:=zz0 k1;clear k1)
   go_ret;exact⟨rfl,HK.out.trans1 K1.out⟩
theorem zo9 {ms:List Mf}{n:Nat}(h:∃m ∈ ms,n≤m.hi):∃J:Nat,ms[J]? = some (whoM ms n)∧n≤(whoM ms n).hi∧∀(k:Nat) m,k<J→ms[k]? = some m→¬n≤m.hi:=by
 cases e:ms.find? (fun m=>decide (n≤m.hi)) with
 |none =>
  obtain⟨m,hm,hn⟩:=h;have:=(List.find?_eq_none.1 e) m hm;simp at this;omega
 |some M =>
  have ew:whoM ms n=M:=by unfold whoM;rw[e];rfl
  rw[ew];obtain⟨h1,J,hJ,h2,h3⟩:=List.find?_eq_some_iff_getElem.1 e;refine⟨J,by rw[List.getElem?_eq_getElem hJ,h2],by simpa using h1,fun k m hk hm=>?_⟩
  have:=h3 k hk;rw[List.getElem?_eq_getElem (by omega)] at hm
  injection hm with hm
  rw[hm] at this;simpa using this
theorem zmi (T:Nat→Prop)(v:Value)(ms:List Mf)(n:Nat)(w:World)(hm:zai T w v ms)(hl:ms.length≤1000)(hn:∃m ∈ ms,n≤m.hi) :
 Calls Tryz.prog 132 #[v,.int .i64 n] w fun e w'=>e = .returned (.int .i64 (zcI ms n))∧za zq2 w w':=by
 have kA:za zq2 w (w.alloc (NB n)):=(za.refl _ _).alloc _;obtain⟨J,hJ,h1,h2⟩:=zo9 hn;have IX:=zz0 (znX T v ms (whoM ms n) J w.heap.size n (w.alloc (NB n)) (ze w (NB n)) (hm.keepNon kA) hl hJ h1 h2);have hJl:=zr hJ;have eM:((zcI ms n:Nat):Int)=min ((whoM ms n).trim:Int) (n:Int):=by unfold zcI;omega
 generalize zcI ms n=mk at eM ⊢;generalize whoM ms n=m at IX hJ h1 eM;obtain⟨a,c,rfl,hc,ha,hx⟩:=hm;obtain⟨h32,g1,off,pa,pc,rfl,hp,hT,hcell⟩:=hx J m hJ;have CB:Hid (∀W,za zq2 w W→W.cell? ⟨g1,off+J*37+3,none⟩=some (.int .i64 m.trim)):=zz0 (fun W k=>za3 k (fun e=>e) (hcell 3 (.int .i64 m.trim) rfl))
 have NBK:=zz0 (ze w (NB n));have KA:=zz0 kA;have hmn:(min (m.trim:Int) (n:Int))=(mk:Int):=eM.symm;have hmn2:(if (m.trim:Int)≤(n:Int) then (m.trim:Int) else (n:Int))=(mk:Int):=by rw[eM];split<;>omega
 have hmn3:(if (n:Int)<(m.trim:Int) then (n:Int) else (m.trim:Int))=(mk:Int):=by rw[eM];split<;>omega
 have hlj:(J:Int)<(ms.length:Int):=by omega
 clear hx hcell hp hT ha kA eM h1 h2 hJ;dsimp only[NB] at IX
 go_enter Tryz.func132,Tryz.ntmps132
 go_wp2_with(go_at_call 197;((with_reducible refine IX.out.mono ?_);rintro e w1 ⟨rfl,k1⟩);have n1:=nb_0 (atNon (w:=w.alloc (NB n)) k1 NBK.out);have c1:=CB.out w1 (KA.out.trans1 k1);have K1:=zz0 (KA.out.trans1 k1);clear k1)
 go_region_law(fail)
 all_goals go_wp2_with fail
 all_goals
  go_ret;exact⟨by first|rfl|simp[hmn]|simp[hmn2]|simp[hmn3],K1.out.drew⟩
end
end Go.Proofs.YtpojgmeoaflmoaaGreatDoor
namespace Go.Proofs.YtpojgmeoaflmoaaGreatDoor
open Go.ChangeShapes Go.WideShapes Go.ChangeAt Go.RowKit Go.Deep
theorem own:ownKnob Tryz.prog.godebug=none:=by kernel_rfl
theorem laidOut:laidOutB Tryz.prog=true:=by kernel_rfl
abbrev laid9:List (String×DataW Unit):=[("math/bits.deBruijn32tab",Rows.laid_math_bits_deBruijn32tab),("math/bits.deBruijn64tab",Rows.laid_math_bits_deBruijn64tab),("internal/strconv.uint64pow10",Rows.laid_internal_strconv_uint64pow10),("unicode/utf8.acceptRanges",Rows.laid_unicode_utf8_acceptRanges),("strconv.ErrRange",Rows.laid_strconv_ErrRange),("strconv.ErrSyntax",Rows.laid_strconv_ErrSyntax),("holdfast/sha.constants",Rows.laid_holdfast_sha_constants),("holdfast/sha.firsts",Rows.laid_holdfast_sha_firsts),("unicode/utf8.first",Rows.laid_unicode_utf8_first)]
theorem zaL {P:Program}{x:String×DataW Unit}{l:List (String×DataW Unit)}{w:World}(h:laidMet P (x::l) w):laidMet P l w:=by
 obtain⟨ps,⟨g,t,cs,fuel,p,q,_,_,_,_,hq,rfl⟩,hn,hc⟩:=h;exact⟨q,hq,(List.nodup_append.1 hn).2.1,fun b off hm=>hc b off (List.mem_append_right _ hm)⟩
theorem zd4 {P:Program}{w:World}{n:String}{g:Nat}{cs:Array Value}(hg:P.globalNamed n=some g)(h:w.var? P n=some cs):∃(tt:TypeId)(fr:Nat×Nat),w.heap[g]? = some (.cells cs tt fr):=by
 simp only[World.var?,hg,Option.bind_some] at h
 split at h
 ·next cs' tt fr e =>
  obtain rfl:=Option.some.inj h;exact⟨tt,fr,e⟩
 ·cases h
def fList:List Int:=[0x6a09e667,0xbb67ae85,0x3c6ef372,0xa54ff53a,0x510e527f,0x9b05688c,0x1f83d9ab,0x5be0cd19]
theorem cData:(Rows.laid_holdfast_sha_constants:DataW Unit)=Lib.tabData .u32 kList:=by kernel_rfl
theorem fData:(Rows.laid_holdfast_sha_firsts:DataW Unit)=Lib.tabData .u32 fList:=by kernel_rfl
theorem pData:(Rows.laid_internal_strconv_uint64pow10:DataW Unit)=Lib.tabData .u64 Lib.pow10Tab:=by kernel_rfl
theorem gCons:Tryz.prog.globalNamed "holdfast/sha.constants" = some 7:=by kernel_rfl
theorem gFirs:Tryz.prog.globalNamed "holdfast/sha.firsts" = some 2:=by kernel_rfl
theorem gLast:Tryz.prog.globalNamed "math/bits.deBruijn64tab" = some 9:=by kernel_rfl
theorem tCons:(Tryz.prog.globals[7]?).map (·.type)=some 441:=by kernel_rfl
theorem tFirs:(Tryz.prog.globals[2]?).map (·.type)=some 415:=by kernel_rfl
theorem tPow:(Tryz.prog.globals[1]?).map (·.type)=some 412:=by kernel_rfl
theorem zpN {W:World}(h:laidMetH Tryz.prog laid9 W):Lay W∧10≤W.heap.size:=by
 rw[MakeChecks.laidMetH_plain _ _ _ (by kernel_rfl)] at h
 have h0:laidMet Tryz.prog laid9 W:=h;have h1:laidMet Tryz.prog [("math/bits.deBruijn64tab",Rows.laid_math_bits_deBruijn64tab),("internal/strconv.uint64pow10",Rows.laid_internal_strconv_uint64pow10),("unicode/utf8.acceptRanges",Rows.laid_unicode_utf8_acceptRanges),("strconv.ErrRange",Rows.laid_strconv_ErrRange),("strconv.ErrSyntax",Rows.laid_strconv_ErrSyntax),("holdfast/sha.constants",Rows.laid_holdfast_sha_constants),("holdfast/sha.firsts",Rows.laid_holdfast_sha_firsts),("unicode/utf8.first",Rows.laid_unicode_utf8_first)] W:=zaL h0;have h2:laidMet Tryz.prog [("internal/strconv.uint64pow10",Rows.laid_internal_strconv_uint64pow10),("unicode/utf8.acceptRanges",Rows.laid_unicode_utf8_acceptRanges),("strconv.ErrRange",Rows.laid_strconv_ErrRange),("strconv.ErrSyntax",Rows.laid_strconv_ErrSyntax),("holdfast/sha.constants",Rows.laid_holdfast_sha_constants),("holdfast/sha.firsts",Rows.laid_holdfast_sha_firsts),("unicode/utf8.first",Rows.laid_unicode_utf8_first)] W:=zaL h1;have h3:laidMet Tryz.prog [("unicode/utf8.acceptRanges",Rows.laid_unicode_utf8_acceptRanges),("strconv.ErrRange",Rows.laid_strconv_ErrRange),("strconv.ErrSyntax",Rows.laid_strconv_ErrSyntax),("holdfast/sha.constants",Rows.laid_holdfast_sha_constants),("holdfast/sha.firsts",Rows.laid_holdfast_sha_firsts),("unicode/utf8.first",Rows.laid_unicode_utf8_first)] W:=zaL h2;have h4:laidMet Tryz.prog [("strconv.ErrRange",Rows.laid_strconv_ErrRange),("strconv.ErrSyntax",Rows.laid_strconv_ErrSyntax),("holdfast/sha.constants",Rows.laid_holdfast_sha_constants),("holdfast/sha.firsts",Rows.laid_holdfast_sha_firsts),("unicode/utf8.first",Rows.laid_unicode_utf8_first)] W:=zaL h3;have h5:laidMet Tryz.prog [("strconv.ErrSyntax",Rows.laid_strconv_ErrSyntax),("holdfast/sha.constants",Rows.laid_holdfast_sha_constants),("holdfast/sha.firsts",Rows.laid_holdfast_sha_firsts),("unicode/utf8.first",Rows.laid_unicode_utf8_first)] W:=zaL h4;have h6:laidMet Tryz.prog [("holdfast/sha.constants",Rows.laid_holdfast_sha_constants),("holdfast/sha.firsts",Rows.laid_holdfast_sha_firsts),("unicode/utf8.first",Rows.laid_unicode_utf8_first)] W:=zaL h5;have h7:laidMet Tryz.prog [("holdfast/sha.firsts",Rows.laid_holdfast_sha_firsts),("unicode/utf8.first",Rows.laid_unicode_utf8_first)] W:=zaL h6;obtain⟨p9,⟨g9,t9,cs9,f9,_,_,hg9,_,hv9,_,_,_⟩,_⟩:=h1;obtain rfl:=Option.some.inj (gLast.symm.trans hg9);obtain⟨tt9,fr9,hb9⟩:=zd4 gLast hv9;have h10:10≤W.heap.size:=by
  have:=lt_of_block hb9;omega
 have hp:Pow W:=by
  rw[pData] at h2;exact Lib.tabIs_of_head zo5 tPow Tryz.underlying412 Tryz.underlying184 (by kernel_rfl) (by kernel_rfl) h2
 have c1:Lib.TabIs Tryz.prog W "holdfast/sha.constants" .u32 kList:=by
  rw[cData] at h6;exact Lib.tabIs_of_head gCons tCons Tryz.underlying441 Tryz.underlying252 (by kernel_rfl) (by kernel_rfl) h6
 have c2:Lib.TabIs Tryz.prog W "holdfast/sha.firsts" .u32 fList:=by
  rw[fData] at h7;exact Lib.tabIs_of_head gFirs tFirs Tryz.underlying415 Tryz.underlying252 (by kernel_rfl) (by kernel_rfl) h7
 obtain⟨tf,ff,hf⟩:=zd4 gFirs c2;obtain⟨tc,fc,hc⟩:=zd4 gCons c1;refine⟨⟨⟨_,?_,⟨tc,fc,hc⟩,?_,fun i hi=>?_⟩,⟨tf,ff,hf⟩,hp⟩,h10⟩
 ·rfl
 ·have:=lt_of_block hc
  omega
 ·have hl:kList.length=64:=rfl
  simp[kI,show i<kList.length by omega]
end Go.Proofs.YtpojgmeoaflmoaaGreatDoor
