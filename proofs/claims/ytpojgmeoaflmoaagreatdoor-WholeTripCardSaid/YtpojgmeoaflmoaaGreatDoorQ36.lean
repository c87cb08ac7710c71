/- (*Export).commit: walked (printed by wip -/
import Derived.Test.YtpojgmeoaflmoaaGreatDoorQ34
import Derived.Test.YtpojgmeoaflmoaaGreatDoorQ35
set_option linter.unusedVariables false
set_option maxRecDepth 100000
set_option maxHeartbeats 16000000
namespace Go.Proofs.YtpojgmeoaflmoaaGreatDoor
open Go.RowKit Go.Maps
structure CmEnd (WX:World)(m:Mf)(v:Value)(nb:Nat)(W5:World):Prop where
 bx:W5.heap[nb]? = some (zq1 m v)
 lo:WX.heap.size≤nb
 kp:za zq2 WX W5
 row:W5.ownsRow WX.heap.size 125 35 v m.parts.length (zaP m.parts)
theorem zlc {W4 w6:World}{m:Mf}{v:Value}{B:Nat}(k6:za zq2 W4 w6)(o:w6.ownsRow B 125 35 v m.parts.length (zaP m.parts))(hB:W4.heap.size≤B):CmEnd W4 m v w6.heap.size (w6.alloc (zq1 m v)) :=
 ⟨ze _ _,k6.size,k6.alloc _,zg (zc o ((za.refl zq2 _).alloc _) (fun _ _ e=>e)) hB⟩
theorem zgp {W4 w6:World}{m:Mf}{v:Value}{B nb:Nat}(k6:za zq2 W4 w6)(hb:w6.heap[nb]? = some (.cells zra 54 (0,0)))(h1:W4.heap.size≤nb)(o:w6.ownsRow B 125 35 v m.parts.length (zaP m.parts))(hB:nb<B) :
 CmEnd W4 m v nb (w6.setRow nb (zq6 m v).toArray):=by
 have k:za (zq3 nb) w6 (w6.setRow nb (zq6 m v).toArray):=(za.refl (zq3 nb) _).setRow (.inl (zK _)) _;exact⟨setRow_heap _ _ _ _ _ _ hb,h1,k6.trans k (fun _ _ e=>e) (fun g hg e=>by have e':g=nb:=e;omega),zg (zc o k (fun g e e2=>by have e':g=nb:=e2;have:=(o.lt g e).1;omega)) (by omega)⟩
theorem zf6 {w:World}{g i:Nat}{v:Value}(e:w.cell? ⟨g,i,none⟩=some v):g<w.heap.size:=by
 rcases Nat.lt_or_ge g w.heap.size with q|q
 ·exact q
 ·rw[World.cell?,Array.getElem?_eq_none q] at e
  cases e
section
attribute [local go_sem ↓] zbB zU zbC zbD zV zbE zab zbK
end
theorem zeg {x b lb:Nat}{c:Cu}{pa:Option Addr}{pn pc:Nat}(v:Value)(Q:World→Prop)(w:World)(hx:w.heap[x]? = some (ExB b lb c (.slice pa pn pc) false))(hne:c.next≠c.hi)
 (hp:∀W,za zq2 w W→Calls Tryz.prog 119 #[.pointer (some ⟨x,0,none⟩)] W fun e w'=>e = .returned v∧Q w') :
 Calls Tryz.prog 67 #[.pointer (some ⟨x,0,none⟩)] w fun e w'=>e = .returned (.tuple #[.bool false,v])∧Q w':=by
 have c2:=ex_2 hx;have c3:=ex_3 hx;have c4:=ex_4 hx;have c5:=ex_5 hx;have c6:=ex_6 hx;have c7:=ex_7 hx;have DN:=zz0 (zd6 c pa pn pc w);rw[decide_eq_false hne] at DN;have HP:=zz0 hp;clear hx hp;unfold cuV at DN
 go_enter Tryz.func67,Tryz.ntmps67
 go_wp2_with(first
  |(go_at_call 118;((with_reducible refine DN.out.mono ?_);rintro e w1 ⟨rfl,k1⟩))
  |(go_at_call 119;refine(HP.out _ k1).mono ?_;rintro e w2 ⟨rfl,q2⟩))
 go_ret2;exact⟨rfl,q2⟩
theorem zh7 {x b lb:Nat}{c:Cu}{pa:Option Addr}{pn pc:Nat}(Q:World→Prop)(w:World)(hx:w.heap[x]? = some (ExB b lb c (.slice pa pn pc) false))(hne:c.next=c.hi)
 (hp:∀W,za zq2 w W→Calls Tryz.prog 120 #[.pointer (some ⟨x,0,none⟩)] W fun e w'=>e = .returned .nilIface∧Q w') :
 Calls Tryz.prog 67 #[.pointer (some ⟨x,0,none⟩)] w fun e w'=>e = .returned (.tuple #[.bool true,.nilIface])∧Q w':=by
 have c2:=ex_2 hx;have c3:=ex_3 hx;have c4:=ex_4 hx;have c5:=ex_5 hx;have c6:=ex_6 hx;have c7:=ex_7 hx;have DN:=zz0 (zd6 c pa pn pc w);rw[decide_eq_true hne] at DN;have HP:=zz0 hp;clear hx hp hne;unfold cuV at DN
 go_enter Tryz.func67,Tryz.ntmps67
 go_wp2_with(first
  |(go_at_call 118;((with_reducible refine DN.out.mono ?_);rintro e w1 ⟨rfl,k1⟩))
  |(go_at_call 120;refine(HP.out _ k1).mono ?_;rintro e w2 ⟨rfl,q2⟩))
 go_ret2;exact⟨rfl,q2⟩
theorem zc8 {x b lb:Nat}{c:Cu}{pa:Option Addr}{pn pc:Nat}(k:Int)(Q:World→Prop)(w:World)(hx:w.heap[x]? = some (ExB b lb c (.slice pa pn pc) false))(hne:c.next=c.hi)
 (hp:∀W,za zq2 w W→Calls Tryz.prog 120 #[.pointer (some ⟨x,0,none⟩)] W fun e w'=>e = .returned (.iface 89 (.int .i64 k))∧Q w') :
 Calls Tryz.prog 67 #[.pointer (some ⟨x,0,none⟩)] w fun e w'=>e = .returned (.tuple #[.bool false,.iface 89 (.int .i64 k)])∧Q w':=by
 have c2:=ex_2 hx;have c3:=ex_3 hx;have c4:=ex_4 hx;have c5:=ex_5 hx;have c6:=ex_6 hx;have c7:=ex_7 hx;have DN:=zz0 (zd6 c pa pn pc w);rw[decide_eq_true hne] at DN;have HP:=zz0 hp;clear hx hp hne;unfold cuV at DN
 go_enter Tryz.func67,Tryz.ntmps67
 go_wp2_with(first
  |(go_at_call 118;((with_reducible refine DN.out.mono ?_);rintro e w1 ⟨rfl,k1⟩))
  |(go_at_call 120;refine(HP.out _ k1).mono ?_;rintro e w2 ⟨rfl,q2⟩))
 go_ret2;exact⟨rfl,q2⟩
theorem ExOut.trans {F F1 FL:Nat→Prop}{w w1 w2:World}{x b lb q p:Nat}{lv:Value}{c:Cu}{ov:Bool}{X:Dk}{L:Lg}(s:zq5 F1 F w)(k:za (fun g=>F g∨g=x) w w1)(h:ExOut F1 FL w1 x b lb q p lv c ov X L w2):ExOut F FL w x b lb q p lv c ov X L w2:=by
 obtain⟨F2,pv,s2,k2,e⟩:=h;refine⟨F2,pv,s.trans s2 k.size,k.trans k2 (fun _ _ y=>y) (fun g hg y=>?_),e⟩
 rcases y with y|y
 ·rcases s g y with z|z
  ·exact .inl z
  ·omega
 ·exact .inr y
structure VtSt (F FL:Nat→Prop)(w:World)(b lb q p:Nat)(X:Dk)(L:Lg):Prop where
 vt:w.heap[b]? = some (VtB q (.slice none 0 0))
 st:zk F w q p X
 lg:zaH FL w lb L.shs.length L
 lay:Lay w
 out:¬F b∧¬FL b∧10≤b
 apart:∀g,F g→¬FL g
 low:∀g,F g→10≤g∧g<w.heap.size
 lowL:∀g,FL g→g<w.heap.size
structure VtOk (X:Dk):Prop where
 free:X.free
 tidy:X.tidy
 lim:X.lim 2 2 20000
 cur:zz X.shown zx=false
 title:zz X.shown (zw 0)=false
theorem tput {X:Dk}(h:TDk X){n b:zqY}(hn:zbg n)(hb:b.length≤12500)(hr:¬X.full (tilde n) b) :
 (∃Y,X.sput n b=(0,Y)∧TDk Y∧Y.shown=zae X.shown n b∧(X.fuse<0→Y.fuse<0))∨(0≤X.fuse∧∃Y,X.sput n b=(14,Y)∧Y.down=true∧Y.room=X.room∧(∀k0 k1,like (Y.again k0 k1).shown X.shown∨like (Y.again k0 k1).shown (zae X.shown n b))∧(Y.sure=X.shown∨Y.sure=zcz X.shown (tilde n) b)∧(Y.pend = []∨(Y.sure=X.shown∧Y.pend = [.write (tilde n) b])∨(Y.sure=zcz X.shown (tilde n) b∧Y.pend = [.rename (tilde n) n]))):=by
 have hc:=h.calm;have hf:=h.fuse;have tidy:∀f:Int,(({ X with sure:=zae X.shown n b,shown:=zae X.shown n b,pend:=[],fuse:=f }:Dk)).tidy:=fun f m hh=>by
  have hh:zz (zae X.shown n b) m=true:=hh;by_cases e:m=n
  ·rw[e];exact hn
  ·by_cases e2:m=tilde n
   ·rw[e2,zbd] at hh;cases hh
   ·rw[zaN e e2] at hh;exact hc.tidy m hh
 have fl:IsFl 12500 (zae X.shown n b):=((h.fl.put hb).del).put hb;have mk:∀f:Int,-1≤f→f≤1000→TDk { X with sure:=zae X.shown n b,shown:=zae X.shown n b,pend:=[],fuse:=f }:=fun f f1 f2=>⟨⟨rfl,rfl,hc.down,fl.map,tidy f⟩,fl,h.room,f1,f2⟩
 by_cases hneg:X.fuse<0
 ·left
  refine⟨_,?_,mk X.fuse hf.1 hf.2,rfl,fun e=>e⟩
  rw[zc6 ⟨hc.down,hneg⟩ hc.map n b (by omega),if_neg hr]
 ·obtain⟨f,hff⟩:∃f:Nat,X.fuse=(f:Int):=⟨X.fuse.toNat,by omega⟩
  by_cases h4:f<4
  ·right
   exact⟨by omega,zml hc hn (by omega) hr hff h4⟩
  ·left
   obtain⟨g,rfl⟩:∃g,f=g+4:=⟨f-4,by omega⟩
   exact⟨_,zoc hc (by omega) hr hff,mk (g:Int) (by omega) (by omega),rfl,fun e=>absurd e hneg⟩
def nmOk (n:zqY):Prop:=zbg n∨∃m,zbg m∧n=tilde m
theorem nmOk.name {n:zqY}(h:nmOk n):za5 n:=by
 rcases h with h|⟨m,hm,rfl⟩
 ·exact h.1
 ·exact hm.tilde
structure zbM (s f:Nat)(D:Fl):Prop where
 fl:IsFl 12500 D
 size:size D≤s
 used:fused D≤f
 names:∀n,zz D n=true→nmOk n
theorem zbM.mono {s f s' f':Nat}{D:Fl}(h:zbM s f D)(hs:s≤s')(hf:f≤f'):zbM s' f' D:=⟨h.fl,Nat.le_trans h.size hs,Nat.le_trans h.used hf,h.names⟩
theorem zbM.put {s f:Nat}{D:Fl}(h:zbM s f D){n b:zqY}(hn:nmOk n)(hb:b.length≤12500):zbM (s+1) (f+12500) (zcz D n b):=by
 refine⟨h.fl.put hb,?_,?_,fun m hm=>?_⟩
 ·have:=zdB (n:=n) (b:=b) h.fl.map
  have:=h.size;omega
 ·have:=zc0 (n:=n) (b:=b) h.fl.map
  have:=h.used;omega
 ·by_cases e:m=n
  ·rw[e];exact hn
  ·rw[zaX e] at hm
   exact h.names m hm
theorem zbM.del {s f:Nat}{D:Fl}(h:zbM s f D)(n:zqY):zbM s f (zcp D n):=by
 refine⟨h.fl.del,Nat.le_trans (zcN h.fl.map) h.size,Nat.le_trans (zcZ h.fl.map) h.used,fun m hm=>?_⟩
 by_cases e:m=n
 ·rw[e,zaR] at hm;cases hm
 ·rw[zM e] at hm
  exact h.names m hm
def Chg.fine:Chg→Prop
 |.write n b=>nmOk n∧b.length≤12500
 |.rename n m=>nmOk m
 |.remove n=>True
theorem zbM.on {s f:Nat}{D:Fl}(h:zbM s f D){c:Chg}(hc:c.fine):zbM (s+1) (f+12500) (c.on D):=by
 cases c with
 |write n b=>exact h.put hc.1 hc.2
 |rename n m =>
  show zbM _ _ (if zz D n then _ else _)
  split
  ·exact(h.del n).put hc (h.fl.get n)
  ·exact h.mono (by omega) (by omega)
 |remove n =>
  show zbM _ _ (if zz D n then _ else _)
  split
  ·exact(h.del n).mono (by omega) (by omega)
  ·exact h.mono (by omega) (by omega)
structure TUp (X:Dk):Prop where
 sure:X.sure=X.shown
 pend:X.pend = []
 down:X.down=false
 fuse:X.fuse = -1
 room:X.room=16777216
 files:zbM 100 1000000 X.shown
structure Lost (P:Fl→Prop)(Y:Dk):Prop where
 down:Y.down=true
 room:Y.room=16777216
 pend:Y.pend = []∨∃c,Y.pend = [c]∧c.short∧c.fine
 files:zbM 60 700000 Y.sure
 again:∀k0 k1,P (keepC k0 k1 Y.pend Y.sure)
theorem Lost.mono {P Q:Fl→Prop}{Y:Dk}(h:Lost P Y)(k:∀D,P D→Q D):Lost Q Y:=⟨h.down,h.room,h.pend,h.files,fun k0 k1=>k _ (h.again k0 k1)⟩
theorem Lost.up {P:Fl→Prop}{Y:Dk}(h:Lost P Y)(k0 k1:Bool):TUp (Y.again k0 k1)∧P (Y.again k0 k1).shown:=by
 refine⟨⟨rfl,rfl,rfl,rfl,h.room,?_⟩,h.again k0 k1⟩;show zbM 100 1000000 (keepC k0 k1 Y.pend Y.sure);rcases h.pend with e|⟨c,e,_,hc⟩
 ·rw[e];exact h.files.mono (by omega) (by omega)
 ·rw[e]
  show zbM _ _ (if k0 then _ else _)
  split
  ·exact(h.files.on hc).mono (by omega) (by omega)
  ·exact h.files.mono (by omega) (by omega)
theorem TDk.files {X:Dk}(h:TDk X)(hl:X.lim 31 0 400000):zbM 31 400000 X.shown:=⟨h.fl,hl.files,hl.used,fun n hn=>.inl (h.calm.tidy n hn)⟩
def names31:List zqY:=zx::((List.range 6).map zw++(List.range 6).flatMap (fun j=>(List.range 4).map (zt j)))
theorem ziz:names31.length=31:=by
 unfold names31;simp
 decide
theorem ziA {j:Nat}(h:j<6):zw j ∈ names31:=List.mem_cons_of_mem _ (List.mem_append_left _ (List.mem_map.2 ⟨j,List.mem_range.2 h,rfl⟩))
theorem zfi {j i:Nat}(h:j<6)(h2:i<4):zt j i ∈ names31:=List.mem_cons_of_mem _ (List.mem_append_right _ (List.mem_flatMap.2 ⟨j,List.mem_range.2 h,List.mem_map.2 ⟨i,List.mem_range.2 h2,rfl⟩⟩))
theorem tlim {X:Dk}{ms:List Mf}{np:Nat}(h:TDk X)(ha:TAll X.shown (inE ms np))(h5:ms.length≤5)(h4:∀m ∈ ms,m.parts.length≤4)(hnp:np≤4):X.lim 31 0 400000:=by
 have hc:=h.fl.count names31 (fun n hn=>by
  rcases ha n (h.calm.tidy n hn).2.2 hn with (⟨j,hj,rfl⟩|⟨j,i,m,hj,hi,rfl⟩)|rfl|⟨i,hi,rfl⟩
  ·exact ziA (by omega)
  ·have:=zr hj
   have:=h4 m (List.mem_of_getElem? hj);exact zfi (by omega) (by omega)
  ·exact List.mem_cons_self
  ·exact zfi (by omega) (by omega))
 rw[ziz] at hc;exact⟨hc.1,by rw[h.calm.pend];exact Nat.zero_le _,by omega,by have:=h.fuse.2;omega,h.calm.map⟩
theorem tput2 {X:Dk}(h:TDk X)(hl:X.lim 31 0 400000){n b:zqY}(hn:zbg n)(hb:b.length≤12500) :
 (∃Y,X.sput n b=(0,Y)∧TDk Y∧Y.shown=zae X.shown n b∧(X.fuse<0→Y.fuse<0))∨(0≤X.fuse∧∃Y,X.sput n b=(14,Y)∧Lost (fun D=>like D X.shown∨like D (zae X.shown n b)) Y):=by
 have hr:¬X.full (tilde n) b:=zgP hl (by omega) (by rw[h.room];omega)
 have hfs:=h.files hl;have ht:nmOk (tilde n):=.inr ⟨n,hn,rfl⟩;rcases tput h hn hb hr with y|⟨hf,Y,e,hd,hrm,hag,hsu,hpe⟩
 ·exact .inl y
 ·refine .inr ⟨hf,Y,e,hd,hrm.trans h.room,?_,?_,hag⟩
  ·have l1:=hn.2.1
   have l2:(tilde n).length=n.length+1:=rfl;rcases hpe with e|⟨_,e⟩|⟨_,e⟩
   ·exact .inl e
   ·exact .inr ⟨_,e,by show(tilde n).length≤1000;omega,ht,hb⟩
   ·exact .inr ⟨_,e,⟨by omega,by omega⟩,.inl hn⟩
  ·rcases hsu with e|e
   ·rw[e];exact hfs.mono (by omega) (by omega)
   ·rw[e];exact(hfs.put ht hb).mono (by omega) (by omega)
theorem tdel2 {X:Dk}(h:TDk X)(hl:X.lim 31 0 400000){n:zqY}(hn:zbg n)(hh:zz X.shown n=true) :
 (∃Y,X.sdel n=(0,Y)∧TDk Y∧Y.shown=zcp X.shown n∧(X.fuse<0→Y.fuse<0))∨(0≤X.fuse∧∃Y,X.sdel n=(14,Y)∧Lost (fun D=>like D X.shown∨like D (zcp X.shown n)) Y):=by
 have hc:=h.calm;have hf:=h.fuse;have hfs:=h.files hl;have tidy:∀f:Int,(({ X with sure:=zcp X.shown n,shown:=zcp X.shown n,pend:=[],fuse:=f }:Dk)).tidy:=fun f m hh=>by
  have hh:zz (zcp X.shown n) m=true:=hh;by_cases e:m=n
  ·rw[e,zaR] at hh;cases hh
  ·rw[zM e] at hh;exact hc.tidy m hh
 have mk:∀f:Int,-1≤f→f≤1000→TDk { X with sure:=zcp X.shown n,shown:=zcp X.shown n,pend:=[],fuse:=f }:=fun f f1 f2=>⟨⟨rfl,rfl,hc.down,h.fl.del.map,tidy f⟩,h.fl.del,h.room,f1,f2⟩
 by_cases hneg:X.fuse<0
 ·left
  refine⟨_,?_,mk X.fuse hf.1 hf.2,rfl,fun e=>e⟩
  rw[zhP ⟨hc.down,hneg⟩,if_pos hh]
 ·obtain⟨f,hff⟩:∃f:Nat,X.fuse=(f:Int):=⟨X.fuse.toNat,by omega⟩
  by_cases h2:f<2
  ·right
   obtain⟨Y,e,hd,hrm,hag,hsu,hpe⟩:=zlp hc hh hff h2;refine⟨by omega,Y,e,hd,hrm.trans h.room,?_,?_,hag⟩
   ·have l1:=hn.2.1
    rcases hpe with e|e
    ·exact .inl e
    ·exact .inr ⟨_,e,by show n.length≤1000;omega,trivial⟩
   ·rw[hsu];exact hfs.mono (by omega) (by omega)
  ·left
   obtain⟨g,rfl⟩:∃g,f=g+2:=⟨f-2,by omega⟩
   exact⟨_,znv hc hh hff,mk (g:Int) (by omega) (by omega),rfl,fun e=>absurd e hneg⟩
theorem znh {n:zqY}(h:126 ∉ n):zb6 n=false:=by
 unfold zb6;cases n with
 |nil=>rfl
 |cons c r =>
  have:c≠126:=fun e=>h (by rw[e];simp)
  have h2:((126:UInt8)==c)=false:=by simpa using this.symm
  show(((126:UInt8)==c)&&_)=false
  rw[h2]
  rfl
theorem zh9 (m:zqY):zb6 (tilde m)=true:=rfl
theorem zkK {X:Dk}(hf:X.free){s f:Nat}(h:zbM s f X.shown)(n:zqY) :
 (zaO X n).free∧(zaO X n).room=X.room∧(zaO X n).fuse=X.fuse∧zbM s f (zaO X n).shown∧(∀m,zz (zaO X n).shown m=true→zz X.shown m=true∧¬(m=n∧zb6 m=true))∧like X.shown (zaO X n).shown∧(zb6 n=false→zaO X n=X):=by
 unfold zaO;by_cases hb:zb6 n=true
 ·rw[if_pos hb]
  by_cases hh:zz X.shown n=true
  ·rw[hf.remove hh]
   have e:(X.add (.remove n)).shown=zcp X.shown n:=by
    show(if zz X.shown n then _ else _)=_
    rw[if_pos hh]
   refine⟨hf,rfl,rfl,?_,fun m hm=>?_,fun m hm=>?_,fun e2=>by rw[hb] at e2;cases e2⟩
   ·show zbM s f (X.add (.remove n)).shown
    rw[e];exact h.del n
   ·have hm:zz (X.add (.remove n)).shown m=true:=hm
    rw[e] at hm;by_cases e2:m=n
    ·rw[e2,zaR] at hm;cases hm
    ·rw[zM e2] at hm
     exact⟨hm,fun y=>e2 y.1⟩
   ·have e2:m≠n:=fun e2=>by rw[e2] at hm;rw[znh hm] at hb;cases hb
    show zz X.shown m=zz (X.add (.remove n)).shown m∧zat X.shown m=zat (X.add (.remove n)).shown m
    rw[e,zM e2,zbs e2];exact⟨rfl,rfl⟩
  ·have e:X.remove n=(4,X):=by
    unfold Dk.remove;rw[hf.works,if_neg (fun e=>e rfl),if_neg hh]
   rw[e];exact⟨hf,rfl,rfl,h,fun m hm=>⟨hm,fun y=>hh (y.1 ▸ hm)⟩,like.refl _,fun _=>rfl⟩
 ·rw[if_neg hb]
  exact⟨hf,rfl,rfl,h,fun m hm=>⟨hm,fun y=>hb (y.1 ▸ y.2)⟩,like.refl _,fun _=>rfl⟩
theorem zgh:∀(ns:List zqY){X:Dk}(hf:X.free){s f:Nat}(h:zbM s f X.shown),
 (zbi ns X).free∧(zbi ns X).room=X.room∧(zbi ns X).fuse=X.fuse∧zbM s f (zbi ns X).shown∧(∀m,zz (zbi ns X).shown m=true→zz X.shown m=true∧¬(m ∈ ns∧zb6 m=true))∧like X.shown (zbi ns X).shown∧(ns.any zb6=false→zbi ns X=X)
 |[],X,hf,s,f,h=>⟨hf,rfl,rfl,h,fun m hm=>⟨hm,fun y=>by simp at y⟩,like.refl _,fun _=>rfl⟩
 |n::r,X,hf,s,f,h=>by
  obtain⟨a1,a2,a3,a4,a5,a6,a7⟩:=zkK hf h n;obtain⟨b1,b2,b3,b4,b5,b6,b7⟩:=zgh r a1 a4;refine⟨b1,b2.trans a2,b3.trans a3,b4,fun m hm=>?_,a6.trans b6,fun e=>?_⟩
  ·obtain⟨c1,c2⟩:=b5 m hm
   obtain⟨d1,d2⟩:=a5 m c1;refine⟨d1,fun y=>?_⟩
   rcases List.mem_cons.1 y.1 with z|z
   ·exact d2 ⟨z,y.2⟩
   ·exact c2 ⟨z,y.2⟩
  ·rw[List.any_cons,Bool.or_eq_false_iff] at e
   show zbi r (zaO X n)=X
   rw[b7 e.2,a7 e.1]
theorem zn5 {X:Dk}(h:TUp X)(ns:List zqY)(hp:ns.Perm (Go.strKeys X.shown)):TDk (openD ns X)∧like X.shown (openD ns X).shown∧(openD ns X).fuse<0:=by
 have hfr:X.free:=⟨h.down,by rw[h.fuse];decide⟩
 obtain⟨b1,b2,b3,b4,b5,b6,b7⟩:=zgh ns hfr h.files;obtain⟨_,hmem⟩:=zgO h.files.fl.keys hp;have tidy:∀m,zz (zbi ns X).shown m=true→zbg m:=fun m hm=>by
  obtain⟨c1,c2⟩:=b5 m hm;rcases b4.names m hm with y|⟨k,_,rfl⟩
  ·exact y
  ·exact absurd ⟨(hmem _).2 c1,zh9 k⟩ c2
 unfold openD;by_cases ha:ns.any zb6=true
 ·rw[if_pos ha,b1.sync]
  refine⟨⟨⟨rfl,rfl,b1.1,b4.fl.map,tidy⟩,b4.fl,b2.trans h.room,?_,?_⟩,b6,b1.2⟩
  ·show -1≤(zbi ns X).fuse
   rw[b3,h.fuse];decide
  ·show(zbi ns X).fuse≤1000
   rw[b3,h.fuse];decide
 ·rw[if_neg ha]
  have e:=b7 (by simpa using ha)
  rw[e] at tidy ⊢;exact⟨⟨⟨h.sure,h.pend,h.down,h.files.fl.map,tidy⟩,h.files.fl,h.room,by rw[h.fuse];decide,by rw[h.fuse];decide⟩,like.refl _,hfr.2⟩
def TLv (L:Lg)(C:Nat→Cl)(ms:List Mf)(lo hi tr:Nat)(D:Fl):Prop:=∃c,c.lo=lo∧c.hi=hi∧c.trim=tr∧TF L C D ms c
def TEnd (L:Lg)(C:Nat→Cl)(ms:List Mf)(c:Cu)(D:Fl):Prop:=TB (joinC C L c.lo) D (ms ++ [exT ms c])∧TAll D (inB (ms ++ [exT ms c]))
def TCm (L:Lg)(C:Nat→Cl)(ms:List Mf)(lo hi tr:Nat)(D:Fl):Prop:=∃c,c.lo=lo∧c.hi=hi∧c.trim=tr∧(zdQ c∧c.lo<c.hi)∧TB (joinC C L c.lo) D (ms ++ [exT ms c])∧TAll D (fun n=>inB (ms ++ [exT ms c]) n∨n=zx)∧(zz D zx=true→zat D zx=zco c)
theorem TLv.like {L:Lg}{C:Nat→Cl}{ms:List Mf}{lo hi tr:Nat}{D E:Fl}(h:TLv L C ms lo hi tr D)(k:Go.Proofs.YtpojgmeoaflmoaaGreatDoor.like D E):TLv L C ms lo hi tr E:=by
 obtain⟨c,a1,a2,a3,h⟩:=h;exact⟨c,a1,a2,a3,h.like k⟩
theorem TCm.like {L:Lg}{C:Nat→Cl}{ms:List Mf}{lo hi tr:Nat}{D E:Fl}(h:TCm L C ms lo hi tr D)(k:Go.Proofs.YtpojgmeoaflmoaaGreatDoor.like D E):TCm L C ms lo hi tr E:=by
 obtain⟨c,a1,a2,a3,a4,h,h2,h3⟩:=h;obtain⟨k1,k2⟩:=k.obj zal;exact⟨c,a1,a2,a3,a4,h.like k,h2.like k,fun e=>by rw[←k2];exact h3 (by rw[k1];exact e)⟩
theorem TF.np {L:Lg}{C:Nat→Cl}{D:Fl}{ms:List Mf}{c:Cu}(h:TF L C D ms c):(c.hi-c.lo+63) / 64≤4:=by
 have:=h.hi;omega
theorem TF.lim {L:Lg}{C:Nat→Cl}{X:Dk}{ms:List Mf}{c:Cu}(h:TF L C X.shown ms c)(t:TDk X):X.lim 31 0 400000:=tlim t h.all (by have:=h.few;omega) (fun m hm=>(h.b.four m hm).1) h.np
theorem zjy {L:Lg}{C:Nat→Cl}{X:Dk}{ms:List Mf}{c:Cu}(h:TF L C X.shown ms c)(t:TDk X)(hl:Log1 L)(hlt:c.next<c.hi) :
 (∃Y,X.sput (zt ms.length c.parts.length) (zaC c.next (zaF L c.hi c.next))=(0,Y)∧TDk Y∧Y.lim 31 0 400000∧TF L C Y.shown ms c ∧
   ((∃Z,Y.sput zx (zco (zaM L c))=(0,Z)∧TDk Z∧TF L C Z.shown ms (zaM L c)∧(X.fuse<0→Z.fuse<0)) ∨
    (0≤X.fuse∧∃Z,Y.sput zx (zco (zaM L c))=(14,Z)∧Lost (TLv L C ms c.lo c.hi c.trim) Z))) ∨
 (0≤X.fuse∧∃Y,X.sput (zt ms.length c.parts.length) (zaC c.next (zaF L c.hi c.next))=(14,Y)∧Lost (TLv L C ms c.lo c.hi c.trim) Y):=by
 have hp:=h.part;have hf:=h.few;have hh:=h.hi;have hle:=h.ok.le;have hs:=zox hl c.hi c.next (by omega)
 have ho:=zcb ms.length c.parts.length (by omega) (by omega)
 have hst:=h.stand;have htr:=zcL h.trim.2.2 (show c.lo≤c.next by omega)
 rcases tput2 t (h.lim t) ho (show(zaC c.next (zaF L c.hi c.next)).length≤12500 by omega) with ⟨Y,e,tY,eY,fY⟩|⟨hfu,Y,e,lY⟩
 ·left
  have hY:TF L C Y.shown ms c:=by rw[eY];exact zo6 h t.calm.map hlt
  have hsg:zz Y.shown (zt ms.length c.parts.length)=true∧zat Y.shown (zt ms.length c.parts.length)=zaC c.next (zaF L c.hi c.next):=by rw[eY];exact⟨zaY t.calm.map,zbv t.calm.map⟩
  refine⟨Y,e,tY,hY.lim tY,hY,?_⟩;have hok:=zfm h.ok hl hlt (by omega)
  have hcl:=zcC hok;have hZ:=zqC hY tY.calm.map hl hlt hsg;rcases tput2 tY (hY.lim tY) zal (show(zco (zaM L c)).length≤12500 by omega) with ⟨Z,e2,tZ,eZ,fZ⟩|⟨hfu2,Z,e2,lZ⟩
  ·exact .inl ⟨Z,e2,tZ,by rw[eZ];exact hZ,fun y=>fZ (fY y)⟩
  ·refine .inr ⟨?_,Z,e2,lZ.mono (fun D hD=>?_)⟩
   ·rcases Int.lt_or_le X.fuse 0 with y|y
    ·have:=fY y;omega
    ·exact y
   ·rcases hD with y|y
    ·exact⟨c,rfl,rfl,rfl,hY.like y.symm⟩
    ·exact⟨zaM L c,rfl,rfl,htr,hZ.like y.symm⟩
 ·refine .inr ⟨hfu,Y,e,lY.mono (fun D hD=>?_)⟩
  rcases hD with y|y
  ·exact⟨c,rfl,rfl,rfl,h.like y.symm⟩
  ·exact⟨c,rfl,rfl,rfl,(zo6 h t.calm.map hlt).like y.symm⟩
theorem ze8 {X:Dk}{C:Nat→Cl}{ms:List Mf}(t:TDk X)(h:TB C X.shown ms)(ha:TAll X.shown (fun n=>inB ms n∨n=zx)):X.lim 31 0 400000:=tlim (np:=0) t (ha.mono (fun n y=>by
 rcases y with y|y
 ·exact .inl y
 ·exact .inr (.inl y))) h.few (fun m hm=>(h.four m hm).1) (by omega)
theorem zj4 {L:Lg}{C:Nat→Cl}{X:Dk}{ms:List Mf}{c:Cu}(h:TF L C X.shown ms c)(t:TDk X)(hl:Log1 L)(hd:c.next=c.hi) :
 (∃Y,X.sput (zw ms.length) (zb2 (exT ms c))=(0,Y)∧TDk Y∧Y.lim 31 0 400000 ∧
   ((∃Z,Y.sdel zx=(0,Z)∧TDk Z∧TEnd L C ms c Z.shown∧(X.fuse<0→Z.fuse<0)) ∨
    (0≤X.fuse∧∃Z,Y.sdel zx=(14,Z)∧Lost (TCm L C ms c.lo c.hi c.trim) Z))) ∨
 (0≤X.fuse∧∃Y,X.sput (zw ms.length) (zb2 (exT ms c))=(14,Y)∧Lost (fun D=>TLv L C ms c.lo c.hi c.trim D∨TCm L C ms c.lo c.hi c.trim D) Y):=by
 have hf:=h.few;have hln:=zgw h hd;have ho:=zaD ms.length (by omega)
 have hb:=zld h t.calm.map hl hd;have hba:=zj3 h hd;have hcu:zz (zae X.shown (zw ms.length) (zb2 (exT ms c))) zx=true∧zat (zae X.shown (zw ms.length) (zb2 (exT ms c))) zx=zco c:=by
  obtain⟨k1,k2⟩:=zce (D:=X.shown) (b:=zb2 (exT ms c)) zal.2.2 (zdw ms.length);exact⟨k1.trans h.cur.1,k2.trans h.cur.2⟩
 rcases tput2 t (h.lim t) ho (show(zb2 (exT ms c)).length≤12500 by omega) with ⟨Y,e,tY,eY,fY⟩|⟨hfu,Y,e,lY⟩
 ·left
  rw[←eY] at hb hba hcu;refine⟨Y,e,tY,ze8 tY hb hba,?_⟩;rcases tdel2 tY (ze8 tY hb hba) zal hcu.1 with ⟨Z,e2,tZ,eZ,fZ⟩|⟨hfu2,Z,e2,lZ⟩
  ·exact .inl ⟨Z,e2,tZ,by rw[eZ];exact⟨hb.clear,zeR hba⟩,fun y=>fZ (fY y)⟩
  ·refine .inr ⟨?_,Z,e2,lZ.mono (fun D hD=>?_)⟩
   ·rcases Int.lt_or_le X.fuse 0 with y|y
    ·have:=fY y;omega
    ·exact y
   ·have h1:TCm L C ms c.lo c.hi c.trim Y.shown:=⟨c,rfl,rfl,rfl,⟨h.ok,h.pos⟩,hb,hba,fun _=>hcu.2⟩
    have h2:TCm L C ms c.lo c.hi c.trim (zcp Y.shown zx):=⟨c,rfl,rfl,rfl,⟨h.ok,h.pos⟩,hb.clear,(zeR hba).mono (fun n y=>.inl y),fun e=>by rw[zaR] at e;cases e⟩
    rcases hD with y|y
    ·exact h1.like y.symm
    ·exact h2.like y.symm
 ·refine .inr ⟨hfu,Y,e,lY.mono (fun D hD=>?_)⟩
  rcases hD with y|y
  ·exact .inl ⟨c,rfl,rfl,rfl,h.like y.symm⟩
  ·exact .inr (TCm.like ⟨c,rfl,rfl,rfl,⟨h.ok,h.pos⟩,hb,hba,fun _=>hcu.2⟩ y.symm)
structure VsSt (F FL T:Nat→Prop)(w:World)(b lb q p:Nat)(lv:Value)(ms:List Mf)(X:Dk)(L:Lg):Prop where
 vt:w.heap[b]? = some (VtB q lv)
 ms:zai T w lv ms
 st:zk F w q p X
 lg:zaH FL w lb L.shs.length L
 lay:Lay w
 out:¬F b∧¬FL b∧¬T b∧10≤b
 apart:∀g,F g→¬FL g
 apartT:∀g,T g→¬F g∧¬FL g
 low:∀g,F g→10≤g∧g<w.heap.size
 lowL:∀g,FL g→g<w.heap.size
 lowT:∀g,T g→g<w.heap.size
theorem za.setSame {S:Nat→Prop}{a w:World}(h:za S a w){b i:Nat}{v:Value}{cs:Array Value}{t:TypeId}{fr:Nat×Nat}(hb:w.heap[b]? = some (.cells cs t fr))(hv:cs[i]? = some v):za S a (w.setCell ⟨b,i,none⟩ v):=by
 have e:cs.setIfInBounds i v=cs:=by
  refine Array.ext_getElem? (fun k=>?_)
  rw[Array.getElem?_setIfInBounds]
  split
  ·rename_i e
   subst e
   split
   ·exact hv.symm
   ·rename_i h2
    rw[Array.getElem?_eq_none (by omega)] at hv
    cases hv
  ·rfl
 refine⟨h.os,h.tape,h.output,by have:=h.size;simp[World.setCell];omega,fun k hk hn=>?_⟩
 by_cases ek:k=b
 ·subst ek
  rw[zj hb,e,←hb];exact h.block k hk hn
 ·exact(Below.heap_setCell w ⟨b,i,none⟩ v k ek).trans (h.block k hk hn)
theorem TB.p32 {C:Nat→Cl}{D:Fl}{ms:List Mf}(h:TB C D ms):∀m ∈ ms,zbI m.parts∧m.parts.length≤10000:=fun m hm=>by
 obtain⟨i,hi,rfl⟩:=List.getElem_of_mem hm;have ok:=(h.ok i _ (List.getElem?_eq_getElem hi)).1;exact⟨fun p hp=>(zct _ _ ok.parts p hp).2.2.2.2,by have:=ok.many;omega⟩
theorem TF.last {L:Lg}{C:Nat→Cl}{D:Fl}{ms:List Mf}{c:Cu}(h:TF L C D ms c):(zT ms).trim≤c.trim:=by
 by_cases hne:ms = []
 ·subst hne;exact Nat.zero_le _
 ·exact h.trim.2.1 hne
theorem TF.segs {L:Lg}{C:Nat→Cl}{X:Dk}{ms:List Mf}{c:Cu}(h:TF L C X.shown ms c)(hl:Log1 L):HasSegsN X ms.length c.parts:=h.cont.segs (fun a=>hl.cells a) (by have:=h.hi;omega)
theorem zn.after {F:Nat→Prop}{w w2 w3:World}{q p:Nat}{X:Dk}(k2:za zq2 w w2)(t:zn F w2 q p X w3):zn F w q p X w3:=by
 obtain⟨k3,F',s,d⟩:=t;refine⟨k2.ofNon.trans1 k3,F',fun g e=>?_,d⟩
 rcases s g e with e|e
 ·exact .inl e
 ·exact .inr (by have:=k2.size;omega)
def TmOut (F FL TL:Nat→Prop)(w:World)(x b lb q p:Nat)(ms:List Mf)(c:Cu)(pv:Value)(Z:Dk)(L:Lg)(w':World):Prop :=
 ∃F2 la lc T,zq5 F2 F w∧za (fun g=>F g∨g=x∨g=b) w w'∧ExSt F2 FL w' x b lb q p (.slice la (ms.length+1) lc) c pv true Z L∧zai T w' (.slice la (ms.length+1) lc) (ms ++ [exT ms c])∧∀g,T g→¬F2 g∧g≠b∧g≠x∧g<w'.heap.size∧(TL g∨w.heap.size≤g)
theorem TmOut.trans {F F1 FL TL:Nat→Prop}{w w1 w2:World}{x b lb q p:Nat}{ms:List Mf}{c:Cu}{pv:Value}{Z:Dk}{L:Lg}(s:zq5 F1 F w)(k:za (fun g=>F g∨g=x) w w1)(h:TmOut F1 FL TL w1 x b lb q p ms c pv Z L w2):TmOut F FL TL w x b lb q p ms c pv Z L w2:=by
 obtain⟨F2,la,lc,T,s2,k2,e1,e2,e3⟩:=h;refine⟨F2,la,lc,T,s.trans s2 k.size,k.trans k2 (fun g _ y=>?_) (fun g hg y=>?_),e1,e2,fun g y=>⟨(e3 g y).1,(e3 g y).2.1,(e3 g y).2.2.1,(e3 g y).2.2.2.1,?_⟩⟩
 ·rcases y with y|y
  ·exact .inl y
  ·exact .inr (.inl y)
 ·rcases y with y|y
  ·rcases s g y with z|z
   ·exact .inl z
   ·omega
  ·exact .inr y
 ·rcases(e3 g y).2.2.2.2 with u|u
  ·exact .inl u
  ·exact .inr (Nat.le_trans k.size u)
def LsOut (F:Nat→Prop)(w:World)(x b p:Nat)(P:Fl→Prop)(w':World):Prop :=
 ∃F' Y,zq5 F' F w∧(∀g,F' g→g<w'.heap.size)∧za (fun g=>F g∨g=x∨g=b) w w'∧zQ F' w' p Y∧Lost P Y
theorem LsOut.of {F F1 FL:Nat→Prop}{w w1 w2:World}{x b lb q p:Nat}{lv:Value}{c:Cu}{ov:Bool}{Y:Dk}{L:Lg}{P:Fl→Prop}(s:zq5 F1 F w)(k:za (fun g=>F g∨g=x) w w1)(h:ExOut F1 FL w1 x b lb q p lv c ov Y L w2)(hl:Lost P Y):LsOut F w x b p P w2:=by
 obtain⟨F2,pv,s2,k2,e⟩:=ExOut.trans s k h;obtain⟨_,_,G,dg,hg⟩:=e.st;exact⟨G,Y,fun g y=>s2 g (hg g y).1,fun g y=>(e.low g (hg g y).1).2,k2.mono (fun g _ y=>by rcases y with y|y;exact .inl y;exact .inr (.inl y)),dg,hl⟩
theorem LsOut.ofM {F F1 FL TL:Nat→Prop}{w w1 w2:World}{x b lb q p:Nat}{ms:List Mf}{c:Cu}{pv:Value}{Y:Dk}{L:Lg}{P:Fl→Prop}(s:zq5 F1 F w)(k:za (fun g=>F g∨g=x) w w1)(h:TmOut F1 FL TL w1 x b lb q p ms c pv Y L w2)(hl:Lost P Y):LsOut F w x b p P w2:=by
 obtain⟨F2,la,lc,T,s2,k2,e,_⟩:=TmOut.trans s k h;obtain⟨_,_,G,dg,hg⟩:=e.st;exact⟨G,Y,fun g y=>s2 g (hg g y).1,fun g y=>(e.low g (hg g y).1).2,k2,dg,hl⟩
section
attribute [local go_sem ↓] zbB zU zbC zbD zV zbE zab zbK
end
end Go.Proofs.YtpojgmeoaflmoaaGreatDoor
