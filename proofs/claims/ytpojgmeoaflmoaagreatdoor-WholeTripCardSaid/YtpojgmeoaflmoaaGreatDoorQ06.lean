/- Files, in plain words: a map from names  -/
import Derived.Maps.RangeWalk
import Derived.Maps.Ext
import Derived.Test.YtpojgmeoaflmoaaGreatDoorQ01
set_option linter.unusedVariables false
set_option maxRecDepth 100000
set_option maxHeartbeats 16000000
namespace Go.Proofs.YtpojgmeoaflmoaaGreatDoor
open Go.RowKit Go.Maps
abbrev zqY:=List UInt8
abbrev Fl:=DataW zqY
def zz (D:Fl)(n:zqY):Bool:=has D (.string n)
def heldB:DataW zqY→zqY
 |.held l=>l
 |_=>[]
def zat (D:Fl)(n:zqY):zqY:=heldB (D.atKey (.string n) (.held []))
def zcz (D:Fl)(n b:zqY):Fl:=D.put (.string n) (.held b)
def zcp (D:Fl)(n:zqY):Fl:=D.del (.string n)
def fused:Fl→Nat
 |.map es=>(es.map (fun p=>(heldB p.2).length)).sum
 |_=>0
section
variable {D : Fl} {n m b : zqY}
theorem isKey (n:zqY):WideAt.IsKeyLit (.string n):=trivial
theorem zjo (h:m≠n):(Lit.string m)≠.string n:=fun e=>h (by injection e)
theorem zba (h:IsMap D):zz (zcz D n b) n=true:=has_put_same h (isKey n) _
theorem zaX (h:m≠n):zz (zcz D n b) m=zz D m:=has_put_other (zjo h) _
theorem zaR:zz (zcp D n) n=false:=has_del_same
theorem zM (h:m≠n):zz (zcp D n) m=zz D m:=has_del_other (zjo h)
theorem za9 (h:IsMap D):zat (zcz D n b) n=b:=by unfold zat zcz;rw[atKey_put_same h (isKey n)];rfl
theorem zcg (h:m≠n):zat (zcz D n b) m=zat D m:=by unfold zat zcz;rw[atKey_put_other (zjo h)]
theorem zbs (h:m≠n):zat (zcp D n) m=zat D m:=by unfold zat zcp;rw[atKey_del_other (zjo h)]
theorem zcq (h:IsMap D):IsMap (zcz D n b):=h.put _ _
theorem zb0 (h:IsMap D):IsMap (zcp D n):=h.del _
theorem zgg (f:Lit×DataW zqY→Nat)(x:Lit×DataW zqY):∀l:List (Lit×DataW zqY),((DataW.insert x l).map f).sum=f x+(l.map f).sum
 |[]=>rfl
 |y::r=>by
  unfold DataW.insert
  split
  ·rfl
  ·simp only[List.map_cons,List.sum_cons,zgg f x r]
   omega
theorem zed (f:Lit×DataW zqY→Nat)(p:Lit×DataW zqY→Bool):∀l:List (Lit×DataW zqY),((l.filter p).map f).sum≤(l.map f).sum
 |[]=>Nat.le_refl _
 |y::r=>by
  have:=zed f p r;simp only[List.filter_cons]
  split
  ·simp only[List.map_cons,List.sum_cons];omega
  ·simp only[List.map_cons,List.sum_cons];omega
theorem zc0 (h:IsMap D):fused (zcz D n b)≤fused D+b.length:=by
 obtain⟨es,rfl⟩:=h;show((DataW.insert _ _).map _).sum≤(es.map _).sum+_;rw[zgg,Nat.add_comm];exact Nat.add_le_add_right (zed _ _ es) _
theorem zcZ (h:IsMap D):fused (zcp D n)≤fused D:=by
 obtain⟨es,rfl⟩:=h;exact zed _ _ es
theorem zdB (h:IsMap D):size (zcz D n b)≤size D+1:=by
 obtain⟨es,rfl⟩:=h;show(DataW.insert _ _).length≤es.length+1;rw[length_insert];have:=List.length_filter_le (fun p:Lit×DataW zqY=>!p.1.sameKey (.string n)) es
 omega
theorem zcN (h:IsMap D):size (zcp D n)≤size D:=by
 obtain⟨es,rfl⟩:=h;exact List.length_filter_le _ es
end
inductive Chg where
 |write (n b:zqY)
 |rename (n m:zqY)
 |remove (n:zqY)
def Chg.on:Chg→Fl→Fl
 |.write n b,D=>zcz D n b
 |.rename n m,D=>if zz D n then zcz (zcp D n) m (zat D n) else D
 |.remove n,D=>if zz D n then zcp D n else D
structure Dk where
 room:Nat
 sure:Fl
 shown:Fl
 pend:List Chg
 fuse:Int
 down:Bool
namespace Dk
def works (d:Dk):Int×Dk :=
 if d.down=true then (14,d) else if d.fuse=0 then (14,{ d with down:=true }) else (0,{ d with fuse:=if 0<d.fuse then d.fuse-1 else d.fuse })
def add (d:Dk)(c:Chg):Dk:={ d with pend:=d.pend ++ [c],shown:=c.on d.shown }
def full (d:Dk)(n b:zqY):Prop:=(zz d.shown n=false∧512≤size d.shown)∨d.room+(zat d.shown n).length<fused d.shown+b.length
instance (d:Dk) (n b:zqY):Decidable (d.full n b):=inferInstanceAs (Decidable (_∨_))
def write (d:Dk)(n b:zqY):Int×Dk :=
 if d.works.1≠0 then d.works else if 65536<b.length then (3,d.works.2) else if d.works.2.full n b then (5,d.works.2) else (0,d.works.2.add (.write n b))
def rename (d:Dk)(n m:zqY):Int×Dk :=
 if d.works.1≠0 then d.works else if zz d.works.2.shown n then (0,d.works.2.add (.rename n m)) else (4,d.works.2)
def remove (d:Dk)(n:zqY):Int×Dk :=
 if d.works.1≠0 then d.works else if zz d.works.2.shown n then (0,d.works.2.add (.remove n)) else (4,d.works.2)
def sync (d:Dk):Int×Dk :=
 if d.works.1≠0 then d.works else (0,{ d.works.2 with sure:=d.works.2.shown,pend:=[] })
def looks (d:Dk):Int:=if d.down=true then 14 else 0
end Dk
def dk0 (room:Nat):Dk:=⟨room,.map [],.map [],[],-1,false⟩
def tilde (n:zqY):zqY:=126::n
namespace Dk
def sput (d:Dk)(n b:zqY):Int×Dk :=
 if (d.write (tilde n) b).1≠0 then d.write (tilde n) b
 else if (d.write (tilde n) b).2.sync.1≠0 then (d.write (tilde n) b).2.sync
 else if ((d.write (tilde n) b).2.sync.2.rename (tilde n) n).1≠0 then (d.write (tilde n) b).2.sync.2.rename (tilde n) n
 else ((d.write (tilde n) b).2.sync.2.rename (tilde n) n).2.sync
def sdel (d:Dk)(n:zqY):Int×Dk:=if (d.remove n).1≠0 then d.remove n else (d.remove n).2.sync
end Dk
end Go.Proofs.YtpojgmeoaflmoaaGreatDoor
namespace Go.Proofs.YtpojgmeoaflmoaaGreatDoor
open Go.RowKit Go.Maps
def DkB (room:Int)(s h:Nat)(pv:Value)(fuse:Int)(down:Bool):Obj:=.cells #[.int .i64 room,.map (some s),.map (some h),pv,.int .i64 fuse,.bool down] 107 (0,0)
section
variable {w : World} {p s h : Nat} {room fuse : Int} {pv : Value} {down : Bool}
theorem dk_0 (e:w.heap[p]? = some (DkB room s h pv fuse down)):w.cell? ⟨p,0,none⟩=some (.int .i64 room):=by simp[World.cell?,e,DkB]
theorem dk_1 (e:w.heap[p]? = some (DkB room s h pv fuse down)):w.cell? ⟨p,1,none⟩=some (.map (some s)):=by simp[World.cell?,e,DkB]
theorem dk_2 (e:w.heap[p]? = some (DkB room s h pv fuse down)):w.cell? ⟨p,2,none⟩=some (.map (some h)):=by simp[World.cell?,e,DkB]
theorem dk_3 (e:w.heap[p]? = some (DkB room s h pv fuse down)):w.cell? ⟨p,3,none⟩=some pv:=by simp[World.cell?,e,DkB]
theorem dk_4 (e:w.heap[p]? = some (DkB room s h pv fuse down)):w.cell? ⟨p,4,none⟩=some (.int .i64 fuse):=by simp[World.cell?,e,DkB]
theorem dk_5 (e:w.heap[p]? = some (DkB room s h pv fuse down)):w.cell? ⟨p,5,none⟩=some (.bool down):=by simp[World.cell?,e,DkB]
theorem dk_f (e:w.heap[p]? = some (DkB room s h pv fuse down))(i:Nat):w.frozen? ⟨p,i,none⟩=false:=by simp[World.frozen?,e,DkB]
theorem zpo (e:w.heap[p]? = some (DkB room s h pv fuse down))(k:Nat):(w.setCell ⟨p,1,none⟩ (.map (some k))).heap[p]? = some (DkB room k h pv fuse down):=zj e 1 _
theorem zgt (e:w.heap[p]? = some (DkB room s h pv fuse down))(k:Nat):(w.setCell ⟨p,2,none⟩ (.map (some k))).heap[p]? = some (DkB room s k pv fuse down):=zj e 2 _
theorem zcW (e:w.heap[p]? = some (DkB room s h pv fuse down))(v:Value):(w.setCell ⟨p,3,none⟩ v).heap[p]? = some (DkB room s h v fuse down):=zj e 3 _
theorem zgu (e:w.heap[p]? = some (DkB room s h pv fuse down))(k:Int):(w.setCell ⟨p,4,none⟩ (.int .i64 k)).heap[p]? = some (DkB room s h pv k down):=zj e 4 _
theorem ze1 (e:w.heap[p]? = some (DkB room s h pv fuse down))(k:Bool):(w.setCell ⟨p,5,none⟩ (.bool k)).heap[p]? = some (DkB room s h pv fuse k):=zj e 5 _
end
def sv (n:zqY):Value:=.string ⟨n.toArray⟩
def ChgV (w:World)(T:Nat→Prop):Chg→List Value→Prop
 |.write n b,l=>∃v,l = [.int .i64 0,sv n,sv [],v]∧zbT w T v b
 |.rename n m,l=>l = [.int .i64 1,sv n,sv m,.slice none 0 0]
 |.remove n,l=>l = [.int .i64 2,sv n,sv [],.slice none 0 0]
def PendAt (w:World)(T:Nat→Prop)(pv:Value)(cs:List Chg):Prop :=
 ∃xs:List (List Value),w.ownsRow 0 139 4 pv cs.length xs.flatten∧xs.length=cs.length∧∀(i:Nat) c l,cs[i]? = some c→xs[i]? = some l→ChgV w T c l
abbrev zbA (w:World)(T:Nat→Prop)(b:Nat)(D:Fl):Prop:=zF w 9 (zbT w T) b D
structure zq (F T:Nat→Prop)(w:World)(p s h:Nat)(pv:Value)(X:Dk):Prop where
 blk:w.heap[p]? = some (DkB X.room s h pv X.fuse X.down)
 sure:zbA w T s X.sure
 shown:zbA w T h X.shown
 pend:PendAt w T pv X.pend
 inF:F p∧F s∧F h∧(∀g,pv.ownBlock=some g→F g)∧∀g,T g→F g
 apart:s≠h∧p≠s∧p≠h∧∀g,pv.ownBlock=some g→g≠p∧g≠s∧g≠h
 outT:¬T p∧¬T s∧¬T h∧(∀g,pv.ownBlock=some g→¬T g)∧∀g,T g→g<w.heap.size
 room:X.room≤1073741824
def zQ (F:Nat→Prop)(w:World)(p:Nat)(X:Dk):Prop:=∃T s h pv,zq F T w p s h pv X
theorem ChgV.keep {w w':World}{S T U:Nat→Prop}{c:Chg}{l:List Value}(h:ChgV w T c l)(k:za S w w')(hn:∀g,T g→¬S g)(hu:∀g,T g→U g):ChgV w' U c l:=by
 cases c with
 |write n b =>
  obtain⟨v,e,hb⟩:=h;exact⟨v,e,hb.keep k hn hu⟩
 |rename n m=>exact h
 |remove n=>exact h
theorem PendAt.keep {w w':World}{S T U:Nat→Prop}{pv:Value}{cs:List Chg}(h:PendAt w T pv cs)(k:za S w w')(hn:∀g,T g→¬S g)(hp:∀g,pv.ownBlock=some g→¬S g)(hu:∀g,T g→U g):PendAt w' U pv cs:=by
 obtain⟨xs,h1,h2,h3⟩:=h;exact⟨xs,zc h1 k hp,h2,fun i c l hc hl=>(h3 i c l hc hl).keep k hn hu⟩
theorem zbA.keep {w w':World}{S T U:Nat→Prop}{b:Nat}{D:Fl}(h:zbA w T b D)(k:za S w w')(hb:¬S b)(hn:∀g,T g→¬S g)(hu:∀g,T g→U g):zbA w' U b D :=
 zF.keep h k hb (zbT.fun1 _ _) (fun v x hx=>hx.keep k hn hu)
theorem zq.keep {F T S:Nat→Prop}{w w':World}{p s h:Nat}{pv:Value}{X:Dk}(d:zq F T w p s h pv X)(k:za S w w')(hn:∀g,F g→¬S g):zq F T w' p s h pv X:=by
 obtain⟨i1,i2,i3,i4,i5⟩:=d.inF;exact⟨k.at d.blk (hn _ i1),d.sure.keep k (hn _ i2) (fun g e=>hn _ (i5 g e)) (fun _ e=>e),d.shown.keep k (hn _ i3) (fun g e=>hn _ (i5 g e)) (fun _ e=>e),d.pend.keep k (fun g e=>hn _ (i5 g e)) (fun g e=>hn _ (i4 g e)) (fun _ e=>e),d.inF,d.apart,
  ⟨d.outT.1,d.outT.2.1,d.outT.2.2.1,d.outT.2.2.2.1,fun g e=>k.lt (d.outT.2.2.2.2 g e)⟩,d.room⟩
theorem zQ.keep {F S:Nat→Prop}{w w':World}{p:Nat}{X:Dk}(d:zQ F w p X)(k:za S w w')(hn:∀g,F g→¬S g):zQ F w' p X:=by
 obtain⟨T,s,h,pv,d⟩:=d;exact⟨T,s,h,pv,d.keep k hn⟩
theorem zfX (F:Nat→Prop)(p:Nat)(X:Dk)(w:World)(d:zQ F w p X) :
 Calls Tryz.prog 125 #[.pointer (some ⟨p,0,none⟩)] w fun e w'=>e = .returned (zbU X.looks)∧w'=w:=by
 obtain⟨T,s,h,pv,d⟩:=d;have c5:=dk_5 d.blk;clear d;obtain⟨room,sure,shown,pend,fuse,down⟩:=X;simp only at c5;cases down
 all_goals
  go_enter Tryz.func125,Tryz.ntmps125
  go_wp2_with fail
  go_ret;exact⟨rfl,rfl⟩
theorem zq3.notT {T:Nat→Prop}{p:Nat}(h:¬T p):∀g,T g→¬zq3 p g:=fun g e e2=>h (by rw[←e2];exact e)
theorem zq.turn {F T:Nat→Prop}{w:World}{p s h i:Nat}{pv u:Value}{X Y:Dk}(d:zq F T w p s h pv X)(hb:(w.setCell ⟨p,i,none⟩ u).heap[p]? = some (DkB Y.room s h pv Y.fuse Y.down))
 (h1:Y.sure=X.sure) (h2:Y.shown=X.shown) (h3:Y.pend=X.pend) (h4:Y.room=X.room):za (zq3 p) w (w.setCell ⟨p,i,none⟩ u)∧zq F T (w.setCell ⟨p,i,none⟩ u) p s h pv Y:=by
 have k:za (zq3 p) w (w.setCell ⟨p,i,none⟩ u):=(za.refl _ _).setOne i u;have hT:=zq3.notT d.outT.1;refine⟨k,hb,?_,?_,?_,d.inF,d.apart,⟨d.outT.1,d.outT.2.1,d.outT.2.2.1,d.outT.2.2.2.1,fun g e=>k.lt (d.outT.2.2.2.2 g e)⟩,by rw[h4];exact d.room⟩
 ·rw[h1];exact d.sure.keep k (fun e=>d.apart.2.1 e.symm) hT (fun _ e=>e)
 ·rw[h2];exact d.shown.keep k (fun e=>d.apart.2.2.1 e.symm) hT (fun _ e=>e)
 ·rw[h3];exact d.pend.keep k hT (fun g e e2=>(d.apart.2.2.2 g e).1 e2) (fun _ e=>e)
theorem zap (F T:Nat→Prop)(p s h:Nat)(pv:Value)(X:Dk)(w:World)(d:zq F T w p s h pv X)(hf:X.fuse≤1000000000) :
 Calls Tryz.prog 129 #[.pointer (some ⟨p,0,none⟩)] w fun e w'=>e = .returned (zbU X.works.1)∧za (zq3 p) w w'∧zq F T w' p s h pv X.works.2:=by
 have D:=zz0 d;have LK:=zz0 (zfX F p X w ⟨T,s,h,pv,d⟩);have c4:=dk_4 d.blk;have c5:=dk_5 d.blk;have f4:=dk_f d.blk 4;have f5:=dk_f d.blk 5;have B:=zz0 d.blk;clear d;obtain⟨room,sure,shown,pend,fuse,down⟩:=X;simp only at c4 c5 hf;cases down with
 |true =>
  have e1:(Dk.mk room sure shown pend fuse true).works=(14,Dk.mk room sure shown pend fuse true):=rfl;rw[e1];have LK2:Hid (Calls Tryz.prog 125 #[.pointer (some ⟨p,0,none⟩)] w fun e w'=>e = .returned (.iface 89 (.int .i64 14))∧w'=w):=LK
  go_enter Tryz.func129,Tryz.ntmps129
  go_wp2_with(go_at_call 125;refine LK2.out.mono ?_;rintro e w1 ⟨rfl,rfl⟩)
  go_ret;exact⟨rfl,za.refl _ _,D.out⟩
 |false =>
  have LK2:Hid (Calls Tryz.prog 125 #[.pointer (some ⟨p,0,none⟩)] w fun e w'=>e = .returned .nilIface∧w'=w):=LK
  by_cases h0:fuse=0
  ·subst h0
   have e1:(Dk.mk room sure shown pend 0 false).works=(14,Dk.mk room sure shown pend 0 true):=rfl;rw[e1];have HT:=zz0 (D.out.turn (i:=5) (u:=.bool true) (Y:=Dk.mk room sure shown pend 0 true) (ze1 B.out true) rfl rfl rfl rfl)
   go_enter Tryz.func129,Tryz.ntmps129
   go_wp2_with(go_at_call 125;refine LK2.out.mono ?_;rintro e w1 ⟨rfl,e1⟩;subst e1)
   go_ret;exact⟨rfl,HT.out⟩
  ·have hb0:(fuse==0)=false:=by simpa using h0
   by_cases h1:0<fuse
   ·have e1:(Dk.mk room sure shown pend fuse false).works=(0,Dk.mk room sure shown pend (fuse-1) false):=by unfold Dk.works;simp[h0,h1]
    rw[e1];have HT:=zz0 (D.out.turn (i:=4) (u:=.int .i64 (fuse-1)) (Y:=Dk.mk room sure shown pend (fuse-1) false) (zgu B.out (fuse-1)) rfl rfl rfl rfl)
    go_enter Tryz.func129,Tryz.ntmps129
    go_wp2_with(go_at_call 125;refine LK2.out.mono ?_;rintro e w1 ⟨rfl,e1⟩;subst e1)
    go_ret;exact⟨rfl,HT.out⟩
   ·have e1:(Dk.mk room sure shown pend fuse false).works=(0,Dk.mk room sure shown pend fuse false):=by unfold Dk.works;simp[h0,h1]
    rw[e1];have h2:fuse≤0:=by omega
    go_enter Tryz.func129,Tryz.ntmps129
    go_wp2_with(go_at_call 125;refine LK2.out.mono ?_;rintro e w1 ⟨rfl,e1⟩;subst e1)
    go_ret;exact⟨rfl,za.refl _ _,D.out⟩
theorem zb1 (n:zqY)(hn:n.length≤maxLen):keyOf Tryz.prog 9 (sv n)=some (.string n):=by
 have hk:=Tryz.underlying9;simp[keyOf,hk,mapKey,sv];exact hn
theorem zdL {w:World}{T:Nat→Prop}{b:Nat}{D:Fl}(h:zbA w T b D)(o:Obj):zbA (w.alloc o) T b D:=zbA.keep h ((za.refl zq2 w).alloc o) (fun e=>e) (fun _ _ e=>e) (fun _ e=>e)
theorem zni {w:World}{T:Nat→Prop}{v:Value}{l:zqY}(h:zbT w T v l)(o:Obj):zbT (w.alloc o) T v l:=h.keep ((za.refl zq2 w).alloc o) (fun _ _ e=>e) (fun _ e=>e)
theorem zau (w:World)(T:Nat→Prop):zbT w T (.slice none 0 0) []:=⟨Rd.nil w,fun g e=>by cases e⟩
theorem zcF {w w':World}{T:Nat→Prop}{b:Nat}{D:Fl}(h:zF w' 9 (zbT w T) b D)(k:za (zq3 b) w w')(hT:¬T b):zbA w' T b D :=
 zF.keep h (za.refl zq2 w') (fun e=>e) (zbT.fun1 _ _) (fun v x hx=>hx.keep k (zq3.notT hT) (fun _ e=>e))
theorem zjh (T:Nat→Prop)(b:Nat)(D:Fl)(n bytes:zqY)(v:Value)(w:World)(hm:zbA w T b D)(hT:¬T b)(hv:zbT w T v bytes)(hs:size D≤1000000)(hn:n.length≤1000)(hTl:∀g,T g→g<w.heap.size) :
 Calls Tryz.prog 68 #[.map (some b),.agg #[.int .i64 0,sv n,sv [],v]] w fun e w'=>e = .returned (.tuple #[])∧za (zq3 b) w w'∧zbA w' T b (zcz D n bytes):=by
 have law:=string_keyed Tryz.underlying9;have hkey:=zb1 n (by unfold maxLen;omega)
 have hz:=fun w=>Tryz.zeroValue43 w
 have M:=zz0 hm;have V:=zz0 hv;obtain⟨⟨a,c,rfl,_⟩,_⟩:=hv;rw[List.length_map] at V ⊢;clear hm;unfold sv at hkey ⊢
 go_enter Tryz.func68,Tryz.ntmps68
 have MW:=zz0 (zdL M.out (.cells #[.int .i64 0,.string ⟨n.toArray⟩,.string ⟨#[]⟩,.slice a (List.length bytes) c] 139));have VW:=zz0 (zni V.out (.cells #[.int .i64 0,.string ⟨n.toArray⟩,.string ⟨#[]⟩,.slice a (List.length bytes) c] 139))
 go_wp2_with(first
  |(at_lookup;refine zu rfl _ _ 104 rfl 43 law Tryz.underlying104 (hz _) [] (zbT.fun1 _ T) (zau _ _) rfl MW.out _ _ rfl hkey ?_;intro lv ly hlv hat;obtain⟨⟨la,lc,rfl,_⟩,_⟩:=hlv;clear hat)
  |(at_mapUpdate;refine zbS rfl _ _ _ 104 rfl 43 law Tryz.underlying104 (zbT.fun1 _ T) rfl MW.out (by unfold maxLen;omega) _ _ _ rfl rfl hkey bytes VW.out ?_;intro w1 hm1 ht1;have M1:=zz0 hm1;have K1:=zz0 (zav ht1);clear hm1 ht1))
 go_end0
 exact⟨rfl,((za.refl _ _).alloc _).trans1 K1.out,zcF M1.out K1.out hT⟩
theorem zhj (T:Nat→Prop)(b:Nat)(D:Fl)(n m:zqY)(w:World)(hm:zbA w T b D)(hT:¬T b)(hs:size D≤1000000)(hn:n.length≤1000)(hn2:m.length≤1000)(hTl:∀g,T g→g<w.heap.size)(hh:zz D n=true) :
 Calls Tryz.prog 68 #[.map (some b),.agg #[.int .i64 1,sv n,sv m,.slice none 0 0]] w fun e w'=>e = .returned (.tuple #[])∧za (zq3 b) w w'∧zbA w' T b (zcz (zcp D n) m (zat D n)):=by
 have law:=string_keyed Tryz.underlying9;have hkey:=zb1 n (by unfold maxLen;omega)
 have hkey2:=zb1 m (by unfold maxLen;omega)
 have hz:=fun w=>Tryz.zeroValue43 w
 have hhas:has D (.string n)=true:=hh;have M:=zz0 hm;clear hm;unfold sv at hkey hkey2 ⊢
 go_enter Tryz.func68,Tryz.ntmps68
 have MW:=zz0 (zdL M.out (.cells #[.int .i64 1,.string ⟨n.toArray⟩,.string ⟨m.toArray⟩,.slice none 0 0] 139))
 go_wp2_with(first
  |(at_lookup;refine zu rfl _ _ 104 rfl 43 law Tryz.underlying104 (hz _) [] (zbT.fun1 _ T) (zau _ _) rfl MW.out _ _ rfl hkey ?_;rw[hhas];intro lv ly hlv hat;have LV:=zz0 hlv;have HAT:=zz0 hat;obtain⟨⟨la,lc,rfl,_⟩,_⟩:=hlv;rw[List.length_map] at LV;clear hat)
  |(at_delete;refine zdt rfl _ _ 104 rfl 43 law Tryz.underlying104 rfl MW.out _ _ rfl hkey ?_;intro w1 hm1 ht1;have K1:=zz0 (zav ht1);have M1:=zz0 (zcF hm1 K1.out hT);have cb:w1.cell? ⟨w.heap.size,2,none⟩=some (.string ⟨m.toArray⟩):=(World.cell?_of_block (K1.out.block w.heap.size (by simp) (fun e=>by have:=zF.lt M.out;unfold zq3 at e;omega))).trans (World.cell?_alloc_new _ _ _ 2);clear hm1 ht1)
  |(at_mapUpdate;refine zbS rfl _ _ _ 104 rfl 43 law Tryz.underlying104 (zbT.fun1 _ T) rfl M1.out (by have:=zcN (n:=n) (World.ownsMap.isMap M.out);unfold maxLen;show size (zcp D n)<_;omega) _ _ _ rfl rfl hkey2 ly (LV.out.keep K1.out (zq3.notT hT) (fun _ e=>e)) ?_;intro w2 hm2 ht2;have K2:=zz0 (zav ht2);have M2:=zz0 (zcF hm2 K2.out hT);clear hm2 ht2))
 go_end0
 have e:zat D n=ly:=by unfold zat;rw[HAT.out];rfl
 rw[e];exact⟨rfl,(((za.refl _ _).alloc _).trans1 K1.out).trans1 K2.out,M2.out⟩
theorem zhk (T:Nat→Prop)(b:Nat)(D:Fl)(n m:zqY)(w:World)(hm:zbA w T b D)(hT:¬T b)(hs:size D≤1000000)(hn:n.length≤1000)(hn2:m.length≤1000)(hTl:∀g,T g→g<w.heap.size)(hh:zz D n=false) :
 Calls Tryz.prog 68 #[.map (some b),.agg #[.int .i64 1,sv n,sv m,.slice none 0 0]] w fun e w'=>e = .returned (.tuple #[])∧za (zq3 b) w w'∧zbA w' T b (D):=by
 have law:=string_keyed Tryz.underlying9;have hkey:=zb1 n (by unfold maxLen;omega)
 have hkey2:=zb1 m (by unfold maxLen;omega)
 have hz:=fun w=>Tryz.zeroValue43 w
 have hhas:has D (.string n)=false:=hh;have M:=zz0 hm;clear hm;unfold sv at hkey hkey2 ⊢
 go_enter Tryz.func68,Tryz.ntmps68
 have MW:=zz0 (zdL M.out (.cells #[.int .i64 1,.string ⟨n.toArray⟩,.string ⟨m.toArray⟩,.slice none 0 0] 139))
 go_wp2_with(first
  |(at_lookup;refine zu rfl _ _ 104 rfl 43 law Tryz.underlying104 (hz _) [] (zbT.fun1 _ T) (zau _ _) rfl MW.out _ _ rfl hkey ?_;rw[hhas];intro lv ly hlv hat;have LV:=zz0 hlv;have HAT:=zz0 hat;obtain⟨⟨la,lc,rfl,_⟩,_⟩:=hlv;rw[List.length_map] at LV;clear hat)
  |fail)
 go_end0
 exact⟨rfl,(za.refl _ _).alloc _,MW.out⟩
theorem zhh (T:Nat→Prop)(b:Nat)(D:Fl)(n:zqY)(w:World)(hm:zbA w T b D)(hT:¬T b)(hs:size D≤1000000)(hn:n.length≤1000)(hTl:∀g,T g→g<w.heap.size)(hh:zz D n=true) :
 Calls Tryz.prog 68 #[.map (some b),.agg #[.int .i64 2,sv n,sv [],.slice none 0 0]] w fun e w'=>e = .returned (.tuple #[])∧za (zq3 b) w w'∧zbA w' T b (zcp D n):=by
 have law:=string_keyed Tryz.underlying9;have hkey:=zb1 n (by unfold maxLen;omega)
 have hz:=fun w=>Tryz.zeroValue43 w
 have hhas:has D (.string n)=true:=hh;have M:=zz0 hm;clear hm;unfold sv at hkey ⊢
 go_enter Tryz.func68,Tryz.ntmps68
 have MW:=zz0 (zdL M.out (.cells #[.int .i64 2,.string ⟨n.toArray⟩,.string ⟨#[]⟩,.slice none 0 0] 139))
 go_wp2_with(first
  |(at_lookup;refine zu rfl _ _ 104 rfl 43 law Tryz.underlying104 (hz _) [] (zbT.fun1 _ T) (zau _ _) rfl MW.out _ _ rfl hkey ?_;rw[hhas];intro lv ly hlv hat;have LV:=zz0 hlv;have HAT:=zz0 hat;obtain⟨⟨la,lc,rfl,_⟩,_⟩:=hlv;rw[List.length_map] at LV;clear hat)
  |(at_delete;refine zdt rfl _ _ 104 rfl 43 law Tryz.underlying104 rfl MW.out _ _ rfl hkey ?_;intro w1 hm1 ht1;have K1:=zz0 (zav ht1);have M1:=zz0 (zcF hm1 K1.out hT);clear hm1 ht1))
 go_end0
 exact⟨rfl,((za.refl _ _).alloc _).trans1 K1.out,M1.out⟩
theorem zhi (T:Nat→Prop)(b:Nat)(D:Fl)(n:zqY)(w:World)(hm:zbA w T b D)(hT:¬T b)(hs:size D≤1000000)(hn:n.length≤1000)(hTl:∀g,T g→g<w.heap.size)(hh:zz D n=false) :
 Calls Tryz.prog 68 #[.map (some b),.agg #[.int .i64 2,sv n,sv [],.slice none 0 0]] w fun e w'=>e = .returned (.tuple #[])∧za (zq3 b) w w'∧zbA w' T b (D):=by
 have law:=string_keyed Tryz.underlying9;have hkey:=zb1 n (by unfold maxLen;omega)
 have hz:=fun w=>Tryz.zeroValue43 w
 have hhas:has D (.string n)=false:=hh;have M:=zz0 hm;clear hm;unfold sv at hkey ⊢
 go_enter Tryz.func68,Tryz.ntmps68
 have MW:=zz0 (zdL M.out (.cells #[.int .i64 2,.string ⟨n.toArray⟩,.string ⟨#[]⟩,.slice none 0 0] 139))
 go_wp2_with(first
  |(at_lookup;refine zu rfl _ _ 104 rfl 43 law Tryz.underlying104 (hz _) [] (zbT.fun1 _ T) (zau _ _) rfl MW.out _ _ rfl hkey ?_;rw[hhas];intro lv ly hlv hat;have LV:=zz0 hlv;have HAT:=zz0 hat;obtain⟨⟨la,lc,rfl,_⟩,_⟩:=hlv;rw[List.length_map] at LV;clear hat)
  |fail)
 go_end0
 exact⟨rfl,(za.refl _ _).alloc _,MW.out⟩
def leftSum (left:Lit→Bool)(es:List (Lit×DataW zqY)):Nat:=(es.map (fun p=>if left p.1 then (heldB p.2).length else 0)).sum
theorem zfd (left:Lit→Bool)(kl:Lit)(d:DataW zqY):∀es:List (Lit×DataW zqY),es.Pairwise (fun p q=>p.1≠q.1)→(∀zd,(DataW.map es).atKey kl zd=d)→left kl=true →
 leftSum left es=(heldB d).length+leftSum (fun z=>left z && !z.sameKey kl) es
 |[],_,h,_=>by
  have h1:=h .nil;have h2:=h (.held []);have e:(DataW.nil:DataW zqY) = .held []:=h1.trans h2.symm;cases e
 |y::r,hp,h,hl=>by
  obtain⟨hp1,hp2⟩:=List.pairwise_cons.1 hp;unfold leftSum;rw[List.map_cons,List.map_cons,List.sum_cons,List.sum_cons];cases hy:y.1.sameKey kl with
  |true =>
   have e:y.1=kl:=WideAt.sameKey_eq hy;have hd:y.2=d:=by
    have:=h .nil;simpa [DataW.atKey,hy] using this
   have hr:(r.map (fun p=>if (left p.1 && !p.1.sameKey kl) then (heldB p.2).length else 0))=r.map (fun p=>if left p.1 then (heldB p.2).length else 0):=by
    apply List.map_congr_left
    intro p hpm;have hne:p.1.sameKey kl=false:=by
     cases hs:p.1.sameKey kl
     ·rfl
     ·exact absurd (e.trans (WideAt.sameKey_eq hs).symm) (hp1 p hpm)
    simp[hne]
   rw[hr,hd,e,hl];simp;cases hk:kl.sameKey kl
   ·rw[e,hk] at hy;cases hy
   ·simp
  |false =>
   have ih:=zfd left kl d r hp2 (fun zd=>by have:=h zd;simpa [DataW.atKey,hy] using this) hl
   unfold leftSum at ih;rw[ih];simp only[hy,Bool.not_false,Bool.and_true];omega
theorem zhw (left:Lit→Bool)(h:∀k,left k=false)(es:List (Lit×DataW zqY)):leftSum left es=0:=by
 induction es with
 |nil=>rfl
 |cons y r ih=>simp[leftSum,h] at ih ⊢;exact ih
theorem zit (es:List (Lit×DataW zqY))(hk:∀p ∈ es,WideAt.IsKeyLit p.1):leftSum (has (.map es)) es=fused (.map es):=by
 unfold leftSum fused
 congr 1
 apply List.map_congr_left
 intro p hp;have:has (.map es) p.1=true:=List.any_eq_true.2 ⟨p,hp,WideAt.sameKey_self (hk p hp)⟩;rw[if_pos this]
theorem zpA {key:Value}{kl:Lit}(h:keyOf Tryz.prog 9 key=some kl):∃x:ByteArray,key = .string x:=by
 have hk:=Tryz.underlying9;cases key<;>simp[keyOf,hk,mapKey] at h
 exact⟨_,rfl⟩
theorem znD {w:World}{T:Nat→Prop}{v:Value}{y:DataW zqY×List MemPlace}(h:readAs (zbT w T) v=some y):∃c:Option Addr×Nat×Nat,v = .slice c.1 c.2.1 c.2.2:=by
 obtain⟨y1,y2⟩:=y;obtain⟨_,l,_,hb,_⟩:=zbo h;obtain⟨a,c,rfl,_⟩:=hb;exact⟨(a,_,c),rfl⟩
theorem zeC (T:Nat→Prop)(h:Nat)(D:Fl)(w:World)(hm:zbA w T h D)(hb:fused D≤1000000000) :
 Calls Tryz.prog 238 #[.map (some h)] w fun e w'=>e = .returned (.int .i64 (fused D))∧za zq2 w w':=by
 have law:=string_keyed Tryz.underlying9;have M:=zz0 hm;obtain⟨es,rfl,hpw,hkeys⟩:=World.ownsMap.canon hm law;clear hm
 go_enter Tryz.func238,Tryz.ntmps238
 go_wp2_with(at_range;refine wpList_range_own _ rfl _ 104 rfl 9 43 law Tryz.underlying104 _ h _ _ rfl M.out ?_;intro w0 hrg0 hg0 hs0)
 go_frame
 have LS:=zz0 (zit es hkeys);have PW:=zz0 (apart_of_rising hpw);have HR:=zz0 hrg0;have K0:=zz0 ((za.refl zq2 w).grown hg0 (row:=none) (fun k e=>by cases e))
 clear hrg0 hg0 hkeys hpw
 go_loopw [3] (fun o wr=>∃left cnt acc,wr.ranges Tryz.prog 9 (readAs (zbT w T)) h w.heap.size (size (.map es)) (.map es) left cnt∧o = .int .i64 ((acc:Nat):Int)∧acc+leftSum left es=fused (.map es)∧za zq2 w wr) (fun _ wr=>wr.rangeLeft h w.heap.size)
 case atStart=>exact⟨_,_,0,HR.out,rfl,by rw[LS.out,Nat.zero_add],K0.out⟩
 case round =>
  obtain⟨left,cnt,acc,hrg,rfl,hacc,hk⟩:=hrel;have RG:=zz0 hrg;have K:=zz0 hk;have ACC:=zz0 hacc;have hb2:acc≤1000000000:=by omega
  clear hrg hk
  go_wp2_with(at_next;refine wpList_next_ranges (α:=ByteArray) (β:=Option Addr×Nat×Nat) _ rfl _ rfl 9 law (readAs (zbT w T)) (fun x=>.string x) (fun c=>.slice c.1 c.2.1 c.2.2) (fun _ _ h=>zpA h) (fun _ _ h=>znD h) h w.heap.size _ _ _ _ rfl RG.out ?_ ?_)
  ·intro hc0 hl0
   have e0:acc=fused (.map es):=by have:=ACC.out;rw[zhw _ hl0] at this;omega
   subst e0
   go_wp2_with fail
   go_ret;exact⟨rfl,K.out⟩
  ·intro x c1 c2 c3 kl y1 y2 w1 cnt1 hkx hlx hR hat hrg1 hlt hg1 hs1 hen
   obtain⟨_,l,rfl,hbs,_⟩:=zbo hR;have hl2:c2=l.length:=by obtain⟨a,c,e,_⟩:=hbs;injection e with _ e _;rw[e,List.length_map]
   subst hl2;have A1:Hid (acc+l.length+leftSum (fun z=>left z && !z.sameKey kl) es=fused (.map es)):=zz0 (by rw[←ACC.out,zfd left kl _ es PW.out hat hlx];simp[heldB];omega)
   have hb3:acc+l.length≤1000000000:=by have:=A1.out;omega
   have K1:=zz0 (K.out.grown hg1 (fun k e=>by injection e with e;subst e;exact .inr (Nat.le_refl _)))
   have RG1:=zz0 hrg1;have HLT:Hid (w1.rangeLeft h w.heap.size<wr.rangeLeft h w.heap.size):=zz0 (by rw[hrg1.left_eq,RG.out.left_eq];exact hlt)
   clear hacc;clear hkx hlx hR hat hrg1 hlt hg1 hs1 hbs ACC RG K
   go_wp2_with fail
   exact⟨⟨_,_,acc+l.length,RG1.out,by go_num,A1.out,K1.out⟩,HLT.out⟩
end Go.Proofs.YtpojgmeoaflmoaaGreatDoor
