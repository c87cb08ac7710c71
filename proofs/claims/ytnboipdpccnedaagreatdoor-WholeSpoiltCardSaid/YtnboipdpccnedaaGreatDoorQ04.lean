/- Files, in plain words: a map from names to bytes; a disk, and what its operations do. · A disk in memory; whether it may be looked at, whether an oper -/
import Derived.Maps.RangeWalk
import Derived.Maps.Ext
import Derived.Test.YtnboipdpccnedaaGreatDoorQ03
set_option linter.unusedVariables false
set_option maxRecDepth 100000
set_option maxHeartbeats 16000000
namespace Go.Proofs.YtnboipdpccnedaaGreatDoor
open Go.RowKit Go.Maps
abbrev Byt:=List UInt8
abbrev Fl:=DataW Byt
def fhas (D:Fl) (n:Byt):Bool:=has D (.string n)
def heldB:DataW Byt→Byt
  | .held l=>l
  | _=>[]
def fget (D:Fl) (n:Byt):Byt:=heldB (D.atKey (.string n) (.held []))
def fput (D:Fl) (n b:Byt):Fl:=D.put (.string n) (.held b)
def fdel (D:Fl) (n:Byt):Fl:=D.del (.string n)
def fused:Fl→Nat
  | .map es=>(es.map (fun p=>(heldB p.2).length)).sum
  | _=>0
section
variable {D : Fl} {n m b : Byt}
theorem isKey (n:Byt):WideAt.IsKeyLit (.string n):=trivial
theorem zh2 (h:m≠n):(Lit.string m)≠.string n:=fun e=>h (by injection e)
theorem zbK (h:IsMap D):fhas (fput D n b) n=true:=has_put_same h (isKey n) _
theorem zbv (h:m≠n):fhas (fput D n b) m=fhas D m:=has_put_other (zh2 h) _
theorem zbJ:fhas (fdel D n) n=false:=has_del_same
theorem zaW (h:m≠n):fhas (fdel D n) m=fhas D m:=has_del_other (zh2 h)
theorem zbI (h:IsMap D):fget (fput D n b) n=b:=by unfold fget fput;rw [atKey_put_same h (isKey n)];rfl
theorem zcv (h:m≠n):fget (fput D n b) m=fget D m:=by unfold fget fput;rw [atKey_put_other (zh2 h)]
theorem zbu (h:m≠n):fget (fdel D n) m=fget D m:=by unfold fget fdel;rw [atKey_del_other (zh2 h)]
theorem zcM (h:IsMap D):IsMap (fput D n b):=h.put _ _
theorem zbo (h:IsMap D):IsMap (fdel D n):=h.del _
theorem zfh (f:Lit × DataW Byt→Nat) (x:Lit × DataW Byt):∀ l:List (Lit × DataW Byt),((DataW.insert x l).map f).sum=f x+(l.map f).sum
  | []=>rfl
  | y :: r=>by
    unfold DataW.insert
    split
    · rfl
    · simp only [List.map_cons,List.sum_cons,zfh f x r]
      omega
theorem zdg (f:Lit × DataW Byt→Nat) (p:Lit × DataW Byt→Bool):∀ l:List (Lit × DataW Byt),((l.filter p).map f).sum≤(l.map f).sum
  | []=>Nat.le_refl _
  | y :: r=>by
    have:=zdg f p r
    simp only [List.filter_cons]
    split
    · simp only [List.map_cons,List.sum_cons];omega
    · simp only [List.map_cons,List.sum_cons];omega
theorem zdk (h:IsMap D):fused (fput D n b)≤fused D+b.length:=by
  obtain ⟨es,rfl⟩:=h
  show ((DataW.insert _ _).map _).sum≤(es.map _).sum+_
  rw [zfh,Nat.add_comm]
  exact Nat.add_le_add_right (zdg _ _ es) _
theorem zb2 (h:IsMap D):fused (fdel D n)≤fused D:=by
  obtain ⟨es,rfl⟩:=h
  exact zdg _ _ es
theorem zeD (h:IsMap D):size (fput D n b)≤size D+1:=by
  obtain ⟨es,rfl⟩:=h
  show (DataW.insert _ _).length≤es.length+1
  rw [length_insert]
  have:=List.length_filter_le (fun p:Lit × DataW Byt=>!p.1.sameKey (.string n)) es
  omega
theorem zbT (h:IsMap D):size (fdel D n)≤size D:=by
  obtain ⟨es,rfl⟩:=h
  exact List.length_filter_le _ es
end
inductive Chg where
  | write (n b:Byt)
  | rename (n m:Byt)
  | remove (n:Byt)
def Chg.on:Chg→Fl→Fl
  | .write n b,D=>fput D n b
  | .rename n m,D=>if fhas D n then fput (fdel D n) m (fget D n) else D
  | .remove n,D=>if fhas D n then fdel D n else D
structure Dk where
  room:Nat
  sure:Fl
  shown:Fl
  pend:List Chg
  fuse:Int
  down:Bool
namespace Dk
def works (d:Dk):Int × Dk :=
  if d.down=true then (14,d) else if d.fuse=0 then (14,{ d with down:=true }) else (0,{ d with fuse:=if 0 < d.fuse then d.fuse - 1 else d.fuse })
def add (d:Dk) (c:Chg):Dk:={ d with pend:=d.pend ++ [c],shown:=c.on d.shown }
def full (d:Dk) (n b:Byt):Prop:=(fhas d.shown n=false∧512≤size d.shown)∨d.room+(fget d.shown n).length < fused d.shown+b.length
instance (d:Dk) (n b:Byt):Decidable (d.full n b):=inferInstanceAs (Decidable (_∨_))
def write (d:Dk) (n b:Byt):Int × Dk :=
  if d.works.1≠0 then d.works else if 65536 < b.length then (3,d.works.2) else if d.works.2.full n b then (5,d.works.2) else (0,d.works.2.add (.write n b))
def rename (d:Dk) (n m:Byt):Int × Dk :=
  if d.works.1≠0 then d.works else if fhas d.works.2.shown n then (0,d.works.2.add (.rename n m)) else (4,d.works.2)
def remove (d:Dk) (n:Byt):Int × Dk :=
  if d.works.1≠0 then d.works else if fhas d.works.2.shown n then (0,d.works.2.add (.remove n)) else (4,d.works.2)
def sync (d:Dk):Int × Dk :=
  if d.works.1≠0 then d.works else (0,{ d.works.2 with sure:=d.works.2.shown,pend:=[] })
def looks (d:Dk):Int:=if d.down=true then 14 else 0
end Dk
def dk0 (room:Nat):Dk:=⟨room,.map [],.map [],[],-1,false⟩
def tilde (n:Byt):Byt:=126 :: n
namespace Dk
def sput (d:Dk) (n b:Byt):Int × Dk :=
  if (d.write (tilde n) b).1≠0 then d.write (tilde n) b
  else if (d.write (tilde n) b).2.sync.1≠0 then (d.write (tilde n) b).2.sync
  else if ((d.write (tilde n) b).2.sync.2.rename (tilde n) n).1≠0 then (d.write (tilde n) b).2.sync.2.rename (tilde n) n
  else ((d.write (tilde n) b).2.sync.2.rename (tilde n) n).2.sync
def sdel (d:Dk) (n:Byt):Int × Dk:=if (d.remove n).1≠0 then d.remove n else (d.remove n).2.sync
end Dk
end Go.Proofs.YtnboipdpccnedaaGreatDoor
namespace Go.Proofs.YtnboipdpccnedaaGreatDoor
open Go.RowKit Go.Maps
def DkB (room:Int) (s h:Nat) (pv:Value) (fuse:Int) (down:Bool):Obj:=.cells #[.int .i64 room,.map (some s),.map (some h),pv,.int .i64 fuse,.bool down] 135 (0,0)
section
variable {w : World} {p s h : Nat} {room fuse : Int} {pv : Value} {down : Bool}
theorem dk_0 (e:w.heap[p]? = some (DkB room s h pv fuse down)):w.cell? ⟨p,0,none⟩=some (.int .i64 room):=by simp [World.cell?,e,DkB]
theorem dk_1 (e:w.heap[p]? = some (DkB room s h pv fuse down)):w.cell? ⟨p,1,none⟩=some (.map (some s)):=by simp [World.cell?,e,DkB]
theorem dk_2 (e:w.heap[p]? = some (DkB room s h pv fuse down)):w.cell? ⟨p,2,none⟩=some (.map (some h)):=by simp [World.cell?,e,DkB]
theorem dk_3 (e:w.heap[p]? = some (DkB room s h pv fuse down)):w.cell? ⟨p,3,none⟩=some pv:=by simp [World.cell?,e,DkB]
theorem dk_4 (e:w.heap[p]? = some (DkB room s h pv fuse down)):w.cell? ⟨p,4,none⟩=some (.int .i64 fuse):=by simp [World.cell?,e,DkB]
theorem dk_5 (e:w.heap[p]? = some (DkB room s h pv fuse down)):w.cell? ⟨p,5,none⟩=some (.bool down):=by simp [World.cell?,e,DkB]
theorem dk_f (e:w.heap[p]? = some (DkB room s h pv fuse down)) (i:Nat):w.frozen? ⟨p,i,none⟩=false:=by simp [World.frozen?,e,DkB]
theorem zoa (e:w.heap[p]? = some (DkB room s h pv fuse down)) (k:Nat):(w.setCell ⟨p,1,none⟩ (.map (some k))).heap[p]? = some (DkB room k h pv fuse down):=zaf e 1 _
theorem zfr (e:w.heap[p]? = some (DkB room s h pv fuse down)) (v:Value):(w.setCell ⟨p,3,none⟩ v).heap[p]? = some (DkB room s h v fuse down):=zaf e 3 _
theorem zjW (e:w.heap[p]? = some (DkB room s h pv fuse down)) (k:Int):(w.setCell ⟨p,4,none⟩ (.int .i64 k)).heap[p]? = some (DkB room s h pv k down):=zaf e 4 _
theorem zjX (e:w.heap[p]? = some (DkB room s h pv fuse down)) (k:Bool):(w.setCell ⟨p,5,none⟩ (.bool k)).heap[p]? = some (DkB room s h pv fuse k):=zaf e 5 _
end
def sv (n:Byt):Value:=.string ⟨n.toArray⟩
def ChgV (w:World) (T:Nat→Prop):Chg→List Value→Prop
  | .write n b,l=>∃ v,l = [.int .i64 0,sv n,sv [],v]∧BsIn w T v b
  | .rename n m,l=>l = [.int .i64 1,sv n,sv m,.slice none 0 0]
  | .remove n,l=>l = [.int .i64 2,sv n,sv [],.slice none 0 0]
def PendAt (w:World) (T:Nat→Prop) (pv:Value) (cs:List Chg):Prop :=
  ∃ xs:List (List Value),w.ownsRow 0 151 4 pv cs.length xs.flatten∧xs.length=cs.length∧∀ (i:Nat) c l,cs[i]? = some c→xs[i]? = some l→ChgV w T c l
abbrev FlAt (w:World) (T:Nat→Prop) (b:Nat) (D:Fl):Prop:=MapAt w 9 (BsIn w T) b D
structure DiskIn (F T:Nat→Prop) (w:World) (p s h:Nat) (pv:Value) (X:Dk):Prop where
  blk:w.heap[p]? = some (DkB X.room s h pv X.fuse X.down)
  sure:FlAt w T s X.sure
  shown:FlAt w T h X.shown
  pend:PendAt w T pv X.pend
  inF:F p∧F s∧F h∧(∀ g,pv.ownBlock=some g→F g)∧∀ g,T g→F g
  apart:s≠h∧p≠s∧p≠h∧∀ g,pv.ownBlock=some g→g≠p∧g≠s∧g≠h
  outT:¬ T p∧¬ T s∧¬ T h∧(∀ g,pv.ownBlock=some g→¬ T g)∧∀ g,T g→g < w.heap.size
  room:X.room≤1073741824
def DiskAt (F:Nat→Prop) (w:World) (p:Nat) (X:Dk):Prop:=∃ T s h pv,DiskIn F T w p s h pv X
theorem ChgV.keep {w w':World} {S T U:Nat→Prop} {c:Chg} {l:List Value} (h:ChgV w T c l) (k:Keep S w w') (hn:∀ g,T g→¬ S g) (hu:∀ g,T g→U g):ChgV w' U c l:=by
  cases c with
  | write n b =>
    obtain ⟨v,e,hb⟩:=h
    exact ⟨v,e,hb.keep k hn hu⟩
  | rename n m=>exact h
  | remove n=>exact h
theorem PendAt.keep {w w':World} {S T U:Nat→Prop} {pv:Value} {cs:List Chg} (h:PendAt w T pv cs) (k:Keep S w w') (hn:∀ g,T g→¬ S g) (hp:∀ g,pv.ownBlock=some g→¬ S g) (hu:∀ g,T g→U g):PendAt w' U pv cs:=by
  obtain ⟨xs,h1,h2,h3⟩:=h
  exact ⟨xs,zac h1 k hp,h2,fun i c l hc hl=>(h3 i c l hc hl).keep k hn hu⟩
theorem FlAt.keep {w w':World} {S T U:Nat→Prop} {b:Nat} {D:Fl} (h:FlAt w T b D) (k:Keep S w w') (hb:¬ S b) (hn:∀ g,T g→¬ S g) (hu:∀ g,T g→U g):FlAt w' U b D :=
  MapAt.keep h k hb (BsIn.fun1 _ _) (fun v x hx=>hx.keep k hn hu)
theorem DiskIn.keep {F T S:Nat→Prop} {w w':World} {p s h:Nat} {pv:Value} {X:Dk} (d:DiskIn F T w p s h pv X) (k:Keep S w w') (hn:∀ g,F g→¬ S g):DiskIn F T w' p s h pv X:=by
  obtain ⟨i1,i2,i3,i4,i5⟩:=d.inF
  exact ⟨k.at d.blk (hn _ i1),d.sure.keep k (hn _ i2) (fun g e=>hn _ (i5 g e)) (fun _ e=>e),d.shown.keep k (hn _ i3) (fun g e=>hn _ (i5 g e)) (fun _ e=>e),d.pend.keep k (fun g e=>hn _ (i5 g e)) (fun g e=>hn _ (i4 g e)) (fun _ e=>e),d.inF,d.apart,
    ⟨d.outT.1,d.outT.2.1,d.outT.2.2.1,d.outT.2.2.2.1,fun g e=>k.lt (d.outT.2.2.2.2 g e)⟩,d.room⟩
theorem DiskAt.keep {F S:Nat→Prop} {w w':World} {p:Nat} {X:Dk} (d:DiskAt F w p X) (k:Keep S w w') (hn:∀ g,F g→¬ S g):DiskAt F w' p X:=by
  obtain ⟨T,s,h,pv,d⟩:=d
  exact ⟨T,s,h,pv,d.keep k hn⟩
theorem ze0 (F:Nat→Prop) (p:Nat) (X:Dk) (w:World) (d:DiskAt F w p X) :
    Calls Tryz.prog 74 #[.pointer (some ⟨p,0,none⟩)] w fun e w'=>e = .returned (errv X.looks)∧w'=w:=by
  obtain ⟨T,s,h,pv,d⟩:=d
  have c5:=dk_5 d.blk
  clear d
  obtain ⟨room,sure,shown,pend,fuse,down⟩:=X
  simp only at c5
  cases down
  all_goals
    go_enter Tryz.func74,Tryz.ntmps74
    go_wp2_with fail
    go_ret
    exact ⟨rfl,rfl⟩
theorem One.notT {T:Nat→Prop} {p:Nat} (h:¬ T p):∀ g,T g→¬ One p g:=fun g e e2=>h (by rw [← e2];exact e)
theorem DiskIn.turn {F T:Nat→Prop} {w:World} {p s h i:Nat} {pv u:Value} {X Y:Dk} (d:DiskIn F T w p s h pv X) (hb:(w.setCell ⟨p,i,none⟩ u).heap[p]? = some (DkB Y.room s h pv Y.fuse Y.down))
    (h1:Y.sure=X.sure) (h2:Y.shown=X.shown) (h3:Y.pend=X.pend) (h4:Y.room=X.room):Keep (One p) w (w.setCell ⟨p,i,none⟩ u)∧DiskIn F T (w.setCell ⟨p,i,none⟩ u) p s h pv Y:=by
  have k:Keep (One p) w (w.setCell ⟨p,i,none⟩ u):=(Keep.refl _ _).setOne i u
  have hT:=One.notT d.outT.1
  refine ⟨k,hb,?_,?_,?_,d.inF,d.apart,⟨d.outT.1,d.outT.2.1,d.outT.2.2.1,d.outT.2.2.2.1,fun g e=>k.lt (d.outT.2.2.2.2 g e)⟩,by rw [h4];exact d.room⟩
  · rw [h1];exact d.sure.keep k (fun e=>d.apart.2.1 e.symm) hT (fun _ e=>e)
  · rw [h2];exact d.shown.keep k (fun e=>d.apart.2.2.1 e.symm) hT (fun _ e=>e)
  · rw [h3];exact d.pend.keep k hT (fun g e e2=>(d.apart.2.2.2 g e).1 e2) (fun _ e=>e)
theorem zaE (F T:Nat→Prop) (p s h:Nat) (pv:Value) (X:Dk) (w:World) (d:DiskIn F T w p s h pv X) (hf:X.fuse≤1000000000) :
    Calls Tryz.prog 89 #[.pointer (some ⟨p,0,none⟩)] w fun e w'=>e = .returned (errv X.works.1)∧Keep (One p) w w'∧DiskIn F T w' p s h pv X.works.2:=by
  have D:=zz0 d
  have LK:=zz0 (ze0 F p X w ⟨T,s,h,pv,d⟩)
  have c4:=dk_4 d.blk
  have c5:=dk_5 d.blk
  have f4:=dk_f d.blk 4
  have f5:=dk_f d.blk 5
  have B:=zz0 d.blk
  clear d
  obtain ⟨room,sure,shown,pend,fuse,down⟩:=X
  simp only at c4 c5 hf
  cases down with
  | true =>
    have e1:(Dk.mk room sure shown pend fuse true).works=(14,Dk.mk room sure shown pend fuse true):=rfl
    rw [e1]
    have LK2:Hid (Calls Tryz.prog 74 #[.pointer (some ⟨p,0,none⟩)] w fun e w'=>e = .returned (.iface 55 (.int .i64 14))∧w'=w):=LK
    go_enter Tryz.func89,Tryz.ntmps89
    go_wp2_with (go_at_call 74;refine LK2.out.mono ?_;rintro e w1 ⟨rfl,rfl⟩)
    go_ret
    exact ⟨rfl,Keep.refl _ _,D.out⟩
  | false =>
    have LK2:Hid (Calls Tryz.prog 74 #[.pointer (some ⟨p,0,none⟩)] w fun e w'=>e = .returned .nilIface∧w'=w):=LK
    by_cases h0:fuse=0
    · subst h0
      have e1:(Dk.mk room sure shown pend 0 false).works=(14,Dk.mk room sure shown pend 0 true):=rfl
      rw [e1]
      have HT:=zz0 (D.out.turn (i:=5) (u:=.bool true) (Y:=Dk.mk room sure shown pend 0 true) (zjX B.out true) rfl rfl rfl rfl)
      go_enter Tryz.func89,Tryz.ntmps89
      go_wp2_with (go_at_call 74;refine LK2.out.mono ?_;rintro e w1 ⟨rfl,e1⟩;subst e1)
      go_ret
      exact ⟨rfl,HT.out⟩
    · have hb0:(fuse == 0)=false:=by simpa using h0
      by_cases h1:0 < fuse
      · have e1:(Dk.mk room sure shown pend fuse false).works=(0,Dk.mk room sure shown pend (fuse - 1) false):=by unfold Dk.works;simp [h0,h1]
        rw [e1]
        have HT:=zz0 (D.out.turn (i:=4) (u:=.int .i64 (fuse - 1)) (Y:=Dk.mk room sure shown pend (fuse - 1) false) (zjW B.out (fuse - 1)) rfl rfl rfl rfl)
        go_enter Tryz.func89,Tryz.ntmps89
        go_wp2_with (go_at_call 74;refine LK2.out.mono ?_;rintro e w1 ⟨rfl,e1⟩;subst e1)
        go_ret
        exact ⟨rfl,HT.out⟩
      · have e1:(Dk.mk room sure shown pend fuse false).works=(0,Dk.mk room sure shown pend fuse false):=by unfold Dk.works;simp [h0,h1]
        rw [e1]
        have h2:fuse≤0:=by omega
        go_enter Tryz.func89,Tryz.ntmps89
        go_wp2_with (go_at_call 74;refine LK2.out.mono ?_;rintro e w1 ⟨rfl,e1⟩;subst e1)
        go_ret
        exact ⟨rfl,Keep.refl _ _,D.out⟩
def leftSum (left:Lit→Bool) (es:List (Lit × DataW Byt)):Nat:=(es.map (fun p=>if left p.1 then (heldB p.2).length else 0)).sum
theorem zeb (left:Lit→Bool) (kl:Lit) (d:DataW Byt):∀ es:List (Lit × DataW Byt),es.Pairwise (fun p q=>p.1≠q.1)→(∀ zd,(DataW.map es).atKey kl zd=d)→left kl=true →
    leftSum left es=(heldB d).length+leftSum (fun z=>left z && !z.sameKey kl) es
  | [],_,h,_=>by
    have h1:=h .nil
    have h2:=h (.held [])
    have e:(DataW.nil:DataW Byt) = .held []:=h1.trans h2.symm
    cases e
  | y :: r,hp,h,hl=>by
    obtain ⟨hp1,hp2⟩:=List.pairwise_cons.1 hp
    unfold leftSum
    rw [List.map_cons,List.map_cons,List.sum_cons,List.sum_cons]
    cases hy:y.1.sameKey kl with
    | true =>
      have e:y.1=kl:=WideAt.sameKey_eq hy
      have hd:y.2=d:=by
        have:=h .nil
        simpa [DataW.atKey,hy] using this
      have hr:(r.map (fun p=>if (left p.1 && !p.1.sameKey kl) then (heldB p.2).length else 0))=r.map (fun p=>if left p.1 then (heldB p.2).length else 0):=by
        apply List.map_congr_left
        intro p hpm
        have hne:p.1.sameKey kl=false:=by
          cases hs:p.1.sameKey kl
          · rfl
          · exact absurd (e.trans (WideAt.sameKey_eq hs).symm) (hp1 p hpm)
        simp [hne]
      rw [hr,hd,e,hl]
      simp
      cases hk:kl.sameKey kl
      · rw [e,hk] at hy;cases hy
      · simp
    | false =>
      have ih:=zeb left kl d r hp2 (fun zd=>by have:=h zd;simpa [DataW.atKey,hy] using this) hl
      unfold leftSum at ih
      rw [ih]
      simp only [hy,Bool.not_false,Bool.and_true]
      omega
theorem zgh (left:Lit→Bool) (h:∀ k,left k=false) (es:List (Lit × DataW Byt)):leftSum left es=0:=by
  induction es with
  | nil=>rfl
  | cons y r ih=>simp [leftSum,h] at ih ⊢;exact ih
theorem zg8 (es:List (Lit × DataW Byt)) (hk:∀ p ∈ es,WideAt.IsKeyLit p.1):leftSum (has (.map es)) es=fused (.map es):=by
  unfold leftSum fused
  congr 1
  apply List.map_congr_left
  intro p hp
  have:has (.map es) p.1=true:=List.any_eq_true.2 ⟨p,hp,WideAt.sameKey_self (hk p hp)⟩
  rw [if_pos this]
theorem zoq {key:Value} {kl:Lit} (h:keyOf Tryz.prog 9 key=some kl):∃ x:ByteArray,key = .string x:=by
  have hk:=Tryz.underlying9
  cases key <;> simp [keyOf,hk,mapKey] at h
  exact ⟨_,rfl⟩
theorem zme {w:World} {T:Nat→Prop} {v:Value} {y:DataW Byt × List MemPlace} (h:readAs (BsIn w T) v=some y):∃ c:Option Addr × Nat × Nat,v = .slice c.1 c.2.1 c.2.2:=by
  obtain ⟨y1,y2⟩:=y
  obtain ⟨_,l,_,hb,_⟩:=zbj h
  obtain ⟨a,c,rfl,_⟩:=hb
  exact ⟨(a,_,c),rfl⟩
theorem zdC (T:Nat→Prop) (h:Nat) (D:Fl) (w:World) (hm:FlAt w T h D) (hb:fused D≤1000000000) :
    Calls Tryz.prog 90 #[.map (some h)] w fun e w'=>e = .returned (.int .i64 (fused D))∧Keep Non w w':=by
  have law:=string_keyed Tryz.underlying9
  have M:=zz0 hm
  obtain ⟨es,rfl,hpw,hkeys⟩:=World.ownsMap.canon hm law
  clear hm
  go_enter Tryz.func90,Tryz.ntmps90
  go_wp2_with (at_range;refine wpList_range_own _ rfl _ 132 rfl 9 44 law Tryz.underlying132 _ h _ _ rfl M.out ?_;intro w0 hrg0 hg0 hs0)
  go_frame
  have LS:=zz0 (zg8 es hkeys)
  have PW:=zz0 (apart_of_rising hpw)
  have HR:=zz0 hrg0
  have K0:=zz0 ((Keep.refl Non w).grown hg0 (row:=none) (fun k e=>by cases e))
  clear hrg0 hg0 hkeys hpw
  go_loopw [3] (fun o wr=>∃ left cnt acc,wr.ranges Tryz.prog 9 (readAs (BsIn w T)) h w.heap.size (size (.map es)) (.map es) left cnt∧o = .int .i64 ((acc:Nat):Int)∧acc+leftSum left es=fused (.map es)∧Keep Non w wr) (fun _ wr=>wr.rangeLeft h w.heap.size)
  case atStart=>exact ⟨_,_,0,HR.out,rfl,by rw [LS.out,Nat.zero_add],K0.out⟩
  case round =>
    obtain ⟨left,cnt,acc,hrg,rfl,hacc,hk⟩:=hrel
    have RG:=zz0 hrg
    have K:=zz0 hk
    have ACC:=zz0 hacc
    have hb2:acc≤1000000000:=by omega
    clear hrg hk
    go_wp2_with (at_next;refine wpList_next_ranges (α:=ByteArray) (β:=Option Addr × Nat × Nat) _ rfl _ rfl 9 law (readAs (BsIn w T)) (fun x=>.string x) (fun c=>.slice c.1 c.2.1 c.2.2) (fun _ _ h=>zoq h) (fun _ _ h=>zme h) h w.heap.size _ _ _ _ rfl RG.out ?_ ?_)
    · intro hc0 hl0
      have e0:acc=fused (.map es):=by have:=ACC.out;rw [zgh _ hl0] at this;omega
      subst e0
      go_wp2_with fail
      go_ret
      exact ⟨rfl,K.out⟩
    · intro x c1 c2 c3 kl y1 y2 w1 cnt1 hkx hlx hR hat hrg1 hlt hg1 hs1 hen
      obtain ⟨_,l,rfl,hbs,_⟩:=zbj hR
      have hl2:c2=l.length:=by obtain ⟨a,c,e,_⟩:=hbs;injection e with _ e _;rw [e,List.length_map]
      subst hl2
      have A1:Hid (acc+l.length+leftSum (fun z=>left z && !z.sameKey kl) es=fused (.map es)):=zz0 (by rw [← ACC.out,zeb left kl _ es PW.out hat hlx];simp [heldB];omega)
      have hb3:acc+l.length≤1000000000:=by have:=A1.out;omega
      have K1:=zz0 (K.out.grown hg1 (fun k e=>by injection e with e;subst e;exact .inr (Nat.le_refl _)))
      have RG1:=zz0 hrg1
      have HLT:Hid (w1.rangeLeft h w.heap.size < wr.rangeLeft h w.heap.size):=zz0 (by rw [hrg1.left_eq,RG.out.left_eq];exact hlt)
      clear hacc
      clear hkx hlx hR hat hrg1 hlt hg1 hs1 hbs ACC RG K
      go_wp2_with fail
      exact ⟨⟨_,_,acc+l.length,RG1.out,by go_num,A1.out,K1.out⟩,HLT.out⟩
theorem zbX (n:Byt) (hn:n.length≤maxLen):keyOf Tryz.prog 9 (sv n)=some (.string n):=by
  have hk:=Tryz.underlying9
  simp [keyOf,hk,mapKey,sv]
  exact hn
theorem zfw {w:World} {T:Nat→Prop} {b:Nat} {D:Fl} (h:FlAt w T b D) (o:Obj):FlAt (w.alloc o) T b D:=FlAt.keep h ((Keep.refl Non w).alloc o) (fun e=>e) (fun _ _ e=>e) (fun _ e=>e)
theorem zlX {w:World} {T:Nat→Prop} {v:Value} {l:Byt} (h:BsIn w T v l) (o:Obj):BsIn (w.alloc o) T v l:=h.keep ((Keep.refl Non w).alloc o) (fun _ _ e=>e) (fun _ e=>e)
theorem zaP (w:World) (T:Nat→Prop):BsIn w T (.slice none 0 0) []:=⟨Rd.nil w,fun g e=>by cases e⟩
theorem zbL {w w':World} {T:Nat→Prop} {b:Nat} {D:Fl} (h:MapAt w' 9 (BsIn w T) b D) (k:Keep (One b) w w') (hT:¬ T b):FlAt w' T b D :=
  MapAt.keep h (Keep.refl Non w') (fun e=>e) (BsIn.fun1 _ _) (fun v x hx=>hx.keep k (One.notT hT) (fun _ e=>e))
theorem zl9 (T:Nat→Prop) (b:Nat) (D:Fl) (n bytes:Byt) (v:Value) (w:World) (hm:FlAt w T b D) (hT:¬ T b) (hv:BsIn w T v bytes) (hs:size D≤1000000) (hn:n.length≤1000) (hTl:∀ g,T g→g < w.heap.size) :
    Calls Tryz.prog 71 #[.map (some b),.agg #[.int .i64 0,sv n,sv [],v]] w fun e w'=>e = .returned (.tuple #[])∧Keep (One b) w w'∧FlAt w' T b (fput D n bytes):=by
  have law:=string_keyed Tryz.underlying9
  have hkey:=zbX n (by unfold maxLen;omega)
  have hz:=fun w=>Tryz.zeroValue44 w
  have M:=zz0 hm
  have V:=zz0 hv
  obtain ⟨⟨a,c,rfl,_⟩,_⟩:=hv
  rw [List.length_map] at V ⊢
  clear hm
  unfold sv at hkey ⊢
  go_enter Tryz.func71,Tryz.ntmps71
  have MW:=zz0 (zfw M.out (.cells #[.int .i64 0,.string ⟨n.toArray⟩,.string ⟨#[]⟩,.slice a (List.length bytes) c] 151))
  have VW:=zz0 (zlX V.out (.cells #[.int .i64 0,.string ⟨n.toArray⟩,.string ⟨#[]⟩,.slice a (List.length bytes) c] 151))
  go_wp2_with (first
    | (at_lookup;refine zak rfl _ _ 132 rfl 44 law Tryz.underlying132 (hz _) [] (BsIn.fun1 _ T) (zaP _ _) rfl MW.out _ _ rfl hkey ?_;intro lv ly hlv hat;obtain ⟨⟨la,lc,rfl,_⟩,_⟩:=hlv;clear hat)
    | (at_mapUpdate;refine zbW rfl _ _ _ 132 rfl 44 law Tryz.underlying132 (BsIn.fun1 _ T) rfl MW.out (by unfold maxLen;omega) _ _ _ rfl rfl hkey bytes VW.out ?_;intro w1 hm1 ht1;have M1:=zz0 hm1;have K1:=zz0 (zaL ht1);clear hm1 ht1))
  go_end0
  exact ⟨rfl,((Keep.refl _ _).alloc _).trans1 K1.out,zbL M1.out K1.out hT⟩
theorem zjZ (T:Nat→Prop) (b:Nat) (D:Fl) (n m:Byt) (w:World) (hm:FlAt w T b D) (hT:¬ T b) (hs:size D≤1000000) (hn:n.length≤1000) (hn2:m.length≤1000) (hTl:∀ g,T g→g < w.heap.size) (hh:fhas D n=true) :
    Calls Tryz.prog 71 #[.map (some b),.agg #[.int .i64 1,sv n,sv m,.slice none 0 0]] w fun e w'=>e = .returned (.tuple #[])∧Keep (One b) w w'∧FlAt w' T b (fput (fdel D n) m (fget D n)):=by
  have law:=string_keyed Tryz.underlying9
  have hkey:=zbX n (by unfold maxLen;omega)
  have hkey2:=zbX m (by unfold maxLen;omega)
  have hz:=fun w=>Tryz.zeroValue44 w
  have hhas:has D (.string n)=true:=hh
  have M:=zz0 hm
  clear hm
  unfold sv at hkey hkey2 ⊢
  go_enter Tryz.func71,Tryz.ntmps71
  have MW:=zz0 (zfw M.out (.cells #[.int .i64 1,.string ⟨n.toArray⟩,.string ⟨m.toArray⟩,.slice none 0 0] 151))
  go_wp2_with (first
    | (at_lookup;refine zak rfl _ _ 132 rfl 44 law Tryz.underlying132 (hz _) [] (BsIn.fun1 _ T) (zaP _ _) rfl MW.out _ _ rfl hkey ?_;rw [hhas];intro lv ly hlv hat;have LV:=zz0 hlv;have HAT:=zz0 hat;obtain ⟨⟨la,lc,rfl,_⟩,_⟩:=hlv;rw [List.length_map] at LV;clear hat)
    | (at_delete;refine zcx rfl _ _ 132 rfl 44 law Tryz.underlying132 rfl MW.out _ _ rfl hkey ?_;intro w1 hm1 ht1;have K1:=zz0 (zaL ht1);have M1:=zz0 (zbL hm1 K1.out hT);have cb:w1.cell? ⟨w.heap.size,2,none⟩=some (.string ⟨m.toArray⟩):=(World.cell?_of_block (K1.out.block w.heap.size (by simp) (fun e=>by have:=MapAt.lt M.out;unfold One at e;omega))).trans (World.cell?_alloc_new _ _ _ 2);clear hm1 ht1)
    | (at_mapUpdate;refine zbW rfl _ _ _ 132 rfl 44 law Tryz.underlying132 (BsIn.fun1 _ T) rfl M1.out (by have:=zbT (n:=n) (World.ownsMap.isMap M.out);unfold maxLen;show size (fdel D n) < _;omega) _ _ _ rfl rfl hkey2 ly (LV.out.keep K1.out (One.notT hT) (fun _ e=>e)) ?_;intro w2 hm2 ht2;have K2:=zz0 (zaL ht2);have M2:=zz0 (zbL hm2 K2.out hT);clear hm2 ht2))
  go_end0
  have e:fget D n=ly:=by unfold fget;rw [HAT.out];rfl
  rw [e]
  exact ⟨rfl,(((Keep.refl _ _).alloc _).trans1 K1.out).trans1 K2.out,M2.out⟩
theorem zjY (T:Nat→Prop) (b:Nat) (D:Fl) (n:Byt) (w:World) (hm:FlAt w T b D) (hT:¬ T b) (hs:size D≤1000000) (hn:n.length≤1000) (hTl:∀ g,T g→g < w.heap.size) (hh:fhas D n=true) :
    Calls Tryz.prog 71 #[.map (some b),.agg #[.int .i64 2,sv n,sv [],.slice none 0 0]] w fun e w'=>e = .returned (.tuple #[])∧Keep (One b) w w'∧FlAt w' T b (fdel D n):=by
  have law:=string_keyed Tryz.underlying9
  have hkey:=zbX n (by unfold maxLen;omega)
  have hz:=fun w=>Tryz.zeroValue44 w
  have hhas:has D (.string n)=true:=hh
  have M:=zz0 hm
  clear hm
  unfold sv at hkey ⊢
  go_enter Tryz.func71,Tryz.ntmps71
  have MW:=zz0 (zfw M.out (.cells #[.int .i64 2,.string ⟨n.toArray⟩,.string ⟨#[]⟩,.slice none 0 0] 151))
  go_wp2_with (first
    | (at_lookup;refine zak rfl _ _ 132 rfl 44 law Tryz.underlying132 (hz _) [] (BsIn.fun1 _ T) (zaP _ _) rfl MW.out _ _ rfl hkey ?_;rw [hhas];intro lv ly hlv hat;have LV:=zz0 hlv;have HAT:=zz0 hat;obtain ⟨⟨la,lc,rfl,_⟩,_⟩:=hlv;rw [List.length_map] at LV;clear hat)
    | (at_delete;refine zcx rfl _ _ 132 rfl 44 law Tryz.underlying132 rfl MW.out _ _ rfl hkey ?_;intro w1 hm1 ht1;have K1:=zz0 (zaL ht1);have M1:=zz0 (zbL hm1 K1.out hT);clear hm1 ht1))
  go_end0
  exact ⟨rfl,((Keep.refl _ _).alloc _).trans1 K1.out,M1.out⟩
def chg0:Value:=.agg #[.int .i64 0,.string ⟨#[]⟩,.string ⟨#[]⟩,.slice none 0 0]
theorem infoChg:(Tryz.prog.info? 151).map (fun i=>(i.zero,i.size,i.bytes))=some (some chg0,4,64):=by kernel_rfl
def chgV (c:Chg) (v:Value):Value:=match c with
  | .write n _=>.agg #[.int .i64 0,sv n,sv [],v]
  | .rename n m=>.agg #[.int .i64 1,sv n,sv m,v]
  | .remove n=>.agg #[.int .i64 2,sv n,sv [],v]
theorem zi3 {w w':World} {S T:Nat→Prop} {pv':Value} {cs:List Chg} {c:Chg} {l:List Value} {xs:List (List Value)} (h2:xs.length=cs.length) (h3:∀ (i:Nat) c l,cs[i]? = some c→xs[i]? = some l→ChgV w T c l) (hl:ChgV w T c l)
    (ho:w'.ownsRow 0 151 4 pv' (cs.length+1) (xs.flatten ++ l)) (k:Keep S w w') (hn:∀ g,T g→¬ S g):PendAt w' T pv' (cs ++ [c]):=by
  refine ⟨xs ++ [l],?_,by simp [h2],fun i c' l' hc hl'=>?_⟩
  · rw [List.length_append,List.flatten_append]
    simpa using ho
  · rcases Nat.lt_or_ge i cs.length with hi | hi
    · rw [List.getElem?_append_left hi] at hc
      rw [List.getElem?_append_left (by omega)] at hl'
      exact (h3 i c' l' hc hl').keep k hn (fun _ e=>e)
    · rw [List.getElem?_append_right hi] at hc
      rw [List.getElem?_append_right (by omega),h2] at hl'
      have hi0:i - cs.length=0:=by
        rcases Nat.eq_zero_or_pos (i - cs.length) with e | e
        · exact e
        · rw [List.getElem?_eq_none (by simp;omega)] at hc;cases hc
      rw [hi0] at hc hl'
      simp at hc hl'
      subst hc
      subst hl'
      exact hl.keep k hn (fun _ e=>e)
theorem zag {P:Program} {w:World} {ops:Array Oper} {o:Oper} {a:Act} {K:Act→World→Prop} {Q:Exit→Act→World→Prop} {E:Prop} (hgd:o.guard=none) (s x:Operand) (t:TypeId)
    (ho:o.op = .call { callee:=.builtin .append,args:=#[s,x],argTypes:=#[t,t] })
    (base:Nat) (e:TypeId) (i:TypeInfo) (z:Value) (size bytes:Nat) (ht:P.underlying t=some (.slice e)) (hi:P.info? e=some i) (hz:i.zero=some z)
    (hsize:i.size=size) (hby:i.bytes=bytes) (hzs:z.cells.size=size) (hsz:0 < size)
    (v:Value) (n:Nat) (xs:List Value) (hs:a.eval s=v) (hown:w.ownsRow base e size v n xs)
    (ad:Addr) (m c:Nat) (news:List Value) (hx:a.eval x = .slice (some ad) m c) (hl:news.length=m * size) (hnews:∀ j u,news[j]? = some u→w.cell? (ad.add j)=some u) (h1:∀ u ∈ news,u.oneCell'=true)
    (h63:n+m≤maxLen) (hbytes:(n+m) * bytes≤140737488355328) (hbase:base≤w.heap.size)
    (h:∀ v' w',w'.ownsRow base e size v' (n+m) (xs ++ news)→w.grownBy w' v.ownBlock→(v'.ownBlock=v.ownBlock∨v'.ownBlock=some w.heap.size)→K (a.put o.dst v') w') :
    if Region.wanted o (yielded ops a.tmps)=true then Oper.wp P o a w K Q else E:=by
  have hw:Region.wanted o (yielded ops a.tmps)=true:=by simp [Region.wanted,hgd]
  rw [if_pos hw]
  obtain ⟨v',w',hr,h2,h3,h4⟩:=run_append_own (P:=P) w base t o.type e i z size bytes ht hi hz hsize hby hzs hsz v n xs hown ad m c news hl hnews h1 h63 hbytes hbase
  have h5:=zb0 w base t o.type e i z size bytes ht hi hz hsize hby hsz v n xs hown ad m c news hl hnews h1 h63 hbytes hr
  unfold Oper.wp execOp
  simp only [ho,resolve,invoke,builtin,Sem.run_bind,Sem.run_pure,Result.andThen_ok,List.map_toArray,List.map_cons,List.map_nil,hs,hx,hr]
  exact h v' w' h2 h3 h5
theorem zfy (W:World) (k:Nat) (hk:k=W.heap.size) (a b c d:Value) (t:TypeId):∀ j u,[a,b,c,d][j]? = some u→(W.alloc (.cells #[a,b,c,d] t)).cell? ((⟨k,0,none⟩:Addr).add j)=some u:=by
  subst hk
  intro j u hu
  rw [zau,Nat.zero_add]
  match j with
  | 0=>simp at hu;subst hu;exact World.cell?_alloc_new _ _ _ 0
  | 1=>simp at hu;subst hu;exact World.cell?_alloc_new _ _ _ 1
  | 2=>simp at hu;subst hu;exact World.cell?_alloc_new _ _ _ 2
  | 3=>simp at hu;subst hu;exact World.cell?_alloc_new _ _ _ 3
  | j+4=>simp at hu
def box2 (w:World) (l:List Value):World:=(w.alloc (.cells l.toArray 151)).alloc (.cells l.toArray 151)
theorem zdK (w:World) (l:List Value):Keep Non w (box2 w l):=((Keep.refl _ _).alloc _).alloc _
theorem zc5 {F T:Nat→Prop} {w w1 w4:World} {p s h:Nat} {pv:Value} {X:Dk} {c:Chg} {l:List Value} {xs:List (List Value)} {a1:Option Addr} {c1 n1:Nat} (d:DiskIn F T w p s h pv X) (P1:w.ownsRow 0 151 4 pv X.pend.length xs.flatten)
    (P23:xs.length=X.pend.length∧∀ (i:Nat) c l,X.pend[i]? = some c→xs[i]? = some l→ChgV w T c l) (hl:ChgV w T c l) (HO:w1.ownsRow 0 151 4 (.slice a1 n1 c1) (X.pend.length+1) (xs.flatten ++ l))
    (HP:(Value.slice a1 n1 c1).ownBlock=pv.ownBlock∨(Value.slice a1 n1 c1).ownBlock=some (w.heap.size+1+1)) (KG:Keep (fun k=>pv.ownBlock=some k) w w1)
    (HB:(w1.setCell ⟨p,3,none⟩ (.slice a1 n1 c1)).heap[p]? = some (DkB X.room s h (.slice a1 n1 c1) X.fuse X.down)) (K4:Keep (One h) (w1.setCell ⟨p,3,none⟩ (.slice a1 n1 c1)) w4) (M4:FlAt w4 T h (c.on X.shown)) :
    Keep F w w4∧∃ pv',(∀ g,pv'.ownBlock=some g→F g∨w.heap.size≤g)∧DiskIn (fun g=>F g∨pv'.ownBlock=some g) T w4 p s h pv' (X.add c):=by
  obtain ⟨i1,i2,i3,i4,i5⟩:=d.inF
  obtain ⟨a1',a2,a3,a4⟩:=d.apart
  obtain ⟨o1,o2,o3,o4,o5⟩:=d.outT
  have hpl:=lt_of_block d.blk
  have hsl:=MapAt.lt d.sure
  have hhl:=MapAt.lt d.shown
  -- where the new row lies
  have hw:∀ g,(Value.slice a1 n1 c1).ownBlock=some g→(pv.ownBlock=some g)∨w.heap.size≤g:=by
    intro g e
    rcases HP with q | q
    · exact .inl (q.symm.trans e)
    · rw [q] at e;injection e with e;exact .inr (by omega)
  have kS:Keep (fun k=>pv.ownBlock=some k∨k=p∨k=h) w w4:=(KG.trans ((Keep.refl (One p) w1).setOne 3 (.slice a1 n1 c1)) (U:=fun k=>pv.ownBlock=some k∨k=p∨k=h) (fun _ _ e=>.inl e) (fun _ _ e=>.inr (.inl e))).trans K4 (fun _ _ e=>e) (fun _ _ e=>.inr (.inr e))
  have hT:∀ g,T g→¬ (pv.ownBlock=some g∨g=p∨g=h):=fun g hg e=>by
    rcases e with e | e | e
    · exact o4 g e hg
    · exact o1 (e ▸ hg)
    · exact o3 (e ▸ hg)
  have hv1:∀ g,(Value.slice a1 n1 c1).ownBlock=some g→g≠p∧g≠s∧g≠h∧¬ T g:=fun g e=>by
    rcases hw g e with q | q
    · exact ⟨(a4 g q).1,(a4 g q).2.1,(a4 g q).2.2,o4 g q⟩
    · exact ⟨by omega,by omega,by omega,fun e2=>by have:=o5 g e2;omega⟩
  have k14:Keep (fun k=>k=p∨k=h) w1 w4:=((Keep.refl (One p) w1).setOne 3 (.slice a1 n1 c1)).trans K4 (fun _ _ e=>.inl e) (fun _ _ e=>.inr e)
  refine ⟨kS.mono (fun i _ e=>by rcases e with e | e | e;exact i4 i e;exact e ▸ i1;exact e ▸ i3),_,fun g e=>by rcases hw g e with q | q;exact .inl (i4 g q);exact .inr q,?_⟩
  refine ⟨K4.at HB (fun e=>a3 e),d.sure.keep kS (fun e=>by rcases e with e | e | e;exact (a4 s e).2.1 rfl;exact a2 e.symm;exact a1' e) hT (fun _ e=>e),M4,?_,⟨.inl i1,.inl i2,.inl i3,fun g e=>.inr e,fun g e=>.inl (i5 g e)⟩,⟨a1',a2,a3,fun g e=>⟨(hv1 g e).1,(hv1 g e).2.1,(hv1 g e).2.2.1⟩⟩,⟨o1,o2,o3,fun g e=>(hv1 g e).2.2.2,fun g e=>kS.lt (o5 g e)⟩,d.room⟩
  have hl4:l.length=4:=by
    cases c with
    | write n b=>obtain ⟨v,e,_⟩:=hl;rw [e];rfl
    | rename n m=>rw [show l=_ from hl];rfl
    | remove n=>rw [show l=_ from hl];rfl
  exact zi3 P23.1 P23.2 hl (zac HO k14 (fun g e e2=>by rcases e2 with e2 | e2;exact (hv1 g e).1 e2;exact (hv1 g e).2.2.1 e2)) kS hT
theorem zeZ (F T:Nat→Prop) (p s h:Nat) (pv v:Value) (n b:Byt) (X:Dk) (w:World) (d:DiskIn F T w p s h pv X) (hv:BsIn w T v b) (hs:size X.shown≤1000000) (hp:X.pend.length≤1000000) (hn:n.length≤1000) :
    Calls Tryz.prog 91 #[.pointer (some ⟨p,0,none⟩),chgV (.write n b) v] w fun e w'=>e = .returned (.tuple #[])∧Keep F w w'∧∃ pv',(∀ g,pv'.ownBlock=some g→F g∨w.heap.size≤g)∧DiskIn (fun g=>F g∨pv'.ownBlock=some g) T w' p s h pv' (X.add (.write n b)):=by
  have D:=zz0 d
  have V:=zz0 hv
  have B:=zz0 d.blk
  have c2:=dk_2 d.blk
  have c3:=dk_3 d.blk
  have f3:=dk_f d.blk 3
  obtain ⟨i0,hi0,hz0,hz1,hz2⟩:=info_parts infoChg
  obtain ⟨xs,p1,p2,p3⟩:=d.pend
  have P1:=zz0 p1
  have P23:=zz0 (And.intro p2 p3)
  obtain ⟨pa,pc,rfl,_,_⟩:=zaa p1
  obtain ⟨⟨a,c,rfl,_⟩,_⟩:=hv
  rw [List.length_map] at V ⊢
  clear d p1 p2 p3
  unfold chgV sv
  go_enter Tryz.func91,Tryz.ntmps91
  have ca:(w.alloc (.cells #[.int .i64 0,.string ⟨n.toArray⟩,.string ⟨#[]⟩,.slice a (List.length b) c] 151)).cell? ⟨p,3,none⟩=some (.slice pa X.pend.length pc):=dk_3 (zae B.out _)
  have cb2:((w.alloc (.cells #[.int .i64 0,.string ⟨n.toArray⟩,.string ⟨#[]⟩,.slice a (List.length b) c] 151)).alloc (.cells #[.int .i64 0,.string ⟨n.toArray⟩,.string ⟨#[]⟩,.slice a (List.length b) c] 151)).cell? ⟨p,3,none⟩=some (.slice pa X.pend.length pc):=dk_3 (zae (zae B.out _) _)
  go_wp2_with fail
  have FN:=zz0 (zfy (w.alloc (.cells #[.int .i64 0,.string ⟨n.toArray⟩,.string ⟨#[]⟩,.slice a (List.length b) c] 151)) (w.heap.size+1) (by simp) (.int .i64 0) (.string ⟨n.toArray⟩) (.string ⟨#[]⟩) (.slice a (List.length b) c) 151)
  have KB:=zz0 (zdK w [.int .i64 0,.string ⟨n.toArray⟩,.string ⟨#[]⟩,.slice a (List.length b) c])
  go_region_law (refine zag (by rfl) (.tmp 8) (.tmp 10) 133 (by rfl) 0 151 i0 chg0 4 64 Tryz.underlying133 hi0 hz0 hz1 hz2 rfl (by decide) (.slice pa X.pend.length pc) X.pend.length xs.flatten (by rfl) (zac (S:=Non) P1.out (by exact ⟨KB.out.os,KB.out.tape,KB.out.output,KB.out.size,KB.out.block⟩) (fun _ _ e=>e)) ⟨w.heap.size+1,0,none⟩ 1 1 [.int .i64 0,.string ⟨n.toArray⟩,.string ⟨#[]⟩,.slice a (List.length b) c] (by rfl) (by rfl) (by exact FN.out) (by intro u hu;simp at hu;rcases hu with rfl | rfl | rfl | rfl <;> rfl) (by unfold maxLen;omega) (by omega) (Nat.zero_le _) ?_;intro v1 w1 ho hg hpp;obtain ⟨a1,c1,rfl,_,_⟩:=zaa ho;have HO:=zz0 ho;have HP:=zz0 hpp;have KG:Hid (Keep (fun k=>(Value.slice pa X.pend.length pc).ownBlock=some k) w w1):=zz0 (Keep.grown (a:=w) (by exact ⟨KB.out.os,KB.out.tape,KB.out.output,KB.out.size,fun k hk hn=>KB.out.block k hk (fun e=>e)⟩) hg (fun k e=>.inl e));have B1:=KG.out.at B.out (fun e=>(D.out.apart.2.2.2 p e).1 rfl);have e2:=dk_2 B1;have e3:=dk_3 B1;have g3:=dk_f B1 3;have BB1:=zz0 B1;have BX:Hid (w1.heap[w.heap.size]? = some (.cells #[.int .i64 0,.string ⟨n.toArray⟩,.string ⟨#[]⟩,.slice a (List.length b) c] 151)):=zz0 ((hg.block w.heap.size (by simp;omega) (fun e=>by have:=(P1.out.lt w.heap.size e.symm).2;omega)).trans (by exact (zae (zab w _) _)));clear ho hg hpp B1)
  all_goals
    have hb3:(w1.setCell ⟨p,3,none⟩ (.slice a1 (X.pend.length+1) c1)).heap[p]? = some (DkB X.room s h (.slice a1 (X.pend.length+1) c1) X.fuse X.down):=zfr BB1.out _
    have r2:=dk_2 hb3
    have hpl:=lt_of_block B.out
    have bx3:(w1.setCell ⟨p,3,none⟩ (.slice a1 (X.pend.length+1) c1)).heap[w.heap.size]? = some (.cells #[.int .i64 0,.string ⟨n.toArray⟩,.string ⟨#[]⟩,.slice a (List.length b) c] 151):=zcF BX.out (by omega) 3 _
    have q0:(w1.setCell ⟨p,3,none⟩ (.slice a1 (X.pend.length+1) c1)).cell? ⟨w.heap.size,0,none⟩=some (.int .i64 0):=by simp [World.cell?,bx3]
    have q1:(w1.setCell ⟨p,3,none⟩ (.slice a1 (X.pend.length+1) c1)).cell? ⟨w.heap.size,1,none⟩=some (.string ⟨n.toArray⟩):=by simp [World.cell?,bx3]
    have q2:(w1.setCell ⟨p,3,none⟩ (.slice a1 (X.pend.length+1) c1)).cell? ⟨w.heap.size,2,none⟩=some (.string ⟨#[]⟩):=by simp [World.cell?,bx3]
    have q3:(w1.setCell ⟨p,3,none⟩ (.slice a1 (X.pend.length+1) c1)).cell? ⟨w.heap.size,3,none⟩=some (.slice a (List.length b) c):=by simp [World.cell?,bx3]
    have K3:=zz0 (KG.out.trans ((Keep.refl (One p) w1).setOne 3 (.slice a1 (X.pend.length+1) c1)) (U:=fun k=>(Value.slice pa X.pend.length pc).ownBlock=some k∨k=p) (fun _ _ e=>.inl e) (fun _ _ e=>.inr e))
    have hTn:Hid (∀ g,T g→¬ ((Value.slice pa X.pend.length pc).ownBlock=some g∨g=p)):=zz0 (fun g hg e=>by
      rcases e with e | e
      · exact D.out.outT.2.2.2.1 g e hg
      · exact D.out.outT.1 (e ▸ hg))
    have MS:=zz0 (FlAt.keep D.out.shown K3.out (fun e=>by rcases e with e | e;exact (D.out.apart.2.2.2 h e).2.2 rfl;exact D.out.apart.2.2.1 e.symm) hTn.out (fun _ e=>e))
    have VS:=zz0 (V.out.keep K3.out hTn.out (fun _ e=>e))
    have MSd:=zz0 (FlAt.keep MS.out ((Keep.refl Non _).drew) (fun e=>e) (fun _ _ e=>e) (fun _ e=>e))
    have VSd:=zz0 (VS.out.keep ((Keep.refl Non _).drew) (fun _ _ e=>e) (fun _ e=>e))
    have HB3:=zz0 hb3
    clear hb3 bx3
    go_simp
    go_wp2_with fail
    go_region_with (go_at_call 71;refine (zl9 T h X.shown n b (.slice a (List.length b) c) _ MSd.out D.out.outT.2.2.1 VSd.out hs hn (fun g e=>K3.out.lt (D.out.outT.2.2.2.2 g e))).mono ?_;rintro e w4 ⟨rfl,k4,m4⟩;have K4:=zz0 (zax k4);have M4:=zz0 m4;clear k4 m4)
    all_goals
     go_wp2_with fail
     go_end0
     exact ⟨rfl,zc5 D.out P1.out P23.out (c:=.write n b) (l:=[.int .i64 0,.string ⟨n.toArray⟩,.string ⟨#[]⟩,.slice a (List.length b) c]) ⟨_,rfl,V.out⟩ HO.out (HP.out.imp id (fun e=>e.trans (by congr 1;simp))) KG.out HB3.out K4.out M4.out⟩
end Go.Proofs.YtnboipdpccnedaaGreatDoor
