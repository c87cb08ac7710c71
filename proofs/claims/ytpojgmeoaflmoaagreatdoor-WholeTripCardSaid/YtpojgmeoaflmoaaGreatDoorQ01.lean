/- Small words that all walks of this seat  -/
import Derived.Test.YtpojgmeoaflmoaaGreatDoorProg
import Derived.WalkKit
import Derived.WalkSpells
import Derived.WalkLawsBesides
import Derived.LaidEql
import Derived.Lib.Hide
import Derived.ProofKit
import Derived.OpenShut
import Derived.ChangeOld
import Derived.Deep.Slices
import Derived.Deep.Fields
import Derived.ChangeSame
import Derived.Handy
import Derived.WideKeyPair
import Derived.Deep.RegionLaw
import Derived.Maps.OwnSet
import Derived.Maps.Views
import Derived.Laws.BitsAllLaws
import Derived.Deep.RegionWith
import Derived.Deep.RegionHeld3
import Derived.Deep.QuietTactic
import Derived.BigQuiet
import Derived.RegionTactic
import Derived.StillTailTactics
set_option linter.unusedVariables false
set_option maxRecDepth 100000
set_option maxHeartbeats 16000000
namespace Go.Proofs.YtpojgmeoaflmoaaGreatDoor
open Go.RowKit
structure za (S:Nat→Prop)(w w':World):Prop where
 os:w'.os=w.os
 tape:w'.tape=w.tape
 output:w'.output=w.output
 size:w.heap.size≤w'.heap.size
 block:∀k,k<w.heap.size→¬S k→w'.heap[k]? = w.heap[k]?
def zq2:Nat→Prop:=fun _=>False
def zq3 (b:Nat):Nat→Prop:=fun k=>k=b
theorem zK (b:Nat):zq3 b b:=rfl
theorem za.refl (S:Nat→Prop)(w:World):za S w w:=⟨rfl,rfl,rfl,Nat.le_refl _,fun _ _ _=>rfl⟩
theorem za.trans {S T U:Nat→Prop}{a b c:World}(h:za S a b)(k:za T b c)
 (hs:∀i,i<a.heap.size→S i→U i) (ht:∀i,i<a.heap.size→T i→U i):za U a c :=
 ⟨k.os.trans h.os,k.tape.trans h.tape,k.output.trans h.output,Nat.le_trans h.size k.size,
  fun i hi hn=>(k.block i (Nat.lt_of_lt_of_le hi h.size) (fun e=>hn (ht i hi e))).trans (h.block i hi (fun e=>hn (hs i hi e)))⟩
theorem za.trans1 {S:Nat→Prop}{a b c:World}(h:za S a b)(k:za S b c):za S a c :=
 h.trans k (fun _ _ h=>h) (fun _ _ h=>h)
theorem za.mono {S T:Nat→Prop}{a b:World}(h:za S a b)(hs:∀i,i<a.heap.size→S i→T i):za T a b :=
 ⟨h.os,h.tape,h.output,h.size,fun i hi hn=>h.block i hi (fun e=>hn (hs i hi e))⟩
theorem za.ofNon {S:Nat→Prop}{a b:World}(h:za zq2 a b):za S a b:=h.mono (fun _ _ h=>h.elim)
theorem za.drew {S:Nat→Prop}{a w:World}(h:za S a w):za S a w.drew:=⟨h.os,h.tape,h.output,h.size,h.block⟩
theorem za.drewN {S:Nat→Prop}{a w:World}(h:za S a w)(n:Nat):za S a (w.drewN n):=⟨h.os,h.tape,h.output,h.size,h.block⟩
theorem za.alloc {S:Nat→Prop}{a w:World}(h:za S a w)(o:Obj):za S a (w.alloc o) :=
 ⟨h.os,h.tape,h.output,by have:=h.size;simp;omega,fun k hk hn=>(Below.heap_alloc w o k (by have:=h.size;omega)).trans (h.block k hk hn)⟩
theorem za.setCell {S:Nat→Prop}{a w:World}(h:za S a w){p:Addr}(hp:S p.block∨a.heap.size≤p.block)(u:Value):za S a (w.setCell p u) :=
 ⟨h.os,h.tape,h.output,by have:=h.size;simp[World.setCell];omega,
  fun k hk hn=>(Below.heap_setCell w p u k (fun e=>by rcases hp with hp|hp;exact hn (e ▸ hp);omega)).trans (h.block k hk hn)⟩
theorem za.setOne {b:Nat}{a w:World}(h:za (zq3 b) a w)(i:Nat)(u:Value):za (zq3 b) a (w.setCell ⟨b,i,none⟩ u):=h.setCell (p:=⟨b,i,none⟩) (.inl (zK b)) u
theorem za.setNew {S:Nat→Prop}{a w:World}(h:za S a w){k:Nat}(hk:a.heap.size≤k)(i:Nat)(u:Value):za S a (w.setCell ⟨k,i,none⟩ u):=h.setCell (p:=⟨k,i,none⟩) (.inr hk) u
theorem za.grown {S:Nat→Prop}{a w w':World}{row:Option Nat}(h:za S a w)(hg:w.grownBy w' row)(hr:∀k,row=some k→S k∨a.heap.size≤k):za S a w' :=
 ⟨hg.os.trans h.os,hg.tape.trans h.tape,hg.output.trans h.output,Nat.le_trans h.size hg.size,
  fun k hk hn=>(hg.block k (by have:=h.size;omega) (fun e=>by rcases hr k e.symm with h'|h';exact hn h';omega)).trans (h.block k hk hn)⟩
theorem za.below {a b:World}(h:za zq2 a b):Below a.heap.size a b:=⟨h.os,h.tape,h.output,h.size,fun k hk=>h.block k hk (fun e=>e)⟩
theorem za.ofBelow {a b:World}(h:Below a.heap.size a b):za zq2 a b:=⟨h.os,h.tape,h.output,h.size,fun k hk _=>h.block k hk⟩
theorem za.at {S:Nat→Prop}{a b:World}(h:za S a b){k:Nat}{o:Obj}(hk:a.heap[k]? = some o)(hn:¬S k):b.heap[k]? = some o :=
 (h.block k (lt_of_block hk) hn).trans hk
theorem za.lt {S:Nat→Prop}{a b:World}(h:za S a b){k:Nat}(hk:k<a.heap.size):k<b.heap.size:=Nat.lt_of_lt_of_le hk h.size
theorem zj {w:World}{b:Nat}{cs:Array Value}{t:TypeId}{fr:Nat×Nat}(h:w.heap[b]? = some (.cells cs t fr))(i:Nat)(v:Value) :
 (w.setCell ⟨b,i,none⟩ v).heap[b]? = some (.cells (cs.setIfInBounds i v) t fr):=by
 simp[World.setCell,Array.getElem?_modify,h]
theorem zjX {w:World}{b:Nat}{o:Obj}(h:w.heap[b]? = some o){p:Addr}(hp:p.block≠b)(v:Value):(w.setCell p v).heap[b]? = some o :=
 (Below.heap_setCell w p v b (fun e=>hp e.symm)).trans h
theorem zdC {w:World}{b m:Nat}{o:Obj}(h:w.heap[b]? = some o)(hm:m≠b)(i:Nat)(v:Value):(w.setCell ⟨m,i,none⟩ v).heap[b]? = some o:=zjX h hm v
theorem zi {w:World}{b:Nat}{o:Obj}(h:w.heap[b]? = some o)(o':Obj):(w.alloc o').heap[b]? = some o :=
 (Below.heap_alloc w o' b (lt_of_block h)).trans h
theorem ze (w:World)(o:Obj):(w.alloc o).heap[w.heap.size]? = some o:=by show(w.heap.push o)[w.heap.size]? = _;simp
theorem zeJ {w:World}{b:Nat}{o:Obj}(h:w.heap[b]? = some o)(n:Nat):(w.drewN n).heap[b]? = some o:=h
theorem zjE {a b:Bool}(h:a=b):Ending.returned (.bool a) = .returned (.bool b):=by rw[h]
def zbU (n:Int):Value:=if n=0 then .nilIface else .iface 89 (.int .i64 n)
theorem zaK:zbU 0 = .nilIface:=rfl
theorem zgv {n:Int}(h:n≠0):zbU n = .iface 89 (.int .i64 n):=if_neg h
theorem zz0 {P : Prop} (h : P) : Go.RowKit.Hid P := Go.Lib.hid h
end Go.Proofs.YtpojgmeoaflmoaaGreatDoor
namespace Go.Proofs.YtpojgmeoaflmoaaGreatDoor
open Go.ChangeShapes Go.WideShapes Go.Deep Go.RowKit
section
variable {H : Type} {enc : TypeId × Value → H} {P : Program} {w : World} {base : Nat} {spare : Nat → Bool} {held : Bool}
theorem zfL {t e:TypeId}{fuel:Nat}{a:Option Addr}{len cap:Nat}{x:DataW H×List MemPlace}
 (ht:P.underlying t=some (.slice e)) (he:P.underlying e=some (.int .i64)) (hC:P.cellsOf e=1)
 (h:DataW.trod enc P w base spare held fuel t [.slice a len cap]=some x) :
 len=0∨∃b off,a=some ⟨b,off,none⟩∧b<w.heap.size∧len≤cap∧cap≤maxLen ∧
  ∀i,i<len→∃n,w.cell? ⟨b,off+i,none⟩=some (.int .i64 n)∧(Lit.int .i64 n).wf=true:=by
 rcases open_slice1 ht hC h with ⟨h0,_⟩|⟨a',len',cap',m,n,V,D,Pl,hcs,hb,hl,hm,hmm,hx,hi⟩
 ·simp at h0
  exact .inl h0.2.1
 simp at hcs;obtain⟨rfl,rfl,rfl⟩:=hcs;by_cases hz:len=0
 ·exact .inl hz
 refine .inr ?_;have hml:len≤m:=by rw[hmm];split<;>omega
 have key:∀i,i<len→∃n,w.cell? (a'.add i)=some (.int .i64 n)∧(Lit.int .i64 n).wf=true:=by
  intro i hil;obtain⟨h1,h2⟩:=hi i (by omega)
  obtain⟨q,hq,_,hwf⟩:=DataW.trod_int he h2;simp at hq;exact⟨q,by rw[h1,hq],hwf⟩
 obtain⟨b,off,spot⟩:=a';obtain⟨n0,hc0,_⟩:=key 0 (by omega)
 have hspot:spot=none:=by
  have:=World.cell?_spot hc0;simpa [Addr.add] using this
 subst hspot;refine⟨b,off,rfl,?_,hl,hm,fun i hil=>?_⟩
 ·have:=World.block_lt_of_cell? _ _ hc0
  simpa [Addr.add] using this
 ·obtain⟨n,h1,h2⟩:=key i hil
  refine⟨n,?_,h2⟩;have e:(⟨b,off,none⟩:Addr).add i=⟨b,off+i,none⟩:=by
   unfold Addr.add
   split
   ·next h0 =>
    have h1:off=off+i:=by omega
    rw[←h1]
   ·rfl
  rw[←e];exact h1
end
end Go.Proofs.YtpojgmeoaflmoaaGreatDoor
namespace Go.Proofs.YtpojgmeoaflmoaaGreatDoor
open Go.RowKit
theorem zcU {P:Program}(w:World)(base:Nat)(t ty e:TypeId)(i:TypeInfo)(z:Value)(size bytes:Nat)(ht:P.underlying t=some (.slice e))(hi:P.info? e=some i)(hz:i.zero=some z)
 (hsize:i.size=size) (hby:i.bytes=bytes) (hsz:0<size)
 (v:Value) (n:Nat) (xs:List Value) (hown:w.ownsRow base e size v n xs)
 (a:Addr) (m c:Nat) (news:List Value) (hl:news.length=m*size) (hnews:∀j u,news[j]? = some u→w.cell? (a.add j)=some u) (h1:∀u ∈ news,u.oneCell'=true)
 (h63:n+m≤maxLen) (hbytes:(n+m)*bytes≤140737488355328) {v':Value} {w':World} (hrun:(Builtin.append_ #[t,t] ty #[v,.slice (some a) m c]).run P w = .ok v' w') :
 v'.ownBlock=v.ownBlock∨v'.ownBlock=some w.heap.size:=by
 subst hsize;subst hby;have hsmall:n+m≤9223372036854775807:=by simp only[maxLen] at h63;omega
 rcases hown.2 with ⟨rfl,rfl⟩|⟨g,cap,cur,rfl,hbg,hg,hnc,hcm,hcs,htake⟩
 ·by_cases hm:m=0
  ·subst hm
   have hn:news = []:=List.eq_nil_of_length_eq_zero (by simpa using hl)
   subst hn;have hr:(Builtin.append_ #[t,t] ty #[.slice none 0 0,.slice (some a) 0 c]).run P w = .ok (.slice none 0 0) w:=by
    simp[Builtin.append_,run_underlying ht,sizeOf,typeInfo,hi,Builtin.lenOf,Builtin.firstCells,loadCells,loadCellsFrom]
   rw[hr] at hrun;injection hrun with e1 e2
   subst e1;exact .inl rfl
  ·have hr:=run_append_nil (P:=P) w t ty e i z ht hi hz a m c news hl hnews (by omega) (by omega) (by have hb:=hbytes;simp only[Nat.zero_add] at hb;omega)
   rw[hr] at hrun;injection hrun with e1 e2
   subst e1;exact .inr rfl
 ·by_cases hroom:n+m≤cap
  ·have hfit:n*i.size+news.length≤cur.size:=by rw[hl,hcs,←Nat.add_mul];exact Nat.mul_le_mul_right _ hroom
   have hr:=run_append_room (P:=P) w t ty e i ht hi g n cap cur hg a m c news hl hnews h1 hroom hfit;rw[hr] at hrun;injection hrun with e1 e2
   subst e1;exact .inl rfl
  ·have holds:∀j u,xs[j]? = some u→w.cell? ((⟨g,0,none⟩:Addr).add j)=some u:=hown.cells (g:=g) rfl
   have hr:=run_append_grow (P:=P) w t ty e i z ht hi hz ⟨g,0,none⟩ n cap xs hown.1 holds a m c news hl hnews (by omega) (by omega) (growslice_fits (by omega) hbytes)
   rw[hr] at hrun;injection hrun with e1 e2
   subst e1;exact .inr rfl
def Rd (w:World)(v:Value)(xs:List Value):Prop :=
 ∃a cap,v = .slice a xs.length cap∧(xs≠[]→∃g off,a=some ⟨g,off,none⟩∧∀j u,xs[j]? = some u→w.cell? ⟨g,off+j,none⟩=some u)
theorem Rd.keep {w w':World}{S:Nat→Prop}{v:Value}{xs:List Value}(h:Rd w v xs)(k:za S w w')(hn:∀g,v.ownBlock=some g→¬S g):Rd w' v xs:=by
 obtain⟨a,cap,rfl,hx⟩:=h;refine⟨a,cap,rfl,fun hne=>?_⟩
 obtain⟨g,off,rfl,hc⟩:=hx hne;refine⟨g,off,rfl,fun j u hu=>?_⟩
 have h1:=hc j u hu;exact(World.cell?_of_block (k.block g (World.block_lt_of_cell? _ _ h1) (hn g rfl))).trans h1
theorem Rd.nil (w:World):Rd w (.slice none 0 0) []:=⟨none,0,rfl,fun h=>(h rfl).elim⟩
def bv (c:UInt8):Value:=.int .u8 c.toNat
def Bs (w:World)(v:Value)(l:List UInt8):Prop:=Rd w v (l.map bv)
theorem Rd.ofOwns {w:World}{base:Nat}{e:TypeId}{v:Value}{n:Nat}{xs:List Value}(h:w.ownsRow base e 1 v n xs):Rd w v xs:=by
 obtain⟨hl,h2⟩:=h;rcases h2 with ⟨rfl,rfl⟩|⟨g,cap,cur,rfl,_,hg,hn,hc,hcs,htake⟩
 ·have hx:xs = []:=List.eq_nil_of_length_eq_zero (by simpa using hl)
  subst hx;exact Rd.nil w
 ·have hn':n=xs.length:=by omega
  subst hn';refine⟨some ⟨g,0,none⟩,cap,rfl,fun _=>⟨g,0,rfl,fun j u hu=>?_⟩⟩
  rw[Nat.zero_add,World.cell?,hg];rw[←htake,List.getElem?_take] at hu
  split at hu
  ·simpa using hu
  ·cases hu
theorem zv {P:Program}{w:World}{ops:Array Oper}{rest:List Oper}{o:Oper}{a:Act}{Q:Exit→Act→World→Prop}(hgd:o.guard=none)(s x:Operand)(t:TypeId)
 (ho:o.op = .call { callee:=.builtin .append,args:=#[s,x],argTypes:=#[t,t] })
 (base:Nat) (e:TypeId) (i:TypeInfo) (z:Value) (size bytes:Nat) (ht:P.underlying t=some (.slice e)) (hi:P.info? e=some i) (hz:i.zero=some z)
 (hsize:i.size=size) (hby:i.bytes=bytes) (hzs:z.cells.size=size) (hsz:0<size)
 (v:Value) (n:Nat) (xs:List Value) (hs:a.eval s=v) (hown:w.ownsRow base e size v n xs)
 (ad:Addr) (m c:Nat) (news:List Value) (hx:a.eval x = .slice (some ad) m c) (hl:news.length=m*size) (hnews:∀j u,news[j]? = some u→w.cell? (ad.add j)=some u) (h1:∀u ∈ news,u.oneCell'=true)
 (h63:n+m≤maxLen) (hbytes:(n+m)*bytes≤140737488355328) (hbase:base≤w.heap.size)
 (h:∀v' w',w'.ownsRow base e size v' (n+m) (xs++news)→w.grownBy w' v.ownBlock→(v'.ownBlock=v.ownBlock∨v'.ownBlock=some w.heap.size)→wpList P ops Q rest (a.put o.dst v') w'):wpList P ops Q (o::rest) a w :=
 wpList_plain hgd fun K hK=>by
  obtain⟨v',w',hr,h2,h3,h4⟩:=run_append_own (P:=P) w base t o.type e i z size bytes ht hi hz hsize hby hzs hsz v n xs hown ad m c news hl hnews h1 h63 hbytes hbase;have h5:=zcU w base t o.type e i z size bytes ht hi hz hsize hby hsz v n xs hown ad m c news hl hnews h1 h63 hbytes hr;unfold Oper.wp execOp;simp only[ho,resolve,invoke,builtin,Sem.run_bind,Sem.run_pure,Result.andThen_ok,List.map_toArray,List.map_cons,List.map_nil,hs,hx,hr];exact hK _ _ (h v' w' h2 h3 h5)
theorem zag (g off j:Nat):(⟨g,off,none⟩:Addr).add j=⟨g,off+j,none⟩:=by
 unfold Addr.add
 split
 ·next h=>subst h;rfl
 ·rfl
theorem Rd.news {w:World}{v:Value}{xs:List Value}(h:Rd w v xs){ad:Addr}{n c:Nat}(hv:v = .slice (some ad) n c):n=xs.length∧∀j u,xs[j]? = some u→w.cell? (ad.add j)=some u:=by
 obtain⟨a,cap,rfl,hx⟩:=h;injection hv with e1 e2 e3
 subst e1;subst e2;refine⟨rfl,fun j u hu=>?_⟩
 have hne:xs≠[]:=by
  intro e;simp[e] at hu
 obtain⟨g,off,e4,hc⟩:=hx hne;injection e4 with e4
 subst e4;rw[zag];exact hc j u hu
theorem zy (l:List UInt8):∀u ∈ l.map bv,u.oneCell'=true:=by
 intro u hu;obtain⟨c,_,rfl⟩:=List.mem_map.1 hu
 rfl
theorem zkv (l:List UInt8):(l.map fun c=>(c.toNat:Int)).foldl (fun(r:ByteArray) n=>r.push (UInt8.ofNat n.toNat)) ByteArray.empty=⟨l.toArray⟩:=by
 rw[foldl_push_bytes];have e:(l.map fun c=>(c.toNat:Int)).map (fun n=>UInt8.ofNat n.toNat)=l:=by
  rw[List.map_map]
  conv=>rhs;rw[←List.map_id l]
  apply List.map_congr_left
  intro c _;simp
 rw[e];simp[ByteArray.empty,ByteArray.emptyWithCapacity]
 rfl
theorem zfU {P:Program}{w:World}{v:Value}{l:List UInt8}(h:Bs w v l)(src dst e:TypeId)(hs:P.underlying src=some (.slice e))(he:P.underlying e=some (.int .u8))(hd:P.underlying dst=some .string) :
 (convert src dst v).run P w = .ok (.string ⟨l.toArray⟩) w:=by
 have h0:=h;obtain⟨a,cap,rfl,hx⟩:=h;rw[List.length_map] at h0 ⊢;cases a with
 |none =>
  have hl:l = []:=by
   cases l with
   |nil=>rfl
   |cons c l =>
    obtain⟨g,off,e,_⟩:=hx (by simp)
    cases e
  subst hl;exact run_convert_bytes_nil w src e hs he _ _ dst hd
 |some a =>
  have hn:=(Rd.news h0 rfl).2;have hl:(loadCells a l.length).run P w = .ok ((l.map fun c=>(c.toNat:Int)).map (Value.int .u8)).toArray w:=by
   have:=run_loadCells_list (P:=P) w a (l.map bv) hn;rw[List.length_map] at this;rw[this,List.map_map]
   rfl
  rw[run_convert_bytes_string w src dst e _ l.length cap hs he hd,run_bytesToString w a l.length cap _ hl,zkv]
end Go.Proofs.YtpojgmeoaflmoaaGreatDoor
namespace Go.Proofs.YtpojgmeoaflmoaaGreatDoor
open Go.ChangeShapes Go.WideShapes Go.Deep Go.RowKit Go.WideMaps
theorem zfl {H:Type}{enc:TypeId×Value→H}{W:World}{fuel:Nat}{a:Option Addr}{len cap:Nat}{x:DataW H×List MemPlace}
 (h:DataW.trod enc Tryz.prog W 0 (fun _=>true) true fuel 23 [.slice a len cap]=some x) :
 ∃es:List Int,Rd W (.slice a len cap) (es.map (fun x=>Value.int .i64 x)):=by
 rcases zfL Tryz.underlying23 Tryz.underlying3 (by kernel_rfl) h with h0|⟨b,off,rfl,_,_,_,hc⟩
 ·subst h0
  exact⟨[],a,cap,rfl,fun e=>absurd rfl e⟩
 ·refine⟨(List.range len).map (fun i=>match W.cell? ⟨b,off+i,none⟩ with|some (.int _ n)=>n|_=>0),some ⟨b,off,none⟩,cap,by simp,fun _=>⟨b,off,rfl,fun j u hu=>?_⟩⟩
  rw[List.getElem?_map,List.getElem?_map] at hu;by_cases hj:j<len
  ·obtain⟨n,hn,_⟩:=hc j hj
   rw[List.getElem?_range hj] at hu;simp only[Option.map_some,hn] at hu;injection hu with hu
   rw[hn,hu]
  ·rw[List.getElem?_eq_none (by simp;omega)] at hu
   cases hu
end Go.Proofs.YtpojgmeoaflmoaaGreatDoor
namespace Go.Proofs.YtpojgmeoaflmoaaGreatDoor
open Go.ChangeShapes Go.WideShapes Go.Deep Go.RowKit
theorem bv_of {n:Int}(h:(Lit.int .u8 n).wf=true):bv (UInt8.ofNat n.toNat) = .int .u8 n:=by
 have hb:=bounds_u8 h;unfold bv
 congr 1
 simp;omega
section
variable {H : Type} {enc : TypeId × Value → H} {P : Program} {w : World} {base : Nat} {spare : Nat → Bool} {held : Bool}
theorem zko {t e:TypeId}{fuel:Nat}{v:Value}{x:DataW H×List MemPlace}
 (ht:P.underlying t=some (.slice e)) (he:P.underlying e=some (.int .u8)) (hC:P.cellsOf e=1)
 (h:DataW.trod enc P w base spare held fuel t [v]=some x) :
 ∃(a:Option Addr) (l:List UInt8) (cap:Nat),v = .slice a l.length cap∧Bs w v l∧l.length≤maxLen:=by
 rcases open_slice1 ht hC h with ⟨h0,_⟩|⟨a',len',cap',m,n,V,D,Pl,hcs,hb,hl,hm,hmm,hx,hi⟩
 ·simp at h0
  subst h0;exact⟨none,[],0,rfl,Rd.nil w,by simp⟩
 simp at hcs;subst hcs;have hml:len'≤m:=by rw[hmm];split<;>omega
 have key:∀i,i<len'→∃n,w.cell? (a'.add i)=some (.int .u8 n)∧(Lit.int .u8 n).wf=true:=by
  intro i hil;obtain⟨h1,h2⟩:=hi i (by omega)
  obtain⟨q,hq,_,hwf⟩:=DataW.trod_int he h2;simp at hq;exact⟨q,by rw[h1,hq],hwf⟩
 obtain⟨N,hN⟩:=choose_lt (α:=Int) (p:=fun i n=>w.cell? (a'.add i)=some (.int .u8 n)∧(Lit.int .u8 n).wf=true) key
 let l:List UInt8:=(List.range len').map fun i=>UInt8.ofNat (N i).toNat
 have hlen:l.length=len':=by simp[l]
 refine⟨some a',l,cap',by rw[hlen],⟨some a',cap',by simp[hlen],fun hne=>?_⟩,by omega⟩
 have hpos:0<len':=by
  rcases Nat.eq_zero_or_pos len' with h0|h0
  ·exfalso
   apply hne
   simp[l,h0]
  ·exact h0
 obtain⟨b,off,spot⟩:=a';have hspot:spot=none:=by
  have:=World.cell?_spot (hN 0 hpos).1;simpa [Addr.add] using this
 subst hspot;refine⟨b,off,rfl,fun j u hu=>?_⟩
 have hj:j<len':=by
  have:=(List.getElem?_eq_some_iff.1 hu).1;simpa [l] using this
 obtain⟨h1,h2⟩:=hN j hj;rw[zag] at h1;rw[h1,←bv_of h2];simp[l,hj] at hu;rw[hu]
end
end Go.Proofs.YtpojgmeoaflmoaaGreatDoor
namespace Go.Proofs.YtpojgmeoaflmoaaGreatDoor
open Go.RowKit
theorem zdW {P:Program}(w:World)(base:Nat)(t ty e:TypeId)(i:TypeInfo)(z:Value)(bytes:Nat)(ht:P.underlying t=some (.slice e))(hi:P.info? e=some i)(hz:i.zero=some z)
 (hsize:i.size=1) (hby:i.bytes=bytes) (hzs:z.cells.size=1)
 (v:Value) (n:Nat) (xs:List Value) (hown:w.ownsRow base e 1 v n xs) (x:Value) (news:List Value) (hr:Rd w x news) (h1:∀u ∈ news,u.oneCell'=true)
 (h63:n+news.length≤maxLen) (hbytes:(n+news.length)*bytes≤140737488355328) (hbase:base≤w.heap.size) :
 ∃v' w',(Builtin.append_ #[t,t] ty #[v,x]).run P w = .ok v' w'∧w'.ownsRow base e 1 v' (n+news.length) (xs++news)∧w.grownBy w' v.ownBlock∧(v'.ownBlock=v.ownBlock∨v'.ownBlock=some w.heap.size):=by
 have hr0:=hr;obtain⟨a,c,rfl,hx⟩:=hr;cases a with
 |none =>
  have hn:news = []:=by
   cases news with
   |nil=>rfl
   |cons u r =>
    obtain⟨g,off,e,_⟩:=hx (by simp)
    cases e
  subst hn;have hrun:(Builtin.append_ #[t,t] ty #[v,.slice none 0 c]).run P w = .ok v w:=by
   rcases hown.2 with ⟨rfl,_⟩|⟨g,cap,cur,rfl,_,_,hnc,_⟩
   ·simp[Builtin.append_,run_underlying ht,sizeOf,typeInfo,hi,Builtin.lenOf,Builtin.firstCells]
   ·simp[Builtin.append_,run_underlying ht,sizeOf,typeInfo,hi,Builtin.lenOf,Builtin.firstCells,hnc,storeCells]
  exact⟨v,w,hrun,by simpa using hown,World.grownBy.refl w _,.inl rfl⟩
 |some a =>
  have hn:=(Rd.news hr0 rfl).2;obtain⟨v',w',hrun,h2,h3,_⟩:=run_append_own (P:=P) w base t ty e i z 1 bytes ht hi hz hsize hby hzs (by decide) v n xs hown a news.length c news (by omega) hn h1 h63 hbytes hbase
  exact⟨v',w',hrun,h2,h3,zcU w base t ty e i z 1 bytes ht hi hz hsize hby (by decide) v n xs hown a news.length c news (by omega) hn h1 h63 hbytes hrun⟩
theorem zH {P:Program}{w:World}{ops:Array Oper}{rest:List Oper}{o:Oper}{a:Act}{Q:Exit→Act→World→Prop}(hgd:o.guard=none)(s x:Operand)(t:TypeId)
 (ho:o.op = .call { callee:=.builtin .append,args:=#[s,x],argTypes:=#[t,t] })
 (base:Nat) (e:TypeId) (i:TypeInfo) (z:Value) (bytes:Nat) (ht:P.underlying t=some (.slice e)) (hi:P.info? e=some i) (hz:i.zero=some z)
 (hsize:i.size=1) (hby:i.bytes=bytes) (hzs:z.cells.size=1)
 (v:Value) (n:Nat) (xs:List Value) (hs:a.eval s=v) (hown:w.ownsRow base e 1 v n xs)
 (xv:Value) (hx:a.eval x=xv) (news:List Value) (hr:Rd w xv news) (h1:∀u ∈ news,u.oneCell'=true)
 (h63:n+news.length≤maxLen) (hbytes:(n+news.length)*bytes≤140737488355328) (hbase:base≤w.heap.size)
 (h:∀v' w',w'.ownsRow base e 1 v' (n+news.length) (xs++news)→w.grownBy w' v.ownBlock→(v'.ownBlock=v.ownBlock∨v'.ownBlock=some w.heap.size)→wpList P ops Q rest (a.put o.dst v') w'):wpList P ops Q (o::rest) a w :=
 wpList_plain hgd fun K hK=>by
  obtain⟨v',w',hr,h2,h3,h4⟩:=zdW (P:=P) w base t o.type e i z bytes ht hi hz hsize hby hzs v n xs hown xv news hr h1 h63 hbytes hbase;unfold Oper.wp execOp;simp only[ho,resolve,invoke,builtin,Sem.run_bind,Sem.run_pure,Result.andThen_ok,List.map_toArray,List.map_cons,List.map_nil,hs,hx,hr];exact hK _ _ (h v' w' h2 h3 h4)
theorem zaj {P:Program}{w:World}{ops:Array Oper}{o:Oper}{a:Act}{K:Act→World→Prop}{Q:Exit→Act→World→Prop}{E:Prop}(hgd:o.guard=none)(s x:Operand)(t:TypeId)
 (ho:o.op = .call { callee:=.builtin .append,args:=#[s,x],argTypes:=#[t,t] })
 (base:Nat) (e:TypeId) (i:TypeInfo) (z:Value) (bytes:Nat) (ht:P.underlying t=some (.slice e)) (hi:P.info? e=some i) (hz:i.zero=some z)
 (hsize:i.size=1) (hby:i.bytes=bytes) (hzs:z.cells.size=1)
 (v:Value) (n:Nat) (xs:List Value) (hs:a.eval s=v) (hown:w.ownsRow base e 1 v n xs)
 (xv:Value) (hx:a.eval x=xv) (news:List Value) (hr:Rd w xv news) (h1:∀u ∈ news,u.oneCell'=true)
 (h63:n+news.length≤maxLen) (hbytes:(n+news.length)*bytes≤140737488355328) (hbase:base≤w.heap.size)
 (h:∀v' w',w'.ownsRow base e 1 v' (n+news.length) (xs++news)→w.grownBy w' v.ownBlock→(v'.ownBlock=v.ownBlock∨v'.ownBlock=some w.heap.size)→K (a.put o.dst v') w') :
 if Region.wanted o (yielded ops a.tmps)=true then Oper.wp P o a w K Q else E:=by
 have hw:Region.wanted o (yielded ops a.tmps)=true:=by simp[Region.wanted,hgd]
 rw[if_pos hw];obtain⟨v',w',hr,h2,h3,h4⟩:=zdW (P:=P) w base t o.type e i z bytes ht hi hz hsize hby hzs v n xs hown xv news hr h1 h63 hbytes hbase;unfold Oper.wp execOp;simp only[ho,resolve,invoke,builtin,Sem.run_bind,Sem.run_pure,Result.andThen_ok,List.map_toArray,List.map_cons,List.map_nil,hs,hx,hr];exact h v' w' h2 h3 h4
theorem Rd.keepNon {w w':World}{v:Value}{xs:List Value}(h:Rd w v xs)(k:za zq2 w w'):Rd w' v xs:=h.keep k (fun _ _ e=>e)
theorem zb {w:World}{base:Nat}{e:TypeId}{size:Nat}{v:Value}{n:Nat}{xs:List Value}(h:w.ownsRow base e size v n xs):∃a cap,v = .slice a n cap∧n≤cap∧cap≤maxLen:=by
 rcases h.2 with ⟨rfl,rfl⟩|⟨g,cap,cur,rfl,_,_,h1,h2,_⟩
 ·exact⟨none,0,rfl,by omega,by simp[maxLen]⟩
 ·exact⟨_,cap,rfl,h1,h2⟩
theorem zdR (w:World)(u:Value)(t:TypeId):Rd (w.alloc (.cells #[u] t)) (.slice (some ⟨w.heap.size,0,none⟩) 1 1) [u]:=by
 refine⟨_,1,rfl,fun _=>⟨w.heap.size,0,rfl,fun j x hx=>?_⟩⟩
 cases j with
 |zero =>
  simp at hx;subst hx;exact World.cell?_alloc_new _ _ _ 0
 |succ j=>simp at hx
theorem zc {S:Nat→Prop}{w w':World}{base:Nat}{e:TypeId}{size:Nat}{v:Value}{n:Nat}{xs:List Value}(h:w.ownsRow base e size v n xs)(k:za S w w')(hn:∀g,v.ownBlock=some g→¬S g):w'.ownsRow base e size v n xs:=by
 obtain⟨h1,h2⟩:=h;refine⟨h1,?_⟩;rcases h2 with h2|⟨g,cap,cur,rfl,hb,hg,rest⟩
 ·exact .inl h2
 ·exact .inr ⟨g,cap,cur,rfl,hb,k.at hg (hn g rfl),rest⟩
end Go.Proofs.YtpojgmeoaflmoaaGreatDoor
namespace Go.Proofs.YtpojgmeoaflmoaaGreatDoor
open Go.RowKit Go.Maps
section
variable {α : Type}
open Classical in
/-- How an element reads,by a relation. -/
noncomputable def readAs (R:Value→α→Prop) (v:Value):Option (DataW α×List MemPlace):=if h:∃x,R v x then some (.held h.choose,[]) else none
def Fun1 (R:Value→α→Prop):Prop:=∀v x y,R v x→R v y→x=y
theorem zcu {R:Value→α→Prop}(hf:Fun1 R){v:Value}{x:α}(h:R v x):readAs R v=some (.held x,[]):=by
 have h1:∃x,R v x:=⟨x,h⟩;unfold readAs;rw[dif_pos h1,hf v _ x h1.choose_spec h]
theorem zbo {R:Value→α→Prop}{v:Value}{d:DataW α}{ps:List MemPlace}(h:readAs R v=some (d,ps)):ps = []∧∃x,d = .held x∧R v x:=by
 unfold readAs at h
 split at h
 ·rename_i h1
  injection h with h
  injection h with h2 h3
  exact⟨h3.symm,_,h2.symm,h1.choose_spec⟩
 ·cases h
def zF (w:World)(kt:TypeId)(R:Value→α→Prop)(b:Nat)(D:DataW α):Prop:=w.ownsMap Tryz.prog kt (readAs R) b (size D) D
variable {w w' : World} {kt : TypeId} {R R' : Value → α → Prop} {b n : Nat} {D : DataW α} {S : Nat → Prop}
theorem zF.of (h:w.ownsMap Tryz.prog kt (readAs R) b n D):zF w kt R b D:=by
 obtain⟨es,clock,hb,F,hs,rfl⟩:=h;exact⟨es,clock,hb,F,by simp[size,length_sorted],rfl⟩
theorem zF.lt (h:zF w kt R b D):b<w.heap.size:=World.ownsMap.lt h
theorem zF.keep (h:zF w kt R b D)(k:za S w w')(hb:¬S b)(hf:Fun1 R')(hR:∀v x,R v x→R' v x):zF w' kt R' b D:=by
 obtain⟨es,clock,hb',F,hs,hD⟩:=h;obtain⟨F1,hm,_⟩:=F.stay (R':=readAs R') (fun x _ z hz=>by
  obtain⟨z1,z2⟩:=z;obtain⟨rfl,y,rfl,hy⟩:=zbo hz;exact zcu hf (hR _ _ hy))
 exact⟨es,clock,k.at hb' hb,F1,hs,by rw[hm];exact hD⟩
theorem zF.new (w:World)(kt:TypeId)(R:Value→α→Prop):zF (w.alloc (.map #[] 0)) kt R w.heap.size (.map []):=World.ownsMap_made w _ _ _
theorem zF.isMap (h:zF w kt R b D):IsMap D:=World.ownsMap.isMap h
theorem zav {b:Nat}(h:w.mapTurned w' b):za (zq3 b) w w':=(za.refl _ w).grown h.grown (fun k e=>.inl (by injection e with e;exact e.symm))
section
variable {ops : Array Oper} {rest : List Oper} {o : Oper} {a : Act} {Q : Exit → Act → World → Prop}
theorem zu (hg:o.guard=none)(m x:Operand)(t:TypeId)(hop:o.op=Op.lookup t m x true)
 (e:TypeId) (K:Keyed Tryz.prog kt) (ht:Tryz.prog.underlying t=some (.map kt e)) {z:Value} (hz:(zeroValue e).run Tryz.prog w = .ok z w) (x0:α) (hf:Fun1 R) (hz0:R z x0)
 (hm:a.eval m = .map (some b)) (hown:zF w kt R b D) (key:Value) (kl:Lit) (hx:a.eval x=key) (hkey:keyOf Tryz.prog kt key=some kl)
 (hK:∀v y,R v y→D.atKey kl (.held x0) = .held y→wpList Tryz.prog ops Q rest (a.put o.dst (.tuple #[v,.bool (has D kl)])) w) :
 wpList Tryz.prog ops Q (o::rest) a w :=
 wpList_lookup_own_ok w hg m x t hop kt e K ht (readAs R) hz (.held x0) [] (zcu hf hz0) b (size D) D hm hown key kl hx hkey (fun v ps hv=>by
  obtain⟨_,y,hy,hr⟩:=zbo hv;exact hK v y hr hy)
theorem zi2 (hg:o.guard=none)(m x:Operand)(t:TypeId)(hop:o.op=Op.lookup t m x false)
 (e:TypeId) (K:Keyed Tryz.prog kt) (ht:Tryz.prog.underlying t=some (.map kt e)) {z:Value} (hz:(zeroValue e).run Tryz.prog w = .ok z w) (x0:α) (hf:Fun1 R) (hz0:R z x0)
 (hm:a.eval m = .map (some b)) (hown:zF w kt R b D) (key:Value) (kl:Lit) (hx:a.eval x=key) (hkey:keyOf Tryz.prog kt key=some kl)
 (hK:∀v y,R v y→D.atKey kl (.held x0) = .held y→wpList Tryz.prog ops Q rest (a.put o.dst v) w) :
 wpList Tryz.prog ops Q (o::rest) a w:=by
 refine wpList_plain hg fun K' hK'=>?_
 obtain⟨v,ps,hrun,hv⟩:=World.ownsMap.lookup hown K ht hz (zcu hf hz0) hkey;obtain⟨_,y,hy,hr⟩:=zbo hv;unfold Oper.wp;simp[execOp,hop,hm,hx,hrun,Result.andThen];exact hK' _ _ (hK v y hr hy)
theorem zbS (hg:o.guard=none)(m x v:Operand)(t:TypeId)(hop:o.op=Op.mapUpdate t m x v)
 (e:TypeId) (K:Keyed Tryz.prog kt) (ht:Tryz.prog.underlying t=some (.map kt e)) (hf:Fun1 R)
 (hm:a.eval m = .map (some b)) (hown:zF w kt R b D) (hn:size D<maxLen) (key val:Value) (kl:Lit) (hx:a.eval x=key) (hv:a.eval v=val) (hkey:keyOf Tryz.prog kt key=some kl)
 (y:α) (hval:R val y)
 (hK:∀w',zF w' kt R b (D.put kl (.held y))→w.mapTurned w' b→wpList Tryz.prog ops Q rest (a.put o.dst undef) w') :
 wpList Tryz.prog ops Q (o::rest) a w :=
 wpList_mapUpdate_in w hg m x v t hop kt e K ht (readAs R) b (size D) D hm hown hn key val kl hx hv hkey (.held y) [] (zcu hf hval) (fun w' h1 h2=>hK w' (zF.of h1) h2)
theorem zdt (hg:o.guard=none)(m x:Operand)(t:TypeId)(hop:o.op=Op.call { callee:=Callee.builtin Builtin.delete,args:=#[m,x],argTypes:=#[t,kt] })
 (e:TypeId) (K:Keyed Tryz.prog kt) (ht:Tryz.prog.underlying t=some (.map kt e))
 (hm:a.eval m = .map (some b)) (hown:zF w kt R b D) (key:Value) (kl:Lit) (hx:a.eval x=key) (hkey:keyOf Tryz.prog kt key=some kl)
 (hK:∀w',zF w' kt R b (D.del kl)→w.mapTurned w' b→wpList Tryz.prog ops Q rest (a.put o.dst (.tuple #[])) w') :
 wpList Tryz.prog ops Q (o::rest) a w :=
 wpList_delete_own w hg m x t kt hop e K ht (readAs R) b (size D) D hm hown key kl hx hkey (fun w' h1 h2=>hK w' (zF.of h1) h2)
end
end
theorem Rd.uniq {w:World}{v:Value}{xs ys:List Value}(h:Rd w v xs)(k:Rd w v ys):xs=ys:=by
 obtain⟨a,cap,rfl,hx⟩:=h;obtain⟨a',cap',e,hy⟩:=k;injection e with e1 e2 e3
 apply List.ext_getElem e2
 intro i h1 h2;obtain⟨g,off,ea,hc⟩:=hx (by intro e;subst e;exact absurd h1 (Nat.not_lt_zero _))
 obtain⟨g',off',ea',hc'⟩:=hy (by intro e;subst e;exact absurd h2 (Nat.not_lt_zero _))
 rw[←e1,ea] at ea';injection ea' with ea'
 injection ea' with e4 e5
 subst e4;subst e5;have q1:=hc i _ (List.getElem?_eq_getElem h1);have q2:=hc' i _ (List.getElem?_eq_getElem h2);rw[q1] at q2;injection q2
theorem zqw {c d:UInt8}(h:bv c=bv d):c=d:=by
 unfold bv at h;injection h with _ h
 exact UInt8.toNat_inj.1 (by omega)
theorem Bs.uniq {w:World}{v:Value}{l m:List UInt8}(h:Bs w v l)(k:Bs w v m):l=m :=
 List.map_inj_right (fun _ _ e=>zqw e) |>.1 (Rd.uniq h k)
def zbT (w:World)(T:Nat→Prop)(v:Value)(l:List UInt8):Prop:=Bs w v l∧∀g,v.ownBlock=some g→T g
theorem zbT.fun1 (w:World)(T:Nat→Prop):Fun1 (zbT w T):=fun _ _ _ h k=>Bs.uniq h.1 k.1
theorem zbT.keep {w w':World}{S T U:Nat→Prop}{v:Value}{l:List UInt8}(h:zbT w T v l)(k:za S w w')(hn:∀g,T g→¬S g)(hu:∀g,T g→U g):zbT w' U v l :=
 ⟨Rd.keep h.1 k (fun g e=>hn g (h.2 g e)),fun g e=>hu g (h.2 g e)⟩
end Go.Proofs.YtpojgmeoaflmoaaGreatDoor
namespace Go.Proofs.YtpojgmeoaflmoaaGreatDoor
def zo (n:Nat):List UInt8:=if n<128 then [UInt8.ofNat n] else UInt8.ofNat (n%128+128)::zo (n / 128)
termination_by n
decreasing_by omega
theorem zbV {n:Nat}(h:n<128):zo n = [UInt8.ofNat n]:=by rw[zo,if_pos h]
theorem zcx {n:Nat}(h:128≤n):zo n=UInt8.ofNat (n%128+128)::zo (n / 128):=by rw[zo,if_neg (by omega)]
theorem zd2 (n:Nat):0<(zo n).length:=by
 by_cases h:n<128
 ·rw[zbV h];exact Nat.zero_lt_one
 ·rw[zcx (by omega)];simp
theorem zi1:∀(k n:Nat),n<128^(k+1)→(zo n).length≤k+1
 |0,n,h=>by rw[zbV (by omega)];simp
 |k+1,n,h=>by
  by_cases h1:n<128
  ·rw[zbV h1];simp
  ·rw[zcx (by omega)]
   have:=zi1 k (n / 128) (by rw[Nat.div_lt_iff_lt_mul (by omega)];rw[Nat.pow_succ] at h;omega)
   simp only[List.length_cons];omega
theorem za0 {n:Nat}(h:n<2^63):(zo n).length≤9:=zi1 8 n (by omega)
theorem zP {n:Nat}(h:n<2^21):(zo n).length≤3:=zi1 2 n (by omega)
theorem zqO {a i part:Nat}(h:a<2^(7*i)):a ||| (part <<< (7*i))=a+part*128^i:=by
 have e:(128:Nat)^i=2^(7*i):=by rw[Nat.pow_mul]
 have:=Nat.two_pow_add_eq_or_of_lt h part;rw[Nat.or_comm,Nat.shiftLeft_eq,Nat.mul_comm part,←this,e,Nat.mul_comm part];omega
def zm (l:List Nat):List UInt8:=l.flatMap zo
theorem zfJ:zm [] = []:=rfl
theorem zdp (n:Nat)(l:List Nat):zm (n::l)=zo n++zm l:=rfl
theorem zkY (l:List Nat)(n:Nat):zm (l ++ [n])=zm l++zo n:=by simp[zm]
end Go.Proofs.YtpojgmeoaflmoaaGreatDoor
namespace Go.Proofs.YtpojgmeoaflmoaaGreatDoor
open Go.RowKit
theorem infoU8:(Tryz.prog.info? 5).map (fun i=>(i.zero,i.size,i.bytes))=some (some (.int .u8 0),1,1):=by kernel_rfl
theorem zhb (cap:Nat)(w:World):Calls Tryz.prog 150 #[.slice none 0 cap] w fun e w'=>e = .returned (.slice none 0 0)∧w=w':=by
 have hq:=fun(w:World)=>Lib.run_eql_slice_nil (P:=Tryz.prog) w 43 5 none 0 cap 0 0 Tryz.underlying43
 go_enter Tryz.func150,Tryz.ntmps150
 go_wp2
 go_ret;exact⟨rfl,rfl⟩
theorem or128 (m:Nat):bits .or .u8 ((m:Int)%256) 128=((m%128+128:Nat):Int):=by
 have h:∀x:Fin 256,bits .or .u8 ((x.val:Nat):Int) 128=((x.val%128+128:Nat):Int):=by decide +kernel
 have:=h ⟨m%256,by omega⟩
 simp only[Int.natCast_emod,Int.natCast_add] at this ⊢;rw[show((256:Nat):Int)=256 from rfl] at this
 rw[this];omega
theorem zi7 {m:Nat}(h:m<256):Value.int .u8 (m:Int)=bv (UInt8.ofNat m):=by
 unfold bv;rw[UInt8.toNat_ofNat',Nat.mod_eq_of_lt (by omega)]
theorem zpX (v:Value)(k n base:Nat)(xs:List Value)(w:World)(hn:n<2^63)(hown:w.ownsRow base 5 1 v k xs)(hb:base≤w.heap.size)(hk:k≤1000000000000) :
 Calls Tryz.prog 235 #[v,.int .u64 n] w fun e w'=>∃v',e = .returned v'∧w'.ownsRow base 5 1 v' (k+(zo n).length) (xs++(zo n).map bv)∧za (fun b=>v.ownBlock=some b) w w':=by
 have HO:=zz0 hown;have HB:=zz0 hb;obtain⟨i0,hi0,hz0,hz1,hz2⟩:=info_parts infoU8;clear hown hb
 go_enter Tryz.func235,Tryz.ntmps235
 go_wp2_with fail
 go_loopw [0,1] (fun o i wr=>∃(m:Nat) (pre:List UInt8),i = .int .u64 m∧m≤n∧pre.length≤10∧pre++zo m=zo n∧wr.ownsRow base 5 1 o (k+pre.length) (xs++pre.map bv)∧za (fun b=>v.ownBlock=some b) w wr∧(∀b,o.ownBlock=some b→v.ownBlock=some b∨w.heap.size≤b)) (fun _ i _=>(intOf i).toNat)
 case atStart=>exact⟨n,[],rfl,Nat.le_refl _,by simp,rfl,by simpa using HO.out,za.refl _ _,fun b h=>.inl h⟩
 case round =>
  obtain⟨m,pre,rfl,hm,hp,he,ho,hkp,hob⟩:=hrel;have HE:=zz0 he;have HO2:=zz0 ho;have KP:=zz0 hkp;have OB:=zz0 hob;clear he ho hkp hob;by_cases h:m<128
  ·have hlt:¬(128:Int)≤(m:Int):=by omega
   obtain⟨va,vc,rfl,_,_⟩:=zb HO2.out;have hpl:Hid (pre.length≤10):=zz0 hp
   go_wp2_with(refine zH rfl (.tmp 15) (.tmp 18) 43 rfl base 5 i0 (.int .u8 0) 1 Tryz.underlying43 hi0 hz0 hz1 hz2 rfl _ _ _ rfl (HO2.out.alloc _) (.slice (some ⟨wr.heap.size,0,none⟩) 1 1) rfl [.int .u8 m] (zdR _ _ _) (by intro u hu;simp at hu;subst hu;rfl) (by unfold maxLen;simp;omega) (by simp;omega) (by have:=KP.out.size;have:=HB.out;simp;omega) ?_;intro v' w' ho hg hpp;have HO3:=zz0 ho;have HG:=zz0 hg;clear ho hg hpp)
   go_ret;have h3:=HO3.out;have he:=HE.out;rw[zbV h] at he;rw[zi7 (by omega),List.append_assoc,←List.map_singleton (f:=bv),←List.map_append,he,show k+pre.length+(List.map bv [UInt8.ofNat m]).length=k+(zo n).length by rw[←he];simp;omega] at h3
   exact⟨v',rfl,h3,(KP.out.alloc _).grown HG.out (fun q e=>OB.out q e)⟩
  ·have hge:(128:Int)≤(m:Int):=by omega
   obtain⟨va,vc,rfl,_,_⟩:=zb HO2.out
   go_wp2_with(rw[or128];refine zH rfl (.tmp 9) (.tmp 13) 43 rfl base 5 i0 (.int .u8 0) 1 Tryz.underlying43 hi0 hz0 hz1 hz2 rfl _ _ _ rfl (HO2.out.alloc _) (.slice (some ⟨wr.heap.size,0,none⟩) 1 1) rfl [.int .u8 ((m%128+128:Nat):Int)] (zdR _ _ _) (by intro u hu;simp at hu;subst hu;rfl) (by unfold maxLen;simp;omega) (by simp;omega) (by have:=KP.out.size;have:=HB.out;simp;omega) ?_;intro v' w' ho hg hpp;have HO3:=zz0 ho;have HG:=zz0 hg;have HP:=zz0 hpp;clear ho hg hpp)
   have h3:=HO3.out;have he:=HE.out;rw[zcx (by omega)] at he
   have hl:pre.length+1≤10:=by
    have h9:=za0 hn;rw[←he] at h9;have:=zd2 (m / 128);simp at h9;omega
   rw[zi7 (by omega),List.append_assoc,←List.map_singleton (f:=bv),←List.map_append,show k+pre.length+(List.map bv [UInt8.ofNat (m%128+128)]).length=k+(pre ++ [UInt8.ofNat (m%128+128)]).length by simp;omega] at h3
   refine⟨⟨m / 128,pre ++ [UInt8.ofNat (m%128+128)],by congr 1,by omega,by simpa using hl,by rw[List.append_assoc];exact he,h3,(KP.out.alloc _).grown HG.out (fun q e=>OB.out q e),fun b e=>?_⟩,by simp[intOf];omega⟩
   rcases HP.out with h4|h4
   ·rw[h4] at e
    exact OB.out b e
   ·rw[h4] at e
    have:=KP.out.size;simp at e;exact .inr (by omega)
def NewB (w:World)(l:List UInt8)(e:Ending)(w':World):Prop:=∃v',e = .returned v'∧za zq2 w w'∧w'.ownsRow w.heap.size 5 1 v' l.length (l.map bv)
theorem zfK (a:Addr)(c:Nat)(l:List UInt8)(w:World)(h:Bs w (.slice (some a) l.length c) l)(hlen:l.length≤140737488355328) :
 Calls Tryz.prog 150 #[.slice (some a) l.length c] w (NewB w l):=by
 have hq:=fun(w:World)=>Lib.run_eql_slice_nil (P:=Tryz.prog) w 43 5 (some a) l.length c 0 0 Tryz.underlying43
 obtain⟨i0,hi,hz0,hz1,hz2⟩:=info_parts infoU8;have h':Bs (w.alloc (.cells #[] 5)) (.slice (some a) l.length c) l:=by
  obtain⟨a',cap',e1,hx⟩:=h;refine⟨a',cap',e1,fun hne=>?_⟩
  obtain⟨g,off,e2,hc⟩:=hx hne;exact⟨g,off,e2,fun j u hu=>(World.cell?_alloc_lt _ _ _ (World.block_lt_of_cell? _ _ (hc j u hu))).trans (hc j u hu)⟩
 have hnews:=(Rd.news h' rfl).2;have HN:=zz0 hnews;have HL:=zz0 hlen;have hown:Hid ((w.alloc (.cells #[] 5)).ownsRow w.heap.size 5 1 (.slice (some ⟨w.heap.size,0,none⟩) 0 0) 0 []):=World.ownsRow_made w #[] 0 (Nat.le_refl _) (by decide) rfl
 clear hnews h h' hlen
 go_enter Tryz.func150,Tryz.ntmps150
 go_wp2_with(at_builtin;refine zv rfl _ _ 43 rfl w.heap.size 5 i0 (.int .u8 0) 1 1 Tryz.underlying43 hi hz0 hz1 hz2 rfl (by decide) _ _ _ rfl hown.out a l.length c (l.map bv) rfl (by simp) HN.out (zy l) (by have:=HL.out;unfold maxLen;omega) (by have:=HL.out;omega) (by simp) ?_;intro v' w' ho hg hp;have HO:=zz0 ho;have HP:=zz0 hp;clear ho hp)
 go_ret;have hk:za zq2 w w':=by
  have:=((za.refl zq2 w).alloc (.cells #[] 5)).trans ((za.refl (zq3 w.heap.size) _).grown hg (row:=some w.heap.size) (fun k e=>.inl (by injection e with e;exact e.symm))) (U:=zq2) (fun _ _ h=>h) (fun i hi h=>by unfold zq3 at h;omega)
  exact this
 have ho:=HO.out;rw[List.nil_append,show 0+l.length=(l.map bv).length by simp] at ho
 exact⟨v',rfl,hk,by simpa using ho⟩
theorem za7 (v:Value)(l:List UInt8)(w:World)(h:Bs w v l)(hlen:l.length≤140737488355328):Calls Tryz.prog 150 #[v] w (NewB w l):=by
 have h0:=h;obtain⟨a,cap,rfl,hx⟩:=h;rw[List.length_map] at h0 ⊢;cases a with
 |none =>
  have hl:l = []:=by
   cases l with
   |nil=>rfl
   |cons c l =>
    obtain⟨g,off,e,_⟩:=hx (by simp)
    cases e
  subst hl;refine(zhb cap w).mono ?_;rintro e w' ⟨rfl,rfl⟩;exact⟨_,rfl,za.refl _ _,rfl,.inl ⟨rfl,rfl⟩⟩
 |some a=>exact zfK a cap l w h0 hlen
def nv (n:Nat):Value:=.int .u64 n
theorem zaf:∀(ns:List Nat),(∀n ∈ ns,n<2^63)→(zm ns).length≤9*ns.length
 |[],_=>by simp[zm]
 |n::r,h=>by
  have h1:=za0 (h n (by simp))
  have h2:=zaf r (fun m hm=>h m (by simp[hm]))
  rw[zdp,List.length_append,List.length_cons];omega
theorem zS (b:Value)(l:List UInt8)(a:Option Addr)(c:Nat)(ns:List Nat)(w:World)(hb:Bs w b l)(hl:l.length≤100000000000)(hr:Rd w (.slice a ns.length c) (ns.map nv))(hn:∀n ∈ ns,n<2^63)(hlen:ns.length≤1000) :
 Calls Tryz.prog 179 #[b,.slice a ns.length c] w (NewB w (l++zm ns)):=by
 have HB:=zz0 hb;have HR:=zz0 hr;clear hb hr
 go_enter Tryz.func179,Tryz.ntmps179
 go_wp2_with fail
 refine(za7 b l w HB.out (by omega)).mono ?_
 rintro e w1 ⟨v1,rfl,k1,o1⟩
 go_wp2_with fail
 have O1:=zz0 o1;have K1:=zz0 k1;clear o1 k1
 go_loopw [5,12] (fun o i wr=>∃j:Nat,j≤ns.length∧i = .int .i64 j∧za zq2 w wr∧wr.ownsRow w.heap.size 5 1 o (l++zm (ns.take j)).length ((l++zm (ns.take j)).map bv)) (fun _ i _=>ns.length-(intOf i).toNat)
 case atStart=>exact⟨0,by omega,rfl,K1.out,by simpa [zm] using O1.out⟩
 case round =>
  obtain⟨j,hj,rfl,kp,ho⟩:=hrel;have KP:=zz0 kp;have HO:=zz0 ho;clear kp ho;by_cases h:j<ns.length
  ·have hlt:(j:Int)<(ns.length:Int):=by omega
   have hr2:=HR.out.keepNon KP.out;obtain⟨g,off,rfl,hc⟩:∃g off,a=some ⟨g,off,none⟩∧∀j u,(ns.map nv)[j]? = some u→wr.cell? ⟨g,off+j,none⟩=some u:=by
    obtain⟨a',c',e,hx⟩:=hr2;injection e with e1 e2 e3
    obtain⟨g,off,e4,hc⟩:=hx (by intro e;have e':=List.map_eq_nil_iff.1 e;rw[e'] at h;exact absurd h (by simp))
    exact⟨g,off,e1.trans e4,hc⟩
   have hcell:wr.cell? ⟨g,off+j,none⟩=some (.int .u64 ((ns.getD j 0:Nat):Int)):=hc j _ (by simp[nv,h])
   have hnj:ns.getD j 0<2^63:=hn _ (by simp[h])
   have HT:Hid (zm (ns.take (j+1))=zm (ns.take j)++zo (ns.getD j 0)):=zz0 (by rw[List.take_succ_eq_append_getElem h,zkY];simp[h])
   have HL:Hid ((l++zm (ns.take j)).length≤1000000000000):=zz0 (by
    have:=zaf (ns.take j) (fun m hm=>hn m (List.mem_of_mem_take hm))
    rw[List.length_append];rw[List.length_take] at this;omega)
   have HN:=zz0 hnj;clear hc hr2 hnj;generalize ns.getD j 0=m at hcell HT HN
   go_wp2_with fail
   refine(zpX _ _ m w.heap.size _ wr HN.out HO.out KP.out.size HL.out).mono ?_;rintro e w2 ⟨v2,rfl,o2,k2⟩;have K2:=zz0 (KP.out.trans k2 (fun _ _ h=>h) (fun i hi e=>by have:=(HO.out.lt i e).1;omega):za zq2 w w2)
   rw[←List.map_append,List.append_assoc,←HT.out,show(l++zm (ns.take j)).length+(zo m).length=(l++zm (ns.take (j+1))).length by rw[HT.out];simp;omega] at o2
   have O2:=zz0 o2;clear o2 k2
   go_wp2_with fail
   exact⟨⟨j+1,by omega,by go_num,K2.out,O2.out⟩,by simp[intOf];omega⟩
  ·have e:j=ns.length:=by omega
   subst e;have ho:=HO.out;rw[List.take_length] at ho;have HO2:=zz0 ho;clear ho
   go_wp2_with fail
   go_ret;exact⟨_,rfl,KP.out,HO2.out⟩
theorem zg {w:World}{B base:Nat}{e:TypeId}{s:Nat}{v:Value}{n:Nat}{xs:List Value}(h:w.ownsRow B e s v n xs)(hb:base≤B):w.ownsRow base e s v n xs:=by
 obtain⟨h1,h2⟩:=h;refine⟨h1,?_⟩;rcases h2 with h2|⟨g,cap,cur,rfl,hb2,rest⟩
 ·exact .inl h2
 ·exact .inr ⟨g,cap,cur,rfl,by omega,rest⟩
def zaG (t:List UInt8):List UInt8:=zo t.length++t
theorem zft (b:Value)(l:List UInt8)(a:Option Addr)(c:Nat)(t:List UInt8)(w:World)(hb:Bs w b l)(hl:l.length≤100000000000)(ht:Bs w (.slice a t.length c) t)(htl:t.length≤100000000000) :
 Calls Tryz.prog 216 #[b,.slice a t.length c] w (NewB w (l++zaG t)):=by
 have HB:=zz0 hb;have HT:=zz0 ht;obtain⟨i0,hi0,hz0,hz1,hz2⟩:=info_parts infoU8;clear hb ht
 go_enter Tryz.func216,Tryz.ntmps216
 go_wp2_with fail
 have hp:=zS b l (some ⟨w.heap.size,0,none⟩) 1 [t.length] (w.alloc (.cells #[.int .u64 t.length] 184)) (HB.out.keepNon ((za.refl zq2 w).alloc _)) hl (zdR _ _ _) (by intro n hn;simp at hn;omega) (by simp)
 refine hp.mono ?_;rintro e w1 ⟨v1,rfl,k1,o1⟩;have K1:=zz0 (((za.refl zq2 w).alloc _).trans1 k1);have O1:=zz0 o1;have hln:Hid ((l++zm [t.length]).length≤100000000009):=zz0 (by have:=zaf [t.length] (by intro n hn;simp at hn;omega);rw[List.length_append];simp at this;omega)
 have HT1:=zz0 (HT.out.keepNon K1.out);clear hp k1 o1;generalize hm:l++zm [t.length]=m at O1 hln;have HM:=zz0 hm;clear hm
 go_wp2_with(refine zH rfl _ _ 43 rfl w.heap.size 5 i0 (.int .u8 0) 1 Tryz.underlying43 hi0 hz0 hz1 hz2 rfl _ _ _ rfl (zg O1.out (by simp)) (.slice a t.length c) rfl (t.map bv) HT1.out (zy t) (by have:=hln.out;unfold maxLen;simp;omega) (by have:=hln.out;simp;omega) (by have:=K1.out.size;omega) ?_;intro v' w' ho hg hpp;have HO3:=zz0 ho;have HG:=zz0 hg;clear ho hg hpp)
 go_ret;have h3:=HO3.out;rw[←List.map_append,←HM.out,List.append_assoc,show zm [t.length]++t=zaG t by simp[zm,zaG]] at h3
 refine⟨_,rfl,K1.out.grown HG.out (fun q e=>.inr (by have:=(O1.out.lt q e).1;simp at this;omega)),?_⟩
 simpa [zm,zaG,Nat.add_assoc] using h3
def okc:Value→Prop
 |.slice a n c=>n≤c∧∀ad,a=some ad→∃g off,ad=⟨g,off,none⟩
 |_=>True
theorem zdA {w:World}{base:Nat}{e:TypeId}{size:Nat}{v:Value}{n:Nat}{xs:List Value}(h:w.ownsRow base e size v n xs):okc v:=by
 rcases h.2 with ⟨rfl,rfl⟩|⟨g,cap,cur,rfl,_,_,h1,_⟩
 ·exact⟨Nat.zero_le _,fun ad e=>by cases e⟩
 ·exact⟨h1,fun ad e=>by injection e with e;subst e;exact⟨_,_,rfl⟩⟩
theorem andNot128 (m:Nat)(h:m<128):bits .andNot .u8 ((m:Nat):Int) 128=((m:Nat):Int):=by
 have h1:∀x:Fin 128,bits .andNot .u8 ((x.val:Nat):Int) 128=((x.val:Nat):Int):=by decide +kernel
 exact h1 ⟨m,h⟩
theorem andNot128' (m:Nat)(h:m<128):bits .andNot .u8 (((m:Nat):Int)+128) 128=((m:Nat):Int):=by
 have h1:∀x:Fin 128,bits .andNot .u8 (((x.val:Nat):Int)+128) 128=((x.val:Nat):Int):=by decide +kernel
 exact h1 ⟨m,h⟩
theorem zX {n:Nat}(h:n<2^64):IntKind.u64.wrap (n:Int)=(n:Int):=by
 have e:(2^IntKind.u64.bits:Int)=18446744073709551616:=rfl;unfold IntKind.wrap;simp only[e];rw[if_neg (by simp[IntKind.signed])]
 omega
theorem zmf {acc m k n:Nat}(hn:n<2^63)(hv:acc+m*128^k≤n)(ha:acc<128^k):bits .or .u64 (acc:Int) (IntKind.u64.wrap ((m:Int)*2^(7*k)))=((acc+m*128^k:Nat):Int):=by
 have e:(m:Int)*2^(7*k)=((m*128^k:Nat):Int):=by
  rw[show(128:Nat)^k=2^(7*k) by rw[Nat.pow_mul]]
  simp
 have e2:m*128^k=m <<< (7*k):=by rw[Nat.shiftLeft_eq,Nat.pow_mul]
 generalize hq:m*128^k=q at hv e e2;rw[e,zX (by omega),u64_or_nat acc q (by omega) (by omega),e2,zqO (by rw[Nat.pow_mul];exact ha),←e2]
 rw[←hq]
theorem ziT (v:Value)(n:Nat)(r:List UInt8)(w:World)(h:Bs w v (zo n++r))(hc:okc v)(hn:n<2^63) :
 Calls Tryz.prog 156 #[v] w fun e w'=>e = .returned (.tuple #[.int .u64 n,.int .i64 (zo n).length,.nilIface])∧w'=w:=by
 obtain⟨a,c,rfl,hx⟩:=h;obtain⟨g,off,rfl,hcell⟩:=hx (by intro e;have h0:=zd2 n;rw[List.map_eq_nil_iff,List.append_eq_nil_iff] at e;rw[e.1] at h0;exact absurd h0 (by simp))
 rw[List.length_map]
 replace hc:=hc.1
 simp only[List.length_map] at hc;have h9:=za0 hn;have HL:=zz0 hcell;generalize hq:(zo n++r).length=q at hc ⊢;have hq1:(zo n).length≤q:=by rw[←hq];simp
 clear hcell hx
 go_enter Tryz.func156,Tryz.ntmps156
 go_wp2_with fail
 all_goals
  go_loopw [5,15] (fun o i wr=>∃(m acc:Nat) (pre:List UInt8),i = .int .i64 pre.length∧o = .int .u64 acc∧wr=w∧pre++zo m=zo n∧n=acc+m*128^pre.length∧acc<128^pre.length∧(pre.length=0∨0<m)) (fun _ i _=>q-(intOf i).toNat)
  case atStart=>exact⟨n,0,[],rfl,rfl,rfl,rfl,by simp,by simp,.inl rfl⟩
  case round =>
   obtain⟨m,acc,pre,rfl,rfl,rfl,he,hv,ha,hz⟩:=hrel;have hl:pre.length<(zo n).length:=by rw[←he];have:=zd2 m;simp;omega
   have hle:(zo n++r)=pre++(zo m++r):=by rw[←he];simp
   by_cases hm:m<128
   ·have hcc:wr.cell? ⟨g,off+pre.length,none⟩=some (.int .u8 (m:Int)):=HL.out _ _ (by rw[hle,zbV hm];simp[bv,Nat.mod_eq_of_lt (show m<256 by omega)])
    have h1:=andNot128 m hm;have HN:Hid (pre.length+1=(zo n).length):=zz0 (by rw[←he,zbV hm];simp)
    have HV:=zz0 hv;have ho:=zmf hn (by omega:acc+m*128^pre.length≤n) ha
    rw[←hv] at ho;clear hv
    go_wp2_with fail
    ·go_ret3
     refine⟨?_,rfl⟩;show Ending.returned (.tuple #[.int .u64 (n:Int),.int .i64 ((pre.length:Int)+1),.nilIface])=_;rw[←HN.out]
     rfl
    ·go_ret3
     refine⟨?_,rfl⟩;show Ending.returned (.tuple #[.int .u64 (n:Int),.int .i64 ((pre.length:Int)+1),.nilIface])=_;rw[←HN.out]
     rfl
   ·have hr128:128≤m:=by omega
    have hcc:wr.cell? ⟨g,off+pre.length,none⟩=some (.int .u8 ((m%128+128:Nat):Int)):=HL.out _ _ (by rw[hle,zcx hr128];simp[bv,Nat.mod_eq_of_lt (show m%128+128<256 by omega)])
    have hms:m%128<128:=Nat.mod_lt _ (by decide)
    have h1:=andNot128' (m%128) hms;have hp:(m%128)*128^pre.length+(m / 128)*128^(pre.length+1)=m*128^pre.length:=by
     have hd:=Nat.div_add_mod m 128;rw[Nat.pow_succ];generalize 128^pre.length=z
     conv=>rhs;rw[←hd]
     rw[Nat.add_mul,Nat.add_comm,Nat.mul_comm z 128,←Nat.mul_assoc,Nat.mul_comm 128 (m / 128)]
    have ho:=zmf (m:=m%128) hn (by omega:acc+m%128*128^pre.length≤n) ha
    have hl9:pre.length<9:=by omega
    have hnx:acc+m%128*128^pre.length<128^(pre.length+1):=by
     rw[Nat.pow_succ];have:=Nat.mul_le_mul_right (128^pre.length) (show m%128≤127 by omega)
     omega
    have he2:pre ++ [UInt8.ofNat (m%128+128)]++zo (m / 128)=zo n:=by rw[List.append_assoc,List.singleton_append,←zcx hr128,he]
    have hv2:n=acc+m%128*128^pre.length+m / 128*128^(pre.length+1):=by omega
    have hz2:0<m / 128:=by omega
    have H2:=zz0 (And.intro hnx (And.intro he2 (And.intro hv2 hz2)));clear hnx he2 hv2 hz2 hp hv he hle hz;generalize hw:acc+m%128*128^pre.length=acc2 at ho H2;generalize hy:m%128=y at hcc h1 ho hms
    go_wp2_with fail
    obtain⟨k1,k2,k3,k4⟩:=H2.out;exact⟨⟨m / 128,acc2,pre ++ [UInt8.ofNat (y+128)],by simp,by simp,by first|trivial|rfl,by rw[←hy];exact k2,by simpa using k3,by simpa using k1,.inr k4⟩,by simp[intOf];omega⟩
def RdrB (v:Value):Obj:=.cells #[v,.nilIface] 236 (0,0)
def zbf (F:Nat→Prop)(w:World)(p:Nat)(l:List UInt8):Prop:=∃v,w.heap[p]? = some (RdrB v)∧Bs w v l∧okc v∧F p∧∀g,v.ownBlock=some g→g≠p∧F g
section
variable {F S : Nat → Prop} {w w' : World} {p : Nat} {l : List UInt8} {v : Value}
theorem rd0 (h:w.heap[p]? = some (RdrB v)):w.cell? ⟨p,0,none⟩=some v:=by simp[World.cell?,h,RdrB]
theorem rd1 (h:w.heap[p]? = some (RdrB v)):w.cell? ⟨p,1,none⟩=some .nilIface:=by simp[World.cell?,h,RdrB]
theorem rdf (h:w.heap[p]? = some (RdrB v))(i:Nat):w.frozen? ⟨p,i,none⟩=false:=by simp[World.frozen?,h,RdrB]
theorem zbf.keep (h:zbf F w p l)(k:za S w w')(hn:∀g,F g→¬S g):zbf F w' p l:=by
 obtain⟨v,h1,h2,h3,h4,h5⟩:=h;exact⟨v,k.at h1 (hn p h4),h2.keep k (fun g e=>hn g (h5 g e).2),h3,h4,h5⟩
theorem zbf.mono {G:Nat→Prop}(h:zbf F w p l)(hs:∀g,F g→G g):zbf G w p l:=by
 obtain⟨v,h1,h2,h3,h4,h5⟩:=h;exact⟨v,h1,h2,h3,hs p h4,fun g e=>⟨(h5 g e).1,hs g (h5 g e).2⟩⟩
end
theorem ziL (F:Nat→Prop)(v:Value)(l:List UInt8)(w:World)(h:Bs w v l)(hc:okc v)(hF:∀g,v.ownBlock=some g→g<w.heap.size∧F g) :
 Calls Tryz.prog 97 #[v] w fun e w'=>e = .returned (.pointer (some ⟨w.heap.size,0,none⟩))∧za zq2 w w'∧zbf (fun g=>F g∨g=w.heap.size) w' w.heap.size l:=by
 have H:=zz0 h;have HF:=zz0 hF;have HC:=zz0 hc;obtain⟨a,c,rfl,_⟩:=h;rw[List.length_map] at H HF HC ⊢;clear hF hc
 go_enter Tryz.func97,Tryz.ntmps97
 go_wp2_with fail
 go_ret;have k:za zq2 w (w.alloc (RdrB (.slice a l.length c))):=(za.refl _ _).alloc _;exact⟨rfl,k,_,ze _ _,H.out.keepNon k,HC.out,.inr rfl,fun g e=>⟨by have:=(HF.out g e).1;omega,.inl (HF.out g e).2⟩⟩
theorem zet (F:Nat→Prop)(p:Nat)(l:List UInt8)(w:World)(h:zbf F w p l) :
 Calls Tryz.prog 155 #[.pointer (some ⟨p,0,none⟩)] w fun e w'=>e = .returned (.bool true)∧w'=w:=by
 obtain⟨v,h1,_⟩:=h;have c1:=rd1 h1;clear h1
 go_enter Tryz.func155,Tryz.ntmps155
 go_wp2_with fail
 go_ret;exact⟨rfl,rfl⟩
theorem zcM (F:Nat→Prop)(p:Nat)(l:List UInt8)(w:World)(h:zbf F w p l) :
 Calls Tryz.prog 157 #[.pointer (some ⟨p,0,none⟩)] w fun e w'=>e = .returned .nilIface∧w'=w:=by
 obtain⟨v,h1,_⟩:=h;have c1:=rd1 h1;clear h1
 go_enter Tryz.func157,Tryz.ntmps157
 go_wp2_with fail
 go_ret;exact⟨rfl,rfl⟩
theorem zfx {w:World}{g off:Nat}{n c:Nat}{t r:List UInt8}(h:Bs w (.slice (some ⟨g,off,none⟩) n c) (t++r)):Bs w (.slice (some ⟨g,off+t.length,none⟩) (n-t.length) (c-t.length)) r:=by
 obtain⟨a,cap,e,hx⟩:=h;injection e with e1 e2 e3
 subst e2;refine⟨_,c-t.length,by congr 1;simp,fun hne=>⟨g,off+t.length,rfl,fun j u hu=>?_⟩⟩
 obtain⟨g',off',e4,hc⟩:=hx (by intro e;apply hne;simp at e;simp[e.2])
 rw[←e1] at e4;injection e4 with e4
 injection e4 with e4 e5
 subst e4;subst e5;rw[Nat.add_assoc];exact hc (t.length+j) u (by rw[List.map_append,List.getElem?_append_right (by simp)];simpa using hu)
theorem zgV {w:World}{g off:Nat}{n c:Nat}(c':Nat){t r:List UInt8}(h:Bs w (.slice (some ⟨g,off,none⟩) n c) (t++r))(hn:n≤c)(hc:c=t.length):Bs w (.slice (some ⟨g,off,none⟩) (n-t.length) c') r:=by
 obtain⟨a,cap,e,hx⟩:=h;injection e with e1 e2 e3
 have hr:r = []:=by
  rw[List.length_map,List.length_append] at e2;cases r with
  |nil=>rfl
  |cons x r=>simp at e2;omega
 subst hr;exact⟨_,c',by congr 1;simp at e2 ⊢;omega,fun hne=>(hne rfl).elim⟩
theorem zjD {F:Nat→Prop}{w:World}{p g off n c n' c' off':Nat}{r:List UInt8}(h1:w.heap[p]? = some (RdrB (.slice (some ⟨g,off,none⟩) n c)))(hF:F p∧∀k,(Value.slice (some ⟨g,off,none⟩) n c).ownBlock=some k→k≠p∧F k)
 (h2:Bs w (.slice (some ⟨g,off',none⟩) n' c') r) (h3:n'≤c'):za (zq3 p) w (w.setCell ⟨p,0,none⟩ (.slice (some ⟨g,off',none⟩) n' c'))∧zbf F (w.setCell ⟨p,0,none⟩ (.slice (some ⟨g,off',none⟩) n' c')) p r:=by
 have k:=(za.refl (zq3 p) w).setOne 0 (.slice (some ⟨g,off',none⟩) n' c');exact⟨k,_,zj h1 0 _,h2.keep k (fun q e e2=>(hF.2 q e).1 e2),⟨h3,fun ad e=>by injection e with e;subst e;exact⟨_,_,rfl⟩⟩,hF.1,fun q e=>hF.2 q e⟩
theorem zei (F:Nat→Prop)(p n:Nat)(r:List UInt8)(w:World)(h:zbf F w p (zo n++r))(hn:n<2^63) :
 Calls Tryz.prog 100 #[.pointer (some ⟨p,0,none⟩)] w fun e w'=>e = .returned (.int .u64 n)∧za (zq3 p) w w'∧zbf F w' p r:=by
 have H:=zz0 h;obtain⟨v,h1,h2,h3,h4,h5⟩:=h;have HB:=zz0 h2;have c0:=rd0 h1;have c1:=rd1 h1;have f0:=rdf h1 0;have H1:=zz0 h1;have H3:=zz0 h3;have H45:=zz0 (And.intro h4 h5);obtain⟨a,c,rfl,hx⟩:=h2;obtain⟨g,off,rfl,_⟩:=hx (by intro e;have h0:=zd2 n;rw[List.map_eq_nil_iff,List.append_eq_nil_iff] at e;rw[e.1] at h0;exact absurd h0 (by simp))
 replace h3:=h3.1
 simp only[List.length_map] at h3;have hl:(zo n).length≤(zo n++r).length:=by simp
 rw[List.length_map] at HB c0 H1 H3 H45;generalize (zo n++r).length=q at hl h3 HB c0 H1 H3 H45;clear h1 h4 h5 hx
 go_enter Tryz.func100,Tryz.ntmps100
 go_wp2_with(first
  |(go_at_call 155;refine(zet F p _ _ H.out).mono ?_;rintro e w' ⟨rfl,rfl⟩)
  |(go_at_call 156;refine(ziT _ n r _ HB.out H3.out hn).mono ?_;rintro e w' ⟨rfl,rfl⟩))
 ·go_ret
  exact⟨rfl,zjD H1.out H45.out (zgV _ HB.out H3.out.1 ‹_›) (by omega)⟩
 ·go_ret
  exact⟨rfl,zjD H1.out H45.out (zfx HB.out) (by omega)⟩
theorem zaz (F:Nat→Prop)(p n most:Nat)(r:List UInt8)(w:World)(h:zbf F w p (zo n++r))(hm:n≤most)(hmost:most<4611686018427387904) :
 Calls Tryz.prog 98 #[.pointer (some ⟨p,0,none⟩),.int .u64 most] w fun e w'=>e = .returned (.int .i64 n)∧za (zq3 p) w w'∧zbf F w' p r:=by
 have H:=zz0 h;clear h
 go_enter Tryz.func98,Tryz.ntmps98
 go_wp2_with(go_at_call 100;refine(zei F p n r _ H.out (by omega)).mono ?_;rintro e w1 ⟨rfl,k1,r1⟩;have K1:=zz0 k1;have R1:=zz0 r1;clear k1 r1)
 go_ret;exact⟨rfl,K1.out,R1.out⟩
theorem zpB (F:Nat→Prop)(p:Nat)(l:List UInt8)(w:World)(h:zbf F w p l) :
 Calls Tryz.prog 158 #[.pointer (some ⟨p,0,none⟩)] w fun e w'=>e = .returned (.int .i64 l.length)∧w'=w:=by
 have H:=zz0 h;obtain⟨v,h1,h2,_⟩:=h;have c0:=rd0 h1;obtain⟨a,c,rfl,_⟩:=h2;rw[List.length_map] at c0;clear h1
 go_enter Tryz.func158,Tryz.ntmps158
 go_wp2_with(go_at_call 155;refine(zet F p _ _ H.out).mono ?_;rintro e w' ⟨rfl,rfl⟩)
 go_ret;exact⟨rfl,rfl⟩
theorem zlw (F:Nat→Prop)(p:Nat)(w:World)(h:zbf F w p []) :
 Calls Tryz.prog 103 #[.pointer (some ⟨p,0,none⟩)] w fun e w'=>e = .returned .nilIface∧w'=w:=by
 have H:=zz0 h;clear h
 go_enter Tryz.func103,Tryz.ntmps103
 go_wp2_with(first
  |(go_at_call 157;refine(zcM F p _ _ H.out).mono ?_;rintro e w' ⟨rfl,rfl⟩)
  |(go_at_call 158;refine(zpB F p _ _ H.out).mono ?_;rintro e w' ⟨rfl,rfl⟩))
 go_ret;exact⟨rfl,rfl⟩
theorem zlL {w:World}{g off:Nat}{n c:Nat}{t r:List UInt8}(h:Bs w (.slice (some ⟨g,off,none⟩) n c) (t++r)):Bs w (.slice (some ⟨g,off,none⟩) t.length c) t:=by
 obtain⟨a,cap,e,hx⟩:=h;injection e with e1 e2 e3
 refine⟨_,c,by congr 1;simp,fun hne=>⟨g,off,rfl,fun j u hu=>?_⟩⟩
 obtain⟨g',off',e4,hc⟩:=hx (by intro e;apply hne;simp at e;simp[e.1])
 rw[←e1] at e4;injection e4 with e4
 injection e4 with e4 e5
 subst e4;subst e5;have hj:j<t.length:=by
  rcases Nat.lt_or_ge j t.length with h|h
  ·exact h
  ·rw[List.getElem?_eq_none (by simpa using h)] at hu;cases hu
 exact hc j u (by rw[List.map_append,List.getElem?_append_left (by simpa using hj)];exact hu)
theorem zgy (F:Nat→Prop)(p:Nat)(t r:List UInt8)(w:World)(h:zbf F w p (t++r))(htl:t.length≤1000000) :
 Calls Tryz.prog 154 #[.pointer (some ⟨p,0,none⟩),.int .i64 t.length] w fun e w'=>∃v',e = .returned v'∧za (zq3 p) w w'∧zbf F w' p r∧w'.ownsRow w.heap.size 5 1 v' t.length (t.map bv):=by
 have H:=zz0 h;obtain⟨v,h1,h2,h3,h4,h5⟩:=h;have HB:=zz0 h2;have c0:=rd0 h1;have c1:=rd1 h1;have f0:=rdf h1 0;have hlt:=lt_of_block h1;have H1:=zz0 h1;have H3:=zz0 h3;have H45:=zz0 (And.intro h4 h5);obtain⟨a,c,rfl,hx⟩:=h2;have h3a:=h3.2
 replace h3:=h3.1
 simp only[List.length_map] at h3;have hl:t.length≤(t++r).length:=by simp
 rw[List.length_map] at HB c0 H1 H3 H45;generalize (t++r).length=q at hl h3 HB c0 H1 H3 H45;generalize hk:t.length=k at htl hl ⊢;have HK:=zz0 hk;clear h1 h4 h5;cases a with
 |none =>
  have ht0:t++r = []:=by
   rcases Classical.em (t++r = []) with e|e
   ·exact e
   ·obtain⟨g,off,e2,_⟩:=hx (by simpa using e)
    cases e2
  obtain⟨rfl,rfl⟩:=List.append_eq_nil_iff.1 ht0;obtain rfl:k=0:=by rw[←hk];rfl
  have hq0:q=0:=by obtain⟨a,c',e,_⟩:=HB.out;injection e
  subst hq0;clear hx hk
  go_enter Tryz.func154,Tryz.ntmps154
  go_wp2_with(first
   |(go_at_call 155;refine(zet F p _ _ H.out).mono ?_;rintro e w' ⟨rfl,rfl⟩)
   |(go_at_call 150;refine(zhb _ _).mono ?_;rintro e w1 ⟨rfl,rfl⟩))
  go_ret;have k:=(za.refl (zq3 p) w').setOne 0 (.slice none 0 c);exact⟨_,rfl,k,⟨_,zj H1.out 0 _,⟨none,c,rfl,fun h=>(h rfl).elim⟩,H3.out,H45.out.1,fun g e=>H45.out.2 g e⟩,World.ownsRow_nil _ _ _ _⟩
 |some ad =>
 obtain⟨g,off,rfl⟩:=h3a ad rfl;clear hx hk
 go_enter Tryz.func154,Tryz.ntmps154
 go_wp2_with(first
  |(go_at_call 155;refine(zet F p _ _ H.out).mono ?_;rintro e w' ⟨rfl,rfl⟩)
  |(go_at_call 150;have hb:=zlL HB.out;rw[HK.out] at hb;refine(za7 _ t _ hb (by have:=HK.out;omega)).mono ?_;rintro e w1 ⟨v1,rfl,k1,o1⟩;have hh1:=k1.at H1.out (fun e=>e);have d0:=rd0 hh1;have d1:=rd1 hh1;have e0:=rdf hh1 0;have HH1:=zz0 hh1;have K1:=zz0 k1;have O1:=zz0 o1;clear hb hh1 k1 o1))
 all_goals go_ret
 all_goals
  refine⟨_,rfl,?_⟩;have hb1:=HB.out.keepNon K1.out
 ·have hs:=zjD HH1.out H45.out (zgV (off:=off) (n:=q) 0 hb1 H3.out.1 (by rw[HK.out];assumption)) (by have:=HK.out;omega)
  rw[HK.out] at hs;have ho:=O1.out;rw[HK.out] at ho;exact⟨(K1.out.ofNon).trans1 hs.1,hs.2,zc ho hs.1 (fun g e=>by have:=(ho.lt g e).1;unfold zq3;omega)⟩
 ·have hs:=zjD HH1.out H45.out (zfx hb1) (by omega)
  rw[HK.out] at hs;have ho:=O1.out;rw[HK.out] at ho;exact⟨(K1.out.ofNon).trans1 hs.1,hs.2,zc ho hs.1 (fun g e=>by have:=(ho.lt g e).1;unfold zq3;omega)⟩
def fI (x:Int):Int:=if bits .and .u32 x 1=1 then bits .xor .u32 (x / 2) 2197175160 else x / 2
def fN:Nat→Int→Int
 |0,x=>x
 |k+1,x=>fI (fN k x)
def tabI (x:Int):Int:=fN 8 x
theorem wrap32 {n:Nat}(h:n<2^32):IntKind.u32.wrap (n:Int)=(n:Int):=by
 have e:(2^IntKind.u32.bits:Int)=4294967296:=rfl;unfold IntKind.wrap;simp only[e];rw[if_neg (by simp[IntKind.signed])]
 omega
theorem bits32 (op:BinOp)(x y:Int):0≤bits op .u32 x y∧bits op .u32 x y<4294967296:=by
 have h:=wf_bits op .u32 x y;simp[Lit.wf,IntKind.min,IntKind.max,IntKind.signed,IntKind.bits] at h;omega
theorem fI_32 (x:Int)(h:0≤x∧x<4294967296):0≤fI x∧fI x<4294967296:=by
 unfold fI
 split
 ·exact bits32 _ _ _
 ·omega
theorem fN_32 (x:Int)(h:0≤x∧x<4294967296):∀k,0≤fN k x∧fN k x<4294967296
 |0=>h
 |k+1=>fI_32 _ (fN_32 x h k)
theorem zlh (x:Int)(h:0≤x∧x<4294967296)(w:World) :
 Calls Tryz.prog 377 #[.int .u32 x] w fun e w'=>e = .returned (.int .u32 (tabI x))∧w'=w:=by
 have h1:=h.1;have h2:=h.2
 go_enter Tryz.func377,Tryz.ntmps377
 go_wp2_with fail
 go_loopw [0,4] (fun o i wr=>∃j:Nat,j≤8∧i = .int .i64 j∧o = .int .u32 (fN j x)∧wr=w) (fun _ i _=>8-(intOf i).toNat)
 case atStart=>exact⟨0,by omega,rfl,rfl,rfl⟩
 case round =>
  obtain⟨j,hj,rfl,rfl,rfl⟩:=hrel;by_cases hlt:j<8
  ·have hy:=fN_32 x h j
   have HS:Hid (fN (j+1) x=fI (fN j x)):=zz0 rfl;generalize fN j x=y at hy HS;have hy1:=hy.1;have hy2:=hy.2;by_cases hb:bits .and .u32 y 1=1
   ·have e:fI y=bits .xor .u32 (y / 2) 2197175160:=by unfold fI;rw[if_pos hb]
    go_wp2_with fail
    exact⟨⟨j+1,by omega,by go_num,by rw[HS.out,e],by trivial⟩,by simp[intOf];omega⟩
   ·have e:fI y=y / 2:=by unfold fI;rw[if_neg hb]
    go_wp2_with fail
    exact⟨⟨j+1,by omega,by go_num,by rw[HS.out,e],by trivial⟩,by simp[intOf];omega⟩
  ·obtain rfl:j=8:=by omega
   go_wp2_with fail
   go_ret;exact⟨rfl,rfl⟩
def zc9 (w:World)(b j:Nat)(o:Nat→Option Value):Prop:=∃cs:Array Value,w.heap[b]? = some (.cells cs 362 (0,0))∧cs.size=260∧(∀k,k<j→cs[3+k]? = some (.int .u32 (tabI k)))∧(∀k,k<3∨258<k→cs[k]? = o k)
theorem zc9.keep {S:Nat→Prop}{w w':World}{b j:Nat}{o:Nat→Option Value}(h:zc9 w b j o)(k:za S w w')(hn:¬S b):zc9 w' b j o:=by
 obtain⟨cs,h1,h2⟩:=h;exact⟨cs,k.at h1 hn,h2⟩
theorem zc9.cell {w:World}{b j:Nat}{o:Nat→Option Value}(h:zc9 w b j o)(k:Nat)(hk:k<j):w.cell? ⟨b,3+k,none⟩=some (.int .u32 (tabI k)):=by
 obtain⟨cs,h1,_,h3,_⟩:=h;simp[World.cell?,h1,h3 k hk]
theorem zc9.other {w:World}{b j:Nat}{o:Nat→Option Value}(h:zc9 w b j o)(k:Nat)(hk:k<3∨258<k):w.cell? ⟨b,k,none⟩=o k:=by
 obtain⟨cs,h1,_,_,h3⟩:=h;simp[World.cell?,h1,h3 k hk]
theorem zc9.free {w:World}{b j:Nat}{o:Nat→Option Value}(h:zc9 w b j o)(k:Nat):w.frozen? ⟨b,k,none⟩=false:=by
 obtain⟨cs,h1,_⟩:=h;simp[World.frozen?,h1]
theorem zc9.any {w:World}{b j:Nat}{o:Nat→Option Value}(h:zc9 w b j o)(k:Nat)(hk:k<260):∃u,w.cell? ⟨b,k,none⟩=some u:=by
 obtain⟨cs,h1,h2,_⟩:=h;exact⟨cs[k]'(by omega),by simp[World.cell?,h1,h2,hk]⟩
theorem zc9.put {w:World}{b j:Nat}{o:Nat→Option Value}(h:zc9 w b j o)(hj:j<256):zc9 (w.setCell ⟨b,3+j,none⟩ (.int .u32 (tabI j))) b (j+1) o:=by
 obtain⟨cs,h1,h2,h3,h4⟩:=h;refine⟨_,zj h1 _ _,by simpa using h2,fun k hk=>?_,fun k hk=>?_⟩
 ·rw[Array.getElem?_setIfInBounds]
  by_cases e:k=j
  ·subst e
   rw[if_pos rfl,if_pos (by omega)]
  ·rw[if_neg (by omega)]
   exact h3 k (by omega)
 ·rw[Array.getElem?_setIfInBounds,if_neg (by omega)]
  exact h4 k hk
theorem zc9.set {w:World}{b j:Nat}{o:Nat→Option Value}(h:zc9 w b j o)(k:Nat)(hk:k<3∨k=259)(u:Value)(hj:j≤256):zc9 (w.setCell ⟨b,k,none⟩ u) b j (fun i=>if i=k then some u else o i):=by
 obtain⟨cs,h1,h2,h3,h4⟩:=h;refine⟨_,zj h1 _ _,by simpa using h2,fun i hi=>?_,fun i hi=>?_⟩
 ·rw[Array.getElem?_setIfInBounds,if_neg (by omega)]
  exact h3 i hi
 ·show _=(if i=k then some u else o i)
  rw[Array.getElem?_setIfInBounds];by_cases e:k=i
  ·subst e
   rw[if_pos rfl,if_pos (by omega),if_pos rfl]
  ·rw[if_neg e,if_neg (fun e2=>e e2.symm)]
   exact h4 i hi
theorem znF (b:Nat)(o:Nat→Option Value)(w:World)(h:zc9 w b 0 o) :
 Calls Tryz.prog 368 #[.pointer (some ⟨b,0,none⟩)] w fun e w'=>e = .returned (.tuple #[])∧za (zq3 b) w w'∧zc9 w' b 256 o:=by
 have H:=zz0 h;clear h
 go_enter Tryz.func368,Tryz.ntmps368
 go_wp2_with fail
 go_loopw [3] (fun i wr=>∃j:Nat,j≤256∧i = .int .i64 j∧za (zq3 b) w wr∧zc9 wr b j o) (fun i _=>256-(intOf i).toNat)
 case atStart=>exact⟨0,by omega,rfl,za.refl _ _,H.out⟩
 case round =>
  obtain⟨j,hj,rfl,hk,hm⟩:=hrel;have K:=zz0 hk;have M:=zz0 hm;clear hk hm;by_cases hlt:j<256
  ·obtain⟨u,hu⟩:=M.out.any (3+j) (by omega)
   have hf:=M.out.free (3+j);have hw:=wrap32 (n:=j) (by omega)
   go_wp2_with fail
   go_region_with (go_at_call 377;refine(zlh _ (by omega) _).mono ?_;rintro e w' ⟨rfl,rfl⟩)
   all_goals
    go_wp2_with fail
    exact⟨⟨j+1,by omega,by go_num,(K.out.drew).setOne _ _,(M.out.keep ((za.refl zq2 _).drew) (fun e=>e)).put hlt⟩,by simp[intOf];omega⟩
  ·obtain rfl:j=256:=by omega
   go_wp2_with fail
   go_end0
   exact⟨rfl,K.out,M.out⟩
theorem zaA {c:Int}(h:c≠0):zbU c = .iface 89 (.int .i64 c):=if_neg h
theorem zbH {c:Int}(h:c=0):zbU c = .nilIface:=if_pos h
def zq5 (F' F:Nat→Prop)(w:World):Prop:=∀g,F' g→F g∨w.heap.size≤g
theorem zq5.refl (F:Nat→Prop)(w:World):zq5 F F w:=fun _ h=>.inl h
theorem zq5.trans {F F' F'':Nat→Prop}{w w':World}(h:zq5 F' F w)(k:zq5 F'' F' w')(hw:w.heap.size≤w'.heap.size):zq5 F'' F w:=fun g e=>by
 rcases k g e with e|e
 ·exact h g e
 ·exact .inr (by omega)
theorem zbu {F F':Nat→Prop}{w w' w'':World}(h:za F w w')(s:zq5 F' F w)(k:za F' w' w''):za F w w'' :=
 h.trans k (fun _ _ e=>e) (fun i hi e=>by rcases s i e with e|e;exact e;omega)
def iv (n:Nat):Value:=.int .i64 n
theorem zn2 (w:World):Calls Tryz.prog 71 #[.nilIface] w fun e w'=>e = .returned (.int .i64 0)∧w=w':=by
 go_enter Tryz.func71,Tryz.ntmps71
 go_wp2
 go_ret;exact⟨rfl,rfl⟩
theorem zg7 (n:Int)(w:World):(Instr.typeAssert (.iface 89 (.int .i64 n)) 35 89 true).run Tryz.prog w = .ok (.tuple #[.int .i64 n,.bool true]) w:=by kernel_rfl
theorem zn3 (n:Int)(hn:(n != 0)=true)(w:World):Calls Tryz.prog 71 #[.iface 89 (.int .i64 n)] w fun e w'=>e = .returned (.int .i64 n)∧w=w':=by
 have ht:=zg7 n
 go_enter Tryz.func71,Tryz.ntmps71
 go_wp2
 go_ret;exact⟨rfl,rfl⟩
theorem zpM (n:Int)(w:World):Calls Tryz.prog 71 #[zbU n] w fun e w'=>e = .returned (.int .i64 n)∧w=w':=by
 by_cases h:n=0
 ·subst h
  exact zn2 w
 ·rw[zgv h]
  exact zn3 n (by simpa using h) w
theorem zo3 (n k:Int)(w:World):Calls Tryz.prog 34 #[zbU n,.int .i64 k] w fun e w'=>e = .returned (.bool (n==k))∧w=w':=by
 go_enter Tryz.func34,Tryz.ntmps34
 go_wp2_with(go_at_call 71;go_must (refine(zpM n _).mono ?_);rintro e w' ⟨rfl,rfl⟩)
 go_ret;exact⟨rfl,rfl⟩
end Go.Proofs.YtpojgmeoaflmoaaGreatDoor
