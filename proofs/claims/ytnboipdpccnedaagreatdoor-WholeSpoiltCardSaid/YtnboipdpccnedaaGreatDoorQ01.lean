/- Small words that all walks of this seat share: which blocks a call may have changed ('Keep'), what an error reads as ('errv'), and the contracts of th -/
import Derived.Test.YtnboipdpccnedaaGreatDoorProg
import Derived.WalkKit
import Derived.WalkSpells
import Derived.WalkLawsBesides
import Derived.LaidEql
import Derived.Lib.Hide
import Derived.Handy
import Derived.Deep.RegionLaw
import Derived.Maps.OwnSet
import Derived.Maps.Views
import Derived.Deep.WholeRow
set_option linter.unusedVariables false
set_option maxRecDepth 100000
set_option maxHeartbeats 16000000
namespace Go.Proofs.YtnboipdpccnedaaGreatDoor
open Go.RowKit
structure Keep (S:Nat→Prop) (w w':World):Prop where
  os:w'.os=w.os
  tape:w'.tape=w.tape
  output:w'.output=w.output
  size:w.heap.size≤w'.heap.size
  block:∀ k,k < w.heap.size→¬ S k→w'.heap[k]? = w.heap[k]?
def Non:Nat→Prop:=fun _=>False
def One (b:Nat):Nat→Prop:=fun k=>k=b
theorem zar (b:Nat):One b b:=rfl
theorem Keep.refl (S:Nat→Prop) (w:World):Keep S w w:=⟨rfl,rfl,rfl,Nat.le_refl _,fun _ _ _=>rfl⟩
theorem Keep.trans {S T U:Nat→Prop} {a b c:World} (h:Keep S a b) (k:Keep T b c)
    (hs:∀ i,i < a.heap.size→S i→U i) (ht:∀ i,i < a.heap.size→T i→U i):Keep U a c :=
  ⟨k.os.trans h.os,k.tape.trans h.tape,k.output.trans h.output,Nat.le_trans h.size k.size,
    fun i hi hn=>(k.block i (Nat.lt_of_lt_of_le hi h.size) (fun e=>hn (ht i hi e))).trans (h.block i hi (fun e=>hn (hs i hi e)))⟩
theorem Keep.trans1 {S:Nat→Prop} {a b c:World} (h:Keep S a b) (k:Keep S b c):Keep S a c :=
  h.trans k (fun _ _ h=>h) (fun _ _ h=>h)
theorem Keep.mono {S T:Nat→Prop} {a b:World} (h:Keep S a b) (hs:∀ i,i < a.heap.size→S i→T i):Keep T a b :=
  ⟨h.os,h.tape,h.output,h.size,fun i hi hn=>h.block i hi (fun e=>hn (hs i hi e))⟩
theorem Keep.ofNon {S:Nat→Prop} {a b:World} (h:Keep Non a b):Keep S a b:=h.mono (fun _ _ h=>h.elim)
theorem Keep.drew {S:Nat→Prop} {a w:World} (h:Keep S a w):Keep S a w.drew:=⟨h.os,h.tape,h.output,h.size,h.block⟩
theorem Keep.drewN {S:Nat→Prop} {a w:World} (h:Keep S a w) (n:Nat):Keep S a (w.drewN n):=⟨h.os,h.tape,h.output,h.size,h.block⟩
theorem Keep.alloc {S:Nat→Prop} {a w:World} (h:Keep S a w) (o:Obj):Keep S a (w.alloc o) :=
  ⟨h.os,h.tape,h.output,by have:=h.size;simp;omega,fun k hk hn=>(Below.heap_alloc w o k (by have:=h.size;omega)).trans (h.block k hk hn)⟩
theorem Keep.setCell {S:Nat→Prop} {a w:World} (h:Keep S a w) {p:Addr} (hp:S p.block∨a.heap.size≤p.block) (u:Value):Keep S a (w.setCell p u) :=
  ⟨h.os,h.tape,h.output,by have:=h.size;simp [World.setCell];omega,
    fun k hk hn=>(Below.heap_setCell w p u k (fun e=>by rcases hp with hp | hp;exact hn (e ▸ hp);omega)).trans (h.block k hk hn)⟩
theorem Keep.setOne {b:Nat} {a w:World} (h:Keep (One b) a w) (i:Nat) (u:Value):Keep (One b) a (w.setCell ⟨b,i,none⟩ u):=h.setCell (p:=⟨b,i,none⟩) (.inl (zar b)) u
theorem Keep.setNew {S:Nat→Prop} {a w:World} (h:Keep S a w) {k:Nat} (hk:a.heap.size≤k) (i:Nat) (u:Value):Keep S a (w.setCell ⟨k,i,none⟩ u):=h.setCell (p:=⟨k,i,none⟩) (.inr hk) u
theorem Keep.grown {S:Nat→Prop} {a w w':World} {row:Option Nat} (h:Keep S a w) (hg:w.grownBy w' row) (hr:∀ k,row=some k→S k∨a.heap.size≤k):Keep S a w' :=
  ⟨hg.os.trans h.os,hg.tape.trans h.tape,hg.output.trans h.output,Nat.le_trans h.size hg.size,
    fun k hk hn=>(hg.block k (by have:=h.size;omega) (fun e=>by rcases hr k e.symm with h' | h';exact hn h';omega)).trans (h.block k hk hn)⟩
theorem Keep.below {a b:World} (h:Keep Non a b):Below a.heap.size a b:=⟨h.os,h.tape,h.output,h.size,fun k hk=>h.block k hk (fun e=>e)⟩
theorem Keep.ofBelow {a b:World} (h:Below a.heap.size a b):Keep Non a b:=⟨h.os,h.tape,h.output,h.size,fun k hk _=>h.block k hk⟩
theorem Keep.at {S:Nat→Prop} {a b:World} (h:Keep S a b) {k:Nat} {o:Obj} (hk:a.heap[k]? = some o) (hn:¬ S k):b.heap[k]? = some o :=
  (h.block k (lt_of_block hk) hn).trans hk
theorem Keep.lt {S:Nat→Prop} {a b:World} (h:Keep S a b) {k:Nat} (hk:k < a.heap.size):k < b.heap.size:=Nat.lt_of_lt_of_le hk h.size
theorem zaf {w:World} {b:Nat} {cs:Array Value} {t:TypeId} {fr:Nat × Nat} (h:w.heap[b]? = some (.cells cs t fr)) (i:Nat) (v:Value) :
    (w.setCell ⟨b,i,none⟩ v).heap[b]? = some (.cells (cs.setIfInBounds i v) t fr):=by
  simp [World.setCell,Array.getElem?_modify,h]
theorem zc3 {w:World} {b:Nat} {o:Obj} (h:w.heap[b]? = some o) {p:Addr} (hp:p.block≠b) (v:Value):(w.setCell p v).heap[b]? = some o :=
  (Below.heap_setCell w p v b (fun e=>hp e.symm)).trans h
theorem zcF {w:World} {b m:Nat} {o:Obj} (h:w.heap[b]? = some o) (hm:m≠b) (i:Nat) (v:Value):(w.setCell ⟨m,i,none⟩ v).heap[b]? = some o:=zc3 h hm v
theorem zae {w:World} {b:Nat} {o:Obj} (h:w.heap[b]? = some o) (o':Obj):(w.alloc o').heap[b]? = some o :=
  (Below.heap_alloc w o' b (lt_of_block h)).trans h
theorem zab (w:World) (o:Obj):(w.alloc o).heap[w.heap.size]? = some o:=by show (w.heap.push o)[w.heap.size]? = _;simp
theorem zdJ {w:World} {b:Nat} {o:Obj} (h:w.heap[b]? = some o) (n:Nat):(w.drewN n).heap[b]? = some o:=h
theorem zii {a b:Bool} (h:a=b):Ending.returned (.bool a) = .returned (.bool b):=by rw [h]
def errv (n:Int):Value:=if n=0 then .nilIface else .iface 55 (.int .i64 n)
theorem zaK:errv 0 = .nilIface:=rfl
theorem zfu {n:Int} (h:n≠0):errv n = .iface 55 (.int .i64 n):=if_neg h
theorem zz0 {P : Prop} (h : P) : Go.RowKit.Hid P := Go.Lib.hid h
theorem zb0 {P:Program} (w:World) (base:Nat) (t ty e:TypeId) (i:TypeInfo) (z:Value) (size bytes:Nat) (ht:P.underlying t=some (.slice e)) (hi:P.info? e=some i) (hz:i.zero=some z)
    (hsize:i.size=size) (hby:i.bytes=bytes) (hsz:0 < size)
    (v:Value) (n:Nat) (xs:List Value) (hown:w.ownsRow base e size v n xs)
    (a:Addr) (m c:Nat) (news:List Value) (hl:news.length=m * size) (hnews:∀ j u,news[j]? = some u→w.cell? (a.add j)=some u) (h1:∀ u ∈ news,u.oneCell'=true)
    (h63:n+m≤maxLen) (hbytes:(n+m) * bytes≤140737488355328) {v':Value} {w':World} (hrun:(Builtin.append_ #[t,t] ty #[v,.slice (some a) m c]).run P w = .ok v' w') :
    v'.ownBlock=v.ownBlock∨v'.ownBlock=some w.heap.size:=by
  subst hsize
  subst hby
  have hsmall:n+m≤9223372036854775807:=by simp only [maxLen] at h63;omega
  rcases hown.2 with ⟨rfl,rfl⟩ | ⟨g,cap,cur,rfl,hbg,hg,hnc,hcm,hcs,htake⟩
  · by_cases hm:m=0
    · subst hm
      have hn:news = []:=List.eq_nil_of_length_eq_zero (by simpa using hl)
      subst hn
      have hr:(Builtin.append_ #[t,t] ty #[.slice none 0 0,.slice (some a) 0 c]).run P w = .ok (.slice none 0 0) w:=by
        simp [Builtin.append_,run_underlying ht,sizeOf,typeInfo,hi,Builtin.lenOf,Builtin.firstCells,loadCells,loadCellsFrom]
      rw [hr] at hrun
      injection hrun with e1 e2
      subst e1
      exact .inl rfl
    · have hr:=run_append_nil (P:=P) w t ty e i z ht hi hz a m c news hl hnews (by omega) (by omega) (by have hb:=hbytes;simp only [Nat.zero_add] at hb;omega)
      rw [hr] at hrun
      injection hrun with e1 e2
      subst e1
      exact .inr rfl
  · by_cases hroom:n+m≤cap
    · have hfit:n * i.size+news.length≤cur.size:=by rw [hl,hcs,← Nat.add_mul];exact Nat.mul_le_mul_right _ hroom
      have hr:=run_append_room (P:=P) w t ty e i ht hi g n cap cur hg a m c news hl hnews h1 hroom hfit
      rw [hr] at hrun
      injection hrun with e1 e2
      subst e1
      exact .inl rfl
    · have holds:∀ j u,xs[j]? = some u→w.cell? ((⟨g,0,none⟩:Addr).add j)=some u:=hown.cells (g:=g) rfl
      have hr:=run_append_grow (P:=P) w t ty e i z ht hi hz ⟨g,0,none⟩ n cap xs hown.1 holds a m c news hl hnews (by omega) (by omega) (growslice_fits (by omega) hbytes)
      rw [hr] at hrun
      injection hrun with e1 e2
      subst e1
      exact .inr rfl
def Rd (w:World) (v:Value) (xs:List Value):Prop :=
  ∃ a cap,v = .slice a xs.length cap∧(xs≠[]→∃ g off,a=some ⟨g,off,none⟩∧∀ j u,xs[j]? = some u→w.cell? ⟨g,off+j,none⟩=some u)
theorem Rd.keep {w w':World} {S:Nat→Prop} {v:Value} {xs:List Value} (h:Rd w v xs) (k:Keep S w w') (hn:∀ g,v.ownBlock=some g→¬ S g):Rd w' v xs:=by
  obtain ⟨a,cap,rfl,hx⟩:=h
  refine ⟨a,cap,rfl,fun hne=>?_⟩
  obtain ⟨g,off,rfl,hc⟩:=hx hne
  refine ⟨g,off,rfl,fun j u hu=>?_⟩
  have h1:=hc j u hu
  exact (World.cell?_of_block (k.block g (World.block_lt_of_cell? _ _ h1) (hn g rfl))).trans h1
theorem Rd.nil (w:World):Rd w (.slice none 0 0) []:=⟨none,0,rfl,fun h=>(h rfl).elim⟩
def bv (c:UInt8):Value:=.int .u8 c.toNat
def Bs (w:World) (v:Value) (l:List UInt8):Prop:=Rd w v (l.map bv)
theorem Rd.ofOwns {w:World} {base:Nat} {e:TypeId} {v:Value} {n:Nat} {xs:List Value} (h:w.ownsRow base e 1 v n xs):Rd w v xs:=by
  obtain ⟨hl,h2⟩:=h
  rcases h2 with ⟨rfl,rfl⟩ | ⟨g,cap,cur,rfl,_,hg,hn,hc,hcs,htake⟩
  · have hx:xs = []:=List.eq_nil_of_length_eq_zero (by simpa using hl)
    subst hx
    exact Rd.nil w
  · have hn':n=xs.length:=by omega
    subst hn'
    refine ⟨some ⟨g,0,none⟩,cap,rfl,fun _=>⟨g,0,rfl,fun j u hu=>?_⟩⟩
    rw [Nat.zero_add,World.cell?,hg]
    rw [← htake,List.getElem?_take] at hu
    split at hu
    · simpa using hu
    · cases hu
theorem zaj {P:Program} {w:World} {ops:Array Oper} {rest:List Oper} {o:Oper} {a:Act} {Q:Exit→Act→World→Prop} (hgd:o.guard=none) (s x:Operand) (t:TypeId)
    (ho:o.op = .call { callee:=.builtin .append,args:=#[s,x],argTypes:=#[t,t] })
    (base:Nat) (e:TypeId) (i:TypeInfo) (z:Value) (size bytes:Nat) (ht:P.underlying t=some (.slice e)) (hi:P.info? e=some i) (hz:i.zero=some z)
    (hsize:i.size=size) (hby:i.bytes=bytes) (hzs:z.cells.size=size) (hsz:0 < size)
    (v:Value) (n:Nat) (xs:List Value) (hs:a.eval s=v) (hown:w.ownsRow base e size v n xs)
    (ad:Addr) (m c:Nat) (news:List Value) (hx:a.eval x = .slice (some ad) m c) (hl:news.length=m * size) (hnews:∀ j u,news[j]? = some u→w.cell? (ad.add j)=some u) (h1:∀ u ∈ news,u.oneCell'=true)
    (h63:n+m≤maxLen) (hbytes:(n+m) * bytes≤140737488355328) (hbase:base≤w.heap.size)
    (h:∀ v' w',w'.ownsRow base e size v' (n+m) (xs ++ news)→w.grownBy w' v.ownBlock→(v'.ownBlock=v.ownBlock∨v'.ownBlock=some w.heap.size)→wpList P ops Q rest (a.put o.dst v') w'):wpList P ops Q (o :: rest) a w :=
  wpList_plain hgd fun K hK=>by
    obtain ⟨v',w',hr,h2,h3,h4⟩:=run_append_own (P:=P) w base t o.type e i z size bytes ht hi hz hsize hby hzs hsz v n xs hown ad m c news hl hnews h1 h63 hbytes hbase
    have h5:=zb0 w base t o.type e i z size bytes ht hi hz hsize hby hsz v n xs hown ad m c news hl hnews h1 h63 hbytes hr
    unfold Oper.wp execOp
    simp only [ho,resolve,invoke,builtin,Sem.run_bind,Sem.run_pure,Result.andThen_ok,List.map_toArray,List.map_cons,List.map_nil,hs,hx,hr]
    exact hK _ _ (h v' w' h2 h3 h5)
theorem zau (g off j:Nat):(⟨g,off,none⟩:Addr).add j=⟨g,off+j,none⟩:=by
  unfold Addr.add
  split
  · next h=>subst h;rfl
  · rfl
theorem Rd.news {w:World} {v:Value} {xs:List Value} (h:Rd w v xs) {ad:Addr} {n c:Nat} (hv:v = .slice (some ad) n c):n=xs.length∧∀ j u,xs[j]? = some u→w.cell? (ad.add j)=some u:=by
  obtain ⟨a,cap,rfl,hx⟩:=h
  injection hv with e1 e2 e3
  subst e1
  subst e2
  refine ⟨rfl,fun j u hu=>?_⟩
  have hne:xs≠[]:=by
    intro e
    simp [e] at hu
  obtain ⟨g,off,e4,hc⟩:=hx hne
  injection e4 with e4
  subst e4
  rw [zau]
  exact hc j u hu
theorem zam (l:List UInt8):∀ u ∈ l.map bv,u.oneCell'=true:=by
  intro u hu
  obtain ⟨c,_,rfl⟩:=List.mem_map.1 hu
  rfl
theorem zcV {P:Program} (w:World) (base:Nat) (t ty e:TypeId) (i:TypeInfo) (z:Value) (bytes:Nat) (ht:P.underlying t=some (.slice e)) (hi:P.info? e=some i) (hz:i.zero=some z)
    (hsize:i.size=1) (hby:i.bytes=bytes) (hzs:z.cells.size=1)
    (v:Value) (n:Nat) (xs:List Value) (hown:w.ownsRow base e 1 v n xs) (x:Value) (news:List Value) (hr:Rd w x news) (h1:∀ u ∈ news,u.oneCell'=true)
    (h63:n+news.length≤maxLen) (hbytes:(n+news.length) * bytes≤140737488355328) (hbase:base≤w.heap.size) :
    ∃ v' w',(Builtin.append_ #[t,t] ty #[v,x]).run P w = .ok v' w'∧w'.ownsRow base e 1 v' (n+news.length) (xs ++ news)∧w.grownBy w' v.ownBlock∧(v'.ownBlock=v.ownBlock∨v'.ownBlock=some w.heap.size):=by
  have hr0:=hr
  obtain ⟨a,c,rfl,hx⟩:=hr
  cases a with
  | none =>
    have hn:news = []:=by
      cases news with
      | nil=>rfl
      | cons u r =>
        obtain ⟨g,off,e,_⟩:=hx (by simp)
        cases e
    subst hn
    have hrun:(Builtin.append_ #[t,t] ty #[v,.slice none 0 c]).run P w = .ok v w:=by
      rcases hown.2 with ⟨rfl,_⟩ | ⟨g,cap,cur,rfl,_,_,hnc,_⟩
      · simp [Builtin.append_,run_underlying ht,sizeOf,typeInfo,hi,Builtin.lenOf,Builtin.firstCells]
      · simp [Builtin.append_,run_underlying ht,sizeOf,typeInfo,hi,Builtin.lenOf,Builtin.firstCells,hnc,storeCells]
    exact ⟨v,w,hrun,by simpa using hown,World.grownBy.refl w _,.inl rfl⟩
  | some a =>
    have hn:=(Rd.news hr0 rfl).2
    obtain ⟨v',w',hrun,h2,h3,_⟩:=run_append_own (P:=P) w base t ty e i z 1 bytes ht hi hz hsize hby hzs (by decide) v n xs hown a news.length c news (by omega) hn h1 h63 hbytes hbase
    exact ⟨v',w',hrun,h2,h3,zb0 w base t ty e i z 1 bytes ht hi hz hsize hby (by decide) v n xs hown a news.length c news (by omega) hn h1 h63 hbytes hrun⟩
theorem zah {P:Program} {w:World} {ops:Array Oper} {rest:List Oper} {o:Oper} {a:Act} {Q:Exit→Act→World→Prop} (hgd:o.guard=none) (s x:Operand) (t:TypeId)
    (ho:o.op = .call { callee:=.builtin .append,args:=#[s,x],argTypes:=#[t,t] })
    (base:Nat) (e:TypeId) (i:TypeInfo) (z:Value) (bytes:Nat) (ht:P.underlying t=some (.slice e)) (hi:P.info? e=some i) (hz:i.zero=some z)
    (hsize:i.size=1) (hby:i.bytes=bytes) (hzs:z.cells.size=1)
    (v:Value) (n:Nat) (xs:List Value) (hs:a.eval s=v) (hown:w.ownsRow base e 1 v n xs)
    (xv:Value) (hx:a.eval x=xv) (news:List Value) (hr:Rd w xv news) (h1:∀ u ∈ news,u.oneCell'=true)
    (h63:n+news.length≤maxLen) (hbytes:(n+news.length) * bytes≤140737488355328) (hbase:base≤w.heap.size)
    (h:∀ v' w',w'.ownsRow base e 1 v' (n+news.length) (xs ++ news)→w.grownBy w' v.ownBlock→(v'.ownBlock=v.ownBlock∨v'.ownBlock=some w.heap.size)→wpList P ops Q rest (a.put o.dst v') w'):wpList P ops Q (o :: rest) a w :=
  wpList_plain hgd fun K hK=>by
    obtain ⟨v',w',hr,h2,h3,h4⟩:=zcV (P:=P) w base t o.type e i z bytes ht hi hz hsize hby hzs v n xs hown xv news hr h1 h63 hbytes hbase
    unfold Oper.wp execOp
    simp only [ho,resolve,invoke,builtin,Sem.run_bind,Sem.run_pure,Result.andThen_ok,List.map_toArray,List.map_cons,List.map_nil,hs,hx,hr]
    exact hK _ _ (h v' w' h2 h3 h4)
theorem zay {P:Program} {w:World} {ops:Array Oper} {o:Oper} {a:Act} {K:Act→World→Prop} {Q:Exit→Act→World→Prop} {E:Prop} (hgd:o.guard=none) (s x:Operand) (t:TypeId)
    (ho:o.op = .call { callee:=.builtin .append,args:=#[s,x],argTypes:=#[t,t] })
    (base:Nat) (e:TypeId) (i:TypeInfo) (z:Value) (bytes:Nat) (ht:P.underlying t=some (.slice e)) (hi:P.info? e=some i) (hz:i.zero=some z)
    (hsize:i.size=1) (hby:i.bytes=bytes) (hzs:z.cells.size=1)
    (v:Value) (n:Nat) (xs:List Value) (hs:a.eval s=v) (hown:w.ownsRow base e 1 v n xs)
    (xv:Value) (hx:a.eval x=xv) (news:List Value) (hr:Rd w xv news) (h1:∀ u ∈ news,u.oneCell'=true)
    (h63:n+news.length≤maxLen) (hbytes:(n+news.length) * bytes≤140737488355328) (hbase:base≤w.heap.size)
    (h:∀ v' w',w'.ownsRow base e 1 v' (n+news.length) (xs ++ news)→w.grownBy w' v.ownBlock→(v'.ownBlock=v.ownBlock∨v'.ownBlock=some w.heap.size)→K (a.put o.dst v') w') :
    if Region.wanted o (yielded ops a.tmps)=true then Oper.wp P o a w K Q else E:=by
  have hw:Region.wanted o (yielded ops a.tmps)=true:=by simp [Region.wanted,hgd]
  rw [if_pos hw]
  obtain ⟨v',w',hr,h2,h3,h4⟩:=zcV (P:=P) w base t o.type e i z bytes ht hi hz hsize hby hzs v n xs hown xv news hr h1 h63 hbytes hbase
  unfold Oper.wp execOp
  simp only [ho,resolve,invoke,builtin,Sem.run_bind,Sem.run_pure,Result.andThen_ok,List.map_toArray,List.map_cons,List.map_nil,hs,hx,hr]
  exact h v' w' h2 h3 h4
theorem Rd.keepNon {w w':World} {v:Value} {xs:List Value} (h:Rd w v xs) (k:Keep Non w w'):Rd w' v xs:=h.keep k (fun _ _ e=>e)
theorem infoU8:(Tryz.prog.info? 5).map (fun i=>(i.zero,i.size,i.bytes))=some (some (.int .u8 0),1,1):=by kernel_rfl
theorem zf6 (cap:Nat) (w:World):Calls Tryz.prog 81 #[.slice none 0 cap] w fun e w'=>e = .returned (.slice none 0 0)∧w=w':=by
  have hq:=fun (w:World)=>Lib.run_eql_slice_nil (P:=Tryz.prog) w 44 5 none 0 cap 0 0 Tryz.underlying44
  go_enter Tryz.func81,Tryz.ntmps81
  go_wp2
  go_ret
  exact ⟨rfl,rfl⟩
theorem zaa {w:World} {base:Nat} {e:TypeId} {size:Nat} {v:Value} {n:Nat} {xs:List Value} (h:w.ownsRow base e size v n xs):∃ a cap,v = .slice a n cap∧n≤cap∧cap≤maxLen:=by
  rcases h.2 with ⟨rfl,rfl⟩ | ⟨g,cap,cur,rfl,_,_,h1,h2,_⟩
  · exact ⟨none,0,rfl,by omega,by simp [maxLen]⟩
  · exact ⟨_,cap,rfl,h1,h2⟩
theorem zcR (w:World) (u:Value) (t:TypeId):Rd (w.alloc (.cells #[u] t)) (.slice (some ⟨w.heap.size,0,none⟩) 1 1) [u]:=by
  refine ⟨_,1,rfl,fun _=>⟨w.heap.size,0,rfl,fun j x hx=>?_⟩⟩
  cases j with
  | zero =>
    simp at hx
    subst hx
    exact World.cell?_alloc_new _ _ _ 0
  | succ j=>simp at hx
theorem zac {S:Nat→Prop} {w w':World} {base:Nat} {e:TypeId} {size:Nat} {v:Value} {n:Nat} {xs:List Value} (h:w.ownsRow base e size v n xs) (k:Keep S w w') (hn:∀ g,v.ownBlock=some g→¬ S g):w'.ownsRow base e size v n xs:=by
  obtain ⟨h1,h2⟩:=h
  refine ⟨h1,?_⟩
  rcases h2 with h2 | ⟨g,cap,cur,rfl,hb,hg,rest⟩
  · exact .inl h2
  · exact .inr ⟨g,cap,cur,rfl,hb,k.at hg (hn g rfl),rest⟩
end Go.Proofs.YtnboipdpccnedaaGreatDoor
namespace Go.Proofs.YtnboipdpccnedaaGreatDoor
open Go.RowKit Go.Maps
section
variable {α : Type}
open Classical in
/-- How an element reads,by a relation. -/
noncomputable def readAs (R:Value→α→Prop) (v:Value):Option (DataW α × List MemPlace):=if h:∃ x,R v x then some (.held h.choose,[]) else none
def Fun1 (R:Value→α→Prop):Prop:=∀ v x y,R v x→R v y→x=y
theorem zb8 {R:Value→α→Prop} (hf:Fun1 R) {v:Value} {x:α} (h:R v x):readAs R v=some (.held x,[]):=by
  have h1:∃ x,R v x:=⟨x,h⟩
  unfold readAs
  rw [dif_pos h1,hf v _ x h1.choose_spec h]
theorem zbj {R:Value→α→Prop} {v:Value} {d:DataW α} {ps:List MemPlace} (h:readAs R v=some (d,ps)):ps = []∧∃ x,d = .held x∧R v x:=by
  unfold readAs at h
  split at h
  · rename_i h1
    injection h with h
    injection h with h2 h3
    exact ⟨h3.symm,_,h2.symm,h1.choose_spec⟩
  · cases h
def MapAt (w:World) (kt:TypeId) (R:Value→α→Prop) (b:Nat) (D:DataW α):Prop:=w.ownsMap Tryz.prog kt (readAs R) b (size D) D
variable {w w' : World} {kt : TypeId} {R R' : Value → α → Prop} {b n : Nat} {D : DataW α} {S : Nat → Prop}
theorem MapAt.of (h:w.ownsMap Tryz.prog kt (readAs R) b n D):MapAt w kt R b D:=by
  obtain ⟨es,clock,hb,F,hs,rfl⟩:=h
  exact ⟨es,clock,hb,F,by simp [size,length_sorted],rfl⟩
theorem MapAt.lt (h:MapAt w kt R b D):b < w.heap.size:=World.ownsMap.lt h
theorem MapAt.keep (h:MapAt w kt R b D) (k:Keep S w w') (hb:¬ S b) (hf:Fun1 R') (hR:∀ v x,R v x→R' v x):MapAt w' kt R' b D:=by
  obtain ⟨es,clock,hb',F,hs,hD⟩:=h
  obtain ⟨F1,hm,_⟩:=F.stay (R':=readAs R') (fun x _ z hz=>by
    obtain ⟨z1,z2⟩:=z
    obtain ⟨rfl,y,rfl,hy⟩:=zbj hz
    exact zb8 hf (hR _ _ hy))
  exact ⟨es,clock,k.at hb' hb,F1,hs,by rw [hm];exact hD⟩
theorem MapAt.new (w:World) (kt:TypeId) (R:Value→α→Prop):MapAt (w.alloc (.map #[] 0)) kt R w.heap.size (.map []):=World.ownsMap_made w _ _ _
theorem MapAt.isMap (h:MapAt w kt R b D):IsMap D:=World.ownsMap.isMap h
theorem zaL {b:Nat} (h:w.mapTurned w' b):Keep (One b) w w':=(Keep.refl _ w).grown h.grown (fun k e=>.inl (by injection e with e;exact e.symm))
section
variable {ops : Array Oper} {rest : List Oper} {o : Oper} {a : Act} {Q : Exit → Act → World → Prop}
theorem zak (hg:o.guard=none) (m x:Operand) (t:TypeId) (hop:o.op=Op.lookup t m x true)
    (e:TypeId) (K:Keyed Tryz.prog kt) (ht:Tryz.prog.underlying t=some (.map kt e)) {z:Value} (hz:(zeroValue e).run Tryz.prog w = .ok z w) (x0:α) (hf:Fun1 R) (hz0:R z x0)
    (hm:a.eval m = .map (some b)) (hown:MapAt w kt R b D) (key:Value) (kl:Lit) (hx:a.eval x=key) (hkey:keyOf Tryz.prog kt key=some kl)
    (hK:∀ v y,R v y→D.atKey kl (.held x0) = .held y→wpList Tryz.prog ops Q rest (a.put o.dst (.tuple #[v,.bool (has D kl)])) w) :
    wpList Tryz.prog ops Q (o :: rest) a w :=
  wpList_lookup_own_ok w hg m x t hop kt e K ht (readAs R) hz (.held x0) [] (zb8 hf hz0) b (size D) D hm hown key kl hx hkey (fun v ps hv=>by
    obtain ⟨_,y,hy,hr⟩:=zbj hv
    exact hK v y hr hy)
theorem zhF (hg:o.guard=none) (m x:Operand) (t:TypeId) (hop:o.op=Op.lookup t m x false)
    (e:TypeId) (K:Keyed Tryz.prog kt) (ht:Tryz.prog.underlying t=some (.map kt e)) {z:Value} (hz:(zeroValue e).run Tryz.prog w = .ok z w) (x0:α) (hf:Fun1 R) (hz0:R z x0)
    (hm:a.eval m = .map (some b)) (hown:MapAt w kt R b D) (key:Value) (kl:Lit) (hx:a.eval x=key) (hkey:keyOf Tryz.prog kt key=some kl)
    (hK:∀ v y,R v y→D.atKey kl (.held x0) = .held y→wpList Tryz.prog ops Q rest (a.put o.dst v) w) :
    wpList Tryz.prog ops Q (o :: rest) a w:=by
  refine wpList_plain hg fun K' hK'=>?_
  obtain ⟨v,ps,hrun,hv⟩:=World.ownsMap.lookup hown K ht hz (zb8 hf hz0) hkey
  obtain ⟨_,y,hy,hr⟩:=zbj hv
  unfold Oper.wp
  simp [execOp,hop,hm,hx,hrun,Result.andThen]
  exact hK' _ _ (hK v y hr hy)
theorem zbW (hg:o.guard=none) (m x v:Operand) (t:TypeId) (hop:o.op=Op.mapUpdate t m x v)
    (e:TypeId) (K:Keyed Tryz.prog kt) (ht:Tryz.prog.underlying t=some (.map kt e)) (hf:Fun1 R)
    (hm:a.eval m = .map (some b)) (hown:MapAt w kt R b D) (hn:size D < maxLen) (key val:Value) (kl:Lit) (hx:a.eval x=key) (hv:a.eval v=val) (hkey:keyOf Tryz.prog kt key=some kl)
    (y:α) (hval:R val y)
    (hK:∀ w',MapAt w' kt R b (D.put kl (.held y))→w.mapTurned w' b→wpList Tryz.prog ops Q rest (a.put o.dst undef) w') :
    wpList Tryz.prog ops Q (o :: rest) a w :=
  wpList_mapUpdate_in w hg m x v t hop kt e K ht (readAs R) b (size D) D hm hown hn key val kl hx hv hkey (.held y) [] (zb8 hf hval) (fun w' h1 h2=>hK w' (MapAt.of h1) h2)
theorem zcx (hg:o.guard=none) (m x:Operand) (t:TypeId) (hop:o.op=Op.call { callee:=Callee.builtin Builtin.delete,args:=#[m,x],argTypes:=#[t,kt] })
    (e:TypeId) (K:Keyed Tryz.prog kt) (ht:Tryz.prog.underlying t=some (.map kt e))
    (hm:a.eval m = .map (some b)) (hown:MapAt w kt R b D) (key:Value) (kl:Lit) (hx:a.eval x=key) (hkey:keyOf Tryz.prog kt key=some kl)
    (hK:∀ w',MapAt w' kt R b (D.del kl)→w.mapTurned w' b→wpList Tryz.prog ops Q rest (a.put o.dst (.tuple #[])) w') :
    wpList Tryz.prog ops Q (o :: rest) a w :=
  wpList_delete_own w hg m x t kt hop e K ht (readAs R) b (size D) D hm hown key kl hx hkey (fun w' h1 h2=>hK w' (MapAt.of h1) h2)
end
end
theorem Rd.uniq {w:World} {v:Value} {xs ys:List Value} (h:Rd w v xs) (k:Rd w v ys):xs=ys:=by
  obtain ⟨a,cap,rfl,hx⟩:=h
  obtain ⟨a',cap',e,hy⟩:=k
  injection e with e1 e2 e3
  apply List.ext_getElem e2
  intro i h1 h2
  obtain ⟨g,off,ea,hc⟩:=hx (by intro e;subst e;exact absurd h1 (Nat.not_lt_zero _))
  obtain ⟨g',off',ea',hc'⟩:=hy (by intro e;subst e;exact absurd h2 (Nat.not_lt_zero _))
  rw [← e1,ea] at ea'
  injection ea' with ea'
  injection ea' with e4 e5
  subst e4
  subst e5
  have q1:=hc i _ (List.getElem?_eq_getElem h1)
  have q2:=hc' i _ (List.getElem?_eq_getElem h2)
  rw [q1] at q2
  injection q2
theorem zpG {c d:UInt8} (h:bv c=bv d):c=d:=by
  unfold bv at h
  injection h with _ h
  exact UInt8.toNat_inj.1 (by omega)
theorem Bs.uniq {w:World} {v:Value} {l m:List UInt8} (h:Bs w v l) (k:Bs w v m):l=m :=
  List.map_inj_right (fun _ _ e=>zpG e) |>.1 (Rd.uniq h k)
def BsIn (w:World) (T:Nat→Prop) (v:Value) (l:List UInt8):Prop:=Bs w v l∧∀ g,v.ownBlock=some g→T g
theorem BsIn.fun1 (w:World) (T:Nat→Prop):Fun1 (BsIn w T):=fun _ _ _ h k=>Bs.uniq h.1 k.1
theorem BsIn.keep {w w':World} {S T U:Nat→Prop} {v:Value} {l:List UInt8} (h:BsIn w T v l) (k:Keep S w w') (hn:∀ g,T g→¬ S g) (hu:∀ g,T g→U g):BsIn w' U v l :=
  ⟨Rd.keep h.1 k (fun g e=>hn g (h.2 g e)),fun g e=>hu g (h.2 g e)⟩
end Go.Proofs.YtnboipdpccnedaaGreatDoor
namespace Go.Proofs.YtnboipdpccnedaaGreatDoor
open Go.RowKit
def NewB (w:World) (l:List UInt8) (e:Ending) (w':World):Prop:=∃ v',e = .returned v'∧Keep Non w w'∧w'.ownsRow w.heap.size 5 1 v' l.length (l.map bv)
theorem zeK (a:Addr) (c:Nat) (l:List UInt8) (w:World) (h:Bs w (.slice (some a) l.length c) l) (hlen:l.length≤140737488355328) :
    Calls Tryz.prog 81 #[.slice (some a) l.length c] w (NewB w l):=by
  have hq:=fun (w:World)=>Lib.run_eql_slice_nil (P:=Tryz.prog) w 44 5 (some a) l.length c 0 0 Tryz.underlying44
  obtain ⟨i0,hi,hz0,hz1,hz2⟩:=info_parts infoU8
  have h':Bs (w.alloc (.cells #[] 5)) (.slice (some a) l.length c) l:=by
    obtain ⟨a',cap',e1,hx⟩:=h
    refine ⟨a',cap',e1,fun hne=>?_⟩
    obtain ⟨g,off,e2,hc⟩:=hx hne
    exact ⟨g,off,e2,fun j u hu=>(World.cell?_alloc_lt _ _ _ (World.block_lt_of_cell? _ _ (hc j u hu))).trans (hc j u hu)⟩
  have hnews:=(Rd.news h' rfl).2
  have HN:=zz0 hnews
  have HL:=zz0 hlen
  have hown:Hid ((w.alloc (.cells #[] 5)).ownsRow w.heap.size 5 1 (.slice (some ⟨w.heap.size,0,none⟩) 0 0) 0 []):=World.ownsRow_made w #[] 0 (Nat.le_refl _) (by decide) rfl
  clear hnews h h' hlen
  go_enter Tryz.func81,Tryz.ntmps81
  go_wp2_with (at_builtin;refine zaj rfl _ _ 44 rfl w.heap.size 5 i0 (.int .u8 0) 1 1 Tryz.underlying44 hi hz0 hz1 hz2 rfl (by decide) _ _ _ rfl hown.out a l.length c (l.map bv) rfl (by simp) HN.out (zam l) (by have:=HL.out;unfold maxLen;omega) (by have:=HL.out;omega) (by simp) ?_;intro v' w' ho hg hp;have HO:=zz0 ho;have HP:=zz0 hp;clear ho hp)
  go_ret
  have hk:Keep Non w w':=by
    have:=((Keep.refl Non w).alloc (.cells #[] 5)).trans ((Keep.refl (One w.heap.size) _).grown hg (row:=some w.heap.size) (fun k e=>.inl (by injection e with e;exact e.symm))) (U:=Non) (fun _ _ h=>h) (fun i hi h=>by unfold One at h;omega)
    exact this
  have ho:=HO.out
  rw [List.nil_append,show 0+l.length=(l.map bv).length by simp] at ho
  exact ⟨v',rfl,hk,by simpa using ho⟩
theorem za1 (v:Value) (l:List UInt8) (w:World) (h:Bs w v l) (hlen:l.length≤140737488355328):Calls Tryz.prog 81 #[v] w (NewB w l):=by
  have h0:=h
  obtain ⟨a,cap,rfl,hx⟩:=h
  rw [List.length_map] at h0 ⊢
  cases a with
  | none =>
    have hl:l = []:=by
      cases l with
      | nil=>rfl
      | cons c l =>
        obtain ⟨g,off,e,_⟩:=hx (by simp)
        cases e
    subst hl
    refine (zf6 cap w).mono ?_
    rintro e w' ⟨rfl,rfl⟩
    exact ⟨_,rfl,Keep.refl _ _,rfl,.inl ⟨rfl,rfl⟩⟩
  | some a=>exact zeK a cap l w h0 hlen
end Go.Proofs.YtnboipdpccnedaaGreatDoor
namespace Go.Proofs.YtnboipdpccnedaaGreatDoor
def vput (n:Nat):List UInt8:=if n < 128 then [UInt8.ofNat n] else UInt8.ofNat (n % 128+128) :: vput (n / 128)
termination_by n
decreasing_by omega
theorem zbk {n:Nat} (h:n < 128):vput n = [UInt8.ofNat n]:=by rw [vput,if_pos h]
theorem zbD {n:Nat} (h:128≤n):vput n=UInt8.ofNat (n % 128+128) :: vput (n / 128):=by rw [vput,if_neg (by omega)]
theorem zc0 (n:Nat):0 < (vput n).length:=by
  by_cases h:n < 128
  · rw [zbk h];exact Nat.zero_lt_one
  · rw [zbD (by omega)];simp
theorem zhE:∀ (k n:Nat),n < 128 ^ (k+1)→(vput n).length≤k+1
  | 0,n,h=>by rw [zbk (by omega)];simp
  | k+1,n,h=>by
    by_cases h1:n < 128
    · rw [zbk h1];simp
    · rw [zbD (by omega)]
      have:=zhE k (n / 128) (by rw [Nat.div_lt_iff_lt_mul (by omega)];rw [Nat.pow_succ] at h;omega)
      simp only [List.length_cons]
      omega
theorem zaX {n:Nat} (h:n < 2 ^ 63):(vput n).length≤9:=zhE 8 n (by omega)
theorem zao {n:Nat} (h:n < 2 ^ 21):(vput n).length≤3:=zhE 2 n (by omega)
theorem zp1 {a i part:Nat} (h:a < 2 ^ (7 * i)):a ||| (part <<< (7 * i))=a+part * 128 ^ i:=by
  have e:(128:Nat) ^ i=2 ^ (7 * i):=by rw [Nat.pow_mul]
  have:=Nat.two_pow_add_eq_or_of_lt h part
  rw [Nat.or_comm,Nat.shiftLeft_eq,Nat.mul_comm part,← this,e,Nat.mul_comm part]
  omega
def vputs (l:List Nat):List UInt8:=l.flatMap vput
theorem zeI:vputs [] = []:=rfl
theorem zcs (n:Nat) (l:List Nat):vputs (n :: l)=vput n ++ vputs l:=rfl
theorem zjy (l:List Nat) (n:Nat):vputs (l ++ [n])=vputs l ++ vput n:=by simp [vputs]
end Go.Proofs.YtnboipdpccnedaaGreatDoor
namespace Go.Proofs.YtnboipdpccnedaaGreatDoor
open Go.RowKit
theorem or128 (m:Nat):bits .or .u8 ((m:Int) % 256) 128=((m % 128+128:Nat):Int):=by
  have h:∀ x:Fin 256,bits .or .u8 ((x.val:Nat):Int) 128=((x.val % 128+128:Nat):Int):=by decide +kernel
  have:=h ⟨m % 256,by omega⟩
  simp only [Int.natCast_emod,Int.natCast_add] at this ⊢
  rw [show ((256:Nat):Int)=256 from rfl] at this
  rw [this]
  omega
theorem zhO {m:Nat} (h:m < 256):Value.int .u8 (m:Int)=bv (UInt8.ofNat m):=by
  unfold bv
  rw [UInt8.toNat_ofNat',Nat.mod_eq_of_lt (by omega)]
theorem zoN (v:Value) (k n base:Nat) (xs:List Value) (w:World) (hn:n < 2 ^ 63) (hown:w.ownsRow base 5 1 v k xs) (hb:base≤w.heap.size) (hk:k≤1000000000000) :
    Calls Tryz.prog 262 #[v,.int .u64 n] w fun e w'=>∃ v',e = .returned v'∧w'.ownsRow base 5 1 v' (k+(vput n).length) (xs ++ (vput n).map bv)∧Keep (fun b=>v.ownBlock=some b) w w':=by
  have HO:=zz0 hown
  have HB:=zz0 hb
  obtain ⟨i0,hi0,hz0,hz1,hz2⟩:=info_parts infoU8
  clear hown hb
  go_enter Tryz.func262,Tryz.ntmps262
  go_wp2_with fail
  go_loopw [0,1] (fun o i wr=>∃ (m:Nat) (pre:List UInt8),i = .int .u64 m∧m≤n∧pre.length≤10∧pre ++ vput m=vput n∧wr.ownsRow base 5 1 o (k+pre.length) (xs ++ pre.map bv)∧Keep (fun b=>v.ownBlock=some b) w wr∧(∀ b,o.ownBlock=some b→v.ownBlock=some b∨w.heap.size≤b)) (fun _ i _=>(intOf i).toNat)
  case atStart=>exact ⟨n,[],rfl,Nat.le_refl _,by simp,rfl,by simpa using HO.out,Keep.refl _ _,fun b h=>.inl h⟩
  case round =>
    obtain ⟨m,pre,rfl,hm,hp,he,ho,hkp,hob⟩:=hrel
    have HE:=zz0 he
    have HO2:=zz0 ho
    have KP:=zz0 hkp
    have OB:=zz0 hob
    clear he ho hkp hob
    by_cases h:m < 128
    · have hlt:¬ (128:Int)≤(m:Int):=by omega
      obtain ⟨va,vc,rfl,_,_⟩:=zaa HO2.out
      have hpl:Hid (pre.length≤10):=zz0 hp
      go_wp2_with (refine zah rfl (.tmp 15) (.tmp 18) 44 rfl base 5 i0 (.int .u8 0) 1 Tryz.underlying44 hi0 hz0 hz1 hz2 rfl _ _ _ rfl (HO2.out.alloc _) (.slice (some ⟨wr.heap.size,0,none⟩) 1 1) rfl [.int .u8 m] (zcR _ _ _) (by intro u hu;simp at hu;subst hu;rfl) (by unfold maxLen;simp;omega) (by simp;omega) (by have:=KP.out.size;have:=HB.out;simp;omega) ?_;intro v' w' ho hg hpp;have HO3:=zz0 ho;have HG:=zz0 hg;clear ho hg hpp)
      go_ret
      have h3:=HO3.out
      have he:=HE.out
      rw [zbk h] at he
      rw [zhO (by omega),List.append_assoc,← List.map_singleton (f:=bv),← List.map_append,he,show k+pre.length+(List.map bv [UInt8.ofNat m]).length=k+(vput n).length by rw [← he];simp;omega] at h3
      exact ⟨v',rfl,h3,(KP.out.alloc _).grown HG.out (fun q e=>OB.out q e)⟩
    · have hge:(128:Int)≤(m:Int):=by omega
      obtain ⟨va,vc,rfl,_,_⟩:=zaa HO2.out
      go_wp2_with (rw [or128];refine zah rfl (.tmp 9) (.tmp 13) 44 rfl base 5 i0 (.int .u8 0) 1 Tryz.underlying44 hi0 hz0 hz1 hz2 rfl _ _ _ rfl (HO2.out.alloc _) (.slice (some ⟨wr.heap.size,0,none⟩) 1 1) rfl [.int .u8 ((m % 128+128:Nat):Int)] (zcR _ _ _) (by intro u hu;simp at hu;subst hu;rfl) (by unfold maxLen;simp;omega) (by simp;omega) (by have:=KP.out.size;have:=HB.out;simp;omega) ?_;intro v' w' ho hg hpp;have HO3:=zz0 ho;have HG:=zz0 hg;have HP:=zz0 hpp;clear ho hg hpp)
      have h3:=HO3.out
      have he:=HE.out
      rw [zbD (by omega)] at he
      have hl:pre.length+1≤10:=by
        have h9:=zaX hn
        rw [← he] at h9
        have:=zc0 (m / 128)
        simp at h9
        omega
      rw [zhO (by omega),List.append_assoc,← List.map_singleton (f:=bv),← List.map_append,show k+pre.length+(List.map bv [UInt8.ofNat (m % 128+128)]).length=k+(pre ++ [UInt8.ofNat (m % 128+128)]).length by simp;omega] at h3
      refine ⟨⟨m / 128,pre ++ [UInt8.ofNat (m % 128+128)],by congr 1,by omega,by simpa using hl,by rw [List.append_assoc];exact he,h3,(KP.out.alloc _).grown HG.out (fun q e=>OB.out q e),fun b e=>?_⟩,by simp [intOf];omega⟩
      rcases HP.out with h4 | h4
      · rw [h4] at e
        exact OB.out b e
      · rw [h4] at e
        have:=KP.out.size
        simp at e
        exact .inr (by omega)
variable {P : Program}
theorem zbi (w:World) (g:Nat) (t:TypeId) (cs:Array Value) (fr:Nat × Nat) (n:Nat) (hg:w.heap[g]? = some (.cells cs t fr)) (hn:cs.size=n) :
    (loadCellsFrom ⟨g,0,none⟩ 0 n #[]).run P w = .ok cs w:=by
  subst hn
  have:=run_loadCells_list (P:=P) w ⟨g,0,none⟩ cs.toList (fun j v hv=>by
    have hadd:(⟨g,0,none⟩:Addr).add j=⟨g,j,none⟩:=by unfold Addr.add;split <;> simp_all
    rw [hadd,cell_of_row _ _ j cs t fr hg]
    simpa using hv)
  simpa [loadCells] using this
theorem zbb (w:World) (g:Nat) (t:TypeId) (old cs:Array Value) (hg:w.heap[g]? = some (.cells old t (0,0))) (hi:(P.info? t).map (·.size)=some cs.size) (ho:old.size=cs.size) (h1:cs.all (·.oneCell')=true) :
    (storeCells ⟨g,0,none⟩ cs.toList 0).run P w = .ok () (w.setRow g cs):=by
  have:=run_storeVar_row (P:=P) w g t t old cs hg hi ho h1
  cases hq:P.info? t with
  | none=>simp [hq] at hi
  | some i =>
    have hs:cs.size=i.size:=by simp [hq] at hi;omega
    simpa [storeVar,sizeOf,typeInfo,hq,Value.cells,hs] using this
theorem Keep.setRow {S:Nat→Prop} {a w:World} (h:Keep S a w) {g:Nat} (hg:S g∨a.heap.size≤g) (cs:Array Value):Keep S a (w.setRow g cs) :=
  ⟨h.os,h.tape,h.output,by rw [setRow_size];exact h.size,fun k hk hn=>by
    rw [setRow_other _ _ _ _ (fun e=>by subst e;rcases hg with hg | hg;exact hn hg;omega)]
    exact h.block k hk hn⟩
theorem znU {cs:Array Value} {k:IntKind} {n:Nat} (hn:cs.size=n) (h:∀ i,i < n→∃ x,cs[i]? = some (.int k x)):cs.all (·.oneCell')=true:=by
  rw [Array.all_eq_true]
  intro i hi
  obtain ⟨x,hx⟩:=h i (by omega)
  rw [Array.getElem?_eq_getElem hi] at hx
  rw [Option.some.inj hx]
  rfl
def holdA (t:TypeId):Sem Bool:=isAgg t
def holdS (t:TypeId):Sem Nat:=sizeOf t
theorem hA417 (w:World):(isAgg 417).run Tryz.prog w=(holdA 417).run Tryz.prog w:=rfl
theorem hS417 (w:World):(sizeOf 417).run Tryz.prog w=(holdS 417).run Tryz.prog w:=rfl
theorem oA417 (w:World):(holdA 417).run Tryz.prog w = .ok true w:=Tryz.isAgg417 w
theorem oS417 (w:World):(holdS 417).run Tryz.prog w = .ok 64 w:=Tryz.sizeOf417 w
theorem hA373 (w:World):(isAgg 373).run Tryz.prog w=(holdA 373).run Tryz.prog w:=rfl
theorem hS373 (w:World):(sizeOf 373).run Tryz.prog w=(holdS 373).run Tryz.prog w:=rfl
theorem oA373 (w:World):(holdA 373).run Tryz.prog w = .ok true w:=Tryz.isAgg373 w
theorem oS373 (w:World):(holdS 373).run Tryz.prog w = .ok 8 w:=Tryz.sizeOf373 w
theorem hA84 (w:World):(isAgg 84).run Tryz.prog w=(holdA 84).run Tryz.prog w:=rfl
theorem hS84 (w:World):(sizeOf 84).run Tryz.prog w=(holdS 84).run Tryz.prog w:=rfl
theorem oA84 (w:World):(holdA 84).run Tryz.prog w = .ok true w:=Tryz.isAgg84 w
theorem oS84 (w:World):(holdS 84).run Tryz.prog w = .ok 32 w:=Tryz.sizeOf84 w
theorem hA49 (w:World):(isAgg 49).run Tryz.prog w=(holdA 49).run Tryz.prog w:=rfl
theorem hS49 (w:World):(sizeOf 49).run Tryz.prog w=(holdS 49).run Tryz.prog w:=rfl
theorem oA49 (w:World):(holdA 49).run Tryz.prog w = .ok true w:=Tryz.isAgg49 w
theorem oS49 (w:World):(holdS 49).run Tryz.prog w = .ok 32 w:=Tryz.sizeOf49 w
theorem zaU {c:Int} (h:c≠0):errv c = .iface 55 (.int .i64 c):=if_neg h
theorem zbe {c:Int} (h:c=0):errv c = .nilIface:=if_pos h
def Sub (F' F:Nat→Prop) (w:World):Prop:=∀ g,F' g→F g∨w.heap.size≤g
theorem Sub.refl (F:Nat→Prop) (w:World):Sub F F w:=fun _ h=>.inl h
theorem Sub.trans {F F' F'':Nat→Prop} {w w':World} (h:Sub F' F w) (k:Sub F'' F' w') (hw:w.heap.size≤w'.heap.size):Sub F'' F w:=fun g e=>by
  rcases k g e with e | e
  · exact h g e
  · exact .inr (by omega)
theorem za9 {F F':Nat→Prop} {w w' w'':World} (h:Keep F w w') (s:Sub F' F w) (k:Keep F' w' w''):Keep F w w'' :=
  h.trans k (fun _ _ e=>e) (fun i hi e=>by rcases s i e with e | e;exact e;omega)
def iv (n:Nat):Value:=.int .i64 n
end Go.Proofs.YtnboipdpccnedaaGreatDoor
