/- Parts and manifests by value: their cell -/
import Derived.Test.YtpojgmeoaflmoaaGreatDoorQ10
import Derived.Test.YtpojgmeoaflmoaaGreatDoorQ12
set_option linter.unusedVariables false
set_option maxRecDepth 100000
set_option maxHeartbeats 16000000
namespace Go.Proofs.YtpojgmeoaflmoaaGreatDoor
open Go.RowKit
structure Pt where
 first:Nat
 many:Nat
 size:Nat
 sum:List UInt8
def zq8 (p:Pt):List Value:=.int .i64 p.first :: .int .i64 p.many :: .int .i64 p.size::p.sum.map bv
def ptV (p:Pt):Value:=.agg (zq8 p).toArray
structure Mf where
 num:Nat
 lo:Nat
 hi:Nat
 trim:Nat
 prev:List UInt8
 parts:List Pt
def zq6 (m:Mf)(pv:Value):List Value:=.int .i64 m.num :: .int .i64 m.lo :: .int .i64 m.hi :: .int .i64 m.trim::(m.prev.map bv ++ [pv])
def zq7 (m:Mf)(pv:Value):Value:=.agg (zq6 m pv).toArray
def zq4 (p:Pt):Obj:=.cells (zq8 p).toArray 125 (0,0)
def zq1 (m:Mf)(pv:Value):Obj:=.cells (zq6 m pv).toArray 54 (0,0)
theorem zbc {p:Pt}(h:p.sum.length=32):(zq8 p).length=35:=by simp[zq8,h]
theorem zaV {m:Mf}{pv:Value}(h:m.prev.length=32):(zq6 m pv).length=37:=by simp[zq6,h]
section
variable {w : World} {b : Nat} {p : Pt} {m : Mf} {pv : Value}
theorem pt_0 (h:w.heap[b]? = some (zq4 p)):w.cell? ⟨b,0,none⟩=some (.int .i64 p.first):=by simp[World.cell?,h,zq4,zq8]
theorem pt_1 (h:w.heap[b]? = some (zq4 p)):w.cell? ⟨b,1,none⟩=some (.int .i64 p.many):=by simp[World.cell?,h,zq4,zq8]
theorem pt_2 (h:w.heap[b]? = some (zq4 p)):w.cell? ⟨b,2,none⟩=some (.int .i64 p.size):=by simp[World.cell?,h,zq4,zq8]
theorem zmj (h:w.heap[b]? = some (zq4 p)):∀(j:Nat) u,(p.sum.map bv)[j]? = some u→w.cell? ⟨b,3+j,none⟩=some u:=by
 intro j u hu;simp only[World.cell?,h,zq4,zq8];rw[Nat.add_comm];simpa using hu
theorem mf_0 (h:w.heap[b]? = some (zq1 m pv)):w.cell? ⟨b,0,none⟩=some (.int .i64 m.num):=by simp[World.cell?,h,zq1,zq6]
theorem mf_1 (h:w.heap[b]? = some (zq1 m pv)):w.cell? ⟨b,1,none⟩=some (.int .i64 m.lo):=by simp[World.cell?,h,zq1,zq6]
theorem mf_2 (h:w.heap[b]? = some (zq1 m pv)):w.cell? ⟨b,2,none⟩=some (.int .i64 m.hi):=by simp[World.cell?,h,zq1,zq6]
theorem mf_3 (h:w.heap[b]? = some (zq1 m pv)):w.cell? ⟨b,3,none⟩=some (.int .i64 m.trim):=by simp[World.cell?,h,zq1,zq6]
theorem mf_f (h:w.heap[b]? = some (zq1 m pv))(i:Nat):w.frozen? ⟨b,i,none⟩=false:=by simp[World.frozen?,h,zq1]
theorem zix (h:w.heap[b]? = some (zq1 m pv))(hl:m.prev.length=32):∀(j:Nat) u,(m.prev.map bv)[j]? = some u→w.cell? ⟨b,4+j,none⟩=some u:=by
 intro j u hu;have hj:j<32:=by
  have:=List.getElem?_eq_some_iff.1 hu;obtain⟨h1,_⟩:=this;rw[List.length_map,hl] at h1;exact h1
 simp only[World.cell?,h,zq1,zq6];rw[Nat.add_comm];simp only[List.getElem?_toArray,List.getElem?_cons_succ];rw[List.getElem?_append_left (by rw[List.length_map,hl];exact hj)]
 exact hu
theorem mf_36 (h:w.heap[b]? = some (zq1 m pv))(hl:m.prev.length=32):w.cell? ⟨b,36,none⟩=some pv:=by
 simp only[World.cell?,h,zq1,zq6];simp only[List.getElem?_toArray,List.getElem?_cons_succ];rw[List.getElem?_append_right (by rw[List.length_map,hl];exact Nat.le_refl _),List.length_map,hl]
 rfl
end
def zZ (t:TypeId)(a:Addr):Sem Value:=loadVar t a
theorem zbB (a:Addr):loadVar 51 a=zZ 51 a:=rfl
theorem zU (a:Addr):loadVar 125 a=zZ 125 a:=rfl
theorem zbC (a:Addr):loadVar 54 a=zZ 54 a:=rfl
theorem zew {t:TypeId}{n:Nat}(ha:∀w,(isAgg t).run Tryz.prog w = .ok true w)(hs:∀w,(sizeOf t).run Tryz.prog w = .ok n w)(w:World)(g off:Nat)(cs:List Value)(hn:cs.length=n)(h:∀(j:Nat) v,cs[j]? = some v→w.cell? ⟨g,off+j,none⟩=some v) :
 (zZ t ⟨g,off,none⟩).run Tryz.prog w = .ok (.agg cs.toArray) w:=by
 subst hn;have:=run_loadCells_list (P:=Tryz.prog) w ⟨g,off,none⟩ cs (fun j v hv=>by rw[zag];exact h j v hv)
 unfold zZ loadVar;simp only[Sem.run_bind,ha,Result.andThen,if_true,hs,this,Sem.run_pure]
theorem load81 (w:World)(g off:Nat)(D:List UInt8)(hn:D.length=32)(h:∀(j:Nat) v,(D.map bv)[j]? = some v→w.cell? ⟨g,off+j,none⟩=some v) :
 (zZ 51 ⟨g,off,none⟩).run Tryz.prog w = .ok (zbY D) w:=zew Tryz.isAgg51 Tryz.sizeOf51 w g off _ (by rw[List.length_map,hn]) h
theorem load101 (w:World)(g off:Nat)(p:Pt)(hn:p.sum.length=32)(h:∀(j:Nat) v,(zq8 p)[j]? = some v→w.cell? ⟨g,off+j,none⟩=some v) :
 (zZ 125 ⟨g,off,none⟩).run Tryz.prog w = .ok (ptV p) w:=zew Tryz.isAgg125 Tryz.sizeOf125 w g off _ (zbc hn) h
theorem load83 (w:World)(g off:Nat)(m:Mf)(pv:Value)(hn:m.prev.length=32)(h:∀(j:Nat) v,(zq6 m pv)[j]? = some v→w.cell? ⟨g,off+j,none⟩=some v) :
 (zZ 54 ⟨g,off,none⟩).run Tryz.prog w = .ok (zq7 m pv) w:=zew Tryz.isAgg54 Tryz.sizeOf54 w g off _ (zaV hn) h
theorem zaB {w:World}{b:Nat}{p:Pt}(h:w.heap[b]? = some (zq4 p))(hn:p.sum.length=32):(zZ 125 ⟨b,0,none⟩).run Tryz.prog w = .ok (ptV p) w :=
 load101 w b 0 p hn (fun j v hv=>by rw[Nat.zero_add,cell_of_row _ _ j _ _ _ h];simpa using hv)
theorem zO {w:World}{b:Nat}{m:Mf}{pv:Value}(h:w.heap[b]? = some (zq1 m pv))(hn:m.prev.length=32):(zZ 54 ⟨b,0,none⟩).run Tryz.prog w = .ok (zq7 m pv) w :=
 load83 w b 0 m pv hn (fun j v hv=>by rw[Nat.zero_add,cell_of_row _ _ j _ _ _ h];simpa using hv)
def holdW (t:TypeId)(a:Addr)(v:Value):Sem Unit:=storeVar t a v
theorem zbD (a:Addr)(v:Value):storeVar 51 a v=holdW 51 a v:=rfl
theorem zV (a:Addr)(v:Value):storeVar 125 a v=holdW 125 a v:=rfl
theorem zbE (a:Addr)(v:Value):storeVar 54 a v=holdW 54 a v:=rfl
def zq9:Array Value:=#[.int .u8 0,.int .u8 0,.int .u8 0,.int .u8 0,.int .u8 0,.int .u8 0,.int .u8 0,.int .u8 0,.int .u8 0,.int .u8 0,.int .u8 0,.int .u8 0,.int .u8 0,.int .u8 0,.int .u8 0,.int .u8 0,.int .u8 0,.int .u8 0,.int .u8 0,.int .u8 0,.int .u8 0,.int .u8 0,.int .u8 0,.int .u8 0,.int .u8 0,.int .u8 0,.int .u8 0,.int .u8 0,.int .u8 0,.int .u8 0,.int .u8 0,.int .u8 0]
def zrb:Array Value:=#[.int .i64 0,.int .i64 0,.int .i64 0,.int .u8 0,.int .u8 0,.int .u8 0,.int .u8 0,.int .u8 0,.int .u8 0,.int .u8 0,.int .u8 0,.int .u8 0,.int .u8 0,.int .u8 0,.int .u8 0,.int .u8 0,.int .u8 0,.int .u8 0,.int .u8 0,.int .u8 0,.int .u8 0,.int .u8 0,.int .u8 0,.int .u8 0,.int .u8 0,.int .u8 0,.int .u8 0,.int .u8 0,.int .u8 0,.int .u8 0,.int .u8 0,.int .u8 0,.int .u8 0,.int .u8 0,.int .u8 0]
def zra:Array Value:=#[.int .i64 0,.int .i64 0,.int .i64 0,.int .i64 0,.int .u8 0,.int .u8 0,.int .u8 0,.int .u8 0,.int .u8 0,.int .u8 0,.int .u8 0,.int .u8 0,.int .u8 0,.int .u8 0,.int .u8 0,.int .u8 0,.int .u8 0,.int .u8 0,.int .u8 0,.int .u8 0,.int .u8 0,.int .u8 0,.int .u8 0,.int .u8 0,.int .u8 0,.int .u8 0,.int .u8 0,.int .u8 0,.int .u8 0,.int .u8 0,.int .u8 0,.int .u8 0,.int .u8 0,.int .u8 0,.int .u8 0,.int .u8 0,.slice none 0 0]
theorem zdm (w:World)(old cs:Array Value)(t:TypeId)(fr:Nat×Nat):(w.alloc (.cells old t fr)).setRow w.heap.size cs=w.alloc (.cells cs t fr):=by
 unfold World.setRow World.alloc;simp only
 congr 1
 apply Array.ext_getElem?
 intro i;simp only[Array.getElem?_modify,Array.getElem?_push];by_cases h:i=w.heap.size
 ·subst h
  simp
 ·have h':w.heap.size≠i:=fun e=>h e.symm
  simp[h,h']
theorem ziB (p:Pt):(zq8 p).toArray.all (·.oneCell')=true:=by
 rw[List.all_toArray,List.all_eq_true];intro x hx;simp only[zq8,List.mem_cons] at hx;rcases hx with rfl|rfl|rfl|hx
 ·rfl
 ·rfl
 ·rfl
 ·obtain⟨y,_,rfl⟩:=List.mem_map.1 hx
  rfl
theorem zl3 (m:Mf)(a:Option Addr)(n c:Nat):(zq6 m (.slice a n c)).toArray.all (·.oneCell')=true:=by
 rw[List.all_toArray,List.all_eq_true];intro x hx;simp only[zq6,List.mem_cons,List.mem_append] at hx;rcases hx with rfl|rfl|rfl|rfl|hx|rfl|hx
 ·rfl
 ·rfl
 ·rfl
 ·rfl
 ·obtain⟨y,_,rfl⟩:=List.mem_map.1 hx
  rfl
 ·rfl
 ·cases hx
theorem szPt:(Tryz.prog.info? 125).map (·.size)=some 35:=by kernel_rfl
theorem szMf:(Tryz.prog.info? 54).map (·.size)=some 37:=by kernel_rfl
theorem zbR (w:World)(g:Nat)(p:Pt)(old:Array Value)(h:p.sum.length=32)(ho:old.size=35)(hg:w.heap[g]? = some (.cells old 125 (0,0))) :
 (holdW 125 ⟨g,0,none⟩ (ptV p)).run Tryz.prog w = .ok () (w.setRow g (zq8 p).toArray) :=
 run_storeVar_row (P:=Tryz.prog) w g 125 125 old (zq8 p).toArray hg (by rw[List.size_toArray,zbc h];exact szPt) (ho.trans (by rw[List.size_toArray,zbc h])) (ziB p)
theorem zac (w:World)(p:Pt)(h:p.sum.length=32):(holdW 125 ⟨w.heap.size,0,none⟩ (ptV p)).run Tryz.prog (w.alloc (.cells zrb 125)) = .ok () (w.alloc (zq4 p)):=by
 rw[zbR _ _ p zrb h rfl (ze _ _),zdm]
 rfl
theorem zax (w:World)(g:Nat)(m:Mf)(a:Option Addr)(n c:Nat)(old:Array Value)(h:m.prev.length=32)(ho:old.size=37)(hg:w.heap[g]? = some (.cells old 54 (0,0))) :
 (holdW 54 ⟨g,0,none⟩ (zq7 m (.slice a n c))).run Tryz.prog w = .ok () (w.setRow g (zq6 m (.slice a n c)).toArray) :=
 run_storeVar_row (P:=Tryz.prog) w g 54 54 old (zq6 m (.slice a n c)).toArray hg (by rw[List.size_toArray,zaV h];exact szMf) (ho.trans (by rw[List.size_toArray,zaV h])) (zl3 m a n c)
theorem zaZ (w:World)(m:Mf)(a:Option Addr)(n c:Nat)(h:m.prev.length=32):(holdW 54 ⟨w.heap.size,0,none⟩ (zq7 m (.slice a n c))).run Tryz.prog (w.alloc (.cells zra 54)) = .ok () (w.alloc (zq1 m (.slice a n c))):=by
 rw[zax _ _ m a n c zra h rfl (ze _ _),zdm]
 rfl
theorem zl4 (x most:Int)(w:World)(h1:0≤x)(h2:x≤most) :
 Calls Tryz.prog 159 #[.int .i64 x,.int .i64 most] w fun e w'=>e = .returned (.bool true)∧w'=w:=by
 go_enter Tryz.func159,Tryz.ntmps159
 go_wp2_with fail
 go_ret;exact⟨rfl,rfl⟩
theorem ptc_0 (p:Pt):(zq8 p)[0]? = some (.int .i64 p.first):=rfl
theorem ptc_1 (p:Pt):(zq8 p)[1]? = some (.int .i64 p.many):=rfl
theorem ptc_2 (p:Pt):(zq8 p)[2]? = some (.int .i64 p.size):=rfl
theorem mfc_0 (m:Mf)(pv:Value):(zq6 m pv)[0]? = some (.int .i64 m.num):=rfl
theorem mfc_1 (m:Mf)(pv:Value):(zq6 m pv)[1]? = some (.int .i64 m.lo):=rfl
theorem mfc_2 (m:Mf)(pv:Value):(zq6 m pv)[2]? = some (.int .i64 m.hi):=rfl
theorem mfc_3 (m:Mf)(pv:Value):(zq6 m pv)[3]? = some (.int .i64 m.trim):=rfl
theorem zhA (m:Mf)(pv:Value)(h:m.prev.length=32):(zq6 m pv)[36]? = some pv:=by
 simp only[zq6,List.getElem?_cons_succ];rw[List.getElem?_append_right (by rw[List.length_map,h];exact Nat.le_refl _),List.length_map,h]
 rfl
def okPt (p:Pt):Prop:=1≤p.many∧p.many≤64∧1≤p.size∧p.size≤65536∧p.sum.length=32
def okPts:Nat→List Pt→Prop
 |_,[]=>True
 |a,p::r=>p.first=a∧okPt p∧okPts (a+p.many) r
def zp:Nat→List Pt→Nat
 |a,[]=>a
 |a,p::r=>zp (a+p.many) r
structure okMf (m:Mf):Prop where
 num:m.num≤999999
 hi:m.hi≤1048576
 trim:m.trim≤1048576
 prev:m.prev.length=32
 zero:m.num=0→isZ m.prev=true
 many:m.parts.length≤1024
 parts:okPts m.lo m.parts
 stop:zp m.lo m.parts=m.hi
theorem zhD (p:Pt)(w:World)(h1:1≤p.many)(h2:p.many≤64)(h3:1≤p.size)(h4:p.size≤65536)(h5:p.sum.length=32) :
 Calls Tryz.prog 161 #[ptV p,.int .i64 p.first] w fun e w'=>e = .returned .nilIface∧za zq2 w w':=by
 unfold ptV;have q0:=ptc_0 p;have q1:=ptc_1 p;have q2:=ptc_2 p
 go_enter Tryz.func161,Tryz.ntmps161
 go_wp2_with(go_at_call 159;with_reducible refine(zl4 _ _ _ (by omega) (by omega)).mono ?_;rintro e w1 ⟨rfl,e1⟩;subst e1)
 go_ret;exact⟨rfl,(za.refl _ _).alloc _⟩
def zC (w:World)(v:Value)(l:List Pt):Prop:=∃a c,v = .slice a l.length c∧l.length≤c∧(∀ad,a=some ad→∃g off,ad=⟨g,off,none⟩)∧∀j p,l[j]? = some p→∃g off,a=some ⟨g,off,none⟩∧∀(i:Nat) u,(zq8 p)[i]? = some u→w.cell? ⟨g,off+j*35+i,none⟩=some u
theorem zC.keep {S:Nat→Prop}{w w':World}{v:Value}{l:List Pt}(h:zC w v l)(k:za S w w')(hn:∀g,v.ownBlock=some g→¬S g):zC w' v l:=by
 obtain⟨a,c,rfl,hc,ha,hx⟩:=h;refine⟨a,c,rfl,hc,ha,fun j p hj=>?_⟩
 obtain⟨g,off,rfl,h1⟩:=hx j p hj;exact⟨g,off,rfl,fun i u hu=>(World.cell?_of_block (k.block g (World.block_lt_of_cell? _ _ (h1 i u hu)) (hn g rfl))).trans (h1 i u hu)⟩
theorem zC.keepNon {w w':World}{v:Value}{l:List Pt}(h:zC w v l)(k:za zq2 w w'):zC w' v l:=h.keep k (fun _ _ e=>e)
theorem zay:∀(l:List Pt)(a j:Nat)(p:Pt),okPts a l→l[j]? = some p→okPt p∧p.first=zp a (l.take j)
 |[],a,j,p,_,h=>by simp at h
 |q::r,a,0,p,h,e=>by simp at e;subst e;exact⟨h.2.1,h.1⟩
 |q::r,a,j+1,p,h,e=>by
  rw[List.getElem?_cons_succ] at e;exact zay r (a+q.many) j p h.2.2 e
theorem za2:∀(l:List Pt)(a j:Nat)(p:Pt),l[j]? = some p→zp a (l.take (j+1))=zp a (l.take j)+p.many
 |[],a,j,p,h=>by simp at h
 |q::r,a,0,p,e=>by simp at e;subst e;simp[zp]
 |q::r,a,j+1,p,e=>by
  rw[List.getElem?_cons_succ] at e;simp only[List.take_succ_cons,zp];exact za2 r (a+q.many) j p e
theorem zaq:∀(l:List Pt)(a j:Nat),a≤zp a (l.take j)∧zp a (l.take j)≤zp a l
 |[],a,j=>by simp[zp]
 |q::r,a,0=>by
  have:=zaq r (a+q.many) 0;simp[zp] at this ⊢;omega
 |q::r,a,j+1=>by
  have:=zaq r (a+q.many) j;simp only[List.take_succ_cons,zp] at this ⊢;omega
section
attribute [local go_sem ↓] zbB zU zbC zbD zV zbE
theorem zcr (m:Mf)(pv:Value)(w:World)(h:okMf m)(hp:zC w pv m.parts) :
 Calls Tryz.prog 104 #[zq7 m pv] w fun e w'=>e = .returned .nilIface∧za zq2 w w':=by
 have OK:=zz0 h;have PA:=zz0 hp;obtain⟨h1,h2,h3,h4,h5,h6,h7,h8⟩:=h;have h9:=(zaq m.parts m.lo 0);simp only[List.take_zero,zp,h8] at h9;have hlo:=h9.2;obtain⟨a,c,rfl,hc,ha,hx⟩:=hp;clear hx h7 h9;unfold zq7;have q0:=mfc_0 m (.slice a m.parts.length c);have q1:=mfc_1 m (.slice a m.parts.length c);have q2:=mfc_2 m (.slice a m.parts.length c);have q3:=mfc_3 m (.slice a m.parts.length c);have q36:=zhA m (.slice a m.parts.length c) h4;have hl:=load81 (w.alloc (zq1 m (.slice a m.parts.length c))) w.heap.size 4 m.prev h4 (zix (ze _ _) h4);unfold zq1 at hl;have hnl:¬m.hi<m.lo:=by omega
 have hnl2:¬(1024:Int)<(m.parts.length:Int):=by omega
 go_enter Tryz.func104,Tryz.ntmps104
 go_wp2_with(first
  |(go_at_call 159;with_reducible refine(zl4 _ _ _ (by omega) (by omega)).mono ?_;rintro e w1 ⟨rfl,e1⟩;subst e1)
  |(go_at_call 160;refine(zo1 m.prev h4 _).mono ?_;rw[h5 ‹m.num=0›];rintro e w1 ⟨rfl,k1⟩;have k1':=((za.refl zq2 w).alloc (zq1 m (.slice a m.parts.length c))).trans1 k1;have b1:=zh k1 (ze w (zq1 m (.slice a m.parts.length c)));have d1:=mf_1 b1;have d2:=mf_2 b1;have d36:=mf_36 b1 h4;have K1:=zz0 k1';have B1:=zz0 b1;clear k1 k1' b1))
 ·have ATB:Hid _:=B1
  have ATK:=K1;have HH:=zz0 h8
  go_loopw [3,60] (fun at_ i wr=>∃j:Nat,j≤m.parts.length∧i = .int .i64 j∧at_ = .int .i64 (zp m.lo (m.parts.take j))∧wr.heap[w.heap.size]? = some (zq1 m (.slice a m.parts.length c))∧za zq2 w wr) (fun _ i _=>m.parts.length-(intOf i).toNat)
  case atStart=>exact⟨0,by omega,rfl,rfl,ATB.out,ATK.out⟩
  case round =>
   obtain⟨j,hj,rfl,rfl,hb,hk⟩:=hrel;have K:=zz0 hk;have B:=zz0 hb;have e2:=mf_2 hb;clear hk hb;by_cases hlt:j<m.parts.length
   ·have hlj:(j:Int)<(m.parts.length:Int):=by omega
    obtain⟨p,hpj⟩:∃p,m.parts[j]? = some p:=⟨_,List.getElem?_eq_getElem hlt⟩;obtain⟨⟨p1,p2,p3,p4,p5⟩,p6⟩:=zay m.parts m.lo j p OK.out.parts hpj;have hst:=za2 m.parts m.lo j p hpj;have hle:=(zaq m.parts m.lo (j+1)).2;rw[HH.out] at hle;have hle2:=Nat.le_trans hle OK.out.hi;clear hle;obtain⟨a1,c1,e1,_,_,hx⟩:=PA.out.keepNon K.out;injection e1 with e1 e3 e4
    subst e1;subst e4;obtain⟨g,off,rfl,hcell⟩:=hx j p hpj;have hld:=load101 wr g (off+j*35) p p5 hcell;have hsp:=zac wr p p5;have hlp:=zaB (ze wr (zq4 p)) p5;unfold zrb zq4 at hsp;unfold zq4 at hlp;have PC:Hid (∀w2,Calls Tryz.prog 161 #[ptV p,.int .i64 (zp m.lo (m.parts.take j))] w2 fun e w'=>e = .returned .nilIface∧za zq2 w2 w'):=zz0 (fun w2=>by have h0:=zhD p w2 p1 p2 p3 p4 p5;rw[p6] at h0;exact h0)
    have q1:=ptc_1 p;have ST:=zz0 hst;clear hx hcell hpj p6
    go_wp2_with(go_at_call 161;refine(PC.out _).mono ?_;rintro e w2 ⟨rfl,k2⟩;have z1:=pt_1 (zh k2 (ze wr (zq4 p)));have K2:=zz0 (((za.refl zq2 wr).alloc (zq4 p)).trans1 k2);clear k2)
    exact⟨⟨j+1,by omega,by first|rfl|go_num,by rw[ST.out];first|rfl|go_num,zh K2.out B.out,K.out.trans1 K2.out⟩,by simp[intOf];omega⟩
   ·obtain rfl:j=m.parts.length:=by omega
    rw[List.take_length,HH.out]
    go_wp2_with fail
    go_ret;exact⟨rfl,K.out⟩
 ·have ATB:=zz0 (ze w (zq1 m (.slice a m.parts.length c)))
  have ATK:Hid (za zq2 w (w.alloc (zq1 m (.slice a m.parts.length c)))):=zz0 ((za.refl _ _).alloc _);have HH:=zz0 h8
  go_loopw [3,60] (fun at_ i wr=>∃j:Nat,j≤m.parts.length∧i = .int .i64 j∧at_ = .int .i64 (zp m.lo (m.parts.take j))∧wr.heap[w.heap.size]? = some (zq1 m (.slice a m.parts.length c))∧za zq2 w wr) (fun _ i _=>m.parts.length-(intOf i).toNat)
  case atStart=>exact⟨0,by omega,rfl,rfl,ATB.out,ATK.out⟩
  case round =>
   obtain⟨j,hj,rfl,rfl,hb,hk⟩:=hrel;have K:=zz0 hk;have B:=zz0 hb;have e2:=mf_2 hb;clear hk hb;by_cases hlt:j<m.parts.length
   ·have hlj:(j:Int)<(m.parts.length:Int):=by omega
    obtain⟨p,hpj⟩:∃p,m.parts[j]? = some p:=⟨_,List.getElem?_eq_getElem hlt⟩;obtain⟨⟨p1,p2,p3,p4,p5⟩,p6⟩:=zay m.parts m.lo j p OK.out.parts hpj;have hst:=za2 m.parts m.lo j p hpj;have hle:=(zaq m.parts m.lo (j+1)).2;rw[HH.out] at hle;have hle2:=Nat.le_trans hle OK.out.hi;clear hle;obtain⟨a1,c1,e1,_,_,hx⟩:=PA.out.keepNon K.out;injection e1 with e1 e3 e4
    subst e1;subst e4;obtain⟨g,off,rfl,hcell⟩:=hx j p hpj;have hld:=load101 wr g (off+j*35) p p5 hcell;have hsp:=zac wr p p5;have hlp:=zaB (ze wr (zq4 p)) p5;unfold zrb zq4 at hsp;unfold zq4 at hlp;have PC:Hid (∀w2,Calls Tryz.prog 161 #[ptV p,.int .i64 (zp m.lo (m.parts.take j))] w2 fun e w'=>e = .returned .nilIface∧za zq2 w2 w'):=zz0 (fun w2=>by have h0:=zhD p w2 p1 p2 p3 p4 p5;rw[p6] at h0;exact h0)
    have q1:=ptc_1 p;have ST:=zz0 hst;clear hx hcell hpj p6
    go_wp2_with(go_at_call 161;refine(PC.out _).mono ?_;rintro e w2 ⟨rfl,k2⟩;have z1:=pt_1 (zh k2 (ze wr (zq4 p)));have K2:=zz0 (((za.refl zq2 wr).alloc (zq4 p)).trans1 k2);clear k2)
    exact⟨⟨j+1,by omega,by first|rfl|go_num,by rw[ST.out];first|rfl|go_num,zh K2.out B.out,K.out.trans1 K2.out⟩,by simp[intOf];omega⟩
   ·obtain rfl:j=m.parts.length:=by omega
    rw[List.take_length,HH.out]
    go_wp2_with fail
    go_ret;exact⟨rfl,K.out⟩
end
def za6:List Pt→List UInt8
 |[]=>[]
 |p::r=>zo p.many++zo p.size++p.sum++za6 r
def mfT (m:Mf):List UInt8:=zo m.num++zo m.lo++zo m.hi++zo m.trim++m.prev++zo m.parts.length++za6 m.parts
def zb2 (m:Mf):List UInt8:=zbb (mfT m)
theorem zfp:∀a b:List Pt,za6 (a++b)=za6 a++za6 b
 |[],b=>rfl
 |p::r,b=>by simp[za6,zfp r b]
theorem zhE (l:List Pt)(j:Nat)(p:Pt)(h:l[j]? = some p):za6 (l.take (j+1))=za6 (l.take j)++(zo p.many++zo p.size++p.sum):=by
 obtain⟨hj,rfl⟩:=List.getElem?_eq_some_iff.1 h;rw[List.take_succ_eq_append_getElem hj,zfp];simp[za6]
theorem zdk:∀(l:List Pt),(∀p ∈ l,p.many<2^63∧p.size<2^63∧p.sum.length=32)→(za6 l).length≤50*l.length
 |[],_=>by simp[za6]
 |p::r,h=>by
  have h1:=zdk r (fun q hq=>h q (by simp[hq]))
  obtain⟨a,b,c⟩:=h p (by simp)
  have h2:=za0 a;have h3:=za0 b;simp only[za6,List.length_append,List.length_cons,c];omega
theorem zcQ (w:World)(t:TypeId)(vs:List Value):Rd (w.alloc (.cells vs.toArray t)) (.slice (some ⟨w.heap.size,0,none⟩) vs.length vs.length) vs :=
 ⟨_,_,rfl,fun _=>⟨w.heap.size,0,rfl,fun j x hx=>by rw[Nat.zero_add,cell_of_row _ _ j _ _ _ (ze _ _)];simpa using hx⟩⟩
theorem zo7 {w:World}{b:Nat}{p:Pt}(h:w.heap[b]? = some (zq4 p))(hn:p.sum.length=32):Bs w (.slice (some ⟨b,3,none⟩) 32 32) p.sum :=
 ⟨_,32,by rw[List.length_map,hn],fun _=>⟨b,3,rfl,zmj h⟩⟩
theorem zpV {w:World}{b:Nat}{m:Mf}{pv:Value}(h:w.heap[b]? = some (zq1 m pv))(hn:m.prev.length=32):Bs w (.slice (some ⟨b,4,none⟩) 32 32) m.prev :=
 ⟨_,32,by rw[List.length_map,hn],fun _=>⟨b,4,rfl,zix h hn⟩⟩
theorem zmw {w:World}{g:Nat}{t:TypeId}{vs:List Value}(h:w.heap[g]? = some (.cells vs.toArray t (0,0))):Rd w (.slice (some ⟨g,0,none⟩) vs.length vs.length) vs :=
 ⟨_,_,rfl,fun _=>⟨g,0,rfl,fun j x hx=>by rw[Nat.zero_add,cell_of_row _ _ j _ _ _ h];simpa using hx⟩⟩
theorem zk7 {w1 w2 W0 w3:World}{b Q:Nat}{a2:Option Addr}{c2:Nat}{o:Obj}{l D:List UInt8}{v3:Value}(hb:w2.heap[b]? = some o)(k12:za zq2 w1 w2)(hwb:b<w1.heap.size)
 (h2:w2.ownsRow w1.heap.size 5 1 (.slice a2 Q c2) Q (l.map bv)) (hD:D.length=32) (k02:za zq2 w2 W0) (ho:w3.ownsRow w1.heap.size 5 1 v3 (Q+(D.map bv).length) (l.map bv++D.map bv)) (hg:W0.grownBy w3 (Value.slice a2 Q c2).ownBlock) :
 ∃a3 c3,v3 = .slice a3 (Q+32) c3∧w3.heap[b]? = some o∧za zq2 w1 w3∧w3.ownsRow w1.heap.size 5 1 (.slice a3 (Q+32) c3) (Q+32) ((l++D).map bv)∧∀g o,W0.heap[g]? = some o→w2.heap.size≤g→w3.heap[g]? = some o:=by
 rw[List.length_map,hD] at ho;obtain⟨a3,c3,rfl,_,_⟩:=zb ho;have hk:za (fun k=>(Value.slice a2 Q c2).ownBlock=some k) W0 w3:=za.grown (za.refl _ _) hg (fun k e=>.inl e)
 refine⟨a3,c3,rfl,hk.at (zh k02 hb) (fun e=>by have:=(h2.lt _ e).1;omega),(k12.trans1 k02).trans hk (fun _ _ e=>e) (fun g hg e=>by have:=(h2.lt g e).1;omega),by rw[List.map_append];exact ho,fun g o h hge=>hk.at h (fun e=>by have:=(h2.lt g e).2;omega)⟩
section
attribute [local go_sem ↓] zbB zU zbC zbD zV zbE
theorem ziy (m:Mf)(pv:Value)(w:World)(h:okMf m)(hp:zC w pv m.parts)(h64:m.parts.length≤64) :
 Calls Tryz.prog 243 #[zq7 m pv] w fun e w'=>∃v',e = .returned (.tuple #[v',.nilIface])∧za zq2 w w'∧w'.ownsRow w.heap.size 5 1 v' (zb2 m).length ((zb2 m).map bv):=by
 have OK:=zz0 h;have PA:=zz0 hp;have CK:=zz0 (fun w1 (k:za zq2 w w1)=>zcr m pv w1 h (hp.keepNon k))
 obtain⟨h1,h2,h3,h4,h5,h6,h7,h8⟩:=h;have h9:=(zaq m.parts m.lo 0);simp only[List.take_zero,zp,h8] at h9;have hlo:=h9.2;obtain⟨a,c,rfl,hc,ha,hx⟩:=hp;have hlm:=zO (ze w (zq1 m (.slice a m.parts.length c))) h4;unfold zq7 at CK hlm ⊢;unfold zq1 at hlm;obtain⟨j0,hj0,jz0,jz1,jz2⟩:=info_parts infoU8;have J0:=zz0 (And.intro hj0 (And.intro jz0 (And.intro jz1 jz2)));have hw1:=zX (n:=m.num) (by omega)
 have hw2:=zX (n:=m.lo) (by omega)
 have hw3:=zX (n:=m.hi) (by omega)
 have hw4:=zX (n:=m.trim) (by omega)
 have hw5:=zX (n:=m.parts.length) (by omega)
 have OKP:Hid (∀p ∈ m.parts,p.many<2^63∧p.size<2^63∧p.sum.length=32):=zz0 (fun p hp=>by obtain⟨j,hj⟩:=List.getElem?_of_mem hp;obtain⟨⟨_,q1,_,q2,q3⟩,_⟩:=zay m.parts m.lo j p h7 hj;exact⟨by omega,by omega,q3⟩)
 clear hx h5 h6 h7 h8 h9 hj0 jz0 jz1 jz2
 go_enter Tryz.func243,Tryz.ntmps243
 go_wp2_with(first
  |(go_at_call 104;refine(CK.out _ ((za.refl _ _).alloc _)).mono ?_;rintro e w1 ⟨rfl,k1⟩;have b1:=zh k1 (ze w (zq1 m (.slice a m.parts.length c)));have c0:=mf_0 b1;have c1:=mf_1 b1;have c2:=mf_2 b1;have c3:=mf_3 b1;have B1:=zz0 b1;have K1:=zz0 (((za.refl zq2 w).alloc (zq1 m (.slice a m.parts.length c))).trans1 k1);clear k1 b1)
  |(go_at_call 179;refine(zS (.slice none 0 0) [] (some ⟨w1.heap.size,0,none⟩) 4 [m.num,m.lo,m.hi,m.trim] _ (Rd.nil _) (by simp) (by exact zcQ w1 184 [nv m.num,nv m.lo,nv m.hi,nv m.trim]) (by intro n hn;simp at hn;omega) (by simp)).mono ?_;rintro e w2 ⟨v2,rfl,k2,o2⟩;obtain⟨a2,c2',rfl,_,_⟩:=zb o2;have k2':=((za.refl zq2 w1).alloc _).trans1 k2;have b2:=zh k2' B1.out;have d36:=mf_36 b2 h4;have B2:=zz0 b2;have K2:=zz0 k2';have O2:Hid (w2.ownsRow w1.heap.size 5 1 (.slice a2 (zm [m.num,m.lo,m.hi,m.trim]).length c2') (zm [m.num,m.lo,m.hi,m.trim]).length ((zm [m.num,m.lo,m.hi,m.trim]).map bv)):=zz0 (zg (by simpa using o2) (by simp));clear k2 k2' o2 b2))
 have hwb:w.heap.size<w1.heap.size:=lt_of_block B1.out;have hq:(zm [m.num,m.lo,m.hi,m.trim]).length≤36:=zaf [m.num,m.lo,m.hi,m.trim] (by intro n hn;simp at hn;omega)
 obtain⟨Q,hQ⟩:∃Q,Q=(zm [m.num,m.lo,m.hi,m.trim]).length:=⟨_,rfl⟩;rw[←hQ] at hq O2 ⊢;have PV:=zz0 (fun W (k:za zq2 w2 W)=>zpV (zh k B2.out) h4)
 have HQ:=zz0 hQ;have PP:Hid (∀W g v,Bs W v (zm [m.num,m.lo,m.hi,m.trim]++m.prev)→W.heap[g]? = some (.cells #[.int .u64 m.parts.length] 184 (0,0))→Calls Tryz.prog 179 #[v,.slice (some ⟨g,0,none⟩) 1 1] W fun e w'=>∃a' c',e = .returned (.slice a' (Q+32+(zm [m.parts.length]).length) c')∧za zq2 W w'∧w'.ownsRow W.heap.size 5 1 (.slice a' (Q+32+(zm [m.parts.length]).length) c') (Q+32+(zm [m.parts.length]).length) ((zm [m.num,m.lo,m.hi,m.trim]++m.prev++zm [m.parts.length]).map bv)):=zz0 (fun W g v hb hg=>(zS v _ (some ⟨g,0,none⟩) 1 [m.parts.length] _ hb (by rw[List.length_append,←HQ.out,h4];omega) (zmw (vs:=[nv m.parts.length]) hg) (by intro n hn;simp at hn;omega) (by simp)).mono (by
  rintro e w' ⟨v',rfl,k,o⟩;rw[List.length_append,List.length_append,←HQ.out,h4] at o;obtain⟨a',c',rfl,_,_⟩:=zb o;exact⟨a',c',rfl,k,o⟩))
 clear hQ
 go_region_law(first
  |(refine zaj (by rfl) (.tmp 27) (.tmp 29) 43 (by rfl) w1.heap.size 5 j0 (.int .u8 0) 1 Tryz.underlying43 J0.out.1 J0.out.2.1 J0.out.2.2.1 J0.out.2.2.2 rfl (.slice a2 Q c2') Q ((zm [m.num,m.lo,m.hi,m.trim]).map bv) (by first|rfl|simp[Act.eval,Act.put]) (by exact zc O2.out (by first|exact(za.refl zq2 w2).drew|exact((za.refl zq2 w2).alloc _).drew) (fun _ _ e=>e)) (.slice (some ⟨w.heap.size,4,none⟩) 32 32) (by first|rfl|simp[Act.eval,Act.put]) (m.prev.map bv) (by exact PV.out _ (by first|exact(za.refl zq2 w2).drew|exact((za.refl zq2 w2).alloc _).drew)) (zy _) (by rw[List.length_map,h4];unfold maxLen;omega) (by rw[List.length_map,h4];omega) (by have:=K2.out.size;simp;omega) ?_;intro v3 w3 ho hg hpp;obtain⟨a3,c3',rfl,b3,k3,o3,g3⟩:=zk7 (w2:=w2) B2.out K2.out hwb O2.out h4 (by first|exact(za.refl zq2 w2).drew|exact((za.refl zq2 w2).alloc _).drew) ho hg;have e36:=mf_36 b3 h4;have B3:=zz0 b3;have K3:=zz0 k3;have O3:=zz0 o3;have R3:Hid (Bs w3 (.slice a3 (Q+32) c3') (zm [m.num,m.lo,m.hi,m.trim]++m.prev)):=zz0 (Rd.ofOwns o3);have G3:=zz0 g3;have R3a:Hid (Bs (w3.alloc (.cells #[.int .u64 m.parts.length] 184)) (.slice a3 (Q+32) c3') (zm [m.num,m.lo,m.hi,m.trim]++m.prev)):=zz0 (Rd.keepNon R3.out ((za.refl zq2 w3).alloc _));first|have N2:=zz0 (g3 w2.heap.size (.cells #[.int .u64 m.parts.length] 184 (0,0)) (by exact ze w2 (.cells #[.int .u64 m.parts.length] 184 (0,0))) (Nat.le_refl _))|skip;have N3:=zz0 (ze w3 (.cells #[.int .u64 m.parts.length] 184 (0,0)));clear ho hg hpp b3 k3 o3 g3)
  |(go_simp;go_at_call 179;first
    |(with_reducible refine(PP.out (w3.alloc (.cells #[.int .u64 m.parts.length] 184)) w3.heap.size (.slice a3 (Q+32) c3') R3a.out N3.out).mono ?_;rintro e w4 ⟨a4,c4,rfl,k4',o4⟩;have k4:=((za.refl zq2 w3).alloc (.cells #[.int .u64 m.parts.length] 184)).trans1 k4';have b4:=zh k4 B3.out;have f36:=mf_36 b4 h4;have B4:=zz0 b4;have K4:=zz0 k4;have O4:Hid (w4.ownsRow w3.heap.size 5 1 _ _ _):=zz0 (zg o4 (by simp));clear k4 k4' o4 b4)
    |(with_reducible refine(PP.out w3 w2.heap.size (.slice a3 (Q+32) c3') R3.out N2.out).mono ?_;rintro e w4 ⟨a4,c4,rfl,k4,o4⟩;have b4:=zh k4 B3.out;have f36:=mf_36 b4 h4;have B4:=zz0 b4;have K4:=zz0 k4;have O4:=zz0 o4;clear k4 o4 b4)))
 all_goals
  obtain⟨T0,hT0⟩:∃T0,T0=zm [m.num,m.lo,m.hi,m.trim]++m.prev++zm [m.parts.length]:=⟨_,rfl⟩;have hn4:Q+32+(zm [m.parts.length]).length=T0.length:=by rw[hT0,List.length_append,List.length_append,←HQ.out,h4]
  rw[hn4];have hn40:T0.length≤80:=by have:=zaf [m.parts.length] (by intro n hn;simp at hn;omega);simp only[List.length_singleton] at this;omega
  have o4:=O4.out;rw[hn4,←hT0] at o4;have o4':w4.ownsRow w.heap.size 5 1 (.slice a4 T0.length c4) T0.length (T0.map bv):=zg o4 (by have:=K1.out.size;have:=K2.out.size;have:=K3.out.size;omega)
  have O5:=zz0 o4';have K5:Hid (za zq2 w w4):=zz0 ((K1.out.trans1 K3.out).trans1 K4.out);have HT:=zz0 hT0;clear o4 o4' hn4 hT0
  go_wp2_with fail
 all_goals
  go_loopw [5,40] (fun bs i wr=>∃j:Nat,j≤m.parts.length∧i = .int .i64 j∧wr.heap[w.heap.size]? = some (zq1 m (.slice a m.parts.length c))∧za zq2 w wr∧wr.ownsRow w.heap.size 5 1 bs (T0++za6 (m.parts.take j)).length ((T0++za6 (m.parts.take j)).map bv)) (fun _ i _=>m.parts.length-(intOf i).toNat)
  case atStart=>exact⟨0,by omega,rfl,B4.out,K5.out,by simpa [za6] using O5.out⟩
  case round =>
   obtain⟨j,hj,rfl,hb,hk,ho⟩:=hrel;obtain⟨ba,bc,rfl,_,_⟩:=zb ho;have K:=zz0 hk;have B:=zz0 hb;have O:=zz0 ho;have hjl:(za6 (m.parts.take j)).length≤50*64:=Nat.le_trans (zdk _ (fun p hp=>OKP.out p (List.mem_of_mem_take hp))) (by have:=List.length_take_le j m.parts;omega)
   by_cases hlt:j<m.parts.length
   ·have hlj:(j:Int)<(m.parts.length:Int):=by omega
    obtain⟨p,hpj⟩:∃p,m.parts[j]? = some p:=⟨_,List.getElem?_eq_getElem hlt⟩;obtain⟨⟨p1,p2,p3,p4,p5⟩,_⟩:=zay m.parts m.lo j p OK.out.parts hpj;obtain⟨a1,c1,e1,_,_,hx⟩:=PA.out.keepNon hk;injection e1 with e1 e3 e4
    subst e1;subst e4;obtain⟨g,off,rfl,hcell⟩:=hx j p hpj;have hld:=load101 wr g (off+j*35) p p5 hcell;have hsp:=zac wr p p5;have q1:=ptc_1 p;have q2:=ptc_2 p;unfold zrb zq4 at hsp;have hw6:=zX (n:=p.many) (by omega)
    have hw7:=zX (n:=p.size) (by omega)
    have TK:=zz0 (zhE m.parts j p hpj);clear hx hcell hpj hk hb ho;obtain⟨L,hL⟩:∃L,L=(T0++za6 (m.parts.take j)).length:=⟨_,rfl⟩;have hLb:L≤3300:=by rw[hL,List.length_append];omega
    obtain⟨M,hM⟩:∃M,M=(T0++za6 (m.parts.take j)++zm [p.many,p.size]).length:=⟨_,rfl⟩;have hMb:M≤3400:=by have:=zaf [p.many,p.size] (by intro n hn;simp at hn;omega);rw[hM,List.length_append,←hL];simp at this;omega
    have PP2:Hid (Calls Tryz.prog 179 #[.slice ba L bc,.slice (some ⟨wr.heap.size+1,0,none⟩) 2 2] ((wr.alloc (.cells (zq8 p).toArray 125)).alloc (.cells #[.int .u64 p.many,.int .u64 p.size] 184)).drew fun e w'=>∃a' c',e = .returned (.slice a' M c')∧za zq2 wr w'∧w'.heap[wr.heap.size]? = some (zq4 p)∧w'.ownsRow wr.heap.size 5 1 (.slice a' M c') M ((T0++za6 (m.parts.take j)++zm [p.many,p.size]).map bv)∧∀g,(Value.slice a' M c').ownBlock=some g→g≠wr.heap.size):=zz0 (by
     have kk:za zq2 wr ((wr.alloc (.cells (zq8 p).toArray 125)).alloc (.cells #[.int .u64 p.many,.int .u64 p.size] 184)).drew:=(((za.refl zq2 wr).alloc _).alloc _).drew;have o:=O.out;rw[←hL] at o;refine(zS _ _ (some ⟨wr.heap.size+1,0,none⟩) 2 [p.many,p.size] _ ((Rd.ofOwns o).keepNon kk) (by rw[←hL];omega) (zmw (vs:=[nv p.many,nv p.size]) (by have:=ze (wr.alloc (.cells (zq8 p).toArray 125)) (.cells #[.int .u64 p.many,.int .u64 p.size] 184 (0,0));rwa [World.size_alloc] at this)) (by intro n hn;simp at hn;omega) (by simp)).mono ?_
     rintro e w' ⟨v',rfl,k,o⟩;rw[←hM] at o;obtain⟨a',c',rfl,_,_⟩:=zb o;refine⟨a',c',rfl,kk.trans1 k,zh k (zi (ze wr (zq4 p)) _),zg o (by simp;omega),fun g e=>by have:=(o.lt g e).1;simp at this;omega⟩)
    rw[←hL];have HM:=zz0 hM;have HL:=zz0 hL;clear hM hL
    go_wp2_with fail
    go_region_law(first
     |(refine zaj (by rfl) (.tmp 52) (.tmp 54) 43 (by rfl) wr.heap.size 5 j0 (.int .u8 0) 1 Tryz.underlying43 J0.out.1 J0.out.2.1 J0.out.2.2.1 J0.out.2.2.2 rfl (.slice a5 M c5) M ((T0++za6 (m.parts.take j)++zm [p.many,p.size]).map bv) (by first|rfl|simp[Act.eval,Act.put]) (by exact O5.out) (.slice (some ⟨wr.heap.size,3,none⟩) 32 32) (by first|rfl|simp[Act.eval,Act.put]) (p.sum.map bv) (by exact S5.out) (zy _) (by rw[List.length_map,p5];unfold maxLen;omega) (by rw[List.length_map,p5];omega) (by have:=K5'.out.size;omega) ?_;intro v6 w6 ho hg hpp;have HO:=zz0 ho;have HG:=zz0 hg;clear ho hg hpp)
     |(go_simp;go_at_call 179;with_reducible refine PP2.out.mono ?_;rintro e w5 ⟨a5,c5,rfl,k5,b5,o5,n5⟩;have S5:=zz0 (zo7 b5 p5);have K5':=zz0 k5;have O5:=zz0 o5;have N5:=zz0 n5;clear k5 b5 o5 n5))
    all_goals
     go_wp2_with fail
     have kg:za (fun k=>(Value.slice a5 M c5).ownBlock=some k) w5 w6:=za.grown (za.refl _ _) HG.out (fun k e=>.inl e)
     have k6:za zq2 wr w6:=K5'.out.trans kg (fun _ _ e=>e) (fun g hg e=>by have:=(O5.out.lt g e).1;omega)
     have ho:=HO.out;have e0:T0++za6 (m.parts.take j)++zm [p.many,p.size]++p.sum=T0++za6 (m.parts.take (j+1)):=by rw[TK.out];simp[zm]
     have e1:M+(p.sum.map bv).length=(T0++za6 (m.parts.take (j+1))).length:=by rw[←e0,List.length_append,←HM.out,List.length_map]
     rw[←List.map_append,e1,e0] at ho;exact⟨⟨j+1,by omega,by first|rfl|go_num,zh k6 B.out,K.out.trans1 k6,zg ho K.out.size⟩,by simp[intOf];omega⟩
   ·obtain rfl:j=m.parts.length:=by omega
    have o:=O.out;rw[List.take_length] at o ⊢;have e0:T0++za6 m.parts=mfT m:=by rw[HT.out];simp[mfT,zm]
    rw[e0] at o ⊢;have hml:(mfT m).length≤65536:=by rw[←e0,List.length_append];rw[List.take_length] at hjl;omega
    have O6:=zz0 o;clear o hk hb ho
    go_wp2_with(go_at_call 180;refine(zca _ (mfT m) _ (Rd.ofOwns O6.out) hml).mono ?_;rintro e w7 ⟨v7,rfl,k7,o7⟩;have K7:=zz0 k7;have O7:=zz0 o7;clear k7 o7)
    go_ret2;exact⟨_,rfl,K.out.trans1 K7.out,zg O7.out K.out.size⟩
end
theorem list32:∀(l:List UInt8),l.length=32→∃d0 d1 d2 d3 d4 d5 d6 d7 d8 d9 d10 d11 d12 d13 d14 d15 d16 d17 d18 d19 d20 d21 d22 d23 d24 d25 d26 d27 d28 d29 d30 d31,l = [d0,d1,d2,d3,d4,d5,d6,d7,d8,d9,d10,d11,d12,d13,d14,d15,d16,d17,d18,d19,d20,d21,d22,d23,d24,d25,d26,d27,d28,d29,d30,d31]
 |l,h=>⟨l[0],l[1],l[2],l[3],l[4],l[5],l[6],l[7],l[8],l[9],l[10],l[11],l[12],l[13],l[14],l[15],l[16],l[17],l[18],l[19],l[20],l[21],l[22],l[23],l[24],l[25],l[26],l[27],l[28],l[29],l[30],l[31],by
  apply List.ext_getElem
  ·exact h
  ·intro i h1 h2
   simp only[List.length_cons,List.length_nil] at h2;have h3:i<32:=by omega
   revert h1 h2
   match i,h3 with
   |0,_=>intros;rfl
   |1,_=>intros;rfl
   |2,_=>intros;rfl
   |3,_=>intros;rfl
   |4,_=>intros;rfl
   |5,_=>intros;rfl
   |6,_=>intros;rfl
   |7,_=>intros;rfl
   |8,_=>intros;rfl
   |9,_=>intros;rfl
   |10,_=>intros;rfl
   |11,_=>intros;rfl
   |12,_=>intros;rfl
   |13,_=>intros;rfl
   |14,_=>intros;rfl
   |15,_=>intros;rfl
   |16,_=>intros;rfl
   |17,_=>intros;rfl
   |18,_=>intros;rfl
   |19,_=>intros;rfl
   |20,_=>intros;rfl
   |21,_=>intros;rfl
   |22,_=>intros;rfl
   |23,_=>intros;rfl
   |24,_=>intros;rfl
   |25,_=>intros;rfl
   |26,_=>intros;rfl
   |27,_=>intros;rfl
   |28,_=>intros;rfl
   |29,_=>intros;rfl
   |30,_=>intros;rfl
   |31,_=>intros;rfl
   |i+32,h3=>exact absurd h3 (by omega)
⟩
theorem zi6 (f m s:Int)(D:List UInt8)(h:D.length=32)(w:World):(Instr.build 125 #[(0,.int .i64 f),(1,.int .i64 m),(2,.int .i64 s),(3,zbY D)]).run Tryz.prog w = .ok (.agg (.int .i64 f :: .int .i64 m :: .int .i64 s::D.map bv).toArray) w:=by
 obtain⟨d0,d1,d2,d3,d4,d5,d6,d7,d8,d9,d10,d11,d12,d13,d14,d15,d16,d17,d18,d19,d20,d21,d22,d23,d24,d25,d26,d27,d28,d29,d30,d31,rfl⟩:=list32 D h;exact run_build w 125 _ _ (by kernel_rfl)
def holdB (t:TypeId)(parts:Array (Nat×Value)):Sem Value:=Instr.build t parts
theorem zab (parts:Array (Nat×Value)):Instr.build 125 parts=holdB 125 parts:=rfl
theorem zbK (parts:Array (Nat×Value)):Instr.build 54 parts=holdB 54 parts:=rfl
def zaI (f:Nat)(cl:List Cl):Pt:=⟨f,cl.length,(zaC f cl).length,digB (shaS (zaC f cl))⟩
theorem znm (f:Nat)(cl:List Cl)(w:World):(holdB 125 #[(0,.int .i64 f),(1,.int .i64 cl.length),(2,.int .i64 (zaC f cl).length),(3,zbY (digB (shaS (zaC f cl))))]).run Tryz.prog w = .ok (ptV (zaI f cl)) w :=
 zi6 _ _ _ _ (zJ _) w
section
attribute [local go_sem ↓] zbB zU zbC zbD zV zbE zab zbK
theorem zo4 (f:Nat)(v:Value)(cl:List Cl)(w:World)(h:CsAt w v cl)(hne:cl≠[])(hl:cl.length≤64)(hok:∀x ∈ cl,zcl x)(hf:f+cl.length≤1048576)(hb:(zo f++runB cl).length≤65536)(hs:(zaC f cl).length≤131072)(hK:Kon w)(hF:Frs w) :
 Calls Tryz.prog 239 #[.agg #[.int .i64 f,v]] w fun e w'=>∃v',e = .returned (.tuple #[ptV (zaI f cl),v',.nilIface])∧za zq2 w w'∧w'.ownsRow w.heap.size 5 1 v' (zaC f cl).length ((zaC f cl).map bv):=by
 have PU:=zz0 (fun w1 (k:za zq2 w w1)=>zos f v cl w1 (h.keepNon k) hl hok hf hb)
 have HKF:=zz0 (And.intro hK hF);have hbu:=znm f cl;have hn0:((cl.length:Int)==0)=false:=by
  have:=List.length_pos_iff.2 hne;simp;exact hne
 obtain⟨a,c,rfl,hc,ha,hx⟩:=h;clear hx hne hK hF
 go_enter Tryz.func239,Tryz.ntmps239
 go_wp2_with(first
  |(go_at_call 286;refine(PU.out _ (((za.refl _ _).alloc _).alloc _)).mono ?_;rintro e w1 ⟨v1,rfl,k1,o1⟩;obtain⟨a1,c1,rfl,_,_⟩:=zb o1;have b1:=zh k1 (zi (ze w (SgB f (.slice a cl.length c))) _);have z1:w1.heap[w.heap.size+1]? = some (.cells zrb 125 (0,0)):=zh k1 (by exact zaa _ _ _);have c0:=sg_0 b1;have c1':=sg_1 b1;have B1:=zz0 b1;have Z1:=zz0 z1;have K1:Hid (za zq2 w w1):=zz0 ((((za.refl zq2 w).alloc _).alloc _).trans1 k1);have O1:Hid (w1.ownsRow w.heap.size 5 1 (.slice a1 (zaC f cl).length c1) (zaC f cl).length ((zaC f cl).map bv)):=zz0 (zg o1 (by simp;omega));have N1:Hid (∀g,(Value.slice a1 (zaC f cl).length c1).ownBlock=some g→g≠w.heap.size+1):=zz0 (fun g e=>by have:=(o1.lt g e).1;simp at this;omega);clear k1 o1 b1 z1))
 go_region_law(go_simp;go_at_call 283;(refine(ziR (zaC f cl) a1 c1 w1.drew (by exact Rd.keepNon (Rd.ofOwns O1.out) ((za.refl zq2 w1).drew)) (HKF.out.1.keep (K1.out.trans1 ((za.refl zq2 w1).drew))) (HKF.out.2.keep (K1.out.trans1 ((za.refl zq2 w1).drew))) hs).mono ?_;rintro e w2 ⟨rfl,k2⟩;have k2':za zq2 w1 w2:=((za.refl zq2 w1).drew).trans1 k2;have b2:=zh k2' B1.out;have z2:=zh k2' Z1.out;have d0:=sg_0 b2;have d1:=sg_1 b2;have hst:=zbR w2 (w.heap.size+1) (zaI f cl) zrb (zJ _) rfl z2;have hld:=zaB (p:=zaI f cl) (setRow_heap w2 (w.heap.size+1) _ (zq8 (zaI f cl)).toArray _ _ z2) (zJ _);have B2:=zz0 b2;have K2:=zz0 k2';clear k2 k2' b2 z2))
 all_goals
  go_wp2_with fail
  have hlv:(loadVar 125 ⟨w.heap.size+1,0,none⟩).run Tryz.prog (w2.setRow (w.heap.size+1) (zq8 (zaI f cl)).toArray) = .ok (ptV (zaI f cl)) _:=hld;refine bodyPost_ret (v:=.tuple #[ptV (zaI f cl),.slice a1 (zaC f cl).length c1,.nilIface]) (by simp[results,Tryz.results239,asAddr,hlv,Act.put]) rfl ?_
  have ks:za zq2 w (w2.setRow (w.heap.size+1) (zq8 (zaI f cl)).toArray):=(K1.out.trans1 K2.out).setRow (.inr (by omega)) _
  have k3:za (zq3 (w.heap.size+1)) w2 (w2.setRow (w.heap.size+1) (zq8 (zaI f cl)).toArray):=(za.refl (zq3 (w.heap.size+1)) _).setRow (.inl (zK _)) _;exact⟨_,rfl,ks,zc (zc O1.out K2.out (fun _ _ e=>e)) k3 (fun g e e2=>N1.out g e e2)⟩
end
theorem zpJ (D E:List UInt8)(hD:D.length=32)(hE:E.length=32)(w:World):(binOp BinOp.neq 51 (zbY D) (zbY E)).run Tryz.prog w = .ok (.bool (!(D==E))) w:=by
 have h:=zlx D E hD hE;unfold zbY at h ⊢;simp[go_sem,h]
theorem zpp (D E:List UInt8)(hD:D.length=32)(hE:E.length=32)(w:World):(binOp BinOp.eql 51 (zbY D) (zbY E)).run Tryz.prog w = .ok (.bool (D==E)) w:=by
 have h:=zlx D E hD hE;unfold zbY at h ⊢;simp[go_sem,h]
theorem zhr (o:BinOp)(x y:Operand)(D E:List UInt8)(w:World):(eqGuard o 51 x y (zbY D) (zbY E)).run Tryz.prog w = .ok () w:=by
 unfold zbY;simp[go_sem,eqGuard]
section
attribute [local go_sem ↓] zbB zU zbC zbD zV zbE zab zbK
theorem zhB (f:Nat)(v:Value)(cl:List Cl)(w:World)(h:Bs w v (zaC f cl))(hc:okc v)(hv:∀g,v.ownBlock=some g→g<w.heap.size)(hl:cl.length≤64)(hok:∀x ∈ cl,zcl x)(hf:f+cl.length≤1048576)(hb:(zo f++runB cl).length≤65536)(hs:(zaC f cl).length≤131072)(hK:Kon w)(hF:Frs w) :
 Calls Tryz.prog 256 #[ptV (zaI f cl),v] w fun e w'=>∃v',e = .returned (.tuple #[.agg #[.int .i64 f,v'],.nilIface])∧za zq2 w w'∧∃xs,w'.ownsRow w.heap.size 45 2 v' cl.length xs∧zG w.heap.size zq2 w' xs cl:=by
 have TA:=zz0 (fun w1 (k:za zq2 w w1)=>zmC f v cl w1 (h.keepNon k) hc (fun g e=>k.lt (hv g e)) hl hok hf hb)
 have HKF:=zz0 (And.intro hK hF);have HB:=zz0 h;obtain⟨a,c,rfl,_⟩:=zY h;have heq:=zpJ (digB (shaS (zaC f cl))) (digB (shaS (zaC f cl))) (zJ _) (zJ _);rw[beq_self_eq_true,Bool.not_true] at heq;have hgd:=zhr;have q0:(zq8 (zaI f cl))[0]? = some (.int .i64 f):=rfl;have q1:(zq8 (zaI f cl))[1]? = some (.int .i64 cl.length):=rfl;have q2:(zq8 (zaI f cl))[2]? = some (.int .i64 (zaC f cl).length):=rfl;clear h hc hv hK hF;unfold ptV
 go_enter Tryz.func256,Tryz.ntmps256
 go_wp2_with fail
 have b1:((w.alloc (.cells (zq8 (zaI f cl)).toArray 125)).alloc (.cells #[.int .i64 0,.slice none 0 0] 263)).heap[w.heap.size]? = some (zq4 (zaI f cl)):=zi (ze w (zq4 (zaI f cl))) _;have g1:((w.alloc (.cells (zq8 (zaI f cl)).toArray 125)).alloc (.cells #[.int .i64 0,.slice none 0 0] 263)).heap[w.heap.size+1]? = some (SgB 0 (.slice none 0 0)):=zaa _ _ _;have kA:za zq2 w ((w.alloc (.cells (zq8 (zaI f cl)).toArray 125)).alloc (.cells #[.int .i64 0,.slice none 0 0] 263)):=((za.refl _ _).alloc _).alloc _;have sz:w.heap.size+2≤((w.alloc (.cells (zq8 (zaI f cl)).toArray 125)).alloc (.cells #[.int .i64 0,.slice none 0 0] 263)).heap.size:=by simp
 generalize ((w.alloc (.cells (zq8 (zaI f cl)).toArray 125)).alloc (.cells #[.int .i64 0,.slice none 0 0] 263))=wA at b1 g1 kA sz ⊢;have c0:=pt_0 b1;have c1:=pt_1 b1;have c2:wA.cell? ⟨w.heap.size,2,none⟩=some (.int .i64 (zaC f cl).length):=pt_2 b1;have hlA:(zZ 51 ⟨w.heap.size,3,none⟩).run Tryz.prog wA.drew = .ok (zbY (digB (shaS (zaC f cl)))) wA.drew:=load81 wA.drew w.heap.size 3 _ (zJ _) (zmj (p:=zaI f cl) (w:=wA.drew) b1);have SM:=zz0 (ziR (zaC f cl) a c wA.drew (Rd.keepNon HB.out (kA.trans1 (za.refl zq2 wA).drew)) (HKF.out.1.keep (kA.trans1 (za.refl zq2 wA).drew)) (HKF.out.2.keep (kA.trans1 (za.refl zq2 wA).drew)) hs);have KA:=zz0 kA;have B1:=zz0 b1;have G1:=zz0 g1;have SZ:=zz0 sz;clear kA b1 g1 sz
 go_region_law(go_simp;go_at_call 283;refine SM.out.mono ?_;rintro e w2 ⟨rfl,k2⟩;have k2':za zq2 wA w2:=((za.refl zq2 wA).drew).trans1 k2;have b2:=zh k2' B1.out;have hl2:(zZ 51 ⟨w.heap.size,3,none⟩).run Tryz.prog w2 = .ok (zbY (digB (shaS (zaC f cl)))) w2:=load81 w2 w.heap.size 3 _ (zJ _) (zmj (p:=zaI f cl) b2);have B2:=zz0 b2;have G2:=zz0 (zh k2' G1.out);have K2:=zz0 (KA.out.trans1 k2');have Z2:Hid (w.heap.size+2≤w2.heap.size):=zz0 (Nat.le_trans SZ.out k2'.size);clear k2 k2' b2)
 all_goals go_wp2_with(first
  |(go_at_call 300;refine(TA.out _ K2.out).mono ?_;rintro e w3 ⟨v3,rfl,k3,xs,o3,q3⟩;obtain⟨a3,c3,rfl,_,_⟩:=zb o3;have k4:za zq2 w3 (w3.alloc (.cells #[.int .i64 f,.slice a3 cl.length c3] 263)):=(za.refl _ _).alloc _;have b4:=zh k4 (zh k3 B2.out);have g4:=zh k4 (zh k3 G2.out);have d0:(w3.alloc (.cells #[.int .i64 f,.slice a3 cl.length c3] 263)).cell? ⟨w.heap.size,0,none⟩=some (.int .i64 f):=pt_0 b4;have d1:(w3.alloc (.cells #[.int .i64 f,.slice a3 cl.length c3] 263)).cell? ⟨w.heap.size,1,none⟩=some (.int .i64 cl.length):=pt_1 b4;have e0:=sg_0 g4;have e1:=sg_1 g4;have f0:=sg_f g4 0;have f1:=sg_f g4 1;have x0:=sg_0 (zcj g4 f);have x1:=sg_1 (zc4 (zcj g4 f) (.slice a3 cl.length c3));have Z3:Hid (w.heap.size+2≤w3.heap.size):=zz0 (Nat.le_trans Z2.out k3.size);have K3:=zz0 (K2.out.trans1 k3);have O3:=zz0 o3;have Q3:=zz0 q3;clear k3 k4 o3 q3 b4 g4))
 all_goals
  refine bodyPost_ret (v:=.tuple #[.agg #[.int .i64 f,.slice a3 cl.length c3],.nilIface]) (by simp[results,Tryz.results256,go_sem,x0,x1]) rfl ?_
  have z2:=Z2.out;have z3:=Z3.out;have h2:=K2.out.size;have ka:za zq2 w3 (w3.alloc (.cells #[.int .i64 f,.slice a3 cl.length c3] 263)):=(za.refl _ _).alloc _;have kf:za (zq3 (w.heap.size+1)) (w3.alloc (.cells #[.int .i64 f,.slice a3 cl.length c3] 263)) (((w3.alloc (.cells #[.int .i64 f,.slice a3 cl.length c3] 263)).setCell ⟨w.heap.size+1,0,none⟩ (.int .i64 f)).setCell ⟨w.heap.size+1,1,none⟩ (.slice a3 cl.length c3)):=((za.refl _ _).setOne _ _).setOne _ _;refine⟨_,rfl,(K3.out.trans1 ka).trans kf (fun _ _ e=>e) (fun g hg e=>by have e':g=w.heap.size+1:=e;omega),xs,zg (zc (zc O3.out ka (fun _ _ e=>e)) kf (fun g e e2=>by have:=(O3.out.lt g e).1;have e':g=w.heap.size+1:=e2;omega)) (by omega),((Q3.out.keep (S':=zq2) ka (fun _ _ e=>e) (fun _ _ e=>e)).keep (S':=zq2) kf (fun g g1 e=>by have e':g=w.heap.size+1:=e;omega) (fun _ _ e=>e)).low (by omega) (fun _ e=>e)⟩
end
theorem zdK {α:Type}(k:Nat)(f:α→List Value):∀(l:List α),(∀x ∈ l,(f x).length=k)→∀(j i:Nat)(x:α),l[j]? = some x→i<k→(l.flatMap f)[j*k+i]? = (f x)[i]?
 |[],_,j,i,x,h,_=>by simp at h
 |y::r,hl,0,i,x,h,hi=>by
  simp at h;subst h;rw[List.flatMap_cons,Nat.zero_mul,Nat.zero_add,List.getElem?_append_left (by rw[hl y (by simp)];exact hi)]
 |y::r,hl,j+1,i,x,h,hi=>by
  rw[List.getElem?_cons_succ] at h;rw[List.flatMap_cons,List.getElem?_append_right (by rw[hl y (by simp),Nat.succ_mul];omega),hl y (by simp),show(j+1)*k+i-k=j*k+i by rw[Nat.succ_mul];omega]
  exact zdK k f r (fun x hx=>hl x (by simp[hx])) j i x h hi
theorem zdJ {α:Type}(k:Nat)(f:α→List Value):∀(l:List α),(∀x ∈ l,(f x).length=k)→(l.flatMap f).length=l.length*k
 |[],_=>by simp
 |y::r,hl=>by
  rw[List.flatMap_cons,List.length_append,hl y (by simp),zdJ k f r (fun x hx=>hl x (by simp[hx])),List.length_cons,Nat.succ_mul]
  omega
theorem zfZ {α:Type}(k:Nat)(f:α→List Value)(l:List α)(hl:∀x ∈ l,(f x).length=k)(hk:0<k)(n:Nat)(u:Value)(h:(l.flatMap f)[n]? = some u):∃x,l[n / k]? = some x∧(f x)[n%k]? = some u:=by
 obtain⟨hn,_⟩:=List.getElem?_eq_some_iff.1 h;rw[zdJ k f l hl] at hn;have hj:n / k<l.length:=Nat.div_lt_of_lt_mul (by rw[Nat.mul_comm];exact hn)
 refine⟨l[n / k],List.getElem?_eq_getElem hj,?_⟩;rw[←zdK k f l hl (n / k) (n%k) _ (List.getElem?_eq_getElem hj) (Nat.mod_lt _ hk),Nat.mul_comm,Nat.div_add_mod];exact h
def zaP (l:List Pt):List Value:=l.flatMap zq8
def zbI (l:List Pt):Prop:=∀p ∈ l,p.sum.length=32
theorem zn9 {l:List Pt}(h:zbI l):(zaP l).length=l.length*35:=zdJ 35 zq8 l (fun p hp=>zbc (h p hp))
theorem zoa (l:List Pt):∀u ∈ zaP l,u.oneCell'=true:=by
 intro u hu;obtain⟨p,_,hu⟩:=List.mem_flatMap.1 hu;have:=ziB p;rw[List.all_toArray,List.all_eq_true] at this;exact this u hu
theorem zC.of {B:Nat}{w:World}{v:Value}{l:List Pt}(h:w.ownsRow B 125 35 v l.length (zaP l))(h32:zbI l):zC w v l:=by
 rcases h.2 with ⟨hv,hn⟩|⟨g,cap,cur,rfl,_,hg,hn,_,_,htake⟩
 ·obtain rfl:l = []:=List.eq_nil_of_length_eq_zero (by omega)
  exact⟨none,0,by rw[hv];rfl,by simp,fun ad e=>(by cases e),fun j p hj=>by simp at hj⟩
 ·refine⟨some ⟨g,0,none⟩,cap,rfl,hn,fun ad e=>⟨g,0,by injection e with e;exact e.symm⟩,fun j p hj=>⟨g,0,rfl,fun i u hu=>?_⟩⟩
  have hi:i<35:=by
   obtain⟨h1,_⟩:=List.getElem?_eq_some_iff.1 hu;rw[zbc (h32 p (List.mem_of_getElem? hj))] at h1;exact h1
  have hc:=zdK 35 zq8 l (fun p hp=>zbc (h32 p hp)) j i p hj hi
  rw[hu] at hc;rw[Nat.zero_add,World.cell?,hg];have hc':(zaP l)[j*35+i]? = some u:=hc;rw[←htake,List.getElem?_take] at hc'
  split at hc'
  ·simpa using hc'
  ·cases hc'
theorem zC.news {w:World}{a:Addr}{n c:Nat}{l:List Pt}(h:zC w (.slice (some a) n c) l)(h32:zbI l):n=l.length∧∀(j:Nat) u,(zaP l)[j]? = some u→w.cell? (a.add j)=some u:=by
 obtain⟨a',c',e,_,ha,hx⟩:=h;injection e with e1 e2 e3
 refine⟨e2,fun j u hu=>?_⟩
 obtain⟨g,off,rfl⟩:=ha a e1.symm;obtain⟨p,hp,hu'⟩:=zfZ 35 zq8 l (fun p hp=>zbc (h32 p hp)) (by decide) j u hu
 obtain⟨g',off',e4,hc⟩:=hx _ p hp;rw[←e1] at e4;injection e4 with e4
 injection e4 with e4 e5
 subst e4;subst e5;have:=hc _ u hu';rw[zag,show off+j=off+j / 35*35+j%35 by have:=Nat.div_add_mod j 35;omega]
 exact this
theorem infoPt:(Tryz.prog.info? 125).map (fun i=>(i.zero,i.size,i.bytes))=some (some (.agg zrb),35,56):=by kernel_rfl
theorem zdD (v:Value)(l:List Pt)(w:World)(h:zC w v l)(h32:zbI l)(hlen:l.length≤10000) :
 Calls Tryz.prog 61 #[v] w fun e w'=>∃v',e = .returned v'∧za zq2 w w'∧w'.ownsRow w.heap.size 125 35 v' l.length (zaP l):=by
 have h0:=h;obtain⟨a,c,rfl,hc,ha,hx⟩:=h;have hq:=fun(w:World)=>Lib.run_eql_slice_nil (P:=Tryz.prog) w 52 125 a l.length c 0 0 Tryz.underlying52
 clear hx ha;cases a with
 |none =>
  have hl:l = []:=by
   obtain⟨_,_,e1,_,_,hx⟩:=h0;cases l with
   |nil=>rfl
   |cons p r =>
    injection e1 with e1
    obtain⟨g,off,e2,_⟩:=hx 0 p rfl;rw[←e1] at e2;cases e2
  subst hl;simp only[List.length_nil] at hq ⊢
  go_enter Tryz.func61,Tryz.ntmps61
  go_wp2
  go_ret;exact⟨_,rfl,za.refl _ _,World.ownsRow_nil _ _ _ _⟩
 |some a =>
  obtain⟨i0,hi,hz0,hz1,hz2⟩:=info_parts infoPt;have hnews:=(zC.news (h0.keepNon ((za.refl zq2 w).alloc (.cells #[] 125))) h32).2;have HN:=zz0 hnews;have HL:=zz0 hlen;have H3:=zz0 (zn9 h32);have hown:Hid ((w.alloc (.cells #[] 125)).ownsRow w.heap.size 125 35 (.slice (some ⟨w.heap.size,0,none⟩) 0 0) 0 []):=World.ownsRow_made w #[] 0 (Nat.le_refl _) (by decide) rfl
  clear hnews h0 hlen
  go_enter Tryz.func61,Tryz.ntmps61
  go_wp2_with(at_builtin;refine zv rfl _ _ 52 rfl w.heap.size 125 i0 (.agg zrb) 35 56 Tryz.underlying52 hi hz0 hz1 hz2 rfl (by decide) _ _ _ rfl hown.out a l.length c (zaP l) rfl H3.out HN.out (zoa l) (by have:=HL.out;unfold maxLen;omega) (by have:=HL.out;omega) (by simp) ?_;intro v' w' ho hg hp;have HO:=zz0 ho;have HP:=zz0 hp;clear ho hp)
  go_ret;have hk:za zq2 w w':=by
   have:=((za.refl zq2 w).alloc (.cells #[] 125)).trans ((za.refl (zq3 w.heap.size) _).grown hg (row:=some w.heap.size) (fun k e=>.inl (by injection e with e;exact e.symm))) (U:=zq2) (fun _ _ h=>h) (fun i hi h=>by unfold zq3 at h;omega)
   exact this
  have ho:=HO.out;rw[List.nil_append,Nat.zero_add] at ho;exact⟨v',rfl,hk,ho⟩
theorem zjt {w:World}{b:Nat}{m:Mf}{pv:Value}(h:w.heap[b]? = some (zq1 m pv))(hl:m.prev.length=32)(v:Value):(w.setCell ⟨b,36,none⟩ v).heap[b]? = some (zq1 m v):=by
 have h2:=zj h 36 v;have e:((zq6 m pv).toArray.setIfInBounds 36 v)=(zq6 m v).toArray:=by
  rw[List.setIfInBounds_toArray]
  congr 1
  simp only[zq6,List.set_cons_succ];rw[List.set_append_right _ _ (by rw[List.length_map,hl];exact Nat.le_refl _),List.length_map,hl]
  rfl
 rw[e] at h2;exact h2
section
attribute [local go_sem ↓] zbB zU zbC zbD zV zbE zab zbK
theorem zgM (m:Mf)(pv:Value)(w:World)(h:zC w pv m.parts)(hp:m.prev.length=32)(h32:zbI m.parts)(hlen:m.parts.length≤10000) :
 Calls Tryz.prog 26 #[zq7 m pv] w fun e w'=>∃v',e = .returned (zq7 m v')∧za zq2 w w'∧w'.ownsRow w.heap.size 125 35 v' m.parts.length (zaP m.parts):=by
 have CL:=zz0 (fun w1 (k:za zq2 w w1)=>zdD pv m.parts w1 (h.keepNon k) h32 hlen)
 have q36:=zhA m pv hp;obtain⟨a,c,rfl,hc,ha,hx⟩:=h;clear hx ha;unfold zq7
 go_enter Tryz.func26,Tryz.ntmps26
 go_wp2_with(first
  |(go_at_call 61;refine(CL.out _ (((za.refl _ _).alloc _).alloc _)).mono ?_;rintro e w1 ⟨v1,rfl,k1,o1⟩;obtain⟨a1,c1,rfl,_,_⟩:=zb o1;have b1:=zh k1 (zi (ze w (zq1 m (.slice a m.parts.length c))) _);have z1:w1.heap[w.heap.size+1]? = some (.cells zra 54 (0,0)):=zh k1 (by exact zaa _ _ _);have c36:=mf_36 b1 hp;have f36:=mf_f b1 36;have b2:=zjt b1 hp (.slice a1 m.parts.length c1);have hld:=zO b2 hp;have z2:(w1.setCell ⟨w.heap.size,36,none⟩ (.slice a1 m.parts.length c1)).heap[w.heap.size+1]? = some (.cells zra 54 (0,0)):=((za.refl (zq3 w.heap.size) w1).setOne 36 (.slice a1 m.parts.length c1)).at z1 (by unfold zq3;omega);have hst:=zax _ _ m a1 m.parts.length c1 zra hp rfl z2;unfold zq7 at hld hst;have hlr:=zO (m:=m) (pv:=.slice a1 m.parts.length c1) (setRow_heap _ (w.heap.size+1) _ (zq6 m (.slice a1 m.parts.length c1)).toArray _ _ z2) hp;have HLR:=zz0 hlr;have K1:Hid (za zq2 w w1):=zz0 ((((za.refl zq2 w).alloc _).alloc _).trans1 k1);have Z1:Hid (w.heap.size+2≤w1.heap.size):=zz0 (by have:=k1.size;simpa using this);have O1:Hid (w1.ownsRow (w.heap.size+2) 125 35 (.slice a1 m.parts.length c1) m.parts.length (zaP m.parts)):=zz0 (zg o1 (by simp));clear k1 o1 b1 z1 b2 z2 hlr))
 have hlv:=HLR.out;unfold zZ at hlv;refine bodyPost_ret (v:=zq7 m (.slice a1 m.parts.length c1)) (by simp[results,Tryz.results26,asAddr,hlv]) rfl ?_
 have k2:za (fun g=>g=w.heap.size∨g=w.heap.size+1) w1 ((w1.setCell ⟨w.heap.size,36,none⟩ (.slice a1 m.parts.length c1)).setRow (w.heap.size+1) (zq6 m (.slice a1 m.parts.length c1)).toArray):=(((za.refl (zq3 w.heap.size) w1).setOne 36 _).mono (fun _ _ e=>.inl e)).setRow (.inl (.inr rfl)) _
 have hz:=Z1.out;exact⟨_,rfl,K1.out.trans k2 (fun _ _ e=>e) (fun g hg e=>by omega),zg (zc O1.out k2 (fun g e e2=>by have:=(O1.out.lt g e).1;omega)) (by omega)⟩
end
structure Cu where
 lo:Nat
 next:Nat
 hi:Nat
 trim:Nat
 parts:List Pt
structure zdQ (c:Cu):Prop where
 parts:okPts c.lo c.parts
 stop:zp c.lo c.parts=c.next
 le:c.next≤c.hi
 hi:c.hi≤1048576
 trim:c.trim≤1048576
 many:c.parts.length≤64
def cuMf (c:Cu):Mf:=⟨1,c.lo,c.next,c.trim,List.replicate 32 0,c.parts⟩
theorem zdQ.mf {c:Cu}(h:zdQ c):okMf (cuMf c) where
 num:=by show 1≤999999;decide
 hi:=by have:=h.le;have:=h.hi;show c.next≤_;omega
 trim:=h.trim
 prev:=List.length_replicate ..
 zero:=fun e=>absurd e (by show(1:Nat)≠0;decide)
 many:=Nat.le_trans h.many (by decide)
 parts:=h.parts
 stop:=h.stop
theorem zdQ.lo {c:Cu}(h:zdQ c):c.lo≤c.next:=by
 have:=(zaq c.parts c.lo 0);simp only[List.take_zero,zp,h.stop] at this;exact this.2
def cuV (c:Cu)(pv:Value):Value:=.agg #[.int .i64 c.lo,.int .i64 c.next,.int .i64 c.hi,.int .i64 c.trim,pv]
def zq0 (c:Cu)(pv:Value):Obj:=.cells #[.int .i64 c.lo,.int .i64 c.next,.int .i64 c.hi,.int .i64 c.trim,pv] 127 (0,0)
section
variable {w : World} {b : Nat} {c : Cu} {pv : Value}
theorem cu_0 (h:w.heap[b]? = some (zq0 c pv)):w.cell? ⟨b,0,none⟩=some (.int .i64 c.lo):=by simp[World.cell?,h,zq0]
theorem cu_1 (h:w.heap[b]? = some (zq0 c pv)):w.cell? ⟨b,1,none⟩=some (.int .i64 c.next):=by simp[World.cell?,h,zq0]
theorem cu_2 (h:w.heap[b]? = some (zq0 c pv)):w.cell? ⟨b,2,none⟩=some (.int .i64 c.hi):=by simp[World.cell?,h,zq0]
theorem cu_3 (h:w.heap[b]? = some (zq0 c pv)):w.cell? ⟨b,3,none⟩=some (.int .i64 c.trim):=by simp[World.cell?,h,zq0]
theorem cu_4 (h:w.heap[b]? = some (zq0 c pv)):w.cell? ⟨b,4,none⟩=some pv:=by simp[World.cell?,h,zq0]
theorem zb5 (h:w.heap[b]? = some (zq0 c pv))(i:Nat):w.frozen? ⟨b,i,none⟩=false:=by simp[World.frozen?,h,zq0]
end
theorem znj (c:Cu)(a:Option Addr)(n k:Nat)(w:World):(holdB 54 #[(0,.int .i64 1),(1,.int .i64 c.lo),(2,.int .i64 c.next),(3,.int .i64 c.trim),(5,.slice a n k)]).run Tryz.prog w = .ok (zq7 (cuMf c) (.slice a n k)) w :=
 run_build w 54 _ _ (by kernel_rfl)
section
attribute [local go_sem ↓] zbB zU zbC zbD zV zbE zab zbK
theorem zdb (c:Cu)(pv:Value)(w:World)(h:zdQ c)(hp:zC w pv c.parts) :
 Calls Tryz.prog 178 #[cuV c pv] w fun e w'=>e = .returned .nilIface∧za zq2 w w':=by
 have CK:=zz0 (fun w1 (k:za zq2 w w1)=>zcr (cuMf c) pv w1 h.mf (hp.keepNon k))
 have h1:=h.le;have h2:=h.hi;obtain⟨a,k,rfl,_,_,_⟩:=hp;have hbu:=znj c a c.parts.length k;have hst:=zaZ (w.alloc (zq0 c (.slice a c.parts.length k))) (cuMf c) a c.parts.length k (List.length_replicate ..);have hld:=zO (ze (w.alloc (zq0 c (.slice a c.parts.length k))) (zq1 (cuMf c) (.slice a c.parts.length k))) (List.length_replicate ..);rw[World.size_alloc] at hst hld;unfold zra zq1 zq0 at hst;unfold zq1 zq0 at hld;clear h;unfold cuV
 go_enter Tryz.func178,Tryz.ntmps178
 go_wp2_with(go_at_call 104;refine(CK.out _ (((za.refl zq2 w).alloc _).alloc _)).mono ?_;rintro e w1 ⟨rfl,k1⟩;have b1:=zh k1 (zi (ze w (zq0 c (.slice a c.parts.length k))) _);have d1:=cu_1 b1;have d2:=cu_2 b1;have K1:=zz0 ((((za.refl zq2 w).alloc _).alloc _).trans1 k1);clear k1 b1)
 go_ret;exact⟨rfl,K1.out⟩
end
def cuT (c:Cu):List UInt8:=zm [c.lo,c.next,c.hi,c.trim,c.parts.length]++za6 c.parts
def zco (c:Cu):List UInt8:=zbb (cuT c)
section
attribute [local go_sem ↓] zbB zU zbC zbD zV zbE zab zbK
theorem zns (c:Cu)(pv:Value)(w:World)(h:zdQ c)(hp:zC w pv c.parts) :
 Calls Tryz.prog 116 #[cuV c pv] w fun e w'=>∃v',e = .returned (.tuple #[v',.nilIface])∧za zq2 w w'∧w'.ownsRow w.heap.size 5 1 v' (zco c).length ((zco c).map bv):=by
 have OK:=zz0 h;have PA:=zz0 hp;have CK:=zz0 (fun w1 (k:za zq2 w w1)=>zdb c pv w1 h (hp.keepNon k))
 have h1:=h.le;have h2:=h.hi;have h3:=h.trim;have h4:=h.lo;have h64:=h.many;obtain⟨a,k,rfl,_,ha,hx⟩:=hp;obtain⟨j0,hj0,jz0,jz1,jz2⟩:=info_parts infoU8;have J0:=zz0 (And.intro hj0 (And.intro jz0 (And.intro jz1 jz2)));have hw1:=zX (n:=c.lo) (by omega)
 have hw2:=zX (n:=c.next) (by omega)
 have hw3:=zX (n:=c.hi) (by omega)
 have hw4:=zX (n:=c.trim) (by omega)
 have hw5:=zX (n:=c.parts.length) (by omega)
 have OKP:Hid (∀p ∈ c.parts,p.many<2^63∧p.size<2^63∧p.sum.length=32):=zz0 (fun p hp=>by obtain⟨j,hj⟩:=List.getElem?_of_mem hp;obtain⟨⟨_,q1,_,q2,q3⟩,_⟩:=zay c.parts c.lo j p h.parts hj;exact⟨by omega,by omega,q3⟩)
 clear hx h hj0 jz0 jz1 jz2;unfold cuV at CK ⊢
 go_enter Tryz.func116,Tryz.ntmps116
 go_wp2_with(first
  |(go_at_call 178;refine(CK.out _ ((za.refl _ _).alloc _)).mono ?_;rintro e w1 ⟨rfl,k1⟩;have b1:=zh k1 (ze w (zq0 c (.slice a c.parts.length k)));have c0:=cu_0 b1;have c1:=cu_1 b1;have c2:=cu_2 b1;have c3:=cu_3 b1;have c4:=cu_4 b1;have B1:=zz0 b1;have K1:=zz0 (((za.refl zq2 w).alloc (zq0 c (.slice a c.parts.length k))).trans1 k1);clear k1 b1)
  |(go_at_call 179;refine(zS (.slice none 0 0) [] (some ⟨w1.heap.size,0,none⟩) 5 [c.lo,c.next,c.hi,c.trim,c.parts.length] _ (Rd.nil _) (by simp) (by exact zcQ w1 184 [nv c.lo,nv c.next,nv c.hi,nv c.trim,nv c.parts.length]) (by intro n hn;simp at hn;omega) (by simp)).mono ?_;rintro e w2 ⟨v2,rfl,k2,o2⟩;obtain⟨a2,c2',rfl,_,_⟩:=zb o2;have k2':=((za.refl zq2 w1).alloc _).trans1 k2;have b2:=zh k2' B1.out;have d4:=cu_4 b2;have B4:=zz0 b2;have K5:=zz0 (K1.out.trans1 k2');have O2:Hid (w2.ownsRow w.heap.size 5 1 (.slice a2 (zm [c.lo,c.next,c.hi,c.trim,c.parts.length]).length c2') (zm [c.lo,c.next,c.hi,c.trim,c.parts.length]).length ((zm [c.lo,c.next,c.hi,c.trim,c.parts.length]).map bv)):=zz0 (zg (by simpa using o2) (by have:=K1.out.size;simp;omega));clear k2 k2' o2 b2))
 obtain⟨T0,hT0⟩:∃T0,T0=zm [c.lo,c.next,c.hi,c.trim,c.parts.length]:=⟨_,rfl⟩;have hn40:T0.length≤80:=by have:=zaf [c.lo,c.next,c.hi,c.trim,c.parts.length] (by intro n hn;simp at hn;omega);rw[hT0];simp at this;omega
 rw[←hT0] at O2 ⊢;have O5:=O2;have HT:=zz0 hT0;clear hT0 O2
 go_loopw [5,34] (fun bs i wr=>∃j:Nat,j≤c.parts.length∧i = .int .i64 j∧wr.heap[w.heap.size]? = some (zq0 c (.slice a c.parts.length k))∧za zq2 w wr∧wr.ownsRow w.heap.size 5 1 bs (T0++za6 (c.parts.take j)).length ((T0++za6 (c.parts.take j)).map bv)) (fun _ i _=>c.parts.length-(intOf i).toNat)
 case atStart=>exact⟨0,by omega,rfl,B4.out,K5.out,by simpa [za6] using O5.out⟩
 case round =>
  obtain⟨j,hj,rfl,hb,hk,ho⟩:=hrel;obtain⟨ba,bc,rfl,_,_⟩:=zb ho;have K:=zz0 hk;have B:=zz0 hb;have O:=zz0 ho;have hjl:(za6 (c.parts.take j)).length≤50*64:=Nat.le_trans (zdk _ (fun p hp=>OKP.out p (List.mem_of_mem_take hp))) (by have:=List.length_take_le j c.parts;omega)
  by_cases hlt:j<c.parts.length
  ·have hlj:(j:Int)<(c.parts.length:Int):=by omega
   obtain⟨p,hpj⟩:∃p,c.parts[j]? = some p:=⟨_,List.getElem?_eq_getElem hlt⟩;obtain⟨⟨p1,p2,p3,p4,p5⟩,_⟩:=zay c.parts c.lo j p OK.out.parts hpj;obtain⟨a1,c1,e1,_,_,hx⟩:=PA.out.keepNon hk;injection e1 with e1 e3 e4
   subst e1;subst e4;obtain⟨g,off,rfl,hcell⟩:=hx j p hpj;have hld:=load101 wr g (off+j*35) p p5 hcell;have hsp:=zac wr p p5;have q1:=ptc_1 p;have q2:=ptc_2 p;unfold zrb zq4 at hsp;have hw6:=zX (n:=p.many) (by omega)
   have hw7:=zX (n:=p.size) (by omega)
   have TK:=zz0 (zhE c.parts j p hpj);clear hx hcell hpj hk hb ho;obtain⟨L,hL⟩:∃L,L=(T0++za6 (c.parts.take j)).length:=⟨_,rfl⟩;have hLb:L≤3300:=by rw[hL,List.length_append];omega
   obtain⟨M,hM⟩:∃M,M=(T0++za6 (c.parts.take j)++zm [p.many,p.size]).length:=⟨_,rfl⟩;have hMb:M≤3400:=by have:=zaf [p.many,p.size] (by intro n hn;simp at hn;omega);rw[hM,List.length_append,←hL];simp at this;omega
   have PP2:Hid (Calls Tryz.prog 179 #[.slice ba L bc,.slice (some ⟨wr.heap.size+1,0,none⟩) 2 2] ((wr.alloc (.cells (zq8 p).toArray 125)).alloc (.cells #[.int .u64 p.many,.int .u64 p.size] 184)).drew fun e w'=>∃a' c',e = .returned (.slice a' M c')∧za zq2 wr w'∧w'.heap[wr.heap.size]? = some (zq4 p)∧w'.ownsRow wr.heap.size 5 1 (.slice a' M c') M ((T0++za6 (c.parts.take j)++zm [p.many,p.size]).map bv)∧∀g,(Value.slice a' M c').ownBlock=some g→g≠wr.heap.size):=zz0 (by
    have kk:za zq2 wr ((wr.alloc (.cells (zq8 p).toArray 125)).alloc (.cells #[.int .u64 p.many,.int .u64 p.size] 184)).drew:=(((za.refl zq2 wr).alloc _).alloc _).drew;have o:=O.out;rw[←hL] at o;refine(zS _ _ (some ⟨wr.heap.size+1,0,none⟩) 2 [p.many,p.size] _ ((Rd.ofOwns o).keepNon kk) (by rw[←hL];omega) (zmw (vs:=[nv p.many,nv p.size]) (by have:=ze (wr.alloc (.cells (zq8 p).toArray 125)) (.cells #[.int .u64 p.many,.int .u64 p.size] 184 (0,0));rwa [World.size_alloc] at this)) (by intro n hn;simp at hn;omega) (by simp)).mono ?_
    rintro e w' ⟨v',rfl,k,o⟩;rw[←hM] at o;obtain⟨a',c',rfl,_,_⟩:=zb o;refine⟨a',c',rfl,kk.trans1 k,zh k (zi (ze wr (zq4 p)) _),zg o (by simp;omega),fun g e=>by have:=(o.lt g e).1;simp at this;omega⟩)
   rw[←hL];have HM:=zz0 hM;have HL:=zz0 hL;clear hM hL
   go_wp2_with fail
   go_region_law(first
    |(refine zaj (by rfl) (.tmp 46) (.tmp 48) 43 (by rfl) wr.heap.size 5 j0 (.int .u8 0) 1 Tryz.underlying43 J0.out.1 J0.out.2.1 J0.out.2.2.1 J0.out.2.2.2 rfl (.slice a5 M c5) M ((T0++za6 (c.parts.take j)++zm [p.many,p.size]).map bv) (by first|rfl|simp[Act.eval,Act.put]) (by exact O5.out) (.slice (some ⟨wr.heap.size,3,none⟩) 32 32) (by first|rfl|simp[Act.eval,Act.put]) (p.sum.map bv) (by exact S5.out) (zy _) (by rw[List.length_map,p5];unfold maxLen;omega) (by rw[List.length_map,p5];omega) (by have:=K5'.out.size;omega) ?_;intro v6 w6 ho hg hpp;have HO:=zz0 ho;have HG:=zz0 hg;clear ho hg hpp)
    |(go_simp;go_at_call 179;with_reducible refine PP2.out.mono ?_;rintro e w5 ⟨a5,c5,rfl,k5,b5,o5,n5⟩;have S5:=zz0 (zo7 b5 p5);have K5':=zz0 k5;have O5:=zz0 o5;have N5:=zz0 n5;clear k5 b5 o5 n5))
   all_goals
    go_wp2_with fail
    have kg:za (fun k=>(Value.slice a5 M c5).ownBlock=some k) w5 w6:=za.grown (za.refl _ _) HG.out (fun k e=>.inl e)
    have k6:za zq2 wr w6:=K5'.out.trans kg (fun _ _ e=>e) (fun g hg e=>by have:=(O5.out.lt g e).1;omega)
    have ho:=HO.out;have e0:T0++za6 (c.parts.take j)++zm [p.many,p.size]++p.sum=T0++za6 (c.parts.take (j+1)):=by rw[TK.out];simp[zm]
    have e1:M+(p.sum.map bv).length=(T0++za6 (c.parts.take (j+1))).length:=by rw[←e0,List.length_append,←HM.out,List.length_map]
    rw[←List.map_append,e1,e0] at ho;exact⟨⟨j+1,by omega,by first|rfl|go_num,zh k6 B.out,K.out.trans1 k6,zg ho K.out.size⟩,by simp[intOf];omega⟩
  ·obtain rfl:j=c.parts.length:=by omega
   have o:=O.out;rw[List.take_length] at o ⊢;have e0:T0++za6 c.parts=cuT c:=by rw[HT.out];rfl
   rw[e0] at o ⊢;have hml:(cuT c).length≤65536:=by rw[←e0,List.length_append];rw[List.take_length] at hjl;omega
   have O6:=zz0 o;clear o hk hb ho
   go_wp2_with(go_at_call 180;refine(zca _ (cuT c) _ (Rd.ofOwns O6.out) hml).mono ?_;rintro e w7 ⟨v7,rfl,k7,o7⟩;have K7:=zz0 k7;have O7:=zz0 o7;clear k7 o7)
   go_ret2;exact⟨_,rfl,K.out.trans1 K7.out,zg O7.out K.out.size⟩
end
end Go.Proofs.YtpojgmeoaflmoaaGreatDoor
