/- segment.Take of a segment's bytes: walked. · Parts and manifests by value: their cells, and the operations at them. · manifest.Check of a manifest tha -/
import Derived.Test.YtnboipdpccnedaaGreatDoorQ15
import Derived.Test.YtnboipdpccnedaaGreatDoorQ16
set_option linter.unusedVariables false
set_option maxRecDepth 100000
set_option maxHeartbeats 16000000
namespace Go.Proofs.YtnboipdpccnedaaGreatDoor
open Go.RowKit Go.Maps
theorem zlh (f:Nat) (v:Value) (cl:List Cl) (w:World) (h:Bs w v (segB f cl)) (hc:okc v) (hv:∀ g,v.ownBlock=some g→g < w.heap.size) (hl:cl.length≤64) (hok:∀ x ∈ cl,okCl x) (hf:f+cl.length≤1048576) (hb:(vput f ++ runB cl).length≤65536) :
    Calls Tryz.prog 161 #[v] w fun e w'=>∃ v',e = .returned (.tuple #[.agg #[.int .i64 f,v'],.nilIface])∧Keep Non w w'∧∃ xs,w'.ownsRow w.heap.size 60 2 v' cl.length xs∧CellsOf w.heap.size Non w' xs cl:=by
  have FO:=zz0 (fun w1 (k:Keep Non w w1)=>zg6 v (vput f ++ runB cl) w1 (h.keepNon k) hc hb (fun g e=>k.lt (hv g e)))
  obtain ⟨a,c,rfl,_⟩:=zaw h
  clear h hc hv
  have B0:=zz0 (zab w (SgB 0 (.slice none 0 0)))
  have K0:Hid (Keep Non w (w.alloc (SgB 0 (.slice none 0 0)))):=zz0 ((Keep.refl _ _).alloc _)
  go_enter Tryz.func161,Tryz.ntmps161
  go_wp2_with (first
    | (go_at_call 12;refine (FO.out _ K0.out).mono ?_;rintro e w1 ⟨k1,v1,rfl,n1⟩;obtain ⟨b1,b2,b3⟩:=n1;have K1:=zz0 (K0.out.trans1 k1);have G1:Hid (w1.heap[w.heap.size]? = some (SgB 0 (.slice none 0 0))):=zz0 (nonAt k1 B0.out);have Z1:Hid (w.heap.size+1≤w1.heap.size):=zz0 (by have:=k1.size;simpa [SgB] using this);have B1:=zz0 b1;have B2:=zz0 b2;have B3:Hid (∀ g,v1.ownBlock=some g→w.heap.size < g∧g < w1.heap.size):=zz0 (fun g e=>⟨by have:=(b3 g e).1;simp at this;omega,(b3 g e).2⟩);clear k1 b1 b2 b3)
    | (go_at_call 94;refine (zk5 (fun g=>w.heap.size < g∧g < w1.heap.size) v1 (vput f ++ runB cl) w1 B1.out B2.out (fun g e=>⟨(B3.out g e).2,B3.out g e⟩)).mono ?_;rintro e w2 ⟨rfl,k2,r2⟩;have K2:=zz0 (K1.out.trans1 k2);have G2:=zz0 (nonAt k2 G1.out);have Z2:Hid (w1.heap.size < w2.heap.size):=zz0 (by obtain ⟨_,q,_⟩:=r2;exact lt_of_block q);have R2:=zz0 r2;clear k2 r2)
    | (go_at_call 95;refine (zbc _ w1.heap.size f 1048576 (runB cl) w2 R2.out (by omega) (by omega)).mono ?_;rintro e w3 ⟨rfl,k3,r3⟩;have G3:=k3.at G2.out (by have:=Z1.out;unfold One;omega);have K3:=zz0 k3;have R3:=zz0 r3;have e0:=sg_0 G3;have e1:=sg_1 G3;have f0:=sg_f G3 0;have f1:=sg_f G3 1;have GG3:=zz0 G3;clear k3 r3 G3)
    | (go_at_call 220;refine (zjp _ w1.heap.size cl [] (w3.alloc (SgB f (.slice none 0 0))) (by rw [List.append_nil];exact R3.out.keep ((Keep.refl Non w3).alloc _) (fun _ _ e=>e)) hl hok (fun g e=>by have h1:=K3.out.size;have h2:=Z2.out;simp;rcases e with e | e <;> omega)).mono ?_;rintro e w4 ⟨v4,rfl,k4,r4,xs,o4,q4⟩;obtain ⟨a4,c4,rfl,_,_⟩:=zaa o4;have b4:=k4.at (zab w3 (SgB f (.slice none 0 0))) (by have h1:=K3.out.size;have h2:=Z2.out;unfold One;omega);have G4:=(((Keep.refl Non w3).alloc (SgB f (.slice none 0 0))).ofNon.trans1 k4).at GG3.out (by have:=Z1.out;unfold One;omega);have g0:=sg_0 b4;have g1:=sg_1 b4;have i1:=sg_f b4 1;have m0:=sg_0 G4;have m1:=sg_1 G4;have n0:=sg_f G4 0;have n1:=sg_f G4 1;have K4:=zz0 (((Keep.refl Non w3).alloc (SgB f (.slice none 0 0))).ofNon.trans1 k4);have BB4:=zz0 b4;have GG4:=zz0 G4;have R4:=zz0 r4;have O4:=zz0 o4;have Q4:=zz0 q4;clear k4 r4 o4 q4 b4 G4)
    | (go_at_call 100;refine (znG _ w1.heap.size _ (R4.out.keep ((Keep.refl (One w3.heap.size) w4).setOne _ _) (fun g e e2=>by have e3:g=w3.heap.size:=e2;have h1:=K3.out.size;have h2:=Z2.out;rcases e with e | e <;> omega))).mono ?_;rintro e w5 ⟨rfl,e2⟩;subst e2)
    | (go_at_call 221;have k5:=(Keep.refl (One w3.heap.size) w4).setOne 1 (.slice a4 cl.length c4);have o5:=zac O4.out k5 (fun g e=>by have:=(O4.out.lt g e).1;simp at this;unfold One;omega);have q5:=Q4.out.keep (S':=Non) k5 (fun g h1 h2=>by have h3:g=w3.heap.size:=h2;simp at h1;omega) (fun _ _ e=>e);refine (zfe f _ cl _ (CsAt.of o5 q5) hl hok hf).mono ?_;rintro e w6 ⟨rfl,k6⟩;have b6:=nonAt k6 (zaV BB4.out (.slice a4 cl.length c4));have G6:=nonAt k6 (k5.at GG4.out (by have:=Z1.out;have:=Z2.out;have:=K3.out.size;unfold One;omega));have s0:=sg_0 b6;have s1:=sg_1 b6;have t0:=sg_0 G6;have t1:=sg_1 G6;have u0:=sg_f G6 0;have u1:=sg_f G6 1;have x0:=sg_0 (zaz G6 f);have x1:=sg_1 (zaV (zaz G6 f) (.slice a4 cl.length c4));have O6:=zz0 (zac o5 k6 (fun _ _ e=>e));have Q6:=zz0 (q5.keep (S':=Non) k6 (fun _ _ e=>e) (fun _ _ e=>e));have K6:=zz0 (k5.trans1 k6.ofNon);clear k6 k5 o5 q5 b6 G6))
  refine bodyPost_ret (v:=.tuple #[.agg #[.int .i64 f,.slice a4 cl.length c4],.nilIface]) (by simp [results,Tryz.results161,go_sem,x0,x1]) rfl ?_
  have z1:=Z1.out
  have z2:=Z2.out
  have h2:=K2.out.size
  have h3:=K3.out.size
  have kf:Keep (One w.heap.size) w6 ((w6.setCell ⟨w.heap.size,0,none⟩ (.int .i64 f)).setCell ⟨w.heap.size,1,none⟩ (.slice a4 cl.length c4)):=((Keep.refl _ _).setOne _ _).setOne _ _
  refine ⟨_,rfl,?_,xs,zad (zac O6.out kf (fun g e=>by have:=(O6.out.lt g e).1;simp at this;unfold One;omega)) (by simp;omega),(Q6.out.keep (S':=Non) kf (fun g g1 e=>by have e':g=w.heap.size:=e;simp at g1;omega) (fun _ _ e=>e)).low (by simp;omega) (fun _ e=>e)⟩
  have k03:Keep Non w w3:=K2.out.trans K3.out (fun _ _ e=>e) (fun g hg e=>by have e':g=w1.heap.size:=e;omega)
  have k04:Keep Non w w4:=k03.trans K4.out (fun _ _ e=>e) (fun g hg e=>by have e':g=w1.heap.size:=e;omega)
  have k06:Keep Non w w6:=k04.trans K6.out (fun _ _ e=>e) (fun g hg e=>by have e':g=w3.heap.size:=e;omega)
  exact k06.trans kf (fun _ _ e=>e) (fun g hg e=>by have e':g=w.heap.size:=e;omega)
end Go.Proofs.YtnboipdpccnedaaGreatDoor
namespace Go.Proofs.YtnboipdpccnedaaGreatDoor
open Go.RowKit
structure Pt where
  first:Nat
  many:Nat
  size:Nat
  sum:List UInt8
def ptC (p:Pt):List Value:=.int .i64 p.first :: .int .i64 p.many :: .int .i64 p.size :: p.sum.map bv
def ptV (p:Pt):Value:=.agg (ptC p).toArray
structure Mf where
  num:Nat
  lo:Nat
  hi:Nat
  trim:Nat
  prev:List UInt8
  parts:List Pt
def mfC (m:Mf) (pv:Value):List Value:=.int .i64 m.num :: .int .i64 m.lo :: .int .i64 m.hi :: .int .i64 m.trim :: (m.prev.map bv ++ [pv])
def mfV (m:Mf) (pv:Value):Value:=.agg (mfC m pv).toArray
def PtB (p:Pt):Obj:=.cells (ptC p).toArray 106 (0,0)
def MfB (m:Mf) (pv:Value):Obj:=.cells (mfC m pv).toArray 87 (0,0)
theorem zbq {p:Pt} (h:p.sum.length=32):(ptC p).length=35:=by simp [ptC,h]
theorem za2 {m:Mf} {pv:Value} (h:m.prev.length=32):(mfC m pv).length=37:=by simp [mfC,h]
section
variable {w : World} {b : Nat} {p : Pt} {m : Mf} {pv : Value}
theorem pt_0 (h:w.heap[b]? = some (PtB p)):w.cell? ⟨b,0,none⟩=some (.int .i64 p.first):=by simp [World.cell?,h,PtB,ptC]
theorem pt_1 (h:w.heap[b]? = some (PtB p)):w.cell? ⟨b,1,none⟩=some (.int .i64 p.many):=by simp [World.cell?,h,PtB,ptC]
theorem pt_2 (h:w.heap[b]? = some (PtB p)):w.cell? ⟨b,2,none⟩=some (.int .i64 p.size):=by simp [World.cell?,h,PtB,ptC]
theorem zig (h:w.heap[b]? = some (PtB p)):∀ (j:Nat) u,(p.sum.map bv)[j]? = some u→w.cell? ⟨b,3+j,none⟩=some u:=by
  intro j u hu
  simp only [World.cell?,h,PtB,ptC]
  rw [Nat.add_comm]
  simpa using hu
theorem mf_0 (h:w.heap[b]? = some (MfB m pv)):w.cell? ⟨b,0,none⟩=some (.int .i64 m.num):=by simp [World.cell?,h,MfB,mfC]
theorem mf_1 (h:w.heap[b]? = some (MfB m pv)):w.cell? ⟨b,1,none⟩=some (.int .i64 m.lo):=by simp [World.cell?,h,MfB,mfC]
theorem mf_2 (h:w.heap[b]? = some (MfB m pv)):w.cell? ⟨b,2,none⟩=some (.int .i64 m.hi):=by simp [World.cell?,h,MfB,mfC]
theorem mf_3 (h:w.heap[b]? = some (MfB m pv)):w.cell? ⟨b,3,none⟩=some (.int .i64 m.trim):=by simp [World.cell?,h,MfB,mfC]
theorem mf_f (h:w.heap[b]? = some (MfB m pv)) (i:Nat):w.frozen? ⟨b,i,none⟩=false:=by simp [World.frozen?,h,MfB]
theorem zhd (h:w.heap[b]? = some (MfB m pv)) (hl:m.prev.length=32):∀ (j:Nat) u,(m.prev.map bv)[j]? = some u→w.cell? ⟨b,4+j,none⟩=some u:=by
  intro j u hu
  have hj:j < 32:=by
    have:=List.getElem?_eq_some_iff.1 hu
    obtain ⟨h1,_⟩:=this
    rw [List.length_map,hl] at h1
    exact h1
  simp only [World.cell?,h,MfB,mfC]
  rw [Nat.add_comm]
  simp only [List.getElem?_toArray,List.getElem?_cons_succ]
  rw [List.getElem?_append_left (by rw [List.length_map,hl];exact hj)]
  exact hu
theorem mf_36 (h:w.heap[b]? = some (MfB m pv)) (hl:m.prev.length=32):w.cell? ⟨b,36,none⟩=some pv:=by
  simp only [World.cell?,h,MfB,mfC]
  simp only [List.getElem?_toArray,List.getElem?_cons_succ]
  rw [List.getElem?_append_right (by rw [List.length_map,hl];exact Nat.le_refl _),List.length_map,hl]
  rfl
end
def holdV (t:TypeId) (a:Addr):Sem Value:=loadVar t a
theorem hV84 (a:Addr):loadVar 84 a=holdV 84 a:=rfl
theorem hV106 (a:Addr):loadVar 106 a=holdV 106 a:=rfl
theorem hV87 (a:Addr):loadVar 87 a=holdV 87 a:=rfl
theorem zdv {t:TypeId} {n:Nat} (ha:∀ w,(isAgg t).run Tryz.prog w = .ok true w) (hs:∀ w,(sizeOf t).run Tryz.prog w = .ok n w) (w:World) (g off:Nat) (cs:List Value) (hn:cs.length=n) (h:∀ (j:Nat) v,cs[j]? = some v→w.cell? ⟨g,off+j,none⟩=some v) :
    (holdV t ⟨g,off,none⟩).run Tryz.prog w = .ok (.agg cs.toArray) w:=by
  subst hn
  have:=run_loadCells_list (P:=Tryz.prog) w ⟨g,off,none⟩ cs (fun j v hv=>by rw [zau];exact h j v hv)
  unfold holdV loadVar
  simp only [Sem.run_bind,ha,Result.andThen,if_true,hs,this,Sem.run_pure]
theorem load81 (w:World) (g off:Nat) (D:List UInt8) (hn:D.length=32) (h:∀ (j:Nat) v,(D.map bv)[j]? = some v→w.cell? ⟨g,off+j,none⟩=some v) :
    (holdV 84 ⟨g,off,none⟩).run Tryz.prog w = .ok (arrV D) w:=zdv Tryz.isAgg84 Tryz.sizeOf84 w g off _ (by rw [List.length_map,hn]) h
theorem load101 (w:World) (g off:Nat) (p:Pt) (hn:p.sum.length=32) (h:∀ (j:Nat) v,(ptC p)[j]? = some v→w.cell? ⟨g,off+j,none⟩=some v) :
    (holdV 106 ⟨g,off,none⟩).run Tryz.prog w = .ok (ptV p) w:=zdv Tryz.isAgg106 Tryz.sizeOf106 w g off _ (zbq hn) h
theorem load83 (w:World) (g off:Nat) (m:Mf) (pv:Value) (hn:m.prev.length=32) (h:∀ (j:Nat) v,(mfC m pv)[j]? = some v→w.cell? ⟨g,off+j,none⟩=some v) :
    (holdV 87 ⟨g,off,none⟩).run Tryz.prog w = .ok (mfV m pv) w:=zdv Tryz.isAgg87 Tryz.sizeOf87 w g off _ (za2 hn) h
theorem zaG {w:World} {b:Nat} {p:Pt} (h:w.heap[b]? = some (PtB p)) (hn:p.sum.length=32):(holdV 106 ⟨b,0,none⟩).run Tryz.prog w = .ok (ptV p) w :=
  load101 w b 0 p hn (fun j v hv=>by rw [Nat.zero_add,cell_of_row _ _ j _ _ _ h];simpa using hv)
theorem zan {w:World} {b:Nat} {m:Mf} {pv:Value} (h:w.heap[b]? = some (MfB m pv)) (hn:m.prev.length=32):(holdV 87 ⟨b,0,none⟩).run Tryz.prog w = .ok (mfV m pv) w :=
  load83 w b 0 m pv hn (fun j v hv=>by rw [Nat.zero_add,cell_of_row _ _ j _ _ _ h];simpa using hv)
def holdW (t:TypeId) (a:Addr) (v:Value):Sem Unit:=storeVar t a v
theorem hW84 (a:Addr) (v:Value):storeVar 84 a v=holdW 84 a v:=rfl
theorem hW106 (a:Addr) (v:Value):storeVar 106 a v=holdW 106 a v:=rfl
theorem hW87 (a:Addr) (v:Value):storeVar 87 a v=holdW 87 a v:=rfl
def z32:Array Value:=#[.int .u8 0,.int .u8 0,.int .u8 0,.int .u8 0,.int .u8 0,.int .u8 0,.int .u8 0,.int .u8 0,.int .u8 0,.int .u8 0,.int .u8 0,.int .u8 0,.int .u8 0,.int .u8 0,.int .u8 0,.int .u8 0,.int .u8 0,.int .u8 0,.int .u8 0,.int .u8 0,.int .u8 0,.int .u8 0,.int .u8 0,.int .u8 0,.int .u8 0,.int .u8 0,.int .u8 0,.int .u8 0,.int .u8 0,.int .u8 0,.int .u8 0,.int .u8 0]
def zPt:Array Value:=#[.int .i64 0,.int .i64 0,.int .i64 0,.int .u8 0,.int .u8 0,.int .u8 0,.int .u8 0,.int .u8 0,.int .u8 0,.int .u8 0,.int .u8 0,.int .u8 0,.int .u8 0,.int .u8 0,.int .u8 0,.int .u8 0,.int .u8 0,.int .u8 0,.int .u8 0,.int .u8 0,.int .u8 0,.int .u8 0,.int .u8 0,.int .u8 0,.int .u8 0,.int .u8 0,.int .u8 0,.int .u8 0,.int .u8 0,.int .u8 0,.int .u8 0,.int .u8 0,.int .u8 0,.int .u8 0,.int .u8 0]
def zMf:Array Value:=#[.int .i64 0,.int .i64 0,.int .i64 0,.int .i64 0,.int .u8 0,.int .u8 0,.int .u8 0,.int .u8 0,.int .u8 0,.int .u8 0,.int .u8 0,.int .u8 0,.int .u8 0,.int .u8 0,.int .u8 0,.int .u8 0,.int .u8 0,.int .u8 0,.int .u8 0,.int .u8 0,.int .u8 0,.int .u8 0,.int .u8 0,.int .u8 0,.int .u8 0,.int .u8 0,.int .u8 0,.int .u8 0,.int .u8 0,.int .u8 0,.int .u8 0,.int .u8 0,.int .u8 0,.int .u8 0,.int .u8 0,.int .u8 0,.slice none 0 0]
theorem zde (w:World) (old cs:Array Value) (t:TypeId) (fr:Nat × Nat):(w.alloc (.cells old t fr)).setRow w.heap.size cs=w.alloc (.cells cs t fr):=by
  unfold World.setRow World.alloc
  simp only
  congr 1
  apply Array.ext_getElem?
  intro i
  simp only [Array.getElem?_modify,Array.getElem?_push]
  by_cases h:i=w.heap.size
  · subst h
    simp
  · have h':w.heap.size≠i:=fun e=>h e.symm
    simp [h,h']
theorem zhf (p:Pt):(ptC p).toArray.all (·.oneCell')=true:=by
  rw [List.all_toArray,List.all_eq_true]
  intro x hx
  simp only [ptC,List.mem_cons] at hx
  rcases hx with rfl | rfl | rfl | hx
  · rfl
  · rfl
  · rfl
  · obtain ⟨y,_,rfl⟩:=List.mem_map.1 hx
    rfl
theorem zkB (m:Mf) (a:Option Addr) (n c:Nat):(mfC m (.slice a n c)).toArray.all (·.oneCell')=true:=by
  rw [List.all_toArray,List.all_eq_true]
  intro x hx
  simp only [mfC,List.mem_cons,List.mem_append] at hx
  rcases hx with rfl | rfl | rfl | rfl | hx | rfl | hx
  · rfl
  · rfl
  · rfl
  · rfl
  · obtain ⟨y,_,rfl⟩:=List.mem_map.1 hx
    rfl
  · rfl
  · cases hx
theorem szPt:(Tryz.prog.info? 106).map (·.size)=some 35:=by kernel_rfl
theorem szMf:(Tryz.prog.info? 87).map (·.size)=some 37:=by kernel_rfl
theorem zcq (w:World) (g:Nat) (p:Pt) (old:Array Value) (h:p.sum.length=32) (ho:old.size=35) (hg:w.heap[g]? = some (.cells old 106 (0,0))) :
    (holdW 106 ⟨g,0,none⟩ (ptV p)).run Tryz.prog w = .ok () (w.setRow g (ptC p).toArray) :=
  run_storeVar_row (P:=Tryz.prog) w g 106 106 old (ptC p).toArray hg (by rw [List.size_toArray,zbq h];exact szPt) (ho.trans (by rw [List.size_toArray,zbq h])) (zhf p)
theorem zas (w:World) (p:Pt) (h:p.sum.length=32):(holdW 106 ⟨w.heap.size,0,none⟩ (ptV p)).run Tryz.prog (w.alloc (.cells zPt 106)) = .ok () (w.alloc (PtB p)):=by
  rw [zcq _ _ p zPt h rfl (zab _ _),zde]
  rfl
theorem zaT (w:World) (g:Nat) (m:Mf) (a:Option Addr) (n c:Nat) (old:Array Value) (h:m.prev.length=32) (ho:old.size=37) (hg:w.heap[g]? = some (.cells old 87 (0,0))) :
    (holdW 87 ⟨g,0,none⟩ (mfV m (.slice a n c))).run Tryz.prog w = .ok () (w.setRow g (mfC m (.slice a n c)).toArray) :=
  run_storeVar_row (P:=Tryz.prog) w g 87 87 old (mfC m (.slice a n c)).toArray hg (by rw [List.size_toArray,za2 h];exact szMf) (ho.trans (by rw [List.size_toArray,za2 h])) (zkB m a n c)
theorem zaF (w:World) (m:Mf) (a:Option Addr) (n c:Nat) (h:m.prev.length=32):(holdW 87 ⟨w.heap.size,0,none⟩ (mfV m (.slice a n c))).run Tryz.prog (w.alloc (.cells zMf 87)) = .ok () (w.alloc (MfB m (.slice a n c))):=by
  rw [zaT _ _ m a n c zMf h rfl (zab _ _),zde]
  rfl
theorem zkD (x most:Int) (w:World) (h1:0≤x) (h2:x≤most) :
    Calls Tryz.prog 156 #[.int .i64 x,.int .i64 most] w fun e w'=>e = .returned (.bool true)∧w'=w:=by
  go_enter Tryz.func156,Tryz.ntmps156
  go_wp2_with fail
  go_ret
  exact ⟨rfl,rfl⟩
theorem ptc_0 (p:Pt):(ptC p)[0]? = some (.int .i64 p.first):=rfl
theorem ptc_1 (p:Pt):(ptC p)[1]? = some (.int .i64 p.many):=rfl
theorem ptc_2 (p:Pt):(ptC p)[2]? = some (.int .i64 p.size):=rfl
theorem mfc_0 (m:Mf) (pv:Value):(mfC m pv)[0]? = some (.int .i64 m.num):=rfl
theorem mfc_1 (m:Mf) (pv:Value):(mfC m pv)[1]? = some (.int .i64 m.lo):=rfl
theorem mfc_2 (m:Mf) (pv:Value):(mfC m pv)[2]? = some (.int .i64 m.hi):=rfl
theorem mfc_3 (m:Mf) (pv:Value):(mfC m pv)[3]? = some (.int .i64 m.trim):=rfl
theorem ze9 (m:Mf) (pv:Value) (h:m.prev.length=32):(mfC m pv)[36]? = some pv:=by
  simp only [mfC,List.getElem?_cons_succ]
  rw [List.getElem?_append_right (by rw [List.length_map,h];exact Nat.le_refl _),List.length_map,h]
  rfl
def okPt (p:Pt):Prop:=1≤p.many∧p.many≤64∧1≤p.size∧p.size≤65536∧p.sum.length=32
def okPts:Nat→List Pt→Prop
  | _,[]=>True
  | a,p :: r=>p.first=a∧okPt p∧okPts (a+p.many) r
def endPts:Nat→List Pt→Nat
  | a,[]=>a
  | a,p :: r=>endPts (a+p.many) r
structure okMf (m:Mf):Prop where
  num:m.num≤999999
  hi:m.hi≤1048576
  trim:m.trim≤1048576
  prev:m.prev.length=32
  zero:m.num=0→isZ m.prev=true
  many:m.parts.length≤1024
  parts:okPts m.lo m.parts
  stop:endPts m.lo m.parts=m.hi
theorem zgp (p:Pt) (w:World) (h1:1≤p.many) (h2:p.many≤64) (h3:1≤p.size) (h4:p.size≤65536) (h5:p.sum.length=32) :
    Calls Tryz.prog 158 #[ptV p,.int .i64 p.first] w fun e w'=>e = .returned .nilIface∧Keep Non w w':=by
  unfold ptV
  have q0:=ptc_0 p
  have q1:=ptc_1 p
  have q2:=ptc_2 p
  go_enter Tryz.func158,Tryz.ntmps158
  go_wp2_with (go_at_call 156;with_reducible refine (zkD _ _ _ (by omega) (by omega)).mono ?_;rintro e w1 ⟨rfl,e1⟩;subst e1)
  go_ret
  exact ⟨rfl,(Keep.refl _ _).alloc _⟩
def PtsAt (w:World) (v:Value) (l:List Pt):Prop:=∃ a c,v = .slice a l.length c∧l.length≤c∧(∀ ad,a=some ad→∃ g off,ad=⟨g,off,none⟩)∧∀ j p,l[j]? = some p→∃ g off,a=some ⟨g,off,none⟩∧∀ (i:Nat) u,(ptC p)[i]? = some u→w.cell? ⟨g,off+j * 35+i,none⟩=some u
theorem PtsAt.keep {S:Nat→Prop} {w w':World} {v:Value} {l:List Pt} (h:PtsAt w v l) (k:Keep S w w') (hn:∀ g,v.ownBlock=some g→¬ S g):PtsAt w' v l:=by
  obtain ⟨a,c,rfl,hc,ha,hx⟩:=h
  refine ⟨a,c,rfl,hc,ha,fun j p hj=>?_⟩
  obtain ⟨g,off,rfl,h1⟩:=hx j p hj
  exact ⟨g,off,rfl,fun i u hu=>(World.cell?_of_block (k.block g (World.block_lt_of_cell? _ _ (h1 i u hu)) (hn g rfl))).trans (h1 i u hu)⟩
theorem PtsAt.keepNon {w w':World} {v:Value} {l:List Pt} (h:PtsAt w v l) (k:Keep Non w w'):PtsAt w' v l:=h.keep k (fun _ _ e=>e)
theorem zaN:∀ (l:List Pt) (a j:Nat) (p:Pt),okPts a l→l[j]? = some p→okPt p∧p.first=endPts a (l.take j)
  | [],a,j,p,_,h=>by simp at h
  | q :: r,a,0,p,h,e=>by simp at e;subst e;exact ⟨h.2.1,h.1⟩
  | q :: r,a,j+1,p,h,e=>by
    rw [List.getElem?_cons_succ] at e
    exact zaN r (a+q.many) j p h.2.2 e
theorem za7:∀ (l:List Pt) (a j:Nat) (p:Pt),l[j]? = some p→endPts a (l.take (j+1))=endPts a (l.take j)+p.many
  | [],a,j,p,h=>by simp at h
  | q :: r,a,0,p,e=>by simp at e;subst e;simp [endPts]
  | q :: r,a,j+1,p,e=>by
    rw [List.getElem?_cons_succ] at e
    simp only [List.take_succ_cons,endPts]
    exact za7 r (a+q.many) j p e
theorem zaH:∀ (l:List Pt) (a j:Nat),a≤endPts a (l.take j)∧endPts a (l.take j)≤endPts a l
  | [],a,j=>by simp [endPts]
  | q :: r,a,0=>by
    have:=zaH r (a+q.many) 0
    simp [endPts] at this ⊢
    omega
  | q :: r,a,j+1=>by
    have:=zaH r (a+q.many) j
    simp only [List.take_succ_cons,endPts] at this ⊢
    omega
section
attribute [local go_sem ↓] hV84 hV106 hV87 hW84 hW106 hW87
theorem zbp (m:Mf) (pv:Value) (w:World) (h:okMf m) (hp:PtsAt w pv m.parts) :
    Calls Tryz.prog 101 #[mfV m pv] w fun e w'=>e = .returned .nilIface∧Keep Non w w':=by
  have OK:=zz0 h
  have PA:=zz0 hp
  obtain ⟨h1,h2,h3,h4,h5,h6,h7,h8⟩:=h
  have h9:=(zaH m.parts m.lo 0)
  simp only [List.take_zero,endPts,h8] at h9
  have hlo:=h9.2
  obtain ⟨a,c,rfl,hc,ha,hx⟩:=hp
  clear hx h7 h9
  unfold mfV
  have q0:=mfc_0 m (.slice a m.parts.length c)
  have q1:=mfc_1 m (.slice a m.parts.length c)
  have q2:=mfc_2 m (.slice a m.parts.length c)
  have q3:=mfc_3 m (.slice a m.parts.length c)
  have q36:=ze9 m (.slice a m.parts.length c) h4
  have hl:=load81 (w.alloc (MfB m (.slice a m.parts.length c))) w.heap.size 4 m.prev h4 (zhd (zab _ _) h4)
  unfold MfB at hl
  have hnl:¬ m.hi < m.lo:=by omega
  have hnl2:¬ (1024:Int) < (m.parts.length:Int):=by omega
  go_enter Tryz.func101,Tryz.ntmps101
  go_wp2_with (first
    | (go_at_call 156;with_reducible refine (zkD _ _ _ (by omega) (by omega)).mono ?_;rintro e w1 ⟨rfl,e1⟩;subst e1)
    | (go_at_call 157;refine (znC m.prev h4 _).mono ?_;rw [h5 ‹m.num=0›];rintro e w1 ⟨rfl,k1⟩;have k1':=((Keep.refl Non w).alloc (MfB m (.slice a m.parts.length c))).trans1 k1;have b1:=nonAt k1 (zab w (MfB m (.slice a m.parts.length c)));have d1:=mf_1 b1;have d2:=mf_2 b1;have d36:=mf_36 b1 h4;have K1:=zz0 k1';have B1:=zz0 b1;clear k1 k1' b1))
  · have ATB:Hid _:=B1
    have ATK:=K1
    have HH:=zz0 h8
    go_loopw [3,60] (fun at_ i wr=>∃ j:Nat,j≤m.parts.length∧i = .int .i64 j∧at_ = .int .i64 (endPts m.lo (m.parts.take j))∧wr.heap[w.heap.size]? = some (MfB m (.slice a m.parts.length c))∧Keep Non w wr) (fun _ i _=>m.parts.length - (intOf i).toNat)
    case atStart=>exact ⟨0,by omega,rfl,rfl,ATB.out,ATK.out⟩
    case round =>
      obtain ⟨j,hj,rfl,rfl,hb,hk⟩:=hrel
      have K:=zz0 hk
      have B:=zz0 hb
      have e2:=mf_2 hb
      clear hk hb
      by_cases hlt:j < m.parts.length
      · have hlj:(j:Int) < (m.parts.length:Int):=by omega
        obtain ⟨p,hpj⟩:∃ p,m.parts[j]? = some p:=⟨_,List.getElem?_eq_getElem hlt⟩
        obtain ⟨⟨p1,p2,p3,p4,p5⟩,p6⟩:=zaN m.parts m.lo j p OK.out.parts hpj
        have hst:=za7 m.parts m.lo j p hpj
        have hle:=(zaH m.parts m.lo (j+1)).2
        rw [HH.out] at hle
        have hle2:=Nat.le_trans hle OK.out.hi
        clear hle
        obtain ⟨a1,c1,e1,_,_,hx⟩:=PA.out.keepNon K.out
        injection e1 with e1 e3 e4
        subst e1
        subst e4
        obtain ⟨g,off,rfl,hcell⟩:=hx j p hpj
        have hld:=load101 wr g (off+j * 35) p p5 hcell
        have hsp:=zas wr p p5
        have hlp:=zaG (zab wr (PtB p)) p5
        unfold zPt PtB at hsp
        unfold PtB at hlp
        have PC:Hid (∀ w2,Calls Tryz.prog 158 #[ptV p,.int .i64 (endPts m.lo (m.parts.take j))] w2 fun e w'=>e = .returned .nilIface∧Keep Non w2 w'):=zz0 (fun w2=>by have h0:=zgp p w2 p1 p2 p3 p4 p5;rw [p6] at h0;exact h0)
        have q1:=ptc_1 p
        have ST:=zz0 hst
        clear hx hcell hpj p6
        go_wp2_with (go_at_call 158;refine (PC.out _).mono ?_;rintro e w2 ⟨rfl,k2⟩;have z1:=pt_1 (nonAt k2 (zab wr (PtB p)));have K2:=zz0 (((Keep.refl Non wr).alloc (PtB p)).trans1 k2);clear k2)
        exact ⟨⟨j+1,by omega,by first | rfl | go_num,by rw [ST.out];first | rfl | go_num,nonAt K2.out B.out,K.out.trans1 K2.out⟩,by simp [intOf];omega⟩
      · obtain rfl:j=m.parts.length:=by omega
        rw [List.take_length,HH.out]
        go_wp2_with fail
        go_ret
        exact ⟨rfl,K.out⟩
  · have ATB:=zz0 (zab w (MfB m (.slice a m.parts.length c)))
    have ATK:Hid (Keep Non w (w.alloc (MfB m (.slice a m.parts.length c)))):=zz0 ((Keep.refl _ _).alloc _)
    have HH:=zz0 h8
    go_loopw [3,60] (fun at_ i wr=>∃ j:Nat,j≤m.parts.length∧i = .int .i64 j∧at_ = .int .i64 (endPts m.lo (m.parts.take j))∧wr.heap[w.heap.size]? = some (MfB m (.slice a m.parts.length c))∧Keep Non w wr) (fun _ i _=>m.parts.length - (intOf i).toNat)
    case atStart=>exact ⟨0,by omega,rfl,rfl,ATB.out,ATK.out⟩
    case round =>
      obtain ⟨j,hj,rfl,rfl,hb,hk⟩:=hrel
      have K:=zz0 hk
      have B:=zz0 hb
      have e2:=mf_2 hb
      clear hk hb
      by_cases hlt:j < m.parts.length
      · have hlj:(j:Int) < (m.parts.length:Int):=by omega
        obtain ⟨p,hpj⟩:∃ p,m.parts[j]? = some p:=⟨_,List.getElem?_eq_getElem hlt⟩
        obtain ⟨⟨p1,p2,p3,p4,p5⟩,p6⟩:=zaN m.parts m.lo j p OK.out.parts hpj
        have hst:=za7 m.parts m.lo j p hpj
        have hle:=(zaH m.parts m.lo (j+1)).2
        rw [HH.out] at hle
        have hle2:=Nat.le_trans hle OK.out.hi
        clear hle
        obtain ⟨a1,c1,e1,_,_,hx⟩:=PA.out.keepNon K.out
        injection e1 with e1 e3 e4
        subst e1
        subst e4
        obtain ⟨g,off,rfl,hcell⟩:=hx j p hpj
        have hld:=load101 wr g (off+j * 35) p p5 hcell
        have hsp:=zas wr p p5
        have hlp:=zaG (zab wr (PtB p)) p5
        unfold zPt PtB at hsp
        unfold PtB at hlp
        have PC:Hid (∀ w2,Calls Tryz.prog 158 #[ptV p,.int .i64 (endPts m.lo (m.parts.take j))] w2 fun e w'=>e = .returned .nilIface∧Keep Non w2 w'):=zz0 (fun w2=>by have h0:=zgp p w2 p1 p2 p3 p4 p5;rw [p6] at h0;exact h0)
        have q1:=ptc_1 p
        have ST:=zz0 hst
        clear hx hcell hpj p6
        go_wp2_with (go_at_call 158;refine (PC.out _).mono ?_;rintro e w2 ⟨rfl,k2⟩;have z1:=pt_1 (nonAt k2 (zab wr (PtB p)));have K2:=zz0 (((Keep.refl Non wr).alloc (PtB p)).trans1 k2);clear k2)
        exact ⟨⟨j+1,by omega,by first | rfl | go_num,by rw [ST.out];first | rfl | go_num,nonAt K2.out B.out,K.out.trans1 K2.out⟩,by simp [intOf];omega⟩
      · obtain rfl:j=m.parts.length:=by omega
        rw [List.take_length,HH.out]
        go_wp2_with fail
        go_ret
        exact ⟨rfl,K.out⟩
end
end Go.Proofs.YtnboipdpccnedaaGreatDoor
