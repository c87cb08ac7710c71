/- Cursors: Check, Put: walked. · cursor.Put: walked. · cursor.Step: walked. -/
import Derived.Test.YtnboipdpccnedaaGreatDoorQ20
set_option linter.unusedVariables false
set_option maxRecDepth 100000
set_option maxHeartbeats 16000000
namespace Go.Proofs.YtnboipdpccnedaaGreatDoor
open Go.RowKit
structure Cu where
  lo:Nat
  next:Nat
  hi:Nat
  trim:Nat
  parts:List Pt
structure okCu (c:Cu):Prop where
  parts:okPts c.lo c.parts
  stop:endPts c.lo c.parts=c.next
  le:c.next≤c.hi
  hi:c.hi≤1048576
  trim:c.trim≤1048576
  many:c.parts.length≤64
def cuMf (c:Cu):Mf:=⟨1,c.lo,c.next,c.trim,List.replicate 32 0,c.parts⟩
theorem okCu.mf {c:Cu} (h:okCu c):okMf (cuMf c) where
  num:=by show 1≤999999;decide
  hi:=by have:=h.le;have:=h.hi;show c.next≤_;omega
  trim:=h.trim
  prev:=List.length_replicate ..
  zero:=fun e=>absurd e (by show (1:Nat)≠0;decide)
  many:=Nat.le_trans h.many (by decide)
  parts:=h.parts
  stop:=h.stop
theorem okCu.lo {c:Cu} (h:okCu c):c.lo≤c.next:=by
  have:=(zaH c.parts c.lo 0)
  simp only [List.take_zero,endPts,h.stop] at this
  exact this.2
def cuV (c:Cu) (pv:Value):Value:=.agg #[.int .i64 c.lo,.int .i64 c.next,.int .i64 c.hi,.int .i64 c.trim,pv]
def CuB (c:Cu) (pv:Value):Obj:=.cells #[.int .i64 c.lo,.int .i64 c.next,.int .i64 c.hi,.int .i64 c.trim,pv] 139 (0,0)
section
variable {w : World} {b : Nat} {c : Cu} {pv : Value}
theorem cu_0 (h:w.heap[b]? = some (CuB c pv)):w.cell? ⟨b,0,none⟩=some (.int .i64 c.lo):=by simp [World.cell?,h,CuB]
theorem cu_1 (h:w.heap[b]? = some (CuB c pv)):w.cell? ⟨b,1,none⟩=some (.int .i64 c.next):=by simp [World.cell?,h,CuB]
theorem cu_2 (h:w.heap[b]? = some (CuB c pv)):w.cell? ⟨b,2,none⟩=some (.int .i64 c.hi):=by simp [World.cell?,h,CuB]
theorem cu_3 (h:w.heap[b]? = some (CuB c pv)):w.cell? ⟨b,3,none⟩=some (.int .i64 c.trim):=by simp [World.cell?,h,CuB]
theorem cu_4 (h:w.heap[b]? = some (CuB c pv)):w.cell? ⟨b,4,none⟩=some pv:=by simp [World.cell?,h,CuB]
theorem cu_f (h:w.heap[b]? = some (CuB c pv)) (i:Nat):w.frozen? ⟨b,i,none⟩=false:=by simp [World.frozen?,h,CuB]
end
theorem zlY (c:Cu) (a:Option Addr) (n k:Nat) (w:World):(holdB 87 #[(0,.int .i64 1),(1,.int .i64 c.lo),(2,.int .i64 c.next),(3,.int .i64 c.trim),(5,.slice a n k)]).run Tryz.prog w = .ok (mfV (cuMf c) (.slice a n k)) w :=
  run_build w 87 _ _ (by kernel_rfl)
section
attribute [local go_sem ↓] hV84 hV106 hV87 hW84 hW106 hW87 hB106 hB87
theorem zc4 (c:Cu) (pv:Value) (w:World) (h:okCu c) (hp:PtsAt w pv c.parts) :
    Calls Tryz.prog 192 #[cuV c pv] w fun e w'=>e = .returned .nilIface∧Keep Non w w':=by
  have CK:=zz0 (fun w1 (k:Keep Non w w1)=>zbp (cuMf c) pv w1 h.mf (hp.keepNon k))
  have h1:=h.le
  have h2:=h.hi
  obtain ⟨a,k,rfl,_,_,_⟩:=hp
  have hbu:=zlY c a c.parts.length k
  have hst:=zaF (w.alloc (CuB c (.slice a c.parts.length k))) (cuMf c) a c.parts.length k (List.length_replicate ..)
  have hld:=zan (zab (w.alloc (CuB c (.slice a c.parts.length k))) (MfB (cuMf c) (.slice a c.parts.length k))) (List.length_replicate ..)
  rw [World.size_alloc] at hst hld
  unfold zMf MfB CuB at hst
  unfold MfB CuB at hld
  clear h
  unfold cuV
  go_enter Tryz.func192,Tryz.ntmps192
  go_wp2_with (go_at_call 101;refine (CK.out _ (((Keep.refl Non w).alloc _).alloc _)).mono ?_;rintro e w1 ⟨rfl,k1⟩;have b1:=nonAt k1 (zae (zab w (CuB c (.slice a c.parts.length k))) _);have d1:=cu_1 b1;have d2:=cu_2 b1;have K1:=zz0 ((((Keep.refl Non w).alloc _).alloc _).trans1 k1);clear k1 b1)
  go_ret
  exact ⟨rfl,K1.out⟩
end
def cuT (c:Cu):List UInt8:=vputs [c.lo,c.next,c.hi,c.trim,c.parts.length] ++ ptsB c.parts
def cuBy (c:Cu):List UInt8:=frameB (cuT c)
section
attribute [local go_sem ↓] hV84 hV106 hV87 hW84 hW106 hW87 hB106 hB87
theorem zl7 (c:Cu) (pv:Value) (w:World) (h:okCu c) (hp:PtsAt w pv c.parts) :
    Calls Tryz.prog 134 #[cuV c pv] w fun e w'=>∃ v',e = .returned (.tuple #[v',.nilIface])∧Keep Non w w'∧w'.ownsRow w.heap.size 5 1 v' (cuBy c).length ((cuBy c).map bv):=by
  have OK:=zz0 h
  have PA:=zz0 hp
  have CK:=zz0 (fun w1 (k:Keep Non w w1)=>zc4 c pv w1 h (hp.keepNon k))
  have h1:=h.le
  have h2:=h.hi
  have h3:=h.trim
  have h4:=h.lo
  have h64:=h.many
  obtain ⟨a,k,rfl,_,ha,hx⟩:=hp
  obtain ⟨j0,hj0,jz0,jz1,jz2⟩:=info_parts infoU8
  have J0:=zz0 (And.intro hj0 (And.intro jz0 (And.intro jz1 jz2)))
  have hw1:=wrap64 (n:=c.lo) (by omega)
  have hw2:=wrap64 (n:=c.next) (by omega)
  have hw3:=wrap64 (n:=c.hi) (by omega)
  have hw4:=wrap64 (n:=c.trim) (by omega)
  have hw5:=wrap64 (n:=c.parts.length) (by omega)
  have OKP:Hid (∀ p ∈ c.parts,p.many < 2 ^ 63∧p.size < 2 ^ 63∧p.sum.length=32):=zz0 (fun p hp=>by obtain ⟨j,hj⟩:=List.getElem?_of_mem hp;obtain ⟨⟨_,q1,_,q2,q3⟩,_⟩:=zaN c.parts c.lo j p h.parts hj;exact ⟨by omega,by omega,q3⟩)
  clear hx h hj0 jz0 jz1 jz2
  unfold cuV at CK ⊢
  go_enter Tryz.func134,Tryz.ntmps134
  go_wp2_with (first
    | (go_at_call 192;refine (CK.out _ ((Keep.refl _ _).alloc _)).mono ?_;rintro e w1 ⟨rfl,k1⟩;have b1:=nonAt k1 (zab w (CuB c (.slice a c.parts.length k)));have c0:=cu_0 b1;have c1:=cu_1 b1;have c2:=cu_2 b1;have c3:=cu_3 b1;have c4:=cu_4 b1;have B1:=zz0 b1;have K1:=zz0 (((Keep.refl Non w).alloc (CuB c (.slice a c.parts.length k))).trans1 k1);clear k1 b1)
    | (go_at_call 193;refine (zat (.slice none 0 0) [] (some ⟨w1.heap.size,0,none⟩) 5 [c.lo,c.next,c.hi,c.trim,c.parts.length] _ (Rd.nil _) (by simp) (by exact zbY w1 162 [nv c.lo,nv c.next,nv c.hi,nv c.trim,nv c.parts.length]) (by intro n hn;simp at hn;omega) (by simp)).mono ?_;rintro e w2 ⟨v2,rfl,k2,o2⟩;obtain ⟨a2,c2',rfl,_,_⟩:=zaa o2;have k2':=((Keep.refl Non w1).alloc _).trans1 k2;have b2:=nonAt k2' B1.out;have d4:=cu_4 b2;have B4:=zz0 b2;have K5:=zz0 (K1.out.trans1 k2');have O2:Hid (w2.ownsRow w.heap.size 5 1 (.slice a2 (vputs [c.lo,c.next,c.hi,c.trim,c.parts.length]).length c2') (vputs [c.lo,c.next,c.hi,c.trim,c.parts.length]).length ((vputs [c.lo,c.next,c.hi,c.trim,c.parts.length]).map bv)):=zz0 (zad (by simpa using o2) (by have:=K1.out.size;simp;omega));clear k2 k2' o2 b2))
  obtain ⟨T0,hT0⟩:∃ T0,T0=vputs [c.lo,c.next,c.hi,c.trim,c.parts.length]:=⟨_,rfl⟩
  have hn40:T0.length≤80:=by have:=zaB [c.lo,c.next,c.hi,c.trim,c.parts.length] (by intro n hn;simp at hn;omega);rw [hT0];simp at this;omega
  rw [← hT0] at O2 ⊢
  have O5:=O2
  have HT:=zz0 hT0
  clear hT0 O2
  go_loopw [5,34] (fun bs i wr=>∃ j:Nat,j≤c.parts.length∧i = .int .i64 j∧wr.heap[w.heap.size]? = some (CuB c (.slice a c.parts.length k))∧Keep Non w wr∧wr.ownsRow w.heap.size 5 1 bs (T0 ++ ptsB (c.parts.take j)).length ((T0 ++ ptsB (c.parts.take j)).map bv)) (fun _ i _=>c.parts.length - (intOf i).toNat)
  case atStart=>exact ⟨0,by omega,rfl,B4.out,K5.out,by simpa [ptsB] using O5.out⟩
  case round =>
    obtain ⟨j,hj,rfl,hb,hk,ho⟩:=hrel
    obtain ⟨ba,bc,rfl,_,_⟩:=zaa ho
    have K:=zz0 hk
    have B:=zz0 hb
    have O:=zz0 ho
    have hjl:(ptsB (c.parts.take j)).length≤50 * 64:=Nat.le_trans (zcQ _ (fun p hp=>OKP.out p (List.mem_of_mem_take hp))) (by have:=List.length_take_le j c.parts;omega)
    by_cases hlt:j < c.parts.length
    · have hlj:(j:Int) < (c.parts.length:Int):=by omega
      obtain ⟨p,hpj⟩:∃ p,c.parts[j]? = some p:=⟨_,List.getElem?_eq_getElem hlt⟩
      obtain ⟨⟨p1,p2,p3,p4,p5⟩,_⟩:=zaN c.parts c.lo j p OK.out.parts hpj
      obtain ⟨a1,c1,e1,_,_,hx⟩:=PA.out.keepNon hk
      injection e1 with e1 e3 e4
      subst e1
      subst e4
      obtain ⟨g,off,rfl,hcell⟩:=hx j p hpj
      have hld:=load101 wr g (off+j * 35) p p5 hcell
      have hsp:=zas wr p p5
      have q1:=ptc_1 p
      have q2:=ptc_2 p
      unfold zPt PtB at hsp
      have hw6:=wrap64 (n:=p.many) (by omega)
      have hw7:=wrap64 (n:=p.size) (by omega)
      have TK:=zz0 (zgq c.parts j p hpj)
      clear hx hcell hpj hk hb ho
      obtain ⟨L,hL⟩:∃ L,L=(T0 ++ ptsB (c.parts.take j)).length:=⟨_,rfl⟩
      have hLb:L≤3300:=by rw [hL,List.length_append];omega
      obtain ⟨M,hM⟩:∃ M,M=(T0 ++ ptsB (c.parts.take j) ++ vputs [p.many,p.size]).length:=⟨_,rfl⟩
      have hMb:M≤3400:=by have:=zaB [p.many,p.size] (by intro n hn;simp at hn;omega);rw [hM,List.length_append,← hL];simp at this;omega
      have PP2:Hid (Calls Tryz.prog 193 #[.slice ba L bc,.slice (some ⟨wr.heap.size+1,0,none⟩) 2 2] ((wr.alloc (.cells (ptC p).toArray 106)).alloc (.cells #[.int .u64 p.many,.int .u64 p.size] 162)).drew fun e w'=>∃ a' c',e = .returned (.slice a' M c')∧Keep Non wr w'∧w'.heap[wr.heap.size]? = some (PtB p)∧w'.ownsRow wr.heap.size 5 1 (.slice a' M c') M ((T0 ++ ptsB (c.parts.take j) ++ vputs [p.many,p.size]).map bv)∧∀ g,(Value.slice a' M c').ownBlock=some g→g≠wr.heap.size):=zz0 (by
        have kk:Keep Non wr ((wr.alloc (.cells (ptC p).toArray 106)).alloc (.cells #[.int .u64 p.many,.int .u64 p.size] 162)).drew:=(((Keep.refl Non wr).alloc _).alloc _).drew
        have o:=O.out
        rw [← hL] at o
        refine (zat _ _ (some ⟨wr.heap.size+1,0,none⟩) 2 [p.many,p.size] _ ((Rd.ofOwns o).keepNon kk) (by rw [← hL];omega) (zk8 (vs:=[nv p.many,nv p.size]) (by have:=zab (wr.alloc (.cells (ptC p).toArray 106)) (.cells #[.int .u64 p.many,.int .u64 p.size] 162 (0,0));rwa [World.size_alloc] at this)) (by intro n hn;simp at hn;omega) (by simp)).mono ?_
        rintro e w' ⟨v',rfl,k,o⟩
        rw [← hM] at o
        obtain ⟨a',c',rfl,_,_⟩:=zaa o
        refine ⟨a',c',rfl,kk.trans1 k,nonAt k (zae (zab wr (PtB p)) _),zad o (by simp;omega),fun g e=>by have:=(o.lt g e).1;simp at this;omega⟩)
      rw [← hL]
      have HM:=zz0 hM
      have HL:=zz0 hL
      clear hM hL
      go_wp2_with fail
      go_region_law (first
        | (refine zay (by rfl) (.tmp 46) (.tmp 48) 44 (by rfl) wr.heap.size 5 j0 (.int .u8 0) 1 Tryz.underlying44 J0.out.1 J0.out.2.1 J0.out.2.2.1 J0.out.2.2.2 rfl (.slice a5 M c5) M ((T0 ++ ptsB (c.parts.take j) ++ vputs [p.many,p.size]).map bv) (by first | rfl | simp [Act.eval,Act.put]) (by exact O5.out) (.slice (some ⟨wr.heap.size,3,none⟩) 32 32) (by first | rfl | simp [Act.eval,Act.put]) (p.sum.map bv) (by exact S5.out) (zam _) (by rw [List.length_map,p5];unfold maxLen;omega) (by rw [List.length_map,p5];omega) (by have:=K5'.out.size;omega) ?_;intro v6 w6 ho hg hpp;have HO:=zz0 ho;have HG:=zz0 hg;clear ho hg hpp)
        | (go_simp;go_at_call 193;with_reducible refine PP2.out.mono ?_;rintro e w5 ⟨a5,c5,rfl,k5,b5,o5,n5⟩;have S5:=zz0 (znR b5 p5);have K5':=zz0 k5;have O5:=zz0 o5;have N5:=zz0 n5;clear k5 b5 o5 n5))
      all_goals
        go_wp2_with fail
        have kg:Keep (fun k=>(Value.slice a5 M c5).ownBlock=some k) w5 w6:=Keep.grown (Keep.refl _ _) HG.out (fun k e=>.inl e)
        have k6:Keep Non wr w6:=K5'.out.trans kg (fun _ _ e=>e) (fun g hg e=>by have:=(O5.out.lt g e).1;omega)
        have ho:=HO.out
        have e0:T0 ++ ptsB (c.parts.take j) ++ vputs [p.many,p.size] ++ p.sum=T0 ++ ptsB (c.parts.take (j+1)):=by rw [TK.out];simp [vputs]
        have e1:M+(p.sum.map bv).length=(T0 ++ ptsB (c.parts.take (j+1))).length:=by rw [← e0,List.length_append,← HM.out,List.length_map]
        rw [← List.map_append,e1,e0] at ho
        exact ⟨⟨j+1,by omega,by first | rfl | go_num,nonAt k6 B.out,K.out.trans1 k6,zad ho K.out.size⟩,by simp [intOf];omega⟩
    · obtain rfl:j=c.parts.length:=by omega
      have o:=O.out
      rw [List.take_length] at o ⊢
      have e0:T0 ++ ptsB c.parts=cuT c:=by rw [HT.out];rfl
      rw [e0] at o ⊢
      have hml:(cuT c).length≤65536:=by rw [← e0,List.length_append];rw [List.take_length] at hjl;omega
      have O6:=zz0 o
      clear o hk hb ho
      go_wp2_with (go_at_call 194;refine (zbs _ (cuT c) _ (Rd.ofOwns O6.out) hml).mono ?_;rintro e w7 ⟨v7,rfl,k7,o7⟩;have K7:=zz0 k7;have O7:=zz0 o7;clear k7 o7)
      go_ret2
      exact ⟨_,rfl,K.out.trans1 K7.out,zad O7.out K.out.size⟩
end
def holdBS (t:TypeId) (n:Nat) (parts:Array (Nat × Value)):Sem Value:=Instr.buildSlice t n parts
theorem hBS85 (n:Nat) (parts:Array (Nat × Value)):Instr.buildSlice 85 n parts=holdBS 85 n parts:=rfl
theorem zf3 (p:Pt) (h:p.sum.length=32) (w:World):(holdBS 85 1 #[(0,ptV p)]).run Tryz.prog w = .ok (.slice (some ⟨w.heap.size,0,none⟩) 1 1) (w.alloc (PtB p)):=by
  obtain ⟨f,m,s,D⟩:=p
  obtain ⟨d0,d1,d2,d3,d4,d5,d6,d7,d8,d9,d10,d11,d12,d13,d14,d15,d16,d17,d18,d19,d20,d21,d22,d23,d24,d25,d26,d27,d28,d29,d30,d31,rfl⟩:=list32 D h
  kernel_rfl
theorem zeY {w1 W0 w3:World} {n:Nat} {a2:Option Addr} {c2:Nat} {xs ys:List Value} {v3:Value} (k10:Keep Non w1 W0) (o2:W0.ownsRow w1.heap.size 106 35 (.slice a2 n c2) n xs) (ho:w3.ownsRow w1.heap.size 106 35 v3 (n+1) (xs ++ ys)) (hg:W0.grownBy w3 (Value.slice a2 n c2).ownBlock) :
    ∃ a3 c3,v3 = .slice a3 (n+1) c3∧Keep Non w1 w3:=by
  obtain ⟨a3,c3,rfl,_,_⟩:=zaa ho
  have hk:Keep (fun k=>(Value.slice a2 n c2).ownBlock=some k) W0 w3:=Keep.grown (Keep.refl _ _) hg (fun k e=>.inl e)
  exact ⟨a3,c3,rfl,k10.trans hk (fun _ _ e=>e) (fun g hg e=>by have:=(o2.lt g e).1;omega)⟩
theorem zfN {w:World} {b:Nat} {p:Pt} (h:w.heap[b]? = some (PtB p)):∀ (j:Nat) u,(ptC p)[j]? = some u→w.cell? ((⟨b,0,none⟩:Addr).add j)=some u:=by
  intro j u hu
  rw [zau,Nat.zero_add,cell_of_row _ _ j _ _ _ h]
  simpa using hu
theorem zfM (p:Pt):∀ u ∈ ptC p,u.oneCell'=true:=by
  intro u hu
  have:=zhf p
  rw [List.all_toArray,List.all_eq_true] at this
  exact this u hu
theorem zmH {w w':World} {p:Nat} {b:Nat} {o:Obj} (k:Keep (One p) w w') (h:w.heap[b]? = some o) (hne:b≠p):w'.heap[b]? = some o:=k.at h hne
theorem zn4 {w:World} {b:Nat} {c:Cu} {pv:Value} (h:w.heap[b]? = some (CuB c pv)) (v:Value):(w.setCell ⟨b,4,none⟩ v).heap[b]? = some (CuB c v):=zaf h 4 _
theorem zn3 {w:World} {b:Nat} {c:Cu} {pv:Value} (h:w.heap[b]? = some (CuB c pv)) (n:Nat):(w.setCell ⟨b,1,none⟩ (.int .i64 n)).heap[b]? = some (CuB { c with next:=n } pv):=zaf h 1 _
theorem zfo {w:World} {b:Nat} {c0:Cu} {v0:Value} (h:w.heap[b]? = some (CuB c0 v0)) (x0 x1 x2 x3 x4:Value) :
    ∀ W,W=(((((w.setCell ⟨b,0,none⟩ x0).setCell ⟨b,1,none⟩ x1).setCell ⟨b,2,none⟩ x2).setCell ⟨b,3,none⟩ x3).setCell ⟨b,4,none⟩ x4) →
    W.cell? ⟨b,0,none⟩=some x0∧W.cell? ⟨b,1,none⟩=some x1∧W.cell? ⟨b,2,none⟩=some x2∧W.cell? ⟨b,3,none⟩=some x3∧W.cell? ⟨b,4,none⟩=some x4∧Keep (One b) w W:=by
  rintro W rfl
  have h5:=zaf (zaf (zaf (zaf (zaf h 0 x0) 1 x1) 2 x2) 3 x3) 4 x4
  exact ⟨by simp [World.cell?,h5],by simp [World.cell?,h5],by simp [World.cell?,h5],by simp [World.cell?,h5],by simp [World.cell?,h5],(((((Keep.refl (One b) w).setOne 0 x0).setOne 1 x1).setOne 2 x2).setOne 3 x3).setOne 4 x4⟩
section
attribute [local go_sem ↓] hV84 hV106 hV87 hW84 hW106 hW87 hB106 hB87 hBS85
def cuStep (c:Cu) (p:Pt):Cu:={ c with next:=c.next+p.many,parts:=c.parts ++ [p] }
theorem zjR (c:Cu) (p:Pt) (pv:Value) (w:World) (h:okCu c) (hp:PtsAt w pv c.parts) (h32:pts32 c.parts) (hp5:p.sum.length=32) (h':okCu (cuStep c p)) :
    Calls Tryz.prog 197 #[cuV c pv,ptV p] w fun e w'=>∃ v',e = .returned (.tuple #[cuV (cuStep c p) v',.nilIface])∧Keep Non w w'∧w'.ownsRow w.heap.size 106 35 v' (c.parts.length+1) (ptsC (c.parts ++ [p])):=by
  have CK:=zz0 (fun w1 (k:Keep Non w w1)=>zc4 c pv w1 h (hp.keepNon k))
  have CL:=zz0 (fun w1 (k:Keep Non w w1)=>zcH pv c.parts w1 (hp.keepNon k) h32 (Nat.le_trans h.many (by decide)))
  have hbu:=zf3 p hp5
  obtain ⟨a,k,rfl,hk0,ha,hx⟩:=hp
  have q1:=ptc_1 p
  clear hx ha
  unfold cuV ptV at *
  go_enter Tryz.func197,Tryz.ntmps197
  have e0:((w.alloc (CuB c (.slice a c.parts.length k))).alloc (PtB p)).heap[w.heap.size]? = some (CuB c (.slice a c.parts.length k)):=zae (zab _ _) _
  have bc:(((w.alloc (CuB c (.slice a c.parts.length k))).alloc (PtB p)).alloc (CuB ⟨0,0,0,0,[]⟩ (.slice none 0 0))).heap[w.heap.size]? = some (CuB c (.slice a c.parts.length k)):=zae e0 _
  have bp:(((w.alloc (CuB c (.slice a c.parts.length k))).alloc (PtB p)).alloc (CuB ⟨0,0,0,0,[]⟩ (.slice none 0 0))).heap[w.heap.size+1]? = some (PtB p):=zae (zaA _ _ _) _
  have bz:(((w.alloc (CuB c (.slice a c.parts.length k))).alloc (PtB p)).alloc (CuB ⟨0,0,0,0,[]⟩ (.slice none 0 0))).heap[w.heap.size+1+1]? = some (CuB ⟨0,0,0,0,[]⟩ (.slice none 0 0)):=by
    have:=zaA (w.alloc (CuB c (.slice a c.parts.length k))) (PtB p) (CuB ⟨0,0,0,0,[]⟩ (.slice none 0 0))
    rwa [World.size_alloc] at this
  have kA:Keep Non w (((w.alloc (CuB c (.slice a c.parts.length k))).alloc (PtB p)).alloc (CuB ⟨0,0,0,0,[]⟩ (.slice none 0 0))):=(((Keep.refl _ _).alloc _).alloc _).alloc _
  have sA:w.heap.size+3≤(((w.alloc (CuB c (.slice a c.parts.length k))).alloc (PtB p)).alloc (CuB ⟨0,0,0,0,[]⟩ (.slice none 0 0))).heap.size:=by simp
  obtain ⟨wA,hwA⟩:∃ wA,wA=(((w.alloc (CuB c (.slice a c.parts.length k))).alloc (PtB p)).alloc (CuB ⟨0,0,0,0,[]⟩ (.slice none 0 0))):=⟨_,rfl⟩
  rw [← hwA] at bc bp bz kA sA
  dsimp only [CuB,PtB] at hwA
  obtain ⟨i0,hi0,hz0,hz1,hz2⟩:=info_parts infoPt
  have I0:=zz0 (And.intro hi0 (And.intro hz0 (And.intro hz1 hz2)))
  have BC:=zz0 bc
  have BP:=zz0 bp
  have BZ:=zz0 bz
  have KA:=zz0 kA
  have SA:=zz0 sA
  have HWA:=zz0 hwA
  clear e0 bc bp bz kA sA hwA hi0 hz0 hz1 hz2
  go_wp2_with (go_at_call 192;refine (CK.out _ ((((Keep.refl Non w).alloc _).alloc _).alloc _)).mono ?_;rintro e w1 ⟨rfl,k1⟩;have k1':Keep Non wA w1:=(by rw [HWA.out];exact k1);have b1:=nonAt k1' BC.out;have p1:=nonAt k1' BP.out;have z1:=nonAt k1' BZ.out;have c1:=cu_1 b1;have c4:=cu_4 b1;have B1:=zz0 b1;have P1:=zz0 p1;have Z1:=zz0 z1;have K1:=zz0 (KA.out.trans1 k1');have S1:Hid (w.heap.size+3≤w1.heap.size):=zz0 (Nat.le_trans SA.out k1'.size);clear k1 k1' b1 p1 z1)
  have hl0:=zaG P1.out hp5
  have hl1:(holdV 106 ⟨w.heap.size+1,0,none⟩).run Tryz.prog w1.drew = .ok (ptV p) w1.drew:=zaG (w:=w1.drew) P1.out hp5
  have kp1:Keep Non w1 (w1.alloc (PtB p)):=(Keep.refl _ _).alloc _
  have c4p:=cu_4 (nonAt kp1 B1.out)
  dsimp only [PtB] at hbu c4p
  unfold ptV at hl0 hl1
  have CLa:=zz0 (CL.out w1.drew (K1.out.trans1 (Keep.refl Non w1).drew))
  have CLb:=zz0 (CL.out (w1.alloc (PtB p)).drew (K1.out.trans1 kp1.drew))
  dsimp only [PtB] at CLb
  clear kp1
  have h64:=h'.many
  have hle:=h'.le
  have hhi:=h'.hi
  simp only [cuStep,List.length_append,List.length_singleton] at h64 hle hhi
  go_region_law (first
    | (refine zag (by rfl) (.tmp 16) (.tmp 18) 85 (by rfl) w1.heap.size 106 i0 (.agg zPt) 35 56 Tryz.underlying85 I0.out.1 I0.out.2.1 I0.out.2.2.1 I0.out.2.2.2 rfl (by decide) (.slice a2 c.parts.length c2) c.parts.length (ptsC c.parts) (by first | rfl | simp [Act.eval,Act.put]) (by exact (zac O2.out ((Keep.refl Non w2).alloc (PtB p)) (fun _ _ e=>e))) ⟨w2.heap.size,0,none⟩ 1 1 (ptC p) (by first | rfl | simp [Act.eval,Act.put]) (by rw [zbq hp5]) (by exact zfN N2.out) (zfM p) (by unfold maxLen;omega) (by omega) (by have:=K2.out.size;simp;omega) ?_;intro v3 w3 ho hg hpp;obtain ⟨a3,c3,rfl,k3⟩:=zeY (K2.out.trans1 ((Keep.refl Non w2).alloc (PtB p))) (zac O2.out ((Keep.refl Non w2).alloc (PtB p)) (fun _ _ e=>e)) ho hg;have b3:=nonAt k3 B1.out;have p3:=nonAt k3 P1.out;have z3:=nonAt k3 Z1.out;have d0:=cu_0 b3;have d1:=cu_1 b3;have d2:=cu_2 b3;have d3:=cu_3 b3;have d4:=cu_4 b3;have f1:=cu_f b3 1;have f4:=cu_f b3 4;have e1:=pt_1 p3;have B3:=zz0 b3;have Z3:=zz0 z3;have K3:=zz0 (K1.out.trans1 k3);have O3:=zz0 ho;have S3:Hid (w.heap.size+3≤w3.heap.size):=zz0 (Nat.le_trans S1.out k3.size);clear ho hg hpp k3 b3 p3 z3)
    | (refine zag (by rfl) (.tmp 16) (.tmp 18) 85 (by rfl) w1.heap.size 106 i0 (.agg zPt) 35 56 Tryz.underlying85 I0.out.1 I0.out.2.1 I0.out.2.2.1 I0.out.2.2.2 rfl (by decide) (.slice a2 c.parts.length c2) c.parts.length (ptsC c.parts) (by first | rfl | simp [Act.eval,Act.put]) (by exact O2.out) ⟨w1.heap.size,0,none⟩ 1 1 (ptC p) (by first | rfl | simp [Act.eval,Act.put]) (by rw [zbq hp5]) (by exact zfN M2.out) (zfM p) (by unfold maxLen;omega) (by omega) (by have:=K2.out.size;simp;omega) ?_;intro v3 w3 ho hg hpp;obtain ⟨a3,c3,rfl,k3⟩:=zeY K2.out O2.out ho hg;have b3:=nonAt k3 B1.out;have p3:=nonAt k3 P1.out;have z3:=nonAt k3 Z1.out;have d0:=cu_0 b3;have d1:=cu_1 b3;have d2:=cu_2 b3;have d3:=cu_3 b3;have d4:=cu_4 b3;have f1:=cu_f b3 1;have f4:=cu_f b3 4;have e1:=pt_1 p3;have B3:=zz0 b3;have Z3:=zz0 z3;have K3:=zz0 (K1.out.trans1 k3);have O3:=zz0 ho;have S3:Hid (w.heap.size+3≤w3.heap.size):=zz0 (Nat.le_trans S1.out k3.size);clear ho hg hpp k3 b3 p3 z3)
    | (go_simp;go_at_call 80;first
      | ((with_reducible refine CLa.out.mono ?_);rintro e w2 ⟨v2,rfl,k2,o2⟩;have k2':=((Keep.refl Non w1).drew).trans1 k2;obtain ⟨a2,c2,rfl,_,_⟩:=zaa o2;have p2:=nonAt k2' P1.out;have hl2:=zaG p2 hp5;unfold ptV at hl2;have P2:=zz0 p2;have O2:Hid (w2.ownsRow w1.heap.size 106 35 (.slice a2 c.parts.length c2) c.parts.length (ptsC c.parts)):=zz0 o2;have K2:=zz0 k2';have N2:=zz0 (zab w2 (PtB p));clear k2 k2' o2 p2)
      | ((with_reducible refine CLb.out.mono ?_);rintro e w2 ⟨v2,rfl,k2,o2⟩;have k2':=((Keep.refl Non w1).alloc (PtB p)).drew.trans1 k2;obtain ⟨a2,c2,rfl,_,_⟩:=zaa o2;have M2:=zz0 (nonAt k2 (zab w1 (PtB p)));have O2:Hid (w2.ownsRow w1.heap.size 106 35 (.slice a2 c.parts.length c2) c.parts.length (ptsC c.parts)):=zz0 (zad o2 (by simp));have K2:=zz0 k2';clear k2 k2' o2)))
  all_goals
    have C2:Hid (∀ W,Keep (One w.heap.size) w3 W→Calls Tryz.prog 192 #[.agg #[.int .i64 c.lo,.int .i64 ((c.next:Int)+p.many),.int .i64 c.hi,.int .i64 c.trim,.slice a3 (c.parts.length+1) c3]] W fun e w'=>e = .returned .nilIface∧Keep Non W w'):=zz0 (fun W kk=>by
      have ho:=O3.out
      have e:ptsC c.parts ++ ptC p=ptsC (cuStep c p).parts:=by simp [ptsC,cuStep]
      have e2:c.parts.length+1=(cuStep c p).parts.length:=by simp [cuStep]
      rw [e,e2] at ho
      have ho2:=zac ho kk (fun g hg e2=>by have e':g=w.heap.size:=e2;have:=(ho.lt g hg).1;have:=S1.out;omega)
      have:=zc4 (cuStep c p) _ W h' (PtsAt.of ho2 (fun q hq=>by simp only [cuStep,List.mem_append,List.mem_singleton] at hq;rcases hq with hq | rfl;exact h32 q hq;exact hp5))
      rw [← e2] at this
      simpa [cuV,cuStep] using this)
    go_wp2_with (go_at_call 192;refine (C2.out _ (((Keep.refl (One w.heap.size) w3).setOne 4 _).setOne 1 _)).mono ?_;rintro e w6 ⟨rfl,k6⟩;have kk:Keep (One w.heap.size) w3 w6:=(((Keep.refl (One w.heap.size) w3).setOne 4 _).setOne 1 _).trans1 k6.ofNon;have z6:=zmH kk Z3.out (by omega);have i0':=cu_0 z6;have i1':=cu_1 z6;have i2':=cu_2 z6;have i3':=cu_3 z6;have i4':=cu_4 z6;have j0':=cu_f z6 0;have j1':=cu_f z6 1;have j2':=cu_f z6 2;have j3':=cu_f z6 3;have j4':=cu_f z6 4;have l0:=nonAt k6 (zn3 (zn4 B3.out (.slice a3 (c.parts.length+1) c3)) (c.next+p.many));have m0:=cu_0 l0;have m1:=cu_1 l0;have m2:=cu_2 l0;have m3:=cu_3 l0;have m4:=cu_4 l0;have Z6:=zz0 z6;have KK:=zz0 kk;clear k6 kk z6 l0)
  all_goals
    obtain ⟨r0,r1,r2,r3,r4,kf⟩:=zfo Z6.out (.int .i64 c.lo) (.int .i64 ((c.next:Int)+p.many)) (.int .i64 c.hi) (.int .i64 c.trim) (.slice a3 (c.parts.length+1) c3) _ rfl
    refine bodyPost_ret (v:=.tuple #[.agg #[.int .i64 c.lo,.int .i64 ((c.next:Int)+p.many),.int .i64 c.hi,.int .i64 c.trim,.slice a3 (c.parts.length+1) c3],.nilIface]) (by simp [results,Tryz.results197,go_sem,r0,r1,r2,r3,r4]) rfl ?_
    have s1:=S1.out
    have s3:=S3.out
    have hk1:=K1.out.size
    refine ⟨.slice a3 (c.parts.length+1) c3,rfl,((K3.out.trans KK.out (fun _ _ e=>e) (fun g hg e=>by have e':g=w.heap.size:=e;omega))).trans kf (fun _ _ e=>e) (fun g hg e=>by have e':g=w.heap.size+1+1:=e;omega),?_⟩
    have e:ptsC c.parts ++ ptC p=ptsC (c.parts ++ [p]):=by simp [ptsC]
    have ho:=O3.out
    rw [e] at ho
    exact zad (zac (zac ho KK.out (fun g hg e2=>by have e':g=w.heap.size:=e2;have:=(ho.lt g hg).1;omega)) kf (fun g hg e2=>by have e':g=w.heap.size+1+1:=e2;have:=(ho.lt g hg).1;omega)) (by omega)
end
end Go.Proofs.YtnboipdpccnedaaGreatDoor
