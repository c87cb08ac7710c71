/- manifest.Put: walked. · manifest.Of, Holds, Copy: walked. · manifest.Holds, Copy: walked. · Rows of parts: their cells; slices.Clone of parts: walked. -/
import Derived.Test.YtnboipdpccnedaaGreatDoorQ19
set_option linter.unusedVariables false
set_option maxRecDepth 100000
set_option maxHeartbeats 16000000
namespace Go.Proofs.YtnboipdpccnedaaGreatDoor
open Go.RowKit
def ptsB:List Pt→List UInt8
  | []=>[]
  | p :: r=>vput p.many ++ vput p.size ++ p.sum ++ ptsB r
def mfT (m:Mf):List UInt8:=vput m.num ++ vput m.lo ++ vput m.hi ++ vput m.trim ++ m.prev ++ vput m.parts.length ++ ptsB m.parts
def mfBy (m:Mf):List UInt8:=frameB (mfT m)
theorem zen:∀ a b:List Pt,ptsB (a ++ b)=ptsB a ++ ptsB b
  | [],b=>rfl
  | p :: r,b=>by simp [ptsB,zen r b]
theorem zgq (l:List Pt) (j:Nat) (p:Pt) (h:l[j]? = some p):ptsB (l.take (j+1))=ptsB (l.take j) ++ (vput p.many ++ vput p.size ++ p.sum):=by
  obtain ⟨hj,rfl⟩:=List.getElem?_eq_some_iff.1 h
  rw [List.take_succ_eq_append_getElem hj,zen]
  simp [ptsB]
theorem zcQ:∀ (l:List Pt),(∀ p ∈ l,p.many < 2 ^ 63∧p.size < 2 ^ 63∧p.sum.length=32)→(ptsB l).length≤50 * l.length
  | [],_=>by simp [ptsB]
  | p :: r,h=>by
    have h1:=zcQ r (fun q hq=>h q (by simp [hq]))
    obtain ⟨a,b,c⟩:=h p (by simp)
    have h2:=zaX a
    have h3:=zaX b
    simp only [ptsB,List.length_append,List.length_cons,c]
    omega
theorem zbY (w:World) (t:TypeId) (vs:List Value):Rd (w.alloc (.cells vs.toArray t)) (.slice (some ⟨w.heap.size,0,none⟩) vs.length vs.length) vs :=
  ⟨_,_,rfl,fun _=>⟨w.heap.size,0,rfl,fun j x hx=>by rw [Nat.zero_add,cell_of_row _ _ j _ _ _ (zab _ _)];simpa using hx⟩⟩
theorem znR {w:World} {b:Nat} {p:Pt} (h:w.heap[b]? = some (PtB p)) (hn:p.sum.length=32):Bs w (.slice (some ⟨b,3,none⟩) 32 32) p.sum :=
  ⟨_,32,by rw [List.length_map,hn],fun _=>⟨b,3,rfl,zig h⟩⟩
theorem zoK {w:World} {b:Nat} {m:Mf} {pv:Value} (h:w.heap[b]? = some (MfB m pv)) (hn:m.prev.length=32):Bs w (.slice (some ⟨b,4,none⟩) 32 32) m.prev :=
  ⟨_,32,by rw [List.length_map,hn],fun _=>⟨b,4,rfl,zhd h hn⟩⟩
theorem zk8 {w:World} {g:Nat} {t:TypeId} {vs:List Value} (h:w.heap[g]? = some (.cells vs.toArray t (0,0))):Rd w (.slice (some ⟨g,0,none⟩) vs.length vs.length) vs :=
  ⟨_,_,rfl,fun _=>⟨g,0,rfl,fun j x hx=>by rw [Nat.zero_add,cell_of_row _ _ j _ _ _ h];simpa using hx⟩⟩
theorem zjE {w1 w2 W0 w3:World} {b Q:Nat} {a2:Option Addr} {c2:Nat} {o:Obj} {l D:List UInt8} {v3:Value} (hb:w2.heap[b]? = some o) (k12:Keep Non w1 w2) (hwb:b < w1.heap.size)
    (h2:w2.ownsRow w1.heap.size 5 1 (.slice a2 Q c2) Q (l.map bv)) (hD:D.length=32) (k02:Keep Non w2 W0) (ho:w3.ownsRow w1.heap.size 5 1 v3 (Q+(D.map bv).length) (l.map bv ++ D.map bv)) (hg:W0.grownBy w3 (Value.slice a2 Q c2).ownBlock) :
    ∃ a3 c3,v3 = .slice a3 (Q+32) c3∧w3.heap[b]? = some o∧Keep Non w1 w3∧w3.ownsRow w1.heap.size 5 1 (.slice a3 (Q+32) c3) (Q+32) ((l ++ D).map bv)∧∀ g o,W0.heap[g]? = some o→w2.heap.size≤g→w3.heap[g]? = some o:=by
  rw [List.length_map,hD] at ho
  obtain ⟨a3,c3,rfl,_,_⟩:=zaa ho
  have hk:Keep (fun k=>(Value.slice a2 Q c2).ownBlock=some k) W0 w3:=Keep.grown (Keep.refl _ _) hg (fun k e=>.inl e)
  refine ⟨a3,c3,rfl,hk.at (nonAt k02 hb) (fun e=>by have:=(h2.lt _ e).1;omega),(k12.trans1 k02).trans hk (fun _ _ e=>e) (fun g hg e=>by have:=(h2.lt g e).1;omega),by rw [List.map_append];exact ho,fun g o h hge=>hk.at h (fun e=>by have:=(h2.lt g e).2;omega)⟩
section
attribute [local go_sem ↓] hV84 hV106 hV87 hW84 hW106 hW87
theorem zkF (m:Mf) (pv:Value) (w:World) (h:okMf m) (hp:PtsAt w pv m.parts) (h64:m.parts.length≤64) :
    Calls Tryz.prog 268 #[mfV m pv] w fun e w'=>∃ v',e = .returned (.tuple #[v',.nilIface])∧Keep Non w w'∧w'.ownsRow w.heap.size 5 1 v' (mfBy m).length ((mfBy m).map bv):=by
  have OK:=zz0 h
  have PA:=zz0 hp
  have CK:=zz0 (fun w1 (k:Keep Non w w1)=>zbp m pv w1 h (hp.keepNon k))
  obtain ⟨h1,h2,h3,h4,h5,h6,h7,h8⟩:=h
  have h9:=(zaH m.parts m.lo 0)
  simp only [List.take_zero,endPts,h8] at h9
  have hlo:=h9.2
  obtain ⟨a,c,rfl,hc,ha,hx⟩:=hp
  have hlm:=zan (zab w (MfB m (.slice a m.parts.length c))) h4
  unfold mfV at CK hlm ⊢
  unfold MfB at hlm
  obtain ⟨j0,hj0,jz0,jz1,jz2⟩:=info_parts infoU8
  have J0:=zz0 (And.intro hj0 (And.intro jz0 (And.intro jz1 jz2)))
  have hw1:=wrap64 (n:=m.num) (by omega)
  have hw2:=wrap64 (n:=m.lo) (by omega)
  have hw3:=wrap64 (n:=m.hi) (by omega)
  have hw4:=wrap64 (n:=m.trim) (by omega)
  have hw5:=wrap64 (n:=m.parts.length) (by omega)
  have OKP:Hid (∀ p ∈ m.parts,p.many < 2 ^ 63∧p.size < 2 ^ 63∧p.sum.length=32):=zz0 (fun p hp=>by obtain ⟨j,hj⟩:=List.getElem?_of_mem hp;obtain ⟨⟨_,q1,_,q2,q3⟩,_⟩:=zaN m.parts m.lo j p h7 hj;exact ⟨by omega,by omega,q3⟩)
  clear hx h5 h6 h7 h8 h9 hj0 jz0 jz1 jz2
  go_enter Tryz.func268,Tryz.ntmps268
  go_wp2_with (first
    | (go_at_call 101;refine (CK.out _ ((Keep.refl _ _).alloc _)).mono ?_;rintro e w1 ⟨rfl,k1⟩;have b1:=nonAt k1 (zab w (MfB m (.slice a m.parts.length c)));have c0:=mf_0 b1;have c1:=mf_1 b1;have c2:=mf_2 b1;have c3:=mf_3 b1;have B1:=zz0 b1;have K1:=zz0 (((Keep.refl Non w).alloc (MfB m (.slice a m.parts.length c))).trans1 k1);clear k1 b1)
    | (go_at_call 193;refine (zat (.slice none 0 0) [] (some ⟨w1.heap.size,0,none⟩) 4 [m.num,m.lo,m.hi,m.trim] _ (Rd.nil _) (by simp) (by exact zbY w1 162 [nv m.num,nv m.lo,nv m.hi,nv m.trim]) (by intro n hn;simp at hn;omega) (by simp)).mono ?_;rintro e w2 ⟨v2,rfl,k2,o2⟩;obtain ⟨a2,c2',rfl,_,_⟩:=zaa o2;have k2':=((Keep.refl Non w1).alloc _).trans1 k2;have b2:=nonAt k2' B1.out;have d36:=mf_36 b2 h4;have B2:=zz0 b2;have K2:=zz0 k2';have O2:Hid (w2.ownsRow w1.heap.size 5 1 (.slice a2 (vputs [m.num,m.lo,m.hi,m.trim]).length c2') (vputs [m.num,m.lo,m.hi,m.trim]).length ((vputs [m.num,m.lo,m.hi,m.trim]).map bv)):=zz0 (zad (by simpa using o2) (by simp));clear k2 k2' o2 b2))
  have hwb:w.heap.size < w1.heap.size:=lt_of_block B1.out
  have hq:(vputs [m.num,m.lo,m.hi,m.trim]).length≤36:=zaB [m.num,m.lo,m.hi,m.trim] (by intro n hn;simp at hn;omega)
  obtain ⟨Q,hQ⟩:∃ Q,Q=(vputs [m.num,m.lo,m.hi,m.trim]).length:=⟨_,rfl⟩
  rw [← hQ] at hq O2 ⊢
  have PV:=zz0 (fun W (k:Keep Non w2 W)=>zoK (nonAt k B2.out) h4)
  have HQ:=zz0 hQ
  have PP:Hid (∀ W g v,Bs W v (vputs [m.num,m.lo,m.hi,m.trim] ++ m.prev)→W.heap[g]? = some (.cells #[.int .u64 m.parts.length] 162 (0,0))→Calls Tryz.prog 193 #[v,.slice (some ⟨g,0,none⟩) 1 1] W fun e w'=>∃ a' c',e = .returned (.slice a' (Q+32+(vputs [m.parts.length]).length) c')∧Keep Non W w'∧w'.ownsRow W.heap.size 5 1 (.slice a' (Q+32+(vputs [m.parts.length]).length) c') (Q+32+(vputs [m.parts.length]).length) ((vputs [m.num,m.lo,m.hi,m.trim] ++ m.prev ++ vputs [m.parts.length]).map bv)):=zz0 (fun W g v hb hg=>(zat v _ (some ⟨g,0,none⟩) 1 [m.parts.length] _ hb (by rw [List.length_append,← HQ.out,h4];omega) (zk8 (vs:=[nv m.parts.length]) hg) (by intro n hn;simp at hn;omega) (by simp)).mono (by
    rintro e w' ⟨v',rfl,k,o⟩
    rw [List.length_append,List.length_append,← HQ.out,h4] at o
    obtain ⟨a',c',rfl,_,_⟩:=zaa o
    exact ⟨a',c',rfl,k,o⟩))
  clear hQ
  go_region_law (first
    | (refine zay (by rfl) (.tmp 27) (.tmp 29) 44 (by rfl) w1.heap.size 5 j0 (.int .u8 0) 1 Tryz.underlying44 J0.out.1 J0.out.2.1 J0.out.2.2.1 J0.out.2.2.2 rfl (.slice a2 Q c2') Q ((vputs [m.num,m.lo,m.hi,m.trim]).map bv) (by first | rfl | simp [Act.eval,Act.put]) (by exact zac O2.out (by first | exact (Keep.refl Non w2).drew | exact ((Keep.refl Non w2).alloc _).drew) (fun _ _ e=>e)) (.slice (some ⟨w.heap.size,4,none⟩) 32 32) (by first | rfl | simp [Act.eval,Act.put]) (m.prev.map bv) (by exact PV.out _ (by first | exact (Keep.refl Non w2).drew | exact ((Keep.refl Non w2).alloc _).drew)) (zam _) (by rw [List.length_map,h4];unfold maxLen;omega) (by rw [List.length_map,h4];omega) (by have:=K2.out.size;simp;omega) ?_;intro v3 w3 ho hg hpp;obtain ⟨a3,c3',rfl,b3,k3,o3,g3⟩:=zjE (w2:=w2) B2.out K2.out hwb O2.out h4 (by first | exact (Keep.refl Non w2).drew | exact ((Keep.refl Non w2).alloc _).drew) ho hg;have e36:=mf_36 b3 h4;have B3:=zz0 b3;have K3:=zz0 k3;have O3:=zz0 o3;have R3:Hid (Bs w3 (.slice a3 (Q+32) c3') (vputs [m.num,m.lo,m.hi,m.trim] ++ m.prev)):=zz0 (Rd.ofOwns o3);have G3:=zz0 g3;have R3a:Hid (Bs (w3.alloc (.cells #[.int .u64 m.parts.length] 162)) (.slice a3 (Q+32) c3') (vputs [m.num,m.lo,m.hi,m.trim] ++ m.prev)):=zz0 (Rd.keepNon R3.out ((Keep.refl Non w3).alloc _));first | have N2:=zz0 (g3 w2.heap.size (.cells #[.int .u64 m.parts.length] 162 (0,0)) (by exact zab w2 (.cells #[.int .u64 m.parts.length] 162 (0,0))) (Nat.le_refl _)) | skip;have N3:=zz0 (zab w3 (.cells #[.int .u64 m.parts.length] 162 (0,0)));clear ho hg hpp b3 k3 o3 g3)
    | (go_simp;go_at_call 193;first
       | (with_reducible refine (PP.out (w3.alloc (.cells #[.int .u64 m.parts.length] 162)) w3.heap.size (.slice a3 (Q+32) c3') R3a.out N3.out).mono ?_;rintro e w4 ⟨a4,c4,rfl,k4',o4⟩;have k4:=((Keep.refl Non w3).alloc (.cells #[.int .u64 m.parts.length] 162)).trans1 k4';have b4:=nonAt k4 B3.out;have f36:=mf_36 b4 h4;have B4:=zz0 b4;have K4:=zz0 k4;have O4:Hid (w4.ownsRow w3.heap.size 5 1 _ _ _):=zz0 (zad o4 (by simp));clear k4 k4' o4 b4)
       | (with_reducible refine (PP.out w3 w2.heap.size (.slice a3 (Q+32) c3') R3.out N2.out).mono ?_;rintro e w4 ⟨a4,c4,rfl,k4,o4⟩;have b4:=nonAt k4 B3.out;have f36:=mf_36 b4 h4;have B4:=zz0 b4;have K4:=zz0 k4;have O4:=zz0 o4;clear k4 o4 b4)))
  all_goals
    obtain ⟨T0,hT0⟩:∃ T0,T0=vputs [m.num,m.lo,m.hi,m.trim] ++ m.prev ++ vputs [m.parts.length]:=⟨_,rfl⟩
    have hn4:Q+32+(vputs [m.parts.length]).length=T0.length:=by rw [hT0,List.length_append,List.length_append,← HQ.out,h4]
    rw [hn4]
    have hn40:T0.length≤80:=by have:=zaB [m.parts.length] (by intro n hn;simp at hn;omega);simp only [List.length_singleton] at this;omega
    have o4:=O4.out
    rw [hn4,← hT0] at o4
    have o4':w4.ownsRow w.heap.size 5 1 (.slice a4 T0.length c4) T0.length (T0.map bv):=zad o4 (by have:=K1.out.size;have:=K2.out.size;have:=K3.out.size;omega)
    have O5:=zz0 o4'
    have K5:Hid (Keep Non w w4):=zz0 ((K1.out.trans1 K3.out).trans1 K4.out)
    have HT:=zz0 hT0
    clear o4 o4' hn4 hT0
    go_wp2_with fail
  all_goals
    go_loopw [5,40] (fun bs i wr=>∃ j:Nat,j≤m.parts.length∧i = .int .i64 j∧wr.heap[w.heap.size]? = some (MfB m (.slice a m.parts.length c))∧Keep Non w wr∧wr.ownsRow w.heap.size 5 1 bs (T0 ++ ptsB (m.parts.take j)).length ((T0 ++ ptsB (m.parts.take j)).map bv)) (fun _ i _=>m.parts.length - (intOf i).toNat)
    case atStart=>exact ⟨0,by omega,rfl,B4.out,K5.out,by simpa [ptsB] using O5.out⟩
    case round =>
      obtain ⟨j,hj,rfl,hb,hk,ho⟩:=hrel
      obtain ⟨ba,bc,rfl,_,_⟩:=zaa ho
      have K:=zz0 hk
      have B:=zz0 hb
      have O:=zz0 ho
      have hjl:(ptsB (m.parts.take j)).length≤50 * 64:=Nat.le_trans (zcQ _ (fun p hp=>OKP.out p (List.mem_of_mem_take hp))) (by have:=List.length_take_le j m.parts;omega)
      by_cases hlt:j < m.parts.length
      · have hlj:(j:Int) < (m.parts.length:Int):=by omega
        obtain ⟨p,hpj⟩:∃ p,m.parts[j]? = some p:=⟨_,List.getElem?_eq_getElem hlt⟩
        obtain ⟨⟨p1,p2,p3,p4,p5⟩,_⟩:=zaN m.parts m.lo j p OK.out.parts hpj
        obtain ⟨a1,c1,e1,_,_,hx⟩:=PA.out.keepNon hk
        injection e1 with e1 e3 e4
        subst e1
        subst e4
        obtain ⟨g,off,rfl,hcell⟩:=hx j p hpj
        have hld:=load101 wr g (off+j * 35) p p5 hcell
        have hsp:=zas wr p p5
        have q1:=ptc_1 p
        have q2:=ptc_2 p
        unfold zPt PtB at hsp
        have hw6:=wrap64 (n:=p.many) (by omega)
        have hw7:=wrap64 (n:=p.size) (by omega)
        have TK:=zz0 (zgq m.parts j p hpj)
        clear hx hcell hpj hk hb ho
        obtain ⟨L,hL⟩:∃ L,L=(T0 ++ ptsB (m.parts.take j)).length:=⟨_,rfl⟩
        have hLb:L≤3300:=by rw [hL,List.length_append];omega
        obtain ⟨M,hM⟩:∃ M,M=(T0 ++ ptsB (m.parts.take j) ++ vputs [p.many,p.size]).length:=⟨_,rfl⟩
        have hMb:M≤3400:=by have:=zaB [p.many,p.size] (by intro n hn;simp at hn;omega);rw [hM,List.length_append,← hL];simp at this;omega
        have PP2:Hid (Calls Tryz.prog 193 #[.slice ba L bc,.slice (some ⟨wr.heap.size+1,0,none⟩) 2 2] ((wr.alloc (.cells (ptC p).toArray 106)).alloc (.cells #[.int .u64 p.many,.int .u64 p.size] 162)).drew fun e w'=>∃ a' c',e = .returned (.slice a' M c')∧Keep Non wr w'∧w'.heap[wr.heap.size]? = some (PtB p)∧w'.ownsRow wr.heap.size 5 1 (.slice a' M c') M ((T0 ++ ptsB (m.parts.take j) ++ vputs [p.many,p.size]).map bv)∧∀ g,(Value.slice a' M c').ownBlock=some g→g≠wr.heap.size):=zz0 (by
          have kk:Keep Non wr ((wr.alloc (.cells (ptC p).toArray 106)).alloc (.cells #[.int .u64 p.many,.int .u64 p.size] 162)).drew:=(((Keep.refl Non wr).alloc _).alloc _).drew
          have o:=O.out
          rw [← hL] at o
          refine (zat _ _ (some ⟨wr.heap.size+1,0,none⟩) 2 [p.many,p.size] _ ((Rd.ofOwns o).keepNon kk) (by rw [← hL];omega) (zk8 (vs:=[nv p.many,nv p.size]) (by have:=zab (wr.alloc (.cells (ptC p).toArray 106)) (.cells #[.int .u64 p.many,.int .u64 p.size] 162 (0,0));rwa [World.size_alloc] at this)) (by intro n hn;simp at hn;omega) (by simp)).mono ?_
          rintro e w' ⟨v',rfl,k,o⟩
          rw [← hM] at o
          obtain ⟨a',c',rfl,_,_⟩:=zaa o
          refine ⟨a',c',rfl,kk.trans1 k,nonAt k (zae (zab wr (PtB p)) _),zad o (by simp;omega),fun g e=>by have:=(o.lt g e).1;simp at this;omega⟩)
        rw [← hL]
        have HM:=zz0 hM
        have HL:=zz0 hL
        clear hM hL
        go_wp2_with fail
        go_region_law (first
          | (refine zay (by rfl) (.tmp 52) (.tmp 54) 44 (by rfl) wr.heap.size 5 j0 (.int .u8 0) 1 Tryz.underlying44 J0.out.1 J0.out.2.1 J0.out.2.2.1 J0.out.2.2.2 rfl (.slice a5 M c5) M ((T0 ++ ptsB (m.parts.take j) ++ vputs [p.many,p.size]).map bv) (by first | rfl | simp [Act.eval,Act.put]) (by exact O5.out) (.slice (some ⟨wr.heap.size,3,none⟩) 32 32) (by first | rfl | simp [Act.eval,Act.put]) (p.sum.map bv) (by exact S5.out) (zam _) (by rw [List.length_map,p5];unfold maxLen;omega) (by rw [List.length_map,p5];omega) (by have:=K5'.out.size;omega) ?_;intro v6 w6 ho hg hpp;have HO:=zz0 ho;have HG:=zz0 hg;clear ho hg hpp)
          | (go_simp;go_at_call 193;with_reducible refine PP2.out.mono ?_;rintro e w5 ⟨a5,c5,rfl,k5,b5,o5,n5⟩;have S5:=zz0 (znR b5 p5);have K5':=zz0 k5;have O5:=zz0 o5;have N5:=zz0 n5;clear k5 b5 o5 n5))
        all_goals
          go_wp2_with fail
          have kg:Keep (fun k=>(Value.slice a5 M c5).ownBlock=some k) w5 w6:=Keep.grown (Keep.refl _ _) HG.out (fun k e=>.inl e)
          have k6:Keep Non wr w6:=K5'.out.trans kg (fun _ _ e=>e) (fun g hg e=>by have:=(O5.out.lt g e).1;omega)
          have ho:=HO.out
          have e0:T0 ++ ptsB (m.parts.take j) ++ vputs [p.many,p.size] ++ p.sum=T0 ++ ptsB (m.parts.take (j+1)):=by rw [TK.out];simp [vputs]
          have e1:M+(p.sum.map bv).length=(T0 ++ ptsB (m.parts.take (j+1))).length:=by rw [← e0,List.length_append,← HM.out,List.length_map]
          rw [← List.map_append,e1,e0] at ho
          exact ⟨⟨j+1,by omega,by first | rfl | go_num,nonAt k6 B.out,K.out.trans1 k6,zad ho K.out.size⟩,by simp [intOf];omega⟩
      · obtain rfl:j=m.parts.length:=by omega
        have o:=O.out
        rw [List.take_length] at o ⊢
        have e0:T0 ++ ptsB m.parts=mfT m:=by rw [HT.out];simp [mfT,vputs]
        rw [e0] at o ⊢
        have hml:(mfT m).length≤65536:=by rw [← e0,List.length_append];rw [List.take_length] at hjl;omega
        have O6:=zz0 o
        clear o hk hb ho
        go_wp2_with (go_at_call 194;refine (zbs _ (mfT m) _ (Rd.ofOwns O6.out) hml).mono ?_;rintro e w7 ⟨v7,rfl,k7,o7⟩;have K7:=zz0 k7;have O7:=zz0 o7;clear k7 o7)
        go_ret2
        exact ⟨_,rfl,K.out.trans1 K7.out,zad O7.out K.out.size⟩
end
theorem list32:∀ (l:List UInt8),l.length=32→∃ d0 d1 d2 d3 d4 d5 d6 d7 d8 d9 d10 d11 d12 d13 d14 d15 d16 d17 d18 d19 d20 d21 d22 d23 d24 d25 d26 d27 d28 d29 d30 d31,l = [d0,d1,d2,d3,d4,d5,d6,d7,d8,d9,d10,d11,d12,d13,d14,d15,d16,d17,d18,d19,d20,d21,d22,d23,d24,d25,d26,d27,d28,d29,d30,d31]
  | l,h=>⟨l[0],l[1],l[2],l[3],l[4],l[5],l[6],l[7],l[8],l[9],l[10],l[11],l[12],l[13],l[14],l[15],l[16],l[17],l[18],l[19],l[20],l[21],l[22],l[23],l[24],l[25],l[26],l[27],l[28],l[29],l[30],l[31],by
    apply List.ext_getElem
    · exact h
    · intro i h1 h2
      simp only [List.length_cons,List.length_nil] at h2
      have h3:i < 32:=by omega
      revert h1 h2
      match i,h3 with
      | 0,_=>intros;rfl
      | 1,_=>intros;rfl
      | 2,_=>intros;rfl
      | 3,_=>intros;rfl
      | 4,_=>intros;rfl
      | 5,_=>intros;rfl
      | 6,_=>intros;rfl
      | 7,_=>intros;rfl
      | 8,_=>intros;rfl
      | 9,_=>intros;rfl
      | 10,_=>intros;rfl
      | 11,_=>intros;rfl
      | 12,_=>intros;rfl
      | 13,_=>intros;rfl
      | 14,_=>intros;rfl
      | 15,_=>intros;rfl
      | 16,_=>intros;rfl
      | 17,_=>intros;rfl
      | 18,_=>intros;rfl
      | 19,_=>intros;rfl
      | 20,_=>intros;rfl
      | 21,_=>intros;rfl
      | 22,_=>intros;rfl
      | 23,_=>intros;rfl
      | 24,_=>intros;rfl
      | 25,_=>intros;rfl
      | 26,_=>intros;rfl
      | 27,_=>intros;rfl
      | 28,_=>intros;rfl
      | 29,_=>intros;rfl
      | 30,_=>intros;rfl
      | 31,_=>intros;rfl
      | i+32,h3=>exact absurd h3 (by omega)
⟩
theorem zhN (f m s:Int) (D:List UInt8) (h:D.length=32) (w:World):(Instr.build 106 #[(0,.int .i64 f),(1,.int .i64 m),(2,.int .i64 s),(3,arrV D)]).run Tryz.prog w = .ok (.agg (.int .i64 f :: .int .i64 m :: .int .i64 s :: D.map bv).toArray) w:=by
  obtain ⟨d0,d1,d2,d3,d4,d5,d6,d7,d8,d9,d10,d11,d12,d13,d14,d15,d16,d17,d18,d19,d20,d21,d22,d23,d24,d25,d26,d27,d28,d29,d30,d31,rfl⟩:=list32 D h
  exact run_build w 106 _ _ (by kernel_rfl)
def holdB (t:TypeId) (parts:Array (Nat × Value)):Sem Value:=Instr.build t parts
theorem hB106 (parts:Array (Nat × Value)):Instr.build 106 parts=holdB 106 parts:=rfl
theorem hB87 (parts:Array (Nat × Value)):Instr.build 87 parts=holdB 87 parts:=rfl
def ptOf (f:Nat) (cl:List Cl):Pt:=⟨f,cl.length,(segB f cl).length,digB (shaS (segB f cl))⟩
theorem zl1 (f:Nat) (cl:List Cl) (w:World):(holdB 106 #[(0,.int .i64 f),(1,.int .i64 cl.length),(2,.int .i64 (segB f cl).length),(3,arrV (digB (shaS (segB f cl))))]).run Tryz.prog w = .ok (ptV (ptOf f cl)) w :=
  zhN _ _ _ _ (zal _) w
section
attribute [local go_sem ↓] hV84 hV106 hV87 hW84 hW106 hW87 hB106 hB87
theorem zpZ (f:Nat) (v:Value) (cl:List Cl) (w:World) (h:CsAt w v cl) (hne:cl≠[]) (hl:cl.length≤64) (hok:∀ x ∈ cl,okCl x) (hf:f+cl.length≤1048576) (hb:(vput f ++ runB cl).length≤65536) (hs:(segB f cl).length≤131072) (hK:Kon w) (hF:Frs w) :
    Calls Tryz.prog 265 #[.agg #[.int .i64 f,v]] w fun e w'=>∃ v',e = .returned (.tuple #[ptV (ptOf f cl),v',.nilIface])∧Keep Non w w'∧w'.ownsRow w.heap.size 5 1 v' (segB f cl).length ((segB f cl).map bv):=by
  have PU:=zz0 (fun w1 (k:Keep Non w w1)=>zna f v cl w1 (h.keepNon k) hl hok hf hb)
  have HKF:=zz0 (And.intro hK hF)
  have hbu:=zl1 f cl
  have hn0:((cl.length:Int) == 0)=false:=by
    have:=List.length_pos_iff.2 hne
    simp;exact hne
  obtain ⟨a,c,rfl,hc,ha,hx⟩:=h
  clear hx hne hK hF
  go_enter Tryz.func265,Tryz.ntmps265
  go_wp2_with (first
    | (go_at_call 326;refine (PU.out _ (((Keep.refl _ _).alloc _).alloc _)).mono ?_;rintro e w1 ⟨v1,rfl,k1,o1⟩;obtain ⟨a1,c1,rfl,_,_⟩:=zaa o1;have b1:=nonAt k1 (zae (zab w (SgB f (.slice a cl.length c))) _);have z1:w1.heap[w.heap.size+1]? = some (.cells zPt 106 (0,0)):=nonAt k1 (by exact zaA _ _ _);have c0:=sg_0 b1;have c1':=sg_1 b1;have B1:=zz0 b1;have Z1:=zz0 z1;have K1:Hid (Keep Non w w1):=zz0 ((((Keep.refl Non w).alloc _).alloc _).trans1 k1);have O1:Hid (w1.ownsRow w.heap.size 5 1 (.slice a1 (segB f cl).length c1) (segB f cl).length ((segB f cl).map bv)):=zz0 (zad o1 (by simp;omega));have N1:Hid (∀ g,(Value.slice a1 (segB f cl).length c1).ownBlock=some g→g≠w.heap.size+1):=zz0 (fun g e=>by have:=(o1.lt g e).1;simp at this;omega);clear k1 o1 b1 z1))
  go_region_law (go_simp;go_at_call 160;(refine (zfR (segB f cl) a1 c1 w1.drew (by exact Rd.keepNon (Rd.ofOwns O1.out) ((Keep.refl Non w1).drew)) (HKF.out.1.keep (K1.out.trans1 ((Keep.refl Non w1).drew))) (HKF.out.2.keep (K1.out.trans1 ((Keep.refl Non w1).drew))) hs).mono ?_;rintro e w2 ⟨rfl,k2⟩;have k2':Keep Non w1 w2:=((Keep.refl Non w1).drew).trans1 k2;have b2:=nonAt k2' B1.out;have z2:=nonAt k2' Z1.out;have d0:=sg_0 b2;have d1:=sg_1 b2;have hst:=zcq w2 (w.heap.size+1) (ptOf f cl) zPt (zal _) rfl z2;have hld:=zaG (p:=ptOf f cl) (setRow_heap w2 (w.heap.size+1) _ (ptC (ptOf f cl)).toArray _ _ z2) (zal _);have B2:=zz0 b2;have K2:=zz0 k2';clear k2 k2' b2 z2))
  all_goals
    go_wp2_with fail
    have hlv:(loadVar 106 ⟨w.heap.size+1,0,none⟩).run Tryz.prog (w2.setRow (w.heap.size+1) (ptC (ptOf f cl)).toArray) = .ok (ptV (ptOf f cl)) _:=hld
    refine bodyPost_ret (v:=.tuple #[ptV (ptOf f cl),.slice a1 (segB f cl).length c1,.nilIface]) (by simp [results,Tryz.results265,asAddr,hlv,Act.put]) rfl ?_
    have ks:Keep Non w (w2.setRow (w.heap.size+1) (ptC (ptOf f cl)).toArray):=(K1.out.trans1 K2.out).setRow (.inr (by omega)) _
    have k3:Keep (One (w.heap.size+1)) w2 (w2.setRow (w.heap.size+1) (ptC (ptOf f cl)).toArray):=(Keep.refl (One (w.heap.size+1)) _).setRow (.inl (zar _)) _
    exact ⟨_,rfl,ks,zac (zac O1.out K2.out (fun _ _ e=>e)) k3 (fun g e e2=>N1.out g e e2)⟩
end
theorem zkH (D E:List UInt8) (hD:D.length=32) (hE:E.length=32) (w:World):(binOp BinOp.neq 84 (arrV D) (arrV E)).run Tryz.prog w = .ok (.bool (!(D == E))) w:=by
  have h:=zj5 D E hD hE
  unfold arrV at h ⊢
  simp [go_sem,h]
theorem zob (D E:List UInt8) (hD:D.length=32) (hE:E.length=32) (w:World):(binOp BinOp.eql 84 (arrV D) (arrV E)).run Tryz.prog w = .ok (.bool (D == E)) w:=by
  have h:=zj5 D E hD hE
  unfold arrV at h ⊢
  simp [go_sem,h]
theorem zd7 (o:BinOp) (x y:Operand) (D E:List UInt8) (w:World):(eqGuard o 84 x y (arrV D) (arrV E)).run Tryz.prog w = .ok () w:=by
  unfold arrV
  simp [go_sem,eqGuard]
section
attribute [local go_sem ↓] hV84 hV106 hV87 hW84 hW106 hW87 hB106 hB87
theorem zeh (f:Nat) (v:Value) (cl:List Cl) (w:World) (h:Bs w v (segB f cl)) (hc:okc v) (hv:∀ g,v.ownBlock=some g→g < w.heap.size) (hl:cl.length≤64) (hok:∀ x ∈ cl,okCl x) (hf:f+cl.length≤1048576) (hb:(vput f ++ runB cl).length≤65536) (hs:(segB f cl).length≤131072) (hK:Kon w) (hF:Frs w) :
    Calls Tryz.prog 105 #[ptV (ptOf f cl),v] w fun e w'=>∃ v',e = .returned (.tuple #[.agg #[.int .i64 f,v'],.nilIface])∧Keep Non w w'∧∃ xs,w'.ownsRow w.heap.size 60 2 v' cl.length xs∧CellsOf w.heap.size Non w' xs cl:=by
  have TA:=zz0 (fun w1 (k:Keep Non w w1)=>zlh f v cl w1 (h.keepNon k) hc (fun g e=>k.lt (hv g e)) hl hok hf hb)
  have HKF:=zz0 (And.intro hK hF)
  have HB:=zz0 h
  obtain ⟨a,c,rfl,_⟩:=zaw h
  have heq:=zkH (digB (shaS (segB f cl))) (digB (shaS (segB f cl))) (zal _) (zal _)
  rw [beq_self_eq_true,Bool.not_true] at heq
  have hgd:=zd7
  have q0:(ptC (ptOf f cl))[0]? = some (.int .i64 f):=rfl
  have q1:(ptC (ptOf f cl))[1]? = some (.int .i64 cl.length):=rfl
  have q2:(ptC (ptOf f cl))[2]? = some (.int .i64 (segB f cl).length):=rfl
  clear h hc hv hK hF
  unfold ptV
  go_enter Tryz.func105,Tryz.ntmps105
  go_wp2_with fail
  have b1:((w.alloc (.cells (ptC (ptOf f cl)).toArray 106)).alloc (.cells #[.int .i64 0,.slice none 0 0] 109)).heap[w.heap.size]? = some (PtB (ptOf f cl)):=zae (zab w (PtB (ptOf f cl))) _
  have g1:((w.alloc (.cells (ptC (ptOf f cl)).toArray 106)).alloc (.cells #[.int .i64 0,.slice none 0 0] 109)).heap[w.heap.size+1]? = some (SgB 0 (.slice none 0 0)):=zaA _ _ _
  have kA:Keep Non w ((w.alloc (.cells (ptC (ptOf f cl)).toArray 106)).alloc (.cells #[.int .i64 0,.slice none 0 0] 109)):=((Keep.refl _ _).alloc _).alloc _
  have sz:w.heap.size+2≤((w.alloc (.cells (ptC (ptOf f cl)).toArray 106)).alloc (.cells #[.int .i64 0,.slice none 0 0] 109)).heap.size:=by simp
  generalize ((w.alloc (.cells (ptC (ptOf f cl)).toArray 106)).alloc (.cells #[.int .i64 0,.slice none 0 0] 109))=wA at b1 g1 kA sz ⊢
  have c0:=pt_0 b1
  have c1:=pt_1 b1
  have c2:wA.cell? ⟨w.heap.size,2,none⟩=some (.int .i64 (segB f cl).length):=pt_2 b1
  have hlA:(holdV 84 ⟨w.heap.size,3,none⟩).run Tryz.prog wA.drew = .ok (arrV (digB (shaS (segB f cl)))) wA.drew:=load81 wA.drew w.heap.size 3 _ (zal _) (zig (p:=ptOf f cl) (w:=wA.drew) b1)
  have SM:=zz0 (zfR (segB f cl) a c wA.drew (Rd.keepNon HB.out (kA.trans1 (Keep.refl Non wA).drew)) (HKF.out.1.keep (kA.trans1 (Keep.refl Non wA).drew)) (HKF.out.2.keep (kA.trans1 (Keep.refl Non wA).drew)) hs)
  have KA:=zz0 kA
  have B1:=zz0 b1
  have G1:=zz0 g1
  have SZ:=zz0 sz
  clear kA b1 g1 sz
  go_region_law (go_simp;go_at_call 160;refine SM.out.mono ?_;rintro e w2 ⟨rfl,k2⟩;have k2':Keep Non wA w2:=((Keep.refl Non wA).drew).trans1 k2;have b2:=nonAt k2' B1.out;have hl2:(holdV 84 ⟨w.heap.size,3,none⟩).run Tryz.prog w2 = .ok (arrV (digB (shaS (segB f cl)))) w2:=load81 w2 w.heap.size 3 _ (zal _) (zig (p:=ptOf f cl) b2);have B2:=zz0 b2;have G2:=zz0 (nonAt k2' G1.out);have K2:=zz0 (KA.out.trans1 k2');have Z2:Hid (w.heap.size+2≤w2.heap.size):=zz0 (Nat.le_trans SZ.out k2'.size);clear k2 k2' b2)
  all_goals go_wp2_with (first
    | (go_at_call 161;refine (TA.out _ K2.out).mono ?_;rintro e w3 ⟨v3,rfl,k3,xs,o3,q3⟩;obtain ⟨a3,c3,rfl,_,_⟩:=zaa o3;have k4:Keep Non w3 (w3.alloc (.cells #[.int .i64 f,.slice a3 cl.length c3] 109)):=(Keep.refl _ _).alloc _;have b4:=nonAt k4 (nonAt k3 B2.out);have g4:=nonAt k4 (nonAt k3 G2.out);have d0:(w3.alloc (.cells #[.int .i64 f,.slice a3 cl.length c3] 109)).cell? ⟨w.heap.size,0,none⟩=some (.int .i64 f):=pt_0 b4;have d1:(w3.alloc (.cells #[.int .i64 f,.slice a3 cl.length c3] 109)).cell? ⟨w.heap.size,1,none⟩=some (.int .i64 cl.length):=pt_1 b4;have e0:=sg_0 g4;have e1:=sg_1 g4;have f0:=sg_f g4 0;have f1:=sg_f g4 1;have x0:=sg_0 (zaz g4 f);have x1:=sg_1 (zaV (zaz g4 f) (.slice a3 cl.length c3));have Z3:Hid (w.heap.size+2≤w3.heap.size):=zz0 (Nat.le_trans Z2.out k3.size);have K3:=zz0 (K2.out.trans1 k3);have O3:=zz0 o3;have Q3:=zz0 q3;clear k3 k4 o3 q3 b4 g4))
  all_goals
    refine bodyPost_ret (v:=.tuple #[.agg #[.int .i64 f,.slice a3 cl.length c3],.nilIface]) (by simp [results,Tryz.results105,go_sem,x0,x1]) rfl ?_
    have z2:=Z2.out
    have z3:=Z3.out
    have h2:=K2.out.size
    have ka:Keep Non w3 (w3.alloc (.cells #[.int .i64 f,.slice a3 cl.length c3] 109)):=(Keep.refl _ _).alloc _
    have kf:Keep (One (w.heap.size+1)) (w3.alloc (.cells #[.int .i64 f,.slice a3 cl.length c3] 109)) (((w3.alloc (.cells #[.int .i64 f,.slice a3 cl.length c3] 109)).setCell ⟨w.heap.size+1,0,none⟩ (.int .i64 f)).setCell ⟨w.heap.size+1,1,none⟩ (.slice a3 cl.length c3)):=((Keep.refl _ _).setOne _ _).setOne _ _
    refine ⟨_,rfl,(K3.out.trans1 ka).trans kf (fun _ _ e=>e) (fun g hg e=>by have e':g=w.heap.size+1:=e;omega),xs,zad (zac (zac O3.out ka (fun _ _ e=>e)) kf (fun g e e2=>by have:=(O3.out.lt g e).1;have e':g=w.heap.size+1:=e2;omega)) (by omega),((Q3.out.keep (S':=Non) ka (fun _ _ e=>e) (fun _ _ e=>e)).keep (S':=Non) kf (fun g g1 e=>by have e':g=w.heap.size+1:=e;omega) (fun _ _ e=>e)).low (by omega) (fun _ e=>e)⟩
end
theorem zds {α:Type} (k:Nat) (f:α→List Value):∀ (l:List α),(∀ x ∈ l,(f x).length=k)→∀ (j i:Nat) (x:α),l[j]? = some x→i < k→(l.flatMap f)[j * k+i]? = (f x)[i]?
  | [],_,j,i,x,h,_=>by simp at h
  | y :: r,hl,0,i,x,h,hi=>by
    simp at h
    subst h
    rw [List.flatMap_cons,Nat.zero_mul,Nat.zero_add,List.getElem?_append_left (by rw [hl y (by simp)];exact hi)]
  | y :: r,hl,j+1,i,x,h,hi=>by
    rw [List.getElem?_cons_succ] at h
    rw [List.flatMap_cons,List.getElem?_append_right (by rw [hl y (by simp),Nat.succ_mul];omega),hl y (by simp),show (j+1) * k+i - k=j * k+i by rw [Nat.succ_mul];omega]
    exact zds k f r (fun x hx=>hl x (by simp [hx])) j i x h hi
theorem zcK {α:Type} (k:Nat) (f:α→List Value):∀ (l:List α),(∀ x ∈ l,(f x).length=k)→(l.flatMap f).length=l.length * k
  | [],_=>by simp
  | y :: r,hl=>by
    rw [List.flatMap_cons,List.length_append,hl y (by simp),zcK k f r (fun x hx=>hl x (by simp [hx])),List.length_cons,Nat.succ_mul]
    omega
theorem ze2 {α:Type} (k:Nat) (f:α→List Value) (l:List α) (hl:∀ x ∈ l,(f x).length=k) (hk:0 < k) (n:Nat) (u:Value) (h:(l.flatMap f)[n]? = some u):∃ x,l[n / k]? = some x∧(f x)[n % k]? = some u:=by
  obtain ⟨hn,_⟩:=List.getElem?_eq_some_iff.1 h
  rw [zcK k f l hl] at hn
  have hj:n / k < l.length:=Nat.div_lt_of_lt_mul (by rw [Nat.mul_comm];exact hn)
  refine ⟨l[n / k],List.getElem?_eq_getElem hj,?_⟩
  rw [← zds k f l hl (n / k) (n % k) _ (List.getElem?_eq_getElem hj) (Nat.mod_lt _ hk),Nat.mul_comm,Nat.div_add_mod]
  exact h
def ptsC (l:List Pt):List Value:=l.flatMap ptC
def pts32 (l:List Pt):Prop:=∀ p ∈ l,p.sum.length=32
theorem zmO {l:List Pt} (h:pts32 l):(ptsC l).length=l.length * 35:=zcK 35 ptC l (fun p hp=>zbq (h p hp))
theorem zmP (l:List Pt):∀ u ∈ ptsC l,u.oneCell'=true:=by
  intro u hu
  obtain ⟨p,_,hu⟩:=List.mem_flatMap.1 hu
  have:=zhf p
  rw [List.all_toArray,List.all_eq_true] at this
  exact this u hu
theorem PtsAt.of {B:Nat} {w:World} {v:Value} {l:List Pt} (h:w.ownsRow B 106 35 v l.length (ptsC l)) (h32:pts32 l):PtsAt w v l:=by
  rcases h.2 with ⟨hv,hn⟩ | ⟨g,cap,cur,rfl,_,hg,hn,_,_,htake⟩
  · obtain rfl:l = []:=List.eq_nil_of_length_eq_zero (by omega)
    exact ⟨none,0,by rw [hv];rfl,by simp,fun ad e=>(by cases e),fun j p hj=>by simp at hj⟩
  · refine ⟨some ⟨g,0,none⟩,cap,rfl,hn,fun ad e=>⟨g,0,by injection e with e;exact e.symm⟩,fun j p hj=>⟨g,0,rfl,fun i u hu=>?_⟩⟩
    have hi:i < 35:=by
      obtain ⟨h1,_⟩:=List.getElem?_eq_some_iff.1 hu
      rw [zbq (h32 p (List.mem_of_getElem? hj))] at h1
      exact h1
    have hc:=zds 35 ptC l (fun p hp=>zbq (h32 p hp)) j i p hj hi
    rw [hu] at hc
    rw [Nat.zero_add,World.cell?,hg]
    have hc':(ptsC l)[j * 35+i]? = some u:=hc
    rw [← htake,List.getElem?_take] at hc'
    split at hc'
    · simpa using hc'
    · cases hc'
theorem PtsAt.news {w:World} {a:Addr} {n c:Nat} {l:List Pt} (h:PtsAt w (.slice (some a) n c) l) (h32:pts32 l):n=l.length∧∀ (j:Nat) u,(ptsC l)[j]? = some u→w.cell? (a.add j)=some u:=by
  obtain ⟨a',c',e,_,ha,hx⟩:=h
  injection e with e1 e2 e3
  refine ⟨e2,fun j u hu=>?_⟩
  obtain ⟨g,off,rfl⟩:=ha a e1.symm
  obtain ⟨p,hp,hu'⟩:=ze2 35 ptC l (fun p hp=>zbq (h32 p hp)) (by decide) j u hu
  obtain ⟨g',off',e4,hc⟩:=hx _ p hp
  rw [← e1] at e4
  injection e4 with e4
  injection e4 with e4 e5
  subst e4
  subst e5
  have:=hc _ u hu'
  rw [zau,show off+j=off+j / 35 * 35+j % 35 by have:=Nat.div_add_mod j 35;omega]
  exact this
theorem infoPt:(Tryz.prog.info? 106).map (fun i=>(i.zero,i.size,i.bytes))=some (some (.agg zPt),35,56):=by kernel_rfl
theorem zcH (v:Value) (l:List Pt) (w:World) (h:PtsAt w v l) (h32:pts32 l) (hlen:l.length≤10000) :
    Calls Tryz.prog 80 #[v] w fun e w'=>∃ v',e = .returned v'∧Keep Non w w'∧w'.ownsRow w.heap.size 106 35 v' l.length (ptsC l):=by
  have h0:=h
  obtain ⟨a,c,rfl,hc,ha,hx⟩:=h
  have hq:=fun (w:World)=>Lib.run_eql_slice_nil (P:=Tryz.prog) w 85 106 a l.length c 0 0 Tryz.underlying85
  clear hx ha
  cases a with
  | none =>
    have hl:l = []:=by
      obtain ⟨_,_,e1,_,_,hx⟩:=h0
      cases l with
      | nil=>rfl
      | cons p r =>
        injection e1 with e1
        obtain ⟨g,off,e2,_⟩:=hx 0 p rfl
        rw [← e1] at e2
        cases e2
    subst hl
    simp only [List.length_nil] at hq ⊢
    go_enter Tryz.func80,Tryz.ntmps80
    go_wp2
    go_ret
    exact ⟨_,rfl,Keep.refl _ _,World.ownsRow_nil _ _ _ _⟩
  | some a =>
    obtain ⟨i0,hi,hz0,hz1,hz2⟩:=info_parts infoPt
    have hnews:=(PtsAt.news (h0.keepNon ((Keep.refl Non w).alloc (.cells #[] 106))) h32).2
    have HN:=zz0 hnews
    have HL:=zz0 hlen
    have H3:=zz0 (zmO h32)
    have hown:Hid ((w.alloc (.cells #[] 106)).ownsRow w.heap.size 106 35 (.slice (some ⟨w.heap.size,0,none⟩) 0 0) 0 []):=World.ownsRow_made w #[] 0 (Nat.le_refl _) (by decide) rfl
    clear hnews h0 hlen
    go_enter Tryz.func80,Tryz.ntmps80
    go_wp2_with (at_builtin;refine zaj rfl _ _ 85 rfl w.heap.size 106 i0 (.agg zPt) 35 56 Tryz.underlying85 hi hz0 hz1 hz2 rfl (by decide) _ _ _ rfl hown.out a l.length c (ptsC l) rfl H3.out HN.out (zmP l) (by have:=HL.out;unfold maxLen;omega) (by have:=HL.out;omega) (by simp) ?_;intro v' w' ho hg hp;have HO:=zz0 ho;have HP:=zz0 hp;clear ho hp)
    go_ret
    have hk:Keep Non w w':=by
      have:=((Keep.refl Non w).alloc (.cells #[] 106)).trans ((Keep.refl (One w.heap.size) _).grown hg (row:=some w.heap.size) (fun k e=>.inl (by injection e with e;exact e.symm))) (U:=Non) (fun _ _ h=>h) (fun i hi h=>by unfold One at h;omega)
      exact this
    have ho:=HO.out
    rw [List.nil_append,Nat.zero_add] at ho
    exact ⟨v',rfl,hk,ho⟩
theorem zh7 {w:World} {b:Nat} {m:Mf} {pv:Value} (h:w.heap[b]? = some (MfB m pv)) (hl:m.prev.length=32) (v:Value):(w.setCell ⟨b,36,none⟩ v).heap[b]? = some (MfB m v):=by
  have h2:=zaf h 36 v
  have e:((mfC m pv).toArray.setIfInBounds 36 v)=(mfC m v).toArray:=by
    rw [List.setIfInBounds_toArray]
    congr 1
    simp only [mfC,List.set_cons_succ]
    rw [List.set_append_right _ _ (by rw [List.length_map,hl];exact Nat.le_refl _),List.length_map,hl]
    rfl
  rw [e] at h2
  exact h2
section
attribute [local go_sem ↓] hV84 hV106 hV87 hW84 hW106 hW87 hB106 hB87
theorem zfG (m:Mf) (pv:Value) (w:World) (h:PtsAt w pv m.parts) (hp:m.prev.length=32) (h32:pts32 m.parts) (hlen:m.parts.length≤10000) :
    Calls Tryz.prog 33 #[mfV m pv] w fun e w'=>∃ v',e = .returned (mfV m v')∧Keep Non w w'∧w'.ownsRow w.heap.size 106 35 v' m.parts.length (ptsC m.parts):=by
  have CL:=zz0 (fun w1 (k:Keep Non w w1)=>zcH pv m.parts w1 (h.keepNon k) h32 hlen)
  have q36:=ze9 m pv hp
  obtain ⟨a,c,rfl,hc,ha,hx⟩:=h
  clear hx ha
  unfold mfV
  go_enter Tryz.func33,Tryz.ntmps33
  go_wp2_with (first
    | (go_at_call 80;refine (CL.out _ (((Keep.refl _ _).alloc _).alloc _)).mono ?_;rintro e w1 ⟨v1,rfl,k1,o1⟩;obtain ⟨a1,c1,rfl,_,_⟩:=zaa o1;have b1:=nonAt k1 (zae (zab w (MfB m (.slice a m.parts.length c))) _);have z1:w1.heap[w.heap.size+1]? = some (.cells zMf 87 (0,0)):=nonAt k1 (by exact zaA _ _ _);have c36:=mf_36 b1 hp;have f36:=mf_f b1 36;have b2:=zh7 b1 hp (.slice a1 m.parts.length c1);have hld:=zan b2 hp;have z2:(w1.setCell ⟨w.heap.size,36,none⟩ (.slice a1 m.parts.length c1)).heap[w.heap.size+1]? = some (.cells zMf 87 (0,0)):=((Keep.refl (One w.heap.size) w1).setOne 36 (.slice a1 m.parts.length c1)).at z1 (by unfold One;omega);have hst:=zaT _ _ m a1 m.parts.length c1 zMf hp rfl z2;unfold mfV at hld hst;have hlr:=zan (m:=m) (pv:=.slice a1 m.parts.length c1) (setRow_heap _ (w.heap.size+1) _ (mfC m (.slice a1 m.parts.length c1)).toArray _ _ z2) hp;have HLR:=zz0 hlr;have K1:Hid (Keep Non w w1):=zz0 ((((Keep.refl Non w).alloc _).alloc _).trans1 k1);have Z1:Hid (w.heap.size+2≤w1.heap.size):=zz0 (by have:=k1.size;simpa using this);have O1:Hid (w1.ownsRow (w.heap.size+2) 106 35 (.slice a1 m.parts.length c1) m.parts.length (ptsC m.parts)):=zz0 (zad o1 (by simp));clear k1 o1 b1 z1 b2 z2 hlr))
  have hlv:=HLR.out
  unfold holdV at hlv
  refine bodyPost_ret (v:=mfV m (.slice a1 m.parts.length c1)) (by simp [results,Tryz.results33,asAddr,hlv]) rfl ?_
  have k2:Keep (fun g=>g=w.heap.size∨g=w.heap.size+1) w1 ((w1.setCell ⟨w.heap.size,36,none⟩ (.slice a1 m.parts.length c1)).setRow (w.heap.size+1) (mfC m (.slice a1 m.parts.length c1)).toArray):=(((Keep.refl (One w.heap.size) w1).setOne 36 _).mono (fun _ _ e=>.inl e)).setRow (.inl (.inr rfl)) _
  have hz:=Z1.out
  exact ⟨_,rfl,K1.out.trans k2 (fun _ _ e=>e) (fun g hg e=>by omega),zad (zac O1.out k2 (fun g e e2=>by have:=(O1.out.lt g e).1;omega)) (by omega)⟩
end
end Go.Proofs.YtnboipdpccnedaaGreatDoor
