/- Segments: Check, Put, At: walked. -/
import Derived.Test.YtnboipdpccnedaaGreatDoorQ12
set_option linter.unusedVariables false
set_option maxRecDepth 100000
set_option maxHeartbeats 16000000
namespace Go.Proofs.YtnboipdpccnedaaGreatDoor
open Go.RowKit
def segB (f:Nat) (cl:List Cl):List UInt8:=frameB (vput f ++ runB cl)
theorem nonAt {w w':World} {b:Nat} {o:Obj} (k:Keep Non w w') (h:w.heap[b]? = some o):w'.heap[b]? = some o:=k.at h (fun e=>e)
theorem zlM (n:Nat):vputs [n]=vput n:=by simp [vputs]
theorem zaA (w:World) (a b:Obj):((w.alloc a).alloc b).heap[w.heap.size+1]? = some b:=by have:=zab (w.alloc a) b;rwa [show (w.alloc a).heap.size=w.heap.size+1 by simp] at this
def SgB (f:Nat) (v:Value):Obj:=.cells #[.int .i64 f,v] 109 (0,0)
section
variable {w : World} {p f : Nat} {v : Value}
theorem sg_0 (h:w.heap[p]? = some (SgB f v)):w.cell? ⟨p,0,none⟩=some (.int .i64 f):=by simp [World.cell?,h,SgB]
theorem sg_f (h:w.heap[p]? = some (SgB f v)) (i:Nat):w.frozen? ⟨p,i,none⟩=false:=by simp [World.frozen?,h,SgB]
theorem zaz (h:w.heap[p]? = some (SgB f v)) (j:Nat):(w.setCell ⟨p,0,none⟩ (.int .i64 j)).heap[p]? = some (SgB j v):=zaf h 0 _
theorem zaV (h:w.heap[p]? = some (SgB f v)) (u:Value):(w.setCell ⟨p,1,none⟩ u).heap[p]? = some (SgB f u):=zaf h 1 _
theorem sg_1 (h:w.heap[p]? = some (SgB f v)):w.cell? ⟨p,1,none⟩=some v:=by simp [World.cell?,h,SgB]
end
theorem zm9 (f:Nat) (a:Option Addr) (n c:Nat) (w:World) (hf:f+n≤1000000000) :
    Calls Tryz.prog 298 #[.agg #[.int .i64 f,.slice a n c]] w fun e w'=>e = .returned (.int .i64 ((f:Int)+n))∧Keep Non w w':=by
  go_enter Tryz.func298,Tryz.ntmps298
  go_wp2_with fail
  go_ret
  exact ⟨rfl,(Keep.refl _ _).alloc _⟩
theorem zfe (f:Nat) (v:Value) (cl:List Cl) (w:World) (h:CsAt w v cl) (hl:cl.length≤64) (hok:∀ x ∈ cl,okCl x) (hf:f+cl.length≤1048576) :
    Calls Tryz.prog 221 #[.agg #[.int .i64 f,v]] w fun e w'=>e = .returned .nilIface∧Keep Non w w':=by
  have H:=zz0 h
  obtain ⟨a,c,rfl,hc,ha,hx⟩:=h
  clear hx
  go_enter Tryz.func221,Tryz.ntmps221
  go_wp2_with (go_at_call 298;refine (zm9 f a cl.length c _ (by omega)).mono ?_;rintro e w1 ⟨rfl,k1⟩;have b1:=k1.at (zab w (SgB f (.slice a cl.length c))) (fun e=>e);have c1:=sg_1 b1;have K1:=zz0 (((Keep.refl Non w).alloc _).trans1 k1);clear k1 b1)
  go_loopw [30] (fun i wr=>∃ j:Nat,j≤cl.length∧i = .int .i64 j∧Keep Non w wr) (fun i _=>cl.length - (intOf i).toNat)
  case atStart=>exact ⟨0,by omega,rfl,K1.out⟩
  case round =>
    obtain ⟨j,hj,rfl,hk⟩:=hrel
    have K:=zz0 hk
    clear hk
    by_cases hlt:j < cl.length
    · have hlj:(j:Int) < (cl.length:Int):=by omega
      obtain ⟨a1,c1,e1,q1,q2,hx⟩:=H.out.keepNon K.out
      obtain ⟨g,off,s,rfl,d1,d2,d3,d4⟩:=hx j hlt
      have hce:=znL (hok _ (List.getElem_mem hlt))
      injection e1 with e1 e3 e4
      subst e1
      subst e4
      clear hx q1 q2 e3
      obtain ⟨a2,c2,rfl,_⟩:=zaw d3
      generalize cl[j].1=x at d1 hce
      generalize cl[j].2.length=n at d2 hce
      clear d3 d4
      have HCE:=zz0 hce
      clear hce
      go_wp2_with (go_at_call 62;refine (zci x a2 n c2 _).mono ?_;rw [HCE.out];rintro e w1 ⟨rfl,k1⟩;rw [zaK];have K1:=zz0 k1;clear k1)
      exact ⟨⟨j+1,by omega,by first | rfl | go_num,(K.out.alloc _).trans1 K1.out⟩,by simp [intOf];omega⟩
    · obtain rfl:j=cl.length:=by omega
      go_wp2_with fail
      go_ret
      exact ⟨rfl,K.out⟩
theorem zna (f:Nat) (v:Value) (cl:List Cl) (w:World) (h:CsAt w v cl) (hl:cl.length≤64) (hok:∀ x ∈ cl,okCl x) (hf:f+cl.length≤1048576) (hb:(vput f ++ runB cl).length≤65536) :
    Calls Tryz.prog 326 #[.agg #[.int .i64 f,v]] w fun e w'=>∃ v',e = .returned (.tuple #[v',.nilIface])∧Keep Non w w'∧w'.ownsRow w.heap.size 5 1 v' (segB f cl).length ((segB f cl).map bv):=by
  have H:=zz0 h
  have CK:=zz0 (fun w1 (k:Keep Non w w1)=>zfe f v cl w1 (h.keepNon k) hl hok hf)
  obtain ⟨a,c,rfl,hc,ha,hx⟩:=h
  clear hx
  go_enter Tryz.func326,Tryz.ntmps326
  go_wp2_with (first | (go_at_call 221;refine (CK.out _ ((Keep.refl _ _).alloc _)).mono ?_;rintro e w1 ⟨rfl,k1⟩;have b1:=k1.at (zab w (SgB f (.slice a cl.length c))) (fun e=>e);have c0:=sg_0 b1;have c1:=sg_1 b1;have B1:=zz0 b1;have K1:=zz0 (((Keep.refl Non w).alloc _).trans1 k1);clear k1 b1))
  have hw1:=wrap64 (n:=f) (by omega)
  have c1a:=sg_1 (nonAt (((Keep.refl Non w1).alloc (.cells #[.int .u64 f] 162))) B1.out)
  have hv3:(vput f).length≤3:=zao (by omega)
  go_region_with (first
    | (go_at_call 193;refine (zat (.slice none 0 0) [] (some ⟨_,0,none⟩) 1 [f] _ (Rd.nil _) (by simp) (by exact zcR _ _ _) (by intro n hn;simp at hn;omega) (by simp)).mono ?_;rintro e w2 ⟨v2,rfl,k2,o2⟩;have k2':Keep Non w1 w2:=(((Keep.refl Non w1).alloc _).drew).trans1 k2;have b2:=k2'.at B1.out (fun e=>e);have d0:=sg_0 b2;have d1:=sg_1 b2;have K2:=zz0 k2';have O2:=zz0 o2;clear k2 k2' o2 b2)
    | (go_at_call 361;(refine (zi6 (.slice a cl.length c) _ (vput f) cl _ (by have h0:=Rd.ofOwns O2.out;rw [List.nil_append,zlM] at h0;exact h0) (by omega) (H.out.keepNon (K1.out.trans1 K2.out)) hl hok).mono ?_;rintro e w3 ⟨v3,rfl,k3,o3⟩;have K3:=zz0 k3;have O3:=zz0 o3;clear k3 o3)))
  all_goals
    go_wp2_with (go_at_call 194;refine (zbs v3 (vput f ++ runB cl) _ (Rd.ofOwns O3.out) hb).mono ?_;rintro e w4 ⟨v4,rfl,k4,o4⟩;have K4:=zz0 k4;have O4:=zz0 o4;clear k4 o4)
    go_ret2
    exact ⟨_,rfl,((K1.out.trans1 K2.out).trans1 K3.out).trans1 K4.out,zad O4.out (by have h1:=K1.out.size;have h2:=K2.out.size;have h3:=K3.out.size;omega)⟩
theorem zo8 (f ad:Nat) (v:Value) (cl:List Cl) (w:World) (h:CsAt w v cl) (hl:cl.length≤64) (hok:∀ x ∈ cl,okCl x) (h1:f≤ad) (h2:ad - f < cl.length) (hf:f+cl.length≤1048576) :
    Calls Tryz.prog 226 #[.agg #[.int .i64 f,v],.int .i64 ad] w fun e w'=>∃ v',e = .returned (.tuple #[.agg #[.int .i64 cl[ad - f].1,v'],.bool true])∧Keep Non w w'∧w'.ownsRow w.heap.size 5 1 v' cl[ad - f].2.length (cl[ad - f].2.map bv):=by
  have H:=zz0 h
  obtain ⟨a,c,rfl,hc,ha,hx⟩:=h
  obtain ⟨g,off,s,rfl,d1,d2,d3,d4⟩:=hx (ad - f) h2
  clear hx
  have D:=zz0 d3
  obtain ⟨a2,c2,rfl,_⟩:=zaw d3
  have ka:Keep Non w ((w.alloc (Obj.cells #[Value.int IntKind.i64 f,Value.slice (some { block:=g,off:=off }) cl.length c] 109)).alloc (Obj.cells #[Value.int IntKind.i64 0,Value.slice none 0 0] 60)):=((Keep.refl _ _).alloc _).alloc _
  have KA:=zz0 ka
  replace d1:=(World.cell?_of_block (ka.block g (World.block_lt_of_cell? _ _ d1) (fun e=>e))).trans d1
  replace d2:=(World.cell?_of_block (ka.block g (World.block_lt_of_cell? _ _ d2) (fun e=>e))).trans d2
  have hl64:=(hok _ (List.getElem_mem h2)).2.2.1
  generalize hx:cl[ad - f]=x at d1 d2 D hl64 ⊢
  obtain ⟨k,t⟩:=x
  simp only at d1 d2 D hl64 ⊢
  clear ka d3 d4 ha hok hx
  go_enter Tryz.func226,Tryz.ntmps226
  go_wp2_with (go_at_call 232;go_loud (refine (zf4 k _ t _ (D.out.keepNon (by exact KA.out)) (by omega)).mono ?_;rintro e w1 ⟨v1,rfl,k1,o1⟩;obtain ⟨a1,c1,rfl,_,_⟩:=zaa o1;have b1:w1.heap[w.heap.size+1]? = some (ClB 0 (.slice none 0 0)):=nonAt k1 (by exact zaA _ _ _);have B1:=zz0 b1;have e0:=cl0 (k:=0) (v:=.slice none 0 0) b1;have e1:=cl1 (k:=0) (v:=.slice none 0 0) b1;have f0:=clf (k:=0) (v:=.slice none 0 0) b1 0;have f1:=clf (k:=0) (v:=.slice none 0 0) b1 1;have q0:=cl0 (zaY b1 k);have q1:=cl1 (zbd (zaY b1 k) (.slice a1 t.length c1));clear b1;have K1:=zz0 (KA.out.trans1 k1);have O1:=zz0 o1;clear k1 o1))
  refine bodyPost_ret (v:=.tuple #[.agg #[.int .i64 k,.slice a1 t.length c1],.bool true]) (by simp [results,Tryz.results226,go_sem,q0,q1]) rfl ?_
  have hs:w.heap.size+1+1≤w1.heap.size:=by have:=lt_of_block B1.out;omega
  refine ⟨_,rfl,?_,zad (zac (S:=One (w.heap.size+1)) O1.out (((Keep.refl _ _).setOne _ _).setOne _ _) (fun g e=>by have:=(O1.out.lt g e).1;simp at this;unfold One;omega)) (by simp;omega)⟩
  exact K1.out.trans (T:=One (w.heap.size+1)) (((Keep.refl _ _).setOne _ _).setOne _ _) (fun _ _ h=>h) (fun i hi h=>by unfold One at h;omega)
end Go.Proofs.YtnboipdpccnedaaGreatDoor
