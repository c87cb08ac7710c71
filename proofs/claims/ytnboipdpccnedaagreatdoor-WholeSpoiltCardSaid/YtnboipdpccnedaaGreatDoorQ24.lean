/- Chains: the last manifest, End, Mark, Begin, Head of none, follows none: walked. · chain.Check of at most one manifest; Head and Next of none: walked. -/
import Derived.Lib.AppendIntMem
import Derived.Test.YtnboipdpccnedaaGreatDoorQ23
set_option linter.unusedVariables false
set_option maxRecDepth 100000
set_option maxHeartbeats 16000000
namespace Go.Proofs.YtnboipdpccnedaaGreatDoor
open Go.RowKit
def MsAt (T:Nat→Prop) (w:World) (v:Value) (ms:List Mf):Prop:=∃ a c,v = .slice a ms.length c∧ms.length≤c∧(∀ ad,a=some ad→∃ g off,ad=⟨g,off,none⟩∧T g) ∧
  ∀ (j:Nat) m,ms[j]? = some m→m.prev.length=32∧∃ g off pa pc,a=some ⟨g,off,none⟩∧PtsAt w (.slice pa m.parts.length pc) m.parts∧(∀ g,(Value.slice pa m.parts.length pc).ownBlock=some g→T g)∧∀ (i:Nat) u,(mfC m (.slice pa m.parts.length pc))[i]? = some u→w.cell? ⟨g,off+j * 37+i,none⟩=some u
theorem MsAt.keep {S T:Nat→Prop} {w w':World} {v:Value} {ms:List Mf} (h:MsAt T w v ms) (k:Keep S w w') (hn:∀ g,T g→¬ S g):MsAt T w' v ms:=by
  obtain ⟨a,c,rfl,hc,ha,hx⟩:=h
  refine ⟨a,c,rfl,hc,ha,fun j m hj=>?_⟩
  obtain ⟨h32,g,off,pa,pc,rfl,h1,h2,h3⟩:=hx j m hj
  obtain ⟨g',off',e,ht⟩:=ha _ rfl
  injection e with e
  subst e
  exact ⟨h32,g,off,pa,pc,rfl,h1.keep k (fun g e=>hn g (h2 g e)),h2,fun i u hu=>(World.cell?_of_block (k.block g (World.block_lt_of_cell? _ _ (h3 i u hu)) (hn g ht))).trans (h3 i u hu)⟩
theorem MsAt.keepNon {T:Nat→Prop} {w w':World} {v:Value} {ms:List Mf} (h:MsAt T w v ms) (k:Keep Non w w'):MsAt T w' v ms:=h.keep k (fun _ _ e=>e)
def mf0:Mf:=⟨0,0,0,0,List.replicate 32 0,[]⟩
theorem zqj:zMf=(mfC mf0 (.slice none 0 0)).toArray:=by kernel_rfl
theorem zpX (m:Mf) (pv:Value) (w:World):(Instr.field 87 (mfV m pv) 2).run Tryz.prog w = .ok (.int .i64 m.hi) w:=by kernel_rfl
theorem zpY (m:Mf) (pv:Value) (w:World):(Instr.field 87 (mfV m pv) 3).run Tryz.prog w = .ok (.int .i64 m.trim) w:=by kernel_rfl
def lastM (ms:List Mf):Mf:=ms.getLast?.getD mf0
section
attribute [local go_sem ↓] hV84 hV106 hV87 hW84 hW106 hW87 hB106 hB87
theorem zdP (T:Nat→Prop) (v:Value) (ms:List Mf) (w:World) (h:MsAt T w v ms) (hn:ms.length≤1000000) :
    Calls Tryz.prog 130 #[v] w fun e w'=>∃ pa pc,e = .returned (mfV (lastM ms) (.slice pa (lastM ms).parts.length pc))∧Keep Non w w'∧PtsAt w' (.slice pa (lastM ms).parts.length pc) (lastM ms).parts∧(lastM ms).prev.length=32:=by
  have H:=zz0 h
  obtain ⟨a,c,rfl,hc,ha,hx⟩:=h
  have kA:Keep Non w ((w.alloc (.cells zMf 87)).alloc (.cells zMf 87)):=((Keep.refl _ _).alloc _).alloc _
  have z0:((w.alloc (.cells zMf 87)).alloc (.cells zMf 87)).heap[w.heap.size]? = some (.cells zMf 87 (0,0)):=zae (zab _ _) _
  have z1:((w.alloc (.cells zMf 87)).alloc (.cells zMf 87)).heap[w.heap.size+1]? = some (.cells zMf 87 (0,0)):=zaA _ _ _
  obtain ⟨wA,hwA⟩:∃ wA,wA=((w.alloc (.cells zMf 87)).alloc (.cells zMf 87)):=⟨_,rfl⟩
  have HWA:=zz0 hwA
  have kA':Keep Non w wA:=by rw [hwA];exact kA
  clear kA
  have kA:=kA'
  by_cases h0:ms = []
  · subst h0
    simp only [List.length_nil]
    have hl:=zan (w:=wA) (b:=w.heap.size+1) (m:=mf0) (pv:=.slice none 0 0) (by rw [hwA,z1,zqj];rfl) (List.length_replicate ..)
    have hs:=zaT wA w.heap.size mf0 none 0 0 zMf (List.length_replicate ..) rfl (by rw [hwA,z0])
    have hl2:=zan (w:=wA.setRow w.heap.size (mfC mf0 (.slice none 0 0)).toArray) (b:=w.heap.size) (m:=mf0) (pv:=.slice none 0 0) (setRow_heap _ _ _ _ _ _ (by rw [hwA,z0])) (List.length_replicate ..)
    have HL2:=zz0 hl2
    rw [hwA] at hl hs
    dsimp only [zMf] at hl hs
    clear hl2 hwA hx
    go_enter Tryz.func130,Tryz.ntmps130
    go_wp2_with fail
    have hlv:=HL2.out
    unfold holdV at hlv
    rw [HWA.out] at hlv
    dsimp only [zMf] at hlv
    refine bodyPost_ret (v:=mfV mf0 (.slice none 0 0)) (by simp [results,Tryz.results130,asAddr,hlv]) rfl ?_
    have k2:Keep (One w.heap.size) wA (wA.setRow w.heap.size (mfC mf0 (.slice none 0 0)).toArray):=(Keep.refl (One w.heap.size) _).setRow (.inl (zar _)) _
    have k3:Keep Non w (wA.setRow w.heap.size (mfC mf0 (.slice none 0 0)).toArray):=kA.trans k2 (fun _ _ e=>e) (fun g hg e=>by have e':g=w.heap.size:=e;omega)
    rw [HWA.out] at k3
    dsimp only [zMf] at k3
    exact ⟨none,0,rfl,k3,⟨none,0,rfl,Nat.le_refl _,fun ad e=>(by cases e),fun j p hj=>by simp [lastM,mf0] at hj⟩,List.length_replicate ..⟩
  · have hpos:0 < ms.length:=List.length_pos_iff.2 h0
    obtain ⟨m,hm⟩:∃ m,ms[ms.length - 1]? = some m:=⟨_,List.getElem?_eq_getElem (by omega)⟩
    have hlm:lastM ms=m:=by unfold lastM;rw [List.getLast?_eq_getElem?,hm];rfl
    obtain ⟨h32,g,off,pa,pc,rfl,h1,h2,h3⟩:=hx _ m hm
    rw [hlm]
    have hg:∀ (i:Nat) u,(mfC m (.slice pa m.parts.length pc))[i]? = some u→wA.cell? ⟨g,off+(ms.length - 1) * 37+i,none⟩=some u:=fun i u hu=>(World.cell?_of_block (kA'.block g (World.block_lt_of_cell? _ _ (h3 i u hu)) (fun e=>e))).trans (h3 i u hu)
    have hl:=load83 wA g (off+(ms.length - 1) * 37) m (.slice pa m.parts.length pc) h32 hg
    have hs:=zaT wA w.heap.size m pa m.parts.length pc zMf h32 rfl (by rw [hwA,z0])
    have hl2:=zan (w:=wA.setRow w.heap.size (mfC m (.slice pa m.parts.length pc)).toArray) (b:=w.heap.size) (m:=m) (pv:=.slice pa m.parts.length pc) (setRow_heap _ _ _ _ _ _ (by rw [hwA,z0])) h32
    have HL2:=zz0 hl2
    rw [hwA] at hl hs
    dsimp only [zMf] at hl hs
    have hn0:((ms.length:Int) == 0)=false:=by simp;omega
    have hge:(1:Int)≤ms.length:=by omega
    have htn:((ms.length:Int) - 1).toNat=ms.length - 1:=by omega
    have H1:=zz0 h1
    clear hl2 hwA hx h1 h2 h3 hg hm
    go_enter Tryz.func130,Tryz.ntmps130
    go_wp2_with fail
    have hlv:=HL2.out
    unfold holdV at hlv
    rw [HWA.out] at hlv
    dsimp only [zMf] at hlv
    refine bodyPost_ret (v:=mfV m (.slice pa m.parts.length pc)) (by simp [results,Tryz.results130,asAddr,hlv]) rfl ?_
    have k2:Keep (One w.heap.size) wA (wA.setRow w.heap.size (mfC m (.slice pa m.parts.length pc)).toArray):=(Keep.refl (One w.heap.size) _).setRow (.inl (zar _)) _
    have k3:Keep Non w (wA.setRow w.heap.size (mfC m (.slice pa m.parts.length pc)).toArray):=kA.trans k2 (fun _ _ e=>e) (fun g hg e=>by have e':g=w.heap.size:=e;omega)
    rw [HWA.out] at k3
    dsimp only [zMf] at k3
    exact ⟨pa,pc,rfl,k3,H1.out.keepNon k3,h32⟩
theorem zcG (T:Nat→Prop) (v:Value) (ms:List Mf) (w:World) (h:MsAt T w v ms) (hn:ms.length≤1000000) :
    Calls Tryz.prog 66 #[v] w fun e w'=>e = .returned (.int .i64 (lastM ms).hi)∧Keep Non w w':=by
  have LA:=zz0 (zdP T v ms w h hn)
  have q2:=zpX (lastM ms)
  clear h
  go_enter Tryz.func66,Tryz.ntmps66
  go_wp2_with (go_at_call 130;refine LA.out.mono ?_;rintro e w1 ⟨pa,pc,rfl,k1,_,_⟩;have K1:=zz0 k1;clear k1)
  go_ret
  exact ⟨rfl,K1.out⟩
theorem zcI (T:Nat→Prop) (v:Value) (ms:List Mf) (w:World) (h:MsAt T w v ms) (hn:ms.length≤1000000) :
    Calls Tryz.prog 68 #[v] w fun e w'=>e = .returned (.int .i64 (lastM ms).trim)∧Keep Non w w':=by
  have LA:=zz0 (zdP T v ms w h hn)
  have q2:=zpY (lastM ms)
  clear h
  go_enter Tryz.func68,Tryz.ntmps68
  go_wp2_with (go_at_call 130;refine LA.out.mono ?_;rintro e w1 ⟨pa,pc,rfl,k1,_,_⟩;have K1:=zz0 k1;clear k1)
  go_ret
  exact ⟨rfl,K1.out⟩
def beginM:List Mf→Nat
  | []=>0
  | m :: _=>m.lo
theorem ziA (T:Nat→Prop) (v:Value) (ms:List Mf) (w:World) (h:MsAt T w v ms) :
    Calls Tryz.prog 162 #[v] w fun e w'=>e = .returned (.int .i64 (beginM ms))∧w'=w:=by
  obtain ⟨a,c,rfl,hc,ha,hx⟩:=h
  cases ms with
  | nil =>
    simp only [List.length_nil]
    clear hx ha
    go_enter Tryz.func162,Tryz.ntmps162
    go_wp2_with fail
    go_ret
    exact ⟨rfl,rfl⟩
  | cons m r =>
    obtain ⟨h32,g,off,pa,pc,rfl,h1,h2,h3⟩:=hx 0 m rfl
    have c1:=h3 1 _ (mfc_1 m _)
    rw [Nat.zero_mul,Nat.add_zero] at c1
    have hn0:(((m :: r).length:Int) == 0)=false:=by simp;omega
    have hge:(0:Int) < (m :: r).length:=by simp
    generalize (m :: r).length=n at *
    clear hx ha h1 h2 h3
    go_enter Tryz.func162,Tryz.ntmps162
    go_wp2_with fail
    go_ret
    exact ⟨rfl,rfl⟩
theorem zdj (m:Mf) (pv:Value) (a:Option Addr) (c:Nat) (w:World) (h0:m.num=0) :
    Calls Tryz.prog 102 #[.slice a 0 c,mfV m pv] w fun e w'=>e = .returned (.bool true)∧Keep Non w w':=by
  have q0:=mfc_0 m pv
  rw [h0] at q0
  unfold mfV
  go_enter Tryz.func102,Tryz.ntmps102
  go_wp2_with fail
  go_ret
  exact ⟨rfl,(Keep.refl _ _).alloc _⟩
end
theorem zqi:(.agg z32:Value)=arrV (List.replicate 32 0):=by kernel_rfl
theorem sz81:(Tryz.prog.info? 84).map (·.size)=some 32:=by kernel_rfl
theorem zgN (w:World):(holdW 84 ⟨w.heap.size,0,none⟩ (.agg z32)).run Tryz.prog (w.alloc (.cells z32 84)) = .ok () (w.alloc (.cells z32 84)):=by
  have h:=run_storeVar_row (P:=Tryz.prog) (w.alloc (.cells z32 84)) w.heap.size 84 84 z32 z32 (zab _ _) sz81 rfl (by kernel_rfl)
  rw [zde] at h
  exact h
theorem zfE (w:World):(holdV 84 ⟨w.heap.size,0,none⟩).run Tryz.prog (w.alloc (.cells z32 84)) = .ok (arrV (List.replicate 32 0)) (w.alloc (.cells z32 84)) :=
  load81 _ _ 0 (List.replicate 32 0) rfl (fun j v hv=>by
    rw [Nat.zero_add,cell_of_row _ _ j _ _ _ (zab _ _)]
    have e:z32=((List.replicate 32 (0:UInt8)).map bv).toArray:=by kernel_rfl
    rw [e]
    simpa using hv)
section
attribute [local go_sem ↓] hV84 hV106 hV87 hW84 hW106 hW87 hB106 hB87
theorem zdN (a:Option Addr) (c:Nat) (w:World) :
    Calls Tryz.prog 45 #[.slice a 0 c] w fun e w'=>e = .returned (.tuple #[.int .i64 0,.nilIface])∧Keep Non w w':=by
  go_enter Tryz.func45,Tryz.ntmps45
  go_wp2_with fail
  go_loopw [9] (fun i wr=>i = .int .i64 0∧Keep Non w wr) (fun i _=>0)
  case atStart=>exact ⟨rfl,Keep.refl _ _⟩
  case round =>
    obtain ⟨rfl,hk⟩:=hrel
    go_wp2_with fail
    go_ret2
    exact ⟨rfl,hk⟩
theorem zgZ (T:Nat→Prop) (v:Value) (m:Mf) (w:World) (h:MsAt T w v [m]) (hokm:okMf m) (hnum:m.num=0) :
    Calls Tryz.prog 45 #[v] w fun e w'=>e = .returned (.tuple #[.int .i64 1,.nilIface])∧Keep Non w w':=by
  obtain ⟨a,c,rfl,hc,ha,hx⟩:=h
  obtain ⟨h32,g,off,pa,pc,rfl,x1,x2,x3⟩:=hx 0 m rfl
  have X1:=zz0 x1
  have X3:=zz0 x3
  simp only [List.length_singleton] at hc ⊢
  clear hx ha x1 x2 x3
  go_enter Tryz.func45,Tryz.ntmps45
  go_wp2_with fail
  go_loopw [9] (fun i wr=>∃ j:Nat,j≤1∧i = .int .i64 j∧Keep Non w wr) (fun i _=>1 - (intOf i).toNat)
  case atStart=>exact ⟨0,by omega,rfl,Keep.refl _ _⟩
  case round =>
    obtain ⟨j,hj,rfl,hk⟩:=hrel
    have K:=zz0 hk
    clear hk
    by_cases hlt:j < 1
    · have hlj:(j:Int) < 1:=by omega
      have hld:=load83 wr g (off+j * 37) m (.slice pa m.parts.length pc) h32 (fun i u hu=>by
        have h0:=X3.out i u hu
        rw [show j=0 by omega]
        exact (World.cell?_of_block (K.out.block g (World.block_lt_of_cell? _ _ h0) (fun e=>e))).trans h0)
      have hst:=zaF wr m pa m.parts.length pc h32
      have hlm:=zan (zab wr (MfB m (.slice pa m.parts.length pc))) h32
      dsimp only [zMf,MfB] at hst
      dsimp only [MfB] at hlm
      have CK:=zz0 (zbp m (.slice pa m.parts.length pc) (wr.alloc (MfB m (.slice pa m.parts.length pc))) hokm (X1.out.keepNon (K.out.trans1 ((Keep.refl Non wr).alloc _))))
      have FO:=zz0 (fun W=>zdj m (.slice pa m.parts.length pc) (some ⟨g,off,none⟩) c W hnum)
      dsimp only [MfB] at CK
      have hj0:j=0:=by omega
      have FJ:Hid (∀ W,Calls Tryz.prog 102 #[.slice (some ⟨g,off,none⟩) j c,mfV m (.slice pa m.parts.length pc)] W fun e w'=>e = .returned (.bool true)∧Keep Non W w'):=zz0 (by rw [hj0];exact FO.out)
      have hjc:j≤c:=by omega
      clear hj0
      go_wp2_with (go_at_call 101;refine CK.out.mono ?_;rintro e w2 ⟨rfl,k2⟩;have b2:w2.heap[wr.heap.size]? = some (MfB m (.slice pa m.parts.length pc)):=nonAt k2 (zab wr (MfB m (.slice pa m.parts.length pc)));have hl2:=zan b2 h32;have hl2d:=zan (w:=w2.drew) b2 h32;have K2:=zz0 (((Keep.refl Non wr).alloc (MfB m (.slice pa m.parts.length pc))).trans1 k2);clear k2 b2)
      go_region_law (go_simp;go_at_call 102;refine (FJ.out _).mono ?_;rintro e w3 ⟨rfl,k3⟩;have K3:Hid (Keep Non w2 w3):=zz0 (((Keep.refl Non w2).drew).trans1 k3);clear k3)
      all_goals go_wp2_with fail
      all_goals exact ⟨⟨j+1,by omega,by first | rfl | go_num,(K.out.trans1 K2.out).trans1 K3.out⟩,by simp [intOf];omega⟩
    · obtain rfl:j=1:=by omega
      go_wp2_with fail
      go_ret2
      exact ⟨rfl,K.out⟩
theorem ziB (a:Option Addr) (c:Nat) (w:World) :
    Calls Tryz.prog 159 #[.slice a 0 c] w fun e w'=>e = .returned (.tuple #[arrV (List.replicate 32 0),.nilIface])∧Keep Non w w':=by
  have hs:=zgN w
  have hl:=zfE w
  dsimp only [z32] at hs hl
  go_enter Tryz.func159,Tryz.ntmps159
  go_wp2_with fail
  have hlv:=zfE w
  unfold holdV at hlv
  dsimp only [z32] at hlv
  refine bodyPost_ret (v:=.tuple #[arrV (List.replicate 32 0),.nilIface]) (by simp [results,Tryz.results159,asAddr,hlv]) rfl ?_
  exact ⟨rfl,(Keep.refl _ _).alloc _⟩
end
def VtB (q:Nat) (lv:Value):Obj:=.cells #[.pointer (some ⟨q,0,none⟩),lv] 78 (0,0)
section
variable {w : World} {b q : Nat} {lv : Value}
theorem vt_0 (h:w.heap[b]? = some (VtB q lv)):w.cell? ⟨b,0,none⟩=some (.pointer (some ⟨q,0,none⟩)):=by simp [World.cell?,h,VtB]
theorem vt_1 (h:w.heap[b]? = some (VtB q lv)):w.cell? ⟨b,1,none⟩=some lv:=by simp [World.cell?,h,VtB]
theorem vt_f (h:w.heap[b]? = some (VtB q lv)) (i:Nat):w.frozen? ⟨b,i,none⟩=false:=by simp [World.frozen?,h,VtB]
end
theorem MsAt.nil (T:Nat→Prop) (w:World):MsAt T w (.slice none 0 0) []:=⟨none,0,rfl,Nat.le_refl _,fun ad e=>(by cases e),fun j m hj=>by simp at hj⟩
theorem MsAt.one {B:Nat} {T:Nat→Prop} {w:World} {v:Value} {m:Mf} {pa:Option Addr} {pc:Nat} (h:w.ownsRow B 87 37 v 1 (mfC m (.slice pa m.parts.length pc))) (h32:m.prev.length=32) (hp:PtsAt w (.slice pa m.parts.length pc) m.parts) (hT:∀ g,(Value.slice pa m.parts.length pc).ownBlock=some g→T g) (hT2:∀ g,v.ownBlock=some g→T g):MsAt T w v [m]:=by
  rcases h.2 with ⟨_,hn⟩ | ⟨g,cap,cur,rfl,_,hg,hn,_,_,htake⟩
  · cases hn
  · refine ⟨some ⟨g,0,none⟩,cap,rfl,hn,fun ad e=>⟨g,0,by injection e with e;exact e.symm,hT2 g rfl⟩,fun j m' hj=>?_⟩
    cases j with
    | succ j=>simp at hj
    | zero =>
      simp at hj
      subst hj
      refine ⟨h32,g,0,pa,pc,rfl,hp,hT,fun i u hu=>?_⟩
      rw [Nat.zero_mul,Nat.zero_add,World.cell?,hg]
      rw [← htake,List.getElem?_take] at hu
      split at hu
      · simpa using hu
      · cases hu
theorem infoMf:(Tryz.prog.info? 87).map (fun i=>(i.zero,i.size,i.bytes))=some (some (.agg zMf),37,88):=by kernel_rfl
theorem hBS41 (n:Nat) (parts:Array (Nat × Value)):Instr.buildSlice 41 n parts=holdBS 41 n parts:=rfl
theorem za6 (m:Mf) (a:Option Addr) (n c:Nat) (h:m.prev.length=32) (w:World):(holdBS 41 1 #[(0,mfV m (.slice a n c))]).run Tryz.prog w = .ok (.slice (some ⟨w.heap.size,0,none⟩) 1 1) (w.alloc (MfB m (.slice a n c))):=by
  obtain ⟨x0,x1,x2,x3,D,ps⟩:=m
  obtain ⟨d0,d1,d2,d3,d4,d5,d6,d7,d8,d9,d10,d11,d12,d13,d14,d15,d16,d17,d18,d19,d20,d21,d22,d23,d24,d25,d26,d27,d28,d29,d30,d31,rfl⟩:=list32 D h
  kernel_rfl
theorem zcP {w:World} {b:Nat} {m:Mf} {pv:Value} (h:w.heap[b]? = some (MfB m pv)):∀ (j:Nat) u,(mfC m pv)[j]? = some u→w.cell? ((⟨b,0,none⟩:Addr).add j)=some u:=by
  intro j u hu
  rw [zau,Nat.zero_add,cell_of_row _ _ j _ _ _ h]
  simpa using hu
theorem zcp (m:Mf) (a:Option Addr) (n c:Nat):∀ u ∈ mfC m (.slice a n c),u.oneCell'=true:=by
  intro u hu
  have:=zkB m a n c
  rw [List.all_toArray,List.all_eq_true] at this
  exact this u hu
theorem zch (b q:Nat) (lv:Value) (w:World) (h:w.heap[b]? = some (VtB q lv)) :
    Calls Tryz.prog 8 #[.pointer (some ⟨b,0,none⟩)] w fun e w'=>e = .returned (.pointer (some ⟨q,0,none⟩))∧w'=w:=by
  have c0:=vt_0 h
  clear h
  go_enter Tryz.func8,Tryz.ntmps8
  go_wp2_with fail
  go_ret
  exact ⟨rfl,rfl⟩
section
attribute [local go_sem ↓] hV84 hV106 hV87 hW84 hW106 hW87 hB106 hB87 hBS85 hBS41
theorem zjw (T:Nat→Prop) (b q:Nat) (lv:Value) (m:Mf) (w:World) (h:w.heap[b]? = some (VtB q lv)) (hm:MsAt T w lv [m]) (h32:pts32 m.parts) (hlen:m.parts.length≤10000) :
    Calls Tryz.prog 10 #[.pointer (some ⟨b,0,none⟩)] w fun e w'=>∃ v',e = .returned v'∧Keep Non w w'∧MsAt (fun g=>w.heap.size≤g∧g < w'.heap.size) w' v' [m]:=by
  have c1:=vt_1 h
  obtain ⟨a,c,rfl,hc,ha,hx⟩:=hm
  obtain ⟨hp32,g,off,pa,pc,rfl,x1,x2,x3⟩:=hx 0 m rfl
  have X1:=zz0 x1
  have X3:=zz0 x3
  obtain ⟨i0,hi0,hz0,hz1,hz2⟩:=info_parts infoMf
  have I0:=zz0 (And.intro hi0 (And.intro hz0 (And.intro hz1 hz2)))
  simp only [List.length_singleton] at hc c1 ⊢
  clear h hx ha x1 x2 x3 hi0 hz0 hz1 hz2
  go_enter Tryz.func10,Tryz.ntmps10
  go_wp2_with fail
  go_loopw [3,13] (fun o i wr=>∃ j:Nat,j≤1∧i = .int .i64 j∧Keep Non w wr∧(j=0→o = .slice none 0 0)∧(j=1→MsAt (fun g=>w.heap.size≤g∧g < wr.heap.size) wr o [m])) (fun _ i _=>1 - (intOf i).toNat)
  case atStart=>exact ⟨0,by omega,rfl,Keep.refl _ _,fun _=>rfl,fun e=>by cases e⟩
  case round =>
    obtain ⟨j,hj,rfl,hk,h0,h1⟩:=hrel
    have K:=zz0 hk
    clear hk
    by_cases hlt:j < 1
    · have hlj:(j:Int) < 1:=by omega
      obtain rfl:=h0 (by omega)
      clear h0 h1
      have hld:=load83 wr g (off+j * 37) m (.slice pa m.parts.length pc) hp32 (fun i u hu=>by
        have h0:=X3.out i u hu
        rw [show j=0 by omega]
        exact (World.cell?_of_block (K.out.block g (World.block_lt_of_cell? _ _ h0) (fun e=>e))).trans h0)
      have hst:=zaF wr m pa m.parts.length pc hp32
      have hlm:=zan (zab wr (MfB m (.slice pa m.parts.length pc))) hp32
      have CO:=zz0 (zfG m (.slice pa m.parts.length pc) (wr.alloc (MfB m (.slice pa m.parts.length pc))) (X1.out.keepNon (K.out.trans1 ((Keep.refl Non wr).alloc _))) hp32 h32 hlen)
      dsimp only [zMf,MfB] at hst
      dsimp only [MfB] at hlm CO
      go_wp2_with (first
        | (go_at_call 33;refine CO.out.mono ?_;rintro e w2 ⟨v2,rfl,k2,o2⟩;obtain ⟨a2,c2,rfl,_,_⟩:=zaa o2;have hbu:=za6 m a2 m.parts.length c2 hp32 w2;have K2:=zz0 (((Keep.refl Non wr).alloc (MfB m (.slice pa m.parts.length pc))).trans1 k2);have O2:Hid (w2.ownsRow wr.heap.size 106 35 (.slice a2 m.parts.length c2) m.parts.length (ptsC m.parts)):=zz0 (zad o2 (by simp));clear k2 o2)
        | (at_builtin;refine zaj rfl _ _ 41 rfl w2.heap.size 87 i0 (.agg zMf) 37 88 Tryz.underlying41 I0.out.1 I0.out.2.1 I0.out.2.2.1 I0.out.2.2.2 rfl (by decide) (.slice none 0 0) 0 [] rfl (World.ownsRow_nil _ _ _ _) ⟨w2.heap.size,0,none⟩ 1 1 (mfC m (.slice a2 m.parts.length c2)) rfl (by rw [za2 hp32]) (by exact zcP (zab w2 (MfB m (.slice a2 m.parts.length c2)))) (zcp m a2 m.parts.length c2) (by unfold maxLen;omega) (by omega) (by simp [MfB]) ?_;intro v3 w3 ho hg hpp;have HO:=zz0 ho;have HG:=zz0 hg;clear ho hg hpp))
      have kg:Keep Non (w2.alloc (MfB m (.slice a2 m.parts.length c2))) w3:=Keep.grown (Keep.refl _ _) HG.out (fun k e=>by cases e)
      have k23:Keep Non w2 w3:=((Keep.refl Non w2).alloc (MfB m (.slice a2 m.parts.length c2))).trans1 kg
      have ho:=HO.out
      rw [Nat.zero_add,List.nil_append] at ho
      have o3:=zac O2.out k23 (fun _ _ e=>e)
      have z1:=K.out.size
      have z2:=K2.out.size
      exact ⟨⟨j+1,by omega,by first | rfl | go_num,(K.out.trans1 K2.out).trans1 k23,fun e=>by omega,fun _=>MsAt.one ho hp32 (PtsAt.of o3 h32) (fun g e=>by have:=o3.lt g e;omega) (fun g e=>by have:=ho.lt g e;omega)⟩,by simp [intOf];omega⟩
    · obtain rfl:j=1:=by omega
      have M:=zz0 (h1 rfl)
      clear h0 h1
      go_wp2_with fail
      go_ret
      exact ⟨_,rfl,K.out,M.out⟩
end
end Go.Proofs.YtnboipdpccnedaaGreatDoor
namespace Go.Proofs.YtnboipdpccnedaaGreatDoor
open Go.RowKit Go.Maps
theorem znm (n:Byt):n≠tilde n:=by
  intro e
  have:=congrArg List.length e
  simp [tilde] at this
theorem Dk.free.write {X:Dk} (h:X.free) {n b:Byt} (hb:b.length≤65536):X.write n b=if X.full n b then (5,X) else (0,X.add (.write n b)):=by
  unfold Dk.write
  rw [h.works]
  simp only [ne_eq,not_true,if_false]
  rw [if_neg (by omega)]
theorem Dk.free.add {X:Dk} (h:X.free) (c:Chg):(X.add c).free:=h
def putFl (D:Fl) (n b:Byt):Fl:=fput (fdel (fput D (tilde n) b) (tilde n)) n b
theorem zcY {X:Dk} (h:X.free) (hm:IsMap X.shown) (n b:Byt) (hb:b.length≤65536) :
    X.sput n b=if X.full (tilde n) b then (5,X) else (0,{ X with sure:=putFl X.shown n b,shown:=putFl X.shown n b,pend:=[] }):=by
  unfold Dk.sput
  rw [h.write hb]
  by_cases hf:X.full (tilde n) b
  · rw [if_pos hf,if_pos hf]
    simp
  · rw [if_neg hf,if_neg hf]
    have f1:(X.add (.write (tilde n) b)).free:=h.add _
    simp only [ne_eq,not_true,if_false]
    rw [f1.sync]
    simp only [not_true,if_false]
    have f2:({ X.add (.write (tilde n) b) with sure:=(X.add (.write (tilde n) b)).shown,pend:=[] }:Dk).free:=f1
    have hr:({ X.add (.write (tilde n) b) with sure:=(X.add (.write (tilde n) b)).shown,pend:=[] }:Dk).rename (tilde n) n=(0,({ X.add (.write (tilde n) b) with sure:=(X.add (.write (tilde n) b)).shown,pend:=[] }:Dk).add (.rename (tilde n) n)):=by
      unfold Dk.rename
      rw [f2.works]
      simp only [ne_eq,not_true,if_false]
      rw [if_pos]
      show fhas (fput X.shown (tilde n) b) (tilde n)=true
      exact zbK hm
    rw [hr]
    simp only [not_true,if_false]
    have f3:(({ X.add (.write (tilde n) b) with sure:=(X.add (.write (tilde n) b)).shown,pend:=[] }:Dk).add (.rename (tilde n) n)).free:=f2.add _
    rw [f3.sync]
    have e:(({ X.add (.write (tilde n) b) with sure:=(X.add (.write (tilde n) b)).shown,pend:=[] }:Dk).add (.rename (tilde n) n)).shown=putFl X.shown n b:=by
      show (if fhas (fput X.shown (tilde n) b) (tilde n)=true then fput (fdel (fput X.shown (tilde n) b) (tilde n)) n (fget (fput X.shown (tilde n) b) (tilde n)) else fput X.shown (tilde n) b)=_
      rw [if_pos (zbK hm),zbI hm]
      rfl
    rw [e]
    rfl
section
variable {D : Fl} {n m b : Byt}
theorem zeN (h:IsMap D):fhas (putFl D n b) n=true:=zbK (zbo (zcM h))
theorem zeM (h:IsMap D):fget (putFl D n b) n=b:=zbI (zbo (zcM h))
theorem zep:fhas (putFl D n b) (tilde n)=false:=by
  unfold putFl
  rw [zbv (znm n).symm]
  exact zbJ
theorem zb7 (h1:m≠n) (h2:m≠tilde n):fhas (putFl D n b) m=fhas D m:=by
  unfold putFl
  rw [zbv h1,zaW h2,zbv h2]
theorem zeo (h1:m≠n) (h2:m≠tilde n):fget (putFl D n b) m=fget D m:=by
  unfold putFl
  rw [zcv h1,zbu h2,zcv h2]
end
theorem okObj.ne_tilde {n m:Byt} (h:okObj n):n≠Go.Proofs.YtnboipdpccnedaaGreatDoor.tilde m:=by
  intro e
  apply h.2.2
  rw [e]
  simp [Go.Proofs.YtnboipdpccnedaaGreatDoor.tilde]
theorem zgB {X:Dk} (h:X.free) (n:Byt) :
    X.sdel n=if fhas X.shown n=true then (0,{ X with sure:=fdel X.shown n,shown:=fdel X.shown n,pend:=[] }) else (4,X):=by
  unfold Dk.sdel
  by_cases hh:fhas X.shown n=true
  · rw [h.remove hh,if_pos hh]
    simp only [ne_eq,not_true,if_false]
    rw [(h.add (.remove n)).sync]
    have e:(X.add (.remove n)).shown=fdel X.shown n:=by
      show (if fhas X.shown n=true then fdel X.shown n else X.shown)=_
      rw [if_pos hh]
    rw [e]
    rfl
  · have e:X.remove n=(4,X):=by
      unfold Dk.remove
      rw [h.works]
      simp only [ne_eq,not_true,if_false]
      rw [if_neg hh]
    rw [e,if_neg hh]
    rfl
theorem zic {X:Dk} {a k f:Nat} (hl:X.lim a k f) {n b:Byt} (ha:a < 512) (hr:f+b.length≤X.room):¬ X.full n b:=by
  rintro (⟨_,h⟩ | h)
  · have:=hl.files;omega
  · have:=hl.used;omega
def Dk.tidy (X:Dk):Prop:=∀ n,fhas X.shown n=true→okObj n
theorem Dk.tidy.sput {X:Dk} (h:X.tidy) (hf:X.free) (hm:IsMap X.shown) {n b:Byt} (hn:okObj n) (hb:b.length≤65536):(X.sput n b).2.tidy:=by
  rw [zcY hf hm n b hb]
  split
  · exact h
  · intro m hh
    have hh:fhas (putFl X.shown n b) m=true:=hh
    by_cases e:m=n
    · rw [e];exact hn
    · by_cases e2:m=tilde n
      · rw [e2,zep] at hh;cases hh
      · rw [zb7 e e2] at hh;exact h m hh
theorem Dk.free.sput {X:Dk} (hf:X.free) (hm:IsMap X.shown) {n b:Byt} (hb:b.length≤65536):(X.sput n b).2.free:=by
  rw [zcY hf hm n b hb]
  split
  · exact hf
  · exact hf
theorem zda {X:Dk} (h:X.tidy) (ns:List Byt) (hp:ns.Perm (Go.strKeys X.shown)) (hs:∃ es,X.shown = .map es∧es.Pairwise (fun p q=>p.1≠q.1)∧∀ p ∈ es,∃ x,p.1 = .string x):openD ns X=X:=by
  obtain ⟨_,hmem⟩:=zfI hs hp
  have hb:∀ n ∈ ns,begun n=false:=by
    intro n hn
    have hk:=(h n ((hmem n).1 hn)).2.2
    unfold begun
    cases n with
    | nil=>rfl
    | cons c r =>
      have:c≠126:=fun e=>hk (by rw [e];simp)
      have h2:((126:UInt8) == c)=false:=by simpa using this.symm
      show (((126:UInt8) == c) && _)=false
      rw [h2]
      rfl
  have h1:ns.any begun=false:=by
    rw [List.any_eq_false]
    intro n hn
    rw [hb n hn]
    simp
  have h2:∀ (l:List Byt),(∀ n ∈ l,begun n=false)→∀ Y,sweepD l Y=Y:=by
    intro l
    induction l with
    | nil=>intro _ Y;rfl
    | cons n r ih =>
      intro hl Y
      have e1:sweep1 Y n=Y:=by unfold sweep1;rw [hl n (by simp)];rfl
      show sweepD r (sweep1 Y n)=Y
      rw [e1]
      exact ih (fun m hm=>hl m (by simp [hm])) Y
  unfold openD
  rw [h1,h2 ns hb]
  rfl
end Go.Proofs.YtnboipdpccnedaaGreatDoor
namespace Go.Proofs.YtnboipdpccnedaaGreatDoor
open Go.RowKit
theorem zfp (n:Nat) (h:n < 100):1≤(Lib.decDigits n).length∧(Lib.decDigits n).length≤2:=by
  rw [Lib.decDigits]
  split
  · simp
  · rw [Lib.decDigits,dif_pos (by omega)]
    simp
theorem ze3 {w w':World} (h:Below w.heap.size w w'):Keep Non w w':=⟨h.os,h.tape,h.output,h.size,fun i hi _=>h.block i hi⟩
theorem zev (c:Nat):(Lib.repeatL [48] c).length=c:=by
  induction c with
  | zero=>rfl
  | succ c ih=>simp [Lib.repeatL,ih]
def figN (n k:Nat):Byt:=Lib.repeatL [48] (k - (Lib.decDigits n).length) ++ Lib.decDigits n
theorem zhD (n k:Nat) (w:World) (hn:n < 100) (hk:k≤10) :
    Calls Tryz.prog 93 #[.int .i64 n,.int .i64 k] w fun e w'=>e = .returned (sv (figN n k))∧Keep Non w w':=by
  obtain ⟨h1,h2⟩:=zfp n hn
  have IT:=zz0 (fun W=>Tryz.strconv_Itoa_small n hn W)
  have hmx:max ((k:Int) - ((Lib.decDigits n).length:Int)) 0=((k - (Lib.decDigits n).length:Nat):Int):=by omega
  have RP:Hid (∀ W,Calls Tryz.prog 151 #[.string ⟨#[48]⟩,.int .i64 (max ((k:Int) - ((Lib.decDigits n).length:Int)) 0)] W fun e w'=>e = .returned (.string ⟨(Lib.repeatL [48] (k - (Lib.decDigits n).length)).toArray⟩)∧Keep Non W w'):=zz0 (fun W=>by
    rw [hmx]
    refine (Tryz.strings_Repeat ⟨#[48]⟩ (k - (Lib.decDigits n).length) W (by omega) (by show 1 * _≤_;omega)).mono ?_
    rintro e w' ⟨rfl,b⟩
    exact ⟨rfl,ze3 b⟩)
  have hrl:(Lib.repeatL [48] (k - (Lib.decDigits n).length)).length=k - (Lib.decDigits n).length:=zev _
  have hadd:=fun (W:World)=>run_string_add_lists (P:=Tryz.prog) W (Lib.repeatL [48] (k - (Lib.decDigits n).length)) (Lib.decDigits n) (by omega) (by omega)
  clear hrl
  clear hmx
  have hs:(⟨(Lib.decDigits n).toArray⟩:ByteArray).size=(Lib.decDigits n).length:=by show (Lib.decDigits n).toArray.size=_;simp
  go_enter Tryz.func93,Tryz.ntmps93
  go_wp2_with (first
    | (go_at_call 150;refine (IT.out _).mono ?_;rintro e w1 ⟨rfl,e1⟩;subst e1)
    | (go_at_call 151;refine (RP.out _).mono ?_;rintro e w2 ⟨rfl,k2⟩;have K2:=zz0 k2;clear k2))
  go_ret
  exact ⟨rfl,K2.out⟩
theorem zck (n k:Nat) (hn:n < 100) (hk:2≤k):(figN n k).length=k:=by
  have:=zfp n hn
  unfold figN
  rw [List.length_append,zev]
  omega
def titleN (n:Nat):Byt:=[109] ++ figN n 6
def labelN (n p:Nat):Byt:=[112] ++ figN n 6 ++ [45] ++ figN p 4
theorem zeJ (n:Nat) (w:World) (hn:n < 100) :
    Calls Tryz.prog 43 #[.int .i64 n] w fun e w'=>e = .returned (sv (titleN n))∧Keep Non w w':=by
  have FG:=zz0 (fun W=>zhD n 6 W hn (by omega))
  have hl:=zck n 6 hn (by omega)
  have hadd:=fun (W:World)=>run_string_add_lists (P:=Tryz.prog) W [109] (figN n 6) (by decide) (by omega)
  unfold sv at FG ⊢
  clear hl
  go_enter Tryz.func43,Tryz.ntmps43
  go_wp2_with (go_at_call 93;refine (FG.out _).mono ?_;rintro e w1 ⟨rfl,k1⟩;have K1:=zz0 k1;clear k1)
  go_ret
  exact ⟨rfl,K1.out⟩
theorem zcg (n p:Nat) (w:World) (hn:n < 100) (hp:p < 100) :
    Calls Tryz.prog 104 #[.int .i64 n,.int .i64 p] w fun e w'=>e = .returned (sv (labelN n p))∧Keep Non w w':=by
  have FG:Hid (∀ W,Calls Tryz.prog 93 #[.int .i64 n,.int .i64 6] W fun e w'=>e = .returned (.string ⟨(figN n 6).toArray⟩)∧Keep Non W w'):=zz0 (fun W=>zhD n 6 W hn (by omega))
  have FP:Hid (∀ W,Calls Tryz.prog 93 #[.int .i64 p,.int .i64 4] W fun e w'=>e = .returned (.string ⟨(figN p 4).toArray⟩)∧Keep Non W w'):=zz0 (fun W=>zhD p 4 W hp (by omega))
  have hl:=zck n 6 hn (by omega)
  have hl2:=zck p 4 hp (by omega)
  unfold sv labelN
  generalize figN n 6=a at *
  generalize figN p 4=b at *
  obtain ⟨A1,h1⟩:∃ A1,A1 = [112] ++ a:=⟨_,rfl⟩
  obtain ⟨A2,h2⟩:∃ A2,A2=A1 ++ [45]:=⟨_,rfl⟩
  obtain ⟨A3,h3⟩:∃ A3,A3=A2 ++ b:=⟨_,rfl⟩
  have l1:A1.length≤10:=by rw [h1];simp;omega
  have l2:A2.length≤11:=by rw [h2];simp;omega
  have hadd1:=fun (W:World)=>run_string_add_lists (P:=Tryz.prog) W [112] a (by decide) (by omega)
  have hadd2:=fun (W:World)=>run_string_add_lists (P:=Tryz.prog) W A1 [45] (by omega) (by decide)
  have hadd3:=fun (W:World)=>run_string_add_lists (P:=Tryz.prog) W A2 b (by omega) (by omega)
  rw [← h1] at hadd1 ⊢
  rw [← h2] at hadd2 ⊢
  rw [← h3] at hadd3 ⊢
  clear h1 h2 h3 l1 l2 hl hl2
  go_enter Tryz.func104,Tryz.ntmps104
  go_wp2_with (go_at_call 93;first
    | ((with_reducible refine (FG.out _).mono ?_);rintro e w1 ⟨rfl,k1⟩;have K1:=zz0 k1;clear k1)
    | ((with_reducible refine (FP.out _).mono ?_);rintro e w2 ⟨rfl,k2⟩;have K2:=zz0 k2;clear k2))
  go_ret
  exact ⟨rfl,K1.out.trans1 K2.out⟩
def digs:List UInt8:=[48,49,50,51,52,53,54,55,56,57]
theorem zga (i:Nat) (h:i < 10):UInt8.ofNat (48+i) ∈ digs:=by
  have h0:∀ i:Fin 10,UInt8.ofNat (48+i.val) ∈ digs:=by decide
  exact h0 ⟨i,h⟩
theorem zpO (n:Nat) (h:n < 100):∀ c ∈ Lib.decDigits n,c ∈ digs:=by
  intro c hc
  by_cases h1:n < 10
  · rw [Lib.decDigits_one h1] at hc
    simp only [List.mem_singleton] at hc
    rw [hc]
    exact zga n h1
  · rw [Lib.decDigits_two h1 h] at hc
    simp only [List.mem_cons,List.not_mem_nil,or_false] at hc
    rcases hc with rfl | rfl
    · exact zga _ (by omega)
    · exact zga _ (by omega)
theorem zk4:∀ (k:Nat),∀ c ∈ Lib.repeatL [48] k,c ∈ digs
  | 0,c,h=>by simp [Lib.repeatL] at h
  | k+1,c,h=>by
    simp only [Lib.repeatL,List.mem_append,List.mem_singleton] at h
    rcases h with rfl | h
    · decide
    · exact zk4 k c h
theorem zg5 (n k:Nat) (h:n < 100):∀ c ∈ figN n k,c ∈ digs:=by
  intro c hc
  unfold figN at hc
  rcases List.mem_append.1 hc with hc | hc
  · exact zk4 _ c hc
  · exact zpO n h c hc
theorem zdZ:∀ c ∈ digs,c ∈ signsL∧c≠126:=by decide
theorem zaJ (n:Nat) (h:n < 100):okObj (titleN n):=by
  have hl:=zck n 6 h (by omega)
  have hc:∀ c ∈ titleN n,c ∈ signsL∧c≠126:=by
    intro c hc
    unfold titleN at hc
    simp only [List.mem_append,List.mem_singleton] at hc
    rcases hc with rfl | hc
    · decide
    · exact zdZ c (zg5 n 6 h c hc)
  have hlen:(titleN n).length=7:=by unfold titleN;simp [hl]
  exact ⟨⟨by omega,by omega,fun c e=>(hc c e).1⟩,by omega,fun e=>(hc 126 e).2 rfl⟩
theorem zaI (n p:Nat) (h:n < 100) (h2:p < 100):okObj (labelN n p):=by
  have hl:=zck n 6 h (by omega)
  have hl2:=zck p 4 h2 (by omega)
  have hc:∀ c ∈ labelN n p,c ∈ signsL∧c≠126:=by
    intro c hc
    unfold labelN at hc
    simp only [List.mem_append,List.mem_singleton] at hc
    rcases hc with ((rfl | hc) | rfl) | hc
    · decide
    · exact zdZ c (zg5 n 6 h c hc)
    · decide
    · exact zdZ c (zg5 p 4 h2 c hc)
  have hlen:(labelN n p).length=12:=by unfold labelN;simp [hl,hl2]
  exact ⟨⟨by omega,by omega,fun c e=>(hc c e).1⟩,by omega,fun e=>(hc 126 e).2 rfl⟩
def Pow (w:World):Prop:=Lib.TabIs Tryz.prog w "internal/strconv.uint64pow10" .u64 Lib.pow10Tab
theorem znN:Tryz.prog.globalNamed "internal/strconv.uint64pow10" = some 5:=by kernel_rfl
structure Lay (w:World):Prop where
  kon:Kon w
  frs:Frs w
  pow:Pow w
theorem Lay.keep {S:Nat→Prop} {w w':World} (h:Lay w) (k:Keep S w w') (hn:∀ g,g < 10→¬ S g):Lay w' where
  kon:=by
    obtain ⟨cs,h1,⟨tt,fr,h2⟩,h3,h4⟩:=h.kon
    exact ⟨cs,h1,⟨tt,fr,k.at h2 (hn _ (by decide))⟩,Nat.le_trans h3 k.size,h4⟩
  frs:=by
    obtain ⟨tt,fr,h⟩:=h.frs
    exact ⟨tt,fr,k.at h (hn _ (by decide))⟩
  pow:=by
    have hp:=h.pow
    unfold Pow Lib.TabIs World.var? at hp ⊢
    rw [znN] at hp ⊢
    simp only [Option.bind_some] at hp ⊢
    have hlt:5 < w.heap.size:=by
      rcases Nat.lt_or_ge 5 w.heap.size with h' | h'
      · exact h'
      · rw [Array.getElem?_eq_none h'] at hp;simp at hp
    rw [k.block _ hlt (hn _ (by decide))]
    exact hp
theorem Lay.keepNon {w w':World} (h:Lay w) (k:Keep Non w w'):Lay w':=h.keep k (fun _ _ e=>e)
theorem zn9:∀ (n:Nat),∀ c ∈ Lib.decDigits n,c ∈ digs:=by
  intro n
  induction n using Nat.strongRecOn with
  | _ n ih =>
    intro c hc
    rw [Lib.decDigits] at hc
    split at hc
    · simp only [List.mem_singleton] at hc
      rw [hc]
      exact zga n ‹_›
    · rw [List.mem_append] at hc
      rcases hc with hc | hc
      · exact ih (n / 10) (by omega) c hc
      · simp only [List.mem_singleton] at hc
        rw [hc]
        exact zga _ (by omega)
theorem zhS (n:Nat) (h:n < 1000):1≤(Lib.decDigits n).length∧(Lib.decDigits n).length≤3:=by
  rw [Lib.decDigits]
  split
  · simp
  · rw [List.length_append]
    have:=zfp (n / 10) (by omega)
    simp
    omega
def nameN (c:UInt8) (n:Nat):Byt:=[c] ++ Lib.repeatL [48] (8 - (Lib.decDigits n).length) ++ Lib.decDigits n
theorem zkG (n:Nat) (h:n < 1000):okObj (nameN 114 n):=by
  have hd:=zhS n h
  have hc:∀ c ∈ nameN 114 n,c ∈ signsL∧c≠126:=by
    intro c hc
    unfold nameN at hc
    simp only [List.mem_append,List.mem_singleton] at hc
    rcases hc with (rfl | hc) | hc
    · decide
    · exact zdZ c (zk4 _ c hc)
    · exact zdZ c (zn9 n c hc)
  have hlen:(nameN 114 n).length=9:=by unfold nameN;simp [zev];omega
  exact ⟨⟨by omega,by omega,fun c e=>(hc c e).1⟩,by omega,fun e=>(hc 126 e).2 rfl⟩
theorem zgD (n:Nat) (w:World) (hn:n < 1000) (hl:Lay w) :
    Calls Tryz.prog 181 #[sv [114],.int .i64 n] w fun e w'=>e = .returned (sv (nameN 114 n))∧Keep Non w w':=by
  obtain ⟨h1,h2⟩:=zhS n hn
  have IT:Hid (Calls Tryz.prog 150 #[.int .i64 n] w fun e w'=>e = .returned (.string ⟨(Lib.decDigits n).toArray⟩)∧Keep Non w w'):=zz0 (by
    refine (Tryz.strconv_Itoa n (by omega) (by omega) w hl.pow).mono ?_
    rintro e w' ⟨rfl,k,os,rfl⟩
    rw [Lib.itoa_nonneg]
    exact ⟨rfl,Keep.ofBelow (Lib.below_grow _ _ (Nat.le_refl _) _ _)⟩)
  have RP:Hid (∀ W,Calls Tryz.prog 151 #[.string ⟨#[48]⟩,.int .i64 ((8:Int) - ((Lib.decDigits n).length:Int))] W fun e w'=>e = .returned (.string ⟨(Lib.repeatL [48] (8 - (Lib.decDigits n).length)).toArray⟩)∧Keep Non W w'):=zz0 (fun W=>by
    rw [show (8:Int) - ((Lib.decDigits n).length:Int)=((8 - (Lib.decDigits n).length:Nat):Int) by omega]
    refine (Tryz.strings_Repeat ⟨#[48]⟩ (8 - (Lib.decDigits n).length) W (by omega) (by show 1 * _≤_;omega)).mono ?_
    rintro e w' ⟨rfl,b⟩
    exact ⟨rfl,ze3 b⟩)
  have hrl:(Lib.repeatL [48] (8 - (Lib.decDigits n).length)).length=8 - (Lib.decDigits n).length:=zev _
  have hs:(⟨(Lib.decDigits n).toArray⟩:ByteArray).size=(Lib.decDigits n).length:=by show (Lib.decDigits n).toArray.size=_;simp
  unfold sv nameN
  generalize Lib.decDigits n=d at *
  generalize Lib.repeatL [48] (8 - d.length)=a at *
  obtain ⟨A1,h1'⟩:∃ A1,A1 = [114] ++ a:=⟨_,rfl⟩
  have l1:A1.length≤10:=by rw [h1'];simp;omega
  have hadd1:=fun (W:World)=>run_string_add_lists (P:=Tryz.prog) W [114] a (by decide) (by omega)
  have hadd2:=fun (W:World)=>run_string_add_lists (P:=Tryz.prog) W A1 d (by omega) (by omega)
  rw [← h1'] at hadd1 ⊢
  clear h1' hl
  go_enter Tryz.func181,Tryz.ntmps181
  go_wp2_with (first
    | (go_at_call 150;refine IT.out.mono ?_;rintro e w1 ⟨rfl,k1⟩;have K1:=zz0 k1;clear k1)
    | (go_at_call 151;refine (RP.out _).mono ?_;rintro e w2 ⟨rfl,k2⟩;have K2:=zz0 k2;clear k2))
  go_ret
  exact ⟨rfl,K1.out.trans1 K2.out⟩
section
attribute [local go_sem ↓] hV84 hV106 hV87 hW84 hW106 hW87 hB106 hB87
theorem znw (T:Nat→Prop) (b q place:Nat) (lv:Value) (m:Mf) (p:Pt) (w:World) (h:w.heap[b]? = some (VtB q lv)) (hm:MsAt T w lv [m]) (hp:m.parts[place]? = some p) (h5:p.sum.length=32) (h64:m.parts.length≤10000) :
    Calls Tryz.prog 103 #[.pointer (some ⟨b,0,none⟩),.int .i64 0,.int .i64 place] w fun e w'=>e = .returned (.tuple #[ptV p,.nilIface])∧Keep Non w w':=by
  have kA:Keep Non w (w.alloc (.cells zPt 106)):=(Keep.refl _ _).alloc _
  have c1:=vt_1 (nonAt kA h)
  obtain ⟨a,c,rfl,hc,ha,hx⟩:=hm
  obtain ⟨hp32,g,off,pa,pc,rfl,x1,x2,x3⟩:=hx 0 m rfl
  have c36:=x3 36 _ (ze9 m _ hp32)
  rw [Nat.zero_mul,Nat.add_zero] at c36
  replace c36:=(World.cell?_of_block (kA.block g (World.block_lt_of_cell? _ _ c36) (fun e=>e))).trans c36
  obtain ⟨hlt,_⟩:=List.getElem?_eq_some_iff.1 hp
  obtain ⟨a1,c1',e1,hcc,_,hy⟩:=x1.keepNon kA
  injection e1 with e1 e2 e3
  subst e1
  subst e3
  obtain ⟨g2,off2,rfl,hcell⟩:=hy place p hp
  have hld:=load101 _ g2 (off2+place * 35) p h5 hcell
  have hst:=zas w p h5
  have HL:=zz0 (zaG (zab w (PtB p)) h5)
  simp only [List.length_singleton] at hc c1 ⊢
  dsimp only [zPt] at c1 c36 hld hst
  have hlp:(place:Int) < m.parts.length:=by omega
  have K:=zz0 ((Keep.refl Non w).alloc (PtB p))
  clear h hx ha x1 x2 x3 hp hy hcell kA
  go_enter Tryz.func103,Tryz.ntmps103
  go_wp2_with fail
  have hlv:=HL.out
  unfold holdV at hlv
  refine bodyPost_ret (v:=.tuple #[ptV p,.nilIface]) (by simp [results,Tryz.results103,asAddr,hlv]) rfl ?_
  exact ⟨rfl,K.out⟩
end
end Go.Proofs.YtnboipdpccnedaaGreatDoor
