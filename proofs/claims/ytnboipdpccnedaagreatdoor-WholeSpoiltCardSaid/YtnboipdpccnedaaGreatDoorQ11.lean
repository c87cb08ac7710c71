/- The blocks of a text, one behind the other: slices.Chunk, walked; a range over it. · The digest, in plain words: the padded text, the states behind it -/
import Derived.RangeFuncNested
import Derived.RangeFuncBound
import Derived.RangeFuncCalls
import Derived.RangeFuncLeaves
import Derived.Shelf.Abstract
import Derived.Shelf.RegionOpen
import Derived.OwnWalkIn
import Derived.TacticsInMore
import Derived.LoopNIn
import Derived.LoopIn
import Derived.Sort.QuietIn
import Derived.Sort.BigQuietIn
import Derived.Laws.CopyOwn
import Derived.Test.YtnboipdpccnedaaGreatDoorQ05
set_option linter.unusedVariables false
set_option maxRecDepth 100000
set_option maxHeartbeats 16000000
namespace Go.Proofs.YtnboipdpccnedaaGreatDoor
open Go.RowKit Go.Shelf
attribute [local go_sem] Oper.semAt_some
theorem zjJ (v:Value) (hv:v.oneCell'=true) (w:World) :
    Calls Tryz.prog 293 #[v,.int .i64 64] w fun e w'=>e = .returned (.func (.func 344) #[] #[.pointer (some ⟨w.heap.size,0,none⟩),.pointer (some ⟨w.heap.size+1,0,none⟩)])∧w'=(w.alloc (.cells #[v] 44)).alloc (.cells #[.int .i64 64] 3):=by
  go_enter Tryz.func293,Tryz.ntmps293
  go_wp2
  go_ret
  exact ⟨rfl,rfl⟩
theorem ziE (n l Bs Bn g len cap m:Nat) (hm:len=64 * m) (hcap:len≤cap) (hcm:cap≤9223372036854775807) (hlen:len≤1000000) (J:Nat→World→Prop)
    (hJd:∀ i W k,J i W→J i (W.drewN k)) (hJs:∀ i W,J i W→W.heap[Bs]? = some (.cells #[.slice (some ⟨g,0,none⟩) len cap] 44 (0,0))∧W.heap[Bn]? = some (.cells #[.int .i64 64] 3 (0,0)))
    (W:World) (h0:J 0 W)
    (hY:∀ (i:Nat) (W1:World),i < m→J i W1 →
      YieldAt Fence.wide (n - 1) Tryz.prog l #[.slice (some ⟨g,64 * i,none⟩) 64 64] W1 fun e W'=>e = .returned (.bool true)∧J (i+1) W') :
    CallsIn Fence.wide n Tryz.prog 344 #[.func (.yield l) #[] #[],.pointer (some ⟨Bs,0,none⟩),.pointer (some ⟨Bn,0,none⟩)] W fun e W'=>(∃ v,e = .returned v)∧J m W':=by
  have HJd:=zz0 hJd
  have HJs:=zz0 hJs
  have HY:=zz0 hY
  have HI:=zz0 h0
  clear hJd hJs hY h0
  refine callsIn_of_wp Tryz.func344 rfl trivial ?_ rfl
  simp only [Tryz.ntmps344,List.size_toArray,List.length_cons,List.length_nil,Nat.reduceAdd,Nat.reduceSub,Array.replicate_succ,Array.replicate_zero,List.push_toArray,List.append_toArray,List.nil_append,List.cons_append]
  gi_wp2_with fail
  gi_loopw [4] (fun i wr=>∃ k:Nat,k≤m∧i = .int .i64 ((64 * k:Nat):Int)∧J k wr) (fun i _=>len - (intOf i).toNat)
  case atStart=>exact ⟨0,Nat.zero_le _,rfl,HI.out⟩
  case round =>
    obtain ⟨k,hk,rfl,hj⟩:=hrel
    obtain ⟨bs,bn⟩:=HJs.out k wr hj
    have m1:wr.cell? ⟨Bs,0,none⟩=some (.slice (some ⟨g,0,none⟩) len cap):=by simp [World.cell?,bs]
    have m2:wr.cell? ⟨Bn,0,none⟩=some (.int .i64 64):=by simp [World.cell?,bn]
    have HJ:=zz0 hj
    clear bs bn hj
    by_cases hlt:k < m
    · have HM:=zz0 hm
      have h1:((64 * k:Nat):Int) < (len:Int):=by omega
      have h2:64≤len - 64 * k:=by omega
      have h3:64 * k+64≤cap:=by omega
      clear hm
      gi_wp2_with fail
      gi_big_quiet_th (fail)
      have hJ2:=HJd.out k wr nq HJ.out
      have m3:(wr.drewN nq).cell? ⟨Bs,0,none⟩=some (.slice (some ⟨g,0,none⟩) len cap):=m1
      obtain ⟨fn,tmps,assign,body,hy,hR⟩:=HY.out k _ hlt hJ2
      have hR':=zz0 hR
      have w1:IntKind.i64.wrap (((64 * k:Nat):Int)+64)=((64 * k+64:Nat):Int):=by rw [IntKind.wrap_i64];omega
      have w2:(((64 * k:Nat):Int)+64)=((64 * k+64:Nat):Int):=by omega
      have p1:64 * k≤64 * k+64:=by omega
      have p2:64 * k+64 - 64 * k=64:=by omega
      clear hR hJ2
      gi_wp2_with fail
      refine ⟨fun h=>(by cases h),?_⟩
      refine hR'.out.mono ?_
      rintro e W3 ⟨rfl,hJ3⟩
      have HJ3:=zz0 hJ3
      obtain ⟨bs3,bn3⟩:=HJs.out _ _ hJ3
      have m4:W3.cell? ⟨Bs,0,none⟩=some (.slice (some ⟨g,0,none⟩) len cap):=by simp [World.cell?,bs3]
      have m5:W3.cell? ⟨Bn,0,none⟩=some (.int .i64 64):=by simp [World.cell?,bn3]
      clear hJ3 bs3 bn3 hy hR'
      gi_wp2_with fail
      go_roundw
      case rel=>exact ⟨k+1,by omega,by go_num,HJ3.out⟩
      case measure=>simp [intOf];omega
    · have e:k=m:=by omega
      subst e
      gi_wp2_with fail
      go_end0
      exact ⟨⟨_,rfl⟩,HJ.out⟩
theorem Keep.putObj {S:Nat→Prop} {a w:World} (h:Keep S a w) {l:Nat} (hl:S l∨a.heap.size≤l) (o:Obj):Keep S a (w.putObj l o) :=
  h.grown (grownBy_putObj' w l o) (fun k e=>by injection e with e;subst e;exact hl)
def CPost (I:Nat→World→Prop) (i B0:Nat) (W:World):Exit→Act→World→Prop
  | .normal,_,W'=>I (i+1) W'∧Keep (fun k=>k < B0) W W'
  | _,_,_=>False
theorem zhg {n Bs Bn g len cap m:Nat} (hm:len=64 * m) (hcap:len≤cap) (hcm:cap≤9223372036854775807) (hlen:len≤1000000) {o:Operand} {ps:Array Tmp} {assign body:Code} {Q:Exit→Act→World→Prop} {a:Act} {w:World}
    (hg:a.eval o = .func (.func 344) #[] #[.pointer (some ⟨Bs,0,none⟩),.pointer (some ⟨Bn,0,none⟩)]) (hps:ps.size=1)
    (I:Nat→World→Prop)
    (hI:∀ i W W',I i W→Keep (fun k=>w.heap.size≤k) W W'→I i W')
    (hIB:∀ i W,I i W→W.heap[Bs]? = some (.cells #[.slice (some ⟨g,0,none⟩) len cap] 44 (0,0))∧W.heap[Bn]? = some (.cells #[.int .i64 64] 3 (0,0))) (h0:I 0 w)
    (a1:Nat→Act)
    (hassign:∀ (i:Nat) (W:World) (K:Act→World→Prop),K (a1 i) W →
      assign.wpIn (Fence.wide.inRound (w.heap.size+1)) (n - 1 - 1) Tryz.prog (Exit.then K (fun _ _ _=>False)) { tmps:=(ps.zip #[.slice (some ⟨g,64 * i,none⟩) 64 64]).foldl (fun t (p,v)=>t.setIfInBounds p v) a.tmps,defers:=[] } W)
    (hbody:∀ (i:Nat) (W:World),i < m→I i W →
      body.wpIn (Fence.wide.inRound (w.heap.size+1)) (n - 1 - 1) Tryz.prog (CPost I i w.heap.size W) (a1 i) W)
    (hdone:∀ W,I m W→W.heap[w.heap.size]? = some (.deferred (some []))→Q .normal { a with defers:={ target:=.collected w.heap.size,args:=#[] } :: a.defers } W) :
    (Code.rangeFunc o ps assign body).wpIn Fence.wide n Tryz.prog Q a w:=by
  refine wpIn_rangeFunc ?_
  intro fn hfn
  show ∃ l mark w₁ d w₁' f args w₂,(Instr.enterLoop fn a.tmps ps assign body none).run Tryz.prog w = .ok (l,mark) w₁∧_
  obtain ⟨rec,hrec⟩:∃ rec:LoopState→Option Code→Loop,rec=fun st pe=>{ state:=st,pending:=pe,fn,tmps:=a.tmps,params:=ps,assign,body,defers:=w.heap.size }:=⟨_,rfl⟩
  obtain ⟨W1,hW1⟩:∃ W1,(w.alloc (.deferred (some []))).alloc (.loop (rec .ready none))=W1:=⟨_,rfl⟩
  have hsz:W1.heap.size=w.heap.size+2:=by rw [← hW1];simp
  have hkW:Keep Non w W1:=by rw [← hW1];exact ((Keep.refl _ _).alloc _).alloc _
  have hL1:W1.heap[w.heap.size+1]? = some (.loop (rec .ready none)):=by
    have:=zab (w.alloc (.deferred (some []))) (.loop (rec .ready none))
    rw [World.size_alloc,hW1] at this
    exact this
  have hK1:W1.heap[w.heap.size]? = some (.deferred (some [])):=by rw [← hW1];exact zae (zab _ _) _
  have hI1:I 0 W1:=hI 0 w W1 h0 hkW.ofNon
  refine ⟨w.heap.size+1,[{ target:=.collected w.heap.size,args:=#[] }],W1,{ target:=.fn (.func 344) #[.pointer (some ⟨Bs,0,none⟩),.pointer (some ⟨Bn,0,none⟩)],args:=#[.func (.yield (w.heap.size+1)) #[] #[]] },W1,344,
    #[.func (.yield (w.heap.size+1)) #[] #[],.pointer (some ⟨Bs,0,none⟩),.pointer (some ⟨Bn,0,none⟩)],W1,?_,?_,?_,?_,(fun h=>by cases h),?_⟩
  · rw [← hW1,hrec];exact run_enterLoop_outer _ _ _ _ _
  · simp only [resolve,hg]
    simp [go_sem]
  · intro f' hf';exact trivial
  · simp [invoke,go_sem]
  · refine (ziE (n - 1) (w.heap.size+1) Bs Bn g len cap m hm hcap hcm hlen
      (fun i W=>I i W∧W.heap[w.heap.size+1]? = some (.loop (rec .ready none))∧W.heap[w.heap.size]? = some (.deferred (some [])))
      (fun i W k h=>⟨hI i W _ h.1 ((Keep.refl _ _).drewN k),h.2.1,h.2.2⟩) (fun i W h=>hIB i W h.1) W1 ⟨hI1,hL1,hK1⟩ ?_).mono ?_
    · rintro i W hi ⟨hII,hl,hk⟩
      have hlt:=lt_of_block hl
      have hy:=run_yield (P:=Tryz.prog) (args:=#[.slice (some ⟨g,64 * i,none⟩) 64 64]) hl (by rw [hrec];exact hps.symm)
      rw [hrec] at hy
      refine ⟨fn,_,assign,body,hy,roundIn_of_wpIn hfn (hassign i W _ ⟨_,run_beginRound hl (by rw [hrec]),?_⟩)⟩
      have hl2:(W.putObj (w.heap.size+1) (.loop { rec .ready none with state:=.busy })).heap[w.heap.size+1]? = some (.loop { rec .ready none with state:=.busy }):=World.putObj_heap_same hlt
      have hk2:(W.putObj (w.heap.size+1) (.loop { rec .ready none with state:=.busy })).heap[w.heap.size]? = some (.deferred (some [])):=(World.putObj_heap_other (by omega)).trans hk
      have kp:Keep (One (w.heap.size+1)) W (W.putObj (w.heap.size+1) (.loop { rec .ready none with state:=.busy })):=(Keep.refl (One (w.heap.size+1)) W).putObj (.inl (zar _)) _
      refine wpIn_mono (hbody i _ hi (hI i W _ hII (kp.mono fun k _ h=>by unfold One at h;omega))) ?_
      rintro e a3 W3 hp
      cases e with
      | normal =>
        obtain ⟨hi3,hk3⟩:=hp
        have hl3:=hk3.at hl2 (fun e=>by omega)
        have hk4:=hk3.at hk2 (fun e=>by omega)
        have hr:=run_endRound (P:=Tryz.prog) none hl3
        rw [hrec] at hr
        refine ⟨_,_,hr,rfl,hI _ _ _ hi3 ((Keep.refl _ _).putObj (.inl (by omega)) _),?_,(World.putObj_heap_other (by omega)).trans hk4⟩
        rw [hrec]
        exact World.putObj_heap_same (lt_of_block hl3)
      | ret=>exact hp.elim
      | exit id=>exact hp.elim
      | goto t=>exact hp.elim
      | panic ch=>exact hp.elim
      | outgrown=>exact hp.elim
    · rintro e W2 ⟨⟨v,rfl⟩,hi,hl,hk⟩
      have kp:Keep (fun k=>w.heap.size≤k) W2 (W2.putObj (w.heap.size+1) (.loop { rec .ready none with state:=.exhausted })):=(Keep.refl _ _).putObj (.inl (by omega)) _
      exact ⟨none,_,by have:=run_endLoop (P:=Tryz.prog) hl (by rw [hrec];simp);rw [hrec] at this ⊢;exact this,hdone _ (hI _ _ _ hi kp) ((World.putObj_heap_other (by omega)).trans hk)⟩
end Go.Proofs.YtnboipdpccnedaaGreatDoor
namespace Go.Proofs.YtnboipdpccnedaaGreatDoor
open Go.RowKit
def first8:W8:=⟨0x6a09e667,0xbb67ae85,0x3c6ef372,0xa54ff53a,0x510e527f,0x9b05688c,0x1f83d9ab,0x5be0cd19⟩
theorem ziN:first8.u32:=by unfold W8.u32 U32 first8;decide
def blkB (b:List UInt8) (i:Nat):List UInt8:=(b.drop (64 * i)).take 64
def stTo (b:List UInt8):Nat→W8
  | 0=>first8
  | i+1=>stepW (stTo b i) (blkB b i)
def padL (l:List UInt8):List UInt8:=l ++ padB l.length
def blocks (l:List UInt8):Nat:=(padL l).length / 64
def shaS (l:List UInt8):W8:=stTo (padL l) (blocks l)
def W8.byte (s:W8) (j:Nat):Int:=s.at (j / 4) / 2 ^ (24 - 8 * (j % 4)) % 256
def digC (s:W8) (n:Nat):Array Value:=((List.range 32).map fun j=>if j < n then Value.int .u8 (s.byte j) else .int .u8 0).toArray
theorem zdw (l:List UInt8):(padL l).length=64 * blocks l:=by
  unfold blocks padL
  rw [List.length_append,zbP]
  omega
theorem zf2 (l:List UInt8) (h:l.length≤131072):blocks l≤2100:=by
  have:=zdw l
  unfold padL at this
  rw [List.length_append,zbP] at this
  omega
theorem zaq (s:W8) (n:Nat):(digC s n).size=32:=by simp [digC]
theorem zdq (s:W8) (n:Nat):(digC s n).all (·.oneCell')=true:=by
  rw [Array.all_eq_true]
  intro i hi
  simp only [digC,List.getElem_toArray,List.getElem_map]
  split <;> rfl
theorem zfq (s:W8) (n j:Nat) (h:j < 32):(digC s n)[j]? = some (if j < n then Value.int .u8 (s.byte j) else .int .u8 0):=by
  simp [digC,h]
theorem zlU (s t:W8):(addW s t).u32:=⟨u32_w _,u32_w _,u32_w _,u32_w _,u32_w _,u32_w _,u32_w _,u32_w _⟩
theorem zdB (b:List UInt8):∀ i,(stTo b i).u32
  | 0=>ziN
  | i+1=>zlU _ _
theorem W8.at_u32 {s:W8} (h:s.u32):∀ i,U32 (s.at i)
  | 0=>h.1
  | 1=>h.2.1
  | 2=>h.2.2.1
  | 3=>h.2.2.2.1
  | 4=>h.2.2.2.2.1
  | 5=>h.2.2.2.2.2.1
  | 6=>h.2.2.2.2.2.2.1
  | _+7=>h.2.2.2.2.2.2.2
theorem zjH (b:List UInt8) (i j:Nat) (hj:j < 64):byI (blkB b i) j=byI b (64 * i+j):=by
  unfold byI blkB
  simp only [List.getD_eq_getElem?_getD,List.getElem?_take,List.getElem?_drop,if_pos hj]
theorem zjV (s:W8) (i:Nat) (h:i < 8) :
    ((digC s (4 * i)).toList.take (4 * i) ++ ([Value.int .u8 (s.byte (4 * i)),.int .u8 (s.byte (4 * i+1)),.int .u8 (s.byte (4 * i+2)),.int .u8 (s.byte (4 * i+3))] ++ (digC s (4 * i)).toList.drop (4 * i+4))).toArray=digC s (4 * (i+1)):=by
  match i,h with
  | 0,_=>rfl
  | 1,_=>rfl
  | 2,_=>rfl
  | 3,_=>rfl
  | 4,_=>rfl
  | 5,_=>rfl
  | 6,_=>rfl
  | 7,_=>rfl
theorem zpH (s:W8) (i:Nat):s.byte (4 * i)=s.at i / 16777216 % 256:=by
  unfold W8.byte
  rw [show 4 * i / 4=i by omega,show 4 * i % 4=0 by omega]
  rfl
theorem zpI (s:W8) (i:Nat):s.byte (4 * i+1)=s.at i / 65536 % 256:=by
  unfold W8.byte
  rw [show (4 * i+1) / 4=i by omega,show (4 * i+1) % 4=1 by omega]
  rfl
theorem zpJ (s:W8) (i:Nat):s.byte (4 * i+2)=s.at i / 256 % 256:=by
  unfold W8.byte
  rw [show (4 * i+2) / 4=i by omega,show (4 * i+2) % 4=2 by omega]
  rfl
theorem zpK (s:W8) (i:Nat):s.byte (4 * i+3)=s.at i % 256:=by
  unfold W8.byte
  rw [show (4 * i+3) / 4=i by omega,show (4 * i+3) % 4=3 by omega]
  simp
theorem zlj {S:Nat→Prop} {w w':World} {base:Nat} {e:TypeId} {size:Nat} {v:Value} {n:Nat} {xs:List Value} (h:w.ownsRow base e size v n xs) (k:Keep S w w') (hn:∀ g,v.ownBlock=some g→¬ S g):w'.ownsRow base e size v n xs:=by
  obtain ⟨h1,h2⟩:=h
  refine ⟨h1,?_⟩
  rcases h2 with h2 | ⟨g,cap,cur,rfl,hb,hg,rest⟩
  · exact .inl h2
  · exact .inr ⟨g,cap,cur,rfl,hb,k.at hg (hn g rfl),rest⟩
def Pts (w:World) (v:Value) (ls:List (List UInt8)):Prop:=∃ vs:List Value,Rd w v vs∧vs.length=ls.length∧∀ (i:Nat) (u:Value) (l:List UInt8),vs[i]? = some u→ls[i]? = some l→Bs w u l
theorem Pts.keep {w w':World} {v:Value} {ls:List (List UInt8)} (h:Pts w v ls) (k:Keep Non w w'):Pts w' v ls:=by
  obtain ⟨vs,h1,h2,h3⟩:=h
  exact ⟨vs,h1.keepNon k,h2,fun i u l a b=>(h3 i u l a b).keepNon k⟩
def Frs (w:World):Prop:=∃ (tt:TypeId) (fr:Nat × Nat),w.heap[1]? = some (.cells first8.cells tt fr)
theorem Frs.keep {w w':World} (h:Frs w) (k:Keep Non w w'):Frs w':=by
  obtain ⟨tt,fr,h⟩:=h
  exact ⟨tt,fr,k.at h (fun e=>e)⟩
theorem Kon.keep {w w':World} (h:Kon w) (k:Keep Non w w'):Kon w':=by
  obtain ⟨cs,h1,⟨tt,fr,h2⟩,h3,h4⟩:=h
  exact ⟨cs,h1,⟨tt,fr,k.at h2 (fun e=>e)⟩,Nat.le_trans h3 k.size,h4⟩
end Go.Proofs.YtnboipdpccnedaaGreatDoor
namespace Go.Proofs.YtnboipdpccnedaaGreatDoor
open Go.RowKit Go.Shelf
attribute [local go_sem] Oper.semAt_some
theorem zge (ls:List (List UInt8)) (k:Nat) (l:List UInt8) (h:ls[k]? = some l):(ls.take (k+1)).flatten=(ls.take k).flatten ++ l:=by
  rw [List.take_add_one,h]
  simp
theorem zmi (ls:List (List UInt8)) (k:Nat) (l:List UInt8) (h:ls[k]? = some l):(ls.take k).flatten.length+l.length≤ls.flatten.length:=by
  rw [← List.length_append,← zge ls k l h]
  conv=>rhs;rw [← List.take_append_drop (k+1) ls]
  rw [List.flatten_append,List.length_append]
  omega
theorem zmq (s:W8) (t:Nat) (h:t < 8) (w:World):(Instr.index 373 (.agg s.cells) (.int .i64 (t:Int))).run Tryz.prog w = .ok (.int .u32 (s.at t)) w:=by
  have hv:=W8.get s t h
  simp [Instr.index,go_sem,h,hv]
structure OfI (w:World) (b:List UInt8) (g:Nat) (og:Obj) (B:Nat) (v:Value) (i:Nat) (W:World):Prop where
  keep:Keep Non w W
  res:W.heap[w.heap.size]? = some (.cells (digC first8 0) 84 (0,0))
  st:W.heap[w.heap.size+1]? = some (.cells (stTo b i).cells 373 (0,0))
  row:W.heap[g]? = some og
  bs:W.heap[B]? = some (.cells #[v] 44 (0,0))
  bn:W.heap[B+1]? = some (.cells #[.int .i64 64] 3 (0,0))
theorem OfI.keepGe {w W W':World} {b:List UInt8} {g:Nat} {og:Obj} {B B0:Nat} {v:Value} {i:Nat} (h:OfI w b g og B v i W) (k:Keep (fun k=>B0≤k) W W') (hB:B+2≤B0) (hg:g < B) (hw:w.heap.size+2≤B):OfI w b g og B v i W' :=
  ⟨h.keep.trans k (fun _ _ h=>h) (fun i hi h=>by show False;omega),k.at h.res (by omega),k.at h.st (by omega),k.at h.row (by omega),k.at h.bs (by omega),k.at h.bn (by omega)⟩
section
attribute [local simp high] hA373 hS373 hA84 hS84
theorem zp0 (ls:List (List UInt8)) (x:Option Addr) (xc:Nat) (w:World) (hp:Pts w (.slice x ls.length xc) ls) (hk:Kon w) (hf:Frs w) (hn:ls.length≤100) (ht:ls.flatten.length≤131072) :
    Calls Tryz.prog 219 #[.slice x ls.length xc] w fun e w'=>e = .returned (.agg (digC (shaS ls.flatten) 32))∧Keep Non w w':=by
  have HP:=zz0 hp
  have HK:=zz0 hk
  have HF:=zz0 hf
  clear hp hk hf
  obtain ⟨i0,hi0,hz0,hz1,hz2⟩:=info_parts shU8
  refine (callsIn_wide (n:=9)).1 (callsIn_of_wp_marks Tryz.func219 rfl trivial ?_ rfl)
  refine wpIn_wide.2 ?_
  simp only [Tryz.ntmps219,List.size_toArray,List.length_cons,List.length_nil,Nat.reduceAdd,Nat.reduceSub,Array.replicate_succ,Array.replicate_zero,List.push_toArray,List.append_toArray,List.nil_append,List.cons_append]
  go_wp2_with fail
  have k1:Keep Non w (w.alloc (.cells #[.int .u8 0,.int .u8 0,.int .u8 0,.int .u8 0,.int .u8 0,.int .u8 0,.int .u8 0,.int .u8 0,.int .u8 0,.int .u8 0,.int .u8 0,.int .u8 0,.int .u8 0,.int .u8 0,.int .u8 0,.int .u8 0,.int .u8 0,.int .u8 0,.int .u8 0,.int .u8 0,.int .u8 0,.int .u8 0,.int .u8 0,.int .u8 0,.int .u8 0,.int .u8 0,.int .u8 0,.int .u8 0,.int .u8 0,.int .u8 0,.int .u8 0,.int .u8 0] 84)):=(Keep.refl _ _).alloc _
  have r1:(w.alloc (.cells #[.int .u8 0,.int .u8 0,.int .u8 0,.int .u8 0,.int .u8 0,.int .u8 0,.int .u8 0,.int .u8 0,.int .u8 0,.int .u8 0,.int .u8 0,.int .u8 0,.int .u8 0,.int .u8 0,.int .u8 0,.int .u8 0,.int .u8 0,.int .u8 0,.int .u8 0,.int .u8 0,.int .u8 0,.int .u8 0,.int .u8 0,.int .u8 0,.int .u8 0,.int .u8 0,.int .u8 0,.int .u8 0,.int .u8 0,.int .u8 0,.int .u8 0,.int .u8 0] 84)).heap[w.heap.size]? = some (.cells (digC first8 0) 84 (0,0)):=zab _ _
  have s1:(w.alloc (.cells #[.int .u8 0,.int .u8 0,.int .u8 0,.int .u8 0,.int .u8 0,.int .u8 0,.int .u8 0,.int .u8 0,.int .u8 0,.int .u8 0,.int .u8 0,.int .u8 0,.int .u8 0,.int .u8 0,.int .u8 0,.int .u8 0,.int .u8 0,.int .u8 0,.int .u8 0,.int .u8 0,.int .u8 0,.int .u8 0,.int .u8 0,.int .u8 0,.int .u8 0,.int .u8 0,.int .u8 0,.int .u8 0,.int .u8 0,.int .u8 0,.int .u8 0,.int .u8 0] 84)).heap.size=w.heap.size+1:=World.size_alloc _ _
  have K1:=zz0 k1
  have R1:=zz0 r1
  have S1:=zz0 s1
  clear k1 r1 s1
  generalize w.alloc (.cells #[.int .u8 0,.int .u8 0,.int .u8 0,.int .u8 0,.int .u8 0,.int .u8 0,.int .u8 0,.int .u8 0,.int .u8 0,.int .u8 0,.int .u8 0,.int .u8 0,.int .u8 0,.int .u8 0,.int .u8 0,.int .u8 0,.int .u8 0,.int .u8 0,.int .u8 0,.int .u8 0,.int .u8 0,.int .u8 0,.int .u8 0,.int .u8 0,.int .u8 0,.int .u8 0,.int .u8 0,.int .u8 0,.int .u8 0,.int .u8 0,.int .u8 0,.int .u8 0] 84)=w1 at K1 R1 S1 ⊢
  obtain ⟨ftt,fr,hfr⟩:=HF.out.keep K1.out
  have hl:=zbi (P:=Tryz.prog) w1 1 ftt first8.cells fr 8 hfr rfl
  simp only [oA373,oS373,Result.andThen,↓reduceIte,hl]
  rw [Oper.upon_value]
  clear hl hfr fr ftt
  go_wp2_with fail
  have hzb:=zab w1 (.cells #[.int .u32 0,.int .u32 0,.int .u32 0,.int .u32 0,.int .u32 0,.int .u32 0,.int .u32 0,.int .u32 0] 373)
  have hst:=zbb (P:=Tryz.prog) (w1.alloc (.cells #[.int .u32 0,.int .u32 0,.int .u32 0,.int .u32 0,.int .u32 0,.int .u32 0,.int .u32 0,.int .u32 0] 373)) w1.heap.size 373 #[.int .u32 0,.int .u32 0,.int .u32 0,.int .u32 0,.int .u32 0,.int .u32 0,.int .u32 0,.int .u32 0] first8.cells hzb rfl rfl first8.one
  simp only [oS373,Result.andThen,↓reduceIte,hst,W8.size]
  rw [Oper.upon_skip]
  have k2:Keep Non w1 ((w1.alloc (.cells #[.int .u32 0,.int .u32 0,.int .u32 0,.int .u32 0,.int .u32 0,.int .u32 0,.int .u32 0,.int .u32 0] 373)).setRow w1.heap.size first8.cells):=((Keep.refl _ _).alloc _).setRow (.inr (Nat.le_refl _)) _
  have t2:=setRow_heap (w1.alloc (.cells #[.int .u32 0,.int .u32 0,.int .u32 0,.int .u32 0,.int .u32 0,.int .u32 0,.int .u32 0,.int .u32 0] 373)) w1.heap.size _ first8.cells _ _ hzb
  have s2:((w1.alloc (.cells #[.int .u32 0,.int .u32 0,.int .u32 0,.int .u32 0,.int .u32 0,.int .u32 0,.int .u32 0,.int .u32 0] 373)).setRow w1.heap.size first8.cells).heap.size=w1.heap.size+1:=by rw [setRow_size,World.size_alloc]
  have T2:=zz0 t2
  have S2:=zz0 s2
  have K2:=zz0 k2
  clear hzb hst k2 t2 s2
  generalize (w1.alloc (.cells #[.int .u32 0,.int .u32 0,.int .u32 0,.int .u32 0,.int .u32 0,.int .u32 0,.int .u32 0,.int .u32 0] 373)).setRow w1.heap.size first8.cells=w2 at T2 S2 K2 ⊢
  have R2:=zz0 (K2.out.at R1.out (fun e=>e))
  have K02:=zz0 (K1.out.trans1 K2.out)
  have T2':Hid (w2.heap[w.heap.size+1]? = some (.cells first8.cells 373 (0,0))):=zz0 (by rw [← S1.out];exact T2.out)
  have S2':Hid (w2.heap.size=w.heap.size+2):=zz0 (by rw [S2.out,S1.out])
  rw [show w1.heap.size=w.heap.size+1 from S1.out]
  clear R1 T2 S2 K2 K1 S1
  go_wp2_with fail
  go_loopw [4,5,15] (fun v n i wr=>∃ k:Nat,k≤ls.length∧i = .int .i64 k∧n = .int .i64 ((ls.take k).flatten.length:Nat)∧Keep Non w2 wr∧wr.ownsRow w2.heap.size 5 1 v (ls.take k).flatten.length ((ls.take k).flatten.map bv)) (fun _ _ i _=>ls.length - (intOf i).toNat)
  case atStart=>exact ⟨0,Nat.zero_le _,rfl,rfl,Keep.refl _ _,World.ownsRow_nil _ _ _ _⟩
  case round =>
    obtain ⟨k,hk,rfl,rfl,kp,ho⟩:=hrel
    have KP:=zz0 kp
    have HO:=zz0 ho
    clear kp ho
    by_cases hlt:k < ls.length
    · obtain ⟨l,hl⟩:∃ l,ls[k]? = some l:=⟨ls[k],by simp [hlt]⟩
      obtain ⟨vs,hv1,hv2,hv3⟩:=(HP.out.keep K02.out).keep KP.out
      obtain ⟨u,hu⟩:∃ u,vs[k]? = some u:=⟨vs[k],by rw [List.getElem?_eq_getElem]⟩
      have hbs:=hv3 k u l hu hl
      obtain ⟨ua,uc,rfl,_⟩:=id hbs
      obtain ⟨g,off,rfl,hcell⟩:∃ g off,x=some ⟨g,off,none⟩∧wr.cell? ⟨g,off+k,none⟩=some (.slice ua l.length uc):=by
        obtain ⟨a',c',e1,hx⟩:=hv1
        obtain ⟨g,off,e2,hc⟩:=hx (by intro e;rw [e] at hv2;simp at hv2;omega)
        injection e1 with e1
        exact ⟨g,off,e1.trans e2,by have:=hc k _ hu;rwa [List.length_map] at this⟩
      have BS:=zz0 hbs
      have FT:=zz0 (zge ls k l hl)
      have fl:=zmi ls k l hl
      clear hv1 hv2 hv3 hu hl hbs
      generalize hfk:(ls.take k).flatten=F at HO FT fl
      have HFK:=zz0 hfk
      clear hfk
      have lF:F.length≤131072:=by omega
      have lL:l.length≤131072:=by omega
      rw [List.length_map] at BS
      go_wp2_with (at_builtin;refine zah rfl _ _ 44 rfl w2.heap.size 5 i0 (.int .u8 0) 1 Tryz.underlying44 hi0 hz0 hz1 hz2 rfl _ F.length _ rfl HO.out (.slice ua l.length uc) rfl (l.map bv) BS.out (zam l) (by unfold maxLen;simp;omega) (by simp;omega) KP.out.size ?_;intro v' w' ho hg hp;have HO2:=zz0 ho;have HG:=zz0 hg;clear ho hp hg)
      have ho2:=HO2.out
      rw [← List.map_append,← FT.out,List.length_map,← List.length_append,← FT.out] at ho2
      exact ⟨⟨k+1,by omega,by go_num,by rw [FT.out,List.length_append];go_num,KP.out.grown HG.out (fun q e=>.inr (HO.out.lt q e).1),ho2⟩,by simp [intOf];omega⟩
    · have e:k=ls.length:=by omega
      subst e
      rw [List.take_length] at HO ⊢
      generalize hL:ls.flatten=L at HO ht ⊢
      have HL:=zz0 hL
      clear hL
      go_wp2_with fail
      refine (zoI L.length ht _).mono ?_
      rintro e w3 ⟨g3,c3,rfl,kp3,hg3,ho3⟩
      have KP3:=zz0 kp3
      have PB:=zz0 (Rd.ofOwns ho3)
      have HO3:=zz0 (zlj HO.out kp3 (fun q e h=>h))
      clear kp3 ho3 HO
      have hpl:=zbP L.length
      have lP:(padB L.length).length≤100:=by omega
      clear hpl
      go_wp2_with (at_builtin;refine zah rfl _ _ 44 rfl w2.heap.size 5 i0 (.int .u8 0) 1 Tryz.underlying44 hi0 hz0 hz1 hz2 rfl _ L.length _ rfl HO3.out (.slice (some ⟨g3,0,none⟩) (padB L.length).length c3) rfl ((padB L.length).map bv) PB.out (zam _) (by unfold maxLen;simp;omega) (by simp;omega) (Nat.le_trans KP.out.size KP3.out.size) ?_;intro v' w' ho hg hp;have HO2:=zz0 ho;have HG:=zz0 hg;clear ho hp hg)
      have kp4:Keep Non w2 w':=(KP.out.trans1 KP3.out).grown HG.out (fun q e=>.inr (HO3.out.lt q e).1)
      have ho4:=HO2.out
      rw [← List.map_append,List.length_map,← List.length_append,show L ++ padB L.length=padL L from rfl] at ho4
      clear HO2 HG HO3 PB KP3 hg3 KP
      have hpl:=zbP L.length
      have hPL:=zdw L
      have hbl:=zf2 L ht
      rcases ho4.2 with ⟨_,h0⟩ | ⟨g4,cap4,cur4,rfl,hb4,hg4,hle4,hmx4,hcs4,htk4⟩
      · have:(padL L).length=L.length+(padB L.length).length:=List.length_append
        omega
      have hrd:=Rd.ofOwns ho4
      have hb:Hid (∀ j,j < (padL L).length→cur4[j]? = some (.int .u8 (byI (padL L) j))):=zz0 (fun j hj=>by
        have e1:((padL L).map bv)[j]? = some (bv ((padL L)[j])):=by simp [hj]
        have e2:=(World.ownsRow.cells ho4 (g:=g4) rfl) j _ e1
        rw [zau,Nat.zero_add] at e2
        simp only [World.cell?,hg4,bv] at e2
        simpa [byI,hj] using e2)
      have K4:=zz0 kp4
      have G4:=zz0 hg4
      have HPL:=zz0 hPL
      unfold maxLen at hmx4
      have R4:=zz0 (K4.out.at R2.out (fun e=>e))
      have T4:=zz0 (K4.out.at T2'.out (fun e=>e))
      have K04:=zz0 (K02.out.trans1 K4.out)
      have hg4w:=lt_of_block hg4
      have hs4:w.heap.size+2≤w'.heap.size:=by have:=K4.out.size;have:=S2'.out;omega
      clear kp4 hpl hrd ho4 hg4 R2 T2' K4 hPL hcs4 htk4 lP
      generalize (padL L).length=N at hle4 HPL hb ⊢
      refine (zjJ _ rfl _).mono ?_
      rintro e w5 ⟨rfl,hw5⟩
      have I5:Hid (OfI w (padL L) g4 (.cells cur4 5 (0,0)) w'.heap.size (.slice (some ⟨g4,0,none⟩) N cap4) 0 w5):=zz0 (by
        subst hw5
        refine ⟨(K04.out.alloc _).alloc _,zae (zae R4.out _) _,zae (zae T4.out _) _,zae (zae G4.out _) _,zae (zab _ _) _,?_⟩
        have:=zab (w'.alloc (.cells #[.slice (some ⟨g4,0,none⟩) N cap4] 44)) (.cells #[.int .i64 64] 3)
        rwa [World.size_alloc] at this)
      have hs5:Hid (w5.heap.size=w'.heap.size+2):=zz0 (by subst hw5;simp)
      clear hw5
      go_wp2_with fail
      refine (wpIn_wide (n:=9)).1 ?_
      refine zhg (m:=blocks L) (by have:=HPL.out;omega) hle4 (by omega) (by have:=HPL.out;omega) rfl rfl (OfI w (padL L) g4 (.cells cur4 5 (0,0)) w'.heap.size (.slice (some ⟨g4,0,none⟩) N cap4)) (fun i W W' h k=>h.keepGe k (by have:=hs5.out;omega) (by omega) (by omega)) (fun i W h=>⟨h.bs,h.bn⟩) I5.out ?a1 ?assign ?body ?done
      case assign =>
        intro i W K hK
        gi_wp2
        exact hK
      case body =>
        intro i W hi hI
        have HI:=zz0 hI
        have hKW:=zz0 (HK.out.keep hI.keep)
        have byt:Hid (ShByt W g4 (64 * i) 64 (blkB (padL L) i)):=zz0 (fun j hj=>by
          rw [zjH _ _ _ hj]
          have e1:=hb.out (64 * i+j) (by have:=HPL.out;omega)
          simp [World.cell?,hI.row,e1])
        have hst:=hI.st
        clear hI
        gi_wp2_with fail
        have hl:=zbi (P:=Tryz.prog) W (w.heap.size+1) 373 _ (0,0) 8 hst rfl
        simp only [oA373,oS373,Result.andThen,↓reduceIte,hl]
        rw [Oper.uponIn_value]
        clear hl
        gi_wp2_with fail
        refine ⟨trivial,?_⟩
        refine (CallsIn.inRound _ (callsIn_wide.2 (znh _ g4 (64 * i) 64 _ W (zdB _ _) hKW.out byt.out (Nat.le_refl _) (by omega)))).mono ?_
        rintro e W2 ⟨rfl,kp⟩
        have hst2:=kp.at hst (fun e=>e)
        have KP:=zz0 kp
        clear kp hst
        gi_wp2_with fail
        have hst3:=zbb (P:=Tryz.prog) W2 (w.heap.size+1) 373 _ (stepW (stTo (padL L) i) (blkB (padL L) i)).cells hst2 rfl rfl (W8.one _)
        simp only [oS373,Result.andThen,↓reduceIte,hst3,W8.size]
        rw [Oper.uponIn_skip]
        have I2:OfI w (padL L) g4 (.cells cur4 5 (0,0)) w'.heap.size (.slice (some ⟨g4,0,none⟩) N cap4) (i+1) (W2.setRow (w.heap.size+1) (stepW (stTo (padL L) i) (blkB (padL L) i)).cells):=by
          have hi1:=HI.out
          refine ⟨(hi1.keep.trans1 KP.out).setRow (.inr (by omega)) _,?_,setRow_heap _ _ _ _ _ _ hst2,?_,?_,?_⟩
          · rw [setRow_other _ _ _ _ (by omega)];exact KP.out.at hi1.res (fun e=>e)
          · rw [setRow_other _ _ _ _ (by have:=S2'.out;omega)];exact KP.out.at hi1.row (fun e=>e)
          · rw [setRow_other _ _ _ _ (by omega)];exact KP.out.at hi1.bs (fun e=>e)
          · rw [setRow_other _ _ _ _ (by omega)];exact KP.out.at hi1.bn (fun e=>e)
        have K2:Keep (fun k=>k < w5.heap.size) W (W2.setRow (w.heap.size+1) (stepW (stTo (padL L) i) (blkB (padL L) i)).cells):=KP.out.ofNon.setRow (.inl (by have:=hs5.out;omega)) _
        gi_wp2_with fail
        exact ⟨I2,K2⟩
      case done =>
        intro W hI hD
        have hst:=hI.st
        have KW:=zz0 hI.keep
        have RW:=zz0 hI.res
        have HD:=zz0 hD
        have hlt1:=lt_of_block hI.st
        clear hI hD
        rw [show stTo (padL L) (blocks L)=shaS L from rfl] at hst
        have hu:Hid ((shaS L).u32):=zz0 (zdB _ _)
        generalize hS:shaS L=s at hst hu ⊢
        have HS:=zz0 hS
        clear hS
        go_wp2_with fail
        have hd0:(W.alloc (.cells #[.int .u8 0,.int .u8 0,.int .u8 0,.int .u8 0,.int .u8 0,.int .u8 0,.int .u8 0,.int .u8 0,.int .u8 0,.int .u8 0,.int .u8 0,.int .u8 0,.int .u8 0,.int .u8 0,.int .u8 0,.int .u8 0,.int .u8 0,.int .u8 0,.int .u8 0,.int .u8 0,.int .u8 0,.int .u8 0,.int .u8 0,.int .u8 0,.int .u8 0,.int .u8 0,.int .u8 0,.int .u8 0,.int .u8 0,.int .u8 0,.int .u8 0,.int .u8 0] 84)).heap[W.heap.size]? = some (.cells (digC s 0) 84 (0,0)):=zab _ _
        have k6:Keep Non W (W.alloc (.cells #[.int .u8 0,.int .u8 0,.int .u8 0,.int .u8 0,.int .u8 0,.int .u8 0,.int .u8 0,.int .u8 0,.int .u8 0,.int .u8 0,.int .u8 0,.int .u8 0,.int .u8 0,.int .u8 0,.int .u8 0,.int .u8 0,.int .u8 0,.int .u8 0,.int .u8 0,.int .u8 0,.int .u8 0,.int .u8 0,.int .u8 0,.int .u8 0,.int .u8 0,.int .u8 0,.int .u8 0,.int .u8 0,.int .u8 0,.int .u8 0,.int .u8 0,.int .u8 0] 84)):=(Keep.refl _ _).alloc _
        have D6:=zz0 hd0
        have K6:=zz0 k6
        clear hd0 k6
        generalize W.alloc (.cells #[.int .u8 0,.int .u8 0,.int .u8 0,.int .u8 0,.int .u8 0,.int .u8 0,.int .u8 0,.int .u8 0,.int .u8 0,.int .u8 0,.int .u8 0,.int .u8 0,.int .u8 0,.int .u8 0,.int .u8 0,.int .u8 0,.int .u8 0,.int .u8 0,.int .u8 0,.int .u8 0,.int .u8 0,.int .u8 0,.int .u8 0,.int .u8 0,.int .u8 0,.int .u8 0,.int .u8 0,.int .u8 0,.int .u8 0,.int .u8 0,.int .u8 0,.int .u8 0] 84)=W6 at D6 K6 ⊢
        have hst6:=K6.out.at hst (fun e=>e)
        have hl:=zbi (P:=Tryz.prog) W6 (w.heap.size+1) 373 _ (0,0) 8 hst6 rfl
        simp only [oA373,oS373,Result.andThen,↓reduceIte,hl]
        rw [Oper.upon_value]
        clear hl hst hst6
        go_wp2_with fail
        go_loopw [37] (fun i wq=>∃ n:Nat,n≤8∧i = .int .i64 n∧Keep (One W.heap.size) W6 wq∧wq.heap[W.heap.size]? = some (.cells (digC s (4 * n)) 84 (0,0))) (fun i _=>8 - (intOf i).toNat)
        case atStart=>exact ⟨0,by omega,rfl,Keep.refl _ _,D6.out⟩
        case round =>
          obtain ⟨n,hn8,rfl,kq,dq⟩:=hrel
          have KQ:=zz0 kq
          have DQ:=zz0 dq
          clear kq dq
          by_cases h8:n < 8
          · have hix:=zmq s n h8 wr
            have hux:=W8.at_u32 hu.out n
            have hs4:=zjV s n h8
            rw [zpH,zpI,zpJ,zpK] at hs4
            have S4:=zz0 hs4
            clear hs4
            obtain ⟨hx0,hx1⟩:=hux
            generalize s.at n=y at S4 hix hx0 hx1
            have w4:IntKind.i64.wrap (4 * (n:Int))=4 * (n:Int):=by rw [IntKind.wrap_i64];omega
            have p4:(4 * (n:Int)).toNat=4 * n:=by omega
            have q4:0≤4 * (n:Int)∧4 * (n:Int)≤32:=by omega
            have h8i:(n:Int) < 8:=by omega
            go_wp2_with fail
            have e0:y / 16777216 % 256=y / 16777216:=by omega
            have s4:=S4.out
            rw [e0] at s4
            have hcr:=run_copy_row (P:=Tryz.prog) (wr.alloc (.cells #[.int .u8 (y / 16777216),.int .u8 (y / 65536 % 256),.int .u8 (y / 256 % 256),.int .u8 (y % 256)] 5)) 44 44 3 5 W.heap.size (4 * n) (32 - 4 * n) (32 - 4 * n) ⟨wr.heap.size,0,none⟩ 4 4 (digC s (4 * n)) 84 [.int .u8 (y / 16777216),.int .u8 (y / 65536 % 256),.int .u8 (y / 256 % 256),.int .u8 (y % 256)] Tryz.underlying44 (by kernel_rfl) (zae DQ.out _) (by show 4=min 4 (32 - 4 * n);omega) (fun j v hv=>by rw [zau,Nat.zero_add,cell_of_row _ _ j _ _ _ (zab wr _)];simpa using hv) (by rw [zaq];simp only [List.length_cons,List.length_nil];omega) (by intro v hv;simp at hv;rcases hv with rfl | rfl | rfl | rfl <;> rfl)
            rw [List.append_assoc,show 4 * n + [Value.int .u8 (y / 16777216),.int .u8 (y / 65536 % 256),.int .u8 (y / 256 % 256),.int .u8 (y % 256)].length=4 * n+4 from rfl,s4] at hcr
            rw [hcr]
            simp only [Result.andThen]
            rw [Oper.upon_value]
            clear hcr s4 e0
            go_wp2_with fail
            have hdn:=setRow_heap (wr.alloc (.cells #[.int .u8 (y / 16777216),.int .u8 (y / 65536 % 256),.int .u8 (y / 256 % 256),.int .u8 (y % 256)] 5)) W.heap.size _ (digC s (4 * (n+1))) _ _ (zae DQ.out _)
            go_roundw
            case rel=>exact ⟨n+1,by omega,by go_num,(KQ.out.alloc _).setRow (.inl (zar _)) _,hdn⟩
            case measure=>simp [intOf];omega
          · have e:n=8:=by omega
            subst e
            have hw1:=KW.out.size
            have k7:Keep Non w wr:=(KW.out.trans1 K6.out).trans KQ.out (fun _ _ h=>h) (fun i hi h=>by unfold One at h;show False;omega)
            have r7:=KQ.out.at (K6.out.at RW.out (fun e=>e)) (fun h=>by unfold One at h;omega)
            have d7:=KQ.out.at (K6.out.at HD.out (fun e=>e)) (fun h=>by unfold One at h;have:=lt_of_block HD.out;omega)
            have K7:=zz0 k7
            have R7:=zz0 r7
            have D7:=zz0 d7
            have NE:Hid (w5.heap.size≠w.heap.size):=zz0 (by have:=hs5.out;omega)
            clear k7 r7 d7
            go_wp2_with fail
            have hl:=zbi (P:=Tryz.prog) wr W.heap.size 84 _ (0,0) 32 DQ.out (zaq _ _)
            simp only [oA84,oS84,Result.andThen,↓reduceIte,hl]
            rw [Oper.upon_value]
            clear hl
            go_wp2_with fail
            have hst:=zbb (P:=Tryz.prog) wr w.heap.size 84 _ (digC s (4 * 8)) R7.out (by rw [zaq];rfl) (by rw [zaq,zaq]) (zdq _ _)
            simp only [oS84,Result.andThen,↓reduceIte,hst,zaq]
            rw [Oper.upon_skip]
            clear hst
            go_wp2_with fail
            have hr8:=setRow_heap wr w.heap.size _ (digC s (4 * 8)) _ _ R7.out
            have hK':(wr.setRow w.heap.size (digC s (4 * 8))).heap[w5.heap.size]? = some (.deferred (some [])):=by rw [setRow_other _ _ _ _ NE.out];exact D7.out
            refine ⟨by simp,.inl ⟨_,_,rfl,run_takeDeferred (by exact hK'),?_⟩⟩
            have hK2:Keep (One w5.heap.size) (wr.setRow w.heap.size (digC s (4 * 8))) ((wr.setRow w.heap.size (digC s (4 * 8))).putObj w5.heap.size (.deferred none)):=(Keep.refl (One w5.heap.size) _).putObj (.inl (zar _)) _
            have hr9:=hK2.at hr8 (fun h=>NE.out h.symm)
            refine ⟨.agg (digC s (4 * 8)),results_cell_row (P:=Tryz.prog) Tryz.results219 _ _ w.heap.size 84 (digC s (4 * 8)) (0,0) _ rfl hr9 Tryz.underlying84 rfl (by rw [zaq];rfl),by rw [HL.out,HS.out],?_⟩
            exact ((K7.out.setRow (.inr (Nat.le_refl _)) _)).trans hK2 (fun _ _ h=>h) (fun i hi h=>by unfold One at h;have:=hs5.out;show False;omega)
end
end Go.Proofs.YtnboipdpccnedaaGreatDoor
