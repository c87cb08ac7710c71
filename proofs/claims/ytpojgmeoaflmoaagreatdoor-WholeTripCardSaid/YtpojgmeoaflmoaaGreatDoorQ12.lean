/- The blocks of a text, one behind the oth -/
import Derived.RangeFuncNested
import Derived.RangeFuncBound
import Derived.RangeFuncCalls
import Derived.RangeFuncLeaves
import Derived.Shelf.Abstract
import Derived.Shelf.RegionOpen
import Derived.OwnWalkIn
import Derived.TacticsInMore
import Derived.LoopNIn
import Derived.LoopIn
import Derived.Sort.QuietIn
import Derived.Sort.BigQuietIn
import Derived.Laws.CopyOwn
import Derived.Stop.BytesEq
import Derived.Test.YtpojgmeoaflmoaaGreatDoorQ02
import Derived.Test.YtpojgmeoaflmoaaGreatDoorQ11
set_option linter.unusedVariables false
set_option maxRecDepth 100000
set_option maxHeartbeats 16000000
namespace Go.Proofs.YtpojgmeoaflmoaaGreatDoor
open Go.RowKit Go.Shelf
attribute [local go_sem] Oper.semAt_some
theorem zlb (v:Value)(hv:v.oneCell'=true)(w:World) :
 Calls Tryz.prog 349 #[v,.int .i64 64] w fun e w'=>e = .returned (.func (.func 369) #[] #[.pointer (some ⟨w.heap.size,0,none⟩),.pointer (some ⟨w.heap.size+1,0,none⟩)])∧w'=(w.alloc (.cells #[v] 43)).alloc (.cells #[.int .i64 64] 3):=by
 go_enter Tryz.func349,Tryz.ntmps349
 go_wp2
 go_ret;exact⟨rfl,rfl⟩
theorem zj2 (n l Bs Bn g len cap m:Nat)(hm:len=64*m)(hcap:len≤cap)(hcm:cap≤9223372036854775807)(hlen:len≤1000000)(J:Nat→World→Prop)
 (hJd:∀i W k,J i W→J i (W.drewN k)) (hJs:∀i W,J i W→W.heap[Bs]? = some (.cells #[.slice (some ⟨g,0,none⟩) len cap] 43 (0,0))∧W.heap[Bn]? = some (.cells #[.int .i64 64] 3 (0,0)))
 (W:World) (h0:J 0 W)
 (hY:∀(i:Nat) (W1:World),i<m→J i W1 →
   YieldAt Fence.wide (n-1) Tryz.prog l #[.slice (some ⟨g,64*i,none⟩) 64 64] W1 fun e W'=>e = .returned (.bool true)∧J (i+1) W') :
 CallsIn Fence.wide n Tryz.prog 369 #[.func (.yield l) #[] #[],.pointer (some ⟨Bs,0,none⟩),.pointer (some ⟨Bn,0,none⟩)] W fun e W'=>(∃v,e = .returned v)∧J m W':=by
 have HJd:=zz0 hJd;have HJs:=zz0 hJs;have HY:=zz0 hY;have HI:=zz0 h0;clear hJd hJs hY h0;refine callsIn_of_wp Tryz.func369 rfl trivial ?_ rfl;simp only[Tryz.ntmps369,List.size_toArray,List.length_cons,List.length_nil,Nat.reduceAdd,Nat.reduceSub,Array.replicate_succ,Array.replicate_zero,List.push_toArray,List.append_toArray,List.nil_append,List.cons_append]
 gi_wp2_with fail
 gi_loopw [4] (fun i wr=>∃k:Nat,k≤m∧i = .int .i64 ((64*k:Nat):Int)∧J k wr) (fun i _=>len-(intOf i).toNat)
 case atStart=>exact⟨0,Nat.zero_le _,rfl,HI.out⟩
 case round =>
  obtain⟨k,hk,rfl,hj⟩:=hrel;obtain⟨bs,bn⟩:=HJs.out k wr hj;have m1:wr.cell? ⟨Bs,0,none⟩=some (.slice (some ⟨g,0,none⟩) len cap):=by simp[World.cell?,bs]
  have m2:wr.cell? ⟨Bn,0,none⟩=some (.int .i64 64):=by simp[World.cell?,bn]
  have HJ:=zz0 hj;clear bs bn hj;by_cases hlt:k<m
  ·have HM:=zz0 hm
   have h1:((64*k:Nat):Int)<(len:Int):=by omega
   have h2:64≤len-64*k:=by omega
   have h3:64*k+64≤cap:=by omega
   clear hm
   gi_wp2_with fail
   gi_big_quiet_th (fail)
   have hJ2:=HJd.out k wr nq HJ.out;have m3:(wr.drewN nq).cell? ⟨Bs,0,none⟩=some (.slice (some ⟨g,0,none⟩) len cap):=m1;obtain⟨fn,tmps,assign,body,hy,hR⟩:=HY.out k _ hlt hJ2;have hR':=zz0 hR;have w1:IntKind.i64.wrap (((64*k:Nat):Int)+64)=((64*k+64:Nat):Int):=by rw[IntKind.wrap_i64];omega
   have w2:(((64*k:Nat):Int)+64)=((64*k+64:Nat):Int):=by omega
   have p1:64*k≤64*k+64:=by omega
   have p2:64*k+64-64*k=64:=by omega
   clear hR hJ2
   gi_wp2_with fail
   refine⟨fun h=>(by cases h),?_⟩
   refine hR'.out.mono ?_;rintro e W3 ⟨rfl,hJ3⟩;have HJ3:=zz0 hJ3;obtain⟨bs3,bn3⟩:=HJs.out _ _ hJ3;have m4:W3.cell? ⟨Bs,0,none⟩=some (.slice (some ⟨g,0,none⟩) len cap):=by simp[World.cell?,bs3]
   have m5:W3.cell? ⟨Bn,0,none⟩=some (.int .i64 64):=by simp[World.cell?,bn3]
   clear hJ3 bs3 bn3 hy hR'
   gi_wp2_with fail
   go_roundw
   case rel=>exact⟨k+1,by omega,by go_num,HJ3.out⟩
   case measure=>simp[intOf];omega
  ·have e:k=m:=by omega
   subst e
   gi_wp2_with fail
   go_end0
   exact⟨⟨_,rfl⟩,HJ.out⟩
theorem za.putObj {S:Nat→Prop}{a w:World}(h:za S a w){l:Nat}(hl:S l∨a.heap.size≤l)(o:Obj):za S a (w.putObj l o) :=
 h.grown (grownBy_putObj' w l o) (fun k e=>by injection e with e;subst e;exact hl)
def CPost (I:Nat→World→Prop)(i B0:Nat)(W:World):Exit→Act→World→Prop
 |.normal,_,W'=>I (i+1) W'∧za (fun k=>k<B0) W W'
 |_,_,_=>False
theorem ziC {n Bs Bn g len cap m:Nat}(hm:len=64*m)(hcap:len≤cap)(hcm:cap≤9223372036854775807)(hlen:len≤1000000){o:Operand}{ps:Array Tmp}{assign body:Code}{Q:Exit→Act→World→Prop}{a:Act}{w:World}
 (hg:a.eval o = .func (.func 369) #[] #[.pointer (some ⟨Bs,0,none⟩),.pointer (some ⟨Bn,0,none⟩)]) (hps:ps.size=1)
 (I:Nat→World→Prop)
 (hI:∀i W W',I i W→za (fun k=>w.heap.size≤k) W W'→I i W')
 (hIB:∀i W,I i W→W.heap[Bs]? = some (.cells #[.slice (some ⟨g,0,none⟩) len cap] 43 (0,0))∧W.heap[Bn]? = some (.cells #[.int .i64 64] 3 (0,0))) (h0:I 0 w)
 (a1:Nat→Act)
 (hassign:∀(i:Nat) (W:World) (K:Act→World→Prop),K (a1 i) W →
   assign.wpIn (Fence.wide.inRound (w.heap.size+1)) (n-1-1) Tryz.prog (Exit.then K (fun _ _ _=>False)) { tmps:=(ps.zip #[.slice (some ⟨g,64*i,none⟩) 64 64]).foldl (fun t (p,v)=>t.setIfInBounds p v) a.tmps,defers:=[] } W)
 (hbody:∀(i:Nat) (W:World),i<m→I i W →
   body.wpIn (Fence.wide.inRound (w.heap.size+1)) (n-1-1) Tryz.prog (CPost I i w.heap.size W) (a1 i) W)
 (hdone:∀W,I m W→W.heap[w.heap.size]? = some (.deferred (some []))→Q .normal { a with defers:={ target:=.collected w.heap.size,args:=#[] }::a.defers } W) :
 (Code.rangeFunc o ps assign body).wpIn Fence.wide n Tryz.prog Q a w:=by
 refine wpIn_rangeFunc ?_;intro fn hfn;show ∃l mark w₁ d w₁' f args w₂,(Instr.enterLoop fn a.tmps ps assign body none).run Tryz.prog w = .ok (l,mark) w₁∧_;obtain⟨rec,hrec⟩:∃rec:LoopState→Option Code→Loop,rec=fun st pe=>{ state:=st,pending:=pe,fn,tmps:=a.tmps,params:=ps,assign,body,defers:=w.heap.size }:=⟨_,rfl⟩
 obtain⟨W1,hW1⟩:∃W1,(w.alloc (.deferred (some []))).alloc (.loop (rec .ready none))=W1:=⟨_,rfl⟩;have hsz:W1.heap.size=w.heap.size+2:=by rw[←hW1];simp
 have hkW:za zq2 w W1:=by rw[←hW1];exact((za.refl _ _).alloc _).alloc _
 have hL1:W1.heap[w.heap.size+1]? = some (.loop (rec .ready none)):=by
  have:=ze (w.alloc (.deferred (some []))) (.loop (rec .ready none));rw[World.size_alloc,hW1] at this;exact this
 have hK1:W1.heap[w.heap.size]? = some (.deferred (some [])):=by rw[←hW1];exact zi (ze _ _) _
 have hI1:I 0 W1:=hI 0 w W1 h0 hkW.ofNon;refine⟨w.heap.size+1,[{ target:=.collected w.heap.size,args:=#[] }],W1,{ target:=.fn (.func 369) #[.pointer (some ⟨Bs,0,none⟩),.pointer (some ⟨Bn,0,none⟩)],args:=#[.func (.yield (w.heap.size+1)) #[] #[]] },W1,369,
  #[.func (.yield (w.heap.size+1)) #[] #[],.pointer (some ⟨Bs,0,none⟩),.pointer (some ⟨Bn,0,none⟩)],W1,?_,?_,?_,?_,(fun h=>by cases h),?_⟩
 ·rw[←hW1,hrec];exact run_enterLoop_outer _ _ _ _ _
 ·simp only[resolve,hg]
  simp[go_sem]
 ·intro f' hf';exact trivial
 ·simp[invoke,go_sem]
 ·refine(zj2 (n-1) (w.heap.size+1) Bs Bn g len cap m hm hcap hcm hlen
   (fun i W=>I i W∧W.heap[w.heap.size+1]? = some (.loop (rec .ready none))∧W.heap[w.heap.size]? = some (.deferred (some [])))
   (fun i W k h=>⟨hI i W _ h.1 ((za.refl _ _).drewN k),h.2.1,h.2.2⟩) (fun i W h=>hIB i W h.1) W1 ⟨hI1,hL1,hK1⟩ ?_).mono ?_
  ·rintro i W hi ⟨hII,hl,hk⟩
   have hlt:=lt_of_block hl;have hy:=run_yield (P:=Tryz.prog) (args:=#[.slice (some ⟨g,64*i,none⟩) 64 64]) hl (by rw[hrec];exact hps.symm)
   rw[hrec] at hy;refine⟨fn,_,assign,body,hy,roundIn_of_wpIn hfn (hassign i W _ ⟨_,run_beginRound hl (by rw[hrec]),?_⟩)⟩
   have hl2:(W.putObj (w.heap.size+1) (.loop { rec .ready none with state:=.busy })).heap[w.heap.size+1]? = some (.loop { rec .ready none with state:=.busy }):=World.putObj_heap_same hlt
   have hk2:(W.putObj (w.heap.size+1) (.loop { rec .ready none with state:=.busy })).heap[w.heap.size]? = some (.deferred (some [])):=(World.putObj_heap_other (by omega)).trans hk
   have kp:za (zq3 (w.heap.size+1)) W (W.putObj (w.heap.size+1) (.loop { rec .ready none with state:=.busy })):=(za.refl (zq3 (w.heap.size+1)) W).putObj (.inl (zK _)) _
   refine wpIn_mono (hbody i _ hi (hI i W _ hII (kp.mono fun k _ h=>by unfold zq3 at h;omega))) ?_
   rintro e a3 W3 hp;cases e with
   |normal =>
    obtain⟨hi3,hk3⟩:=hp;have hl3:=hk3.at hl2 (fun e=>by omega)
    have hk4:=hk3.at hk2 (fun e=>by omega)
    have hr:=run_endRound (P:=Tryz.prog) none hl3;rw[hrec] at hr;refine⟨_,_,hr,rfl,hI _ _ _ hi3 ((za.refl _ _).putObj (.inl (by omega)) _),?_,(World.putObj_heap_other (by omega)).trans hk4⟩
    rw[hrec];exact World.putObj_heap_same (lt_of_block hl3)
   |ret=>exact hp.elim
   |exit id=>exact hp.elim
   |goto t=>exact hp.elim
   |panic ch=>exact hp.elim
   |outgrown=>exact hp.elim
  ·rintro e W2 ⟨⟨v,rfl⟩,hi,hl,hk⟩
   have kp:za (fun k=>w.heap.size≤k) W2 (W2.putObj (w.heap.size+1) (.loop { rec .ready none with state:=.exhausted })):=(za.refl _ _).putObj (.inl (by omega)) _
   exact⟨none,_,by have:=run_endLoop (P:=Tryz.prog) hl (by rw[hrec];simp);rw[hrec] at this ⊢;exact this,hdone _ (hI _ _ _ hi kp) ((World.putObj_heap_other (by omega)).trans hk)⟩
end Go.Proofs.YtpojgmeoaflmoaaGreatDoor
namespace Go.Proofs.YtpojgmeoaflmoaaGreatDoor
open Go.RowKit
def zb9:W8:=⟨0x6a09e667,0xbb67ae85,0x3c6ef372,0xa54ff53a,0x510e527f,0x9b05688c,0x1f83d9ab,0x5be0cd19⟩
theorem zkc:zb9.u32:=by unfold W8.u32 U32 zb9;decide
def blkB (b:List UInt8)(i:Nat):List UInt8:=(b.drop (64*i)).take 64
def stTo (b:List UInt8):Nat→W8
 |0=>zb9
 |i+1=>stepW (stTo b i) (blkB b i)
def padL (l:List UInt8):List UInt8:=l++padB l.length
def blocks (l:List UInt8):Nat:=(padL l).length / 64
def shaS (l:List UInt8):W8:=stTo (padL l) (blocks l)
def W8.byte (s:W8)(j:Nat):Int:=s.at (j / 4) / 2^(24-8*(j%4))%256
def digC (s:W8)(n:Nat):Array Value:=((List.range 32).map fun j=>if j<n then Value.int .u8 (s.byte j) else .int .u8 0).toArray
theorem zjx (l:List UInt8):(padL l).length=64*blocks l:=by
 unfold blocks padL;rw[List.length_append,zdj];omega
theorem zk8 (l:List UInt8)(h:l.length≤131072):blocks l≤2100:=by
 have:=zjx l;unfold padL at this;rw[List.length_append,zdj] at this;omega
theorem zaJ (s:W8)(n:Nat):(digC s n).size=32:=by simp[digC]
theorem zjf (s:W8)(n:Nat):(digC s n).all (·.oneCell')=true:=by
 rw[Array.all_eq_true];intro i hi;simp only[digC,List.getElem_toArray,List.getElem_map]
 split<;>rfl
theorem zne (s t:W8):(addW s t).u32:=⟨u32_w _,u32_w _,u32_w _,u32_w _,u32_w _,u32_w _,u32_w _,u32_w _⟩
theorem zjI (b:List UInt8):∀i,(stTo b i).u32
 |0=>zkc
 |i+1=>zne _ _
theorem W8.at_u32 {s:W8}(h:s.u32):∀i,U32 (s.at i)
 |0=>h.1
 |1=>h.2.1
 |2=>h.2.2.1
 |3=>h.2.2.2.1
 |4=>h.2.2.2.2.1
 |5=>h.2.2.2.2.2.1
 |6=>h.2.2.2.2.2.2.1
 |_+7=>h.2.2.2.2.2.2.2
theorem zpf (b:List UInt8)(i j:Nat)(hj:j<64):byI (blkB b i) j=byI b (64*i+j):=by
 unfold byI blkB;simp only[List.getD_eq_getElem?_getD,List.getElem?_take,List.getElem?_drop,if_pos hj]
theorem zlq (s:W8)(i:Nat)(h:i<8) :
 ((digC s (4*i)).toList.take (4*i)++([Value.int .u8 (s.byte (4*i)),.int .u8 (s.byte (4*i+1)),.int .u8 (s.byte (4*i+2)),.int .u8 (s.byte (4*i+3))]++(digC s (4*i)).toList.drop (4*i+4))).toArray=digC s (4*(i+1)):=by
 match i,h with
 |0,_=>rfl
 |1,_=>rfl
 |2,_=>rfl
 |3,_=>rfl
 |4,_=>rfl
 |5,_=>rfl
 |6,_=>rfl
 |7,_=>rfl
theorem zqx (s:W8)(i:Nat):s.byte (4*i)=s.at i / 16777216%256:=by
 unfold W8.byte;rw[show 4*i / 4=i by omega,show 4*i%4=0 by omega]
 rfl
theorem zqy (s:W8)(i:Nat):s.byte (4*i+1)=s.at i / 65536%256:=by
 unfold W8.byte;rw[show(4*i+1) / 4=i by omega,show(4*i+1)%4=1 by omega]
 rfl
theorem zqz (s:W8)(i:Nat):s.byte (4*i+2)=s.at i / 256%256:=by
 unfold W8.byte;rw[show(4*i+2) / 4=i by omega,show(4*i+2)%4=2 by omega]
 rfl
theorem zqA (s:W8)(i:Nat):s.byte (4*i+3)=s.at i%256:=by
 unfold W8.byte;rw[show(4*i+3) / 4=i by omega,show(4*i+3)%4=3 by omega]
 simp
theorem zqe {S:Nat→Prop}{w w':World}{base:Nat}{e:TypeId}{size:Nat}{v:Value}{n:Nat}{xs:List Value}(h:w.ownsRow base e size v n xs)(k:za S w w')(hn:∀g,v.ownBlock=some g→¬S g):w'.ownsRow base e size v n xs:=by
 obtain⟨h1,h2⟩:=h;refine⟨h1,?_⟩;rcases h2 with h2|⟨g,cap,cur,rfl,hb,hg,rest⟩
 ·exact .inl h2
 ·exact .inr ⟨g,cap,cur,rfl,hb,k.at hg (hn g rfl),rest⟩
def Pts (w:World)(v:Value)(ls:List (List UInt8)):Prop:=∃vs:List Value,Rd w v vs∧vs.length=ls.length∧∀(i:Nat)(u:Value)(l:List UInt8),vs[i]? = some u→ls[i]? = some l→Bs w u l
theorem Pts.keep {w w':World}{v:Value}{ls:List (List UInt8)}(h:Pts w v ls)(k:za zq2 w w'):Pts w' v ls:=by
 obtain⟨vs,h1,h2,h3⟩:=h;exact⟨vs,h1.keepNon k,h2,fun i u l a b=>(h3 i u l a b).keepNon k⟩
def Frs (w:World):Prop:=∃(tt:TypeId)(fr:Nat×Nat),w.heap[2]? = some (.cells zb9.cells tt fr)
theorem Frs.keep {w w':World}(h:Frs w)(k:za zq2 w w'):Frs w':=by
 obtain⟨tt,fr,h⟩:=h;exact⟨tt,fr,k.at h (fun e=>e)⟩
theorem Kon.keep {w w':World}(h:Kon w)(k:za zq2 w w'):Kon w':=by
 obtain⟨cs,h1,⟨tt,fr,h2⟩,h3,h4⟩:=h;exact⟨cs,h1,⟨tt,fr,k.at h2 (fun e=>e)⟩,Nat.le_trans h3 k.size,h4⟩
end Go.Proofs.YtpojgmeoaflmoaaGreatDoor
namespace Go.Proofs.YtpojgmeoaflmoaaGreatDoor
open Go.RowKit Go.Shelf
attribute [local go_sem] Oper.semAt_some
theorem zhp (ls:List (List UInt8))(k:Nat)(l:List UInt8)(h:ls[k]? = some l):(ls.take (k+1)).flatten=(ls.take k).flatten++l:=by
 rw[List.take_add_one,h];simp
theorem znH (ls:List (List UInt8))(k:Nat)(l:List UInt8)(h:ls[k]? = some l):(ls.take k).flatten.length+l.length≤ls.flatten.length:=by
 rw[←List.length_append,←zhp ls k l h]
 conv=>rhs;rw[←List.take_append_drop (k+1) ls]
 rw[List.flatten_append,List.length_append];omega
theorem znO (s:W8)(t:Nat)(h:t<8)(w:World):(Instr.index 415 (.agg s.cells) (.int .i64 (t:Int))).run Tryz.prog w = .ok (.int .u32 (s.at t)) w:=by
 have hv:=W8.get s t h;simp[Instr.index,go_sem,h,hv]
structure OfI (w:World)(b:List UInt8)(g:Nat)(og:Obj)(B:Nat)(v:Value)(i:Nat)(W:World):Prop where
 keep:za zq2 w W
 res:W.heap[w.heap.size]? = some (.cells (digC zb9 0) 51 (0,0))
 st:W.heap[w.heap.size+1]? = some (.cells (stTo b i).cells 415 (0,0))
 row:W.heap[g]? = some og
 bs:W.heap[B]? = some (.cells #[v] 43 (0,0))
 bn:W.heap[B+1]? = some (.cells #[.int .i64 64] 3 (0,0))
theorem OfI.keepGe {w W W':World}{b:List UInt8}{g:Nat}{og:Obj}{B B0:Nat}{v:Value}{i:Nat}(h:OfI w b g og B v i W)(k:za (fun k=>B0≤k) W W')(hB:B+2≤B0)(hg:g<B)(hw:w.heap.size+2≤B):OfI w b g og B v i W' :=
 ⟨h.keep.trans k (fun _ _ h=>h) (fun i hi h=>by show False;omega),k.at h.res (by omega),k.at h.st (by omega),k.at h.row (by omega),k.at h.bs (by omega),k.at h.bn (by omega)⟩
section
attribute [local simp high] hA415 hS415 hA51 hS51
theorem zqN (ls:List (List UInt8))(x:Option Addr)(xc:Nat)(w:World)(hp:Pts w (.slice x ls.length xc) ls)(hk:Kon w)(hf:Frs w)(hn:ls.length≤100)(ht:ls.flatten.length≤131072) :
 Calls Tryz.prog 320 #[.slice x ls.length xc] w fun e w'=>e = .returned (.agg (digC (shaS ls.flatten) 32))∧za zq2 w w':=by
 have HP:=zz0 hp;have HK:=zz0 hk;have HF:=zz0 hf;clear hp hk hf;obtain⟨i0,hi0,hz0,hz1,hz2⟩:=info_parts shU8;refine(callsIn_wide (n:=9)).1 (callsIn_of_wp_marks Tryz.func320 rfl trivial ?_ rfl);refine wpIn_wide.2 ?_;simp only[Tryz.ntmps320,List.size_toArray,List.length_cons,List.length_nil,Nat.reduceAdd,Nat.reduceSub,Array.replicate_succ,Array.replicate_zero,List.push_toArray,List.append_toArray,List.nil_append,List.cons_append]
 go_wp2_with fail
 have k1:za zq2 w (w.alloc (.cells #[.int .u8 0,.int .u8 0,.int .u8 0,.int .u8 0,.int .u8 0,.int .u8 0,.int .u8 0,.int .u8 0,.int .u8 0,.int .u8 0,.int .u8 0,.int .u8 0,.int .u8 0,.int .u8 0,.int .u8 0,.int .u8 0,.int .u8 0,.int .u8 0,.int .u8 0,.int .u8 0,.int .u8 0,.int .u8 0,.int .u8 0,.int .u8 0,.int .u8 0,.int .u8 0,.int .u8 0,.int .u8 0,.int .u8 0,.int .u8 0,.int .u8 0,.int .u8 0] 51)):=(za.refl _ _).alloc _;have r1:(w.alloc (.cells #[.int .u8 0,.int .u8 0,.int .u8 0,.int .u8 0,.int .u8 0,.int .u8 0,.int .u8 0,.int .u8 0,.int .u8 0,.int .u8 0,.int .u8 0,.int .u8 0,.int .u8 0,.int .u8 0,.int .u8 0,.int .u8 0,.int .u8 0,.int .u8 0,.int .u8 0,.int .u8 0,.int .u8 0,.int .u8 0,.int .u8 0,.int .u8 0,.int .u8 0,.int .u8 0,.int .u8 0,.int .u8 0,.int .u8 0,.int .u8 0,.int .u8 0,.int .u8 0] 51)).heap[w.heap.size]? = some (.cells (digC zb9 0) 51 (0,0)):=ze _ _;have s1:(w.alloc (.cells #[.int .u8 0,.int .u8 0,.int .u8 0,.int .u8 0,.int .u8 0,.int .u8 0,.int .u8 0,.int .u8 0,.int .u8 0,.int .u8 0,.int .u8 0,.int .u8 0,.int .u8 0,.int .u8 0,.int .u8 0,.int .u8 0,.int .u8 0,.int .u8 0,.int .u8 0,.int .u8 0,.int .u8 0,.int .u8 0,.int .u8 0,.int .u8 0,.int .u8 0,.int .u8 0,.int .u8 0,.int .u8 0,.int .u8 0,.int .u8 0,.int .u8 0,.int .u8 0] 51)).heap.size=w.heap.size+1:=World.size_alloc _ _;have K1:=zz0 k1;have R1:=zz0 r1;have S1:=zz0 s1;clear k1 r1 s1;generalize w.alloc (.cells #[.int .u8 0,.int .u8 0,.int .u8 0,.int .u8 0,.int .u8 0,.int .u8 0,.int .u8 0,.int .u8 0,.int .u8 0,.int .u8 0,.int .u8 0,.int .u8 0,.int .u8 0,.int .u8 0,.int .u8 0,.int .u8 0,.int .u8 0,.int .u8 0,.int .u8 0,.int .u8 0,.int .u8 0,.int .u8 0,.int .u8 0,.int .u8 0,.int .u8 0,.int .u8 0,.int .u8 0,.int .u8 0,.int .u8 0,.int .u8 0,.int .u8 0,.int .u8 0] 51)=w1 at K1 R1 S1 ⊢;obtain⟨ftt,fr,hfr⟩:=HF.out.keep K1.out;have hl:=zcf (P:=Tryz.prog) w1 2 ftt zb9.cells fr 8 hfr rfl;simp only[oA415,oS415,Result.andThen,↓reduceIte,hl];rw[Oper.upon_value];clear hl hfr fr ftt
 go_wp2_with fail
 have hzb:=ze w1 (.cells #[.int .u32 0,.int .u32 0,.int .u32 0,.int .u32 0,.int .u32 0,.int .u32 0,.int .u32 0,.int .u32 0] 415);have hst:=zb4 (P:=Tryz.prog) (w1.alloc (.cells #[.int .u32 0,.int .u32 0,.int .u32 0,.int .u32 0,.int .u32 0,.int .u32 0,.int .u32 0,.int .u32 0] 415)) w1.heap.size 415 #[.int .u32 0,.int .u32 0,.int .u32 0,.int .u32 0,.int .u32 0,.int .u32 0,.int .u32 0,.int .u32 0] zb9.cells hzb rfl rfl zb9.one;simp only[oS415,Result.andThen,↓reduceIte,hst,W8.size];rw[Oper.upon_skip];have k2:za zq2 w1 ((w1.alloc (.cells #[.int .u32 0,.int .u32 0,.int .u32 0,.int .u32 0,.int .u32 0,.int .u32 0,.int .u32 0,.int .u32 0] 415)).setRow w1.heap.size zb9.cells):=((za.refl _ _).alloc _).setRow (.inr (Nat.le_refl _)) _;have t2:=setRow_heap (w1.alloc (.cells #[.int .u32 0,.int .u32 0,.int .u32 0,.int .u32 0,.int .u32 0,.int .u32 0,.int .u32 0,.int .u32 0] 415)) w1.heap.size _ zb9.cells _ _ hzb;have s2:((w1.alloc (.cells #[.int .u32 0,.int .u32 0,.int .u32 0,.int .u32 0,.int .u32 0,.int .u32 0,.int .u32 0,.int .u32 0] 415)).setRow w1.heap.size zb9.cells).heap.size=w1.heap.size+1:=by rw[setRow_size,World.size_alloc]
 have T2:=zz0 t2;have S2:=zz0 s2;have K2:=zz0 k2;clear hzb hst k2 t2 s2;generalize (w1.alloc (.cells #[.int .u32 0,.int .u32 0,.int .u32 0,.int .u32 0,.int .u32 0,.int .u32 0,.int .u32 0,.int .u32 0] 415)).setRow w1.heap.size zb9.cells=w2 at T2 S2 K2 ⊢;have R2:=zz0 (K2.out.at R1.out (fun e=>e))
 have K02:=zz0 (K1.out.trans1 K2.out);have T2':Hid (w2.heap[w.heap.size+1]? = some (.cells zb9.cells 415 (0,0))):=zz0 (by rw[←S1.out];exact T2.out)
 have S2':Hid (w2.heap.size=w.heap.size+2):=zz0 (by rw[S2.out,S1.out])
 rw[show w1.heap.size=w.heap.size+1 from S1.out]
 clear R1 T2 S2 K2 K1 S1
 go_wp2_with fail
 go_loopw [4,5,15] (fun v n i wr=>∃k:Nat,k≤ls.length∧i = .int .i64 k∧n = .int .i64 ((ls.take k).flatten.length:Nat)∧za zq2 w2 wr∧wr.ownsRow w2.heap.size 5 1 v (ls.take k).flatten.length ((ls.take k).flatten.map bv)) (fun _ _ i _=>ls.length-(intOf i).toNat)
 case atStart=>exact⟨0,Nat.zero_le _,rfl,rfl,za.refl _ _,World.ownsRow_nil _ _ _ _⟩
 case round =>
  obtain⟨k,hk,rfl,rfl,kp,ho⟩:=hrel;have KP:=zz0 kp;have HO:=zz0 ho;clear kp ho;by_cases hlt:k<ls.length
  ·obtain⟨l,hl⟩:∃l,ls[k]? = some l:=⟨ls[k],by simp[hlt]⟩
   obtain⟨vs,hv1,hv2,hv3⟩:=(HP.out.keep K02.out).keep KP.out;obtain⟨u,hu⟩:∃u,vs[k]? = some u:=⟨vs[k],by rw[List.getElem?_eq_getElem]⟩
   have hbs:=hv3 k u l hu hl;obtain⟨ua,uc,rfl,_⟩:=id hbs;obtain⟨g,off,rfl,hcell⟩:∃g off,x=some ⟨g,off,none⟩∧wr.cell? ⟨g,off+k,none⟩=some (.slice ua l.length uc):=by
    obtain⟨a',c',e1,hx⟩:=hv1;obtain⟨g,off,e2,hc⟩:=hx (by intro e;rw[e] at hv2;simp at hv2;omega)
    injection e1 with e1
    exact⟨g,off,e1.trans e2,by have:=hc k _ hu;rwa [List.length_map] at this⟩
   have BS:=zz0 hbs;have FT:=zz0 (zhp ls k l hl);have fl:=znH ls k l hl;clear hv1 hv2 hv3 hu hl hbs;generalize hfk:(ls.take k).flatten=F at HO FT fl;have HFK:=zz0 hfk;clear hfk;have lF:F.length≤131072:=by omega
   have lL:l.length≤131072:=by omega
   rw[List.length_map] at BS
   go_wp2_with(at_builtin;refine zH rfl _ _ 43 rfl w2.heap.size 5 i0 (.int .u8 0) 1 Tryz.underlying43 hi0 hz0 hz1 hz2 rfl _ F.length _ rfl HO.out (.slice ua l.length uc) rfl (l.map bv) BS.out (zy l) (by unfold maxLen;simp;omega) (by simp;omega) KP.out.size ?_;intro v' w' ho hg hp;have HO2:=zz0 ho;have HG:=zz0 hg;clear ho hp hg)
   have ho2:=HO2.out;rw[←List.map_append,←FT.out,List.length_map,←List.length_append,←FT.out] at ho2;exact⟨⟨k+1,by omega,by go_num,by rw[FT.out,List.length_append];go_num,KP.out.grown HG.out (fun q e=>.inr (HO.out.lt q e).1),ho2⟩,by simp[intOf];omega⟩
  ·have e:k=ls.length:=by omega
   subst e;rw[List.take_length] at HO ⊢;generalize hL:ls.flatten=L at HO ht ⊢;have HL:=zz0 hL;clear hL
   go_wp2_with fail
   refine(zpS L.length ht _).mono ?_;rintro e w3 ⟨g3,c3,rfl,kp3,hg3,ho3⟩;have KP3:=zz0 kp3;have PB:=zz0 (Rd.ofOwns ho3);have HO3:=zz0 (zqe HO.out kp3 (fun q e h=>h))
   clear kp3 ho3 HO;have hpl:=zdj L.length;have lP:(padB L.length).length≤100:=by omega
   clear hpl
   go_wp2_with(at_builtin;refine zH rfl _ _ 43 rfl w2.heap.size 5 i0 (.int .u8 0) 1 Tryz.underlying43 hi0 hz0 hz1 hz2 rfl _ L.length _ rfl HO3.out (.slice (some ⟨g3,0,none⟩) (padB L.length).length c3) rfl ((padB L.length).map bv) PB.out (zy _) (by unfold maxLen;simp;omega) (by simp;omega) (Nat.le_trans KP.out.size KP3.out.size) ?_;intro v' w' ho hg hp;have HO2:=zz0 ho;have HG:=zz0 hg;clear ho hp hg)
   have kp4:za zq2 w2 w':=(KP.out.trans1 KP3.out).grown HG.out (fun q e=>.inr (HO3.out.lt q e).1)
   have ho4:=HO2.out;rw[←List.map_append,List.length_map,←List.length_append,show L++padB L.length=padL L from rfl] at ho4
   clear HO2 HG HO3 PB KP3 hg3 KP;have hpl:=zdj L.length;have hPL:=zjx L;have hbl:=zk8 L ht;rcases ho4.2 with ⟨_,h0⟩|⟨g4,cap4,cur4,rfl,hb4,hg4,hle4,hmx4,hcs4,htk4⟩
   ·have:(padL L).length=L.length+(padB L.length).length:=List.length_append
    omega
   have hrd:=Rd.ofOwns ho4;have hb:Hid (∀j,j<(padL L).length→cur4[j]? = some (.int .u8 (byI (padL L) j))):=zz0 (fun j hj=>by
    have e1:((padL L).map bv)[j]? = some (bv ((padL L)[j])):=by simp[hj]
    have e2:=(World.ownsRow.cells ho4 (g:=g4) rfl) j _ e1;rw[zag,Nat.zero_add] at e2;simp only[World.cell?,hg4,bv] at e2;simpa [byI,hj] using e2)
   have K4:=zz0 kp4;have G4:=zz0 hg4;have HPL:=zz0 hPL;unfold maxLen at hmx4;have R4:=zz0 (K4.out.at R2.out (fun e=>e))
   have T4:=zz0 (K4.out.at T2'.out (fun e=>e))
   have K04:=zz0 (K02.out.trans1 K4.out);have hg4w:=lt_of_block hg4;have hs4:w.heap.size+2≤w'.heap.size:=by have:=K4.out.size;have:=S2'.out;omega
   clear kp4 hpl hrd ho4 hg4 R2 T2' K4 hPL hcs4 htk4 lP;generalize (padL L).length=N at hle4 HPL hb ⊢;refine(zlb _ rfl _).mono ?_;rintro e w5 ⟨rfl,hw5⟩;have I5:Hid (OfI w (padL L) g4 (.cells cur4 5 (0,0)) w'.heap.size (.slice (some ⟨g4,0,none⟩) N cap4) 0 w5):=zz0 (by
    subst hw5;refine⟨(K04.out.alloc _).alloc _,zi (zi R4.out _) _,zi (zi T4.out _) _,zi (zi G4.out _) _,zi (ze _ _) _,?_⟩;have:=ze (w'.alloc (.cells #[.slice (some ⟨g4,0,none⟩) N cap4] 43)) (.cells #[.int .i64 64] 3)
    rwa [World.size_alloc] at this)
   have hs5:Hid (w5.heap.size=w'.heap.size+2):=zz0 (by subst hw5;simp)
   clear hw5
   go_wp2_with fail
   refine(wpIn_wide (n:=9)).1 ?_;refine ziC (m:=blocks L) (by have:=HPL.out;omega) hle4 (by omega) (by have:=HPL.out;omega) rfl rfl (OfI w (padL L) g4 (.cells cur4 5 (0,0)) w'.heap.size (.slice (some ⟨g4,0,none⟩) N cap4)) (fun i W W' h k=>h.keepGe k (by have:=hs5.out;omega) (by omega) (by omega)) (fun i W h=>⟨h.bs,h.bn⟩) I5.out ?a1 ?assign ?body ?done
   case assign =>
    intro i W K hK
    gi_wp2
    exact hK
   case body =>
    intro i W hi hI;have HI:=zz0 hI;have hKW:=zz0 (HK.out.keep hI.keep);have byt:Hid (ShByt W g4 (64*i) 64 (blkB (padL L) i)):=zz0 (fun j hj=>by
     rw[zpf _ _ _ hj];have e1:=hb.out (64*i+j) (by have:=HPL.out;omega)
     simp[World.cell?,hI.row,e1])
    have hst:=hI.st;clear hI
    gi_wp2_with fail
    have hl:=zcf (P:=Tryz.prog) W (w.heap.size+1) 415 _ (0,0) 8 hst rfl;simp only[oA415,oS415,Result.andThen,↓reduceIte,hl];rw[Oper.uponIn_value];clear hl
    gi_wp2_with fail
    refine⟨trivial,?_⟩;refine(CallsIn.inRound _ (callsIn_wide.2 (zoy _ g4 (64*i) 64 _ W (zjI _ _) hKW.out byt.out (Nat.le_refl _) (by omega)))).mono ?_
    rintro e W2 ⟨rfl,kp⟩;have hst2:=kp.at hst (fun e=>e)
    have KP:=zz0 kp;clear kp hst
    gi_wp2_with fail
    have hst3:=zb4 (P:=Tryz.prog) W2 (w.heap.size+1) 415 _ (stepW (stTo (padL L) i) (blkB (padL L) i)).cells hst2 rfl rfl (W8.one _);simp only[oS415,Result.andThen,↓reduceIte,hst3,W8.size];rw[Oper.uponIn_skip];have I2:OfI w (padL L) g4 (.cells cur4 5 (0,0)) w'.heap.size (.slice (some ⟨g4,0,none⟩) N cap4) (i+1) (W2.setRow (w.heap.size+1) (stepW (stTo (padL L) i) (blkB (padL L) i)).cells):=by
     have hi1:=HI.out;refine⟨(hi1.keep.trans1 KP.out).setRow (.inr (by omega)) _,?_,setRow_heap _ _ _ _ _ _ hst2,?_,?_,?_⟩
     ·rw[setRow_other _ _ _ _ (by omega)];exact KP.out.at hi1.res (fun e=>e)
     ·rw[setRow_other _ _ _ _ (by have:=S2'.out;omega)];exact KP.out.at hi1.row (fun e=>e)
     ·rw[setRow_other _ _ _ _ (by omega)];exact KP.out.at hi1.bs (fun e=>e)
     ·rw[setRow_other _ _ _ _ (by omega)];exact KP.out.at hi1.bn (fun e=>e)
    have K2:za (fun k=>k<w5.heap.size) W (W2.setRow (w.heap.size+1) (stepW (stTo (padL L) i) (blkB (padL L) i)).cells):=KP.out.ofNon.setRow (.inl (by have:=hs5.out;omega)) _
    gi_wp2_with fail
    exact⟨I2,K2⟩
   case done =>
    intro W hI hD;have hst:=hI.st;have KW:=zz0 hI.keep;have RW:=zz0 hI.res;have HD:=zz0 hD;have hlt1:=lt_of_block hI.st;clear hI hD;rw[show stTo (padL L) (blocks L)=shaS L from rfl] at hst
    have hu:Hid ((shaS L).u32):=zz0 (zjI _ _);generalize hS:shaS L=s at hst hu ⊢;have HS:=zz0 hS;clear hS
    go_wp2_with fail
    have hd0:(W.alloc (.cells #[.int .u8 0,.int .u8 0,.int .u8 0,.int .u8 0,.int .u8 0,.int .u8 0,.int .u8 0,.int .u8 0,.int .u8 0,.int .u8 0,.int .u8 0,.int .u8 0,.int .u8 0,.int .u8 0,.int .u8 0,.int .u8 0,.int .u8 0,.int .u8 0,.int .u8 0,.int .u8 0,.int .u8 0,.int .u8 0,.int .u8 0,.int .u8 0,.int .u8 0,.int .u8 0,.int .u8 0,.int .u8 0,.int .u8 0,.int .u8 0,.int .u8 0,.int .u8 0] 51)).heap[W.heap.size]? = some (.cells (digC s 0) 51 (0,0)):=ze _ _;have k6:za zq2 W (W.alloc (.cells #[.int .u8 0,.int .u8 0,.int .u8 0,.int .u8 0,.int .u8 0,.int .u8 0,.int .u8 0,.int .u8 0,.int .u8 0,.int .u8 0,.int .u8 0,.int .u8 0,.int .u8 0,.int .u8 0,.int .u8 0,.int .u8 0,.int .u8 0,.int .u8 0,.int .u8 0,.int .u8 0,.int .u8 0,.int .u8 0,.int .u8 0,.int .u8 0,.int .u8 0,.int .u8 0,.int .u8 0,.int .u8 0,.int .u8 0,.int .u8 0,.int .u8 0,.int .u8 0] 51)):=(za.refl _ _).alloc _;have D6:=zz0 hd0;have K6:=zz0 k6;clear hd0 k6;generalize W.alloc (.cells #[.int .u8 0,.int .u8 0,.int .u8 0,.int .u8 0,.int .u8 0,.int .u8 0,.int .u8 0,.int .u8 0,.int .u8 0,.int .u8 0,.int .u8 0,.int .u8 0,.int .u8 0,.int .u8 0,.int .u8 0,.int .u8 0,.int .u8 0,.int .u8 0,.int .u8 0,.int .u8 0,.int .u8 0,.int .u8 0,.int .u8 0,.int .u8 0,.int .u8 0,.int .u8 0,.int .u8 0,.int .u8 0,.int .u8 0,.int .u8 0,.int .u8 0,.int .u8 0] 51)=W6 at D6 K6 ⊢;have hst6:=K6.out.at hst (fun e=>e)
    have hl:=zcf (P:=Tryz.prog) W6 (w.heap.size+1) 415 _ (0,0) 8 hst6 rfl;simp only[oA415,oS415,Result.andThen,↓reduceIte,hl];rw[Oper.upon_value];clear hl hst hst6
    go_wp2_with fail
    go_loopw [37] (fun i wq=>∃n:Nat,n≤8∧i = .int .i64 n∧za (zq3 W.heap.size) W6 wq∧wq.heap[W.heap.size]? = some (.cells (digC s (4*n)) 51 (0,0))) (fun i _=>8-(intOf i).toNat)
    case atStart=>exact⟨0,by omega,rfl,za.refl _ _,D6.out⟩
    case round =>
     obtain⟨n,hn8,rfl,kq,dq⟩:=hrel;have KQ:=zz0 kq;have DQ:=zz0 dq;clear kq dq;by_cases h8:n<8
     ·have hix:=znO s n h8 wr
      have hux:=W8.at_u32 hu.out n;have hs4:=zlq s n h8;rw[zqx,zqy,zqz,zqA] at hs4;have S4:=zz0 hs4;clear hs4;obtain⟨hx0,hx1⟩:=hux;generalize s.at n=y at S4 hix hx0 hx1;have w4:IntKind.i64.wrap (4*(n:Int))=4*(n:Int):=by rw[IntKind.wrap_i64];omega
      have p4:(4*(n:Int)).toNat=4*n:=by omega
      have q4:0≤4*(n:Int)∧4*(n:Int)≤32:=by omega
      have h8i:(n:Int)<8:=by omega
      go_wp2_with fail
      have e0:y / 16777216%256=y / 16777216:=by omega
      have s4:=S4.out;rw[e0] at s4;have hcr:=run_copy_row (P:=Tryz.prog) (wr.alloc (.cells #[.int .u8 (y / 16777216),.int .u8 (y / 65536%256),.int .u8 (y / 256%256),.int .u8 (y%256)] 5)) 43 43 3 5 W.heap.size (4*n) (32-4*n) (32-4*n) ⟨wr.heap.size,0,none⟩ 4 4 (digC s (4*n)) 51 [.int .u8 (y / 16777216),.int .u8 (y / 65536%256),.int .u8 (y / 256%256),.int .u8 (y%256)] Tryz.underlying43 (by kernel_rfl) (zi DQ.out _) (by show 4=min 4 (32-4*n);omega) (fun j v hv=>by rw[zag,Nat.zero_add,cell_of_row _ _ j _ _ _ (ze wr _)];simpa using hv) (by rw[zaJ];simp only[List.length_cons,List.length_nil];omega) (by intro v hv;simp at hv;rcases hv with rfl|rfl|rfl|rfl<;>rfl)
      rw[List.append_assoc,show 4*n + [Value.int .u8 (y / 16777216),.int .u8 (y / 65536%256),.int .u8 (y / 256%256),.int .u8 (y%256)].length=4*n+4 from rfl,s4] at hcr
      rw[hcr];simp only[Result.andThen];rw[Oper.upon_value];clear hcr s4 e0
      go_wp2_with fail
      have hdn:=setRow_heap (wr.alloc (.cells #[.int .u8 (y / 16777216),.int .u8 (y / 65536%256),.int .u8 (y / 256%256),.int .u8 (y%256)] 5)) W.heap.size _ (digC s (4*(n+1))) _ _ (zi DQ.out _)
      go_roundw
      case rel=>exact⟨n+1,by omega,by go_num,(KQ.out.alloc _).setRow (.inl (zK _)) _,hdn⟩
      case measure=>simp[intOf];omega
     ·have e:n=8:=by omega
      subst e;have hw1:=KW.out.size;have k7:za zq2 w wr:=(KW.out.trans1 K6.out).trans KQ.out (fun _ _ h=>h) (fun i hi h=>by unfold zq3 at h;show False;omega)
      have r7:=KQ.out.at (K6.out.at RW.out (fun e=>e)) (fun h=>by unfold zq3 at h;omega)
      have d7:=KQ.out.at (K6.out.at HD.out (fun e=>e)) (fun h=>by unfold zq3 at h;have:=lt_of_block HD.out;omega)
      have K7:=zz0 k7;have R7:=zz0 r7;have D7:=zz0 d7;have NE:Hid (w5.heap.size≠w.heap.size):=zz0 (by have:=hs5.out;omega)
      clear k7 r7 d7
      go_wp2_with fail
      have hl:=zcf (P:=Tryz.prog) wr W.heap.size 51 _ (0,0) 32 DQ.out (zaJ _ _);simp only[oA51,oS51,Result.andThen,↓reduceIte,hl];rw[Oper.upon_value];clear hl
      go_wp2_with fail
      have hst:=zb4 (P:=Tryz.prog) wr w.heap.size 51 _ (digC s (4*8)) R7.out (by rw[zaJ];rfl) (by rw[zaJ,zaJ]) (zjf _ _)
      simp only[oS51,Result.andThen,↓reduceIte,hst,zaJ];rw[Oper.upon_skip];clear hst
      go_wp2_with fail
      have hr8:=setRow_heap wr w.heap.size _ (digC s (4*8)) _ _ R7.out;have hK':(wr.setRow w.heap.size (digC s (4*8))).heap[w5.heap.size]? = some (.deferred (some [])):=by rw[setRow_other _ _ _ _ NE.out];exact D7.out
      refine⟨by simp,.inl ⟨_,_,rfl,run_takeDeferred (by exact hK'),?_⟩⟩
      have hK2:za (zq3 w5.heap.size) (wr.setRow w.heap.size (digC s (4*8))) ((wr.setRow w.heap.size (digC s (4*8))).putObj w5.heap.size (.deferred none)):=(za.refl (zq3 w5.heap.size) _).putObj (.inl (zK _)) _;have hr9:=hK2.at hr8 (fun h=>NE.out h.symm)
      refine⟨.agg (digC s (4*8)),results_cell_row (P:=Tryz.prog) Tryz.results320 _ _ w.heap.size 51 (digC s (4*8)) (0,0) _ rfl hr9 Tryz.underlying51 rfl (by rw[zaJ];rfl),by rw[HL.out,HS.out],?_⟩
      exact((K7.out.setRow (.inr (Nat.le_refl _)) _)).trans hK2 (fun _ _ h=>h) (fun i hi h=>by unfold zq3 at h;have:=hs5.out;show False;omega)
end
def digB (s:W8):List UInt8:=(List.range 32).map fun j=>UInt8.ofNat (s.byte j).toNat
def zbY (D:List UInt8):Value:=.agg (D.map bv).toArray
theorem zJ (s:W8):(digB s).length=32:=by simp[digB]
theorem zny (s:W8):Value.agg (digC s 32)=zbY (digB s):=by
 unfold zbY digC digB;rw[List.map_map]
 congr 2
 apply List.map_congr_left
 intro j hj;rw[if_pos (List.mem_range.1 hj)];unfold bv;have:0≤s.byte j∧s.byte j<256:=by unfold W8.byte;omega
 simp only[Function.comp,UInt8.toNat_ofNat']
 congr 1
 omega
theorem znf {D:List UInt8}(h:D.length=32):((D.map bv).toArray).size=32:=by simp[h]
theorem zqF (t e:TypeId)(ht:Tryz.prog.underlying t=some (.array 32 e))(he:Tryz.prog.underlying e=some (.int .u8))(hsz:∀w,(sizeOf e).run Tryz.prog w = .ok 1 w)(D E:List UInt8)(hD:D.length=32)(hE:E.length=32)(w:World) :
 (Op.equalIn 10000 t (zbY D) (zbY E)).run Tryz.prog w = .ok (D==E) w :=
 run_equalIn_bytes w 9998 t e 32 ht he hsz D E hD hE
theorem sizeU8 (w:World):(sizeOf 5).run Tryz.prog w = .ok 1 w:=by kernel_rfl
theorem zlx (D E:List UInt8)(hD:D.length=32)(hE:E.length=32)(w:World):(Op.equalIn 10000 51 (zbY D) (zbY E)).run Tryz.prog w = .ok (D==E) w :=
 zqF 51 5 Tryz.underlying51 Tryz.underlying5 sizeU8 D E hD hE w
def isZ (D:List UInt8):Bool:=D==List.replicate 32 0
section
attribute [local simp high] hA415 hS415 hA51 hS51
theorem ziR (l:List UInt8)(a:Option Addr)(cap:Nat)(w:World)(hb:Bs w (.slice a l.length cap) l)(hk:Kon w)(hf:Frs w)(ht:l.length≤131072) :
 Calls Tryz.prog 283 #[.slice a l.length cap] w fun e w'=>e = .returned (zbY (digB (shaS l)))∧za zq2 w w':=by
 have HB:=zz0 hb;have HK:=zz0 hk;have HF:=zz0 hf;clear hb hk hf
 go_enter Tryz.func283,Tryz.ntmps283
 go_wp2_with fail
 have k1:za zq2 w ((w.alloc (.cells #[.int .u8 0,.int .u8 0,.int .u8 0,.int .u8 0,.int .u8 0,.int .u8 0,.int .u8 0,.int .u8 0,.int .u8 0,.int .u8 0,.int .u8 0,.int .u8 0,.int .u8 0,.int .u8 0,.int .u8 0,.int .u8 0,.int .u8 0,.int .u8 0,.int .u8 0,.int .u8 0,.int .u8 0,.int .u8 0,.int .u8 0,.int .u8 0,.int .u8 0,.int .u8 0,.int .u8 0,.int .u8 0,.int .u8 0,.int .u8 0,.int .u8 0,.int .u8 0] 51)).alloc (.cells #[.slice a l.length cap] 43)):=((za.refl _ _).alloc _).alloc _;have hp:Pts ((w.alloc (.cells #[.int .u8 0,.int .u8 0,.int .u8 0,.int .u8 0,.int .u8 0,.int .u8 0,.int .u8 0,.int .u8 0,.int .u8 0,.int .u8 0,.int .u8 0,.int .u8 0,.int .u8 0,.int .u8 0,.int .u8 0,.int .u8 0,.int .u8 0,.int .u8 0,.int .u8 0,.int .u8 0,.int .u8 0,.int .u8 0,.int .u8 0,.int .u8 0,.int .u8 0,.int .u8 0,.int .u8 0,.int .u8 0,.int .u8 0,.int .u8 0,.int .u8 0,.int .u8 0] 51)).alloc (.cells #[.slice a l.length cap] 43)) (.slice (some ⟨w.heap.size+1,0,none⟩) [l].length 1) [l]:=by
  refine⟨[.slice a l.length cap],⟨_,1,rfl,fun _=>⟨w.heap.size+1,0,rfl,fun j u hu=>?_⟩⟩,rfl,fun i u m hu hm=>?_⟩
  ·cases j with
   |zero =>
    simp at hu;subst hu;have:=World.cell?_alloc_new (w.alloc (.cells #[.int .u8 0,.int .u8 0,.int .u8 0,.int .u8 0,.int .u8 0,.int .u8 0,.int .u8 0,.int .u8 0,.int .u8 0,.int .u8 0,.int .u8 0,.int .u8 0,.int .u8 0,.int .u8 0,.int .u8 0,.int .u8 0,.int .u8 0,.int .u8 0,.int .u8 0,.int .u8 0,.int .u8 0,.int .u8 0,.int .u8 0,.int .u8 0,.int .u8 0,.int .u8 0,.int .u8 0,.int .u8 0,.int .u8 0,.int .u8 0,.int .u8 0,.int .u8 0] 51)) #[.slice a l.length cap] 43 0;rw[World.size_alloc] at this;exact this
   |succ j=>simp at hu
  ·cases i with
   |zero =>
    simp at hu hm;subst hu hm;exact HB.out.keepNon k1
   |succ i=>simp at hu
 have r1:((w.alloc (.cells #[.int .u8 0,.int .u8 0,.int .u8 0,.int .u8 0,.int .u8 0,.int .u8 0,.int .u8 0,.int .u8 0,.int .u8 0,.int .u8 0,.int .u8 0,.int .u8 0,.int .u8 0,.int .u8 0,.int .u8 0,.int .u8 0,.int .u8 0,.int .u8 0,.int .u8 0,.int .u8 0,.int .u8 0,.int .u8 0,.int .u8 0,.int .u8 0,.int .u8 0,.int .u8 0,.int .u8 0,.int .u8 0,.int .u8 0,.int .u8 0,.int .u8 0,.int .u8 0] 51)).alloc (.cells #[.slice a l.length cap] 43)).heap[w.heap.size]? = some (.cells #[.int .u8 0,.int .u8 0,.int .u8 0,.int .u8 0,.int .u8 0,.int .u8 0,.int .u8 0,.int .u8 0,.int .u8 0,.int .u8 0,.int .u8 0,.int .u8 0,.int .u8 0,.int .u8 0,.int .u8 0,.int .u8 0,.int .u8 0,.int .u8 0,.int .u8 0,.int .u8 0,.int .u8 0,.int .u8 0,.int .u8 0,.int .u8 0,.int .u8 0,.int .u8 0,.int .u8 0,.int .u8 0,.int .u8 0,.int .u8 0,.int .u8 0,.int .u8 0] 51 (0,0)):=zi (ze _ _) _;refine(zqN [l] _ 1 _ hp (HK.out.keep k1) (HF.out.keep k1) (by simp) (by simpa using ht)).mono ?_
 rintro e w2 ⟨rfl,kp⟩;have r2:=kp.at r1 (fun e=>e)
 have K2:=zz0 (k1.trans1 kp);rw[show[l].flatten=l by simp]
 have HS:=zz0 (zny (shaS l));clear hp k1 r1 kp
 go_wp2_with fail
 have hst:=zb4 (P:=Tryz.prog) w2 w.heap.size 51 _ (digC (shaS l) 32) r2 (by rw[zaJ];rfl) (by rw[zaJ];rfl) (zjf _ _)
 simp only[oS51,Result.andThen,↓reduceIte,hst,zaJ];rw[Oper.upon_skip];clear hst
 go_wp2_with fail
 refine bodyPost_ret (v:=.agg (digC (shaS l) 32)) (results_cell_row (P:=Tryz.prog) Tryz.results283 _ _ w.heap.size 51 (digC (shaS l) 32) (0,0) _ rfl (setRow_heap _ _ _ _ _ _ r2) Tryz.underlying51 rfl (by rw[zaJ];rfl)) rfl ?_
 exact⟨by rw[HS.out],K2.out.setRow (.inr (Nat.le_refl _)) _⟩
theorem zo1 (D:List UInt8)(hD:D.length=32)(w:World) :
 Calls Tryz.prog 160 #[zbY D] w fun e w'=>e = .returned (.bool (isZ D))∧za zq2 w w':=by
 have HD:=zz0 hD;clear hD;unfold zbY;have hq:∀w:World,(Op.equalIn 10000 51 (.agg (D.map bv).toArray) (.agg #[.int .u8 0,.int .u8 0,.int .u8 0,.int .u8 0,.int .u8 0,.int .u8 0,.int .u8 0,.int .u8 0,.int .u8 0,.int .u8 0,.int .u8 0,.int .u8 0,.int .u8 0,.int .u8 0,.int .u8 0,.int .u8 0,.int .u8 0,.int .u8 0,.int .u8 0,.int .u8 0,.int .u8 0,.int .u8 0,.int .u8 0,.int .u8 0,.int .u8 0,.int .u8 0,.int .u8 0,.int .u8 0,.int .u8 0,.int .u8 0,.int .u8 0,.int .u8 0])).run Tryz.prog w = .ok (isZ D) w:=fun w=>zlx D (List.replicate 32 0) HD.out rfl w
 go_enter Tryz.func160,Tryz.ntmps160
 go_wp2_with fail
 have hl:=zcf (P:=Tryz.prog) (w.alloc (.cells (D.map bv).toArray 51)) w.heap.size 51 _ (0,0) 32 (ze _ _) (znf HD.out);simp only[oA51,oS51,Result.andThen,↓reduceIte,hl];rw[Oper.upon_value];clear hl
 go_wp2_with fail
 go_ret;exact⟨rfl,(za.refl _ _).alloc _⟩
end
end Go.Proofs.YtpojgmeoaflmoaaGreatDoor
namespace Go.Proofs.YtpojgmeoaflmoaaGreatDoor
open Go.RowKit
abbrev Is (w:World)(v:Value)(l:List Nat):Prop:=Rd w v (l.map iv)
def NewI (w:World)(l:List Nat):Ending→World→Prop:=fun e w'=>∃v',e = .returned v'∧za zq2 w w'∧w'.ownsRow w.heap.size 3 1 v' l.length (l.map iv)
theorem infoInt:(Tryz.prog.info? 3).map (fun i=>(i.zero,i.size,i.bytes))=some (some (.int .i64 0),1,8):=by kernel_rfl
theorem zej (l:List Nat):∀u ∈ l.map iv,u.oneCell'=true:=by
 intro u hu;obtain⟨x,_,rfl⟩:=List.mem_map.1 hu
 rfl
theorem zlK (n:Nat)(w:World)(hn:n≤100000000) :
 Calls Tryz.prog 108 #[.slice none 0 0,.int .i64 n] w fun e w'=>∃v,e = .returned v∧za zq2 w w'∧w'.ownsRow w.heap.size 3 1 v 0 []:=by
 have hb1:Tryz.t3.bytes=8:=rfl;by_cases hn0:n=0
 ·subst hn0
  go_enter Tryz.func108,Tryz.ntmps108
  go_wp2_with fail
  go_ret;exact⟨_,rfl,za.refl _ _,World.ownsRow_nil _ _ _ _⟩
 ·have hns:Builtin.nextslicecap n 0=n:=by unfold Builtin.nextslicecap;rw[if_pos (by omega)]
  have hn1:0<n:=by omega
  have hcap:(Question.appendCap n 0 3).cut (w.tape w.drawn (Question.appendCap n 0 3))=n+w.tape w.drawn (Question.appendCap n 0 3)%(2^63-n):=rfl;have hmod:w.tape w.drawn (Question.appendCap n 0 3)%(2^63-n)<2^63-n:=Nat.mod_lt _ (by omega)
  have HC:=zz0 (And.intro hcap hmod);clear hcap hmod
  go_enter Tryz.func108,Tryz.ntmps108
  go_wp2_with fail
  ·go_ret
   obtain⟨q1,q2⟩:=HC.out;have z0:∀k,(Builtin.zeroCells #[Value.int .i64 0] k).size=k:=fun k=>by simp[Builtin.zeroCells]
   refine⟨_,rfl,((za.refl _ _).alloc _).drew,rfl,.inr ⟨w.heap.size,_,_,rfl,Nat.le_refl _,ze _ _,Nat.zero_le _,?_,?_,rfl⟩⟩
   ·unfold maxLen;omega
   ·rw[Array.size_append,z0,z0];omega
def Iss (w:World)(vs:List Value)(ls:List (List Nat)):Prop:=vs.length=ls.length∧∀(i:Nat) u l,vs[i]? = some u→ls[i]? = some l→Is w u l
theorem zeU (g:Nat)(vs:List Value)(ls:List (List Nat))(c:Nat)(w:World)(h:Rd w (.slice (some ⟨g,0,none⟩) vs.length c) vs)(hb:Iss w vs ls)(hl:ls.flatten.length≤100000000)(hvl:vs.length≤1000) :
 Calls Tryz.prog 57 #[.slice (some ⟨g,0,none⟩) vs.length c] w (NewI w ls.flatten):=by
 have H:=zz0 h;have HB:=zz0 hb;clear h hb;obtain⟨i0,hi0,hz0,hz1,hz2⟩:=info_parts infoInt
 go_enter Tryz.func57,Tryz.ntmps57
 go_wp2_with fail
 go_loopw [3,11] (fun o i wr=>∃j:Nat,j≤vs.length∧i = .int .i64 j∧o = .int .i64 (ls.take j).flatten.length∧wr=w) (fun _ i _=>vs.length-(intOf i).toNat)
 case atStart=>exact⟨0,by omega,rfl,rfl,rfl⟩
 case round =>
  obtain⟨j,hj,rfl,rfl,rfl⟩:=hrel;by_cases hlt:j<vs.length
  ·have hjl:j<ls.length:=by rw[←HB.out.1];exact hlt
   have hu:=(HB.out.2 j vs[j] ls[j] (by simp[hlt]) (by simp[hjl]))
   obtain⟨g',off,e,hc⟩:∃g' off,some (⟨g,0,none⟩:Addr)=some ⟨g',off,none⟩∧∀j u,vs[j]? = some u→wr.cell? ⟨g',off+j,none⟩=some u:=by
    obtain⟨a',c',e,hx⟩:=H.out;injection e with e1 e2 e3
    obtain⟨g,off,e4,hc⟩:=hx (by intro e;rw[e] at hlt;exact absurd hlt (by simp))
    exact⟨g,off,e1.trans e4,hc⟩
   injection e with e
   injection e with e1 e2
   subst e1;subst e2;have hcell:=hc j _ (List.getElem?_eq_getElem hlt);rw[Nat.zero_add] at hcell;obtain⟨a1,c1,e,_⟩:=hu;rw[e,List.length_map] at hcell;have HS:Hid ((ls.take (j+1)).flatten.length=(ls.take j).flatten.length+ls[j].length):=zz0 (by rw[List.take_succ_eq_append_getElem hjl,List.flatten_append,List.length_append,List.flatten_cons,List.flatten_nil,List.append_nil])
   have hle:(ls.take j).flatten.length+ls[j].length≤100000000:=by
    rw[←HS.out];refine Nat.le_trans ?_ hl
    conv=>rhs;rw[←List.take_append_drop (j+1) ls,List.flatten_append,List.length_append]
    omega
   clear hc e;generalize (ls.take j).flatten.length=s0 at HS hle;generalize ls[j].length=s1 at HS hle hcell
   go_wp2_with fail
   exact⟨⟨j+1,by omega,by go_num,by rw[HS.out];go_num,trivial⟩,by simp[intOf];omega⟩
  ·obtain rfl:j=vs.length:=by omega
   rw[HB.out.1,List.take_length];generalize hL:ls.flatten.length=L at hl
   go_wp2_with(go_at_call 108;refine(zlK L _ hl).mono ?_;rintro e w1 ⟨v1,rfl,k1,o1⟩;have K1:=zz0 k1;have O1:=zz0 o1;clear k1 o1)
   have HL:=zz0 hL;clear hL;obtain⟨w0,hw0⟩:∃w0,w0=wr:=⟨_,rfl⟩;subst hw0
   go_loopw [6,27] (fun o i wr2=> ∃j:Nat,j≤ls.length∧i = .int .i64 j∧za zq2 w0 wr2∧wr2.ownsRow w0.heap.size 3 1 o (ls.take j).flatten.length ((ls.take j).flatten.map iv)) (fun _ i _=>ls.length-(intOf i).toNat)
   case atStart=>exact⟨0,by omega,rfl,K1.out,O1.out⟩
   case round =>
    obtain⟨j,hj,rfl,k2,o2⟩:=hrel;have K2:=zz0 k2;have O2:=zz0 o2;clear k2 o2;by_cases hlt:j<ls.length
    ·have hlv:j<vs.length:=by rw[HB.out.1];exact hlt
     have hu:=(HB.out.2 j vs[j] ls[j] (by simp[hlv]) (by simp[hlt])).keepNon K2.out
     obtain⟨g',off,e,hc⟩:∃g' off,some (⟨g,0,none⟩:Addr)=some ⟨g',off,none⟩∧∀j u,vs[j]? = some u→wr.cell? ⟨g',off+j,none⟩=some u:=by
      obtain⟨a',c',e,hx⟩:=H.out.keepNon K2.out;injection e with e1 e2 e3
      obtain⟨g,off,e4,hc⟩:=hx (by intro e;rw[e] at hlv;exact absurd hlv (by simp))
      exact⟨g,off,e1.trans e4,hc⟩
     injection e with e
     injection e with e1 e2
     subst e1;subst e2;have hcell:=hc j _ (List.getElem?_eq_getElem hlv);rw[Nat.zero_add] at hcell;have HU:=zz0 hu;obtain⟨a1,c1,e,_⟩:=hu;rw[e,List.length_map] at hcell HU;have HS:Hid ((ls.take (j+1)).flatten=(ls.take j).flatten++ls[j]):=zz0 (by rw[List.take_succ_eq_append_getElem hlt,List.flatten_append,List.flatten_cons,List.flatten_nil,List.append_nil])
     have hle:(ls.take j).flatten.length+ls[j].length≤100000000:=by
      rw[←List.length_append,←HS.out];refine Nat.le_trans ?_ hl;rw[←HL.out]
      conv=>rhs;rw[←List.take_append_drop (j+1) ls,List.flatten_append,List.length_append]
      omega
     clear hc e;generalize (ls.take j).flatten=s0 at HS hle O2;generalize ls[j]=s1 at HS hle hcell HU;obtain⟨va,vc,rfl,_,_⟩:=zb O2.out
     go_wp2_with(refine zH rfl _ _ 23 rfl w0.heap.size 3 i0 (.int .i64 0) 8 Tryz.underlying23 hi0 hz0 hz1 hz2 rfl _ _ _ rfl O2.out _ rfl (s1.map iv) HU.out (zej s1) (by unfold maxLen;simp;omega) (by simp;omega) K2.out.size ?_;intro v' w' ho hg hpp;have HO3:=zz0 ho;have HG:=zz0 hg;clear ho hg hpp)
     have h3:=HO3.out;rw[←List.map_append,←HS.out] at h3;refine⟨⟨j+1,by omega,by go_num,K2.out.grown HG.out (fun q e=>.inr ((O2.out.lt q e).1)),?_⟩,by simp[intOf];omega⟩
     rw[show(ls.take (j+1)).flatten.length=s0.length+(s1.map iv).length by rw[HS.out];simp]
     exact h3
    ·obtain rfl:j=ls.length:=by omega
     have o2:=O2.out;rw[List.take_length] at o2;have O3:=zz0 o2;clear o2
     go_wp2_with fail
     go_ret;exact⟨_,rfl,K2.out,O3.out⟩
theorem zeS (a:Addr)(c:Nat)(l:List Nat)(w:World)(h:Is w (.slice (some a) l.length c) l)(hlen:l.length≤1000000) :
 Calls Tryz.prog 87 #[.slice (some a) l.length c] w (NewI w l):=by
 have hq:=fun(w:World)=>Lib.run_eql_slice_nil (P:=Tryz.prog) w 23 3 (some a) l.length c 0 0 Tryz.underlying23
 obtain⟨i0,hi,hz0,hz1,hz2⟩:=info_parts infoInt;have h':Is (w.alloc (.cells #[] 3)) (.slice (some a) l.length c) l:=by
  obtain⟨a',cap',e1,hx⟩:=h;refine⟨a',cap',e1,fun hne=>?_⟩
  obtain⟨g,off,e2,hc⟩:=hx hne;exact⟨g,off,e2,fun j u hu=>(World.cell?_alloc_lt _ _ _ (World.block_lt_of_cell? _ _ (hc j u hu))).trans (hc j u hu)⟩
 have hnews:=(Rd.news h' rfl).2;have HN:=zz0 hnews;have HL:=zz0 hlen;have hown:Hid ((w.alloc (.cells #[] 3)).ownsRow w.heap.size 3 1 (.slice (some ⟨w.heap.size,0,none⟩) 0 0) 0 []):=World.ownsRow_made w #[] 0 (Nat.le_refl _) (by decide) rfl
 clear hnews h h' hlen
 go_enter Tryz.func87,Tryz.ntmps87
 go_wp2_with(at_builtin;refine zv rfl _ _ 23 rfl w.heap.size 3 i0 (.int .i64 0) 1 8 Tryz.underlying23 hi hz0 hz1 hz2 rfl (by decide) _ _ _ rfl hown.out a l.length c (l.map iv) rfl (by simp) HN.out (zej l) (by have:=HL.out;unfold maxLen;omega) (by have:=HL.out;omega) (by simp) ?_;intro v' w' ho hg hp;have HO:=zz0 ho;have HP:=zz0 hp;clear ho hp)
 go_ret;have hk:za zq2 w w':=by
  have:=((za.refl zq2 w).alloc (.cells #[] 3)).trans ((za.refl (zq3 w.heap.size) _).grown hg (row:=some w.heap.size) (fun k e=>.inl (by injection e with e;exact e.symm))) (U:=zq2) (fun _ _ h=>h) (fun i hi h=>by unfold zq3 at h;omega)
  exact this
 have ho:=HO.out;rw[List.nil_append,show 0+l.length=(l.map iv).length by simp] at ho
 exact⟨v',rfl,hk,by simpa using ho⟩
def sl1 (x:Addr×Nat×Nat):Value:=.slice (some x.1) x.2.1 x.2.2
theorem zlQ (g:Nat)(a:Option Addr)(c:Nat)(us:List Nat)(w:World)
 (eg:∀args w,(callFunc g args).run Tryz.prog w = .ok (.enter g args) w)
 (hr:Rd w (.slice a us.length c) (us.map iv)) (hl:us.length≤1000)
 (hs:∀(j:Nat) u W,us[j]? = some u→za zq2 w W→Calls Tryz.prog g #[iv u] W fun e w'=>e = .returned (.bool false)∧za zq2 W w') :
 Calls Tryz.prog 138 #[.slice a us.length c,.func (.func g) #[] #[]] w fun e w'=>e = .returned (.int .i64 (-1))∧za zq2 w w':=by
 have HS:=zz0 hs;have HR:=zz0 hr;clear hs hr
 go_enter Tryz.func138,Tryz.ntmps138
 go_wp2_with fail
 go_loopw [8] (fun i wr=>∃j:Nat,j≤us.length∧i = .int .i64 j∧za zq2 w wr) (fun i _=>us.length-(intOf i).toNat)
 case atStart=>exact⟨0,by omega,rfl,za.refl _ _⟩
 case round =>
  obtain⟨j,hj,rfl,hi⟩:=hrel;have HI:=zz0 hi;have hrd:=HR.out.keepNon hi;clear hi;by_cases hlt:j<us.length
  ·have hlj:(j:Int)<(us.length:Int):=by omega
   obtain⟨b,off,rfl,hc⟩:∃b off,a=some ⟨b,off,none⟩∧∀(k:Nat) u,(us.map iv)[k]? = some u→wr.cell? ⟨b,off+k,none⟩=some u:=by
    obtain⟨a',c',e,hx⟩:=hrd;injection e with e1 e2 e3
    obtain⟨g',off,e4,hc⟩:=hx (by intro e;have e':=List.map_eq_nil_iff.1 e;rw[e'] at hlt;exact absurd hlt (by simp))
    exact⟨g',off,e1.trans e4,hc⟩
   obtain⟨u,hu⟩:∃u,us[j]? = some u:=⟨_,List.getElem?_eq_getElem hlt⟩;have hcell:wr.cell? ⟨b,off+j,none⟩=some (iv u):=hc j _ (by rw[List.getElem?_map,hu];rfl)
   unfold iv at hcell;have ST:=zz0 (HS.out j u wr hu HI.out);unfold iv at ST;clear hc hrd hu;clear HR
   go_wp2_with fail
   refine ST.out.mono ?_;rintro e w1 ⟨rfl,i1⟩;have I1:=zz0 i1;clear i1 ST HS
   go_wp2_with fail
   exact⟨⟨j+1,by omega,by first|rfl|go_num,HI.out.trans1 I1.out⟩,by simp[intOf];omega⟩
  ·obtain rfl:j=us.length:=by omega
   clear hrd
   go_wp2_with fail
   go_ret;exact⟨rfl,HI.out⟩
theorem znN (g:Nat)(a:Option Addr)(c:Nat)(us:List Nat)(w:World)
 (eg:∀args w,(callFunc g args).run Tryz.prog w = .ok (.enter g args) w)
 (hr:Rd w (.slice a us.length c) (us.map iv)) (hl:us.length≤1000)
 (hs:∀(j:Nat) u W,us[j]? = some u→za zq2 w W→Calls Tryz.prog g #[iv u] W fun e w'=>e = .returned (.bool false)∧za zq2 W w') :
 Calls Tryz.prog 85 #[.slice a us.length c,.func (.func g) #[] #[]] w fun e w'=>e = .returned (.bool false)∧za zq2 w w':=by
 have IX:=zz0 (zlQ g a c us w eg hr hl hs);clear hr hs
 go_enter Tryz.func85,Tryz.ntmps85
 go_wp2_with(go_at_call 138;refine IX.out.mono ?_;rintro e w1 ⟨rfl,k1⟩;have K1:=zz0 k1;clear k1)
 go_ret;exact⟨rfl,K1.out⟩
theorem zlP (g:Nat)(a:Option Addr)(c:Nat)(us:List (Addr×Nat×Nat))(w:World)
 (eg:∀args w,(callFunc g args).run Tryz.prog w = .ok (.enter g args) w)
 (hr:Rd w (.slice a us.length c) (us.map sl1)) (hl:us.length≤1000)
 (hs:∀(j:Nat) u W,us[j]? = some u→za zq2 w W→Calls Tryz.prog g #[sl1 u] W fun e w'=>e = .returned (.bool false)∧za zq2 W w') :
 Calls Tryz.prog 137 #[.slice a us.length c,.func (.func g) #[] #[]] w fun e w'=>e = .returned (.int .i64 (-1))∧za zq2 w w':=by
 have HS:=zz0 hs;have HR:=zz0 hr;clear hs hr
 go_enter Tryz.func137,Tryz.ntmps137
 go_wp2_with fail
 go_loopw [8] (fun i wr=>∃j:Nat,j≤us.length∧i = .int .i64 j∧za zq2 w wr) (fun i _=>us.length-(intOf i).toNat)
 case atStart=>exact⟨0,by omega,rfl,za.refl _ _⟩
 case round =>
  obtain⟨j,hj,rfl,hi⟩:=hrel;have HI:=zz0 hi;have hrd:=HR.out.keepNon hi;clear hi;by_cases hlt:j<us.length
  ·have hlj:(j:Int)<(us.length:Int):=by omega
   obtain⟨b,off,rfl,hc⟩:∃b off,a=some ⟨b,off,none⟩∧∀(k:Nat) u,(us.map sl1)[k]? = some u→wr.cell? ⟨b,off+k,none⟩=some u:=by
    obtain⟨a',c',e,hx⟩:=hrd;injection e with e1 e2 e3
    obtain⟨g',off,e4,hc⟩:=hx (by intro e;have e':=List.map_eq_nil_iff.1 e;rw[e'] at hlt;exact absurd hlt (by simp))
    exact⟨g',off,e1.trans e4,hc⟩
   obtain⟨u,hu⟩:∃u,us[j]? = some u:=⟨_,List.getElem?_eq_getElem hlt⟩;have hcell:wr.cell? ⟨b,off+j,none⟩=some (sl1 u):=hc j _ (by rw[List.getElem?_map,hu];rfl)
   unfold sl1 at hcell;have ST:=zz0 (HS.out j u wr hu HI.out);unfold sl1 at ST;clear hc hrd hu;clear HR
   go_wp2_with fail
   refine ST.out.mono ?_;rintro e w1 ⟨rfl,i1⟩;have I1:=zz0 i1;clear i1 ST HS
   go_wp2_with fail
   exact⟨⟨j+1,by omega,by first|rfl|go_num,HI.out.trans1 I1.out⟩,by simp[intOf];omega⟩
  ·obtain rfl:j=us.length:=by omega
   clear hrd
   go_wp2_with fail
   go_ret;exact⟨rfl,HI.out⟩
theorem znM (g:Nat)(a:Option Addr)(c:Nat)(us:List (Addr×Nat×Nat))(w:World)
 (eg:∀args w,(callFunc g args).run Tryz.prog w = .ok (.enter g args) w)
 (hr:Rd w (.slice a us.length c) (us.map sl1)) (hl:us.length≤1000)
 (hs:∀(j:Nat) u W,us[j]? = some u→za zq2 w W→Calls Tryz.prog g #[sl1 u] W fun e w'=>e = .returned (.bool false)∧za zq2 W w') :
 Calls Tryz.prog 84 #[.slice a us.length c,.func (.func g) #[] #[]] w fun e w'=>e = .returned (.bool false)∧za zq2 w w':=by
 have IX:=zz0 (zlP g a c us w eg hr hl hs);clear hr hs
 go_enter Tryz.func84,Tryz.ntmps84
 go_wp2_with(go_at_call 137;refine IX.out.mono ?_;rintro e w1 ⟨rfl,k1⟩;have K1:=zz0 k1;clear k1)
 go_ret;exact⟨rfl,K1.out⟩
def itV (n p a b:Nat):Value:=.agg #[.int .i64 n,.int .i64 p,.int .i64 a,.int .i64 b]
def ItB (n p a b:Nat):Obj:=.cells #[.int .i64 n,.int .i64 p,.int .i64 a,.int .i64 b] 215 (0,0)
def NB (x:Int):Obj:=.cells #[.int .i64 x] 3 (0,0)
theorem nb_0 {w:World}{g:Nat}{x:Int}(h:w.heap[g]? = some (NB x)):w.cell? ⟨g,0,none⟩=some (.int .i64 x):=by simp[World.cell?,h,NB]
theorem atNon {w w':World}{b:Nat}{o:Obj}(k:za zq2 w w')(h:w.heap[b]? = some o):w'.heap[b]? = some o:=k.at h (fun e=>e)
def ItAt (w:World)(a:Addr)(n p x y:Nat):Prop:=∃g off,a=⟨g,off,none⟩∧w.cell? ⟨g,off,none⟩=some (.int .i64 n)∧w.cell? ⟨g,off+1,none⟩=some (.int .i64 p)∧w.cell? ⟨g,off+2,none⟩=some (.int .i64 x)∧w.cell? ⟨g,off+3,none⟩=some (.int .i64 y)
theorem za3 {S:Nat→Prop}{w w':World}{g i:Nat}{v:Value}(k:za S w w')(hn:¬S g)(e:w.cell? ⟨g,i,none⟩=some v):w'.cell? ⟨g,i,none⟩=some v:=by
 have hg:g<w.heap.size:=by
  rcases Nat.lt_or_ge g w.heap.size with q|q
  ·exact q
  ·rw[World.cell?,Array.getElem?_eq_none q] at e
   cases e
 have:=k.block g hg hn;unfold World.cell? at *;rw[this];exact e
theorem ItAt.keep {S:Nat→Prop}{w w':World}{a:Addr}{n p x y:Nat}(h:ItAt w a n p x y)(k:za S w w')(hn:¬S a.block):ItAt w' a n p x y:=by
 obtain⟨g,off,rfl,h0,h1,h2,h3⟩:=h;exact⟨g,off,rfl,za3 k hn h0,za3 k hn h1,za3 k hn h2,za3 k hn h3⟩
theorem zh8 (args:Array Value)(w:World):(callFunc 200 args).run Tryz.prog w = .ok (.enter 200 args) w:=by
 kernel_rfl
theorem zkq (n p x y t g:Nat)(w:World)(h:w.heap[g]? = some (NB t)) :
 Calls Tryz.prog 200 #[itV n p x y,.pointer (some ⟨g,0,none⟩)] w fun e w'=>e = .returned (.bool (decide (t<y)))∧za zq2 w w':=by
 have c0:=nb_0 (atNon ((za.refl zq2 w).alloc (ItB n p x y)) h);unfold itV;unfold ItB at c0
 go_enter Tryz.func200,Tryz.ntmps200
 go_wp2_with fail
 go_ret;exact⟨rfl,(za.refl zq2 w).alloc _⟩
section
variable {w : World} {b n p x y : Nat}
theorem it_0 (h:w.heap[b]? = some (ItB n p x y)):w.cell? ⟨b,0,none⟩=some (.int .i64 n):=by simp[World.cell?,h,ItB]
theorem it_1 (h:w.heap[b]? = some (ItB n p x y)):w.cell? ⟨b,1,none⟩=some (.int .i64 p):=by simp[World.cell?,h,ItB]
theorem it_2 (h:w.heap[b]? = some (ItB n p x y)):w.cell? ⟨b,2,none⟩=some (.int .i64 x):=by simp[World.cell?,h,ItB]
theorem it_3 (h:w.heap[b]? = some (ItB n p x y)):w.cell? ⟨b,3,none⟩=some (.int .i64 y):=by simp[World.cell?,h,ItB]
theorem it_f (h:w.heap[b]? = some (ItB n p x y))(i:Nat):w.frozen? ⟨b,i,none⟩=false:=by simp[World.frozen?,h,ItB]
theorem zfa (h:w.heap[b]? = some (ItB n p x y))(a0 a1 a2 a3:Nat) :
 w.cell? ⟨b,0,none⟩=some (.int .i64 n)∧w.cell? ⟨b,1,none⟩=some (.int .i64 p)∧w.cell? ⟨b,2,none⟩=some (.int .i64 x)∧w.cell? ⟨b,3,none⟩=some (.int .i64 y) ∧
 w.frozen? ⟨b,0,none⟩=false∧w.frozen? ⟨b,1,none⟩=false∧w.frozen? ⟨b,2,none⟩=false∧w.frozen? ⟨b,3,none⟩=false ∧
 ((((w.setCell ⟨b,0,none⟩ (.int .i64 a0)).setCell ⟨b,1,none⟩ (.int .i64 a1)).setCell ⟨b,2,none⟩ (.int .i64 a2)).setCell ⟨b,3,none⟩ (.int .i64 a3)).heap[b]? = some (ItB a0 a1 a2 a3) ∧
 za (zq3 b) w ((((w.setCell ⟨b,0,none⟩ (.int .i64 a0)).setCell ⟨b,1,none⟩ (.int .i64 a1)).setCell ⟨b,2,none⟩ (.int .i64 a2)).setCell ⟨b,3,none⟩ (.int .i64 a3)) :=
 ⟨it_0 h,it_1 h,it_2 h,it_3 h,it_f h 0,it_f h 1,it_f h 2,it_f h 3,zj (zj (zj (zj h 0 (.int .i64 a0)) 1 (.int .i64 a1)) 2 (.int .i64 a2)) 3 (.int .i64 a3),((((za.refl _ _).setOne _ _).setOne _ _).setOne _ _).setOne _ _⟩
end
def PlB (N B M:Nat)(v:Value):Obj:=.cells #[.int .i64 N,.int .i64 B,.int .i64 M,v] 156 (0,0)
theorem pl_0 {w:World}{b N B M:Nat}{v:Value}(h:w.heap[b]? = some (PlB N B M v)):w.cell? ⟨b,0,none⟩=some (.int .i64 N):=by simp[World.cell?,h,PlB]
theorem pl_1 {w:World}{b N B M:Nat}{v:Value}(h:w.heap[b]? = some (PlB N B M v)):w.cell? ⟨b,1,none⟩=some (.int .i64 B):=by simp[World.cell?,h,PlB]
theorem pl_2 {w:World}{b N B M:Nat}{v:Value}(h:w.heap[b]? = some (PlB N B M v)):w.cell? ⟨b,2,none⟩=some (.int .i64 M):=by simp[World.cell?,h,PlB]
theorem pl_3 {w:World}{b N B M:Nat}{v:Value}(h:w.heap[b]? = some (PlB N B M v)):w.cell? ⟨b,3,none⟩=some v:=by simp[World.cell?,h,PlB]
def RsB (b lb q N B M:Nat)(iv:Value)(t:Nat)(ov:Bool):Obj:=.cells #[.pointer (some ⟨b,0,none⟩),.pointer (some ⟨lb,0,none⟩),.pointer (some ⟨q,0,none⟩),.int .i64 N,.int .i64 B,.int .i64 M,iv,.int .i64 t,.bool ov] 160 (0,0)
section
variable {w : World} {x b lb q N B M t : Nat} {iv : Value} {ov : Bool}
theorem rs_0 (h:w.heap[x]? = some (RsB b lb q N B M iv t ov)):w.cell? ⟨x,0,none⟩=some (.pointer (some ⟨b,0,none⟩)):=by simp[World.cell?,h,RsB]
theorem rs_1 (h:w.heap[x]? = some (RsB b lb q N B M iv t ov)):w.cell? ⟨x,1,none⟩=some (.pointer (some ⟨lb,0,none⟩)):=by simp[World.cell?,h,RsB]
theorem rs_2 (h:w.heap[x]? = some (RsB b lb q N B M iv t ov)):w.cell? ⟨x,2,none⟩=some (.pointer (some ⟨q,0,none⟩)):=by simp[World.cell?,h,RsB]
theorem rs_3 (h:w.heap[x]? = some (RsB b lb q N B M iv t ov)):w.cell? ⟨x,3,none⟩=some (.int .i64 N):=by simp[World.cell?,h,RsB]
theorem rs_4 (h:w.heap[x]? = some (RsB b lb q N B M iv t ov)):w.cell? ⟨x,4,none⟩=some (.int .i64 B):=by simp[World.cell?,h,RsB]
theorem rs_5 (h:w.heap[x]? = some (RsB b lb q N B M iv t ov)):w.cell? ⟨x,5,none⟩=some (.int .i64 M):=by simp[World.cell?,h,RsB]
theorem rs_6 (h:w.heap[x]? = some (RsB b lb q N B M iv t ov)):w.cell? ⟨x,6,none⟩=some iv:=by simp[World.cell?,h,RsB]
theorem rs_7 (h:w.heap[x]? = some (RsB b lb q N B M iv t ov)):w.cell? ⟨x,7,none⟩=some (.int .i64 t):=by simp[World.cell?,h,RsB]
theorem rs_8 (h:w.heap[x]? = some (RsB b lb q N B M iv t ov)):w.cell? ⟨x,8,none⟩=some (.bool ov):=by simp[World.cell?,h,RsB]
theorem rs_f (h:w.heap[x]? = some (RsB b lb q N B M iv t ov))(i:Nat):w.frozen? ⟨x,i,none⟩=false:=by simp[World.frozen?,h,RsB]
theorem zmy (h:w.heap[x]? = some (RsB b lb q N B M iv t ov))(n:Nat):(w.setCell ⟨x,7,none⟩ (.int .i64 n)).heap[x]? = some (RsB b lb q N B M iv n ov):=zj h 7 _
theorem zmz (h:w.heap[x]? = some (RsB b lb q N B M iv t ov))(k:Bool):(w.setCell ⟨x,8,none⟩ (.bool k)).heap[x]? = some (RsB b lb q N B M iv t k):=zj h 8 _
end
theorem setNon4 {w w1 w2:World}(k:za zq2 w w1)(k4:za (zq3 w.heap.size) w1 w2):za zq2 w w2:=k.trans k4 (fun _ _ e=>e) (fun g hg e=>by have e':g=w.heap.size:=e;omega)
def ZB:Obj:=.cells #[.int .i64 0,.int .i64 0,.int .i64 0,.int .i64 0] 215 (0,0)
theorem znb (w:World):(w.alloc ZB).heap[w.heap.size]? = some (ItB 0 0 0 0):=ze w ZB
end Go.Proofs.YtpojgmeoaflmoaaGreatDoor
