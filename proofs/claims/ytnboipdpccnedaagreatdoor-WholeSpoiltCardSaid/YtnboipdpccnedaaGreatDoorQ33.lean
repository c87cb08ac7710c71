/- plan.After, plan.first at one item: walked. · (*Restore).Step, end, save over their callees: walked. · plan.mark, plan.Of at one manifest of one cell: -/
import Derived.Test.YtnboipdpccnedaaGreatDoorQ24
set_option linter.unusedVariables false
set_option maxRecDepth 100000
set_option maxHeartbeats 16000000
namespace Go.Proofs.YtnboipdpccnedaaGreatDoor
open Go.RowKit
def itV (n p a b:Nat):Value:=.agg #[.int .i64 n,.int .i64 p,.int .i64 a,.int .i64 b]
def ItB (n p a b:Nat):Obj:=.cells #[.int .i64 n,.int .i64 p,.int .i64 a,.int .i64 b] 257 (0,0)
def NB (x:Int):Obj:=.cells #[.int .i64 x] 3 (0,0)
theorem nb_0 {w:World} {g:Nat} {x:Int} (h:w.heap[g]? = some (NB x)):w.cell? ⟨g,0,none⟩=some (.int .i64 x):=by simp [World.cell?,h,NB]
theorem atNon {w w':World} {b:Nat} {o:Obj} (k:Keep Non w w') (h:w.heap[b]? = some o):w'.heap[b]? = some o:=k.at h (fun e=>e)
def ItAt (w:World) (a:Addr) (n p x y:Nat):Prop:=∃ g off,a=⟨g,off,none⟩∧w.cell? ⟨g,off,none⟩=some (.int .i64 n)∧w.cell? ⟨g,off+1,none⟩=some (.int .i64 p)∧w.cell? ⟨g,off+2,none⟩=some (.int .i64 x)∧w.cell? ⟨g,off+3,none⟩=some (.int .i64 y)
theorem zaZ {S:Nat→Prop} {w w':World} {g i:Nat} {v:Value} (k:Keep S w w') (hn:¬ S g) (e:w.cell? ⟨g,i,none⟩=some v):w'.cell? ⟨g,i,none⟩=some v:=by
  have hg:g < w.heap.size:=by
    rcases Nat.lt_or_ge g w.heap.size with q | q
    · exact q
    · rw [World.cell?,Array.getElem?_eq_none q] at e
      cases e
  have:=k.block g hg hn
  unfold World.cell? at *
  rw [this]
  exact e
theorem ItAt.keep {S:Nat→Prop} {w w':World} {a:Addr} {n p x y:Nat} (h:ItAt w a n p x y) (k:Keep S w w') (hn:¬ S a.block):ItAt w' a n p x y:=by
  obtain ⟨g,off,rfl,h0,h1,h2,h3⟩:=h
  exact ⟨g,off,rfl,zaZ k hn h0,zaZ k hn h1,zaZ k hn h2,zaZ k hn h3⟩
theorem zgV (args:Array Value) (w:World):(callFunc 225 args).run Tryz.prog w = .ok (.enter 225 args) w:=by
  kernel_rfl
theorem zi1 (n p x y t g:Nat) (w:World) (h:w.heap[g]? = some (NB t)) :
    Calls Tryz.prog 225 #[itV n p x y,.pointer (some ⟨g,0,none⟩)] w fun e w'=>e = .returned (.bool (decide (t < y)))∧Keep Non w w':=by
  have c0:=nb_0 (atNon ((Keep.refl Non w).alloc (ItB n p x y)) h)
  unfold itV
  unfold ItB at c0
  go_enter Tryz.func225,Tryz.ntmps225
  go_wp2_with fail
  go_ret
  exact ⟨rfl,(Keep.refl Non w).alloc _⟩
theorem zmK (n p x y t g c:Nat) (a:Addr) (w:World) (h:w.heap[g]? = some (NB t)) (hi:ItAt w a n p x y) :
    Calls Tryz.prog 299 #[.slice (some a) 1 c,.func (.func 225) #[] #[.pointer (some ⟨g,0,none⟩)]] w fun e w'=>e = .returned (.int .i64 (if t < y then 0 else -1))∧Keep Non w w':=by
  have AF:=zz0 (zi1 n p x y t g w h)
  obtain ⟨ig,off,rfl,h0,h1,h2,h3⟩:=hi
  have en:=zgV
  clear h
  unfold itV at AF
  by_cases hlt:t < y
  · rw [if_pos hlt]
    rw [decide_eq_true hlt] at AF
    go_enter Tryz.func299,Tryz.ntmps299
    go_wp2_with fail
    refine wp_loop_rounds 1 ?_
    rw [rounds_succ]
    go_wp2_with (go_at_call 225;refine AF.out.mono ?_;rintro e w1 ⟨rfl,k1⟩)
    go_ret
    exact ⟨rfl,k1⟩
  · rw [if_neg hlt]
    rw [decide_eq_false hlt] at AF
    go_enter Tryz.func299,Tryz.ntmps299
    go_wp2_with fail
    refine wp_loop_rounds 2 ?_
    rw [rounds_succ]
    go_wp2_with (go_at_call 225;refine AF.out.mono ?_;rintro e w1 ⟨rfl,k1⟩)
    rw [rounds_succ]
    go_wp2_with fail
    go_ret
    exact ⟨rfl,k1⟩
section
variable {w : World} {b n p x y : Nat}
theorem it_0 (h:w.heap[b]? = some (ItB n p x y)):w.cell? ⟨b,0,none⟩=some (.int .i64 n):=by simp [World.cell?,h,ItB]
theorem it_1 (h:w.heap[b]? = some (ItB n p x y)):w.cell? ⟨b,1,none⟩=some (.int .i64 p):=by simp [World.cell?,h,ItB]
theorem it_2 (h:w.heap[b]? = some (ItB n p x y)):w.cell? ⟨b,2,none⟩=some (.int .i64 x):=by simp [World.cell?,h,ItB]
theorem it_3 (h:w.heap[b]? = some (ItB n p x y)):w.cell? ⟨b,3,none⟩=some (.int .i64 y):=by simp [World.cell?,h,ItB]
theorem it_f (h:w.heap[b]? = some (ItB n p x y)) (i:Nat):w.frozen? ⟨b,i,none⟩=false:=by simp [World.frozen?,h,ItB]
theorem zc8 (h:w.heap[b]? = some (ItB n p x y)) (a0 a1 a2 a3:Nat) :
    w.cell? ⟨b,0,none⟩=some (.int .i64 n)∧w.cell? ⟨b,1,none⟩=some (.int .i64 p)∧w.cell? ⟨b,2,none⟩=some (.int .i64 x)∧w.cell? ⟨b,3,none⟩=some (.int .i64 y) ∧
    w.frozen? ⟨b,0,none⟩=false∧w.frozen? ⟨b,1,none⟩=false∧w.frozen? ⟨b,2,none⟩=false∧w.frozen? ⟨b,3,none⟩=false ∧
    ((((w.setCell ⟨b,0,none⟩ (.int .i64 a0)).setCell ⟨b,1,none⟩ (.int .i64 a1)).setCell ⟨b,2,none⟩ (.int .i64 a2)).setCell ⟨b,3,none⟩ (.int .i64 a3)).heap[b]? = some (ItB a0 a1 a2 a3) ∧
    Keep (One b) w ((((w.setCell ⟨b,0,none⟩ (.int .i64 a0)).setCell ⟨b,1,none⟩ (.int .i64 a1)).setCell ⟨b,2,none⟩ (.int .i64 a2)).setCell ⟨b,3,none⟩ (.int .i64 a3)) :=
  ⟨it_0 h,it_1 h,it_2 h,it_3 h,it_f h 0,it_f h 1,it_f h 2,it_f h 3,zaf (zaf (zaf (zaf h 0 (.int .i64 a0)) 1 (.int .i64 a1)) 2 (.int .i64 a2)) 3 (.int .i64 a3),((((Keep.refl _ _).setOne _ _).setOne _ _).setOne _ _).setOne _ _⟩
end
def PlB (N B M:Nat) (v:Value):Obj:=.cells #[.int .i64 N,.int .i64 B,.int .i64 M,v] 189 (0,0)
theorem pl_0 {w:World} {b N B M:Nat} {v:Value} (h:w.heap[b]? = some (PlB N B M v)):w.cell? ⟨b,0,none⟩=some (.int .i64 N):=by simp [World.cell?,h,PlB]
theorem pl_1 {w:World} {b N B M:Nat} {v:Value} (h:w.heap[b]? = some (PlB N B M v)):w.cell? ⟨b,1,none⟩=some (.int .i64 B):=by simp [World.cell?,h,PlB]
theorem pl_2 {w:World} {b N B M:Nat} {v:Value} (h:w.heap[b]? = some (PlB N B M v)):w.cell? ⟨b,2,none⟩=some (.int .i64 M):=by simp [World.cell?,h,PlB]
theorem pl_3 {w:World} {b N B M:Nat} {v:Value} (h:w.heap[b]? = some (PlB N B M v)):w.cell? ⟨b,3,none⟩=some v:=by simp [World.cell?,h,PlB]
theorem zi4 (N B M n p x y t g c:Nat) (a:Addr) (w:World) (h:w.heap[g]? = some (NB t)) (hi:ItAt w a n p x y) :
    Calls Tryz.prog 224 #[.agg #[.int .i64 N,.int .i64 B,.int .i64 M,.slice (some a) 1 c],.func (.func 225) #[] #[.pointer (some ⟨g,0,none⟩)]] w fun e w'=>e = .returned (.tuple #[if t < y then itV n p x y else itV 0 0 0 0,.bool (decide (t < y))])∧Keep Non w w':=by
  have kA:Keep Non w ((w.alloc (PlB N B M (.slice (some a) 1 c))).alloc (ItB 0 0 0 0)):=((Keep.refl _ _).alloc _).alloc _
  have IXA:=zz0 (zmK n p x y t g c a _ (atNon kA h) (hi.keep kA (fun e=>e)))
  have HI:=zz0 hi
  obtain ⟨ig,off,rfl,h0,h1,h2,h3⟩:=hi
  clear h h0 h1 h2 h3
  have PB:=zz0 (zae (zab w (PlB N B M (.slice (some ⟨ig,off,none⟩) 1 c))) (ItB 0 0 0 0))
  have RB:Hid (((w.alloc (PlB N B M (.slice (some ⟨ig,off,none⟩) 1 c))).alloc (ItB 0 0 0 0)).heap[w.heap.size+1]? = some (ItB 0 0 0 0)):=zz0 (by have:=zab (w.alloc (PlB N B M (.slice (some ⟨ig,off,none⟩) 1 c))) (ItB 0 0 0 0);simpa using this)
  have q3:=pl_3 PB.out
  have KA:=zz0 kA
  clear kA
  dsimp only [PlB,ItB] at q3 IXA
  unfold itV
  by_cases hlt:t < y
  · rw [if_pos hlt,decide_eq_true hlt]
    rw [if_pos hlt] at IXA
    go_enter Tryz.func224,Tryz.ntmps224
    go_wp2_with (go_at_call 299;refine IXA.out.mono ?_;rintro e w1 ⟨rfl,k1⟩;have k1':=KA.out.trans1 k1;have c3:=pl_3 (atNon k1 PB.out);obtain ⟨g',o',e',h0,h1,h2,h3⟩:=HI.out.keep k1' (fun e=>e);injection e' with e1 e2;subst e1;subst e2;obtain ⟨b0,b1,b2,b3,f0,f1,f2,f3,r4,k4⟩:=zc8 (atNon k1 RB.out) n p x y;have R4:=zz0 r4;have K4:=zz0 k4;have K1:=zz0 k1';clear k1 k1' r4 k4)
    refine bodyPost_ret (v:=.tuple #[itV n p x y,.bool true]) (by simp [results,Tryz.results224,go_sem,it_0 R4.out,it_1 R4.out,it_2 R4.out,it_3 R4.out,itV]) rfl ?_
    exact ⟨rfl,K1.out.trans K4.out (fun _ _ e=>e) (fun g' hg e=>by have e':g'=w.heap.size+1:=e;omega)⟩
  · rw [if_neg hlt,decide_eq_false hlt]
    rw [if_neg hlt] at IXA
    go_enter Tryz.func224,Tryz.ntmps224
    go_wp2_with (go_at_call 299;refine IXA.out.mono ?_;rintro e w1 ⟨rfl,k1⟩;have k1':=KA.out.trans1 k1;obtain ⟨b0,b1,b2,b3,f0,f1,f2,f3,r4,k4⟩:=zc8 (atNon k1 RB.out) 0 0 0 0;have R4:=zz0 r4;have K4:=zz0 k4;have K1:=zz0 k1';clear k1 k1' r4 k4)
    have r:=And.intro (it_0 R4.out) (And.intro (it_1 R4.out) (And.intro (it_2 R4.out) (it_3 R4.out)))
    rw [show ((0:Nat):Int)=0 from rfl] at r
    obtain ⟨r0,r1,r2,r3⟩:=r
    refine bodyPost_ret (v:=.tuple #[itV 0 0 0 0,.bool false]) (by simp [results,Tryz.results224,go_sem,itV,r0,r1,r2,r3]) rfl ?_
    exact ⟨rfl,K1.out.trans K4.out (fun _ _ e=>e) (fun g' hg e=>by have e':g'=w.heap.size+1:=e;omega)⟩
theorem zfc (N B M n p x y t c:Nat) (a:Addr) (w:World) (hi:ItAt w a n p x y) :
    Calls Tryz.prog 164 #[.agg #[.int .i64 N,.int .i64 B,.int .i64 M,.slice (some a) 1 c],.int .i64 t] w fun e w'=>e = .returned (.tuple #[if t < y then itV n p x y else itV 0 0 0 0,.bool (decide (t < y))])∧Keep Non w w':=by
  have kA:Keep Non w (((w.alloc (PlB N B M (.slice (some a) 1 c))).alloc (NB t)).alloc (ItB 0 0 0 0)):=(((Keep.refl _ _).alloc _).alloc _).alloc _
  have kB:Keep Non (w.alloc (PlB N B M (.slice (some a) 1 c))) (((w.alloc (PlB N B M (.slice (some a) 1 c))).alloc (NB t)).alloc (ItB 0 0 0 0)):=((Keep.refl _ _).alloc _).alloc _
  have kC:Keep Non ((w.alloc (PlB N B M (.slice (some a) 1 c))).alloc (NB t)) (((w.alloc (PlB N B M (.slice (some a) 1 c))).alloc (NB t)).alloc (ItB 0 0 0 0)):=(Keep.refl _ _).alloc _
  have hg:(((w.alloc (PlB N B M (.slice (some a) 1 c))).alloc (NB t)).alloc (ItB 0 0 0 0)).heap[w.heap.size+1]? = some (NB t):=atNon kC (by have:=zab (w.alloc (PlB N B M (.slice (some a) 1 c))) (NB t);simpa using this)
  have FI:=zz0 (zi4 N B M n p x y t (w.heap.size+1) c a _ hg (hi.keep kA (fun e=>e)))
  have P:=atNon kB (zab w (PlB N B M (.slice (some a) 1 c)))
  have RB:Hid ((((w.alloc (PlB N B M (.slice (some a) 1 c))).alloc (NB t)).alloc (ItB 0 0 0 0)).heap[w.heap.size+2]? = some (ItB 0 0 0 0)):=zz0 (by have:=zab ((w.alloc (PlB N B M (.slice (some a) 1 c))).alloc (NB t)) (ItB 0 0 0 0);simpa using this)
  have q0:=pl_0 P
  have q1:=pl_1 P
  have q2:=pl_2 P
  have q3:=pl_3 P
  have KA:=zz0 kA
  clear kA kB kC hg P hi
  dsimp only [PlB,ItB,NB] at q0 q1 q2 q3 FI
  by_cases hlt:t < y
  · rw [if_pos hlt,decide_eq_true hlt] at FI ⊢
    unfold itV at FI ⊢
    go_enter Tryz.func164,Tryz.ntmps164
    go_wp2_with (go_at_call 224;refine FI.out.mono ?_;rintro e w1 ⟨rfl,k1⟩;have k1':=KA.out.trans1 k1;obtain ⟨b0,b1,b2,b3,f0,f1,f2,f3,r4,k4⟩:=zc8 (atNon k1 RB.out) n p x y;have R4:=zz0 r4;have K4:=zz0 k4;have K1:=zz0 k1';clear k1 k1' r4 k4)
    refine bodyPost_ret (v:=.tuple #[itV n p x y,.bool true]) (by simp [results,Tryz.results164,go_sem,it_0 R4.out,it_1 R4.out,it_2 R4.out,it_3 R4.out,itV]) rfl ?_
    exact ⟨rfl,K1.out.trans K4.out (fun _ _ e=>e) (fun g' hg e=>by have e':g'=w.heap.size+2:=e;omega)⟩
  · rw [if_neg hlt,decide_eq_false hlt] at FI ⊢
    unfold itV at FI ⊢
    go_enter Tryz.func164,Tryz.ntmps164
    go_wp2_with (go_at_call 224;refine FI.out.mono ?_;rintro e w1 ⟨rfl,k1⟩;have k1':=KA.out.trans1 k1;obtain ⟨b0,b1,b2,b3,f0,f1,f2,f3,r4,k4⟩:=zc8 (atNon k1 RB.out) 0 0 0 0;have R4:=zz0 r4;have K4:=zz0 k4;have K1:=zz0 k1';clear k1 k1' r4 k4)
    have r:=And.intro (it_0 R4.out) (And.intro (it_1 R4.out) (And.intro (it_2 R4.out) (it_3 R4.out)))
    rw [show ((0:Nat):Int)=0 from rfl] at r
    obtain ⟨r0,r1,r2,r3⟩:=r
    refine bodyPost_ret (v:=.tuple #[itV 0 0 0 0,.bool false]) (by simp [results,Tryz.results164,go_sem,itV,r0,r1,r2,r3]) rfl ?_
    exact ⟨rfl,K1.out.trans K4.out (fun _ _ e=>e) (fun g' hg e=>by have e':g'=w.heap.size+2:=e;omega)⟩
def RsB (b lb q N B M:Nat) (iv:Value) (t:Nat) (ov:Bool):Obj:=.cells #[.pointer (some ⟨b,0,none⟩),.pointer (some ⟨lb,0,none⟩),.pointer (some ⟨q,0,none⟩),.int .i64 N,.int .i64 B,.int .i64 M,iv,.int .i64 t,.bool ov] 193 (0,0)
section
variable {w : World} {x b lb q N B M t : Nat} {iv : Value} {ov : Bool}
theorem rs_0 (h:w.heap[x]? = some (RsB b lb q N B M iv t ov)):w.cell? ⟨x,0,none⟩=some (.pointer (some ⟨b,0,none⟩)):=by simp [World.cell?,h,RsB]
theorem rs_1 (h:w.heap[x]? = some (RsB b lb q N B M iv t ov)):w.cell? ⟨x,1,none⟩=some (.pointer (some ⟨lb,0,none⟩)):=by simp [World.cell?,h,RsB]
theorem rs_2 (h:w.heap[x]? = some (RsB b lb q N B M iv t ov)):w.cell? ⟨x,2,none⟩=some (.pointer (some ⟨q,0,none⟩)):=by simp [World.cell?,h,RsB]
theorem rs_3 (h:w.heap[x]? = some (RsB b lb q N B M iv t ov)):w.cell? ⟨x,3,none⟩=some (.int .i64 N):=by simp [World.cell?,h,RsB]
theorem rs_4 (h:w.heap[x]? = some (RsB b lb q N B M iv t ov)):w.cell? ⟨x,4,none⟩=some (.int .i64 B):=by simp [World.cell?,h,RsB]
theorem rs_5 (h:w.heap[x]? = some (RsB b lb q N B M iv t ov)):w.cell? ⟨x,5,none⟩=some (.int .i64 M):=by simp [World.cell?,h,RsB]
theorem rs_6 (h:w.heap[x]? = some (RsB b lb q N B M iv t ov)):w.cell? ⟨x,6,none⟩=some iv:=by simp [World.cell?,h,RsB]
theorem rs_7 (h:w.heap[x]? = some (RsB b lb q N B M iv t ov)):w.cell? ⟨x,7,none⟩=some (.int .i64 t):=by simp [World.cell?,h,RsB]
theorem rs_8 (h:w.heap[x]? = some (RsB b lb q N B M iv t ov)):w.cell? ⟨x,8,none⟩=some (.bool ov):=by simp [World.cell?,h,RsB]
theorem rs_f (h:w.heap[x]? = some (RsB b lb q N B M iv t ov)) (i:Nat):w.frozen? ⟨x,i,none⟩=false:=by simp [World.frozen?,h,RsB]
theorem zk9 (h:w.heap[x]? = some (RsB b lb q N B M iv t ov)) (n:Nat):(w.setCell ⟨x,7,none⟩ (.int .i64 n)).heap[x]? = some (RsB b lb q N B M iv n ov):=zaf h 7 _
theorem zla (h:w.heap[x]? = some (RsB b lb q N B M iv t ov)) (k:Bool):(w.setCell ⟨x,8,none⟩ (.bool k)).heap[x]? = some (RsB b lb q N B M iv t k):=zaf h 8 _
end
theorem setNon4 {w w1 w2:World} (k:Keep Non w w1) (k4:Keep (One w.heap.size) w1 w2):Keep Non w w2:=k.trans k4 (fun _ _ e=>e) (fun g hg e=>by have e':g=w.heap.size:=e;omega)
def ZB:Obj:=.cells #[.int .i64 0,.int .i64 0,.int .i64 0,.int .i64 0] 257 (0,0)
theorem zlO (w:World):(w.alloc ZB).heap[w.heap.size]? = some (ItB 0 0 0 0):=zab w ZB
theorem zjb (x b lb q N B M t n p f u c:Nat) (a:Addr) (Q:Value→World→Prop) (w:World) (hx:w.heap[x]? = some (RsB b lb q N B M (.slice (some a) 1 c) t false)) (hi:ItAt w a n p f u) (hlt:t < u)
    (hp:∀ W,Keep Non w W→Calls Tryz.prog 165 #[.pointer (some ⟨x,0,none⟩),itV n p f u] W fun e w'=>∃ v,e = .returned v∧Q v w') :
    Calls Tryz.prog 109 #[.pointer (some ⟨x,0,none⟩)] w fun e w'=>∃ v,e = .returned (.tuple #[.bool false,v])∧Q v w':=by
  have XB:Hid (∀ W,Keep Non w W→W.cell? ⟨x,3,none⟩=some (.int .i64 N)∧W.cell? ⟨x,4,none⟩=some (.int .i64 B)∧W.cell? ⟨x,5,none⟩=some (.int .i64 M)∧W.cell? ⟨x,6,none⟩=some (.slice (some a) 1 c)∧W.cell? ⟨x,7,none⟩=some (.int .i64 t)):=zz0 (fun W k=>by have h:=atNon k hx;exact ⟨rs_3 h,rs_4 h,rs_5 h,rs_6 h,rs_7 h⟩)
  have AF:=zz0 (fun W (k:Keep Non w W)=>by have h:=zfc N B M n p f u t c a W (hi.keep k (fun e=>e));rw [if_pos hlt,decide_eq_true hlt] at h;exact h)
  have HP:=zz0 hp
  have c8:=rs_8 hx
  obtain ⟨y3,y4,y5,y6,y7⟩:=XB.out w (Keep.refl _ _)
  obtain ⟨z3,z4,z5,z6,z7⟩:=XB.out (w.alloc ZB) ((Keep.refl _ _).alloc _)
  have K0:Hid (Keep Non w (w.alloc ZB)):=zz0 ((Keep.refl _ _).alloc _)
  have KD:Hid (Keep Non w w.drew):=zz0 (Keep.refl Non w).drew
  have AFA:=zz0 (AF.out (w.alloc ZB).drew K0.out.drew)
  have AFB:=zz0 (AF.out w.drew KD.out)
  have AB:=zz0 (zlO w)
  clear hx hi hp AF
  dsimp only [ZB] at z3 z4 z5 z6 z7 AFA
  unfold itV at *
  go_enter Tryz.func109,Tryz.ntmps109
  go_wp2_with fail
  go_region_law (go_simp;go_at_call 164;first
    | ((with_reducible refine AFA.out.mono ?_);rintro e w1 ⟨rfl,k1⟩;obtain ⟨b0,b1,b2,b3,f0,f1,f2,f3,r4,k4⟩:=zc8 (atNon (w:=(w.alloc ZB).drew) k1 AB.out) n p f u;have E4:=zz0 (And.intro r4 (setNon4 (K0.out.drew.trans1 k1) k4));clear r4 k4 k1)
    | ((with_reducible refine AFB.out.mono ?_);rintro e w1 ⟨rfl,k1⟩;have E4:=zz0 (And.intro (zab w1 (ItB n p f u)) ((KD.out.trans1 k1).alloc (ItB n p f u)));clear k1))
  all_goals go_wp2_with (go_at_call 165;refine (HP.out _ E4.out.2).mono ?_;rintro e w2 ⟨v,rfl,q⟩)
  all_goals
    go_ret2
    exact ⟨v,rfl,q⟩
theorem zlb (x b lb q N B M t n p f u c:Nat) (a:Addr) (Q:Value→World→Prop) (w:World) (hx:w.heap[x]? = some (RsB b lb q N B M (.slice (some a) 1 c) t false)) (hi:ItAt w a n p f u) (hlt:¬ t < u)
    (hp:∀ W,Keep Non w W→Calls Tryz.prog 166 #[.pointer (some ⟨x,0,none⟩)] W fun e w'=>e = .returned .nilIface∧Q .nilIface w') :
    Calls Tryz.prog 109 #[.pointer (some ⟨x,0,none⟩)] w fun e w'=>e = .returned (.tuple #[.bool true,.nilIface])∧Q .nilIface w':=by
  have XB:Hid (∀ W,Keep Non w W→W.cell? ⟨x,3,none⟩=some (.int .i64 N)∧W.cell? ⟨x,4,none⟩=some (.int .i64 B)∧W.cell? ⟨x,5,none⟩=some (.int .i64 M)∧W.cell? ⟨x,6,none⟩=some (.slice (some a) 1 c)∧W.cell? ⟨x,7,none⟩=some (.int .i64 t)):=zz0 (fun W k=>by have h:=atNon k hx;exact ⟨rs_3 h,rs_4 h,rs_5 h,rs_6 h,rs_7 h⟩)
  have AF:=zz0 (fun W (k:Keep Non w W)=>by have h:=zfc N B M n p f u t c a W (hi.keep k (fun e=>e));rw [if_neg hlt,decide_eq_false hlt] at h;exact h)
  have HP:=zz0 hp
  have c8:=rs_8 hx
  obtain ⟨y3,y4,y5,y6,y7⟩:=XB.out w (Keep.refl _ _)
  obtain ⟨z3,z4,z5,z6,z7⟩:=XB.out (w.alloc ZB) ((Keep.refl _ _).alloc _)
  have K0:Hid (Keep Non w (w.alloc ZB)):=zz0 ((Keep.refl _ _).alloc _)
  have KD:Hid (Keep Non w w.drew):=zz0 (Keep.refl Non w).drew
  have AFA:=zz0 (AF.out (w.alloc ZB).drew K0.out.drew)
  have AFB:=zz0 (AF.out w.drew KD.out)
  have AB:=zz0 (zlO w)
  clear hx hi hp AF
  dsimp only [ZB] at z3 z4 z5 z6 z7 AFA
  unfold itV at *
  go_enter Tryz.func109,Tryz.ntmps109
  go_wp2_with fail
  go_region_law (go_simp;go_at_call 164;first
    | ((with_reducible refine AFA.out.mono ?_);rintro e w1 ⟨rfl,k1⟩;obtain ⟨b0,b1,b2,b3,f0,f1,f2,f3,r4,k4⟩:=zc8 (atNon (w:=(w.alloc ZB).drew) k1 AB.out) 0 0 0 0;have E4:=zz0 (And.intro r4 (setNon4 (K0.out.drew.trans1 k1) k4));clear r4 k4 k1)
    | ((with_reducible refine AFB.out.mono ?_);rintro e w1 ⟨rfl,k1⟩;have E4:=zz0 (And.intro (zlO w1) ((KD.out.trans1 k1).alloc ZB));clear k1))
  all_goals go_wp2_with (go_at_call 166;refine (HP.out _ E4.out.2).mono ?_;rintro e w2 ⟨rfl,q⟩)
  all_goals
    go_ret2
    exact ⟨rfl,q⟩
end Go.Proofs.YtnboipdpccnedaaGreatDoor
namespace Go.Proofs.YtnboipdpccnedaaGreatDoor
open Go.RowKit Go.Maps
section
attribute [local go_sem ↓] hV84 hV106 hV87 hW84 hW106 hW87 hB106 hB87
theorem ziX (args:Array Value) (w:World):(callFunc 223 args).run Tryz.prog w = .ok (.enter 223 args) w:=by
  kernel_rfl
theorem zkU (m:Mf) (pa:Option Addr) (pn pc g t:Nat) (w:World) (h:w.heap[g]? = some (NB t)) (ht:t≤m.hi) :
    Calls Tryz.prog 223 #[mfV m (.slice pa pn pc),.pointer (some ⟨g,0,none⟩)] w fun e w'=>e = .returned (.bool true)∧Keep Non w w':=by
  have kA:Keep Non w (w.alloc (MfB m (.slice pa pn pc))):=(Keep.refl _ _).alloc _
  have c0:=nb_0 (atNon kA h)
  have c2:=mf_2 (zab w (MfB m (.slice pa pn pc)))
  have ht':(t:Int)≤(m.hi:Int):=by omega
  have KA:=zz0 kA
  clear h kA
  dsimp only [MfB] at c0 c2
  unfold mfV
  go_enter Tryz.func223,Tryz.ntmps223
  go_wp2_with fail
  go_ret
  exact ⟨by simp,KA.out⟩
theorem zmy (T:Nat→Prop) (v:Value) (m:Mf) (g t:Nat) (w:World) (h:w.heap[g]? = some (NB t)) (hm:MsAt T w v [m]) (ht:t≤m.hi) :
    Calls Tryz.prog 222 #[v,.func (.func 223) #[] #[.pointer (some ⟨g,0,none⟩)]] w fun e w'=>e = .returned (.int .i64 0)∧Keep Non w w':=by
  obtain ⟨a,c,rfl,hc,ha,hx⟩:=hm
  obtain ⟨h32,g1,off,pa,pc,rfl,hp,hT,hcell⟩:=hx 0 m rfl
  have hld:=load83 w g1 off m (.slice pa m.parts.length pc) h32 (fun i u hu=>by have:=hcell i u hu;simpa using this)
  have MK:=zz0 (zkU m pa m.parts.length pc g t w h ht)
  have en:=ziX
  clear h hx hcell hp hT ha
  simp only [List.length_singleton]
  go_enter Tryz.func222,Tryz.ntmps222
  go_wp2_with fail
  refine wp_loop_rounds 1 ?_
  rw [rounds_succ]
  go_wp2_with (go_at_call 223;refine MK.out.mono ?_;rintro e w1 ⟨rfl,k1⟩)
  go_ret
  exact ⟨rfl,k1⟩
theorem zkV (T:Nat→Prop) (v:Value) (m:Mf) (w:World) (hm:MsAt T w v [m]) (hh:m.hi=1) (htr:m.trim=0) :
    Calls Tryz.prog 163 #[v,.int .i64 1] w fun e w'=>e = .returned (.int .i64 0)∧Keep Non w w':=by
  have kA:Keep Non w (w.alloc (NB 1)):=(Keep.refl _ _).alloc _
  have IX:=zz0 (zmy T v m w.heap.size 1 (w.alloc (NB 1)) (zab w (NB 1)) (hm.keepNon kA) (by omega))
  have HM:=zz0 hm
  obtain ⟨a,c,rfl,hc,ha,hx⟩:=hm
  obtain ⟨h32,g1,off,pa,pc,rfl,hp,hT,hcell⟩:=hx 0 m rfl
  have CB:Hid (∀ W,Keep Non w W→W.cell? ⟨g1,off+3,none⟩=some (.int .i64 0)):=zz0 (fun W k=>by
    have:=hcell 3 (.int .i64 m.trim) rfl
    rw [htr] at this
    exact zaZ k (fun e=>e) (by simpa using this))
  have NBK:=zz0 (zab w (NB 1))
  have KA:=zz0 kA
  clear hx hcell hp hT ha kA
  simp only [List.length_singleton] at IX ⊢
  dsimp only [NB] at IX
  go_enter Tryz.func163,Tryz.ntmps163
  go_wp2_with (go_at_call 222;((with_reducible refine IX.out.mono ?_);rintro e w1 ⟨rfl,k1⟩);have n1:=nb_0 (atNon (w:=w.alloc (NB 1)) k1 NBK.out);have c1:=CB.out w1 (KA.out.trans1 k1);have K1:=zz0 (KA.out.trans1 k1);clear k1)
  go_region_law (fail)
  all_goals go_wp2_with fail
  all_goals
    go_ret
    exact ⟨by first | rfl | simp,K1.out.drew⟩
end
def PlZ:Obj:=.cells #[.int .i64 0,.int .i64 0,.int .i64 0,.slice none 0 0] 189 (0,0)
def Pl1:Obj:=.cells #[.int .i64 1,.int .i64 0,.int .i64 0,.slice none 0 0] 189 (0,0)
theorem infoItem:(Tryz.prog.info? 257).map (fun i=>(i.zero,i.size,i.bytes))=some (some (.agg #[.int .i64 0,.int .i64 0,.int .i64 0,.int .i64 0]),4,32):=by kernel_rfl
theorem zmk {w:World} {b:Nat} {T:TypeId} {x0 x1 x2 x3:Value} (h:w.heap[b]? = some (.cells #[x0,x1,x2,x3] T (0,0))) (y0 y1 y2 y3:Value) :
    w.cell? ⟨b,0,none⟩=some x0∧w.cell? ⟨b,1,none⟩=some x1∧w.cell? ⟨b,2,none⟩=some x2∧w.cell? ⟨b,3,none⟩=some x3 ∧
    w.frozen? ⟨b,0,none⟩=false∧w.frozen? ⟨b,1,none⟩=false∧w.frozen? ⟨b,2,none⟩=false∧w.frozen? ⟨b,3,none⟩=false ∧
    ((((w.setCell ⟨b,0,none⟩ y0).setCell ⟨b,1,none⟩ y1).setCell ⟨b,2,none⟩ y2).setCell ⟨b,3,none⟩ y3).heap[b]? = some (.cells #[y0,y1,y2,y3] T (0,0)) ∧
    Keep (One b) w ((((w.setCell ⟨b,0,none⟩ y0).setCell ⟨b,1,none⟩ y1).setCell ⟨b,2,none⟩ y2).setCell ⟨b,3,none⟩ y3):=by
  refine ⟨by simp [World.cell?,h],by simp [World.cell?,h],by simp [World.cell?,h],by simp [World.cell?,h],by simp [World.frozen?,h],by simp [World.frozen?,h],by simp [World.frozen?,h],by simp [World.frozen?,h],zaf (zaf (zaf (zaf h 0 y0) 1 y1) 2 y2) 3 y3,((((Keep.refl _ _).setOne _ _).setOne _ _).setOne _ _).setOne _ _⟩
theorem zaQ {w:World} {b:Nat} {T:TypeId} {x0 x1 x2 x3:Value} (h:w.heap[b]? = some (.cells #[x0,x1,x2,x3] T (0,0))):w.cell? ⟨b,0,none⟩=some x0∧w.cell? ⟨b,1,none⟩=some x1∧w.cell? ⟨b,2,none⟩=some x2∧w.cell? ⟨b,3,none⟩=some x3∧∀ (j:Nat) u,[x0,x1,x2,x3][j]? = some u→w.cell? ((⟨b,0,none⟩:Addr).add j)=some u:=by
  refine ⟨by simp [World.cell?,h],by simp [World.cell?,h],by simp [World.cell?,h],by simp [World.cell?,h],fun j u hu=>?_⟩
  rw [zau,Nat.zero_add]
  simp only [World.cell?,h]
  simpa using hu
theorem zki (WB:World) (o1 o2 o3:Obj) (zs:Array Value) (b n p x y:Nat) (v0 v1 v2 v3 u:Value) (T TI:TypeId) (PB:WB.heap[b]? = some (.cells #[v0,v1,v2,v3] T (0,0))) (V:World)
    (hV:V=(((((WB.alloc o1).alloc o2).alloc o3).alloc (.cells (#[.int .i64 n,.int .i64 p,.int .i64 x,.int .i64 y] ++ zs) TI)).setCell ⟨b,3,none⟩ u).drew) :
    V.heap[b]? = some (.cells #[v0,v1,v2,u] T (0,0))∧ItAt V ⟨WB.heap.size+1+1+1,0,none⟩ n p x y∧V.heap.size=WB.heap.size+4∧(∀ w,Keep Non w WB→w.heap.size≤b→Keep Non w V)∧∀ b' o,b'≠b→WB.heap[b']? = some o→V.heap[b']? = some o:=by
  have k4:Keep Non WB ((((WB.alloc o1).alloc o2).alloc o3).alloc (.cells (#[.int .i64 n,.int .i64 p,.int .i64 x,.int .i64 y] ++ zs) TI)):=((((Keep.refl _ _).alloc _).alloc _).alloc _).alloc _
  have hb:b < WB.heap.size:=by
    rcases Nat.lt_or_ge b WB.heap.size with h | h
    · exact h
    · rw [Array.getElem?_eq_none h] at PB;cases PB
  have s3:(((WB.alloc o1).alloc o2).alloc o3).heap.size=WB.heap.size+1+1+1:=by show (((WB.heap.push o1).push o2).push o3).size=_;simp
  have nw:=zab (((WB.alloc o1).alloc o2).alloc o3) (.cells (#[.int .i64 n,.int .i64 p,.int .i64 x,.int .i64 y] ++ zs) TI)
  rw [s3] at nw
  have nw2:=zc3 nw (p:=⟨b,3,none⟩) (by show b≠_;omega) u
  have hs:V.heap.size=WB.heap.size+4:=by rw [hV];show ((((((WB.alloc o1).alloc o2).alloc o3).alloc _).setCell _ _)).heap.size=_;rw [show ∀ (W:World) p u,(W.setCell p u).heap.size=W.heap.size from fun W p u=>by simp [World.setCell]];show ((((WB.heap.push o1).push o2).push o3).push _).size=_;simp
  refine ⟨?_,⟨WB.heap.size+1+1+1,0,rfl,?_,?_,?_,?_⟩,hs,?_,?_⟩
  · rw [hV];exact zaf (nonAt k4 PB) 3 u
  · rw [hV];show World.cell? ((((((WB.alloc o1).alloc o2).alloc o3).alloc _).setCell _ _)) _=_;simp only [World.cell?,nw2];rw [Array.getElem?_append_left (by simp)];rfl
  · rw [hV];show World.cell? ((((((WB.alloc o1).alloc o2).alloc o3).alloc _).setCell _ _)) _=_;simp only [World.cell?,nw2];rw [Array.getElem?_append_left (by simp)];rfl
  · rw [hV];show World.cell? ((((((WB.alloc o1).alloc o2).alloc o3).alloc _).setCell _ _)) _=_;simp only [World.cell?,nw2];rw [Array.getElem?_append_left (by simp)];rfl
  · rw [hV];show World.cell? ((((((WB.alloc o1).alloc o2).alloc o3).alloc _).setCell _ _)) _=_;simp only [World.cell?,nw2];rw [Array.getElem?_append_left (by simp)];rfl
  · intro w k hw;rw [hV];exact ((k.trans1 k4).setNew hw 3 u).drew
  · intro b' o ne h;rw [hV];exact zc3 (nonAt k4 h) (by show b≠b';exact fun e=>ne e.symm) u
section
attribute [local go_sem ↓] hV84 hV106 hV87 hW84 hW106 hW87 hB106 hB87
theorem zmL (T:Nat→Prop) (v:Value) (m:Mf) (pt:Pt) (w:World) (hm:MsAt T w v [m]) (ok:okMf m) (hnum:m.num=0) (hl:m.lo=0) (hh:m.hi=1) (htr:m.trim=0) (hps:m.parts = [pt]) (hf:pt.first=0) (hma:pt.many=1) :
    Calls Tryz.prog 107 #[v,.int .i64 1] w fun e w'=>∃ a c,e = .returned (.tuple #[.agg #[.int .i64 1,.int .i64 0,.int .i64 0,.slice (some a) 1 c],.nilIface])∧Keep Non w w'∧w.heap.size≤a.block∧a.block < w'.heap.size∧ItAt w' a 0 0 0 1:=by
  have p5:pt.sum.length=32:=by
    have:=(ok.parts)
    rw [hps] at this
    exact this.2.1.2.2.2.2
  have K0:Hid (Keep Non w (w.alloc PlZ)):=zz0 ((Keep.refl _ _).alloc _)
  have CK:=zz0 (zgZ T v m (w.alloc PlZ) (hm.keepNon K0.out) ok hnum)
  have BE:Hid (∀ W,Keep Non w W→Calls Tryz.prog 162 #[v] W fun e w'=>e = .returned (.int .i64 0)∧w'=W):=zz0 (fun W k=>by
    have:=ziA T v [m] W (hm.keepNon k)
    have e:beginM [m]=0:=hl
    rw [e] at this
    exact this)
  have EN:Hid (∀ W,Keep Non w W→Calls Tryz.prog 66 #[v] W fun e w'=>e = .returned (.int .i64 1)∧Keep Non W w'):=zz0 (fun W k=>by
    have:=zcG T v [m] W (hm.keepNon k) (by simp)
    have e:(lastM [m]).hi=1:=hh
    rw [e] at this
    exact this)
  have MK:=zz0 (fun W (k:Keep Non w W)=>zkV T v m W (hm.keepNon k) hh htr)
  obtain ⟨a,c,rfl,hc,ha,hx⟩:=hm
  obtain ⟨h32,g1,off,pa,pc,rfl,hp,hT,hcell⟩:=hx 0 m rfl
  have LDM:Hid (∀ W,Keep Non w W→(holdV 87 ⟨g1,off,none⟩).run Tryz.prog W = .ok (mfV m (.slice pa 1 pc)) W):=zz0 (fun W k=>by
    have:=load83 W g1 off m (.slice pa m.parts.length pc) h32 (fun i u hu=>by have:=hcell i u hu;exact zaZ k (fun e=>e) (by simpa using this))
    rw [hps] at this
    exact this)
  obtain ⟨pa',pc',e1,_,_,hy⟩:=hp
  rw [hps] at hy e1
  injection e1 with e1 e3 e4
  subst e1
  subst e4
  obtain ⟨g2,off2,rfl,hc2⟩:=hy 0 pt rfl
  have LDP:Hid (∀ W,Keep Non w W→(holdV 106 ⟨g2,off2,none⟩).run Tryz.prog W = .ok (ptV pt) W):=zz0 (fun W k=>load101 W g2 off2 pt p5 (fun i u hu=>zaZ k (fun e=>e) (by have:=hc2 i u hu;simpa using this)))
  have PM:Hid (pt.first=0∧pt.many=1∧m.num=0):=zz0 ⟨hf,hma,hnum⟩
  obtain ⟨i0,hi0,hz0,hz1,hz2⟩:=info_parts infoItem
  have I0:=zz0 (And.intro hi0 (And.intro hz0 (And.intro hz1 hz2)))
  have R0:Hid ((w.alloc PlZ).heap[w.heap.size]? = some PlZ):=zz0 (zab w PlZ)
  have M32:=zz0 h32
  clear hx hcell hT ha hy hc2 e3 hps hf hma hnum hh htr hl ok hi0 hz0 hz1 hz2 h32
  simp only [List.length_singleton] at CK BE EN MK ⊢
  dsimp only [PlZ] at CK
  go_enter Tryz.func107,Tryz.ntmps107
  go_wp2_with (first
    | (go_at_call 45;((with_reducible refine CK.out.mono ?_);rintro e w1 ⟨rfl,k1⟩);have K1:=zz0 (K0.out.trans1 k1);have R1:=zz0 (nonAt (w:=w.alloc PlZ) k1 R0.out);have BE1:=zz0 (BE.out w1 K1.out);have EN1:=zz0 (EN.out w1 K1.out);clear k1)
    | (go_at_call 162;first | ((with_reducible refine BE1.out.mono ?_);rintro e w2 ⟨rfl,rfl⟩) | ((with_reducible refine BE3.out.mono ?_);rintro e w4 ⟨rfl,rfl⟩))
    | (go_at_call 66;((with_reducible refine EN1.out.mono ?_);rintro e w3 ⟨rfl,k3⟩);have K3:=zz0 (K1.out.trans1 k3);have R3:=zz0 (nonAt k3 R1.out);have BE3:=zz0 (BE.out w3 K3.out);have MK3:=zz0 (MK.out w3 K3.out);clear k3)
    | (go_at_call 163;((with_reducible refine MK3.out.mono ?_);rintro e w5 ⟨rfl,k5⟩);have K5:=zz0 (K3.out.trans1 k5);have R5:=zz0 (nonAt k5 R3.out);clear k5))
  have KA:Hid (Keep Non w (w5.alloc Pl1)):=zz0 (K5.out.alloc _)
  have PA:Hid ((w5.alloc Pl1).heap[w5.heap.size]? = some Pl1):=zz0 (zab w5 Pl1)
  have RA:Hid ((w5.alloc Pl1).heap[w.heap.size]? = some PlZ):=zz0 (nonAt ((Keep.refl Non w5).alloc Pl1) R5.out)
  obtain ⟨WA,hWA⟩:∃ WA,WA=w5.alloc Pl1:=⟨_,rfl⟩
  rw [← hWA] at KA PA RA
  unfold Pl1 at hWA
  rw [← hWA]
  clear hWA
  have lA:=LDM.out WA KA.out
  have sA:=zaF WA m (some ⟨g2,off2,none⟩) 1 pc M32.out
  have mA:=mf_36 (zab WA (MfB m (.slice (some ⟨g2,off2,none⟩) 1 pc))) M32.out
  dsimp only [zMf,MfB] at sA
  dsimp only [MfB] at mA
  refine wp_loop_rounds 2 ?_
  rw [rounds_succ]
  go_wp2_with fail
  clear lA sA mA
  have KB:Hid (Keep Non w (WA.alloc (MfB m (.slice (some ⟨g2,off2,none⟩) 1 pc)))):=zz0 (KA.out.alloc _)
  have PB:Hid ((WA.alloc (MfB m (.slice (some ⟨g2,off2,none⟩) 1 pc))).heap[w5.heap.size]? = some Pl1):=zz0 (nonAt ((Keep.refl Non WA).alloc _) PA.out)
  have RB:Hid ((WA.alloc (MfB m (.slice (some ⟨g2,off2,none⟩) 1 pc))).heap[w.heap.size]? = some PlZ):=zz0 (nonAt ((Keep.refl Non WA).alloc _) RA.out)
  have MB:Hid ((WA.alloc (MfB m (.slice (some ⟨g2,off2,none⟩) 1 pc))).heap[WA.heap.size]? = some (MfB m (.slice (some ⟨g2,off2,none⟩) 1 pc))):=zz0 (zab WA _)
  obtain ⟨WB,hWB⟩:∃ WB,WB=WA.alloc (MfB m (.slice (some ⟨g2,off2,none⟩) 1 pc)):=⟨_,rfl⟩
  rw [← hWB] at KB PB RB MB
  unfold MfB at hWB
  try rw [← hWB]
  clear hWB
  have lB:=LDP.out WB KB.out
  have sB:=zas WB pt p5
  have kC:Keep Non WB (WB.alloc (PtB pt)):=(Keep.refl _ _).alloc _
  have m0:=mf_0 (nonAt kC MB.out)
  have p0:=pt_0 (zab WB (PtB pt))
  have p1:=pt_1 (zab WB (PtB pt))
  rw [PM.out.1] at p0
  rw [PM.out.2.1] at p1
  rw [PM.out.2.2] at m0
  have pb:=nonAt kC PB.out
  have b2:(WB.alloc (PtB pt)).cell? ⟨w5.heap.size,2,none⟩=some (.int .i64 0):=by simp only [World.cell?,pb,Pl1];rfl
  rw [show ((0:Nat):Int)=0 from rfl] at p0 m0
  rw [show ((1:Nat):Int)=1 from rfl] at p1
  have KC:Hid (Keep Non w (WB.alloc (PtB pt))):=zz0 (KB.out.trans1 kC)
  have PC:Hid ((WB.alloc (PtB pt)).heap[w5.heap.size]? = some Pl1):=zz0 pb
  have RC:Hid ((WB.alloc (PtB pt)).heap[w.heap.size]? = some PlZ):=zz0 (nonAt kC RB.out)
  clear kC pb
  dsimp only [zPt,PtB] at sB
  dsimp only [PtB] at p0 p1 m0 b2
  refine wp_loop_rounds 2 ?_
  rw [rounds_succ]
  have kD:Keep Non (WB.alloc (PtB pt)) ((WB.alloc (PtB pt)).alloc (.cells #[.int .i64 0,.int .i64 0,.int .i64 0,.int .i64 1] 257)):=(Keep.refl _ _).alloc _
  have kE:Keep Non (WB.alloc (PtB pt)) (((WB.alloc (PtB pt)).alloc (.cells #[.int .i64 0,.int .i64 0,.int .i64 0,.int .i64 1] 257)).alloc (.cells #[.int .i64 0,.int .i64 0,.int .i64 0,.int .i64 1] 257)):=kD.alloc _
  have b3:=(zaQ (nonAt kD PC.out)).2.2.2.1
  have ND:Hid ((((WB.alloc (PtB pt)).alloc (.cells #[.int .i64 0,.int .i64 0,.int .i64 0,.int .i64 1] 257)).alloc (.cells #[.int .i64 0,.int .i64 0,.int .i64 0,.int .i64 1] 257)).heap[WB.heap.size+2]? = some (.cells #[.int .i64 0,.int .i64 0,.int .i64 0,.int .i64 1] 257 (0,0))):=zz0 (by
    have:=zab ((WB.alloc (PtB pt)).alloc (.cells #[.int .i64 0,.int .i64 0,.int .i64 0,.int .i64 1] 257)) (.cells #[.int .i64 0,.int .i64 0,.int .i64 0,.int .i64 1] 257 (0,0))
    simpa using this)
  have KE:=zz0 kE
  clear kD
  dsimp only [PtB] at b3
  have kF:Keep Non (WB.alloc (PtB pt)) ((((WB.alloc (PtB pt)).alloc (.cells #[.int .i64 0,.int .i64 0,.int .i64 0,.int .i64 1] 257)).alloc (.cells #[.int .i64 0,.int .i64 0,.int .i64 0,.int .i64 1] 257)).alloc (.cells (#[.int .i64 0,.int .i64 0,.int .i64 0,.int .i64 1] ++ Builtin.zeroCells #[.int .i64 0,.int .i64 0,.int .i64 0,.int .i64 0] ((Question.appendCap 1 0 257).cut (WB.tape WB.drawn (Question.appendCap 1 0 257)) - 1)) 257)).drew:=(fun k=>⟨k.os,k.tape,k.output,k.size,k.block⟩:∀ {Z:Obj} (k:Keep Non (WB.alloc (PtB pt)) (((((WB.alloc (PtB pt)).alloc (.cells #[.int .i64 0,.int .i64 0,.int .i64 0,.int .i64 1] 257)).alloc (.cells #[.int .i64 0,.int .i64 0,.int .i64 0,.int .i64 1] 257)).alloc Z))),Keep Non (WB.alloc (PtB pt)) (((((WB.alloc (PtB pt)).alloc (.cells #[.int .i64 0,.int .i64 0,.int .i64 0,.int .i64 1] 257)).alloc (.cells #[.int .i64 0,.int .i64 0,.int .i64 0,.int .i64 1] 257)).alloc Z).drew)) (kE.alloc _)
  have f4:=(zaQ (nonAt kF PC.out)).2.2.2.1
  have g4:(((((WB.alloc (PtB pt)).alloc (.cells #[.int .i64 0,.int .i64 0,.int .i64 0,.int .i64 1] 257)).alloc (.cells #[.int .i64 0,.int .i64 0,.int .i64 0,.int .i64 1] 257)).alloc (.cells (#[.int .i64 0,.int .i64 0,.int .i64 0,.int .i64 1] ++ Builtin.zeroCells #[.int .i64 0,.int .i64 0,.int .i64 0,.int .i64 0] ((Question.appendCap 1 0 257).cut (WB.tape WB.drawn (Question.appendCap 1 0 257)) - 1)) 257)).drew).frozen? ⟨w5.heap.size,3,none⟩=false:=by simp [World.frozen?,nonAt kF PC.out,Pl1]
  dsimp only [PtB] at f4 g4
  go_wp2_with fail
  obtain ⟨WV,hWV⟩:∃ WV,WV=(((((WB.alloc (.cells (ptC pt).toArray 106)).alloc (.cells #[.int .i64 0,.int .i64 0,.int .i64 0,.int .i64 1] 257)).alloc (.cells #[.int .i64 0,.int .i64 0,.int .i64 0,.int .i64 1] 257)).alloc (.cells (#[.int .i64 0,.int .i64 0,.int .i64 0,.int .i64 1] ++ Builtin.zeroCells #[.int .i64 0,.int .i64 0,.int .i64 0,.int .i64 0] (((Question.appendCap 1 0 257).cut (WB.tape WB.drawn (Question.appendCap 1 0 257))) - 1)) 257)).setCell ⟨w5.heap.size,3,none⟩ (.slice (some ⟨WB.heap.size+1+1+1,0,none⟩) 1 ((Question.appendCap 1 0 257).cut (WB.tape WB.drawn (Question.appendCap 1 0 257))))).drew:=⟨_,rfl⟩
  rw [← hWV]
  obtain ⟨PV,IV,SV,KV,OV⟩:=zki WB _ _ _ _ w5.heap.size 0 0 0 1 _ _ _ _ _ _ _ PB.out WV hWV
  generalize ((Question.appendCap 1 0 257).cut (WB.tape WB.drawn (Question.appendCap 1 0 257)))=cp at PV hWV ⊢
  clear hWV f4 g4 b3 kE kF
  have KW:Hid (Keep Non w WV):=zz0 (KV w KB.out K5.out.size)
  have RW:WV.heap[w.heap.size]? = some PlZ:=OV _ _ (by have:=R5.out;intro e;rw [e,Array.getElem?_eq_none (Nat.le_refl _)] at this;cases this) RB.out
  have IW:=zz0 IV
  have SW:Hid (w.heap.size≤WB.heap.size+1+1+1∧WB.heap.size+1+1+1 < WV.heap.size):=zz0 ⟨by have:=KB.out.size;omega,by omega⟩
  clear KV OV IV SV
  have c4:=zaQ PV
  have s4:=zmk RW (.int .i64 1) (.int .i64 0) (.int .i64 0) (.slice (some ⟨WB.heap.size+1+1+1,0,none⟩) 1 cp)
  rw [rounds_succ]
  go_wp2_with fail
  rw [rounds_succ]
  go_wp2_with fail
  obtain ⟨_,_,_,_,_,_,_,_,t4,kt⟩:=s4
  obtain ⟨r0,r1,r2,r3,_⟩:=zaQ t4
  refine bodyPost_ret (v:=.tuple #[.agg #[.int .i64 1,.int .i64 0,.int .i64 0,.slice (some ⟨WB.heap.size+1+1+1,0,none⟩) 1 cp],.nilIface]) (by simp [results,Tryz.results107,go_sem,r0,r1,r2,r3]) rfl ?_
  exact ⟨_,_,rfl,setNon4 KW.out kt,SW.out.1,Nat.lt_of_lt_of_le SW.out.2 kt.size,IW.out.keep kt (fun e=>by have e':WB.heap.size+1+1+1=w.heap.size:=e;have:=KB.out.size;omega)⟩
end
end Go.Proofs.YtnboipdpccnedaaGreatDoor
namespace Go.Proofs.YtnboipdpccnedaaGreatDoor
open Go.RowKit
def rname:List UInt8:=[99,45,114,101,115,116,111,114,101]
theorem zik (x b lb q N B M t u:Nat) (ia:Option Addr) (il ic:Nat) (Q:World→Prop) (w:World) (hx:w.heap[x]? = some (RsB b lb q N B M (.slice ia il ic) t false)) (hQ:∀ w',Q w'→w'.heap[x]? = some (RsB b lb q N B M (.slice ia il ic) t false))
    (hs:∀ W,Keep Non w W→Calls Tryz.prog 69 #[.pointer (some ⟨q,0,none⟩),.string ⟨rname.toArray⟩,.agg #[.int .i64 u,.int .i64 u,.int .i64 N,.int .i64 M,.slice none 0 0]] W fun e w'=>e = .returned .nilIface∧Q w') :
    Calls Tryz.prog 108 #[.pointer (some ⟨x,0,none⟩),.int .i64 u] w fun e w'=>e = .returned .nilIface∧∃ w1,Q w1∧w'=w1.setCell ⟨x,7,none⟩ (.int .i64 u):=by
  have c2:=rs_2 hx
  have c3:=rs_3 hx
  have c5:=rs_5 hx
  have HS:=zz0 (hs w.drew (Keep.refl Non w).drew)
  have HQ:=zz0 hQ
  clear hx hQ hs
  unfold rname at HS
  go_enter Tryz.func108,Tryz.ntmps108
  go_wp2_with fail
  go_region_law (go_simp;go_at_call 69;refine HS.out.mono ?_;rintro e w1 ⟨rfl,q1⟩;have h1:=HQ.out w1 q1;have c7:=rs_7 h1;have f7:=rs_f h1 7)
  all_goals go_wp2_with fail
  all_goals
    go_ret
    exact ⟨rfl,w1,q1,rfl⟩
theorem zoQ (x b lb q N B M t:Nat) (ia:Option Addr) (il ic:Nat) (Q1 Q2 Q3:World→Prop) (w:World) (hx:w.heap[x]? = some (RsB b lb q N B M (.slice ia il ic) t false))
    (hQ1:∀ w',Q1 w'→w'.heap[x]? = some (RsB b lb q N B M (.slice ia il ic) t false)) (hQ2:∀ w',Q2 w'→w'.heap[x]? = some (RsB b lb q N B M (.slice ia il ic) t false))
    (h1:∀ W,Keep Non w W→Calls Tryz.prog 227 #[.pointer (some ⟨lb,0,none⟩),.int .i64 (if M < B then (B:Int) else M)] W fun e w'=>e = .returned .nilIface∧Q1 w')
    (h2:∀ w1 W,Q1 w1→Keep Non w1 W→Calls Tryz.prog 228 #[.pointer (some ⟨lb,0,none⟩),.int .i64 N] W fun e w'=>e = .returned .nilIface∧Q2 w')
    (h3:∀ w2,Q2 w2→Calls Tryz.prog 73 #[.pointer (some ⟨q,0,none⟩),.string ⟨rname.toArray⟩] (w2.setCell ⟨x,8,none⟩ (.bool true)) fun e w'=>e = .returned .nilIface∧Q3 w') :
    Calls Tryz.prog 166 #[.pointer (some ⟨x,0,none⟩)] w fun e w'=>e = .returned .nilIface∧Q3 w':=by
  have c1:=rs_1 hx
  have c4:=rs_4 hx
  have c5:=rs_5 hx
  have H1:=zz0 (h1 w.drew (Keep.refl Non w).drew)
  have H1M:Hid (Calls Tryz.prog 227 #[.pointer (some ⟨lb,0,none⟩),.int .i64 (max (M:Int) (B:Int))] w.drew fun e w'=>e = .returned .nilIface∧Q1 w'):=zz0 (by
    have e:max (M:Int) (B:Int)=(if M < B then (B:Int) else M):=by split <;> omega
    rw [e]
    exact h1 w.drew (Keep.refl Non w).drew)
  have HQ1:=zz0 hQ1
  have HQ2:=zz0 hQ2
  have H2:=zz0 h2
  have H3:=zz0 h3
  clear hx hQ1 hQ2 h1 h2 h3
  unfold rname at H3
  go_enter Tryz.func166,Tryz.ntmps166
  go_wp2_with fail
  go_region_law (go_simp;go_at_call 227;((first | with_reducible refine H1.out.mono ?_ | with_reducible refine H1M.out.mono ?_);rintro e w1 ⟨rfl,q1⟩);have y:=HQ1.out w1 q1;have d1:=rs_1 y;have d3:=rs_3 y;have H2W:=zz0 (H2.out w1 w1.drew q1 (Keep.refl Non w1).drew);clear y)
  all_goals go_wp2_with fail
  all_goals go_region_law (go_simp;go_at_call 228;((with_reducible refine H2W.out.mono ?_);rintro e w2 ⟨rfl,q2⟩);have y:=HQ2.out w2 q2;have d8:=rs_8 y;have f8:=rs_f y 8;have d2:=rs_2 (zla y true);have H3W:=zz0 (H3.out w2 q2);clear y)
  all_goals go_wp2_with (go_at_call 73;((with_reducible refine H3W.out.mono ?_);rintro e w3 ⟨rfl,q3⟩))
  all_goals
    go_ret
    exact ⟨rfl,q3⟩
end Go.Proofs.YtnboipdpccnedaaGreatDoor
