/- Chains: the last manifest, End, Mark, Be -/
import Derived.Shelf.Strconv.Itoa1
import Derived.Shelf.Strconv.Itoa2
import Derived.Shelf.Strconv.Itoa3
import Derived.Ground.SlgnProg
import Derived.Shelf.SlicesE.Clone
import Derived.Test.YtpojgmeoaflmoaaGreatDoorQ13
set_option linter.unusedVariables false
set_option maxRecDepth 100000
set_option maxHeartbeats 16000000
namespace Go.Proofs.YtpojgmeoaflmoaaGreatDoor
open Go.RowKit
def zai (T:Nat→Prop)(w:World)(v:Value)(ms:List Mf):Prop:=∃a c,v = .slice a ms.length c∧ms.length≤c∧(∀ad,a=some ad→∃g off,ad=⟨g,off,none⟩∧T g) ∧
 ∀(j:Nat) m,ms[j]? = some m→m.prev.length=32∧∃g off pa pc,a=some ⟨g,off,none⟩∧zC w (.slice pa m.parts.length pc) m.parts∧(∀g,(Value.slice pa m.parts.length pc).ownBlock=some g→T g)∧∀(i:Nat) u,(zq6 m (.slice pa m.parts.length pc))[i]? = some u→w.cell? ⟨g,off+j*37+i,none⟩=some u
theorem zai.keep {S T:Nat→Prop}{w w':World}{v:Value}{ms:List Mf}(h:zai T w v ms)(k:za S w w')(hn:∀g,T g→¬S g):zai T w' v ms:=by
 obtain⟨a,c,rfl,hc,ha,hx⟩:=h;refine⟨a,c,rfl,hc,ha,fun j m hj=>?_⟩
 obtain⟨h32,g,off,pa,pc,rfl,h1,h2,h3⟩:=hx j m hj;obtain⟨g',off',e,ht⟩:=ha _ rfl;injection e with e
 subst e;exact⟨h32,g,off,pa,pc,rfl,h1.keep k (fun g e=>hn g (h2 g e)),h2,fun i u hu=>(World.cell?_of_block (k.block g (World.block_lt_of_cell? _ _ (h3 i u hu)) (hn g ht))).trans (h3 i u hu)⟩
theorem zai.keepNon {T:Nat→Prop}{w w':World}{v:Value}{ms:List Mf}(h:zai T w v ms)(k:za zq2 w w'):zai T w' v ms:=h.keep k (fun _ _ e=>e)
def mf0:Mf:=⟨0,0,0,0,List.replicate 32 0,[]⟩
theorem zqX:zra=(zq6 mf0 (.slice none 0 0)).toArray:=by kernel_rfl
theorem zqK (m:Mf)(pv:Value)(w:World):(Instr.field 54 (zq7 m pv) 2).run Tryz.prog w = .ok (.int .i64 m.hi) w:=by kernel_rfl
theorem zqL (m:Mf)(pv:Value)(w:World):(Instr.field 54 (zq7 m pv) 3).run Tryz.prog w = .ok (.int .i64 m.trim) w:=by kernel_rfl
def zT (ms:List Mf):Mf:=ms.getLast?.getD mf0
section
attribute [local go_sem ↓] zbB zU zbC zbD zV zbE zab zbK
theorem zeQ (T:Nat→Prop)(v:Value)(ms:List Mf)(w:World)(h:zai T w v ms)(hn:ms.length≤1000000) :
 Calls Tryz.prog 25 #[v] w fun e w'=>∃pa pc,e = .returned (zq7 (zT ms) (.slice pa (zT ms).parts.length pc))∧za zq2 w w'∧zC w' (.slice pa (zT ms).parts.length pc) (zT ms).parts∧(zT ms).prev.length=32:=by
 have H:=zz0 h;obtain⟨a,c,rfl,hc,ha,hx⟩:=h;have kA:za zq2 w ((w.alloc (.cells zra 54)).alloc (.cells zra 54)):=((za.refl _ _).alloc _).alloc _;have z0:((w.alloc (.cells zra 54)).alloc (.cells zra 54)).heap[w.heap.size]? = some (.cells zra 54 (0,0)):=zi (ze _ _) _;have z1:((w.alloc (.cells zra 54)).alloc (.cells zra 54)).heap[w.heap.size+1]? = some (.cells zra 54 (0,0)):=zaa _ _ _;obtain⟨wA,hwA⟩:∃wA,wA=((w.alloc (.cells zra 54)).alloc (.cells zra 54)):=⟨_,rfl⟩;have HWA:=zz0 hwA;have kA':za zq2 w wA:=by rw[hwA];exact kA
 clear kA;have kA:=kA';by_cases h0:ms = []
 ·subst h0
  simp only[List.length_nil];have hl:=zO (w:=wA) (b:=w.heap.size+1) (m:=mf0) (pv:=.slice none 0 0) (by rw[hwA,z1,zqX];rfl) (List.length_replicate ..)
  have hs:=zax wA w.heap.size mf0 none 0 0 zra (List.length_replicate ..) rfl (by rw[hwA,z0])
  have hl2:=zO (w:=wA.setRow w.heap.size (zq6 mf0 (.slice none 0 0)).toArray) (b:=w.heap.size) (m:=mf0) (pv:=.slice none 0 0) (setRow_heap _ _ _ _ _ _ (by rw[hwA,z0])) (List.length_replicate ..)
  have HL2:=zz0 hl2;rw[hwA] at hl hs;dsimp only[zra] at hl hs;clear hl2 hwA hx
  go_enter Tryz.func25,Tryz.ntmps25
  go_wp2_with fail
  have hlv:=HL2.out;unfold zZ at hlv;rw[HWA.out] at hlv;dsimp only[zra] at hlv;refine bodyPost_ret (v:=zq7 mf0 (.slice none 0 0)) (by simp[results,Tryz.results25,asAddr,hlv]) rfl ?_
  have k2:za (zq3 w.heap.size) wA (wA.setRow w.heap.size (zq6 mf0 (.slice none 0 0)).toArray):=(za.refl (zq3 w.heap.size) _).setRow (.inl (zK _)) _;have k3:za zq2 w (wA.setRow w.heap.size (zq6 mf0 (.slice none 0 0)).toArray):=kA.trans k2 (fun _ _ e=>e) (fun g hg e=>by have e':g=w.heap.size:=e;omega)
  rw[HWA.out] at k3;dsimp only[zra] at k3;exact⟨none,0,rfl,k3,⟨none,0,rfl,Nat.le_refl _,fun ad e=>(by cases e),fun j p hj=>by simp[zT,mf0] at hj⟩,List.length_replicate ..⟩
 ·have hpos:0<ms.length:=List.length_pos_iff.2 h0
  obtain⟨m,hm⟩:∃m,ms[ms.length-1]? = some m:=⟨_,List.getElem?_eq_getElem (by omega)⟩
  have hlm:zT ms=m:=by unfold zT;rw[List.getLast?_eq_getElem?,hm];rfl
  obtain⟨h32,g,off,pa,pc,rfl,h1,h2,h3⟩:=hx _ m hm;rw[hlm];have hg:∀(i:Nat) u,(zq6 m (.slice pa m.parts.length pc))[i]? = some u→wA.cell? ⟨g,off+(ms.length-1)*37+i,none⟩=some u:=fun i u hu=>(World.cell?_of_block (kA'.block g (World.block_lt_of_cell? _ _ (h3 i u hu)) (fun e=>e))).trans (h3 i u hu)
  have hl:=load83 wA g (off+(ms.length-1)*37) m (.slice pa m.parts.length pc) h32 hg;have hs:=zax wA w.heap.size m pa m.parts.length pc zra h32 rfl (by rw[hwA,z0])
  have hl2:=zO (w:=wA.setRow w.heap.size (zq6 m (.slice pa m.parts.length pc)).toArray) (b:=w.heap.size) (m:=m) (pv:=.slice pa m.parts.length pc) (setRow_heap _ _ _ _ _ _ (by rw[hwA,z0])) h32
  have HL2:=zz0 hl2;rw[hwA] at hl hs;dsimp only[zra] at hl hs;have hn0:((ms.length:Int)==0)=false:=by simp;omega
  have hge:(1:Int)≤ms.length:=by omega
  have htn:((ms.length:Int)-1).toNat=ms.length-1:=by omega
  have H1:=zz0 h1;clear hl2 hwA hx h1 h2 h3 hg hm
  go_enter Tryz.func25,Tryz.ntmps25
  go_wp2_with fail
  have hlv:=HL2.out;unfold zZ at hlv;rw[HWA.out] at hlv;dsimp only[zra] at hlv;refine bodyPost_ret (v:=zq7 m (.slice pa m.parts.length pc)) (by simp[results,Tryz.results25,asAddr,hlv]) rfl ?_
  have k2:za (zq3 w.heap.size) wA (wA.setRow w.heap.size (zq6 m (.slice pa m.parts.length pc)).toArray):=(za.refl (zq3 w.heap.size) _).setRow (.inl (zK _)) _;have k3:za zq2 w (wA.setRow w.heap.size (zq6 m (.slice pa m.parts.length pc)).toArray):=kA.trans k2 (fun _ _ e=>e) (fun g hg e=>by have e':g=w.heap.size:=e;omega)
  rw[HWA.out] at k3;dsimp only[zra] at k3;exact⟨pa,pc,rfl,k3,H1.out.keepNon k3,h32⟩
theorem zbN (T:Nat→Prop)(v:Value)(ms:List Mf)(w:World)(h:zai T w v ms)(hn:ms.length≤1000000) :
 Calls Tryz.prog 8 #[v] w fun e w'=>e = .returned (.int .i64 (zT ms).hi)∧za zq2 w w':=by
 have LA:=zz0 (zeQ T v ms w h hn);have q2:=zqK (zT ms);clear h
 go_enter Tryz.func8,Tryz.ntmps8
 go_wp2_with(go_at_call 25;refine LA.out.mono ?_;rintro e w1 ⟨pa,pc,rfl,k1,_,_⟩;have K1:=zz0 k1;clear k1)
 go_ret;exact⟨rfl,K1.out⟩
theorem zeT (T:Nat→Prop)(v:Value)(ms:List Mf)(w:World)(h:zai T w v ms)(hn:ms.length≤1000000) :
 Calls Tryz.prog 64 #[v] w fun e w'=>e = .returned (.int .i64 (zT ms).trim)∧za zq2 w w':=by
 have LA:=zz0 (zeQ T v ms w h hn);have q2:=zqL (zT ms);clear h
 go_enter Tryz.func64,Tryz.ntmps64
 go_wp2_with(go_at_call 25;refine LA.out.mono ?_;rintro e w1 ⟨pa,pc,rfl,k1,_,_⟩;have K1:=zz0 k1;clear k1)
 go_ret;exact⟨rfl,K1.out⟩
def beginM:List Mf→Nat
 |[]=>0
 |m::_=>m.lo
theorem zd5 (T:Nat→Prop)(v:Value)(ms:List Mf)(w:World)(h:zai T w v ms) :
 Calls Tryz.prog 13 #[v] w fun e w'=>e = .returned (.int .i64 (beginM ms))∧w'=w:=by
 obtain⟨a,c,rfl,hc,ha,hx⟩:=h;cases ms with
 |nil =>
  simp only[List.length_nil];clear hx ha
  go_enter Tryz.func13,Tryz.ntmps13
  go_wp2_with fail
  go_ret;exact⟨rfl,rfl⟩
 |cons m r =>
  obtain⟨h32,g,off,pa,pc,rfl,h1,h2,h3⟩:=hx 0 m rfl;have c1:=h3 1 _ (mfc_1 m _);rw[Nat.zero_mul,Nat.add_zero] at c1;have hn0:(((m::r).length:Int)==0)=false:=by simp;omega
  have hge:(0:Int)<(m::r).length:=by simp
  generalize (m::r).length=n at *;clear hx ha h1 h2 h3
  go_enter Tryz.func13,Tryz.ntmps13
  go_wp2_with fail
  go_ret;exact⟨rfl,rfl⟩
theorem zha (m:Mf)(pv:Value)(a:Option Addr)(c:Nat)(w:World)(h0:m.num=0) :
 Calls Tryz.prog 105 #[.slice a 0 c,zq7 m pv] w fun e w'=>e = .returned (.bool true)∧za zq2 w w':=by
 have q0:=mfc_0 m pv;rw[h0] at q0;unfold zq7
 go_enter Tryz.func105,Tryz.ntmps105
 go_wp2_with fail
 go_ret;exact⟨rfl,(za.refl _ _).alloc _⟩
end
theorem zqW:(.agg zq9:Value)=zbY (List.replicate 32 0):=by kernel_rfl
theorem sz81:(Tryz.prog.info? 51).map (·.size)=some 32:=by kernel_rfl
theorem zhZ (w:World):(holdW 51 ⟨w.heap.size,0,none⟩ (.agg zq9)).run Tryz.prog (w.alloc (.cells zq9 51)) = .ok () (w.alloc (.cells zq9 51)):=by
 have h:=run_storeVar_row (P:=Tryz.prog) (w.alloc (.cells zq9 51)) w.heap.size 51 51 zq9 zq9 (ze _ _) sz81 rfl (by kernel_rfl)
 rw[zdm] at h;exact h
theorem zgJ (w:World):(zZ 51 ⟨w.heap.size,0,none⟩).run Tryz.prog (w.alloc (.cells zq9 51)) = .ok (zbY (List.replicate 32 0)) (w.alloc (.cells zq9 51)) :=
 load81 _ _ 0 (List.replicate 32 0) rfl (fun j v hv=>by
  rw[Nat.zero_add,cell_of_row _ _ j _ _ _ (ze _ _)];have e:zq9=((List.replicate 32 (0:UInt8)).map bv).toArray:=by kernel_rfl
  rw[e];simpa using hv)
section
attribute [local go_sem ↓] zbB zU zbC zbD zV zbE zab zbK
theorem zeO (a:Option Addr)(c:Nat)(w:World) :
 Calls Tryz.prog 51 #[.slice a 0 c] w fun e w'=>e = .returned (.tuple #[.int .i64 0,.nilIface])∧za zq2 w w':=by
 go_enter Tryz.func51,Tryz.ntmps51
 go_wp2_with fail
 go_loopw [9] (fun i wr=>i = .int .i64 0∧za zq2 w wr) (fun i _=>0)
 case atStart=>exact⟨rfl,za.refl _ _⟩
 case round =>
  obtain⟨rfl,hk⟩:=hrel
  go_wp2_with fail
  go_ret2;exact⟨rfl,hk⟩
theorem zjZ (a:Option Addr)(c:Nat)(w:World) :
 Calls Tryz.prog 162 #[.slice a 0 c] w fun e w'=>e = .returned (.tuple #[zbY (List.replicate 32 0),.nilIface])∧za zq2 w w':=by
 have hs:=zhZ w;have hl:=zgJ w;dsimp only[zq9] at hs hl
 go_enter Tryz.func162,Tryz.ntmps162
 go_wp2_with fail
 have hlv:=zgJ w;unfold zZ at hlv;dsimp only[zq9] at hlv;refine bodyPost_ret (v:=.tuple #[zbY (List.replicate 32 0),.nilIface]) (by simp[results,Tryz.results162,asAddr,hlv]) rfl ?_
 exact⟨rfl,(za.refl _ _).alloc _⟩
end
end Go.Proofs.YtpojgmeoaflmoaaGreatDoor
namespace Go.Proofs
open Go.Shelf
def Tryz.laysM171_ren:Go.Shelf.Ren:=⟨fun|171=>151|243=>218|246=>274|283=>312|284=>313|285=>314|286=>315|129=>173|317=>343|318=>344|319=>345|320=>346|337=>365|338=>366|n=>n,fun|3=>3|9=>9|2=>2|4=>4|171=>387|0=>0|53=>184|37=>43|5=>5|173=>389|212=>412|51=>252|20=>20|213=>413|46=>37|232=>50|233=>449|n=>n,fun|17=>1|18=>8|19=>9|n=>n⟩
theorem Tryz.laysM171:Go.Proofs.LaysM.n171 Tryz.prog Tryz.laysM171_ren:={
 mixed:=by kernel_rfl
 f129:=Tryz.func173.trans (congrArg some (by kernel_rfl))
 f171:=Tryz.func151.trans (congrArg some (by kernel_rfl))
 f243:=Tryz.func218.trans (congrArg some (by kernel_rfl))
 f246:=Tryz.func274.trans (congrArg some (by kernel_rfl))
 f283:=Tryz.func312.trans (congrArg some (by kernel_rfl))
 f284:=Tryz.func313.trans (congrArg some (by kernel_rfl))
 f285:=Tryz.func314.trans (congrArg some (by kernel_rfl))
 f286:=Tryz.func315.trans (congrArg some (by kernel_rfl))
 f317:=Tryz.func343.trans (congrArg some (by kernel_rfl))
 f318:=Tryz.func344.trans (congrArg some (by kernel_rfl))
 f319:=Tryz.func345.trans (congrArg some (by kernel_rfl))
 f320:=Tryz.func346.trans (congrArg some (by kernel_rfl))
 f337:=Tryz.func365.trans (congrArg some (by kernel_rfl))
 f338:=Tryz.func366.trans (congrArg some (by kernel_rfl))
 t0:=Tryz.underlying0
 a0:=Tryz.isAgg0
 z0:=Tryz.sizeOf0
 v0:=Tryz.zeroValue0
 t2:=Tryz.underlying2
 a2:=Tryz.isAgg2
 z2:=Tryz.sizeOf2
 v2:=Tryz.zeroValue2
 t3:=Tryz.underlying3
 a3:=Tryz.isAgg3
 z3:=Tryz.sizeOf3
 v3:=Tryz.zeroValue3
 t4:=Tryz.underlying4
 a4:=Tryz.isAgg4
 z4:=Tryz.sizeOf4
 v4:=Tryz.zeroValue4
 t5:=Tryz.underlying5
 a5:=Tryz.isAgg5
 z5:=Tryz.sizeOf5
 v5:=Tryz.zeroValue5
 t9:=Tryz.underlying9
 a9:=Tryz.isAgg9
 z9:=Tryz.sizeOf9
 v9:=Tryz.zeroValue9
 t20:=Tryz.underlying20
 a20:=Tryz.isAgg20
 z20:=Tryz.sizeOf20
 v20:=Tryz.zeroValue20
 t37:=Tryz.underlying43
 a37:=Tryz.isAgg43
 z37:=Tryz.sizeOf43
 v37:=Tryz.zeroValue43
 t46:=Tryz.underlying37
 a46:=Tryz.isAgg37
 z46:=Tryz.sizeOf37
 v46:=Tryz.zeroValue37
 t51:=Tryz.underlying252
 a51:=Tryz.isAgg252
 z51:=Tryz.sizeOf252
 v51:=Tryz.zeroValue252
 t53:=Tryz.underlying184
 a53:=Tryz.isAgg184
 z53:=Tryz.sizeOf184
 v53:=Tryz.zeroValue184
 t171:=Tryz.underlying387
 a171:=Tryz.isAgg387
 z171:=Tryz.sizeOf387
 v171:=Tryz.zeroValue387
 t173:=Tryz.underlying389
 a173:=Tryz.isAgg389
 z173:=Tryz.sizeOf389
 v173:=Tryz.zeroValue389
 t212:=Tryz.underlying412
 a212:=Tryz.isAgg412
 z212:=Tryz.sizeOf412
 v212:=Tryz.zeroValue412
 t213:=Tryz.underlying413
 a213:=Tryz.isAgg413
 z213:=Tryz.sizeOf413
 t232:=Tryz.underlying50
 a232:=Tryz.isAgg50
 z232:=Tryz.sizeOf50
 v232:=Tryz.zeroValue50
 t233:=Tryz.underlying449
 a233:=Tryz.isAgg449
 z233:=Tryz.sizeOf449
 v233:=Tryz.zeroValue449
 g17:=by kernel_rfl
 g18:=by kernel_rfl
 g19:=by kernel_rfl
 i0:=by kernel_rfl
 i2:=by kernel_rfl
 i3:=by kernel_rfl
 i4:=by kernel_rfl
 i5:=by kernel_rfl
 i9:=by kernel_rfl
 i20:=by kernel_rfl
 i37:=by kernel_rfl
 i46:=by kernel_rfl
 i51:=by kernel_rfl
 i53:=by kernel_rfl
 i171:=by kernel_rfl
 i173:=by kernel_rfl
 i212:=by kernel_rfl
 i232:=by kernel_rfl
 i233:=by kernel_rfl
 m17:=by kernel_rfl
 m18:=by kernel_rfl
 m19:=by kernel_rfl }
open Go.RowKit Go.Sort Go.Lib in
/-- strconv.Itoa: "Itoa is equivalent to FormatInt(int64(i), 10).": i's DECIMAL NUMERAL ('Lib.itoa': a '-' where i is negative,then the digits),FOR EVERY int. The world behind the call: the world before it,new blocks behind the heap (the library's 'var a [24]byte'),draws. (LAID: no walk: one application.) -/
theorem Tryz.strconv_Itoa (n:Int)(h0 : -9223372036854775808≤n)(h1:n≤9223372036854775807)(w:World)(htab:Lib.TabIs Tryz.prog w "internal/strconv.uint64pow10" .u64 Lib.pow10Tab) :
 Calls Tryz.prog 151 #[.int .i64 n] w fun e w'=>e = .returned (.string ⟨(Lib.itoa n).toArray⟩)∧∃k os,w'=grow (w.drewN k) os:=Any.strconv_Itoa Tryz.laysM171 n h0 h1 w htab
def Tryz.lays171_ren:Go.Shelf.Ren:=⟨fun|171=>151|243=>218|246=>274|283=>312|284=>313|285=>314|286=>315|129=>173|317=>343|318=>344|319=>345|320=>346|337=>365|338=>366|n=>n,fun|3=>3|9=>9|2=>2|4=>4|171=>387|0=>0|53=>184|37=>43|5=>5|173=>389|212=>412|51=>252|20=>20|213=>413|46=>37|232=>50|233=>449|n=>n,fun|17=>1|18=>8|19=>9|n=>n⟩
theorem Tryz.lays171:Go.Proofs.Lays.n171 Tryz.prog Tryz.lays171_ren:={
 mixed:=by kernel_rfl
 f129:=Tryz.func173.trans (congrArg some (by kernel_rfl))
 f171:=Tryz.func151.trans (congrArg some (by kernel_rfl))
 f243:=Tryz.func218.trans (congrArg some (by kernel_rfl))
 f246:=Tryz.func274.trans (congrArg some (by kernel_rfl))
 f283:=Tryz.func312.trans (congrArg some (by kernel_rfl))
 f284:=Tryz.func313.trans (congrArg some (by kernel_rfl))
 f285:=Tryz.func314.trans (congrArg some (by kernel_rfl))
 f286:=Tryz.func315.trans (congrArg some (by kernel_rfl))
 f317:=Tryz.func343.trans (congrArg some (by kernel_rfl))
 f318:=Tryz.func344.trans (congrArg some (by kernel_rfl))
 f319:=Tryz.func345.trans (congrArg some (by kernel_rfl))
 f320:=Tryz.func346.trans (congrArg some (by kernel_rfl))
 f337:=Tryz.func365.trans (congrArg some (by kernel_rfl))
 f338:=Tryz.func366.trans (congrArg some (by kernel_rfl))
 t0:=Tryz.underlying0
 a0:=Tryz.isAgg0
 z0:=Tryz.sizeOf0
 v0:=Tryz.zeroValue0
 t2:=Tryz.underlying2
 a2:=Tryz.isAgg2
 z2:=Tryz.sizeOf2
 v2:=Tryz.zeroValue2
 t3:=Tryz.underlying3
 a3:=Tryz.isAgg3
 z3:=Tryz.sizeOf3
 v3:=Tryz.zeroValue3
 t4:=Tryz.underlying4
 a4:=Tryz.isAgg4
 z4:=Tryz.sizeOf4
 v4:=Tryz.zeroValue4
 t5:=Tryz.underlying5
 a5:=Tryz.isAgg5
 z5:=Tryz.sizeOf5
 v5:=Tryz.zeroValue5
 t9:=Tryz.underlying9
 a9:=Tryz.isAgg9
 z9:=Tryz.sizeOf9
 v9:=Tryz.zeroValue9
 t20:=Tryz.underlying20
 a20:=Tryz.isAgg20
 z20:=Tryz.sizeOf20
 v20:=Tryz.zeroValue20
 t37:=Tryz.underlying43
 a37:=Tryz.isAgg43
 z37:=Tryz.sizeOf43
 v37:=Tryz.zeroValue43
 t46:=Tryz.underlying37
 a46:=Tryz.isAgg37
 z46:=Tryz.sizeOf37
 v46:=Tryz.zeroValue37
 t51:=Tryz.underlying252
 a51:=Tryz.isAgg252
 z51:=Tryz.sizeOf252
 v51:=Tryz.zeroValue252
 t53:=Tryz.underlying184
 a53:=Tryz.isAgg184
 z53:=Tryz.sizeOf184
 v53:=Tryz.zeroValue184
 t171:=Tryz.underlying387
 a171:=Tryz.isAgg387
 z171:=Tryz.sizeOf387
 v171:=Tryz.zeroValue387
 t173:=Tryz.underlying389
 a173:=Tryz.isAgg389
 z173:=Tryz.sizeOf389
 v173:=Tryz.zeroValue389
 t212:=Tryz.underlying412
 a212:=Tryz.isAgg412
 z212:=Tryz.sizeOf412
 v212:=Tryz.zeroValue412
 t213:=Tryz.underlying413
 a213:=Tryz.isAgg413
 z213:=Tryz.sizeOf413
 t232:=Tryz.underlying50
 a232:=Tryz.isAgg50
 z232:=Tryz.sizeOf50
 v232:=Tryz.zeroValue50
 t233:=Tryz.underlying449
 a233:=Tryz.isAgg449
 z233:=Tryz.sizeOf449
 v233:=Tryz.zeroValue449
 g17:=by kernel_rfl
 g18:=by kernel_rfl
 g19:=by kernel_rfl }
open Go.RowKit Go.Sort Go.Lib in
/-- THE ROAD WITHOUT THE TABLE: 0 <= i<100: NO PREMISE ON THE WORLD,AND THE WORLD IS AS IT WAS: a row that keeps its argument in that range need list no table ('laid = []'). (LAID: no walk: one application.) -/
theorem Tryz.strconv_Itoa_small (i:Nat)(hi:i<100)(w:World) :
 Calls Tryz.prog 151 #[.int .i64 i] w fun e w'=>e = .returned (.string ⟨(Lib.decDigits i).toArray⟩)∧w'=w:=Any.strconv_Itoa_small Tryz.lays171 i hi w
def Tryz.laysSlM5_f58_ren:Go.Shelf.Ren:=⟨fun|5=>58|8=>110|7=>109|19=>172|20=>173|10=>163|11=>164|12=>165|13=>166|14=>167|15=>168|16=>169|17=>170|18=>171|30=>227|31=>228|32=>229|33=>230|34=>231|35=>232|40=>284|n=>n,fun|23=>23|25=>3|3=>3|32=>37|22=>23|0=>0|44=>252|46=>184|4=>4|36=>245|35=>244|41=>249|5=>5|9=>9|53=>304|57=>307|63=>366|64=>367|n=>n,fun|n=>n⟩
theorem Tryz.laysSlM5_f58:Go.Proofs.SlLaysM.n5 Tryz.prog Tryz.laysSlM5_f58_ren:={
 mixed:=by kernel_rfl
 f5:=⟨Tryz.f58.name,by decide,Tryz.func58.trans (congrArg some (by kernel_rfl))⟩
 f7:=⟨Tryz.f109.name,by decide,Tryz.func109.trans (congrArg some (by kernel_rfl))⟩
 f8:=Tryz.func110.trans (congrArg some (by kernel_rfl))
 f10:=⟨Tryz.f163.name,by decide,Tryz.func163.trans (congrArg some (by kernel_rfl))⟩
 f11:=⟨Tryz.f164.name,by decide,Tryz.func164.trans (congrArg some (by kernel_rfl))⟩
 f12:=⟨Tryz.f165.name,by decide,Tryz.func165.trans (congrArg some (by kernel_rfl))⟩
 f13:=⟨Tryz.f166.name,by decide,Tryz.func166.trans (congrArg some (by kernel_rfl))⟩
 f14:=⟨Tryz.f167.name,by decide,Tryz.func167.trans (congrArg some (by kernel_rfl))⟩
 f15:=⟨Tryz.f168.name,by decide,Tryz.func168.trans (congrArg some (by kernel_rfl))⟩
 f16:=⟨Tryz.f169.name,by decide,Tryz.func169.trans (congrArg some (by kernel_rfl))⟩
 f17:=⟨Tryz.f170.name,by decide,Tryz.func170.trans (congrArg some (by kernel_rfl))⟩
 f18:=⟨Tryz.f171.name,by decide,Tryz.func171.trans (congrArg some (by kernel_rfl))⟩
 f19:=Tryz.func172.trans (congrArg some (by kernel_rfl))
 f20:=Tryz.func173.trans (congrArg some (by kernel_rfl))
 f30:=⟨Tryz.f227.name,by decide,Tryz.func227.trans (congrArg some (by kernel_rfl))⟩
 f31:=Tryz.func228.trans (congrArg some (by kernel_rfl))
 f32:=Tryz.func229.trans (congrArg some (by kernel_rfl))
 f33:=⟨Tryz.f230.name,by decide,Tryz.func230.trans (congrArg some (by kernel_rfl))⟩
 f34:=⟨Tryz.f231.name,by decide,Tryz.func231.trans (congrArg some (by kernel_rfl))⟩
 f35:=⟨Tryz.f232.name,by decide,Tryz.func232.trans (congrArg some (by kernel_rfl))⟩
 f40:=⟨Tryz.f284.name,by decide,Tryz.func284.trans (congrArg some (by kernel_rfl))⟩
 t0:=Tryz.underlying0
 a0:=Tryz.isAgg0
 z0:=Tryz.sizeOf0
 v0:=Tryz.zeroValue0
 t3:=Tryz.underlying3
 a3:=Tryz.isAgg3
 z3:=Tryz.sizeOf3
 v3:=Tryz.zeroValue3
 t4:=Tryz.underlying4
 a4:=Tryz.isAgg4
 z4:=Tryz.sizeOf4
 v4:=Tryz.zeroValue4
 t5:=Tryz.underlying5
 a5:=Tryz.isAgg5
 z5:=Tryz.sizeOf5
 v5:=Tryz.zeroValue5
 t9:=Tryz.underlying9
 a9:=Tryz.isAgg9
 z9:=Tryz.sizeOf9
 v9:=Tryz.zeroValue9
 t22:=Tryz.underlying23
 a22:=Tryz.isAgg23
 z22:=Tryz.sizeOf23
 v22:=Tryz.zeroValue23
 t23:=Tryz.underlying23
 a23:=Tryz.isAgg23
 z23:=Tryz.sizeOf23
 v23:=Tryz.zeroValue23
 t25:=Tryz.underlying3
 a25:=Tryz.isAgg3
 z25:=Tryz.sizeOf3
 v25:=Tryz.zeroValue3
 t32:=Tryz.underlying37
 a32:=Tryz.isAgg37
 z32:=Tryz.sizeOf37
 v32:=Tryz.zeroValue37
 t35:=Tryz.underlying244
 a35:=Tryz.isAgg244
 z35:=Tryz.sizeOf244
 v35:=Tryz.zeroValue244
 t36:=Tryz.underlying245
 a36:=Tryz.isAgg245
 z36:=Tryz.sizeOf245
 v36:=Tryz.zeroValue245
 t41:=Tryz.underlying249
 a41:=Tryz.isAgg249
 z41:=Tryz.sizeOf249
 v41:=Tryz.zeroValue249
 t44:=Tryz.underlying252
 a44:=Tryz.isAgg252
 z44:=Tryz.sizeOf252
 v44:=Tryz.zeroValue252
 t46:=Tryz.underlying184
 a46:=Tryz.isAgg184
 z46:=Tryz.sizeOf184
 v46:=Tryz.zeroValue184
 t53:=Tryz.underlying304
 a53:=Tryz.isAgg304
 z53:=Tryz.sizeOf304
 v53:=Tryz.zeroValue304
 t57:=Tryz.underlying307
 a57:=Tryz.isAgg307
 z57:=Tryz.sizeOf307
 v57:=Tryz.zeroValue307
 t63:=Tryz.underlying366
 a63:=Tryz.isAgg366
 z63:=Tryz.sizeOf366
 v63:=Tryz.zeroValue366
 t64:=Tryz.underlying367
 a64:=Tryz.isAgg367
 z64:=Tryz.sizeOf367
 v64:=Tryz.zeroValue367 }
open Go.Sort Go.RowKit in
theorem Tryz.slices_Sort_int (blk off cap:Nat)(zs:List Int)(w:World)(hH:Holds (Value.int .i64) w blk off zs.toArray)(hblk:blk<w.heap.size)(hsz:zs.length<4611686018427387904) :
 Calls Tryz.prog 58 #[.slice (some ⟨blk,off,none⟩) zs.length cap] w fun e w' =>
  e = .returned (.tuple #[])∧∃n os,w'=grow (putRow (Value.int .i64) (Sort.ahead w n) blk off (zs.mergeSort fun x y=>decide (x≤y)).toArray) os:=AnyM.slices_Sort_int Tryz.laysSlM5_f58 blk off cap zs w hH hblk hsz
end Go.Proofs
namespace Go.Proofs.YtpojgmeoaflmoaaGreatDoor
open Go.RowKit
theorem znQ {p:Nat→Prop}:∀n,p n→∃j,p j∧∀k,p k→j≤k:=by
 intro n
 induction n using Nat.strongRecOn with
 |_ n ih =>
  intro h;by_cases hk:∃k,k<n∧p k
  ·obtain⟨k,h1,h2⟩:=hk
   exact ih k h1 h2
  ·exact⟨n,h,fun k hp=>by
    rcases Nat.lt_or_ge k n with h1|h1
    ·exact absurd ⟨k,h1,hp⟩ hk
    ·exact h1⟩
open Classical in
/-- The least number of which something is true. -/
noncomputable def leastN (p:Nat→Prop):Nat:=if h:∃j,p j∧∀k,p k→j≤k then Classical.choose h else 0
theorem zcG {p:Nat→Prop}{n:Nat}(h:p n):p (leastN p)∧∀k,p k→leastN p≤k:=by
 have h':=znQ n h;unfold leastN;rw[dif_pos h'];exact Classical.choose_spec h'
theorem zoZ (x:Nat)(w:World)(N:Nat)(hN:N≤1000000)(I:Nat→World→Prop)(Q:Value→World→Prop)(h0:I N w)
 (hs:∀j W,I j W→Calls Tryz.prog 67 #[.pointer (some ⟨x,0,none⟩)] W fun e w'=>(∃k,k<j∧e = .returned (.tuple #[.bool false,.nilIface])∧I k w')∨(e = .returned (.tuple #[.bool true,.nilIface])∧Q .nilIface w')∨(∃c:Int,e = .returned (.tuple #[.bool false,.iface 89 (.int .i64 c)])∧Q (.iface 89 (.int .i64 c)) w')) :
 Calls Tryz.prog 29 #[.pointer (some ⟨x,0,none⟩)] w fun e w'=>∃(n:Nat) (v:Value),e = .returned (.tuple #[.int .i64 n,v])∧Q v w':=by
 have HS:=zz0 hs;have H0:=zz0 h0;clear hs h0
 go_enter Tryz.func29,Tryz.ntmps29
 go_wp2_with fail
 go_loopw [4] (fun i wr=>∃(n j:Nat),i = .int .i64 n∧n+j≤N∧j=leastN (fun j=>I j wr)∧I j wr) (fun _ wr=>leastN (fun j=>I j wr))
 case atStart =>
  have:=zcG (p:=fun j=>I j w) H0.out
  exact⟨0,_,rfl,by have:=this.2 N H0.out;omega,rfl,this.1⟩
 case round =>
  obtain⟨n,j,rfl,hnj,hj,hI⟩:=hrel;have ST:=zz0 (HS.out j wr hI);have HJ:=zz0 hj;clear hj hI
  go_wp2_with(go_at_call 67;refine ST.out.mono ?_;rintro e w1 (⟨k,hk,rfl,hI⟩|⟨rfl,hQ⟩|⟨c,rfl,hQ⟩))
  ·have hl:=zcG (p:=fun j=>I j w1) hI
   have hk2:=hl.2 k hI;have hj2:=HJ.out;refine⟨⟨n+1,leastN (fun j=>I j w1),by first|rfl|(congr 1;omega),by omega,rfl,hl.1⟩,by omega⟩
  ·go_ret2
   exact⟨n+1,_,rfl,hQ⟩
  ·go_ret2
   exact⟨n,_,rfl,hQ⟩
theorem zod (x:Nat)(w:World)(N:Nat)(hN:N≤1000000)(I:Nat→World→Prop)(Q:Value→World→Prop)(h0:I N w)
 (hs:∀j W,I j W→Calls Tryz.prog 80 #[.pointer (some ⟨x,0,none⟩)] W fun e w'=>(∃k,k<j∧e = .returned (.tuple #[.bool false,.nilIface])∧I k w')∨(e = .returned (.tuple #[.bool true,.nilIface])∧Q .nilIface w')∨(∃c:Int,e = .returned (.tuple #[.bool false,.iface 89 (.int .i64 c)])∧Q (.iface 89 (.int .i64 c)) w')) :
 Calls Tryz.prog 39 #[.pointer (some ⟨x,0,none⟩)] w fun e w'=>∃(n:Nat) (v:Value),e = .returned (.tuple #[.int .i64 n,v])∧Q v w':=by
 have HS:=zz0 hs;have H0:=zz0 h0;clear hs h0
 go_enter Tryz.func39,Tryz.ntmps39
 go_wp2_with fail
 go_loopw [4] (fun i wr=>∃(n j:Nat),i = .int .i64 n∧n+j≤N∧j=leastN (fun j=>I j wr)∧I j wr) (fun _ wr=>leastN (fun j=>I j wr))
 case atStart =>
  have:=zcG (p:=fun j=>I j w) H0.out
  exact⟨0,_,rfl,by have:=this.2 N H0.out;omega,rfl,this.1⟩
 case round =>
  obtain⟨n,j,rfl,hnj,hj,hI⟩:=hrel;have ST:=zz0 (HS.out j wr hI);have HJ:=zz0 hj;clear hj hI
  go_wp2_with(go_at_call 80;refine ST.out.mono ?_;rintro e w1 (⟨k,hk,rfl,hI⟩|⟨rfl,hQ⟩|⟨c,rfl,hQ⟩))
  ·have hl:=zcG (p:=fun j=>I j w1) hI
   have hk2:=hl.2 k hI;have hj2:=HJ.out;refine⟨⟨n+1,leastN (fun j=>I j w1),by first|rfl|(congr 1;omega),by omega,rfl,hl.1⟩,by omega⟩
  ·go_ret2
   exact⟨n+1,_,rfl,hQ⟩
  ·go_ret2
   exact⟨n,_,rfl,hQ⟩
end Go.Proofs.YtpojgmeoaflmoaaGreatDoor
