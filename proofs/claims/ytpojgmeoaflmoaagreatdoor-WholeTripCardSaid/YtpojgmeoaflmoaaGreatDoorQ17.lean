/- A vault in memory; Store, Chain of at mo -/
import Derived.Lib.AppendIntMem
import Derived.Test.YtpojgmeoaflmoaaGreatDoorQ15
import Derived.Test.YtpojgmeoaflmoaaGreatDoorQ16
set_option linter.unusedVariables false
set_option maxRecDepth 100000
set_option maxHeartbeats 16000000
namespace Go.Proofs.YtpojgmeoaflmoaaGreatDoor
open Go.RowKit
def VtB (q:Nat)(lv:Value):Obj:=.cells #[.pointer (some ⟨q,0,none⟩),lv] 81 (0,0)
section
variable {w : World} {b q : Nat} {lv : Value}
theorem vt_0 (h:w.heap[b]? = some (VtB q lv)):w.cell? ⟨b,0,none⟩=some (.pointer (some ⟨q,0,none⟩)):=by simp[World.cell?,h,VtB]
theorem vt_1 (h:w.heap[b]? = some (VtB q lv)):w.cell? ⟨b,1,none⟩=some lv:=by simp[World.cell?,h,VtB]
theorem vt_f (h:w.heap[b]? = some (VtB q lv))(i:Nat):w.frozen? ⟨b,i,none⟩=false:=by simp[World.frozen?,h,VtB]
end
theorem zai.nil (T:Nat→Prop)(w:World):zai T w (.slice none 0 0) []:=⟨none,0,rfl,Nat.le_refl _,fun ad e=>(by cases e),fun j m hj=>by simp at hj⟩
theorem zai.one {B:Nat}{T:Nat→Prop}{w:World}{v:Value}{m:Mf}{pa:Option Addr}{pc:Nat}(h:w.ownsRow B 54 37 v 1 (zq6 m (.slice pa m.parts.length pc)))(h32:m.prev.length=32)(hp:zC w (.slice pa m.parts.length pc) m.parts)(hT:∀g,(Value.slice pa m.parts.length pc).ownBlock=some g→T g)(hT2:∀g,v.ownBlock=some g→T g):zai T w v [m]:=by
 rcases h.2 with ⟨_,hn⟩|⟨g,cap,cur,rfl,_,hg,hn,_,_,htake⟩
 ·cases hn
 ·refine⟨some ⟨g,0,none⟩,cap,rfl,hn,fun ad e=>⟨g,0,by injection e with e;exact e.symm,hT2 g rfl⟩,fun j m' hj=>?_⟩
  cases j with
  |succ j=>simp at hj
  |zero =>
   simp at hj;subst hj;refine⟨h32,g,0,pa,pc,rfl,hp,hT,fun i u hu=>?_⟩
   rw[Nat.zero_mul,Nat.zero_add,World.cell?,hg];rw[←htake,List.getElem?_take] at hu
   split at hu
   ·simpa using hu
   ·cases hu
theorem infoMf:(Tryz.prog.info? 54).map (fun i=>(i.zero,i.size,i.bytes))=some (some (.agg zra),37,88):=by kernel_rfl
theorem hBS39 (n:Nat)(parts:Array (Nat×Value)):Instr.buildSlice 39 n parts=holdBS 39 n parts:=rfl
theorem zaQ (m:Mf)(a:Option Addr)(n c:Nat)(h:m.prev.length=32)(w:World):(holdBS 39 1 #[(0,zq7 m (.slice a n c))]).run Tryz.prog w = .ok (.slice (some ⟨w.heap.size,0,none⟩) 1 1) (w.alloc (zq1 m (.slice a n c))):=by
 obtain⟨x0,x1,x2,x3,D,ps⟩:=m;obtain⟨d0,d1,d2,d3,d4,d5,d6,d7,d8,d9,d10,d11,d12,d13,d14,d15,d16,d17,d18,d19,d20,d21,d22,d23,d24,d25,d26,d27,d28,d29,d30,d31,rfl⟩:=list32 D h
 kernel_rfl
theorem zdi {w:World}{b:Nat}{m:Mf}{pv:Value}(h:w.heap[b]? = some (zq1 m pv)):∀(j:Nat) u,(zq6 m pv)[j]? = some u→w.cell? ((⟨b,0,none⟩:Addr).add j)=some u:=by
 intro j u hu;rw[zag,Nat.zero_add,cell_of_row _ _ j _ _ _ h];simpa using hu
theorem zcJ (m:Mf)(a:Option Addr)(n c:Nat):∀u ∈ zq6 m (.slice a n c),u.oneCell'=true:=by
 intro u hu;have:=zl3 m a n c;rw[List.all_toArray,List.all_eq_true] at this;exact this u hu
theorem zcy (b q:Nat)(lv:Value)(w:World)(h:w.heap[b]? = some (VtB q lv)) :
 Calls Tryz.prog 66 #[.pointer (some ⟨b,0,none⟩)] w fun e w'=>e = .returned (.pointer (some ⟨q,0,none⟩))∧w'=w:=by
 have c0:=vt_0 h;clear h
 go_enter Tryz.func66,Tryz.ntmps66
 go_wp2_with fail
 go_ret;exact⟨rfl,rfl⟩
section
attribute [local go_sem ↓] zbB zU zbC zbD zV zbE zab zbK hBS52 hBS39
end
theorem zgs (n:Nat)(h:n<100):1≤(Lib.decDigits n).length∧(Lib.decDigits n).length≤2:=by
 rw[Lib.decDigits]
 split
 ·simp
 ·rw[Lib.decDigits,dif_pos (by omega)]
  simp
theorem zf0 {w w':World}(h:Below w.heap.size w w'):za zq2 w w':=⟨h.os,h.tape,h.output,h.size,fun i hi _=>h.block i hi⟩
theorem zfw (c:Nat):(Lib.repeatL [48] c).length=c:=by
 induction c with
 |zero=>rfl
 |succ c ih=>simp[Lib.repeatL,ih]
def zdr (n k:Nat):zqY:=Lib.repeatL [48] (k-(Lib.decDigits n).length)++Lib.decDigits n
theorem zi0 (n k:Nat)(w:World)(hn:n<100)(hk:k≤10) :
 Calls Tryz.prog 95 #[.int .i64 n,.int .i64 k] w fun e w'=>e = .returned (sv (zdr n k))∧za zq2 w w':=by
 obtain⟨h1,h2⟩:=zgs n hn;have IT:=zz0 (fun W=>Tryz.strconv_Itoa_small n hn W)
 have hmx:max ((k:Int)-((Lib.decDigits n).length:Int)) 0=((k-(Lib.decDigits n).length:Nat):Int):=by omega
 have RP:Hid (∀W,Calls Tryz.prog 152 #[.string ⟨#[48]⟩,.int .i64 (max ((k:Int)-((Lib.decDigits n).length:Int)) 0)] W fun e w'=>e = .returned (.string ⟨(Lib.repeatL [48] (k-(Lib.decDigits n).length)).toArray⟩)∧za zq2 W w'):=zz0 (fun W=>by
  rw[hmx];refine(Tryz.strings_Repeat ⟨#[48]⟩ (k-(Lib.decDigits n).length) W (by omega) (by show 1*_≤_;omega)).mono ?_
  rintro e w' ⟨rfl,b⟩;exact⟨rfl,zf0 b⟩)
 have hrl:(Lib.repeatL [48] (k-(Lib.decDigits n).length)).length=k-(Lib.decDigits n).length:=zfw _;have hadd:=fun(W:World)=>run_string_add_lists (P:=Tryz.prog) W (Lib.repeatL [48] (k-(Lib.decDigits n).length)) (Lib.decDigits n) (by omega) (by omega)
 clear hrl;clear hmx;have hs:(⟨(Lib.decDigits n).toArray⟩:ByteArray).size=(Lib.decDigits n).length:=by show(Lib.decDigits n).toArray.size=_;simp
 go_enter Tryz.func95,Tryz.ntmps95
 go_wp2_with(first
  |(go_at_call 151;refine(IT.out _).mono ?_;rintro e w1 ⟨rfl,e1⟩;subst e1)
  |(go_at_call 152;refine(RP.out _).mono ?_;rintro e w2 ⟨rfl,k2⟩;have K2:=zz0 k2;clear k2))
 go_ret;exact⟨rfl,K2.out⟩
theorem zde (n k:Nat)(hn:n<100)(hk:2≤k):(zdr n k).length=k:=by
 have:=zgs n hn;unfold zdr;rw[List.length_append,zfw];omega
def zw (n:Nat):zqY:=[109]++zdr n 6
def zt (n p:Nat):zqY:=[112]++zdr n 6 ++ [45]++zdr p 4
theorem zd3 (n:Nat)(w:World)(hn:n<100) :
 Calls Tryz.prog 49 #[.int .i64 n] w fun e w'=>e = .returned (sv (zw n))∧za zq2 w w':=by
 have FG:=zz0 (fun W=>zi0 n 6 W hn (by omega))
 have hl:=zde n 6 hn (by omega)
 have hadd:=fun(W:World)=>run_string_add_lists (P:=Tryz.prog) W [109] (zdr n 6) (by decide) (by omega)
 unfold sv at FG ⊢;clear hl
 go_enter Tryz.func49,Tryz.ntmps49
 go_wp2_with(go_at_call 95;refine(FG.out _).mono ?_;rintro e w1 ⟨rfl,k1⟩;have K1:=zz0 k1;clear k1)
 go_ret;exact⟨rfl,K1.out⟩
theorem zd1 (n p:Nat)(w:World)(hn:n<100)(hp:p<100) :
 Calls Tryz.prog 240 #[.int .i64 n,.int .i64 p] w fun e w'=>e = .returned (sv (zt n p))∧za zq2 w w':=by
 have FG:Hid (∀W,Calls Tryz.prog 95 #[.int .i64 n,.int .i64 6] W fun e w'=>e = .returned (.string ⟨(zdr n 6).toArray⟩)∧za zq2 W w'):=zz0 (fun W=>zi0 n 6 W hn (by omega))
 have FP:Hid (∀W,Calls Tryz.prog 95 #[.int .i64 p,.int .i64 4] W fun e w'=>e = .returned (.string ⟨(zdr p 4).toArray⟩)∧za zq2 W w'):=zz0 (fun W=>zi0 p 4 W hp (by omega))
 have hl:=zde n 6 hn (by omega)
 have hl2:=zde p 4 hp (by omega)
 unfold sv zt;generalize zdr n 6=a at *;generalize zdr p 4=b at *;obtain⟨A1,h1⟩:∃A1,A1 = [112]++a:=⟨_,rfl⟩;obtain⟨A2,h2⟩:∃A2,A2=A1 ++ [45]:=⟨_,rfl⟩;obtain⟨A3,h3⟩:∃A3,A3=A2++b:=⟨_,rfl⟩;have l1:A1.length≤10:=by rw[h1];simp;omega
 have l2:A2.length≤11:=by rw[h2];simp;omega
 have hadd1:=fun(W:World)=>run_string_add_lists (P:=Tryz.prog) W [112] a (by decide) (by omega)
 have hadd2:=fun(W:World)=>run_string_add_lists (P:=Tryz.prog) W A1 [45] (by omega) (by decide)
 have hadd3:=fun(W:World)=>run_string_add_lists (P:=Tryz.prog) W A2 b (by omega) (by omega)
 rw[←h1] at hadd1 ⊢;rw[←h2] at hadd2 ⊢;rw[←h3] at hadd3 ⊢;clear h1 h2 h3 l1 l2 hl hl2
 go_enter Tryz.func240,Tryz.ntmps240
 go_wp2_with(go_at_call 95;first
  |((with_reducible refine(FG.out _).mono ?_);rintro e w1 ⟨rfl,k1⟩;have K1:=zz0 k1;clear k1)
  |((with_reducible refine(FP.out _).mono ?_);rintro e w2 ⟨rfl,k2⟩;have K2:=zz0 k2;clear k2))
 go_ret;exact⟨rfl,K1.out.trans1 K2.out⟩
def digs:List UInt8:=[48,49,50,51,52,53,54,55,56,57]
theorem zhf (i:Nat)(h:i<10):UInt8.ofNat (48+i) ∈ digs:=by
 have h0:∀i:Fin 10,UInt8.ofNat (48+i.val) ∈ digs:=by decide
 exact h0 ⟨i,h⟩
theorem zqD (n:Nat)(h:n<100):∀c ∈ Lib.decDigits n,c ∈ digs:=by
 intro c hc;by_cases h1:n<10
 ·rw[Lib.decDigits_one h1] at hc
  simp only[List.mem_singleton] at hc;rw[hc];exact zhf n h1
 ·rw[Lib.decDigits_two h1 h] at hc
  simp only[List.mem_cons,List.not_mem_nil,or_false] at hc;rcases hc with rfl|rfl
  ·exact zhf _ (by omega)
  ·exact zhf _ (by omega)
theorem zmt:∀(k:Nat),∀c ∈ Lib.repeatL [48] k,c ∈ digs
 |0,c,h=>by simp[Lib.repeatL] at h
 |k+1,c,h=>by
  simp only[Lib.repeatL,List.mem_append,List.mem_singleton] at h;rcases h with rfl|h
  ·decide
  ·exact zmt k c h
theorem zim (n k:Nat)(h:n<100):∀c ∈ zdr n k,c ∈ digs:=by
 intro c hc;unfold zdr at hc;rcases List.mem_append.1 hc with hc|hc
 ·exact zmt _ c hc
 ·exact zqD n h c hc
theorem zeZ:∀c ∈ digs,c ∈ signsL∧c≠126:=by decide
theorem zaD (n:Nat)(h:n<100):zbg (zw n):=by
 have hl:=zde n 6 h (by omega)
 have hc:∀c ∈ zw n,c ∈ signsL∧c≠126:=by
  intro c hc;unfold zw at hc;simp only[List.mem_append,List.mem_singleton] at hc;rcases hc with rfl|hc
  ·decide
  ·exact zeZ c (zim n 6 h c hc)
 have hlen:(zw n).length=7:=by unfold zw;simp[hl]
 exact⟨⟨by omega,by omega,fun c e=>(hc c e).1⟩,by omega,fun e=>(hc 126 e).2 rfl⟩
theorem zcb (n p:Nat)(h:n<100)(h2:p<100):zbg (zt n p):=by
 have hl:=zde n 6 h (by omega)
 have hl2:=zde p 4 h2 (by omega)
 have hc:∀c ∈ zt n p,c ∈ signsL∧c≠126:=by
  intro c hc;unfold zt at hc;simp only[List.mem_append,List.mem_singleton] at hc;rcases hc with ((rfl|hc)|rfl)|hc
  ·decide
  ·exact zeZ c (zim n 6 h c hc)
  ·decide
  ·exact zeZ c (zim p 4 h2 c hc)
 have hlen:(zt n p).length=12:=by unfold zt;simp[hl,hl2]
 exact⟨⟨by omega,by omega,fun c e=>(hc c e).1⟩,by omega,fun e=>(hc 126 e).2 rfl⟩
def Pow (w:World):Prop:=Lib.TabIs Tryz.prog w "internal/strconv.uint64pow10" .u64 Lib.pow10Tab
theorem zo5:Tryz.prog.globalNamed "internal/strconv.uint64pow10" = some 1:=by kernel_rfl
structure Lay (w:World):Prop where
 kon:Kon w
 frs:Frs w
 pow:Pow w
theorem Lay.keep {S:Nat→Prop}{w w':World}(h:Lay w)(k:za S w w')(hn:∀g,g<10→¬S g):Lay w' where
 kon:=by
  obtain⟨cs,h1,⟨tt,fr,h2⟩,h3,h4⟩:=h.kon;exact⟨cs,h1,⟨tt,fr,k.at h2 (hn _ (by decide))⟩,Nat.le_trans h3 k.size,h4⟩
 frs:=by
  obtain⟨tt,fr,h⟩:=h.frs;exact⟨tt,fr,k.at h (hn _ (by decide))⟩
 pow:=by
  have hp:=h.pow;unfold Pow Lib.TabIs World.var? at hp ⊢;rw[zo5] at hp ⊢;simp only[Option.bind_some] at hp ⊢;have hlt:1<w.heap.size:=by
   rcases Nat.lt_or_ge 1 w.heap.size with h'|h'
   ·exact h'
   ·rw[Array.getElem?_eq_none h'] at hp;simp at hp
  rw[k.block _ hlt (hn _ (by decide))]
  exact hp
theorem Lay.keepNon {w w':World}(h:Lay w)(k:za zq2 w w'):Lay w':=h.keep k (fun _ _ e=>e)
theorem zpn:∀(n:Nat),∀c ∈ Lib.decDigits n,c ∈ digs:=by
 intro n
 induction n using Nat.strongRecOn with
 |_ n ih =>
  intro c hc;rw[Lib.decDigits] at hc
  split at hc
  ·simp only[List.mem_singleton] at hc
   rw[hc];exact zhf n ‹_›
  ·rw[List.mem_append] at hc
   rcases hc with hc|hc
   ·exact ih (n / 10) (by omega) c hc
   ·simp only[List.mem_singleton] at hc
    rw[hc];exact zhf _ (by omega)
theorem zje (n:Nat)(h:n<1000):1≤(Lib.decDigits n).length∧(Lib.decDigits n).length≤3:=by
 rw[Lib.decDigits]
 split
 ·simp
 ·rw[List.length_append]
  have:=zgs (n / 10) (by omega)
  simp;omega
def zb3 (c:UInt8)(n:Nat):zqY:=[c]++Lib.repeatL [48] (8-(Lib.decDigits n).length)++Lib.decDigits n
theorem zl6 (n:Nat)(h:n<1000):zbg (zb3 114 n):=by
 have hd:=zje n h;have hc:∀c ∈ zb3 114 n,c ∈ signsL∧c≠126:=by
  intro c hc;unfold zb3 at hc;simp only[List.mem_append,List.mem_singleton] at hc;rcases hc with (rfl|hc)|hc
  ·decide
  ·exact zeZ c (zmt _ c hc)
  ·exact zeZ c (zpn n c hc)
 have hlen:(zb3 114 n).length=9:=by unfold zb3;simp[zfw];omega
 exact⟨⟨by omega,by omega,fun c e=>(hc c e).1⟩,by omega,fun e=>(hc 126 e).2 rfl⟩
theorem zhS (n:Nat)(w:World)(hn:n<1000)(hl:Lay w) :
 Calls Tryz.prog 146 #[sv [114],.int .i64 n] w fun e w'=>e = .returned (sv (zb3 114 n))∧za zq2 w w':=by
 obtain⟨h1,h2⟩:=zje n hn;have IT:Hid (Calls Tryz.prog 151 #[.int .i64 n] w fun e w'=>e = .returned (.string ⟨(Lib.decDigits n).toArray⟩)∧za zq2 w w'):=zz0 (by
  refine(Tryz.strconv_Itoa n (by omega) (by omega) w hl.pow).mono ?_
  rintro e w' ⟨rfl,k,os,rfl⟩;rw[Lib.itoa_nonneg];exact⟨rfl,za.ofBelow (Lib.below_grow _ _ (Nat.le_refl _) _ _)⟩)
 have RP:Hid (∀W,Calls Tryz.prog 152 #[.string ⟨#[48]⟩,.int .i64 ((8:Int)-((Lib.decDigits n).length:Int))] W fun e w'=>e = .returned (.string ⟨(Lib.repeatL [48] (8-(Lib.decDigits n).length)).toArray⟩)∧za zq2 W w'):=zz0 (fun W=>by
  rw[show(8:Int)-((Lib.decDigits n).length:Int)=((8-(Lib.decDigits n).length:Nat):Int) by omega]
  refine(Tryz.strings_Repeat ⟨#[48]⟩ (8-(Lib.decDigits n).length) W (by omega) (by show 1*_≤_;omega)).mono ?_
  rintro e w' ⟨rfl,b⟩;exact⟨rfl,zf0 b⟩)
 have hrl:(Lib.repeatL [48] (8-(Lib.decDigits n).length)).length=8-(Lib.decDigits n).length:=zfw _;have hs:(⟨(Lib.decDigits n).toArray⟩:ByteArray).size=(Lib.decDigits n).length:=by show(Lib.decDigits n).toArray.size=_;simp
 unfold sv zb3;generalize Lib.decDigits n=d at *;generalize Lib.repeatL [48] (8-d.length)=a at *;obtain⟨A1,h1'⟩:∃A1,A1 = [114]++a:=⟨_,rfl⟩;have l1:A1.length≤10:=by rw[h1'];simp;omega
 have hadd1:=fun(W:World)=>run_string_add_lists (P:=Tryz.prog) W [114] a (by decide) (by omega)
 have hadd2:=fun(W:World)=>run_string_add_lists (P:=Tryz.prog) W A1 d (by omega) (by omega)
 rw[←h1'] at hadd1 ⊢;clear h1' hl
 go_enter Tryz.func146,Tryz.ntmps146
 go_wp2_with(first
  |(go_at_call 151;refine IT.out.mono ?_;rintro e w1 ⟨rfl,k1⟩;have K1:=zz0 k1;clear k1)
  |(go_at_call 152;refine(RP.out _).mono ?_;rintro e w2 ⟨rfl,k2⟩;have K2:=zz0 k2;clear k2))
 go_ret;exact⟨rfl,K1.out.trans1 K2.out⟩
theorem zfE {F:Nat→Prop}{w w2 w3 w4:World}{q p b:Nat}{X:Dk}(k2:za zq2 w w2)(t:zn F w2 q p X w3)(k:za (zq3 b) w3 w4)(hb:w.heap.size≤b)(hb2:b<w2.heap.size)(hF:∀g,F g→g<w.heap.size):zn F w q p X w4:=by
 obtain⟨k3,F',s,d⟩:=t;refine⟨(k2.ofNon.trans1 k3).trans k (fun _ _ e=>e) (fun g hg e=>by have e':g=b:=e;omega),F',?_,d.keep k (fun g hg e=>?_)⟩
 ·intro g e
  rcases s g e with e|e
  ·exact .inl e
  ·exact .inr (by have:=k2.size;omega)
 ·have e':g=b:=e
  rcases s g hg with h|h
  ·have:=hF g h
   omega
  ·omega
section
attribute [local go_sem ↓] zbB zU zbC zbD zV zbE zab zbK
theorem zqu (F:Nat→Prop)(b q p num place f:Nat)(la:Option Addr)(lc:Nat)(v:Value)(cl:List Cl)(X:Dk)(a k fu:Nat)(w:World)(hb:w.heap[b]? = some (VtB q (.slice la num lc)))(d:zk F w q p X)(hl:X.lim a k fu)(ha:a≤505)(hk:k≤990)(hf:fu≤400000000)(hF:∀g,F g→g<w.heap.size)
 (hn:num<100) (hpl:place<100) (hcs:CsAt w v cl) (hne:cl≠[]) (h64:cl.length≤64) (hok:∀x ∈ cl,zcl x) (hfl:f+cl.length≤1048576) (hbl:(zo f++runB cl).length≤65536) (hs:(zaC f cl).length≤65536) (hK:Kon w) (hFr:Frs w) (hbF:¬F b)
 (hcode:(X.sput (zt num place) (zaC f cl)).1=0) :
 Calls Tryz.prog 184 #[.pointer (some ⟨b,0,none⟩),.int .i64 num,.int .i64 place,.agg #[.int .i64 f,v]] w fun e w'=>e = .returned (.tuple #[ptV (zaI f cl),.nilIface])∧zn F w q p (X.sput (zt num place) (zaC f cl)).2 w':=by
 have OF:=zz0 (fun w1 (kk:za zq2 w w1)=>zo4 f v cl w1 (hcs.keepNon kk) hne h64 hok hfl hbl (by omega) (hK.keep kk) (hFr.keep kk))
 have SP:Hid (∀w2 v2,za zq2 w w2→Bs w2 v2 (zaC f cl)→(∀g,v2.ownBlock=some g→w.heap.size≤g)→Calls Tryz.prog 117 #[.pointer (some ⟨q,0,none⟩),.string ⟨(zt num place).toArray⟩,v2] w2 fun e w'=>e = .returned .nilIface∧zn F w2 q p (X.sput (zt num place) (zaC f cl)).2 w'):=zz0 (fun w2 v2 k2 hv hg=>by
  refine(zdn F q p v2 (zt num place) (zaC f cl) X a k fu w2 (d.keep k2 (fun _ _ e=>e)) hl ha hk hf (zcb num place hn hpl) hv hs (fun g e e2=>by have:=hg g e;have:=hF g e2;omega)).mono ?_
  rintro e w' ⟨rfl,t⟩;rw[zbH hcode];exact⟨rfl,t⟩)
 have LB:Hid (∀W,Calls Tryz.prog 240 #[.int .i64 num,.int .i64 place] W fun e w'=>e = .returned (.string ⟨(zt num place).toArray⟩)∧za zq2 W w'):=zz0 (fun W=>zd1 num place W hn hpl)
 obtain⟨sa,sc,rfl,_⟩:=hcs;have HB:=zz0 hb;have HF:=zz0 hF;have HBF:=zz0 hbF;have kA:za zq2 w ((w.alloc (.cells #[.int .i64 f,.slice sa cl.length sc] 263)).alloc (.cells zrb 125)):=((za.refl _ _).alloc _).alloc _;have c1:=vt_1 (zh kA hb);have ZA:=zz0 (zaa w (.cells #[.int .i64 f,.slice sa cl.length sc] 263 (0,0)) (.cells zrb 125 (0,0)));have OFA:=zz0 (OF.out _ kA);have KA:=zz0 kA;dsimp only[zrb] at c1 OFA;have hnp:¬(place:Int)<0:=by omega
 have hnp2:¬(1023:Int)<(place:Int):=by omega
 clear d hl hF hK hFr hok hne hbl hcode hb kA
 go_enter Tryz.func184,Tryz.ntmps184
 go_wp2_with(go_at_call 239;refine OFA.out.mono ?_;rintro e w1 ⟨v1,rfl,k1,o1⟩;obtain⟨a1,c1',rfl,_,_⟩:=zb o1;have K1:Hid (za zq2 w w1):=zz0 (KA.out.trans1 k1);have z1:w1.heap[w.heap.size+1]? = some (.cells zrb 125 (0,0)):=zh k1 ZA.out;have Z1:=zz0 z1;have c0:=vt_0 (zh K1.out HB.out);have hs0:=zac w1 (zaI f cl) (zJ _);have c0b:=vt_0 (zh ((za.refl zq2 w1).alloc (zq4 (zaI f cl))) (zh K1.out HB.out));dsimp only[zrb,zq4] at hs0 c0b;have S1:Hid (w.heap.size+2≤w1.heap.size):=zz0 (by have:=k1.size;simpa using this);have O1:Hid (w1.ownsRow w.heap.size 5 1 (.slice a1 (zaC f cl).length c1') (zaC f cl).length ((zaC f cl).map bv)):=zz0 (zg o1 (by simp;omega));clear k1 o1 z1)
 go_region_law(go_simp;first
  |(go_at_call 240;refine(LB.out _).mono ?_;rintro e w2 ⟨rfl,k2⟩;have k2':za zq2 w1 w2:=(((za.refl zq2 w1).alloc (zq4 (zaI f cl))).drew).trans1 k2;have P2:=zz0 (zh k2 (by exact ze w1 (zq4 (zaI f cl))));have d0:=vt_0 (zh (K1.out.trans1 k2') HB.out);have K2:=zz0 (K1.out.trans1 k2');have S2:Hid (w1.heap.size≤w2.heap.size):=zz0 k2'.size;have Z2:=zz0 (zh k2' Z1.out);have SPW:=zz0 (SP.out w2 (.slice a1 (zaC f cl).length c1') K2.out (Rd.keepNon (Rd.ofOwns O1.out) k2') (fun g e=>(O1.out.lt g e).1));clear k2 k2')
  |(go_at_call 117;refine SPW.out.mono ?_;rintro e w3 ⟨rfl,t3⟩;have k3:=t3.1;have z3:w3.heap[w.heap.size+1]? = some (.cells zrb 125 (0,0)):=k3.at Z2.out (fun e=>by have:=HF.out _ e;omega);have hst:=zbR w3 (w.heap.size+1) (zaI f cl) zrb (zJ _) rfl z3;have HL:=zz0 (zaB (p:=zaI f cl) (setRow_heap w3 (w.heap.size+1) _ (zq8 (zaI f cl)).toArray _ _ z3) (zJ _));have p3:w3.heap[w1.heap.size]? = some (zq4 (zaI f cl)):=k3.at P2.out (fun e=>by have:=HF.out _ e;have:=S1.out;omega);have hlp:=zaB p3 (zJ _);have T3:=zz0 t3;clear t3 k3 z3 p3))
 all_goals go_wp2_with fail
 all_goals
  have hlv:=HL.out;unfold zZ at hlv;refine bodyPost_ret (v:=.tuple #[ptV (zaI f cl),.nilIface]) (by simp[results,Tryz.results184,asAddr,hlv]) rfl ?_
  have k4:za (zq3 (w.heap.size+1)) w3 (w3.setRow (w.heap.size+1) (zq8 (zaI f cl)).toArray):=(za.refl (zq3 (w.heap.size+1)) _).setRow (.inl (zK _)) _;have s1:=S1.out;have h12:=S2.out;exact⟨rfl,zfE K2.out T3.out k4 (by omega) (by omega) HF.out⟩
end
theorem zla (w:World):(holdB 125 #[]).run Tryz.prog w = .ok (.agg zrb) w:=run_build w 125 _ _ (by kernel_rfl)
theorem zdY (w:World)(g:Nat)(hg:w.heap[g]? = some (.cells zrb 125 (0,0))):(holdW 125 ⟨g,0,none⟩ (.agg zrb)).run Tryz.prog w = .ok () (w.setRow g zrb) :=
 run_storeVar_row (P:=Tryz.prog) w g 125 125 zrb zrb hg szPt rfl (by kernel_rfl)
theorem znV {w:World}{g:Nat}(hg:w.heap[g]? = some (.cells zrb 125 (0,0))):(zZ 125 ⟨g,0,none⟩).run Tryz.prog w = .ok (.agg zrb) w:=by
 have h:=zew (t:=125) (n:=35) Tryz.isAgg125 Tryz.sizeOf125 w g 0 zrb.toList rfl (fun j v hv=>by rw[Nat.zero_add,cell_of_row _ _ j _ _ _ hg];simpa using hv)
 simpa using h
section
attribute [local go_sem ↓] zbB zU zbC zbD zV zbE zab zbK
theorem zqt (F:Nat→Prop)(b q p num place f:Nat)(la:Option Addr)(lc:Nat)(v:Value)(cl:List Cl)(X:Dk)(a k fu:Nat)(w:World)(hb:w.heap[b]? = some (VtB q (.slice la num lc)))(d:zk F w q p X)(hl:X.lim a k fu)(ha:a≤505)(hk:k≤990)(hf:fu≤400000000)(hF:∀g,F g→g<w.heap.size)
 (hn:num<100) (hpl:place<100) (hcs:CsAt w v cl) (hne:cl≠[]) (h64:cl.length≤64) (hok:∀x ∈ cl,zcl x) (hfl:f+cl.length≤1048576) (hbl:(zo f++runB cl).length≤65536) (hs:(zaC f cl).length≤65536) (hK:Kon w) (hFr:Frs w) (hbF:¬F b)
 (code:Int) (hcd:(X.sput (zt num place) (zaC f cl)).1=code) (hcode:code≠0) :
 Calls Tryz.prog 184 #[.pointer (some ⟨b,0,none⟩),.int .i64 num,.int .i64 place,.agg #[.int .i64 f,v]] w fun e w'=>e = .returned (.tuple #[.agg zrb,.iface 89 (.int .i64 code)])∧zn F w q p (X.sput (zt num place) (zaC f cl)).2 w':=by
 have OF:=zz0 (fun w1 (kk:za zq2 w w1)=>zo4 f v cl w1 (hcs.keepNon kk) hne h64 hok hfl hbl (by omega) (hK.keep kk) (hFr.keep kk))
 have SP:Hid (∀w2 v2,za zq2 w w2→Bs w2 v2 (zaC f cl)→(∀g,v2.ownBlock=some g→w.heap.size≤g)→Calls Tryz.prog 117 #[.pointer (some ⟨q,0,none⟩),.string ⟨(zt num place).toArray⟩,v2] w2 fun e w'=>e = .returned (.iface 89 (.int .i64 code))∧zn F w2 q p (X.sput (zt num place) (zaC f cl)).2 w'):=zz0 (fun w2 v2 k2 hv hg=>by
  refine(zdn F q p v2 (zt num place) (zaC f cl) X a k fu w2 (d.keep k2 (fun _ _ e=>e)) hl ha hk hf (zcb num place hn hpl) hv hs (fun g e e2=>by have:=hg g e;have:=hF g e2;omega)).mono ?_
  rintro e w' ⟨rfl,t⟩;rw[hcd,zaA hcode];exact⟨rfl,t⟩)
 have LB:Hid (∀W,Calls Tryz.prog 240 #[.int .i64 num,.int .i64 place] W fun e w'=>e = .returned (.string ⟨(zt num place).toArray⟩)∧za zq2 W w'):=zz0 (fun W=>zd1 num place W hn hpl)
 obtain⟨sa,sc,rfl,_⟩:=hcs;have HB:=zz0 hb;have HF:=zz0 hF;have HBF:=zz0 hbF;have kA:za zq2 w ((w.alloc (.cells #[.int .i64 f,.slice sa cl.length sc] 263)).alloc (.cells zrb 125)):=((za.refl _ _).alloc _).alloc _;have c1:=vt_1 (zh kA hb);have ZA:=zz0 (zaa w (.cells #[.int .i64 f,.slice sa cl.length sc] 263 (0,0)) (.cells zrb 125 (0,0)));have OFA:=zz0 (OF.out _ kA);have KA:=zz0 kA;dsimp only[zrb] at c1 OFA;have hnp:¬(place:Int)<0:=by omega
 have hnp2:¬(1023:Int)<(place:Int):=by omega
 have hbz:=zla;clear d hl hF hK hFr hok hne hbl hcode hcd hb kA
 go_enter Tryz.func184,Tryz.ntmps184
 go_wp2_with(go_at_call 239;refine OFA.out.mono ?_;rintro e w1 ⟨v1,rfl,k1,o1⟩;obtain⟨a1,c1',rfl,_,_⟩:=zb o1;have K1:Hid (za zq2 w w1):=zz0 (KA.out.trans1 k1);have z1:w1.heap[w.heap.size+1]? = some (.cells zrb 125 (0,0)):=zh k1 ZA.out;have Z1:=zz0 z1;have c0:=vt_0 (zh K1.out HB.out);have hs0:=zac w1 (zaI f cl) (zJ _);have c0b:=vt_0 (zh ((za.refl zq2 w1).alloc (zq4 (zaI f cl))) (zh K1.out HB.out));dsimp only[zrb,zq4] at hs0 c0b;have S1:Hid (w.heap.size+2≤w1.heap.size):=zz0 (by have:=k1.size;simpa using this);have O1:Hid (w1.ownsRow w.heap.size 5 1 (.slice a1 (zaC f cl).length c1') (zaC f cl).length ((zaC f cl).map bv)):=zz0 (zg o1 (by simp;omega));clear k1 o1 z1)
 go_region_law(go_simp;first
  |(go_at_call 240;refine(LB.out _).mono ?_;rintro e w2 ⟨rfl,k2⟩;have k2':za zq2 w1 w2:=(((za.refl zq2 w1).alloc (zq4 (zaI f cl))).drew).trans1 k2;have P2:=zz0 (zh k2 (by exact ze w1 (zq4 (zaI f cl))));have d0:=vt_0 (zh (K1.out.trans1 k2') HB.out);have K2:=zz0 (K1.out.trans1 k2');have S2:Hid (w1.heap.size≤w2.heap.size):=zz0 k2'.size;have Z2:=zz0 (zh k2' Z1.out);have SPW:=zz0 (SP.out w2 (.slice a1 (zaC f cl).length c1') K2.out (Rd.keepNon (Rd.ofOwns O1.out) k2') (fun g e=>(O1.out.lt g e).1));clear k2 k2')
  |(go_at_call 117;refine SPW.out.mono ?_;rintro e w3 ⟨rfl,t3⟩;have k3:=t3.1;have z3:w3.heap[w.heap.size+1]? = some (.cells zrb 125 (0,0)):=k3.at Z2.out (fun e=>by have:=HF.out _ e;omega);have hst:=zdY w3 (w.heap.size+1) z3;have HL:=zz0 (znV (setRow_heap w3 (w.heap.size+1) _ zrb _ _ z3));have p3:w3.heap[w1.heap.size]? = some (zq4 (zaI f cl)):=k3.at P2.out (fun e=>by have:=HF.out _ e;have:=S1.out;omega);have hlp:=zaB p3 (zJ _);have T3:=zz0 t3;clear t3 k3 z3 p3))
 all_goals go_wp2_with fail
 all_goals
  have hlv:=HL.out;unfold zZ at hlv;refine bodyPost_ret (v:=.tuple #[.agg zrb,.iface 89 (.int .i64 code)]) (by simp[results,Tryz.results184,asAddr,hlv]) rfl ?_
  have k4:za (zq3 (w.heap.size+1)) w3 (w3.setRow (w.heap.size+1) zrb):=(za.refl (zq3 (w.heap.size+1)) _).setRow (.inl (zK _)) _;have s1:=S1.out;have h12:=S2.out;exact⟨rfl,zfE K2.out T3.out k4 (by omega) (by omega) HF.out⟩
end
theorem zd8:∀(f:Nat)(last:List UInt8)(cl:List Cl),(∀x ∈ cl,zcl x)→cl.length≤64→last.length≤64→(zak f last cl).length≤96*cl.length
 |0,_,_,_,_,_=>by simp[zak]
 |f+1,_,[],_,_,_=>by simp[zak]
 |f+1,last,x::r,h,hl,hla=>by
  obtain⟨h0,h3,h64,h1⟩:=h x (by simp)
  have hle:=ziM (x::r);have ha:=zcT last x.2;simp only[List.length_cons] at hl hle ⊢;show(if 0<zcR (x::r) then zo (zcR (x::r))++zo x.1.toNat++zak f last ((x::r).drop (zcR (x::r))) else zo 0++zo x.2.length++zo (zad last x.2)++x.2.drop (zad last x.2)++zak f x.2 r).length≤_
  split
  ·rename_i hp
   have ih:=zd8 f last ((x::r).drop (zcR (x::r))) (fun y hy=>h y (List.mem_of_mem_drop hy)) (by rw[List.length_drop];simp;omega) hla
   have e1:=zP (n:=zcR (x::r)) (by omega)
   have e2:=zP (n:=x.1.toNat) (by omega)
   rw[List.length_drop] at ih;simp only[List.length_cons] at ih;simp only[List.length_append];omega
  ·have ih:=zd8 f x.2 r (fun y hy=>h y (by simp[hy])) (by omega) h64
   have e0:=zP (n:=0) (by omega)
   have e1:=zP (n:=x.2.length) (by omega)
   have e2:=zP (n:=zad last x.2) (by omega)
   simp only[List.length_append,List.length_drop];omega
theorem zfC {f:Nat}{cl:List Cl}(h:∀x ∈ cl,zcl x)(hl:cl.length≤64)(hf:f≤1048576):(zo f++runB cl).length≤6200:=by
 have h1:=zd8 cl.length [] cl h hl (by simp)
 have e1:=zP (n:=cl.length) (by omega)
 have e2:=zP (n:=f) (by omega)
 unfold runB;simp only[List.length_append];omega
theorem zdM {t:List UInt8}(h:t.length≤60000):(zbb t).length≤t.length+7:=by
 have e:=zP (n:=t.length) (by omega)
 unfold zbb sealB;rw[List.length_append,zbz,zbZ];omega
theorem zeb {f:Nat}{cl:List Cl}(h:∀x ∈ cl,zcl x)(hl:cl.length≤64)(hf:f≤1048576):(zaC f cl).length≤6207:=by
 have h1:=zfC h hl hf;have h2:=zdM (t:=zo f++runB cl) (by omega)
 exact Nat.le_trans h2 (by omega)
theorem zqB {c:Cu}(h:zdQ c)(hp:∀p ∈ c.parts,p.many<2^63∧p.size<2^63∧p.sum.length=32):(zco c).length≤3300:=by
 have h1:=zdk c.parts hp;have h2:=h.many;have h3:=h.le;have h4:=h.hi;have h5:=h.trim;have h6:=h.lo;have h7:=zaf [c.lo,c.next,c.hi,c.trim,c.parts.length] (by intro n hn;simp at hn;omega)
 have h8:(cuT c).length≤3245:=by
  unfold cuT;rw[List.length_append];simp only[List.length_cons,List.length_nil] at h7;omega
 have h9:=zdM (t:=cuT c) (by omega)
 exact Nat.le_trans h9 (by omega)
section
attribute [local go_sem ↓] zbB zU zbC zbD zV zbE zab zbK
end
end Go.Proofs.YtpojgmeoaflmoaaGreatDoor
