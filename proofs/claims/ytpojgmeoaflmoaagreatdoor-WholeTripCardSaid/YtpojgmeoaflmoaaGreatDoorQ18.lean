/- cursor.Done, Save, Clear, Load where the -/
import Derived.Lib.IfaceEq
import Derived.Test.YtpojgmeoaflmoaaGreatDoorQ16
set_option linter.unusedVariables false
set_option maxRecDepth 100000
set_option maxHeartbeats 16000000
namespace Go.Proofs.YtpojgmeoaflmoaaGreatDoor
open Go.RowKit Go.Maps
theorem ze4 (i j:Int)(w:World):(binOp .eql 35 (.iface 89 (.int .i64 i)) (.iface 89 (.int .i64 j))).run Tryz.prog w = .ok (.bool (i==j)) w :=
 Lib.run_eql_iface_int w i j Tryz.underlying35 (by kernel_rfl) Tryz.underlying89
theorem zdx (j:Int)(w:World):(binOp .eql 35 .nilIface (.iface 89 (.int .i64 j))).run Tryz.prog w = .ok (.bool false) w:=by
 have h:∀d:Nat,(Op.equalIn (d+1) 35 .nilIface (.iface 89 (.int .i64 j))).run Tryz.prog w = .ok false w:=fun d=>by simp[Op.equalIn,run_underlying Tryz.underlying35]
 simp only[binOp];simp[Op.equal,Op.maxDepth,h 9999]
theorem zd6 (c:Cu)(a:Option Addr)(n k:Nat)(w:World) :
 Calls Tryz.prog 118 #[cuV c (.slice a n k)] w fun e w'=>e = .returned (.bool (decide (c.next=c.hi)))∧za zq2 w w':=by
 unfold cuV
 go_enter Tryz.func118,Tryz.ntmps118
 go_wp2_with fail
 go_ret;refine⟨congrArg (fun b=>Ending.returned (.bool b)) ?_,(za.refl _ _).alloc _⟩
 show((c.next:Int)==c.hi)=_
 by_cases h:c.next=c.hi
 ·simp[h]
 ·simp[h];omega
theorem zdc (F:Nat→Prop)(q p:Nat)(c:Cu)(pv:Value)(n:zqY)(X:Dk)(a k f:Nat)(w:World)(d:zk F w q p X)(hl:X.lim a k f)(ha:a≤505)(hk:k≤990)(hf:f≤400000000)(hF:∀g,F g→g<w.heap.size)
 (hn:zbg n) (h:zdQ c) (hp:zC w pv c.parts) (hb:(zco c).length≤65536) :
 Calls Tryz.prog 65 #[.pointer (some ⟨q,0,none⟩),sv n,cuV c pv] w fun e w'=>e = .returned (zbU (X.sput n (zco c)).1)∧zn F w q p (X.sput n (zco c)).2 w':=by
 have PU:=zz0 (fun w1 (k:za zq2 w w1)=>zns c pv w1 h (hp.keepNon k))
 have SP:Hid (∀w2 v,za zq2 w w2→Bs w2 v (zco c)→(∀g,v.ownBlock=some g→w.heap.size≤g)→Calls Tryz.prog 117 #[.pointer (some ⟨q,0,none⟩),.string ⟨n.toArray⟩,v] w2 fun e w'=>e = .returned (zbU (X.sput n (zco c)).1)∧zn F w q p (X.sput n (zco c)).2 w'):=zz0 (fun w2 v k2 hv hg=>by
  refine(zdn F q p v n (zco c) X a k f w2 (d.keep k2 (fun _ _ e=>e)) hl ha hk hf hn hv hb (fun g e e2=>by have:=hg g e;have:=hF g e2;omega)).mono ?_
  rintro e w' ⟨rfl,t⟩;exact⟨rfl,zn.trans (zq5.refl _ _) k2.ofNon t⟩)
 obtain⟨ra,rk,rfl,_,_,_⟩:=hp;clear d hl hF h;generalize (X.sput n (zco c)).1=code at SP ⊢;generalize (X.sput n (zco c)).2=Y at SP ⊢;unfold cuV sv at *
 go_enter Tryz.func65,Tryz.ntmps65
 go_wp2_with(first
  |(go_at_call 116;refine(PU.out _ ((za.refl _ _).alloc _)).mono ?_;rintro e w1 ⟨v1,rfl,k1,o1⟩;obtain⟨a1,c1,rfl,_,_⟩:=zb o1;have b1:=zh k1 (ze w (zq0 c (.slice ra c.parts.length rk)));have K1:=zz0 (((za.refl zq2 w).alloc _).trans1 k1);have O1:=zz0 o1;clear k1 o1 b1)
  |(go_at_call 117;refine(SP.out w1 _ K1.out (Rd.ofOwns O1.out) (fun g e=>by have:=(O1.out.lt g e).1;simp at this;omega)).mono ?_;rintro e w2 ⟨rfl,t2⟩;have T2:=zz0 t2;clear t2))
 go_ret;exact⟨rfl,T2.out⟩
theorem zdv (F:Nat→Prop)(q p:Nat)(n:zqY)(X:Dk)(w:World)(d:zk F w q p X)(hm:X.mild)(hmap:IsMap X.shown)(hn:zbg n) :
 Calls Tryz.prog 70 #[.pointer (some ⟨q,0,none⟩),sv n] w fun e w'=>e = .returned (zbU (if (X.sdel n).1=4 then 0 else (X.sdel n).1))∧zn F w q p (X.sdel n).2 w':=by
 have SD:=zz0 (zop F q p n X w d hm hmap hn);clear d hm hmap;have hee:=fun(i:Int)=>ze4 i 4
 have hne:=zdx 4;generalize (X.sdel n).1=code at SD ⊢;generalize (X.sdel n).2=Y at SD ⊢;by_cases h0:code=0
 ·rw[if_neg (by omega)]
  have e0:=zbH h0;rw[e0] at SD ⊢;unfold sv at *
  go_enter Tryz.func70,Tryz.ntmps70
  go_wp2_with(go_at_call 122;refine SD.out.mono ?_;rintro e w1 ⟨rfl,t1⟩;have T1:=zz0 t1;clear t1)
  go_ret;exact⟨rfl,T1.out⟩
 ·by_cases h4:code=4
  ·subst h4
   rw[if_pos rfl,zaK];have e0:=zaA (c:=4) (by decide)
   rw[e0] at SD;unfold sv at *
   go_enter Tryz.func70,Tryz.ntmps70
   go_wp2_with(go_at_call 122;refine SD.out.mono ?_;rintro e w1 ⟨rfl,t1⟩;have T1:=zz0 t1;clear t1)
   go_ret;exact⟨rfl,T1.out⟩
  ·rw[if_neg h4]
   have e0:=zaA h0;rw[e0] at SD ⊢;have hc4:(code==4)=false:=by simpa using h4
   unfold sv at *
   go_enter Tryz.func70,Tryz.ntmps70
   go_wp2_with(go_at_call 122;refine SD.out.mono ?_;rintro e w1 ⟨rfl,t1⟩;have T1:=zz0 t1;clear t1)
   go_ret;exact⟨rfl,T1.out⟩
theorem zeW (F:Nat→Prop)(q p:Nat)(n:zqY)(X:Dk)(w:World)(d:zk F w q p X)(hn:zbg n)(hd:X.down=false)(hh:zz X.shown n=false) :
 Calls Tryz.prog 112 #[.pointer (some ⟨q,0,none⟩),sv n] w fun e w'=>e = .returned (.tuple #[.agg #[.int .i64 0,.int .i64 0,.int .i64 0,.int .i64 0,.slice none 0 0],.bool false,.nilIface])∧za zq2 w w':=by
 have G:=zz0 (fun w1 (k:za zq2 w w1)=>zdX F q p n X w1 (d.keep k (fun _ _ e=>e)) hn hd hh)
 have hee:=ze4 4 4;rw[show((4:Int)==4)=true from rfl] at hee
 clear d;unfold sv at *
 go_enter Tryz.func112,Tryz.ntmps112
 go_wp2_with(go_at_call 48;refine(G.out _ ((za.refl _ _).alloc _)).mono ?_;rintro e w1 ⟨rfl,k1⟩;have b1:=zh k1 (ze w (zq0 ⟨0,0,0,0,[]⟩ (.slice none 0 0)));have K1:=zz0 (((za.refl zq2 w).alloc _).trans1 k1);have B1:=zz0 b1;have i0':=cu_0 b1;have i1':=cu_1 b1;have i2':=cu_2 b1;have i3':=cu_3 b1;have i4':=cu_4 b1;have j0':=zb5 b1 0;have j1':=zb5 b1 1;have j2':=zb5 b1 2;have j3':=zb5 b1 3;have j4':=zb5 b1 4;clear k1 b1)
 obtain⟨r0,r1,r2,r3,r4,kf⟩:=zdu B1.out (.int .i64 0) (.int .i64 0) (.int .i64 0) (.int .i64 0) (.slice none 0 0) _ rfl;refine bodyPost_ret (v:=.tuple #[.agg #[.int .i64 0,.int .i64 0,.int .i64 0,.int .i64 0,.slice none 0 0],.bool false,.nilIface]) (by simp[results,Tryz.results112,go_sem,r0,r1,r2,r3,r4]) rfl ?_
 exact⟨rfl,K1.out.trans kf (fun _ _ e=>e) (fun g hg e=>by have e':g=w.heap.size:=e;omega)⟩
end Go.Proofs.YtpojgmeoaflmoaaGreatDoor
