/- A trip, as it comes in (plain). · record -/
import Derived.Test.YtpojgmeoaflmoaaGreatDoorQ04
import Derived.Test.YtpojgmeoaflmoaaGreatDoorQ13
set_option linter.unusedVariables false
set_option maxRecDepth 100000
set_option maxHeartbeats 16000000
namespace Go.Proofs.YtpojgmeoaflmoaaGreatDoor
open Go.ChangeShapes Go.WideShapes Go.Deep Go.RowKit Go.WideMaps
theorem tripStruct:∃f0 f1 f2:Field,Tryz.prog.underlying 25=some (.struct #[f0,f1,f2])∧f0.offset=0∧f1.offset=1∧f2.offset=2∧f0.type=23∧f1.type=23∧f2.type=3:=⟨_,_,_,Tryz.underlying25,rfl,rfl,rfl,rfl,rfl,rfl⟩
theorem tInt:Tryz.prog.cellsOf 3=1:=by kernel_rfl
theorem tInts:Tryz.prog.cellsOf 23=1:=by kernel_rfl
theorem tTrip:Tryz.prog.cellsOf 25=3:=by kernel_rfl
theorem ze7 {α:Type}{l:List α}{n i:Nat}(h:l.length=n)(hi:i<n):∃y,l[i]? = some y:=⟨_,List.getElem?_eq_getElem (by omega)⟩
theorem zf8 {H:Type}{enc:TypeId×Value→H}{w:World}{base:Nat}{spare:Nat→Bool}{held:Bool}{P:Program}{t e:TypeId}{fuel:Nat}{u:Value}{x:DataW H×List MemPlace}(ht:P.underlying t=some (.slice e))(h:DataW.trod enc P w base spare held fuel t [u]=some x):∃a n c,u = .slice a n c:=by
 rcases open_slice ht h with ⟨h0,_⟩|⟨a',len',cap',m,n,D,Pl,hcs,_⟩
 ·simp at h0
  exact⟨_,_,_,h0⟩
 ·simp at hcs
  exact⟨_,_,_,hcs⟩
theorem zmc {H:Type}{enc:TypeId×Value→H}{W:World}{r:Reach}{b0:Nat}{v:Value}{d:DataW H}{ps:List MemPlace}(hval:Value.okWide Tryz.prog W r b0 25 v)(hd:DataW.Trod enc Tryz.prog W 0 (fun _=>true) true 25 v d ps) :
 ∃(ea ta:Option Addr) (el ec tl tc:Nat) (N:Int) (es ts:List Int),v = .agg #[.slice ea el ec,.slice ta tl tc,.int .i64 N]∧Rd W (.slice ea el ec) (es.map (fun x=>Value.int .i64 x))∧Rd W (.slice ta tl tc) (ts.map (fun x=>Value.int .i64 x)):=by
 obtain⟨f0,f1,f2,he,o0,o1,o2,t0,t1,t2⟩:=tripStruct;simp only[Value.okWide,he] at hval;obtain⟨cs,rfl,h2,_⟩:=hval;rw[tTrip] at h2;obtain⟨l⟩:=cs
 match l,h2 with
 |[c0,c1,c2],_ =>
  obtain⟨fuel,hf⟩:=hd;simp only[Value.cells] at hf;obtain⟨ys,n',hn',hy,hlen,hyl,hg⟩:=DataW.trod_struct he hf;have k0:=hg 0 f0 rfl;have k1:=hg 1 f1 rfl;have k2:=hg 2 f2 rfl;obtain⟨y0,e0⟩:=ze7 hyl (i:=0) (by simp)
  obtain⟨y1,e1⟩:=ze7 hyl (i:=1) (by simp)
  obtain⟨y2,e2⟩:=ze7 hyl (i:=2) (by simp)
  rw[o0,t0,tInts,e0] at k0;rw[o1,t1,tInts,e1] at k1;rw[o2,t2,tInt,e2] at k2;have m0:DataW.trod enc Tryz.prog W 0 (fun _=>true) true n' 23 [c0]=some y0:=k0
  have m1:DataW.trod enc Tryz.prog W 0 (fun _=>true) true n' 23 [c1]=some y1:=k1
  have m2:DataW.trod enc Tryz.prog W 0 (fun _=>true) true n' 3 [c2]=some y2:=k2
  obtain⟨ea,el,ec,rfl⟩:=zf8 Tryz.underlying23 m0;obtain⟨ta,tl,tc,rfl⟩:=zf8 Tryz.underlying23 m1;obtain⟨N,e3,_,_⟩:=DataW.trod_int Tryz.underlying3 m2;simp at e3;subst e3;obtain⟨es,h3⟩:=zfl m0;obtain⟨ts,h4⟩:=zfl m1;exact⟨ea,ta,el,ec,tl,tc,N,es,ts,rfl,h3,h4⟩
end Go.Proofs.YtpojgmeoaflmoaaGreatDoor
namespace Go.Proofs.YtpojgmeoaflmoaaGreatDoor
open Go.RowKit Go.Maps
theorem zbX {a b:Nat}(h1:a<2^63)(h2:b<2^63):(zm [a,b]).length≤18:=by
 have:=zaf [a,b] (by intro n hn;simp at hn;omega)
 simpa using this
theorem zbW {a:Nat}(h1:a<2^63):(zm [a]).length≤9:=by
 have:=zaf [a] (by intro n hn;simp at hn;omega)
 simpa using this
theorem ziH (e:Nat)(w:World)(he:e≤1099511627776) :
 Calls Tryz.prog 145 #[.agg #[.int .i64 1,.int .i64 e,.int .i64 0,.slice none 0 0]] w fun r w'=>∃v,r = .returned (.tuple #[v,.nilIface])∧za zq2 w w'∧w'.ownsRow w.heap.size 5 1 v (zaE 1 e 0 []).length ((zaE 1 e 0 []).map bv):=by
 have CK:=zz0 (fun W=>zdT e W he)
 have hw2:=zX (n:=e) (by omega)
 have hl:=zbX (a:=1) (b:=e) (by decide) (by omega)
 have e0:actT 1 e 0 []=zm [1,e]:=by simp[actT]
 unfold zaE;rw[e0];obtain⟨T0,hT0⟩:∃T0,T0=zm [1,e]:=⟨_,rfl⟩;have PP:Hid (∀W,Calls Tryz.prog 179 #[.slice none 0 0,.slice (some ⟨W.heap.size,0,none⟩) 2 2] (W.alloc (.cells #[.int .u64 1,.int .u64 e] 184)) fun r w'=>∃v,r = .returned v∧za zq2 W w'∧w'.ownsRow W.heap.size 5 1 v T0.length (T0.map bv)):=zz0 (fun W=>by
  refine(zS (.slice none 0 0) [] (some ⟨W.heap.size,0,none⟩) 2 [1,e] _ (Rd.nil _) (by simp) (by exact zcQ W 184 [nv 1,nv e]) (by intro n hn;simp at hn;omega) (by simp)).mono ?_
  rintro r w' ⟨v,rfl,k,o⟩;rw[List.nil_append,←hT0] at o;exact⟨v,rfl,((za.refl zq2 W).alloc _).trans1 k,zg o (by simp)⟩)
 rw[←hT0] at hl ⊢;clear hT0 e0
 go_enter Tryz.func145,Tryz.ntmps145
 go_wp2_with(first
  |(go_at_call 210;refine(CK.out _).mono ?_;rintro r w1 ⟨rfl,k1⟩;have b1:=zh k1 (ze w (zbq 1 e 0 (.slice none 0 0)));have c0:=ac_0 b1;have c1:=ac_1 b1;have B1:=zz0 b1;have K1:=zz0 (((za.refl zq2 w).alloc (zbq 1 e 0 (.slice none 0 0))).trans1 k1);clear k1 b1)
  |(go_at_call 179;refine(PP.out _).mono ?_;rintro r w2 ⟨v2,rfl,k2,o2⟩;obtain⟨a2,c2,rfl,_,_⟩:=zb o2;have b2:=zh k2 B1.out;have d0:=ac_0 b2;have K2:=zz0 (K1.out.trans1 k2);have O2:=zz0 o2;clear k2 o2 b2)
  |(go_at_call 180;refine(zca _ T0 _ (Rd.ofOwns O2.out) (by omega)).mono ?_;rintro r w3 ⟨v3,rfl,k3,o3⟩;have K3:=zz0 k3;have O3:=zz0 o3;clear k3 o3))
 go_ret2;exact⟨_,rfl,K2.out.trans1 K3.out,zg O3.out K2.out.size⟩
theorem ziG (e a:Nat)(w:World)(he:e≤1099511627776)(ha:a≤1048575) :
 Calls Tryz.prog 145 #[.agg #[.int .i64 3,.int .i64 e,.int .i64 a,.slice none 0 0]] w fun r w'=>∃v,r = .returned (.tuple #[v,.nilIface])∧za zq2 w w'∧w'.ownsRow w.heap.size 5 1 v (zaE 3 e a []).length ((zaE 3 e a []).map bv):=by
 have CK:=zz0 (fun W=>zdS e a W he ha)
 have hw2:=zX (n:=e) (by omega)
 have hw3:=zX (n:=a) (by omega)
 have hl:=zbX (a:=3) (b:=e) (by decide) (by omega)
 have hl1:=zbW (a:=a) (by omega)
 have e0:actT 3 e a []=zm [3,e]++zm [a]:=by simp[actT]
 unfold zaE;rw[e0];obtain⟨T0,hT0⟩:∃T0,T0=zm [3,e]:=⟨_,rfl⟩;have PP:Hid (∀W,Calls Tryz.prog 179 #[.slice none 0 0,.slice (some ⟨W.heap.size,0,none⟩) 2 2] (W.alloc (.cells #[.int .u64 3,.int .u64 e] 184)) fun r w'=>∃v,r = .returned v∧za zq2 W w'∧w'.ownsRow W.heap.size 5 1 v T0.length (T0.map bv)):=zz0 (fun W=>by
  refine(zS (.slice none 0 0) [] (some ⟨W.heap.size,0,none⟩) 2 [3,e] _ (Rd.nil _) (by simp) (by exact zcQ W 184 [nv 3,nv e]) (by intro n hn;simp at hn;omega) (by simp)).mono ?_
  rintro r w' ⟨v,rfl,k,o⟩;rw[List.nil_append,←hT0] at o;exact⟨v,rfl,((za.refl zq2 W).alloc _).trans1 k,zg o (by simp)⟩)
 rw[←hT0] at hl ⊢;have PQ:Hid (∀W v n,W.ownsRow n 5 1 v T0.length (T0.map bv)→Calls Tryz.prog 179 #[v,.slice (some ⟨W.heap.size,0,none⟩) 1 1] (W.alloc (.cells #[.int .u64 a] 184)) fun r w'=>∃v',r = .returned v'∧za zq2 W w'∧w'.ownsRow W.heap.size 5 1 v' (T0++zm [a]).length ((T0++zm [a]).map bv)):=zz0 (fun W v n o=>by
  refine(zS v T0 (some ⟨W.heap.size,0,none⟩) 1 [a] _ ((Rd.ofOwns o).keepNon ((za.refl zq2 W).alloc _)) (by omega) (zdR _ _ _) (by intro n hn;simp at hn;omega) (by simp)).mono ?_
  rintro r w' ⟨v',rfl,k,o'⟩;exact⟨v',rfl,((za.refl zq2 W).alloc _).trans1 k,zg o' (by simp)⟩)
 have hl3:(T0++zm [a]).length≤30:=by rw[List.length_append];omega
 generalize hT1:T0++zm [a]=T1 at PQ hl3 ⊢;clear hT0 e0 hT1
 go_enter Tryz.func145,Tryz.ntmps145
 go_wp2_with(first
  |(go_at_call 210;refine(CK.out _).mono ?_;rintro r w1 ⟨rfl,k1⟩;have b1:=zh k1 (ze w (zbq 3 e a (.slice none 0 0)));have c0:=ac_0 b1;have c1:=ac_1 b1;have B1:=zz0 b1;have K1:=zz0 (((za.refl zq2 w).alloc (zbq 3 e a (.slice none 0 0))).trans1 k1);clear k1 b1)
  |(go_at_call 179;(with_reducible refine(PP.out _).mono ?_);rintro r w2 ⟨v2,rfl,k2,o2⟩;obtain⟨a2,c2,rfl,_,_⟩:=zb o2;have b2:=zh k2 B1.out;have d0:=ac_0 b2;have d2:=ac_2 b2;have B2:=zz0 b2;have PQ2:=zz0 (PQ.out _ _ _ o2);have K2:=zz0 (K1.out.trans1 k2);clear k2 o2 b2)
  |(go_at_call 179;refine PQ2.out.mono ?_;rintro r w3 ⟨v3,rfl,k3,o3⟩;obtain⟨a3,c3,rfl,_,_⟩:=zb o3;have e0:=ac_0 (zh k3 B2.out);have K3:=zz0 (K2.out.trans1 k3);have O3:=zz0 o3;clear k3 o3)
  |(go_at_call 180;refine(zca _ T1 _ (Rd.ofOwns O3.out) (by omega)).mono ?_;rintro r w4 ⟨v4,rfl,k4,o4⟩;have K4:=zz0 k4;have O4:=zz0 o4;clear k4 o4))
 go_ret2;exact⟨_,rfl,K3.out.trans1 K4.out,zg O4.out K3.out.size⟩
theorem ziI (e a:Nat)(w:World)(he:e≤1099511627776)(ha:a≤1048576) :
 Calls Tryz.prog 145 #[.agg #[.int .i64 4,.int .i64 e,.int .i64 a,.slice none 0 0]] w fun r w'=>∃v,r = .returned (.tuple #[v,.nilIface])∧za zq2 w w'∧w'.ownsRow w.heap.size 5 1 v (zaE 4 e a []).length ((zaE 4 e a []).map bv):=by
 have CK:=zz0 (fun W=>zdU e a W he ha)
 have hw2:=zX (n:=e) (by omega)
 have hw3:=zX (n:=a) (by omega)
 have hl:=zbX (a:=4) (b:=e) (by decide) (by omega)
 have hl1:=zbW (a:=a) (by omega)
 have e0:actT 4 e a []=zm [4,e]++zm [a]:=by simp[actT]
 unfold zaE;rw[e0];obtain⟨T0,hT0⟩:∃T0,T0=zm [4,e]:=⟨_,rfl⟩;have PP:Hid (∀W,Calls Tryz.prog 179 #[.slice none 0 0,.slice (some ⟨W.heap.size,0,none⟩) 2 2] (W.alloc (.cells #[.int .u64 4,.int .u64 e] 184)) fun r w'=>∃v,r = .returned v∧za zq2 W w'∧w'.ownsRow W.heap.size 5 1 v T0.length (T0.map bv)):=zz0 (fun W=>by
  refine(zS (.slice none 0 0) [] (some ⟨W.heap.size,0,none⟩) 2 [4,e] _ (Rd.nil _) (by simp) (by exact zcQ W 184 [nv 4,nv e]) (by intro n hn;simp at hn;omega) (by simp)).mono ?_
  rintro r w' ⟨v,rfl,k,o⟩;rw[List.nil_append,←hT0] at o;exact⟨v,rfl,((za.refl zq2 W).alloc _).trans1 k,zg o (by simp)⟩)
 rw[←hT0] at hl ⊢;have PQ:Hid (∀W v n,W.ownsRow n 5 1 v T0.length (T0.map bv)→Calls Tryz.prog 179 #[v,.slice (some ⟨W.heap.size,0,none⟩) 1 1] (W.alloc (.cells #[.int .u64 a] 184)) fun r w'=>∃v',r = .returned v'∧za zq2 W w'∧w'.ownsRow W.heap.size 5 1 v' (T0++zm [a]).length ((T0++zm [a]).map bv)):=zz0 (fun W v n o=>by
  refine(zS v T0 (some ⟨W.heap.size,0,none⟩) 1 [a] _ ((Rd.ofOwns o).keepNon ((za.refl zq2 W).alloc _)) (by omega) (zdR _ _ _) (by intro n hn;simp at hn;omega) (by simp)).mono ?_
  rintro r w' ⟨v',rfl,k,o'⟩;exact⟨v',rfl,((za.refl zq2 W).alloc _).trans1 k,zg o' (by simp)⟩)
 have hl3:(T0++zm [a]).length≤30:=by rw[List.length_append];omega
 generalize hT1:T0++zm [a]=T1 at PQ hl3 ⊢;clear hT0 e0 hT1
 go_enter Tryz.func145,Tryz.ntmps145
 go_wp2_with(first
  |(go_at_call 210;refine(CK.out _).mono ?_;rintro r w1 ⟨rfl,k1⟩;have b1:=zh k1 (ze w (zbq 4 e a (.slice none 0 0)));have c0:=ac_0 b1;have c1:=ac_1 b1;have B1:=zz0 b1;have K1:=zz0 (((za.refl zq2 w).alloc (zbq 4 e a (.slice none 0 0))).trans1 k1);clear k1 b1)
  |(go_at_call 179;(with_reducible refine(PP.out _).mono ?_);rintro r w2 ⟨v2,rfl,k2,o2⟩;obtain⟨a2,c2,rfl,_,_⟩:=zb o2;have b2:=zh k2 B1.out;have d0:=ac_0 b2;have d2:=ac_2 b2;have B2:=zz0 b2;have PQ2:=zz0 (PQ.out _ _ _ o2);have K2:=zz0 (K1.out.trans1 k2);clear k2 o2 b2)
  |(go_at_call 179;refine PQ2.out.mono ?_;rintro r w3 ⟨v3,rfl,k3,o3⟩;obtain⟨a3,c3,rfl,_,_⟩:=zb o3;have e0:=ac_0 (zh k3 B2.out);have K3:=zz0 (K2.out.trans1 k3);have O3:=zz0 o3;clear k3 o3)
  |(go_at_call 180;refine(zca _ T1 _ (Rd.ofOwns O3.out) (by omega)).mono ?_;rintro r w4 ⟨v4,rfl,k4,o4⟩;have K4:=zz0 k4;have O4:=zz0 o4;clear k4 o4))
 go_ret2;exact⟨_,rfl,K3.out.trans1 K4.out,zg O4.out K3.out.size⟩
theorem zkz (e a:Nat)(w:World)(he:e≤1099511627776)(ha:a≤1048576) :
 Calls Tryz.prog 145 #[.agg #[.int .i64 5,.int .i64 e,.int .i64 a,.slice none 0 0]] w fun r w'=>∃v,r = .returned (.tuple #[v,.nilIface])∧za zq2 w w'∧w'.ownsRow w.heap.size 5 1 v (zaE 5 e a []).length ((zaE 5 e a []).map bv):=by
 have CK:=zz0 (fun W=>zel e a W he ha)
 have hw2:=zX (n:=e) (by omega)
 have hw3:=zX (n:=a) (by omega)
 have hl:=zbX (a:=5) (b:=e) (by decide) (by omega)
 have hl1:=zbW (a:=a) (by omega)
 have e0:actT 5 e a []=zm [5,e]++zm [a]:=by simp[actT]
 unfold zaE;rw[e0];obtain⟨T0,hT0⟩:∃T0,T0=zm [5,e]:=⟨_,rfl⟩;have PP:Hid (∀W,Calls Tryz.prog 179 #[.slice none 0 0,.slice (some ⟨W.heap.size,0,none⟩) 2 2] (W.alloc (.cells #[.int .u64 5,.int .u64 e] 184)) fun r w'=>∃v,r = .returned v∧za zq2 W w'∧w'.ownsRow W.heap.size 5 1 v T0.length (T0.map bv)):=zz0 (fun W=>by
  refine(zS (.slice none 0 0) [] (some ⟨W.heap.size,0,none⟩) 2 [5,e] _ (Rd.nil _) (by simp) (by exact zcQ W 184 [nv 5,nv e]) (by intro n hn;simp at hn;omega) (by simp)).mono ?_
  rintro r w' ⟨v,rfl,k,o⟩;rw[List.nil_append,←hT0] at o;exact⟨v,rfl,((za.refl zq2 W).alloc _).trans1 k,zg o (by simp)⟩)
 rw[←hT0] at hl ⊢;have PQ:Hid (∀W v n,W.ownsRow n 5 1 v T0.length (T0.map bv)→Calls Tryz.prog 179 #[v,.slice (some ⟨W.heap.size,0,none⟩) 1 1] (W.alloc (.cells #[.int .u64 a] 184)) fun r w'=>∃v',r = .returned v'∧za zq2 W w'∧w'.ownsRow W.heap.size 5 1 v' (T0++zm [a]).length ((T0++zm [a]).map bv)):=zz0 (fun W v n o=>by
  refine(zS v T0 (some ⟨W.heap.size,0,none⟩) 1 [a] _ ((Rd.ofOwns o).keepNon ((za.refl zq2 W).alloc _)) (by omega) (zdR _ _ _) (by intro n hn;simp at hn;omega) (by simp)).mono ?_
  rintro r w' ⟨v',rfl,k,o'⟩;exact⟨v',rfl,((za.refl zq2 W).alloc _).trans1 k,zg o' (by simp)⟩)
 have hl3:(T0++zm [a]).length≤30:=by rw[List.length_append];omega
 generalize hT1:T0++zm [a]=T1 at PQ hl3 ⊢;clear hT0 e0 hT1
 go_enter Tryz.func145,Tryz.ntmps145
 go_wp2_with(first
  |(go_at_call 210;refine(CK.out _).mono ?_;rintro r w1 ⟨rfl,k1⟩;have b1:=zh k1 (ze w (zbq 5 e a (.slice none 0 0)));have c0:=ac_0 b1;have c1:=ac_1 b1;have B1:=zz0 b1;have K1:=zz0 (((za.refl zq2 w).alloc (zbq 5 e a (.slice none 0 0))).trans1 k1);clear k1 b1)
  |(go_at_call 179;(with_reducible refine(PP.out _).mono ?_);rintro r w2 ⟨v2,rfl,k2,o2⟩;obtain⟨a2,c2,rfl,_,_⟩:=zb o2;have b2:=zh k2 B1.out;have d0:=ac_0 b2;have d2:=ac_2 b2;have B2:=zz0 b2;have PQ2:=zz0 (PQ.out _ _ _ o2);have K2:=zz0 (K1.out.trans1 k2);clear k2 o2 b2)
  |(go_at_call 179;refine PQ2.out.mono ?_;rintro r w3 ⟨v3,rfl,k3,o3⟩;obtain⟨a3,c3,rfl,_,_⟩:=zb o3;have e0:=ac_0 (zh k3 B2.out);have K3:=zz0 (K2.out.trans1 k3);have O3:=zz0 o3;clear k3 o3)
  |(go_at_call 180;refine(zca _ T1 _ (Rd.ofOwns O3.out) (by omega)).mono ?_;rintro r w4 ⟨v4,rfl,k4,o4⟩;have K4:=zz0 k4;have O4:=zz0 o4;clear k4 o4))
 go_ret2;exact⟨_,rfl,K3.out.trans1 K4.out,zg O4.out K3.out.size⟩
theorem zhK (e a:Nat)(pa:Option Addr)(d:List UInt8)(dc:Nat)(w:World)(hd:Bs w (.slice pa d.length dc) d)(hdl:d.length≤64)(he:e≤1099511627776)(ha:a≤1048575) :
 Calls Tryz.prog 145 #[.agg #[.int .i64 2,.int .i64 e,.int .i64 a,.slice pa d.length dc]] w fun r w'=>∃v,r = .returned (.tuple #[v,.nilIface])∧za zq2 w w'∧w'.ownsRow w.heap.size 5 1 v (zaE 2 e a d).length ((zaE 2 e a d).map bv):=by
 have CK:=zz0 (fun W=>zds e a d.length dc pa W he ha hdl)
 have hw2:=zX (n:=e) (by omega)
 have hw3:=zX (n:=a) (by omega)
 have hl:=zbX (a:=2) (b:=e) (by decide) (by omega)
 have hl1:=zbW (a:=a) (by omega)
 have e0:actT 2 e a d=zm [2,e]++zm [a]++zaG d:=by simp[actT]
 unfold zaE;rw[e0];obtain⟨T0,hT0⟩:∃T0,T0=zm [2,e]:=⟨_,rfl⟩;have PP:Hid (∀W,Calls Tryz.prog 179 #[.slice none 0 0,.slice (some ⟨W.heap.size,0,none⟩) 2 2] (W.alloc (.cells #[.int .u64 2,.int .u64 e] 184)) fun r w'=>∃v,r = .returned v∧za zq2 W w'∧w'.ownsRow W.heap.size 5 1 v T0.length (T0.map bv)):=zz0 (fun W=>by
  refine(zS (.slice none 0 0) [] (some ⟨W.heap.size,0,none⟩) 2 [2,e] _ (Rd.nil _) (by simp) (by exact zcQ W 184 [nv 2,nv e]) (by intro n hn;simp at hn;omega) (by simp)).mono ?_
  rintro r w' ⟨v,rfl,k,o⟩;rw[List.nil_append,←hT0] at o;exact⟨v,rfl,((za.refl zq2 W).alloc _).trans1 k,zg o (by simp)⟩)
 rw[←hT0] at hl ⊢;have PQ:Hid (∀W v n,W.ownsRow n 5 1 v T0.length (T0.map bv)→Calls Tryz.prog 179 #[v,.slice (some ⟨W.heap.size,0,none⟩) 1 1] (W.alloc (.cells #[.int .u64 a] 184)) fun r w'=>∃v',r = .returned v'∧za zq2 W w'∧w'.ownsRow W.heap.size 5 1 v' (T0++zm [a]).length ((T0++zm [a]).map bv)):=zz0 (fun W v n o=>by
  refine(zS v T0 (some ⟨W.heap.size,0,none⟩) 1 [a] _ ((Rd.ofOwns o).keepNon ((za.refl zq2 W).alloc _)) (by omega) (zdR _ _ _) (by intro n hn;simp at hn;omega) (by simp)).mono ?_
  rintro r w' ⟨v',rfl,k,o'⟩;exact⟨v',rfl,((za.refl zq2 W).alloc _).trans1 k,zg o' (by simp)⟩)
 have hl3:(T0++zm [a]).length≤30:=by rw[List.length_append];omega
 generalize hT1:T0++zm [a]=T1 at PQ hl3 ⊢;have PT:Hid (∀W v n,za zq2 w W→W.ownsRow n 5 1 v T1.length (T1.map bv)→Calls Tryz.prog 216 #[v,.slice pa d.length dc] W fun r w'=>∃v',r = .returned v'∧za zq2 W w'∧w'.ownsRow W.heap.size 5 1 v' (T1++zaG d).length ((T1++zaG d).map bv)):=zz0 (fun W v n k o=>by
  refine(zft v T1 pa dc d W (Rd.ofOwns o) (by omega) (hd.keepNon k) (by omega)).mono ?_
  rintro r w' ⟨v',rfl,k',o'⟩;exact⟨v',rfl,k',o'⟩)
 have hl4:(T1++zaG d).length≤200:=by
  have h3:(zo d.length).length≤3:=zP (by omega)
  rw[List.length_append];unfold zaG;rw[List.length_append];omega
 generalize hT2:T1++zaG d=T2 at PT hl4 ⊢;clear hd hT2;clear hT0 e0 hT1
 go_enter Tryz.func145,Tryz.ntmps145
 go_wp2_with(first
  |(go_at_call 210;refine(CK.out _).mono ?_;rintro r w1 ⟨rfl,k1⟩;have b1:=zh k1 (ze w (zbq 2 e a (.slice pa d.length dc)));have c0:=ac_0 b1;have c1:=ac_1 b1;have B1:=zz0 b1;have K1:=zz0 (((za.refl zq2 w).alloc (zbq 2 e a (.slice pa d.length dc))).trans1 k1);clear k1 b1)
  |(go_at_call 179;(with_reducible refine(PP.out _).mono ?_);rintro r w2 ⟨v2,rfl,k2,o2⟩;obtain⟨a2,c2,rfl,_,_⟩:=zb o2;have b2:=zh k2 B1.out;have d0:=ac_0 b2;have d2:=ac_2 b2;have B2:=zz0 b2;have PQ2:=zz0 (PQ.out _ _ _ o2);have K2:=zz0 (K1.out.trans1 k2);clear k2 o2 b2)
  |(go_at_call 179;refine PQ2.out.mono ?_;rintro r w3 ⟨v3,rfl,k3,o3⟩;obtain⟨a3,c3,rfl,_,_⟩:=zb o3;have b3:=zh k3 B2.out;have e0:=ac_0 b3;have e3:=ac_3 b3;have PTW:=zz0 (PT.out _ _ _ (K2.out.trans1 k3) o3);have K3:=zz0 (K2.out.trans1 k3);clear k3 o3 b3)
  |(go_at_call 216;refine PTW.out.mono ?_;rintro r w5 ⟨v5,rfl,k5,o5⟩;obtain⟨a5,c5,rfl,_,_⟩:=zb o5;have K5:=zz0 (K3.out.trans1 k5);have O5:=zz0 o5;clear k5 o5)
  |(go_at_call 180;refine(zca _ T2 _ (Rd.ofOwns O5.out) (by omega)).mono ?_;rintro r w4 ⟨v4,rfl,k4,o4⟩;have K4:=zz0 k4;have O4:=zz0 o4;clear k4 o4))
 go_ret2;exact⟨_,rfl,K5.out.trans1 K4.out,zg O4.out K5.out.size⟩
end Go.Proofs.YtpojgmeoaflmoaaGreatDoor
