/- Acts on a unit: Check, Put: walked. · record.Put: walked. -/
import Derived.Test.YtnboipdpccnedaaGreatDoorQ20
set_option linter.unusedVariables false
set_option maxRecDepth 100000
set_option maxHeartbeats 16000000
namespace Go.Proofs.YtnboipdpccnedaaGreatDoor
open Go.RowKit Go.Maps
def ActB (k e a:Nat) (dv:Value):Obj:=.cells #[.int .i64 k,.int .i64 e,.int .i64 a,dv] 213 (0,0)
section
variable {w : World} {b k e a : Nat} {dv : Value}
theorem ac_0 (h:w.heap[b]? = some (ActB k e a dv)):w.cell? ⟨b,0,none⟩=some (.int .i64 k):=by simp [World.cell?,h,ActB]
theorem ac_1 (h:w.heap[b]? = some (ActB k e a dv)):w.cell? ⟨b,1,none⟩=some (.int .i64 e):=by simp [World.cell?,h,ActB]
theorem ac_2 (h:w.heap[b]? = some (ActB k e a dv)):w.cell? ⟨b,2,none⟩=some (.int .i64 a):=by simp [World.cell?,h,ActB]
theorem ac_3 (h:w.heap[b]? = some (ActB k e a dv)):w.cell? ⟨b,3,none⟩=some dv:=by simp [World.cell?,h,ActB]
end
def actT (k e a:Nat) (d:List UInt8):List UInt8:=vputs [k,e] ++ (if k=1 then [] else vputs [a]) ++ (if k=2 then vtext d else [])
def actBy (k e a:Nat) (d:List UInt8):List UInt8:=frameB (actT k e a d)
theorem zb9 (x most:Int) (w:World) (h1:0≤x) (h2:x≤most) :
    Calls Tryz.prog 318 #[.int .i64 x,.int .i64 most] w fun e w'=>e = .returned (.bool true)∧w'=w:=by
  go_enter Tryz.func318,Tryz.ntmps318
  go_wp2_with fail
  go_ret
  exact ⟨rfl,rfl⟩
theorem zk1 (w:World):Calls Tryz.prog 319 #[.int .i64 2] w fun e w'=>e = .returned (.int .i64 1048575)∧w'=w:=by
  go_enter Tryz.func319,Tryz.ntmps319
  go_wp2_with fail
  go_ret
  exact ⟨rfl,rfl⟩
theorem zk2 (w:World):Calls Tryz.prog 319 #[.int .i64 3] w fun e w'=>e = .returned (.int .i64 1048575)∧w'=w:=by
  go_enter Tryz.func319,Tryz.ntmps319
  go_wp2_with fail
  go_ret
  exact ⟨rfl,rfl⟩
theorem zdc (k:Int) (w:World) (h2:(k == 2)=false) (h3:(k == 3)=false):Calls Tryz.prog 319 #[.int .i64 k] w fun e w'=>e = .returned (.int .i64 1048576)∧w'=w:=by
  go_enter Tryz.func319,Tryz.ntmps319
  go_wp2_with fail
  go_ret
  exact ⟨rfl,rfl⟩
theorem zcT (e:Nat) (w:World) (he:e≤1099511627776) :
    Calls Tryz.prog 250 #[.agg #[.int .i64 1,.int .i64 e,.int .i64 0,.slice none 0 0]] w fun r w'=>r = .returned .nilIface∧Keep Non w w':=by
  go_enter Tryz.func250,Tryz.ntmps250
  go_wp2_with fail
  go_region_law (go_simp;first
    | (go_at_call 318;refine (zb9 _ _ _ (by omega) (by omega)).mono ?_;rintro r w1 ⟨rfl,e1⟩;subst e1)
    | (go_at_call 319;refine (zdc _ _ (by decide) (by decide)).mono ?_;rintro r w1 ⟨rfl,e1⟩;subst e1))
  all_goals go_wp2_with fail
  all_goals
    go_ret
    first | exact ⟨rfl,(Keep.refl _ _).alloc _⟩ | exact ⟨rfl,((Keep.refl _ _).alloc _).drew⟩ | exact ⟨rfl,((Keep.refl _ _).alloc _).drew.drew⟩
theorem zcw (e a n c:Nat) (pa:Option Addr) (w:World) (he:e≤1099511627776) (ha:a≤1048575) (hn:n≤64) :
    Calls Tryz.prog 250 #[.agg #[.int .i64 2,.int .i64 e,.int .i64 a,.slice pa n c]] w fun r w'=>r = .returned .nilIface∧Keep Non w w':=by
  go_enter Tryz.func250,Tryz.ntmps250
  go_wp2_with fail
  go_region_law (go_simp;first
    | (go_at_call 318;refine (zb9 _ _ _ (by omega) (by omega)).mono ?_;rintro r w1 ⟨rfl,e1⟩;subst e1)
    | (go_at_call 319;refine (zk1 _).mono ?_;rintro r w1 ⟨rfl,e1⟩;subst e1))
  all_goals go_wp2_with fail
  all_goals
    go_ret
    first | exact ⟨rfl,(Keep.refl _ _).alloc _⟩ | exact ⟨rfl,((Keep.refl _ _).alloc _).drew⟩ | exact ⟨rfl,((Keep.refl _ _).alloc _).drew.drew⟩
theorem zcS (e a:Nat) (w:World) (he:e≤1099511627776) (ha:a≤1048575) :
    Calls Tryz.prog 250 #[.agg #[.int .i64 3,.int .i64 e,.int .i64 a,.slice none 0 0]] w fun r w'=>r = .returned .nilIface∧Keep Non w w':=by
  go_enter Tryz.func250,Tryz.ntmps250
  go_wp2_with fail
  go_region_law (go_simp;first
    | (go_at_call 318;refine (zb9 _ _ _ (by omega) (by omega)).mono ?_;rintro r w1 ⟨rfl,e1⟩;subst e1)
    | (go_at_call 319;refine (zk2 _).mono ?_;rintro r w1 ⟨rfl,e1⟩;subst e1))
  all_goals go_wp2_with fail
  all_goals
    go_ret
    first | exact ⟨rfl,(Keep.refl _ _).alloc _⟩ | exact ⟨rfl,((Keep.refl _ _).alloc _).drew⟩ | exact ⟨rfl,((Keep.refl _ _).alloc _).drew.drew⟩
theorem zcU (e a:Nat) (w:World) (he:e≤1099511627776) (ha:a≤1048576) :
    Calls Tryz.prog 250 #[.agg #[.int .i64 4,.int .i64 e,.int .i64 a,.slice none 0 0]] w fun r w'=>r = .returned .nilIface∧Keep Non w w':=by
  go_enter Tryz.func250,Tryz.ntmps250
  go_wp2_with fail
  go_region_law (go_simp;first
    | (go_at_call 318;refine (zb9 _ _ _ (by omega) (by omega)).mono ?_;rintro r w1 ⟨rfl,e1⟩;subst e1)
    | (go_at_call 319;refine (zdc _ _ (by decide) (by decide)).mono ?_;rintro r w1 ⟨rfl,e1⟩;subst e1))
  all_goals go_wp2_with fail
  all_goals
    go_ret
    first | exact ⟨rfl,(Keep.refl _ _).alloc _⟩ | exact ⟨rfl,((Keep.refl _ _).alloc _).drew⟩ | exact ⟨rfl,((Keep.refl _ _).alloc _).drew.drew⟩
theorem zdo (e a:Nat) (w:World) (he:e≤1099511627776) (ha:a≤1048576) :
    Calls Tryz.prog 250 #[.agg #[.int .i64 5,.int .i64 e,.int .i64 a,.slice none 0 0]] w fun r w'=>r = .returned .nilIface∧Keep Non w w':=by
  go_enter Tryz.func250,Tryz.ntmps250
  go_wp2_with fail
  go_region_law (go_simp;first
    | (go_at_call 318;refine (zb9 _ _ _ (by omega) (by omega)).mono ?_;rintro r w1 ⟨rfl,e1⟩;subst e1)
    | (go_at_call 319;refine (zdc _ _ (by decide) (by decide)).mono ?_;rintro r w1 ⟨rfl,e1⟩;subst e1))
  all_goals go_wp2_with fail
  all_goals
    go_ret
    first | exact ⟨rfl,(Keep.refl _ _).alloc _⟩ | exact ⟨rfl,((Keep.refl _ _).alloc _).drew⟩ | exact ⟨rfl,((Keep.refl _ _).alloc _).drew.drew⟩
theorem zbm {a b:Nat} (h1:a < 2 ^ 63) (h2:b < 2 ^ 63):(vputs [a,b]).length≤18:=by
  have:=zaB [a,b] (by intro n hn;simp at hn;omega)
  simpa using this
theorem zbl {a:Nat} (h1:a < 2 ^ 63):(vputs [a]).length≤9:=by
  have:=zaB [a] (by intro n hn;simp at hn;omega)
  simpa using this
theorem zhl (e:Nat) (w:World) (he:e≤1099511627776) :
    Calls Tryz.prog 180 #[.agg #[.int .i64 1,.int .i64 e,.int .i64 0,.slice none 0 0]] w fun r w'=>∃ v,r = .returned (.tuple #[v,.nilIface])∧Keep Non w w'∧w'.ownsRow w.heap.size 5 1 v (actBy 1 e 0 []).length ((actBy 1 e 0 []).map bv):=by
  have CK:=zz0 (fun W=>zcT e W he)
  have hw2:=wrap64 (n:=e) (by omega)
  have hl:=zbm (a:=1) (b:=e) (by decide) (by omega)
  have e0:actT 1 e 0 []=vputs [1,e]:=by simp [actT]
  unfold actBy
  rw [e0]
  obtain ⟨T0,hT0⟩:∃ T0,T0=vputs [1,e]:=⟨_,rfl⟩
  have PP:Hid (∀ W,Calls Tryz.prog 193 #[.slice none 0 0,.slice (some ⟨W.heap.size,0,none⟩) 2 2] (W.alloc (.cells #[.int .u64 1,.int .u64 e] 162)) fun r w'=>∃ v,r = .returned v∧Keep Non W w'∧w'.ownsRow W.heap.size 5 1 v T0.length (T0.map bv)):=zz0 (fun W=>by
    refine (zat (.slice none 0 0) [] (some ⟨W.heap.size,0,none⟩) 2 [1,e] _ (Rd.nil _) (by simp) (by exact zbY W 162 [nv 1,nv e]) (by intro n hn;simp at hn;omega) (by simp)).mono ?_
    rintro r w' ⟨v,rfl,k,o⟩
    rw [List.nil_append,← hT0] at o
    exact ⟨v,rfl,((Keep.refl Non W).alloc _).trans1 k,zad o (by simp)⟩)
  rw [← hT0] at hl ⊢
  clear hT0 e0
  go_enter Tryz.func180,Tryz.ntmps180
  go_wp2_with (first
    | (go_at_call 250;refine (CK.out _).mono ?_;rintro r w1 ⟨rfl,k1⟩;have b1:=nonAt k1 (zab w (ActB 1 e 0 (.slice none 0 0)));have c0:=ac_0 b1;have c1:=ac_1 b1;have B1:=zz0 b1;have K1:=zz0 (((Keep.refl Non w).alloc (ActB 1 e 0 (.slice none 0 0))).trans1 k1);clear k1 b1)
    | (go_at_call 193;refine (PP.out _).mono ?_;rintro r w2 ⟨v2,rfl,k2,o2⟩;obtain ⟨a2,c2,rfl,_,_⟩:=zaa o2;have b2:=nonAt k2 B1.out;have d0:=ac_0 b2;have K2:=zz0 (K1.out.trans1 k2);have O2:=zz0 o2;clear k2 o2 b2)
    | (go_at_call 194;refine (zbs _ T0 _ (Rd.ofOwns O2.out) (by omega)).mono ?_;rintro r w3 ⟨v3,rfl,k3,o3⟩;have K3:=zz0 k3;have O3:=zz0 o3;clear k3 o3))
  go_ret2
  exact ⟨_,rfl,K2.out.trans1 K3.out,zad O3.out K2.out.size⟩
theorem zhk (e a:Nat) (w:World) (he:e≤1099511627776) (ha:a≤1048575) :
    Calls Tryz.prog 180 #[.agg #[.int .i64 3,.int .i64 e,.int .i64 a,.slice none 0 0]] w fun r w'=>∃ v,r = .returned (.tuple #[v,.nilIface])∧Keep Non w w'∧w'.ownsRow w.heap.size 5 1 v (actBy 3 e a []).length ((actBy 3 e a []).map bv):=by
  have CK:=zz0 (fun W=>zcS e a W he ha)
  have hw2:=wrap64 (n:=e) (by omega)
  have hw3:=wrap64 (n:=a) (by omega)
  have hl:=zbm (a:=3) (b:=e) (by decide) (by omega)
  have hl1:=zbl (a:=a) (by omega)
  have e0:actT 3 e a []=vputs [3,e] ++ vputs [a]:=by simp [actT]
  unfold actBy
  rw [e0]
  obtain ⟨T0,hT0⟩:∃ T0,T0=vputs [3,e]:=⟨_,rfl⟩
  have PP:Hid (∀ W,Calls Tryz.prog 193 #[.slice none 0 0,.slice (some ⟨W.heap.size,0,none⟩) 2 2] (W.alloc (.cells #[.int .u64 3,.int .u64 e] 162)) fun r w'=>∃ v,r = .returned v∧Keep Non W w'∧w'.ownsRow W.heap.size 5 1 v T0.length (T0.map bv)):=zz0 (fun W=>by
    refine (zat (.slice none 0 0) [] (some ⟨W.heap.size,0,none⟩) 2 [3,e] _ (Rd.nil _) (by simp) (by exact zbY W 162 [nv 3,nv e]) (by intro n hn;simp at hn;omega) (by simp)).mono ?_
    rintro r w' ⟨v,rfl,k,o⟩
    rw [List.nil_append,← hT0] at o
    exact ⟨v,rfl,((Keep.refl Non W).alloc _).trans1 k,zad o (by simp)⟩)
  rw [← hT0] at hl ⊢
  have PQ:Hid (∀ W v n,W.ownsRow n 5 1 v T0.length (T0.map bv)→Calls Tryz.prog 193 #[v,.slice (some ⟨W.heap.size,0,none⟩) 1 1] (W.alloc (.cells #[.int .u64 a] 162)) fun r w'=>∃ v',r = .returned v'∧Keep Non W w'∧w'.ownsRow W.heap.size 5 1 v' (T0 ++ vputs [a]).length ((T0 ++ vputs [a]).map bv)):=zz0 (fun W v n o=>by
    refine (zat v T0 (some ⟨W.heap.size,0,none⟩) 1 [a] _ ((Rd.ofOwns o).keepNon ((Keep.refl Non W).alloc _)) (by omega) (zcR _ _ _) (by intro n hn;simp at hn;omega) (by simp)).mono ?_
    rintro r w' ⟨v',rfl,k,o'⟩
    exact ⟨v',rfl,((Keep.refl Non W).alloc _).trans1 k,zad o' (by simp)⟩)
  have hl3:(T0 ++ vputs [a]).length≤30:=by rw [List.length_append];omega
  generalize hT1:T0 ++ vputs [a]=T1 at PQ hl3 ⊢
  clear hT0 e0 hT1
  go_enter Tryz.func180,Tryz.ntmps180
  go_wp2_with (first
    | (go_at_call 250;refine (CK.out _).mono ?_;rintro r w1 ⟨rfl,k1⟩;have b1:=nonAt k1 (zab w (ActB 3 e a (.slice none 0 0)));have c0:=ac_0 b1;have c1:=ac_1 b1;have B1:=zz0 b1;have K1:=zz0 (((Keep.refl Non w).alloc (ActB 3 e a (.slice none 0 0))).trans1 k1);clear k1 b1)
    | (go_at_call 193;(with_reducible refine (PP.out _).mono ?_);rintro r w2 ⟨v2,rfl,k2,o2⟩;obtain ⟨a2,c2,rfl,_,_⟩:=zaa o2;have b2:=nonAt k2 B1.out;have d0:=ac_0 b2;have d2:=ac_2 b2;have B2:=zz0 b2;have PQ2:=zz0 (PQ.out _ _ _ o2);have K2:=zz0 (K1.out.trans1 k2);clear k2 o2 b2)
    | (go_at_call 193;refine PQ2.out.mono ?_;rintro r w3 ⟨v3,rfl,k3,o3⟩;obtain ⟨a3,c3,rfl,_,_⟩:=zaa o3;have e0:=ac_0 (nonAt k3 B2.out);have K3:=zz0 (K2.out.trans1 k3);have O3:=zz0 o3;clear k3 o3)
    | (go_at_call 194;refine (zbs _ T1 _ (Rd.ofOwns O3.out) (by omega)).mono ?_;rintro r w4 ⟨v4,rfl,k4,o4⟩;have K4:=zz0 k4;have O4:=zz0 o4;clear k4 o4))
  go_ret2
  exact ⟨_,rfl,K3.out.trans1 K4.out,zad O4.out K3.out.size⟩
theorem zhm (e a:Nat) (w:World) (he:e≤1099511627776) (ha:a≤1048576) :
    Calls Tryz.prog 180 #[.agg #[.int .i64 4,.int .i64 e,.int .i64 a,.slice none 0 0]] w fun r w'=>∃ v,r = .returned (.tuple #[v,.nilIface])∧Keep Non w w'∧w'.ownsRow w.heap.size 5 1 v (actBy 4 e a []).length ((actBy 4 e a []).map bv):=by
  have CK:=zz0 (fun W=>zcU e a W he ha)
  have hw2:=wrap64 (n:=e) (by omega)
  have hw3:=wrap64 (n:=a) (by omega)
  have hl:=zbm (a:=4) (b:=e) (by decide) (by omega)
  have hl1:=zbl (a:=a) (by omega)
  have e0:actT 4 e a []=vputs [4,e] ++ vputs [a]:=by simp [actT]
  unfold actBy
  rw [e0]
  obtain ⟨T0,hT0⟩:∃ T0,T0=vputs [4,e]:=⟨_,rfl⟩
  have PP:Hid (∀ W,Calls Tryz.prog 193 #[.slice none 0 0,.slice (some ⟨W.heap.size,0,none⟩) 2 2] (W.alloc (.cells #[.int .u64 4,.int .u64 e] 162)) fun r w'=>∃ v,r = .returned v∧Keep Non W w'∧w'.ownsRow W.heap.size 5 1 v T0.length (T0.map bv)):=zz0 (fun W=>by
    refine (zat (.slice none 0 0) [] (some ⟨W.heap.size,0,none⟩) 2 [4,e] _ (Rd.nil _) (by simp) (by exact zbY W 162 [nv 4,nv e]) (by intro n hn;simp at hn;omega) (by simp)).mono ?_
    rintro r w' ⟨v,rfl,k,o⟩
    rw [List.nil_append,← hT0] at o
    exact ⟨v,rfl,((Keep.refl Non W).alloc _).trans1 k,zad o (by simp)⟩)
  rw [← hT0] at hl ⊢
  have PQ:Hid (∀ W v n,W.ownsRow n 5 1 v T0.length (T0.map bv)→Calls Tryz.prog 193 #[v,.slice (some ⟨W.heap.size,0,none⟩) 1 1] (W.alloc (.cells #[.int .u64 a] 162)) fun r w'=>∃ v',r = .returned v'∧Keep Non W w'∧w'.ownsRow W.heap.size 5 1 v' (T0 ++ vputs [a]).length ((T0 ++ vputs [a]).map bv)):=zz0 (fun W v n o=>by
    refine (zat v T0 (some ⟨W.heap.size,0,none⟩) 1 [a] _ ((Rd.ofOwns o).keepNon ((Keep.refl Non W).alloc _)) (by omega) (zcR _ _ _) (by intro n hn;simp at hn;omega) (by simp)).mono ?_
    rintro r w' ⟨v',rfl,k,o'⟩
    exact ⟨v',rfl,((Keep.refl Non W).alloc _).trans1 k,zad o' (by simp)⟩)
  have hl3:(T0 ++ vputs [a]).length≤30:=by rw [List.length_append];omega
  generalize hT1:T0 ++ vputs [a]=T1 at PQ hl3 ⊢
  clear hT0 e0 hT1
  go_enter Tryz.func180,Tryz.ntmps180
  go_wp2_with (first
    | (go_at_call 250;refine (CK.out _).mono ?_;rintro r w1 ⟨rfl,k1⟩;have b1:=nonAt k1 (zab w (ActB 4 e a (.slice none 0 0)));have c0:=ac_0 b1;have c1:=ac_1 b1;have B1:=zz0 b1;have K1:=zz0 (((Keep.refl Non w).alloc (ActB 4 e a (.slice none 0 0))).trans1 k1);clear k1 b1)
    | (go_at_call 193;(with_reducible refine (PP.out _).mono ?_);rintro r w2 ⟨v2,rfl,k2,o2⟩;obtain ⟨a2,c2,rfl,_,_⟩:=zaa o2;have b2:=nonAt k2 B1.out;have d0:=ac_0 b2;have d2:=ac_2 b2;have B2:=zz0 b2;have PQ2:=zz0 (PQ.out _ _ _ o2);have K2:=zz0 (K1.out.trans1 k2);clear k2 o2 b2)
    | (go_at_call 193;refine PQ2.out.mono ?_;rintro r w3 ⟨v3,rfl,k3,o3⟩;obtain ⟨a3,c3,rfl,_,_⟩:=zaa o3;have e0:=ac_0 (nonAt k3 B2.out);have K3:=zz0 (K2.out.trans1 k3);have O3:=zz0 o3;clear k3 o3)
    | (go_at_call 194;refine (zbs _ T1 _ (Rd.ofOwns O3.out) (by omega)).mono ?_;rintro r w4 ⟨v4,rfl,k4,o4⟩;have K4:=zz0 k4;have O4:=zz0 o4;clear k4 o4))
  go_ret2
  exact ⟨_,rfl,K3.out.trans1 K4.out,zad O4.out K3.out.size⟩
theorem zi8 (e a:Nat) (w:World) (he:e≤1099511627776) (ha:a≤1048576) :
    Calls Tryz.prog 180 #[.agg #[.int .i64 5,.int .i64 e,.int .i64 a,.slice none 0 0]] w fun r w'=>∃ v,r = .returned (.tuple #[v,.nilIface])∧Keep Non w w'∧w'.ownsRow w.heap.size 5 1 v (actBy 5 e a []).length ((actBy 5 e a []).map bv):=by
  have CK:=zz0 (fun W=>zdo e a W he ha)
  have hw2:=wrap64 (n:=e) (by omega)
  have hw3:=wrap64 (n:=a) (by omega)
  have hl:=zbm (a:=5) (b:=e) (by decide) (by omega)
  have hl1:=zbl (a:=a) (by omega)
  have e0:actT 5 e a []=vputs [5,e] ++ vputs [a]:=by simp [actT]
  unfold actBy
  rw [e0]
  obtain ⟨T0,hT0⟩:∃ T0,T0=vputs [5,e]:=⟨_,rfl⟩
  have PP:Hid (∀ W,Calls Tryz.prog 193 #[.slice none 0 0,.slice (some ⟨W.heap.size,0,none⟩) 2 2] (W.alloc (.cells #[.int .u64 5,.int .u64 e] 162)) fun r w'=>∃ v,r = .returned v∧Keep Non W w'∧w'.ownsRow W.heap.size 5 1 v T0.length (T0.map bv)):=zz0 (fun W=>by
    refine (zat (.slice none 0 0) [] (some ⟨W.heap.size,0,none⟩) 2 [5,e] _ (Rd.nil _) (by simp) (by exact zbY W 162 [nv 5,nv e]) (by intro n hn;simp at hn;omega) (by simp)).mono ?_
    rintro r w' ⟨v,rfl,k,o⟩
    rw [List.nil_append,← hT0] at o
    exact ⟨v,rfl,((Keep.refl Non W).alloc _).trans1 k,zad o (by simp)⟩)
  rw [← hT0] at hl ⊢
  have PQ:Hid (∀ W v n,W.ownsRow n 5 1 v T0.length (T0.map bv)→Calls Tryz.prog 193 #[v,.slice (some ⟨W.heap.size,0,none⟩) 1 1] (W.alloc (.cells #[.int .u64 a] 162)) fun r w'=>∃ v',r = .returned v'∧Keep Non W w'∧w'.ownsRow W.heap.size 5 1 v' (T0 ++ vputs [a]).length ((T0 ++ vputs [a]).map bv)):=zz0 (fun W v n o=>by
    refine (zat v T0 (some ⟨W.heap.size,0,none⟩) 1 [a] _ ((Rd.ofOwns o).keepNon ((Keep.refl Non W).alloc _)) (by omega) (zcR _ _ _) (by intro n hn;simp at hn;omega) (by simp)).mono ?_
    rintro r w' ⟨v',rfl,k,o'⟩
    exact ⟨v',rfl,((Keep.refl Non W).alloc _).trans1 k,zad o' (by simp)⟩)
  have hl3:(T0 ++ vputs [a]).length≤30:=by rw [List.length_append];omega
  generalize hT1:T0 ++ vputs [a]=T1 at PQ hl3 ⊢
  clear hT0 e0 hT1
  go_enter Tryz.func180,Tryz.ntmps180
  go_wp2_with (first
    | (go_at_call 250;refine (CK.out _).mono ?_;rintro r w1 ⟨rfl,k1⟩;have b1:=nonAt k1 (zab w (ActB 5 e a (.slice none 0 0)));have c0:=ac_0 b1;have c1:=ac_1 b1;have B1:=zz0 b1;have K1:=zz0 (((Keep.refl Non w).alloc (ActB 5 e a (.slice none 0 0))).trans1 k1);clear k1 b1)
    | (go_at_call 193;(with_reducible refine (PP.out _).mono ?_);rintro r w2 ⟨v2,rfl,k2,o2⟩;obtain ⟨a2,c2,rfl,_,_⟩:=zaa o2;have b2:=nonAt k2 B1.out;have d0:=ac_0 b2;have d2:=ac_2 b2;have B2:=zz0 b2;have PQ2:=zz0 (PQ.out _ _ _ o2);have K2:=zz0 (K1.out.trans1 k2);clear k2 o2 b2)
    | (go_at_call 193;refine PQ2.out.mono ?_;rintro r w3 ⟨v3,rfl,k3,o3⟩;obtain ⟨a3,c3,rfl,_,_⟩:=zaa o3;have e0:=ac_0 (nonAt k3 B2.out);have K3:=zz0 (K2.out.trans1 k3);have O3:=zz0 o3;clear k3 o3)
    | (go_at_call 194;refine (zbs _ T1 _ (Rd.ofOwns O3.out) (by omega)).mono ?_;rintro r w4 ⟨v4,rfl,k4,o4⟩;have K4:=zz0 k4;have O4:=zz0 o4;clear k4 o4))
  go_ret2
  exact ⟨_,rfl,K3.out.trans1 K4.out,zad O4.out K3.out.size⟩
theorem zgy (e a:Nat) (pa:Option Addr) (d:List UInt8) (dc:Nat) (w:World) (hd:Bs w (.slice pa d.length dc) d) (hdl:d.length≤64) (he:e≤1099511627776) (ha:a≤1048575) :
    Calls Tryz.prog 180 #[.agg #[.int .i64 2,.int .i64 e,.int .i64 a,.slice pa d.length dc]] w fun r w'=>∃ v,r = .returned (.tuple #[v,.nilIface])∧Keep Non w w'∧w'.ownsRow w.heap.size 5 1 v (actBy 2 e a d).length ((actBy 2 e a d).map bv):=by
  have CK:=zz0 (fun W=>zcw e a d.length dc pa W he ha hdl)
  have hw2:=wrap64 (n:=e) (by omega)
  have hw3:=wrap64 (n:=a) (by omega)
  have hl:=zbm (a:=2) (b:=e) (by decide) (by omega)
  have hl1:=zbl (a:=a) (by omega)
  have e0:actT 2 e a d=vputs [2,e] ++ vputs [a] ++ vtext d:=by simp [actT]
  unfold actBy
  rw [e0]
  obtain ⟨T0,hT0⟩:∃ T0,T0=vputs [2,e]:=⟨_,rfl⟩
  have PP:Hid (∀ W,Calls Tryz.prog 193 #[.slice none 0 0,.slice (some ⟨W.heap.size,0,none⟩) 2 2] (W.alloc (.cells #[.int .u64 2,.int .u64 e] 162)) fun r w'=>∃ v,r = .returned v∧Keep Non W w'∧w'.ownsRow W.heap.size 5 1 v T0.length (T0.map bv)):=zz0 (fun W=>by
    refine (zat (.slice none 0 0) [] (some ⟨W.heap.size,0,none⟩) 2 [2,e] _ (Rd.nil _) (by simp) (by exact zbY W 162 [nv 2,nv e]) (by intro n hn;simp at hn;omega) (by simp)).mono ?_
    rintro r w' ⟨v,rfl,k,o⟩
    rw [List.nil_append,← hT0] at o
    exact ⟨v,rfl,((Keep.refl Non W).alloc _).trans1 k,zad o (by simp)⟩)
  rw [← hT0] at hl ⊢
  have PQ:Hid (∀ W v n,W.ownsRow n 5 1 v T0.length (T0.map bv)→Calls Tryz.prog 193 #[v,.slice (some ⟨W.heap.size,0,none⟩) 1 1] (W.alloc (.cells #[.int .u64 a] 162)) fun r w'=>∃ v',r = .returned v'∧Keep Non W w'∧w'.ownsRow W.heap.size 5 1 v' (T0 ++ vputs [a]).length ((T0 ++ vputs [a]).map bv)):=zz0 (fun W v n o=>by
    refine (zat v T0 (some ⟨W.heap.size,0,none⟩) 1 [a] _ ((Rd.ofOwns o).keepNon ((Keep.refl Non W).alloc _)) (by omega) (zcR _ _ _) (by intro n hn;simp at hn;omega) (by simp)).mono ?_
    rintro r w' ⟨v',rfl,k,o'⟩
    exact ⟨v',rfl,((Keep.refl Non W).alloc _).trans1 k,zad o' (by simp)⟩)
  have hl3:(T0 ++ vputs [a]).length≤30:=by rw [List.length_append];omega
  generalize hT1:T0 ++ vputs [a]=T1 at PQ hl3 ⊢
  have PT:Hid (∀ W v n,Keep Non w W→W.ownsRow n 5 1 v T1.length (T1.map bv)→Calls Tryz.prog 256 #[v,.slice pa d.length dc] W fun r w'=>∃ v',r = .returned v'∧Keep Non W w'∧w'.ownsRow W.heap.size 5 1 v' (T1 ++ vtext d).length ((T1 ++ vtext d).map bv)):=zz0 (fun W v n k o=>by
    refine (zer v T1 pa dc d W (Rd.ofOwns o) (by omega) (hd.keepNon k) (by omega)).mono ?_
    rintro r w' ⟨v',rfl,k',o'⟩
    exact ⟨v',rfl,k',o'⟩)
  have hl4:(T1 ++ vtext d).length≤200:=by
    have h3:(vput d.length).length≤3:=zao (by omega)
    rw [List.length_append]
    unfold vtext
    rw [List.length_append]
    omega
  generalize hT2:T1 ++ vtext d=T2 at PT hl4 ⊢
  clear hd hT2
  clear hT0 e0 hT1
  go_enter Tryz.func180,Tryz.ntmps180
  go_wp2_with (first
    | (go_at_call 250;refine (CK.out _).mono ?_;rintro r w1 ⟨rfl,k1⟩;have b1:=nonAt k1 (zab w (ActB 2 e a (.slice pa d.length dc)));have c0:=ac_0 b1;have c1:=ac_1 b1;have B1:=zz0 b1;have K1:=zz0 (((Keep.refl Non w).alloc (ActB 2 e a (.slice pa d.length dc))).trans1 k1);clear k1 b1)
    | (go_at_call 193;(with_reducible refine (PP.out _).mono ?_);rintro r w2 ⟨v2,rfl,k2,o2⟩;obtain ⟨a2,c2,rfl,_,_⟩:=zaa o2;have b2:=nonAt k2 B1.out;have d0:=ac_0 b2;have d2:=ac_2 b2;have B2:=zz0 b2;have PQ2:=zz0 (PQ.out _ _ _ o2);have K2:=zz0 (K1.out.trans1 k2);clear k2 o2 b2)
    | (go_at_call 193;refine PQ2.out.mono ?_;rintro r w3 ⟨v3,rfl,k3,o3⟩;obtain ⟨a3,c3,rfl,_,_⟩:=zaa o3;have b3:=nonAt k3 B2.out;have e0:=ac_0 b3;have e3:=ac_3 b3;have PTW:=zz0 (PT.out _ _ _ (K2.out.trans1 k3) o3);have K3:=zz0 (K2.out.trans1 k3);clear k3 o3 b3)
    | (go_at_call 256;refine PTW.out.mono ?_;rintro r w5 ⟨v5,rfl,k5,o5⟩;obtain ⟨a5,c5,rfl,_,_⟩:=zaa o5;have K5:=zz0 (K3.out.trans1 k5);have O5:=zz0 o5;clear k5 o5)
    | (go_at_call 194;refine (zbs _ T2 _ (Rd.ofOwns O5.out) (by omega)).mono ?_;rintro r w4 ⟨v4,rfl,k4,o4⟩;have K4:=zz0 k4;have O4:=zz0 o4;clear k4 o4))
  go_ret2
  exact ⟨_,rfl,K5.out.trans1 K4.out,zad O4.out K5.out.size⟩
end Go.Proofs.YtnboipdpccnedaaGreatDoor
