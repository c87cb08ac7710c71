/- Chains of any length: what follows what  -/
import Derived.Test.YtpojgmeoaflmoaaGreatDoorQ17
import Derived.Test.YtpojgmeoaflmoaaGreatDoorQ20
set_option linter.unusedVariables false
set_option maxRecDepth 100000
set_option maxHeartbeats 16000000
namespace Go.Proofs.YtpojgmeoaflmoaaGreatDoor
open Go.RowKit
def folM (ahead:List Mf)(m:Mf):Prop:=m.num=ahead.length∧(ahead≠[]→m.prev=digM (zT ahead)∧m.lo=(zT ahead).hi∧(zT ahead).trim≤m.trim)
def okCh (ms:List Mf):Prop:=∀i m,ms[i]? = some m→okMf m∧folM (ms.take i) m∧m.parts.length≤64∧(zb2 m).length≤65536
theorem okCh.nil:okCh []:=fun i m h=>by simp at h
theorem okCh.snoc {ms:List Mf}{m:Mf}(h:okCh ms)(ok:okMf m)(f:folM ms m)(h64:m.parts.length≤64)(hb:(zb2 m).length≤65536):okCh (ms ++ [m]):=fun i x hx=>by
 rcases Nat.lt_or_ge i ms.length with hi|hi
 ·rw[List.getElem?_append_left hi] at hx
  rw[List.take_append_of_le_length (by omega)]
  exact h i x hx
 ·rw[List.getElem?_append_right hi] at hx
  have e:i-ms.length=0:=by
   have:=(List.getElem?_eq_some_iff.1 hx).1;simp at this;omega
  rw[e] at hx;simp at hx;subst hx;rw[show i=ms.length by omega,List.take_left]
  exact⟨ok,f,h64,hb⟩
theorem okCh.take {ms:List Mf}(h:okCh ms)(n:Nat):okCh (ms.take n):=fun i m hi=>by
 have hl:=(List.getElem?_eq_some_iff.1 hi).1;rw[List.length_take] at hl;rw[List.getElem?_take] at hi;rw[if_pos (by omega)] at hi
 rw[List.take_take,Nat.min_eq_left (by omega)]
 exact h i m hi
theorem zlU {ms:List Mf}(hne:ms≠[]):ms[ms.length-1]? = some (zT ms):=by
 unfold zT;rw[←List.getLast?_eq_getElem?];cases h:ms.getLast? with
 |none=>exact absurd (List.getLast?_eq_none_iff.1 h) hne
 |some m=>rfl
theorem okCh.last {ms:List Mf}(h:okCh ms)(hne:ms≠[]):okMf (zT ms)∧(zT ms).parts.length≤64∧(zb2 (zT ms)).length≤65536:=by
 obtain⟨a,_,b,c⟩:=h _ _ (zlU hne);exact⟨a,b,c⟩
theorem zai.take {T:Nat→Prop}{w:World}{a:Option Addr}{n c:Nat}{ms:List Mf}(h:zai T w (.slice a n c) ms)(j:Nat)(hj:j≤ms.length):zai T w (.slice a j c) (ms.take j):=by
 obtain⟨a',c',e,hc,ha,hx⟩:=h;injection e with e1 e2 e3
 subst e1;subst e3;refine⟨a,c,by rw[List.length_take,Nat.min_eq_left hj],by rw[List.length_take];omega,ha,fun i m hi=>?_⟩
 have hl:=(List.getElem?_eq_some_iff.1 hi).1;rw[List.length_take] at hl;rw[List.getElem?_take,if_pos (by omega)] at hi
 exact hx i m hi
section
attribute [local go_sem ↓] zbB zU zbC zbD zV zbE zab zbK
theorem zfS (T:Nat→Prop)(v:Value)(ms:List Mf)(w:World)(h:zai T w v ms)(hne:ms≠[])(hlen:ms.length≤1000)(hm:okMf (zT ms))(h64:(zT ms).parts.length≤64)(hb:(zb2 (zT ms)).length≤131072)(hK:Kon w)(hF:Frs w) :
 Calls Tryz.prog 162 #[v] w fun e w'=>e = .returned (.tuple #[zbY (digM (zT ms)),.nilIface])∧za zq2 w w':=by
 have LA:=zz0 (fun W (k:za zq2 w W)=>zeQ T v ms W (h.keepNon k) (by omega))
 have HKF:=zz0 (And.intro hK hF);obtain⟨a,c,rfl,hc,ha,hx⟩:=h;have hl0:¬(ms.length:Int)=0:=fun e=>hne (List.eq_nil_of_length_eq_zero (by omega))
 have hl1:¬ms.length=0:=fun e=>hne (List.eq_nil_of_length_eq_zero e)
 generalize zT ms=m at LA hm h64 hb ⊢;clear hx ha hK hF hc hne
 go_enter Tryz.func162,Tryz.ntmps162
 go_wp2_with(first
  |(go_at_call 25;refine(LA.out _ (by first|exact za.refl _ _|exact(za.refl _ _).alloc _|exact((za.refl _ _).alloc _).alloc _)).mono ?_;rintro e w1 ⟨pa,pc,rfl,k1,p1,_⟩;have K1:=zz0 k1;have P1:=zz0 p1;clear k1 p1)
  |(go_at_call 226;refine(zkn m pa _ pc _ hm rfl P1.out h64 hb (HKF.out.1.keep (((za.refl zq2 w).alloc _).trans1 K1.out)) (HKF.out.2.keep (((za.refl zq2 w).alloc _).trans1 K1.out))).mono ?_;rintro e w2 ⟨rfl,k2⟩;have K2:=zz0 k2;have z2:w2.heap[w.heap.size]? = some (.cells zq9 51 (0,0)):=zh k2 (zh K1.out (by exact ze w (.cells zq9 51)));have hst:=zc7 w2 w.heap.size (digM m) zq9 (zer m) rfl z2;have Z2:=zz0 z2;clear k2 z2))
 have hlv:=zdh (w:=w2.setRow w.heap.size (List.map bv (digM m)).toArray) (setRow_heap _ _ _ _ _ _ Z2.out) (zer m);unfold zZ at hlv;refine bodyPost_ret (v:=.tuple #[zbY (digM m),.nilIface]) (by simp[results,Tryz.results162,asAddr,hlv]) rfl ?_
 exact⟨rfl,((((za.refl zq2 w).alloc _).trans1 K1.out).trans1 K2.out).setRow (.inr (Nat.le_refl _)) _⟩
theorem zg9 (T:Nat→Prop)(v:Value)(ms:List Mf)(m:Mf)(a:Option Addr)(n c:Nat)(w:World)(h:zai T w v ms)(hne:ms≠[])(hlen:ms.length≤1000)(ok:okCh ms)(hf:folM ms m)(h32:m.prev.length=32)(hK:Kon w)(hF:Frs w) :
 Calls Tryz.prog 105 #[v,zq7 m (.slice a n c)] w fun e w'=>e = .returned (.bool true)∧za zq2 w w':=by
 obtain⟨ok1,ok2,ok3⟩:=ok.last hne;obtain⟨hnum,hf⟩:=hf;obtain⟨hprev,hlo,htr⟩:=hf hne;have HD:=zz0 (fun W (k:za zq2 w W)=>zfS T v ms W (h.keepNon k) hne hlen ok1 ok2 (by omega) (hK.keep k) (hF.keep k))
 have ED:=zz0 (fun W (k:za zq2 w W)=>zbN T v ms W (h.keepNon k) (by omega))
 have MK:=zz0 (fun W (k:za zq2 w W)=>zeT T v ms W (h.keepNon k) (by omega))
 have hl0:¬(ms.length:Int)=0:=fun e=>hne (List.eq_nil_of_length_eq_zero (by omega))
 have hl1:¬ms.length=0:=fun e=>hne (List.eq_nil_of_length_eq_zero e)
 rw[←hprev] at HD;rw[←hlo] at ED;have htri:((zT ms).trim:Int)≤m.trim:=by omega
 generalize (zT ms).trim=tr at MK htri;obtain⟨va,vc,rfl,_⟩:=h;have q0:=mfc_0 m (.slice a n c);have q1:=mfc_1 m (.slice a n c);have q3:=mfc_3 m (.slice a n c);rw[hnum] at q0;have heq:=zpp m.prev m.prev h32 h32;rw[beq_self_eq_true] at heq;have hgd:=zhr;clear ok1 ok2 ok3 hf hprev hlo htr ok hK hF;have K0:Hid (za zq2 w (w.alloc (zq1 m (.slice a n c)))):=zz0 ((za.refl _ _).alloc _);unfold zq7
 go_enter Tryz.func105,Tryz.ntmps105
 go_wp2_with(go_at_call 162;refine(HD.out _ K0.out).mono ?_;rintro r w1 ⟨rfl,k1⟩;have hst:=zc7 (w1.alloc (.cells zq9 51)) w1.heap.size m.prev zq9 h32 rfl (ze _ _);obtain⟨wc,hwc⟩:∃wc,wc=(w1.alloc (.cells zq9 51)).setRow w1.heap.size (m.prev.map bv).toArray:=⟨_,rfl⟩;have K1:=zz0 (K0.out.trans1 k1);have kc:za zq2 w1 wc:=(by rw[hwc];exact((za.refl zq2 w1).alloc _).setRow (.inr (Nat.le_refl _)) _);have G1:Hid (wc.heap[w1.heap.size]? = some (.cells (m.prev.map bv).toArray 51 (0,0))):=zz0 (by rw[hwc];exact setRow_heap _ _ _ _ _ _ (ze _ _));have B1:=zz0 (zh kc (zh k1 (ze w (zq1 m (.slice a n c)))));have KC:=zz0 ((K0.out.trans1 k1).trans1 kc);rw[←hwc] at hst;dsimp only[zq9] at hst;clear k1 kc hwc)
 have hl1:(zZ 51 ⟨w.heap.size,4,none⟩).run Tryz.prog wc.drew = .ok (zbY m.prev) wc.drew:=load81 wc.drew w.heap.size 4 _ h32 (zix (w:=wc.drew) B1.out h32);have hl2:(zZ 51 ⟨w1.heap.size,0,none⟩).run Tryz.prog wc.drew = .ok (zbY m.prev) wc.drew:=zdh (w:=wc.drew) G1.out h32;have c1:=mf_1 B1.out;have c3:=mf_3 B1.out;clear hst
 go_region_law(go_simp;first
  |(go_at_call 8;refine(ED.out wc.drew KC.out.drew).mono ?_;rintro r w5 ⟨rfl,k5⟩;have B5:=zz0 (zh k5 (by exact B1.out));have d1:=mf_1 B5.out;have d3:=mf_3 B5.out;have K5:=zz0 (KC.out.drew.trans1 k5);clear k5)
  |(go_at_call 64;refine(MK.out w5 K5.out).mono ?_;rintro r w6 ⟨rfl,k6⟩;have B6:=zz0 (zh k6 B5.out);have e3:=mf_3 B6.out;have K6:=zz0 (K5.out.trans1 k6);clear k6))
 all_goals
  go_wp2_with fail
  go_ret;exact⟨rfl,K6.out⟩
end
section
attribute [local go_sem ↓] zbB zU zbC zbD zV zbE zab zbK
theorem zbl (T:Nat→Prop)(v:Value)(ms:List Mf)(w:World)(h:zai T w v ms)(ok:okCh ms)(hlen:ms.length≤1000)(hK:Kon w)(hF:Frs w) :
 Calls Tryz.prog 51 #[v] w fun e w'=>e = .returned (.tuple #[.int .i64 ms.length,.nilIface])∧za zq2 w w':=by
 have H:=zz0 h;have FO:Hid (∀(j:Nat) m (a a0:Option Addr) (n c c0:Nat) W,ms[j]? = some m→v = .slice a0 ms.length c0→za zq2 w W→Calls Tryz.prog 105 #[.slice a0 j c0,zq7 m (.slice a n c)] W fun e w'=>e = .returned (.bool true)∧za zq2 W w'):=zz0 (fun j m a a0 n c c0 W hj hv k=>by
  subst hv;have hl:=(List.getElem?_eq_some_iff.1 hj).1;obtain⟨o1,o2,o3,o4⟩:=ok j m hj;by_cases j0:j=0
  ·subst j0
   exact zha m (.slice a n c) a0 c0 W (by rw[o2.1];rfl)
  ·refine zg9 T _ (ms.take j) m a n c W ((h.keepNon k).take j (by omega)) (fun e=>?_) (by rw[List.length_take];omega) (ok.take j) o2 o1.prev (hK.keep k) (hF.keep k)
   have:=congrArg List.length e;rw[List.length_take,List.length_nil] at this;omega)
 have OK:=zz0 ok;obtain⟨a,c,rfl,hc,ha,hx⟩:=h;clear hx ha ok hK hF
 go_enter Tryz.func51,Tryz.ntmps51
 go_wp2_with fail
 go_loopw [9] (fun i wr=>∃j:Nat,j≤ms.length∧i = .int .i64 j∧za zq2 w wr) (fun i _=>ms.length-(intOf i).toNat)
 case atStart=>exact⟨0,by omega,rfl,za.refl _ _⟩
 case round =>
  obtain⟨j,hj,rfl,hk⟩:=hrel;have K:=zz0 hk;clear hk;by_cases hlt:j<ms.length
  ·have hlj:(j:Int)<(ms.length:Int):=by omega
   obtain⟨m,hm⟩:∃m,ms[j]? = some m:=⟨_,List.getElem?_eq_getElem hlt⟩;obtain⟨a1,c1,e1,hc1,ha1,hx⟩:=H.out.keepNon K.out;injection e1 with e1 e3 e4
   subst e1;subst e4;obtain⟨h32,g,off,pa,pc,rfl,x1,x2,x3⟩:=hx j m hm;have hld:=load83 wr g (off+j*37) m (.slice pa m.parts.length pc) h32 x3;have hst:=zaZ wr m pa m.parts.length pc h32;dsimp only[zra,zq1] at hst;have hlm:=zO (ze wr (zq1 m (.slice pa m.parts.length pc))) h32;dsimp only[zq1] at hlm;have CK:=zz0 (zcr m (.slice pa m.parts.length pc) (wr.alloc (zq1 m (.slice pa m.parts.length pc))) (OK.out j m hm).1 (x1.keepNon ((za.refl zq2 wr).alloc _)));dsimp only[zq1] at CK;have FJ:Hid (∀W,za zq2 w W→Calls Tryz.prog 105 #[.slice (some ⟨g,off,none⟩) j c,zq7 m (.slice pa m.parts.length pc)] W fun e w'=>e = .returned (.bool true)∧za zq2 W w'):=zz0 (fun W k=>FO.out j m pa (some ⟨g,off,none⟩) _ pc c W hm rfl k)
   have hjc:j≤c:=by omega
   clear hx ha1 x1 x2 x3 hm
   go_wp2_with(go_at_call 104;refine CK.out.mono ?_;rintro e w2 ⟨rfl,k2⟩;have b2:w2.heap[wr.heap.size]? = some (zq1 m (.slice pa m.parts.length pc)):=zh k2 (ze wr (zq1 m (.slice pa m.parts.length pc)));have hl2:=zO b2 h32;have hl2d:=zO (w:=w2.drew) b2 h32;have K2:Hid (za zq2 w w2):=zz0 ((K.out.alloc (zq1 m (.slice pa m.parts.length pc))).trans1 k2);clear k2 b2)
   go_region_law(go_simp;go_at_call 105;refine(FJ.out _ (by first|exact K2.out|exact K2.out.drew)).mono ?_;rintro e w3 ⟨rfl,k3⟩;have K3:Hid (za zq2 w w3):=zz0 ((K2.out.drew).trans1 k3);clear k3)
   all_goals go_wp2_with fail
   all_goals exact⟨⟨j+1,by omega,by first|rfl|go_num,K3.out⟩,by simp[intOf];omega⟩
  ·obtain rfl:j=ms.length:=by omega
   go_wp2_with fail
   go_ret2;exact⟨rfl,K.out⟩
end
def nxM (num lo hi trim:Nat)(D:List UInt8)(ps:List Pt):Mf:=⟨num,lo,hi,trim,D,ps⟩
theorem znl (num lo trim:Nat)(D:List UInt8)(h:D.length=32)(ps:List Pt)(a:Option Addr)(n c:Nat)(w:World):(holdB 54 #[(0,.int .i64 num),(1,.int .i64 lo),(2,.int .i64 lo),(3,.int .i64 trim),(4,zbY D),(5,.slice a n c)]).run Tryz.prog w = .ok (zq7 (nxM num lo lo trim D ps) (.slice a n c)) w:=by
 obtain⟨d0,d1,d2,d3,d4,d5,d6,d7,d8,d9,d10,d11,d12,d13,d14,d15,d16,d17,d18,d19,d20,d21,d22,d23,d24,d25,d26,d27,d28,d29,d30,d31,rfl⟩:=list32 D h;exact run_build w 54 _ _ (by kernel_rfl)
theorem nx_ok {num lo trim:Nat}{D:List UInt8}{ps:List Pt}(h0:0<num)(hn:num≤999999)(hD:D.length=32)(h64:ps.length≤64)(hok:okPts lo ps)(hhi:zp lo ps≤1048576)(htr:trim≤1048576):okMf (nxM num lo (zp lo ps) trim D ps) where
 num:=hn
 hi:=hhi
 trim:=htr
 prev:=hD
 zero:=fun e=>by have e':num=0:=e;omega
 many:=Nat.le_trans h64 (by decide)
 parts:=hok
 stop:=rfl
section
attribute [local go_sem ↓] zbB zU zbC zbD zV zbE zab zbK
theorem zj0 (T:Nat→Prop)(ms:List Mf)(a:Option Addr)(c lo trim:Nat)(pv:Value)(ps:List Pt)(w:World)(h:zai T w (.slice a ms.length c) ms)(hne:ms≠[])(hlen:ms.length<90)(och:okCh ms)(hlo:lo=(zT ms).hi)(htr0:(zT ms).trim≤trim)(hK:Kon w)(hF:Frs w)(hp:zC w pv ps)(h32:zbI ps)(h64:ps.length≤64)(hok:okPts lo ps)(hhi:zp lo ps≤1048576)(htr:trim≤1048576) :
 Calls Tryz.prog 186 #[.slice a ms.length c,.int .i64 lo,.int .i64 trim,pv] w fun e w'=>∃v',e = .returned (.tuple #[zq7 (nxM ms.length lo (zp lo ps) trim (digM (zT ms)) ps) v',.nilIface])∧za zq2 w w'∧w'.ownsRow w.heap.size 125 35 v' ps.length (zaP ps):=by
 have CL:=zz0 (fun w1 (k:za zq2 w w1)=>zdD pv ps w1 (hp.keepNon k) h32 (by omega))
 have PA:=zz0 hp;obtain⟨ra,rc,rfl,_,_,_⟩:=hp;obtain⟨o1,o2,o3⟩:=och.last hne;have C1:=zz0 (fun W (k:za zq2 w W)=>zbl T _ ms W (h.keepNon k) och (by omega) (hK.keep k) (hF.keep k))
 have H1:=zz0 (fun W (k:za zq2 w W)=>zfS T _ ms W (h.keepNon k) hne (by omega) o1 o2 (by omega) (hK.keep k) (hF.keep k))
 have ED:=zz0 (fun W (k:za zq2 w W)=>zbN T _ ms W (h.keepNon k) (by omega))
 have MK:=zz0 (fun W (k:za zq2 w W)=>zeT T _ ms W (h.keepNon k) (by omega))
 rw[←hlo] at ED;have hD32:(digM (zT ms)).length=32:=zer _;generalize digM (zT ms)=D at H1 hD32 ⊢;have htri:¬(trim:Int)<((zT ms).trim:Nat):=by omega
 generalize (zT ms).trim=tr0 at MK htri;have hl0:(0:Int)<(ms.length:Int):=by have:ms.length≠0:=fun e=>hne (List.eq_nil_of_length_eq_zero e);omega
 have hpos:0<ms.length:=by omega
 have hbu:=fun(a:Option Addr) (n c:Nat) (W:World)=>znl ms.length lo trim D hD32 ps a n c W
 clear h o1 o2 o3 och hK hF htr0 hlo hne
 go_enter Tryz.func186,Tryz.ntmps186
 go_wp2_with(first
  |(go_at_call 51;refine(C1.out _ ((za.refl _ _).alloc _)).mono ?_;rintro e w1 ⟨rfl,k1⟩;have b1:w1.heap[w.heap.size]? = some (.cells zra 54 (0,0)):=zh k1 (by exact ze w (.cells zra 54 (0,0)));have B1:=zz0 b1;have K1:=zz0 (((za.refl zq2 w).alloc _).trans1 k1);clear k1 b1)
  |(go_at_call 8;refine(ED.out _ K1.out).mono ?_;rintro e w1e ⟨rfl,k1e⟩;have B1e:=zz0 (zh k1e B1.out);have K1e:=zz0 (K1.out.trans1 k1e);clear k1e)
  |(go_at_call 64;refine(MK.out _ K1e.out).mono ?_;rintro e w1m ⟨rfl,k1m⟩;have B1m:=zz0 (zh k1m B1e.out);have K1m:=zz0 (K1e.out.trans1 k1m);clear k1m)
  |(go_at_call 162;refine(H1.out _ K1m.out).mono ?_;rintro e w2 ⟨rfl,k2⟩;have B2:=zz0 (zh k2 B1m.out);have K2:=zz0 (K1m.out.trans1 k2);have hs2:=zc7 (w2.alloc (.cells zq9 51)) w2.heap.size D zq9 hD32 rfl (ze _ _);obtain⟨wB,hwB⟩:∃wB,wB=(w2.alloc (.cells zq9 51)).setRow w2.heap.size (D.map bv).toArray:=⟨_,rfl⟩;have k2B:za zq2 w2 wB:=(by rw[hwB];exact((za.refl zq2 w2).alloc _).setRow (.inr (Nat.le_refl _)) _);have bh:wB.heap[w2.heap.size]? = some (.cells (D.map bv).toArray 51 (0,0)):=(by rw[hwB];exact setRow_heap _ _ _ _ _ _ (ze _ _));rw[←hwB] at hs2;dsimp only[zq9] at hs2;clear k2 hwB))
 have kB:za zq2 w wB:=K2.out.trans1 k2B;have br:wB.heap[w.heap.size]? = some (.cells zra 54 (0,0)):=zh k2B B2.out;clear hs2 k2B;have ldH:∀W:World,W.heap[w2.heap.size]? = some (.cells (D.map bv).toArray 51 (0,0))→(zZ 51 ⟨w2.heap.size,0,none⟩).run Tryz.prog W = .ok (zbY D) W:=fun W h=>zdh h hD32
 have kz:∀W:World,za zq2 W (W.alloc (.cells zra 54)):=fun W=>(za.refl _ _).alloc _
 have lB:=ldH wB bh;have lBd:=ldH wB.drew bh;have lBz:=ldH _ (zh (kz wB) bh);have lBzd:=ldH (wB.alloc (.cells zra 54)).drew (zh (kz wB).drew bh);have CA:=zz0 (CL.out wB.drew (kB.trans1 (za.refl zq2 wB).drew));have CB:=zz0 (CL.out (wB.alloc (.cells zra 54)).drew (kB.trans1 (kz wB).drew));have NB:=zz0 (ze wB (.cells zra 54 (0,0)));dsimp only[zra] at lBz lBzd CB;have LH:=zz0 ldH;have KZ:=zz0 kz;have KB:=zz0 kB;have BH:=zz0 bh;have BR:=zz0 br;have SB:Hid (w.heap.size<wB.heap.size):=zz0 (lt_of_block br);clear ldH kz kB bh br
 go_region_law(go_simp;go_at_call 61;first
  |((with_reducible refine CA.out.mono ?_);rintro e w3 ⟨v3,rfl,k3,o3⟩;obtain⟨a3,c3,rfl,_,_⟩:=zb o3;have k3':=((za.refl zq2 wB).drew).trans1 k3;have l3:=LH.out w3 (zh k3' BH.out);have l3z:=LH.out _ (zh (KZ.out w3) (zh k3' BH.out));have hst:=zaZ w3 (nxM ms.length lo lo trim D ps) a3 ps.length c3 hD32;dsimp only[zra,zq1] at hst l3z;have K3:=zz0 k3';have O3:Hid (w3.ownsRow wB.heap.size 125 35 (.slice a3 ps.length c3) ps.length (zaP ps)):=zz0 o3;have E:Hid (NxEnd w (nxM ms.length lo lo trim D ps) (.slice a3 ps.length c3) w3.heap.size (w3.alloc (.cells (zq6 (nxM ms.length lo lo trim D ps) (.slice a3 ps.length c3)).toArray 54))):=zz0 (nx_A (m:=nxM ms.length lo lo trim D ps) KB.out BR.out k3' o3);clear k3 k3' o3)
  |((with_reducible refine CB.out.mono ?_);rintro e w3 ⟨v3,rfl,k3,o3⟩;obtain⟨a3,c3,rfl,_,_⟩:=zb o3;have k3':=((KZ.out wB).drew).trans1 k3;have l3:=LH.out w3 (zh k3' BH.out);have z3:=zh k3 NB.out;have hst:=zax w3 wB.heap.size (nxM ms.length lo lo trim D ps) a3 ps.length c3 zra hD32 rfl z3;have o3':w3.ownsRow (wB.heap.size+1) 125 35 (.slice a3 ps.length c3) ps.length (zaP ps):=(by simpa using o3);have E:Hid (NxEnd w (nxM ms.length lo lo trim D ps) (.slice a3 ps.length c3) wB.heap.size (w3.setRow wB.heap.size (zq6 (nxM ms.length lo lo trim D ps) (.slice a3 ps.length c3)).toArray)):=zz0 (nx_B (m:=nxM ms.length lo lo trim D ps) KB.out BR.out k3' z3 o3');clear o3';clear k3 k3' o3 z3))
 all_goals
  have e0:=E.out
  first
   |(obtain⟨W4,hW⟩:∃W4,W4=w3.setRow wB.heap.size (zq6 (nxM ms.length lo lo trim D ps) (.slice a3 ps.length c3)).toArray:=⟨_,rfl⟩;rw[←hW] at e0 ⊢;clear hW;obtain⟨bm,hb⟩:∃bm,bm=wB.heap.size:=⟨_,rfl⟩;rw[←hb] at e0 ⊢;clear hb)
   |(obtain⟨W4,hW⟩:∃W4,W4=w3.alloc (.cells (zq6 (nxM ms.length lo lo trim D ps) (.slice a3 ps.length c3)).toArray 54):=⟨_,rfl⟩;rw[←hW] at e0 ⊢;clear hW;obtain⟨bm,hb⟩:∃bm,bm=w3.heap.size:=⟨_,rfl⟩;rw[←hb] at e0 ⊢;clear hb)
  have EN:=zz0 e0;clear e0
  go_wp2_with fail
 all_goals
  go_loopw [64] (fun i wr=>∃j:Nat,j≤ps.length∧i = .int .i64 j∧NxEnd w (nxM ms.length lo (zp lo (ps.take j)) trim D ps) (.slice a3 ps.length c3) bm wr) (fun i _=>ps.length-(intOf i).toNat)
  case atStart=>exact⟨0,by omega,rfl,EN.out⟩
  case round =>
   obtain⟨j,hj,rfl,hn⟩:=hrel;have N:=zz0 hn;have c2:=mf_2 hn.1;have f2:=mf_f hn.1 2;simp only[nxM] at c2;clear hn;by_cases hlt:j<ps.length
   ·have hlj:(j:Int)<(ps.length:Int):=by omega
    obtain⟨p,hpj⟩:∃p,ps[j]? = some p:=⟨_,List.getElem?_eq_getElem hlt⟩;have hst:=za2 ps lo j p hpj;have hle:=Nat.le_trans (zaq ps lo (j+1)).2 hhi;have hp5:=h32 p (List.mem_of_getElem? hpj);obtain⟨a1,c1,e1,_,_,hx⟩:=PA.out.keepNon N.out.2.2.1;injection e1 with e1 e3 e4
    subst e1;subst e4;obtain⟨g,off,rfl,hcell⟩:=hx j p hpj;have hld:=load101 wr g (off+j*35) p hp5 hcell;have hsp:=zac wr p hp5;have q1:=ptc_1 p;have c2p:=mf_2 (zh ((za.refl zq2 wr).alloc (zq4 p)) N.out.1);have f2p:=mf_f (zh ((za.refl zq2 wr).alloc (zq4 p)) N.out.1) 2;simp only[nxM] at c2p;dsimp only[zrb,zq4] at hsp;dsimp only[zq4] at c2p f2p;have ST:=zz0 hst;clear hx hcell hpj
    go_wp2_with fail
    have hn2:=zl7 N.out (zq4 p) (zp lo (ps.take (j+1)));have ec:(((zp lo (ps.take (j+1)):Nat)):Int)=(zp lo (ps.take j):Int)+p.many:=by rw[ST.out];exact Int.natCast_add _ _
    dsimp only[zq4] at hn2;rw[ec] at hn2;exact⟨⟨j+1,by omega,by first|rfl|go_num,hn2⟩,by simp[intOf];omega⟩
   ·obtain rfl:j=ps.length:=by omega
    rw[List.take_length] at N;have hl3:=zO N.out.1 hD32;have CK:=zz0 (zcr (nxM ms.length lo (zp lo ps) trim D ps) (.slice a3 ps.length c3) wr (nx_ok hpos (by omega) hD32 h64 hok hhi htr) (zC.of N.out.2.2.2.2.2 h32))
    go_wp2_with(go_at_call 104;refine CK.out.mono ?_;rintro e w5 ⟨rfl,k5⟩;have hl5:=zO (zh k5 N.out.1) hD32;have z5:=zh k5 N.out.2.1;have hs5:=zax w5 w.heap.size (nxM ms.length lo (zp lo ps) trim D ps) a3 ps.length c3 zra hD32 rfl z5;have hl6:=zO (m:=nxM ms.length lo (zp lo ps) trim D ps) (pv:=.slice a3 ps.length c3) (setRow_heap w5 w.heap.size _ (zq6 (nxM ms.length lo (zp lo ps) trim D ps) (.slice a3 ps.length c3)).toArray _ _ z5) hD32;have L6:=zz0 hl6;have K5:=zz0 k5;clear k5 z5 hl6)
    have hlv:=L6.out;unfold zZ at hlv;refine bodyPost_ret (v:=.tuple #[zq7 (nxM ms.length lo (zp lo ps) trim D ps) (.slice a3 ps.length c3),.nilIface]) (by simp[results,Tryz.results186,asAddr,hlv]) rfl ?_
    have k6:za (zq3 w.heap.size) w5 (w5.setRow w.heap.size (zq6 (nxM ms.length lo (zp lo ps) trim D ps) (.slice a3 ps.length c3)).toArray):=(za.refl (zq3 w.heap.size) _).setRow (.inl (zK _)) _;have ho:=N.out.2.2.2.2;exact⟨_,rfl,(N.out.2.2.1.trans1 K5.out).trans k6 (fun _ _ e=>e) (fun g hg e=>by have e':g=w.heap.size:=e;omega),zc (zc ho.2 K5.out (fun _ _ e=>e)) k6 (fun g e e2=>by have e':g=w.heap.size:=e2;have:=(ho.1 g e).1;omega)⟩
end
def MsOwn (B:Nat)(w:World)(v:Value)(ms:List Mf)(xs:List Value):Prop:=w.ownsRow B 54 37 v ms.length xs∧xs.length=ms.length*37 ∧
 ∀(j:Nat) m,ms[j]? = some m→m.prev.length=32∧∃pa pc,(∀(i:Nat) u,(zq6 m (.slice pa m.parts.length pc))[i]? = some u→xs[j*37+i]? = some u)∧zC w (.slice pa m.parts.length pc) m.parts∧∀g,(Value.slice pa m.parts.length pc).ownBlock=some g→B≤g∧g<w.heap.size∧v.ownBlock≠some g
theorem MsOwn.nil (B:Nat)(w:World):MsOwn B w (.slice none 0 0) [] []:=⟨World.ownsRow_nil _ _ _ _,rfl,fun j m h=>by simp at h⟩
theorem MsOwn.at {B:Nat}{w:World}{v:Value}{ms:List Mf}{xs:List Value}(h:MsOwn B w v ms xs):zai (fun g=>B≤g∧g<w.heap.size) w v ms:=by
 obtain⟨ho,hl,hx⟩:=h;have hlt:=ho.lt;rcases ho.2 with ⟨hv,hn⟩|⟨g,cap,cur,rfl,_,hg,hn,_,_,htake⟩
 ·have e:ms = []:=List.eq_nil_of_length_eq_zero (by omega)
  subst e;rw[hv];exact zai.nil _ _
 ·refine⟨some ⟨g,0,none⟩,cap,rfl,hn,fun ad e=>⟨g,0,by injection e with e;exact e.symm,hlt g rfl⟩,fun j m hj=>?_⟩
  obtain⟨h32,pa,pc,h1,h2,h3⟩:=hx j m hj;refine⟨h32,g,0,pa,pc,rfl,h2,fun g' e=>⟨(h3 g' e).1,(h3 g' e).2.1⟩,fun i u hu=>?_⟩
  have hu':=h1 i u hu;rw[Nat.zero_add,World.cell?,hg];rw[←htake,List.getElem?_take] at hu'
  split at hu'
  ·simpa using hu'
  ·cases hu'
theorem MsOwn.keep {B:Nat}{S:Nat→Prop}{w w':World}{v:Value}{ms:List Mf}{xs:List Value}(h:MsOwn B w v ms xs)(k:za S w w')(hn:∀g,B≤g→g<w.heap.size→¬S g):MsOwn B w' v ms xs:=by
 obtain⟨ho,hl,hx⟩:=h;refine⟨zc ho k (fun g e=>hn g (ho.lt g e).1 (ho.lt g e).2),hl,fun j m hj=>?_⟩
 obtain⟨h32,pa,pc,h1,h2,h3⟩:=hx j m hj;exact⟨h32,pa,pc,h1,h2.keep k (fun g e=>hn g (h3 g e).1 (h3 g e).2.1),fun g e=>⟨(h3 g e).1,k.lt (h3 g e).2.1,(h3 g e).2.2⟩⟩
theorem MsOwn.snoc {B:Nat}{w wA w3:World}{o v3:Value}{ms:List Mf}{xs:List Value}{m:Mf}{pa:Option Addr}{pc:Nat}(h:MsOwn B w o ms xs)(k:za zq2 w wA)(hB:B≤w.heap.size)(h32:m.prev.length=32)(hp:zC wA (.slice pa m.parts.length pc) m.parts)(hpo:∀g,(Value.slice pa m.parts.length pc).ownBlock=some g→w.heap.size≤g∧g<wA.heap.size)
 (ho:w3.ownsRow B 54 37 v3 (ms.length+1) (xs++zq6 m (.slice pa m.parts.length pc))) (hg:wA.grownBy w3 o.ownBlock) (hpp:v3.ownBlock=o.ownBlock∨v3.ownBlock=some wA.heap.size) :
 MsOwn B w3 v3 (ms ++ [m]) (xs++zq6 m (.slice pa m.parts.length pc))∧za (fun g=>o.ownBlock=some g) w w3:=by
 obtain⟨ho0,hl,hx⟩:=h;have kg:za (fun g=>o.ownBlock=some g) wA w3:=(za.refl _ _).grown hg (fun k e=>.inl e)
 have hk:=k.size;have hk3:=kg.size;refine⟨⟨by rw[List.length_append];exact ho,by rw[List.length_append,List.length_append,hl,zaV h32];simp;omega,fun j x hj=>?_⟩,k.ofNon.trans1 kg⟩
 rcases Nat.lt_or_ge j ms.length with hj2|hj2
 ·rw[List.getElem?_append_left hj2] at hj
  obtain⟨a32,pa',pc',h1,h2,h3⟩:=hx j x hj;refine⟨a32,pa',pc',fun i u hu=>?_,(h2.keepNon k).keep kg (fun g e e2=>(h3 g e).2.2 e2),fun g e=>⟨(h3 g e).1,by have:=(h3 g e).2.1;omega,fun e2=>?_⟩⟩
  ·have:=h1 i u hu
   rw[List.getElem?_append_left (List.getElem?_eq_some_iff.1 this).1];exact this
  ·rcases hpp with q|q
   ·exact(h3 g e).2.2 (by rw[←q,e2])
   ·rw[q] at e2;injection e2 with e2;have:=(h3 g e).2.1;omega
 ·rw[List.getElem?_append_right hj2] at hj
  have ej:j-ms.length=0:=by
   have:=(List.getElem?_eq_some_iff.1 hj).1;simp at this;omega
  rw[ej] at hj;simp at hj;subst hj;refine⟨h32,pa,pc,fun i u hu=>?_,hp.keep kg (fun g e e2=>?_),fun g e=>⟨by have:=(hpo g e).1;omega,by have:=(hpo g e).2;omega,fun e2=>?_⟩⟩
  ·rw[(by rw[hl,show j=ms.length by omega]:j*37+i=xs.length+i),List.getElem?_append_right (by omega),Nat.add_sub_cancel_left]
   exact hu
  ·have:=(hpo g e).1
   have:=(ho0.lt g e2).2;omega
  ·rcases hpp with q|q
   ·rw[q] at e2
    have:=(hpo g e).1;have:=(ho0.lt g e2).2;omega
   ·rw[q] at e2;injection e2 with e2;have:=(hpo g e).2;omega
section
attribute [local go_sem ↓] zbB zU zbC zbD zV zbE zab zbK hBS52 hBS39
theorem zar (T:Nat→Prop)(b q:Nat)(lv:Value)(ms:List Mf)(w:World)(h:w.heap[b]? = some (VtB q lv))(hm:zai T w lv ms)(h32:∀m ∈ ms,zbI m.parts∧m.parts.length≤10000)(hlen:ms.length≤1000) :
 Calls Tryz.prog 9 #[.pointer (some ⟨b,0,none⟩)] w fun e w'=>∃v',e = .returned v'∧za zq2 w w'∧zai (fun g=>w.heap.size≤g∧g<w'.heap.size) w' v' ms:=by
 have c1:=vt_1 h;have H:=zz0 hm;have H32:=zz0 h32;obtain⟨a,c,rfl,hc,ha,hx⟩:=hm;obtain⟨i0,hi0,hz0,hz1,hz2⟩:=info_parts infoMf;have I0:=zz0 (And.intro hi0 (And.intro hz0 (And.intro hz1 hz2)));clear h hx ha hi0 hz0 hz1 hz2 h32
 go_enter Tryz.func9,Tryz.ntmps9
 go_wp2_with fail
 go_loopw [3,13] (fun o i wr=>∃j:Nat,j≤ms.length∧i = .int .i64 j∧za zq2 w wr∧∃xs,MsOwn w.heap.size wr o (ms.take j) xs) (fun _ i _=>ms.length-(intOf i).toNat)
 case atStart=>exact⟨0,by omega,rfl,za.refl _ _,[],MsOwn.nil _ _⟩
 case round =>
  obtain⟨j,hj,rfl,hk,xs,ho⟩:=hrel;have K:=zz0 hk;have O:=zz0 ho;obtain⟨oa,oc,rfl,_,_⟩:=zb ho.1;have tl:(ms.take j).length=j:=by rw[List.length_take];omega
  have OR:Hid (wr.ownsRow w.heap.size 54 37 (.slice oa (ms.take j).length oc) (ms.take j).length xs):=zz0 ho.1;rw[tl] at O OR ⊢;clear hk ho;by_cases hlt:j<ms.length
  ·have hlj:(j:Int)<(ms.length:Int):=by omega
   obtain⟨m,hm⟩:∃m,ms[j]? = some m:=⟨_,List.getElem?_eq_getElem hlt⟩;obtain⟨a1,c1',e1,hc1,ha1,hx⟩:=H.out.keepNon K.out;injection e1 with e1 e3 e4
   subst e1;subst e4;obtain⟨hp32,g,off,pa,pc,rfl,x1,x2,x3⟩:=hx j m hm;obtain⟨p32,pl⟩:=H32.out m (List.mem_of_getElem? hm);have hld:=load83 wr g (off+j*37) m (.slice pa m.parts.length pc) hp32 x3;have hst:=zaZ wr m pa m.parts.length pc hp32;have hlm:=zO (ze wr (zq1 m (.slice pa m.parts.length pc))) hp32;have CO:=zz0 (zgM m (.slice pa m.parts.length pc) (wr.alloc (zq1 m (.slice pa m.parts.length pc))) (x1.keepNon ((za.refl zq2 wr).alloc _)) hp32 p32 pl);have P32:=zz0 p32;have ZW:=zz0 K.out.size;have tj:ms.take (j+1)=ms.take j ++ [m]:=by rw[List.take_add_one,hm];rfl
   have TJ:=zz0 tj;dsimp only[zra,zq1] at hst;dsimp only[zq1] at hlm CO;clear hx ha1 x1 x2 x3 hm p32 pl tj
   go_wp2_with(first
    |(go_at_call 26;refine CO.out.mono ?_;rintro e w2 ⟨v2,rfl,k2,o2⟩;obtain⟨a2,c2,rfl,_,_⟩:=zb o2;have hbu:=zaQ m a2 m.parts.length c2 hp32 w2;have K2:Hid (za zq2 wr (w2.alloc (zq1 m (.slice a2 m.parts.length c2)))):=zz0 ((((za.refl zq2 wr).alloc (zq1 m (.slice pa m.parts.length pc))).trans1 k2).alloc _);have O2:Hid (w2.ownsRow wr.heap.size 125 35 (.slice a2 m.parts.length c2) m.parts.length (zaP m.parts)):=zz0 (zg o2 (by simp));clear k2 o2)
    |(at_builtin;refine zv rfl _ _ 39 rfl w.heap.size 54 i0 (.agg zra) 37 88 Tryz.underlying39 I0.out.1 I0.out.2.1 I0.out.2.2.1 I0.out.2.2.2 rfl (by decide) (.slice oa j oc) j xs rfl (zc OR.out K2.out (fun _ _ e=>e)) ⟨w2.heap.size,0,none⟩ 1 1 (zq6 m (.slice a2 m.parts.length c2)) rfl (by rw[zaV hp32]) (by exact zdi (ze w2 (zq1 m (.slice a2 m.parts.length c2)))) (zcJ m a2 m.parts.length c2) (by unfold maxLen;omega) (by omega) (Nat.le_trans ZW.out K2.out.size) ?_;intro v3 w3 ho hg hpp;have HO:=zz0 ho;have HG:=zz0 hg;have HPP:=zz0 hpp;clear ho hg hpp))
   have oP:zC (w2.alloc (zq1 m (.slice a2 m.parts.length c2))) (.slice a2 m.parts.length c2) m.parts:=zC.keepNon (zC.of O2.out P32.out) ((za.refl zq2 w2).alloc _);have oo:∀g,(Value.slice a2 m.parts.length c2).ownBlock=some g→wr.heap.size≤g∧g<(w2.alloc (zq1 m (.slice a2 m.parts.length c2))).heap.size:=fun g e=>by have:=O2.out.lt g e;simp;omega
   obtain⟨so,sk⟩:=MsOwn.snoc O.out K2.out ZW.out hp32 oP oo (by rw[tl];exact HO.out) HG.out HPP.out
   refine⟨⟨j+1,by omega,by first|rfl|go_num,K.out.trans sk (fun _ _ e=>e) (fun g hg e=>by have:=(OR.out.lt g e).1;omega),_,by rw[TJ.out];exact so⟩,by simp[intOf];omega⟩
  ·obtain rfl:j=ms.length:=by omega
   have M:=O.out.at;rw[List.take_length] at M;have MH:=zz0 M;clear M
   go_wp2_with fail
   go_ret;exact⟨_,rfl,K.out,MH.out⟩
end
end Go.Proofs.YtpojgmeoaflmoaaGreatDoor
namespace Go.Proofs.YtpojgmeoaflmoaaGreatDoor
open Go.RowKit Go.Maps
section
attribute [local go_sem ↓] zbB zU zbC zbD zV zbE zab zbK
theorem zkm (args:Array Value)(w:World):(callFunc 198 args).run Tryz.prog w = .ok (.enter 198 args) w:=by
 kernel_rfl
end
def PlZ:Obj:=.cells #[.int .i64 0,.int .i64 0,.int .i64 0,.slice none 0 0] 156 (0,0)
theorem infoItem:(Tryz.prog.info? 215).map (fun i=>(i.zero,i.size,i.bytes))=some (some (.agg #[.int .i64 0,.int .i64 0,.int .i64 0,.int .i64 0]),4,32):=by kernel_rfl
theorem zes {w:World}{b:Nat}{T:TypeId}{x0 x1 x2 x3:Value}(h:w.heap[b]? = some (.cells #[x0,x1,x2,x3] T (0,0)))(y0 y1 y2 y3:Value) :
 w.cell? ⟨b,0,none⟩=some x0∧w.cell? ⟨b,1,none⟩=some x1∧w.cell? ⟨b,2,none⟩=some x2∧w.cell? ⟨b,3,none⟩=some x3 ∧
 w.frozen? ⟨b,0,none⟩=false∧w.frozen? ⟨b,1,none⟩=false∧w.frozen? ⟨b,2,none⟩=false∧w.frozen? ⟨b,3,none⟩=false ∧
 ((((w.setCell ⟨b,0,none⟩ y0).setCell ⟨b,1,none⟩ y1).setCell ⟨b,2,none⟩ y2).setCell ⟨b,3,none⟩ y3).heap[b]? = some (.cells #[y0,y1,y2,y3] T (0,0)) ∧
 za (zq3 b) w ((((w.setCell ⟨b,0,none⟩ y0).setCell ⟨b,1,none⟩ y1).setCell ⟨b,2,none⟩ y2).setCell ⟨b,3,none⟩ y3):=by
 refine⟨by simp[World.cell?,h],by simp[World.cell?,h],by simp[World.cell?,h],by simp[World.cell?,h],by simp[World.frozen?,h],by simp[World.frozen?,h],by simp[World.frozen?,h],by simp[World.frozen?,h],zj (zj (zj (zj h 0 y0) 1 y1) 2 y2) 3 y3,((((za.refl _ _).setOne _ _).setOne _ _).setOne _ _).setOne _ _⟩
theorem za4 {w:World}{b:Nat}{T:TypeId}{x0 x1 x2 x3:Value}(h:w.heap[b]? = some (.cells #[x0,x1,x2,x3] T (0,0))):w.cell? ⟨b,0,none⟩=some x0∧w.cell? ⟨b,1,none⟩=some x1∧w.cell? ⟨b,2,none⟩=some x2∧w.cell? ⟨b,3,none⟩=some x3∧∀(j:Nat) u,[x0,x1,x2,x3][j]? = some u→w.cell? ((⟨b,0,none⟩:Addr).add j)=some u:=by
 refine⟨by simp[World.cell?,h],by simp[World.cell?,h],by simp[World.cell?,h],by simp[World.cell?,h],fun j u hu=>?_⟩
 rw[zag,Nat.zero_add];simp only[World.cell?,h];simpa using hu
section
attribute [local go_sem ↓] zbB zU zbC zbD zV zbE zab zbK
end
end Go.Proofs.YtpojgmeoaflmoaaGreatDoor
