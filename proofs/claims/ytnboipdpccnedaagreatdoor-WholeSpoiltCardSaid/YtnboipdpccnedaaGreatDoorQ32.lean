/- chain.Next behind a chain that is not empty: walked (printed by schnext.py out of XWChainN). · The check sum: a text of which one byte is changed has  -/
import Derived.Test.YtnboipdpccnedaaGreatDoorQ30
set_option linter.unusedVariables false
set_option maxRecDepth 100000
set_option maxHeartbeats 16000000
namespace Go.Proofs.YtnboipdpccnedaaGreatDoor
open Go.RowKit
def nxM (num lo hi trim:Nat) (D:List UInt8) (ps:List Pt):Mf:=⟨num,lo,hi,trim,D,ps⟩
theorem zl0 (num lo trim:Nat) (D:List UInt8) (h:D.length=32) (ps:List Pt) (a:Option Addr) (n c:Nat) (w:World):(holdB 87 #[(0,.int .i64 num),(1,.int .i64 lo),(2,.int .i64 lo),(3,.int .i64 trim),(4,arrV D),(5,.slice a n c)]).run Tryz.prog w = .ok (mfV (nxM num lo lo trim D ps) (.slice a n c)) w:=by
  obtain ⟨d0,d1,d2,d3,d4,d5,d6,d7,d8,d9,d10,d11,d12,d13,d14,d15,d16,d17,d18,d19,d20,d21,d22,d23,d24,d25,d26,d27,d28,d29,d30,d31,rfl⟩:=list32 D h
  exact run_build w 87 _ _ (by kernel_rfl)
theorem nx_ok {num lo trim:Nat} {D:List UInt8} {ps:List Pt} (h0:0 < num) (hn:num≤999999) (hD:D.length=32) (h64:ps.length≤64) (hok:okPts lo ps) (hhi:endPts lo ps≤1048576) (htr:trim≤1048576):okMf (nxM num lo (endPts lo ps) trim D ps) where
  num:=hn
  hi:=hhi
  trim:=htr
  prev:=hD
  zero:=fun e=>by have e':num=0:=e;omega
  many:=Nat.le_trans h64 (by decide)
  parts:=hok
  stop:=rfl
section
attribute [local go_sem ↓] hV84 hV106 hV87 hW84 hW106 hW87 hB106 hB87
theorem ziC (T:Nat→Prop) (ms:List Mf) (a:Option Addr) (c lo trim:Nat) (pv:Value) (ps:List Pt) (w:World) (h:MsAt T w (.slice a ms.length c) ms) (hne:ms≠[]) (hlen:ms.length < 90) (och:okCh ms) (hlo:lo=(lastM ms).hi) (htr0:(lastM ms).trim≤trim) (hK:Kon w) (hF:Frs w) (hp:PtsAt w pv ps) (h32:pts32 ps) (h64:ps.length≤64) (hok:okPts lo ps) (hhi:endPts lo ps≤1048576) (htr:trim≤1048576) :
    Calls Tryz.prog 198 #[.slice a ms.length c,.int .i64 lo,.int .i64 trim,pv] w fun e w'=>∃ v',e = .returned (.tuple #[mfV (nxM ms.length lo (endPts lo ps) trim (digM (lastM ms)) ps) v',.nilIface])∧Keep Non w w'∧w'.ownsRow w.heap.size 106 35 v' ps.length (ptsC ps):=by
  have CL:=zz0 (fun w1 (k:Keep Non w w1)=>zcH pv ps w1 (hp.keepNon k) h32 (by omega))
  have PA:=zz0 hp
  obtain ⟨ra,rc,rfl,_,_,_⟩:=hp
  obtain ⟨o1,o2,o3⟩:=och.last hne
  have C1:=zz0 (fun W (k:Keep Non w W)=>zcy T _ ms W (h.keepNon k) och (by omega) (hK.keep k) (hF.keep k))
  have H1:=zz0 (fun W (k:Keep Non w W)=>zeV T _ ms W (h.keepNon k) hne (by omega) o1 o2 (by omega) (hK.keep k) (hF.keep k))
  have ED:=zz0 (fun W (k:Keep Non w W)=>zcG T _ ms W (h.keepNon k) (by omega))
  have MK:=zz0 (fun W (k:Keep Non w W)=>zcI T _ ms W (h.keepNon k) (by omega))
  rw [← hlo] at ED
  have hD32:(digM (lastM ms)).length=32:=zdr _
  generalize digM (lastM ms)=D at H1 hD32 ⊢
  have htri:¬ (trim:Int) < ((lastM ms).trim:Nat):=by omega
  generalize (lastM ms).trim=tr0 at MK htri
  have hl0:(0:Int) < (ms.length:Int):=by have:ms.length≠0:=fun e=>hne (List.eq_nil_of_length_eq_zero e);omega
  have hpos:0 < ms.length:=by omega
  have hbu:=fun (a:Option Addr) (n c:Nat) (W:World)=>zl0 ms.length lo trim D hD32 ps a n c W
  clear h o1 o2 o3 och hK hF htr0 hlo hne
  go_enter Tryz.func198,Tryz.ntmps198
  go_wp2_with (first
    | (go_at_call 45;refine (C1.out _ ((Keep.refl _ _).alloc _)).mono ?_;rintro e w1 ⟨rfl,k1⟩;have b1:w1.heap[w.heap.size]? = some (.cells zMf 87 (0,0)):=nonAt k1 (by exact zab w (.cells zMf 87 (0,0)));have B1:=zz0 b1;have K1:=zz0 (((Keep.refl Non w).alloc _).trans1 k1);clear k1 b1)
    | (go_at_call 66;refine (ED.out _ K1.out).mono ?_;rintro e w1e ⟨rfl,k1e⟩;have B1e:=zz0 (nonAt k1e B1.out);have K1e:=zz0 (K1.out.trans1 k1e);clear k1e)
    | (go_at_call 68;refine (MK.out _ K1e.out).mono ?_;rintro e w1m ⟨rfl,k1m⟩;have B1m:=zz0 (nonAt k1m B1e.out);have K1m:=zz0 (K1e.out.trans1 k1m);clear k1m)
    | (go_at_call 159;refine (H1.out _ K1m.out).mono ?_;rintro e w2 ⟨rfl,k2⟩;have B2:=zz0 (nonAt k2 B1m.out);have K2:=zz0 (K1m.out.trans1 k2);have hs2:=zcd (w2.alloc (.cells z32 84)) w2.heap.size D z32 hD32 rfl (zab _ _);obtain ⟨wB,hwB⟩:∃ wB,wB=(w2.alloc (.cells z32 84)).setRow w2.heap.size (D.map bv).toArray:=⟨_,rfl⟩;have k2B:Keep Non w2 wB:=(by rw [hwB];exact ((Keep.refl Non w2).alloc _).setRow (.inr (Nat.le_refl _)) _);have bh:wB.heap[w2.heap.size]? = some (.cells (D.map bv).toArray 84 (0,0)):=(by rw [hwB];exact setRow_heap _ _ _ _ _ _ (zab _ _));rw [← hwB] at hs2;dsimp only [z32] at hs2;clear k2 hwB))
  have kB:Keep Non w wB:=K2.out.trans1 k2B
  have br:wB.heap[w.heap.size]? = some (.cells zMf 87 (0,0)):=nonAt k2B B2.out
  clear hs2 k2B
  have ldH:∀ W:World,W.heap[w2.heap.size]? = some (.cells (D.map bv).toArray 84 (0,0))→(holdV 84 ⟨w2.heap.size,0,none⟩).run Tryz.prog W = .ok (arrV D) W:=fun W h=>zco h hD32
  have kz:∀ W:World,Keep Non W (W.alloc (.cells zMf 87)):=fun W=>(Keep.refl _ _).alloc _
  have lB:=ldH wB bh
  have lBd:=ldH wB.drew bh
  have lBz:=ldH _ (nonAt (kz wB) bh)
  have lBzd:=ldH (wB.alloc (.cells zMf 87)).drew (nonAt (kz wB).drew bh)
  have CA:=zz0 (CL.out wB.drew (kB.trans1 (Keep.refl Non wB).drew))
  have CB:=zz0 (CL.out (wB.alloc (.cells zMf 87)).drew (kB.trans1 (kz wB).drew))
  have NB:=zz0 (zab wB (.cells zMf 87 (0,0)))
  dsimp only [zMf] at lBz lBzd CB
  have LH:=zz0 ldH
  have KZ:=zz0 kz
  have KB:=zz0 kB
  have BH:=zz0 bh
  have BR:=zz0 br
  have SB:Hid (w.heap.size < wB.heap.size):=zz0 (lt_of_block br)
  clear ldH kz kB bh br
  go_region_law (go_simp;go_at_call 80;first
    | ((with_reducible refine CA.out.mono ?_);rintro e w3 ⟨v3,rfl,k3,o3⟩;obtain ⟨a3,c3,rfl,_,_⟩:=zaa o3;have k3':=((Keep.refl Non wB).drew).trans1 k3;have l3:=LH.out w3 (nonAt k3' BH.out);have l3z:=LH.out _ (nonAt (KZ.out w3) (nonAt k3' BH.out));have hst:=zaF w3 (nxM ms.length lo lo trim D ps) a3 ps.length c3 hD32;dsimp only [zMf,MfB] at hst l3z;have K3:=zz0 k3';have O3:Hid (w3.ownsRow wB.heap.size 106 35 (.slice a3 ps.length c3) ps.length (ptsC ps)):=zz0 o3;have E:Hid (NxEnd w (nxM ms.length lo lo trim D ps) (.slice a3 ps.length c3) w3.heap.size (w3.alloc (.cells (mfC (nxM ms.length lo lo trim D ps) (.slice a3 ps.length c3)).toArray 87))):=zz0 (nx_A (m:=nxM ms.length lo lo trim D ps) KB.out BR.out k3' o3);clear k3 k3' o3)
    | ((with_reducible refine CB.out.mono ?_);rintro e w3 ⟨v3,rfl,k3,o3⟩;obtain ⟨a3,c3,rfl,_,_⟩:=zaa o3;have k3':=((KZ.out wB).drew).trans1 k3;have l3:=LH.out w3 (nonAt k3' BH.out);have z3:=nonAt k3 NB.out;have hst:=zaT w3 wB.heap.size (nxM ms.length lo lo trim D ps) a3 ps.length c3 zMf hD32 rfl z3;have o3':w3.ownsRow (wB.heap.size+1) 106 35 (.slice a3 ps.length c3) ps.length (ptsC ps):=(by simpa using o3);have E:Hid (NxEnd w (nxM ms.length lo lo trim D ps) (.slice a3 ps.length c3) wB.heap.size (w3.setRow wB.heap.size (mfC (nxM ms.length lo lo trim D ps) (.slice a3 ps.length c3)).toArray)):=zz0 (nx_B (m:=nxM ms.length lo lo trim D ps) KB.out BR.out k3' z3 o3');clear o3';clear k3 k3' o3 z3))
  all_goals
    have e0:=E.out
    first
      | (obtain ⟨W4,hW⟩:∃ W4,W4=w3.setRow wB.heap.size (mfC (nxM ms.length lo lo trim D ps) (.slice a3 ps.length c3)).toArray:=⟨_,rfl⟩;rw [← hW] at e0 ⊢;clear hW;obtain ⟨bm,hb⟩:∃ bm,bm=wB.heap.size:=⟨_,rfl⟩;rw [← hb] at e0 ⊢;clear hb)
      | (obtain ⟨W4,hW⟩:∃ W4,W4=w3.alloc (.cells (mfC (nxM ms.length lo lo trim D ps) (.slice a3 ps.length c3)).toArray 87):=⟨_,rfl⟩;rw [← hW] at e0 ⊢;clear hW;obtain ⟨bm,hb⟩:∃ bm,bm=w3.heap.size:=⟨_,rfl⟩;rw [← hb] at e0 ⊢;clear hb)
    have EN:=zz0 e0
    clear e0
    go_wp2_with fail
  all_goals
    go_loopw [64] (fun i wr=>∃ j:Nat,j≤ps.length∧i = .int .i64 j∧NxEnd w (nxM ms.length lo (endPts lo (ps.take j)) trim D ps) (.slice a3 ps.length c3) bm wr) (fun i _=>ps.length - (intOf i).toNat)
    case atStart=>exact ⟨0,by omega,rfl,EN.out⟩
    case round =>
      obtain ⟨j,hj,rfl,hn⟩:=hrel
      have N:=zz0 hn
      have c2:=mf_2 hn.1
      have f2:=mf_f hn.1 2
      simp only [nxM] at c2
      clear hn
      by_cases hlt:j < ps.length
      · have hlj:(j:Int) < (ps.length:Int):=by omega
        obtain ⟨p,hpj⟩:∃ p,ps[j]? = some p:=⟨_,List.getElem?_eq_getElem hlt⟩
        have hst:=za7 ps lo j p hpj
        have hle:=Nat.le_trans (zaH ps lo (j+1)).2 hhi
        have hp5:=h32 p (List.mem_of_getElem? hpj)
        obtain ⟨a1,c1,e1,_,_,hx⟩:=PA.out.keepNon N.out.2.2.1
        injection e1 with e1 e3 e4
        subst e1
        subst e4
        obtain ⟨g,off,rfl,hcell⟩:=hx j p hpj
        have hld:=load101 wr g (off+j * 35) p hp5 hcell
        have hsp:=zas wr p hp5
        have q1:=ptc_1 p
        have c2p:=mf_2 (nonAt ((Keep.refl Non wr).alloc (PtB p)) N.out.1)
        have f2p:=mf_f (nonAt ((Keep.refl Non wr).alloc (PtB p)) N.out.1) 2
        simp only [nxM] at c2p
        dsimp only [zPt,PtB] at hsp
        dsimp only [PtB] at c2p f2p
        have ST:=zz0 hst
        clear hx hcell hpj
        go_wp2_with fail
        have hn2:=zkJ N.out (PtB p) (endPts lo (ps.take (j+1)))
        have ec:(((endPts lo (ps.take (j+1)):Nat)):Int)=(endPts lo (ps.take j):Int)+p.many:=by rw [ST.out];exact Int.natCast_add _ _
        dsimp only [PtB] at hn2
        rw [ec] at hn2
        exact ⟨⟨j+1,by omega,by first | rfl | go_num,hn2⟩,by simp [intOf];omega⟩
      · obtain rfl:j=ps.length:=by omega
        rw [List.take_length] at N
        have hl3:=zan N.out.1 hD32
        have CK:=zz0 (zbp (nxM ms.length lo (endPts lo ps) trim D ps) (.slice a3 ps.length c3) wr (nx_ok hpos (by omega) hD32 h64 hok hhi htr) (PtsAt.of N.out.2.2.2.2.2 h32))
        go_wp2_with (go_at_call 101;refine CK.out.mono ?_;rintro e w5 ⟨rfl,k5⟩;have hl5:=zan (nonAt k5 N.out.1) hD32;have z5:=nonAt k5 N.out.2.1;have hs5:=zaT w5 w.heap.size (nxM ms.length lo (endPts lo ps) trim D ps) a3 ps.length c3 zMf hD32 rfl z5;have hl6:=zan (m:=nxM ms.length lo (endPts lo ps) trim D ps) (pv:=.slice a3 ps.length c3) (setRow_heap w5 w.heap.size _ (mfC (nxM ms.length lo (endPts lo ps) trim D ps) (.slice a3 ps.length c3)).toArray _ _ z5) hD32;have L6:=zz0 hl6;have K5:=zz0 k5;clear k5 z5 hl6)
        have hlv:=L6.out
        unfold holdV at hlv
        refine bodyPost_ret (v:=.tuple #[mfV (nxM ms.length lo (endPts lo ps) trim D ps) (.slice a3 ps.length c3),.nilIface]) (by simp [results,Tryz.results198,asAddr,hlv]) rfl ?_
        have k6:Keep (One w.heap.size) w5 (w5.setRow w.heap.size (mfC (nxM ms.length lo (endPts lo ps) trim D ps) (.slice a3 ps.length c3)).toArray):=(Keep.refl (One w.heap.size) _).setRow (.inl (zar _)) _
        have ho:=N.out.2.2.2.2
        exact ⟨_,rfl,(N.out.2.2.1.trans1 K5.out).trans k6 (fun _ _ e=>e) (fun g hg e=>by have e':g=w.heap.size:=e;omega),zac (zac ho.2 K5.out (fun _ _ e=>e)) k6 (fun g e e2=>by have e':g=w.heap.size:=e2;have:=(ho.1 g e).1;omega)⟩
end
def tops:List Nat:=[0,242,225,19,199,53,38,212,138,120,107,153,77,191,172,94,16,226,241,3,215,37,54,196,154,104,123,137,93,175,188,78,32,210,193,51,231,21,6,244,170,88,75,185,109,159,140,126,48,194,209,35,247,5,22,228,186,72,91,169,125,143,156,110,65,179,160,82,134,116,103,149,203,57,42,216,12,254,237,31,81,163,176,66,150,100,119,133,219,41,58,200,28,238,253,15,97,147,128,114,166,84,71,181,235,25,10,248,44,222,205,63,113,131,144,98,182,68,87,165,251,9,26,232,60,206,221,47,130,112,99,145,69,183,164,86,8,250,233,27,207,61,46,220,146,96,115,129,85,167,180,70,24,234,249,11,223,45,62,204,162,80,67,177,101,151,132,118,40,218,201,59,239,29,14,252,178,64,83,161,117,135,148,102,56,202,217,43,255,13,30,236,195,49,34,208,4,246,229,23,73,187,168,90,142,124,111,157,211,33,50,192,20,230,245,7,89,171,184,74,158,108,127,141,227,17,2,240,36,214,197,55,105,155,136,122,174,92,79,189,243,1,18,224,52,198,213,39,121,139,152,106,190,76,95,173]
theorem zlx:(List.range 256).map (fun (k:Nat)=>(tabI (k:Int)).toNat / 16777216)=tops:=by decide +kernel
theorem zjq:tops.Nodup:=by decide +kernel
theorem zpj {j k:Nat} (hj:j < 256) (hk:k < 256) (h:(tabI (j:Int)).toNat / 16777216=(tabI (k:Int)).toNat / 16777216):j=k:=by
  have g:∀ i:Nat,i < 256→tops[i]? = some ((tabI (i:Int)).toNat / 16777216):=fun i hi=>by
    rw [← zlx,List.getElem?_map,List.getElem?_range hi]
    rfl
  have hl:tops.length=256:=by rw [← zlx,List.length_map,List.length_range]
  have ej:=g j hj
  have ek:=g k hk
  rw [h,← ek] at ej
  exact (List.getElem?_inj (by omega) zjq).1 ej
theorem zp8 (k:Nat) (hk:k < 256):0≤tabI (k:Int)∧tabI (k:Int) < 4294967296:=fN_32 _ (by omega) 8
theorem zdW (x:Nat) (hx:x < 4294967296) (c:UInt8):crcStep x c=(((tabI ((x % 256 ^^^ c.toNat:Nat):Int)).toNat ^^^ (x / 256):Nat):Int):=by
  have hc:=c.toNat_lt
  unfold crcStep
  have e1:((x:Int) % 256)=((x % 256:Nat):Int):=by omega
  have e2:((x:Int) / 256)=((x / 256:Nat):Int):=by omega
  have hk:x % 256 ^^^ c.toNat < 256:=Nat.xor_lt_two_pow (n:=8) (by omega) (by omega)
  have ht:=zp8 _ hk
  rw [e1,e2,u8_xor_nat _ _ (by omega) (by omega)]
  have e3:tabI ((x % 256 ^^^ c.toNat:Nat):Int)=(((tabI ((x % 256 ^^^ c.toNat:Nat):Int)).toNat:Nat):Int):=by omega
  rw [e3,u32_xor_nat _ _ (by omega) (by omega)]
  rfl
theorem zdV {x y:Nat} (hx:x < 4294967296) (hy:y < 4294967296) {c d:UInt8} (h:crcStep x c=crcStep y d):x / 256=y / 256∧x % 256 ^^^ c.toNat=y % 256 ^^^ d.toNat:=by
  have hc:=c.toNat_lt
  have hd:=d.toNat_lt
  rw [zdW x hx,zdW y hy] at h
  have h':(tabI ((x % 256 ^^^ c.toNat:Nat):Int)).toNat ^^^ (x / 256)=(tabI ((y % 256 ^^^ d.toNat:Nat):Int)).toNat ^^^ (y / 256):=by exact_mod_cast h
  have hk:x % 256 ^^^ c.toNat < 256:=Nat.xor_lt_two_pow (n:=8) (by omega) (by omega)
  have hl:y % 256 ^^^ d.toNat < 256:=Nat.xor_lt_two_pow (n:=8) (by omega) (by omega)
  generalize x % 256 ^^^ c.toNat=k at *
  generalize y % 256 ^^^ d.toNat=l at *
  have e:=congrArg (fun z=>z / 2 ^ 24) h'
  simp only [Nat.xor_div_two_pow] at e
  rw [Nat.div_eq_of_lt (by omega:x / 256 < 2 ^ 24),Nat.div_eq_of_lt (by omega:y / 256 < 2 ^ 24),Nat.xor_zero,Nat.xor_zero] at e
  have hkl:=zpj hk hl e
  subst hkl
  refine ⟨?_,rfl⟩
  have h2:=congrArg (fun z=>(tabI (k:Int)).toNat ^^^ z) h'
  simpa only [← Nat.xor_assoc,Nat.xor_self,Nat.zero_xor] using h2
theorem zjl {x y:Nat} (hx:x < 4294967296) (hy:y < 4294967296) {c:UInt8} (h:crcStep x c=crcStep y c):x=y:=by
  obtain ⟨h1,h2⟩:=zdV hx hy h
  have h3:=congrArg (fun z=>z ^^^ c.toNat) h2
  simp only [Nat.xor_assoc,Nat.xor_self,Nat.xor_zero] at h3
  omega
theorem zls {x:Nat} (hx:x < 4294967296) {c d:UInt8} (h:crcStep x c=crcStep x d):c=d:=by
  obtain ⟨_,h2⟩:=zdV hx hx h
  have h3:=congrArg (fun z=>x % 256 ^^^ z) h2
  simp only [← Nat.xor_assoc,Nat.xor_self,Nat.zero_xor] at h3
  exact UInt8.toNat_inj.1 h3
theorem zhY:∀ (l:List UInt8) (x y:Nat),x < 4294967296→y < 4294967296→crcGo x l=crcGo y l→x=y
  | [],x,y,_,_,h=>by have h':(x:Int)=y:=h;omega
  | c :: l,x,y,hx,hy,h=>by
    have h':crcGo (crcStep x c) l=crcGo (crcStep y c) l:=h
    have bx:=bits32 .xor (tabI (bits .xor .u8 ((x:Int) % 256) c.toNat)) ((x:Int) / 256)
    have by':=bits32 .xor (tabI (bits .xor .u8 ((y:Int) % 256) c.toNat)) ((y:Int) / 256)
    have ex:crcStep x c=((crcStep x c).toNat:Int):=by unfold crcStep;omega
    have ey:crcStep y c=((crcStep y c).toNat:Int):=by unfold crcStep;omega
    rw [ex,ey] at h'
    have:=zhY l _ _ (by unfold crcStep;omega) (by unfold crcStep;omega) h'
    exact zjl hx hy (by rw [ex,ey,this])
theorem zpS (a b:List UInt8) (c d:UInt8) (x:Nat) (hx:x < 4294967296) (h:crcGo x (a ++ c :: b)=crcGo x (a ++ d :: b)):c=d:=by
  unfold crcGo at h
  rw [List.foldl_append,List.foldl_append] at h
  have ha:=zdT x (by omega) a
  unfold crcGo at ha
  generalize List.foldl crcStep (x:Int) a=y at h ha
  obtain ⟨z,rfl⟩:∃ z:Nat,y=(z:Int):=⟨y.toNat,by omega⟩
  have bx:=bits32 .xor (tabI (bits .xor .u8 ((z:Int) % 256) c.toNat)) ((z:Int) / 256)
  have by':=bits32 .xor (tabI (bits .xor .u8 ((z:Int) % 256) d.toNat)) ((z:Int) / 256)
  have ex:crcStep z c=((crcStep z c).toNat:Int):=by unfold crcStep;omega
  have ey:crcStep z d=((crcStep z d).toNat:Int):=by unfold crcStep;omega
  have h':crcGo (crcStep z c) b=crcGo (crcStep z d) b:=h
  rw [ex,ey] at h'
  have:=zhY b _ _ (by unfold crcStep;omega) (by unfold crcStep;omega) h'
  exact zls (x:=z) (by omega) (by rw [ex,ey,this])
theorem zkI {x y:Int} (hx:0≤x∧x < 4294967296) (hy:0≤y∧y < 4294967296) (h:not32 x=not32 y):x=y:=by
  obtain ⟨a,rfl⟩:=Int.eq_ofNat_of_zero_le hx.1
  obtain ⟨b,rfl⟩:=Int.eq_ofNat_of_zero_le hy.1
  unfold not32 at h
  rw [show IntKind.u32.max=((4294967295:Nat):Int) from rfl,u32_xor_nat _ _ (by omega) (by omega),u32_xor_nat _ _ (by omega) (by omega)] at h
  have h':4294967295 ^^^ a=4294967295 ^^^ b:=by exact_mod_cast h
  have h3:=congrArg (fun z=>4294967295 ^^^ z) h'
  simp only [← Nat.xor_assoc,Nat.xor_self,Nat.zero_xor] at h3
  omega
theorem zn1 (a b:List UInt8) {c d:UInt8} (h:c≠d):crcI (a ++ c :: b)≠crcI (a ++ d :: b):=fun e=>by
  have h0:not32 0=((4294967295:Nat):Int):=by decide +kernel
  have e2:=zkI (zfm _) (zfm _) e
  rw [h0] at e2
  exact h (zpS a b c d _ (by omega) e2)
theorem zmj {x y:Int} (hx:0≤x∧x < 4294967296) (hy:0≤y∧y < 4294967296) (h:fourB x=fourB y):x=y:=by
  have hb:∀ {u v:Int},0≤u→u < 256→0≤v→v < 256→b8 u=b8 v→u=v:=fun {u v} h1 h2 h3 h4 e=>by
    have e2:=congrArg UInt8.toNat e
    unfold b8 at e2
    simp at e2
    omega
  unfold fourB at h
  injection h with h1 h
  injection h with h2 h
  injection h with h3 h
  injection h with h4 h
  have a1:=hb (by omega) (by omega) (by omega) (by omega) h1
  have a2:=hb (by omega) (by omega) (by omega) (by omega) h2
  have a3:=hb (by omega) (by omega) (by omega) (by omega) h3
  have a4:=hb (by omega) (by omega) (by omega) (by omega) h4
  omega
end Go.Proofs.YtnboipdpccnedaaGreatDoor
namespace Go.Proofs.YtnboipdpccnedaaGreatDoor
open Go.RowKit Go.Maps
def Bad (B:List UInt8):Prop:=∃ t s,t.length≤65536∧s.length=4∧B=vtext t ++ s∧fourB (crcI (vtext t))≠s
theorem Bad.len {B:List UInt8} (h:Bad B):B.length≤100000:=by
  obtain ⟨t,s,h1,h2,rfl,_⟩:=h
  have h3:(vput t.length).length≤3:=zao (by omega)
  rw [List.length_append,za4]
  omega
theorem zpE {t:List UInt8} {k:Nat} {c:UInt8} (ht:t.length≤65536) (h1:(vput t.length).length≤k) (h2:k < (frameB t).length) (hc:(frameB t)[k]?≠some c):Bad ((frameB t).set k c):=by
  have hB:frameB t=vput t.length ++ (t ++ fourB (crcI (vtext t))):=by
    show vput t.length ++ t ++ fourB (crcI (vtext t))=_
    rw [List.append_assoc]
  have h4:=zba (crcI (vtext t))
  obtain ⟨H,hH⟩:∃ H,H=(vput t.length).length:=⟨_,rfl⟩
  have hl:(frameB t).length=H+(t.length+4):=by rw [hB,List.length_append,List.length_append,h4,hH]
  rw [← hH] at h1
  by_cases hk:k < H+t.length
  · obtain ⟨i,hi⟩:∃ i,i=k - H:=⟨_,rfl⟩
    have hit:i < t.length:=by omega
    have hget:(frameB t)[k]? = some t[i]:=by
      rw [hB,List.getElem?_append_right (by omega),← hH,← hi,List.getElem?_append_left hit,List.getElem?_eq_getElem hit]
    have hne:c≠t[i]:=fun e=>hc (by rw [hget,e])
    have hs:t.set i c=t.take i ++ c :: t.drop (i+1):=by rw [List.set_eq_take_append_cons_drop,if_pos hit]
    have ht2:t=t.take i ++ t[i] :: t.drop (i+1):=by rw [List.getElem_cons_drop,List.take_append_drop]
    refine ⟨t.set i c,fourB (crcI (vtext t)),by rw [List.length_set];exact ht,h4,?_,fun e=>?_⟩
    · show (frameB t).set k c=vput (t.set i c).length ++ t.set i c ++ fourB (crcI (vtext t))
      rw [List.length_set,hB,List.set_append,if_neg (by omega),List.set_append,← hH,← hi,if_pos hit,List.append_assoc]
    · have e2:=zmj (zdU _) (zdU _) e
      have v1:vtext (t.set i c)=(vput t.length ++ t.take i) ++ c :: t.drop (i+1):=by
        show vput (t.set i c).length ++ t.set i c=_
        rw [List.length_set,hs,List.append_assoc]
      have v2:vtext t=(vput t.length ++ t.take i) ++ t[i] :: t.drop (i+1):=by
        show vput t.length ++ t=_
        rw [List.append_assoc]
        exact congrArg _ ht2
      rw [v1,v2] at e2
      exact zn1 _ _ hne e2
  · obtain ⟨i,hi⟩:∃ i,i=k - H - t.length:=⟨_,rfl⟩
    have hi4:i < (fourB (crcI (vtext t))).length:=by omega
    refine ⟨t,(fourB (crcI (vtext t))).set i c,ht,by rw [List.length_set];exact h4,?_,fun e=>?_⟩
    · show (frameB t).set k c=vput t.length ++ t ++ (fourB (crcI (vtext t))).set i c
      rw [hB,List.set_append,if_neg (by omega),List.set_append,← hH,if_neg (by omega),← hi,List.append_assoc]
    · have hget:(frameB t)[k]? = (fourB (crcI (vtext t)))[i]?:=by
        rw [hB,List.getElem?_append_right (by omega),← hH,List.getElem?_append_right (by omega),← hi]
      have:(fourB (crcI (vtext t)))[i]? = some c:=by
        rw [e,List.getElem?_set_self hi4]
      exact hc (hget.trans this)
theorem zjG (w:World):(holdB 87 #[]).run Tryz.prog w = .ok (mfV mf0 (.slice none 0 0)) w:=by kernel_rfl
section
attribute [local go_sem ↓] hV84 hV106 hV87 hW84 hW106 hW87 hB106 hB87
theorem zmC (v:Value) (B:List UInt8) (w:World) (h:Bs w v B) (hb:Bad B) (hc:okc v) (hv:∀ g,v.ownBlock=some g→g < w.heap.size) :
    Calls Tryz.prog 44 #[v] w fun e w'=>e = .returned (.tuple #[mfV mf0 (.slice none 0 0),.iface 55 (.int .i64 11)])∧Keep Non w w':=by
  obtain ⟨t,s,ht,hs,rfl,hn⟩:=hb
  have FO:=zz0 (fun w1 (k:Keep Non w w1)=>zkf v t s w1 (h.keepNon k) hs hn hc ht (fun g e=>k.lt (hv g e)))
  obtain ⟨a,c,rfl,_⟩:=zaw h
  clear h hc hv ht hs hn
  generalize (vtext t ++ s).length=nb at FO ⊢
  have B0:Hid ((w.alloc (.cells zMf 87)).heap[w.heap.size]? = some (.cells zMf 87 (0,0))):=zz0 (zab w _)
  have K0:Hid (Keep Non w (w.alloc (.cells zMf 87))):=zz0 ((Keep.refl _ _).alloc _)
  have FK0:=zz0 (FO.out _ K0.out)
  dsimp only [zMf] at FK0
  have hb0:=zjG
  go_enter Tryz.func44,Tryz.ntmps44
  go_wp2_with (go_at_call 12;refine FK0.out.mono ?_;rintro e w1 ⟨k1',rfl⟩;have k1:Keep Non (w.alloc (.cells zMf 87)) w1:=k1';have z1:=nonAt k1 B0.out;have K1:=zz0 (K0.out.trans1 k1);have hs1:=zaT w1 w.heap.size mf0 none 0 0 zMf (List.length_replicate ..) rfl z1;have Z1:=zz0 z1;clear k1 k1' z1)
  have hlv:=zan (w:=w1.setRow w.heap.size (mfC mf0 (.slice none 0 0)).toArray) (setRow_heap _ _ _ (mfC mf0 (.slice none 0 0)).toArray _ _ Z1.out) (List.length_replicate ..)
  unfold holdV at hlv
  refine bodyPost_ret (v:=.tuple #[mfV mf0 (.slice none 0 0),.iface 55 (.int .i64 11)]) (by simp [results,Tryz.results44,asAddr,hlv]) rfl ?_
  have kf:Keep (One w.heap.size) w1 (w1.setRow w.heap.size (mfC mf0 (.slice none 0 0)).toArray):=(Keep.refl (One w.heap.size) _).setRow (.inl (zar _)) _
  exact ⟨rfl,K1.out.trans kf (fun _ _ e=>e) (fun g hg e=>by have e':g=w.heap.size:=e;omega)⟩
end
theorem zlg (v:Value) (B:List UInt8) (w:World) (h:Bs w v B) (hb:Bad B) (hc:okc v) (hv:∀ g,v.ownBlock=some g→g < w.heap.size) :
    Calls Tryz.prog 161 #[v] w fun e w'=>e = .returned (.tuple #[.agg #[.int .i64 0,.slice none 0 0],.iface 55 (.int .i64 11)])∧Keep Non w w':=by
  obtain ⟨t,s,ht,hs,rfl,hn⟩:=hb
  have FO:=zz0 (fun w1 (k:Keep Non w w1)=>zkf v t s w1 (h.keepNon k) hs hn hc ht (fun g e=>k.lt (hv g e)))
  obtain ⟨a,c,rfl,_⟩:=zaw h
  clear h hc hv ht hs hn
  generalize (vtext t ++ s).length=nb at FO ⊢
  have B0:=zz0 (zab w (SgB 0 (.slice none 0 0)))
  have K0:Hid (Keep Non w (w.alloc (SgB 0 (.slice none 0 0)))):=zz0 ((Keep.refl _ _).alloc _)
  go_enter Tryz.func161,Tryz.ntmps161
  go_wp2_with (go_at_call 12;refine (FO.out _ K0.out).mono ?_;rintro e w1 ⟨k1,rfl⟩;have g1:=nonAt k1 B0.out;have K1:=zz0 (K0.out.trans1 k1);have G1:=zz0 g1;have rf0:=sg_f g1 0;have rf1:=sg_f g1 1;have rc0:w1.cell? ⟨w.heap.size,0,none⟩=some (.int .i64 0):=sg_0 g1;have rc1:=sg_1 g1;have rx0:(w1.setCell ⟨w.heap.size,0,none⟩ (.int .i64 0)).cell? ⟨w.heap.size,0,none⟩=some (.int .i64 0):=sg_0 (zaz g1 0);clear k1 g1)
  have s0:((w1.setCell ⟨w.heap.size,0,none⟩ (.int .i64 0)).setCell ⟨w.heap.size,1,none⟩ (.slice none 0 0)).cell? ⟨w.heap.size,0,none⟩=some (.int .i64 0):=sg_0 (zaV (zaz G1.out 0) (.slice none 0 0))
  have s1:((w1.setCell ⟨w.heap.size,0,none⟩ (.int .i64 0)).setCell ⟨w.heap.size,1,none⟩ (.slice none 0 0)).cell? ⟨w.heap.size,1,none⟩=some (.slice none 0 0):=sg_1 (zaV (zaz G1.out 0) (.slice none 0 0))
  refine bodyPost_ret (v:=.tuple #[.agg #[.int .i64 0,.slice none 0 0],.iface 55 (.int .i64 11)]) (by simp [results,Tryz.results161,go_sem,s0,s1]) rfl ?_
  have kf:Keep (One w.heap.size) w1 ((w1.setCell ⟨w.heap.size,0,none⟩ (.int .i64 0)).setCell ⟨w.heap.size,1,none⟩ (.slice none 0 0)):=((Keep.refl _ _).setOne _ _).setOne _ _
  exact ⟨rfl,K1.out.trans kf (fun _ _ e=>e) (fun g hg e=>by have e':g=w.heap.size:=e;omega)⟩
section
attribute [local go_sem ↓] hV84 hV106 hV87 hW84 hW106 hW87 hB106 hB87
theorem zkC (p:Pt) (v:Value) (B:List UInt8) (w:World) (p5:p.sum.length=32) (h:Bs w v B) (hb:Bad B) (hc:okc v) (hv:∀ g,v.ownBlock=some g→g < w.heap.size) (hK:Kon w) (hF:Frs w) :
    Calls Tryz.prog 105 #[ptV p,v] w fun e w'=>e = .returned (.tuple #[.agg #[.int .i64 0,.slice none 0 0],.iface 55 (.int .i64 11)])∧Keep Non w w':=by
  have TA:=zz0 (fun w1 (k:Keep Non w w1)=>zlg v B w1 (h.keepNon k) hb hc (fun g e=>k.lt (hv g e)))
  have HKF:=zz0 (And.intro hK hF)
  have HB:=zz0 h
  have hbl:=hb.len
  obtain ⟨a,c,rfl,_⟩:=zaw h
  have heq:=zkH (digB (shaS B)) p.sum (zal _) p5
  have hgd:=zd7
  have q0:(ptC p)[0]? = some (.int .i64 p.first):=rfl
  have q1:(ptC p)[1]? = some (.int .i64 p.many):=rfl
  have q2:(ptC p)[2]? = some (.int .i64 p.size):=rfl
  have b1:((w.alloc (PtB p)).alloc (SgB 0 (.slice none 0 0))).heap[w.heap.size]? = some (PtB p):=zae (zab w (PtB p)) _
  have g1:((w.alloc (PtB p)).alloc (SgB 0 (.slice none 0 0))).heap[w.heap.size+1]? = some (SgB 0 (.slice none 0 0)):=zaA _ _ _
  have kA:Keep Non w ((w.alloc (PtB p)).alloc (SgB 0 (.slice none 0 0))):=((Keep.refl _ _).alloc _).alloc _
  have sz:w.heap.size+2≤((w.alloc (PtB p)).alloc (SgB 0 (.slice none 0 0))).heap.size:=by simp
  have SM:=zz0 (fun W (k:Keep Non w W)=>zfR B a c W (Rd.keepNon HB.out k) (HKF.out.1.keep k) (HKF.out.2.keep k) (by omega))
  clear h hc hv hK hF hb HB HKF
  generalize hnb:B.length=nb at TA SM hbl ⊢
  obtain ⟨wA,hwA⟩:∃ wA,wA=(w.alloc (PtB p)).alloc (SgB 0 (.slice none 0 0)):=⟨_,rfl⟩
  rw [← hwA] at b1 g1 kA sz
  have KA:=zz0 kA
  have B1:=zz0 b1
  have G1:=zz0 g1
  have SZ:=zz0 sz
  have hwB:(w.alloc (.cells (ptC p).toArray 106)).alloc (.cells #[.int .i64 0,.slice none 0 0] 109)=wA:=hwA.symm
  clear kA b1 g1 sz hwA
  have FIN:Hid (∀ W,Keep Non wA W→W.cell? ⟨w.heap.size+1,0,none⟩=some (.int .i64 0)∧W.cell? ⟨w.heap.size+1,1,none⟩=some (.slice none 0 0)∧W.frozen? ⟨w.heap.size+1,0,none⟩=false∧W.frozen? ⟨w.heap.size+1,1,none⟩=false∧(W.setCell ⟨w.heap.size+1,0,none⟩ (.int .i64 0)).frozen? ⟨w.heap.size+1,1,none⟩=false∧(W.setCell ⟨w.heap.size+1,0,none⟩ (.int .i64 0)).cell? ⟨w.heap.size+1,1,none⟩=some (.slice none 0 0)∧((W.setCell ⟨w.heap.size+1,0,none⟩ (.int .i64 0)).setCell ⟨w.heap.size+1,1,none⟩ (.slice none 0 0)).cell? ⟨w.heap.size+1,0,none⟩=some (.int .i64 0)∧((W.setCell ⟨w.heap.size+1,0,none⟩ (.int .i64 0)).setCell ⟨w.heap.size+1,1,none⟩ (.slice none 0 0)).cell? ⟨w.heap.size+1,1,none⟩=some (.slice none 0 0)∧Keep Non w ((W.setCell ⟨w.heap.size+1,0,none⟩ (.int .i64 0)).setCell ⟨w.heap.size+1,1,none⟩ (.slice none 0 0))):=zz0 (fun W k=>by
    have g:=nonAt k G1.out
    have kf:Keep (One (w.heap.size+1)) W ((W.setCell ⟨w.heap.size+1,0,none⟩ (.int .i64 0)).setCell ⟨w.heap.size+1,1,none⟩ (.slice none 0 0)):=((Keep.refl _ _).setOne _ _).setOne _ _
    exact ⟨sg_0 g,sg_1 g,sg_f g 0,sg_f g 1,sg_f (zaz g 0) 1,sg_1 (zaz g 0),sg_0 (zaV (zaz g 0) (.slice none 0 0)),sg_1 (zaV (zaz g 0) (.slice none 0 0)),(KA.out.trans1 k).trans kf (fun _ _ e=>e) (fun x hx e=>by have e':x=w.heap.size+1:=e;omega)⟩)
  have LP:Hid (∀ W,Keep Non wA W→W.cell? ⟨w.heap.size,2,none⟩=some (.int .i64 p.size)∧(holdV 84 ⟨w.heap.size,3,none⟩).run Tryz.prog W = .ok (arrV p.sum) W):=zz0 (fun W k=>⟨pt_2 (nonAt k B1.out),load81 W w.heap.size 3 _ p5 (zig (p:=p) (nonAt k B1.out))⟩)
  have KD:Hid (Keep Non wA wA.drew):=zz0 (Keep.refl _ _).drew
  have SMW:=zz0 (SM.out wA.drew (KA.out.trans1 KD.out))
  unfold ptV
  go_enter Tryz.func105,Tryz.ntmps105
  go_wp2_with fail
  try rw [hwB]
  clear hwB
  obtain ⟨c2,lA⟩:=LP.out wA (Keep.refl _ _)
  obtain ⟨c2d,lD⟩:=LP.out wA.drew KD.out
  by_cases hsz:nb=p.size
  · subst hsz
    cases hq:(digB (shaS B) == p.sum) with
    | false =>
      rw [hq] at heq
      go_region_law (go_simp;go_at_call 160;refine SMW.out.mono ?_;rintro e w2 ⟨rfl,k2⟩;have k2':Keep Non wA w2:=KD.out.trans1 k2;obtain ⟨c2',l2⟩:=LP.out w2 k2';obtain ⟨x1,x2,x3,x4,x5,x6,x7,x8,x9⟩:=FIN.out w2 k2';have X9:=zz0 x9;clear k2 k2' x9)
      all_goals
        go_wp2_with fail
        refine bodyPost_ret (v:=.tuple #[.agg #[.int .i64 0,.slice none 0 0],.iface 55 (.int .i64 11)]) (by simp [results,Tryz.results105,go_sem,x7,x8]) rfl ?_
        exact ⟨rfl,X9.out⟩
    | true =>
      rw [hq] at heq
      go_region_law (go_simp;go_at_call 160;refine SMW.out.mono ?_;rintro e w2 ⟨rfl,k2⟩;have k2':Keep Non wA w2:=KD.out.trans1 k2;obtain ⟨c2',l2⟩:=LP.out w2 k2';have KK2:=zz0 k2';clear k2 k2')
      all_goals
        go_wp2_with (go_at_call 161;refine (TA.out _ (KA.out.trans1 KK2.out)).mono ?_;rintro e w3 ⟨rfl,k3⟩;obtain ⟨x1,x2,x3,x4,x5,x6,x7,x8,x9⟩:=FIN.out (w3.alloc (.cells #[.int .i64 0,.slice none 0 0] 109)) ((KK2.out.trans1 k3).alloc _);have X9:=zz0 x9;clear k3 x9)
        refine bodyPost_ret (v:=.tuple #[.agg #[.int .i64 0,.slice none 0 0],.iface 55 (.int .i64 11)]) (by simp [results,Tryz.results105,go_sem,x7,x8]) rfl ?_
        exact ⟨rfl,X9.out⟩
  · have hszi:((nb:Int) != (p.size:Int))=true:=bne_iff_ne.2 (by omega)
    have hszj:¬ ((nb:Int)=(p.size:Int)):=by omega
    obtain ⟨x1,x2,x3,x4,x5,x6,x7,x8,x9⟩:=FIN.out wA (Keep.refl _ _)
    have X9:=zz0 x9
    clear x9
    refine wp_region_noPanic ?_
    refine wp_region_held_drew (S:=fun W=>W.cell? ⟨w.heap.size,2,none⟩=some (.int .i64 p.size)) (by as_aux_lemma=>kernel_rfl) c2d (fun hHeld=>?_)
    refine tq 0 ?_;refine tq 1 ?_;refine tq 2 ?_;refine tq 3 ?_;refine tq 4 ?_;refine tq 5 ?_
    refine tu (i:=6) ?_
    simp only [Act.put,List.setIfInBounds_toArray,List.set_cons_zero,List.set_cons_succ]
    refine tu (i:=7) ?_
    simp only [Act.put,List.setIfInBounds_toArray,List.set_cons_zero,List.set_cons_succ]
    refine tu (i:=8) ?_
    simp only [Act.put,List.setIfInBounds_toArray,List.set_cons_zero,List.set_cons_succ]
    refine tu (i:=9) ?_
    simp only [Act.put,List.setIfInBounds_toArray,List.set_cons_zero,List.set_cons_succ]
    refine tu (i:=10) ?_
    simp only [Act.put,List.setIfInBounds_toArray,List.set_cons_zero,List.set_cons_succ]
    refine tq 11 ?_
    refine wpAnyH_done (by as_aux_lemma=>kernel_rfl) ?_ _
    refine NoPanic.normal ?_
    go_wp2_with fail
    refine bodyPost_ret (v:=.tuple #[.agg #[.int .i64 0,.slice none 0 0],.iface 55 (.int .i64 11)]) (by simp [results,Tryz.results105,go_sem,x7,x8]) rfl ?_
    exact ⟨rfl,X9.out.drew⟩
end
end Go.Proofs.YtnboipdpccnedaaGreatDoor
