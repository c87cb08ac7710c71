/- slog.add: walked. · proj.Check of chains -/
import Derived.Test.YtpojgmeoaflmoaaGreatDoorQ28
set_option linter.unusedVariables false
set_option maxRecDepth 100000
set_option maxHeartbeats 16000000
namespace Go.Proofs.YtpojgmeoaflmoaaGreatDoor
open Go.RowKit Go.Maps
set_option linter.unusedSimpArgs false
theorem znT {F:Nat→Prop}{b n:Nat}{L:Lg}(w:World)(h:zaH F w b n L)(hl:L.shs.length<3)(hlay:Lay w) :
 Calls Tryz.prog 46 #[.pointer (some ⟨b,0,none⟩),.int .i64 16777216] w fun r w'=>r = .returned .nilIface∧zan F w b n { L with shs:=L.shs ++ [sh1 16777216] } w':=by
 obtain⟨A,dps,sps,dv,sv,cv,q,h,hF⟩:=h;obtain⟨da,dc,rfl,_,_⟩:=zb h.disks;obtain⟨sa,sc,rfl,_,_⟩:=zb h.shelves;have h10:10≤w.heap.size:=by have:=h.low 0 b h.mem.1;omega
 have DN:=zz0 (zdH 16777216 w (by omega))
 have SO:Hid (∀w1 p,za zq2 w w1→zQ (fun g=>w.heap.size≤g∧g<w1.heap.size) w1 p (dk0 16777216)→Calls Tryz.prog 88 #[.pointer (some ⟨p,0,none⟩)] w1 fun e w'=>∃sp,e = .returned (.tuple #[.pointer (some ⟨sp,0,none⟩),.nilIface])∧∃FU,(∀g,FU g→w.heap.size≤g)∧ShAt FU w' sp p (sh0 16777216)∧za zq2 w w'):=zz0 (by
  intro w1 p k1 d1;refine(zmE w1 d1 (hlay.keepNon k1) (fun g x=>⟨by omega,x.2⟩)).mono ?_
  rintro e w' ⟨sp,e1,k2,FU,s2,u2⟩;exact⟨sp,e1,FU,fun g x=>by rcases s2 g x with y|y;exact y.1;have:=k1.size;omega,u2,k1.trans k2 (fun _ _ e=>e) (fun g hg x=>by omega)⟩)
 have H:=zz0 h;have HFF:=zz0 hF;have HL:=zz0 hl;have HLAY:=zz0 hlay;have hn2:dps.length<3:=by rw[h.len.1];exact hl
 have hn3:sps.length<3:=by rw[h.len.2];exact hl
 obtain⟨i1,hi1,hz1,hz2,hz3⟩:=info_parts infoD;have I1:=zz0 (And.intro hi1 (And.intro hz1 (And.intro hz2 hz3)));obtain⟨i2,hi2,hy1,hy2,hy3⟩:=info_parts infoS;have I2:=zz0 (And.intro hi2 (And.intro hy1 (And.intro hy2 hy3)));clear h hF hl hlay hi1 hz1 hz2 hz3 hi2 hy1 hy2 hy3;have DN':Hid (Calls Tryz.prog 17 #[.int .i64 16777216] w fun e w'=>∃p,e = .returned (.tuple #[.pointer (some ⟨p,0,none⟩),.nilIface])∧za zq2 w w'∧zQ (fun g=>w.heap.size≤g∧g<w'.heap.size) w' p (dk0 16777216)):=DN
 clear DN
 go_enter Tryz.func46,Tryz.ntmps46
 go_wp2_with(first
  |(go_at_call 17;refine DN'.out.mono ?_;rintro r w1 ⟨p,rfl,k1,d1⟩;have SOW:=zz0 (SO.out w1 p k1 d1);clear k1 d1)
  |(go_at_call 88;refine SOW.out.mono ?_;rintro r w2 ⟨sp,rfl,FU,hFU,hsh,k2⟩;have K2:=zz0 k2;have HFU:=zz0 hFU;have HSH:=zz0 hsh;clear k2 hFU hsh))
 have h2:=H.out.keep K2.out (fun _ _ _ e=>e)
 have H2:=zz0 h2;have kd:za zq2 w2 w2.drew:=(za.refl _ _).drew;have kD0:za zq2 w2 (w2.alloc (oD p)):=(za.refl _ _).alloc _;have kS0:za zq2 w2 (w2.alloc (oS sp)):=(za.refl _ _).alloc _;have kDS0:za zq2 w2 ((w2.alloc (oD p)).alloc (oS sp)):=kD0.alloc _;have kSD0:za zq2 w2 ((w2.alloc (oS sp)).alloc (oD p)):=kS0.alloc _;have kD:=kD0.drew;have kDS:=kDS0.drew;have kSD:=kSD0.drew;have KD:=zz0 kD;have KDS:=zz0 kDS;have KSD:=zz0 kSD;have bD:(w2.alloc (oD p)).drew.heap[w2.heap.size]? = some (oD p):=ze w2 (oD p);have bDS:((w2.alloc (oD p)).alloc (oS sp)).drew.heap[w2.heap.size]? = some (oD p):=zi (ze w2 (oD p)) _;have cDS:((w2.alloc (oD p)).alloc (oS sp)).drew.heap[w2.heap.size+1]? = some (oS sp):=zao w2 (oD p) (oS sp);have bSD:((w2.alloc (oS sp)).alloc (oD p)).drew.heap[w2.heap.size+1]? = some (oD p):=zao w2 (oS sp) (oD p);have cSD:((w2.alloc (oS sp)).alloc (oD p)).drew.heap[w2.heap.size]? = some (oS sp):=zi (ze w2 (oS sp)) _;have BD:=zz0 bD;have BDS:=zz0 bDS;have BSD:=zz0 bSD;have CDS:=zz0 cDS;have CSD:=zz0 cSD;have rD:=zz0 (zc h2.disks kD (fun _ _ e=>e))
 have rDS:=zz0 (zc h2.disks kDS (fun _ _ e=>e))
 have rSD:=zz0 (zc h2.disks kSD (fun _ _ e=>e))
 have x00:=lg_0 h2.blk;have x10:=lg_1 h2.blk;have x0D:=lg_0 (kD0.at h2.blk (fun e=>e))
 have x1D:=lg_1 (kD0.at h2.blk (fun e=>e))
 have x0S:=lg_0 (kS0.at h2.blk (fun e=>e))
 have x1S:=lg_1 (kS0.at h2.blk (fun e=>e))
 have x0DS:=lg_0 (kDS0.at h2.blk (fun e=>e))
 have x1DS:=lg_1 (kDS0.at h2.blk (fun e=>e))
 have x0SD:=lg_0 (kSD0.at h2.blk (fun e=>e))
 have x1SD:=lg_1 (kSD0.at h2.blk (fun e=>e))
 clear h2 kd kD kDS kSD kD0 kS0 kDS0 kSD0 bD bDS cDS bSD cSD;dsimp only[oD,oS] at x00 x10 x0D x1D x0S x1S x0DS x1DS x0SD x1SD
 go_region_law(first
  |(refine zl (by rfl) (.tmp 29) (.tmp 31) 71 (by rfl) 0 30 i1 (.pointer none) 1 8 Tryz.underlying71 I1.out.1 I1.out.2.1 I1.out.2.2.1 I1.out.2.2.2 rfl (by decide) (.slice da dps.length dc) dps.length (dps.map zcP) (by first|rfl|simp[Act.eval,Act.put]) (by exact rD.out) ⟨w2.heap.size,0,none⟩ 1 1 [.pointer (some ⟨p,0,none⟩)] (by first|rfl|simp[Act.eval,Act.put]) (by rfl) (by exact zgQ BD.out) (by simp[Value.oneCell']) (by unfold maxLen;omega) (by omega) (Nat.zero_le _) ?_;intro v3 w3 ho hg hpp;obtain⟨a8,tr⟩:=A8.of (p:=p) H2.out KD.out ho hg hpp;obtain⟨a3,c3,rfl,_,_⟩:=zb a8.row;have y1:=lg_1 a8.blk;have y2:=lg_1 (a8.alloc (oS sp)).blk;have A8h:=zz0 a8;clear ho hg hpp a8 tr;dsimp only[oS] at y1 y2)
  |(refine zl (by rfl) (.tmp 29) (.tmp 31) 71 (by rfl) 0 30 i1 (.pointer none) 1 8 Tryz.underlying71 I1.out.1 I1.out.2.1 I1.out.2.2.1 I1.out.2.2.2 rfl (by decide) (.slice da dps.length dc) dps.length (dps.map zcP) (by first|rfl|simp[Act.eval,Act.put]) (by exact rDS.out) ⟨w2.heap.size,0,none⟩ 1 1 [.pointer (some ⟨p,0,none⟩)] (by first|rfl|simp[Act.eval,Act.put]) (by rfl) (by exact zgQ BDS.out) (by simp[Value.oneCell']) (by unfold maxLen;omega) (by omega) (Nat.zero_le _) ?_;intro v3 w3 ho hg hpp;obtain⟨a8,tr⟩:=A8.of (p:=p) H2.out KDS.out ho hg hpp;obtain⟨a3,c3,rfl,_,_⟩:=zb a8.row;have y1:=lg_1 a8.blk;have y2:=lg_1 (a8.alloc (oS sp)).blk;have A8h:=zz0 a8;have TS:=zz0 (tr _ _ (Nat.le_succ _) CDS.out);clear ho hg hpp a8 tr;dsimp only[oS] at y1 y2)
  |(refine zl (by rfl) (.tmp 29) (.tmp 31) 71 (by rfl) 0 30 i1 (.pointer none) 1 8 Tryz.underlying71 I1.out.1 I1.out.2.1 I1.out.2.2.1 I1.out.2.2.2 rfl (by decide) (.slice da dps.length dc) dps.length (dps.map zcP) (by first|rfl|simp[Act.eval,Act.put]) (by exact rSD.out) ⟨w2.heap.size+1,0,none⟩ 1 1 [.pointer (some ⟨p,0,none⟩)] (by first|rfl|simp[Act.eval,Act.put]) (by rfl) (by exact zgQ BSD.out) (by simp[Value.oneCell']) (by unfold maxLen;omega) (by omega) (Nat.zero_le _) ?_;intro v3 w3 ho hg hpp;obtain⟨a8,tr⟩:=A8.of (p:=p) H2.out KSD.out ho hg hpp;obtain⟨a3,c3,rfl,_,_⟩:=zb a8.row;have y1:=lg_1 a8.blk;have y2:=lg_1 (a8.alloc (oS sp)).blk;have A8h:=zz0 a8;have TS:=zz0 (tr _ _ (Nat.le_refl _) CSD.out);clear ho hg hpp a8 tr;dsimp only[oS] at y1 y2)
  |(refine zl (by rfl) (.tmp 36) (.tmp 38) 72 (by rfl) 0 144 i2 (.pointer none) 1 8 Tryz.underlying72 I2.out.1 I2.out.2.1 I2.out.2.2.1 I2.out.2.2.2 rfl (by decide) (.slice sa sps.length sc) sps.length (sps.map zcP) (by first|rfl|simp[Act.eval,Act.put]) (by exact A8h.out.shelves) ⟨w2.heap.size+1,0,none⟩ 1 1 [.pointer (some ⟨sp,0,none⟩)] (by first|rfl|simp[Act.eval,Act.put]) (by rfl) (by exact zgR TS.out) (by simp[Value.oneCell']) (by unfold maxLen;omega) (by omega) (Nat.zero_le _) ?_;intro v5 w5 ho hg hpp;have a15:=A15.of (sp:=sp) H2.out A8h.out ho hg hpp;obtain⟨a5,c5,rfl,_,_⟩:=zb a15.row5;have z0:=lg_0 a15.blk;have z1:=lg_1 (zdz a15.blk (.slice a3 (dps.length+1) c3));have f0:=lg_f a15.blk 0;have f1:=lg_f (zdz a15.blk (.slice a3 (dps.length+1) c3)) 1;have CLO:=zz0 (zeD H.out HFF.out HL.out HLAY.out K2.out HFU.out HSH.out a15);clear ho hg hpp a15)
  |(refine zl (by rfl) (.tmp 36) (.tmp 38) 72 (by rfl) 0 144 i2 (.pointer none) 1 8 Tryz.underlying72 I2.out.1 I2.out.2.1 I2.out.2.2.1 I2.out.2.2.2 rfl (by decide) (.slice sa sps.length sc) sps.length (sps.map zcP) (by first|rfl|simp[Act.eval,Act.put]) (by exact A8h.out.shelves) ⟨w2.heap.size,0,none⟩ 1 1 [.pointer (some ⟨sp,0,none⟩)] (by first|rfl|simp[Act.eval,Act.put]) (by rfl) (by exact zgR TS.out) (by simp[Value.oneCell']) (by unfold maxLen;omega) (by omega) (Nat.zero_le _) ?_;intro v5 w5 ho hg hpp;have a15:=A15.of (sp:=sp) H2.out A8h.out ho hg hpp;obtain⟨a5,c5,rfl,_,_⟩:=zb a15.row5;have z0:=lg_0 a15.blk;have z1:=lg_1 (zdz a15.blk (.slice a3 (dps.length+1) c3));have f0:=lg_f a15.blk 0;have f1:=lg_f (zdz a15.blk (.slice a3 (dps.length+1) c3)) 1;have CLO:=zz0 (zeD H.out HFF.out HL.out HLAY.out K2.out HFU.out HSH.out a15);clear ho hg hpp a15)
  |(refine zl (by rfl) (.tmp 36) (.tmp 38) 72 (by rfl) 0 144 i2 (.pointer none) 1 8 Tryz.underlying72 I2.out.1 I2.out.2.1 I2.out.2.2.1 I2.out.2.2.2 rfl (by decide) (.slice sa sps.length sc) sps.length (sps.map zcP) (by first|rfl|simp[Act.eval,Act.put]) (by exact(A8h.out.alloc (oS sp)).shelves) ⟨w3.heap.size,0,none⟩ 1 1 [.pointer (some ⟨sp,0,none⟩)] (by first|rfl|simp[Act.eval,Act.put]) (by rfl) (by exact zgR (ze w3 (oS sp))) (by simp[Value.oneCell']) (by unfold maxLen;omega) (by omega) (Nat.zero_le _) ?_;intro v5 w5 ho hg hpp;have a15:=A15.of (sp:=sp) H2.out (A8h.out.alloc (oS sp)) ho hg hpp;obtain⟨a5,c5,rfl,_,_⟩:=zb a15.row5;have z0:=lg_0 a15.blk;have z1:=lg_1 (zdz a15.blk (.slice a3 (dps.length+1) c3));have f0:=lg_f a15.blk 0;have f1:=lg_f (zdz a15.blk (.slice a3 (dps.length+1) c3)) 1;have CLO:=zz0 (zeD H.out HFF.out HL.out HLAY.out K2.out HFU.out HSH.out a15);clear ho hg hpp a15))
 all_goals go_wp2_with(go_at_call 89;refine CLO.out.mono ?_;rintro r w6 ⟨⟨nn,rfl⟩,t⟩;have T:=zz0 t;clear t)
 all_goals
  go_ret;exact⟨rfl,T.out⟩
end Go.Proofs.YtpojgmeoaflmoaaGreatDoor
namespace Go.Proofs.YtpojgmeoaflmoaaGreatDoor
open Go.RowKit
theorem zi3 (args:Array Value)(w:World):(callFunc 83 args).run Tryz.prog w = .ok (.enter 83 args) w:=zcE Tryz.func83 (by kernel_rfl) rfl args w
theorem zl8 (args:Array Value)(w:World):(callFunc 86 args).run Tryz.prog w = .ok (.enter 86 args) w:=zcE Tryz.func86 (by kernel_rfl) rfl args w
theorem zmm (a:Option Addr)(m c:Nat)(w:World)(h1:1≤m)(h2:m≤4) :
 Calls Tryz.prog 83 #[.slice a m c] w fun e w'=>e = .returned (.bool false)∧w'=w:=by
 have e1:¬(m:Int)<1:=by omega
 have e2:¬(4:Int)<m:=by omega
 go_enter Tryz.func83,Tryz.ntmps83
 go_wp2_with fail
 go_ret;exact⟨rfl,rfl⟩
theorem zob (n:Nat)(w:World)(h:n<8) :
 Calls Tryz.prog 139 #[.int .i64 n] w fun e w'=>e = .returned (.bool true)∧w'=w:=by
 have hn:(n:Int)<8:=by omega
 go_enter Tryz.func139,Tryz.ntmps139
 go_wp2_with fail
 go_ret;exact⟨rfl,rfl⟩
theorem zpU (n:Nat)(w:World)(h:n<8) :
 Calls Tryz.prog 86 #[.int .i64 n] w fun e w'=>e = .returned (.bool false)∧w'=w:=by
 have U:=zz0 (zob n w h)
 go_enter Tryz.func86,Tryz.ntmps86
 go_wp2_with(go_at_call 139;refine U.out.mono ?_;rintro e w1 ⟨rfl,rfl⟩)
 go_ret;exact⟨rfl,rfl⟩
theorem PrAt.parts {T:Nat→Prop}{w:World}{cv:Value}{n:Nat}(h:PrAt T w cv n):∃g c,cv = .slice (some ⟨g,0,none⟩) (chN n) c∧∃xs:List (Addr×Nat×Nat),xs.length=chN n∧(∀x ∈ xs,1≤x.2.1∧x.2.1≤2)∧Rd w cv (xs.map sl1):=by
 obtain⟨g,vs,c,rfl,hl,hr,hi,hg,ht⟩:=h;refine⟨g,c,rfl,?_⟩;have key:∀(us:List Value),(∀v ∈ us,∃x:Addr×Nat×Nat,v=sl1 x∧1≤x.2.1∧x.2.1≤2)→∃xs:List (Addr×Nat×Nat),us=xs.map sl1∧∀x ∈ xs,1≤x.2.1∧x.2.1≤2:=by
  intro us
  induction us with
  |nil=>intro _;exact⟨[],rfl,fun x hx=>by cases hx⟩
  |cons v r ih =>
   intro h;obtain⟨x,rfl,hx⟩:=h v (by simp)
   obtain⟨xs,rfl,hxs⟩:=ih (fun v hv=>h v (by simp[hv]))
   exact⟨x::xs,rfl,fun y hy=>by rcases List.mem_cons.1 hy with rfl|hy;exact hx;exact hxs y hy⟩
 obtain⟨xs,rfl,hxs⟩:=key vs (fun v hv=>by
  obtain⟨i,hi',rfl⟩:=List.getElem_of_mem hv;have hic:i<chN n:=by rw[←hl];exact hi'
  have hx:=hi.2 i _ (chnI n i) (List.getElem?_eq_getElem hi') (zib hic);have hlen:=zeN hic;obtain⟨xa,xc,e,hxx⟩:=hx;obtain⟨xg,xo,rfl,_⟩:=hxx (by intro e;rw[List.map_eq_nil_iff] at e;rw[e] at hlen;simp at hlen)
  rw[List.length_map] at e;exact⟨(⟨xg,xo,none⟩,(chnI n i).length,xc),e,hlen⟩)
 exact⟨xs,by simpa using hl,hxs,hr⟩
theorem zkr (T:Nat→Prop)(e n:Nat)(cv:Value)(w:World)(h:PrAt T w cv n)(h1:1≤n)(h2:n≤3)(he:e≤1099511627776) :
 Calls Tryz.prog 43 #[.agg #[.int .i64 e,cv]] w fun r w'=>r = .returned .nilIface∧za zq2 w w':=by
 have PU:=zz0 (fun W (k:za zq2 w W)=>zc1 T e n cv W (h.keepNon k) h1 h2)
 have CC:Hid (∀W,za zq2 w W→Calls Tryz.prog 57 #[cv] W (NewI W (List.range n))):=zz0 (by
  obtain⟨g,vs,c,rfl,hl,hr,hi,hg,ht⟩:=h;have CC:=(fun W (k:za zq2 w W)=>zeU g vs (zbk n) c W (by rw[hl];exact hr.keepNon k) ⟨hi.1,fun i u l hu hl=>(hi.2 i u l hu hl).keepNon k⟩ (by rw[zcB];simp;omega) (by have:=zfQ h2;omega))
  rw[hl,zcB] at CC;exact CC)
 obtain⟨g,c,rfl,xs,hxl,hxs,hr⟩:=h.parts;have CW:Hid (∀W,za zq2 w W→Calls Tryz.prog 84 #[.slice (some ⟨g,0,none⟩) (chN n) c,.func (.func 83) #[] #[]] W fun e w'=>e = .returned (.bool false)∧za zq2 W w'):=zz0 (fun W k=>by
  have:=znM 83 (some ⟨g,0,none⟩) c xs W zi3 (by rw[hxl];exact hr.keepNon k) (by have:=zfQ h2;omega) (fun j u W' hu _=>(zmm _ _ _ W' (hxs u (List.mem_of_getElem? hu)).1 (by have:=(hxs u (List.mem_of_getElem? hu)).2;omega)).mono (fun r w' ⟨a,b⟩=>⟨a,by rw[b];exact za.refl _ _⟩))
  rw[hxl] at this;exact this)
 have CO:Hid (∀W a c,Is W (.slice a n c) (List.range n)→Calls Tryz.prog 85 #[.slice a n c,.func (.func 86) #[] #[]] W fun e w'=>e = .returned (.bool false)∧za zq2 W w'):=zz0 (fun W a c hi=>by
  have:=znN 86 a c (List.range n) W zl8 (by rw[List.length_range];exact hi) (by simp;omega) (fun j u W' hu _=>(zpU u W' (by
   rcases Nat.lt_or_ge j n with x|x
   ·rw[List.getElem?_range x] at hu;injection hu with hu;omega
   ·rw[List.getElem?_eq_none (by simpa using x)] at hu;cases hu)).mono (fun r w' ⟨a,b⟩=>⟨a,by rw[b];exact za.refl _ _⟩))
  rw[List.length_range] at this;exact this)
 have hn1:¬(chN n:Int)<1:=by have:=zic h1;omega
 have hn2:¬(4:Int)<(chN n:Int):=by have:=zfQ h2;omega
 have hn3:¬(n:Int)<n:=by omega
 clear h hr
 go_enter Tryz.func43,Tryz.ntmps43
 go_wp2_with(first
  |(go_at_call 57;refine(CC.out _ ((za.refl _ _).alloc _)).mono ?_;rintro r w1 ⟨v1,rfl,k1,o1⟩;obtain⟨a1,c1,rfl,_,_⟩:=zb o1;rw[List.length_range] at *;have K1:=zz0 (((za.refl zq2 w).alloc _).trans1 k1);have I1:=zz0 (Rd.ofOwns o1);have P1:=zz0 (k1.at (ze w (PrB e (.slice (some ⟨g,0,none⟩) (chN n) c))) (fun e=>e));have q10:=pr_0 P1.out;have q11:=pr_1 P1.out;clear k1 o1)
  |(go_at_call 84;refine(CW.out _ K1.out).mono ?_;rintro r w2 ⟨rfl,k2⟩;have K2:=zz0 (K1.out.trans1 k2);have I2:=zz0 (I1.out.keepNon k2);have P2:=zz0 (k2.at P1.out (fun e=>e));have q20:=pr_0 P2.out;have q21:=pr_1 P2.out;clear k2)
  |(go_at_call 85;refine(CO.out _ _ _ I2.out).mono ?_;rintro r w3 ⟨rfl,k3⟩;have K3:=zz0 (K2.out.trans1 k3);have P3:=zz0 (k3.at P2.out (fun e=>e));have q30:=pr_0 P3.out;have q31:=pr_1 P3.out;clear k3)
  |(go_at_call 23;refine(PU.out _ K3.out).mono ?_;rintro r w4 ⟨g4,c4,rfl,k4,_,_⟩;have K4:=zz0 (K3.out.trans1 k4);clear k4))
 go_ret;exact⟨rfl,K4.out⟩
end Go.Proofs.YtpojgmeoaflmoaaGreatDoor
namespace Go.Proofs.YtpojgmeoaflmoaaGreatDoor
open Go.RowKit Go.Maps
theorem znS {w w1 w2 w3:World}{n q b:Nat}{cv:Value}(h10:10≤w.heap.size)(hw:w.heap.size≤w1.heap.size)(hn:n≤3)(hp:PrAt (fun g=>w.heap.size≤g∧g<w1.heap.size) w1 cv n)(hq:w1.heap.size≤q)(k2:za zq2 w1 w2)(bq:w2.heap[q]? = some (SqB 0 0))(hb:b=w2.heap.size)(hw3:w3=w2.alloc (LgB (.slice none 0 0) (.slice none 0 0) 1 cv q)) :
 zaH (fun g=>w.heap.size≤g∧g<w3.heap.size) w3 b n ⟨[],1,0,0⟩:=by
 subst hw3;subst hb;have hq2:=lt_of_block bq;have k3:za zq2 w1 (w2.alloc (LgB (.slice none 0 0) (.slice none 0 0) 1 cv q)):=k2.trans1 ((za.refl _ _).alloc _);have sz:(w2.alloc (LgB (.slice none 0 0) (.slice none 0 0) 1 cv q)).heap.size=w2.heap.size+1:=by simp
 have k2s:=k2.size;refine⟨fun i g=>(i=0∧g=w2.heap.size)∨(i=1∧g=q)∨(i=4∧w.heap.size≤g∧g<w1.heap.size),[],[],_,_,cv,q,⟨ze _ _,zi bq _,⟨by decide,by decide,by decide,by decide⟩,World.ownsRow_nil _ _ _ _,World.ownsRow_nil _ _ _ _,⟨rfl,rfl⟩,?_,fun i s p dp hi=>by simp at hi,⟨.inl ⟨rfl,rfl⟩,.inr (.inl ⟨rfl,rfl⟩),(fun g e=>by cases e),(fun g e=>by cases e)⟩,?_,?_,⟨hn,by simp⟩⟩,?_⟩
 ·have hp3:=hp.keepNon k3
  obtain⟨g,vs,c,e1,e2,e3,e4,e5,e6⟩:=hp3;exact⟨g,vs,c,e1,e2,e3,e4,.inr (.inr ⟨rfl,e5⟩),fun v hv k e=>.inr (.inr ⟨rfl,e6 v hv k e⟩)⟩
 ·rintro i j g (⟨h1,h2⟩|⟨h1,h2⟩|⟨h1,h2,h3⟩) (⟨h4,h5⟩|⟨h4,h5⟩|⟨h4,h5,h6⟩)<;>omega
 ·rintro i g (⟨h1,h2⟩|⟨h1,h2⟩|⟨h1,h2,h3⟩)<;>constructor<;>omega
 ·rintro i g (⟨h1,h2⟩|⟨h1,h2⟩|⟨h1,h2,h3⟩)<;>constructor<;>omega
theorem zeu (T:Nat→Prop)(n:Nat)(cv:Value)(w:World)(hlay:Lay w)(h:PrAt T w cv n)(h1:1≤n)(h2:n≤3)(h10:10≤w.heap.size) :
 Calls Tryz.prog 16 #[.int .i64 n,.int .i64 16777216,cv] w fun r w'=>∃b,r = .returned (.tuple #[.pointer (some ⟨b,0,none⟩),.nilIface])∧za zq2 w w'∧zaH (fun g=>w.heap.size≤g∧g<w'.heap.size) w' b n ⟨List.replicate n (sh1 16777216),1,0,1⟩:=by
 have CK:=zz0 (fun W (k:za zq2 w W)=>zkr T 1 n cv W (h.keepNon k) h1 h2 (by omega))
 have UN:=zz0 (fun W (k:za zq2 w W)=>zc1 T 1 n cv W (h.keepNon k) h1 h2)
 have CP:=zz0 (fun W (k:za zq2 w W)=>zjz T 1 n cv W (h.keepNon k) h1 h2)
 obtain⟨g0,vs0,c0,rfl,_⟩:=id h;have PB:Hid (∀W,za zq2 (w.alloc (PrB 1 (.slice (some ⟨g0,0,none⟩) (chN n) c0))) W→W.cell? ⟨w.heap.size,0,none⟩=some (.int .i64 (1:Nat))∧W.cell? ⟨w.heap.size,1,none⟩=some (.slice (some ⟨g0,0,none⟩) (chN n) c0)):=zz0 (fun W kk=>⟨pr_0 (kk.at (ze _ _) (fun e=>e)),pr_1 (kk.at (ze _ _) (fun e=>e))⟩)
 have KA:=zz0 ((za.refl zq2 w).alloc (PrB 1 (.slice (some ⟨g0,0,none⟩) (chN n) c0)));have LY:=zz0 hlay;have a0:=pr_0 (ze w (PrB 1 (.slice (some ⟨g0,0,none⟩) (chN n) c0)));have a1:=pr_1 (ze w (PrB 1 (.slice (some ⟨g0,0,none⟩) (chN n) c0)));have CKA:=zz0 (CK.out _ KA.out);dsimp only[PrB] at a0 a1 CKA;have hn1:¬(n:Int)<1:=by omega
 have hn8:¬(8:Int)<n:=by omega
 clear h hlay CK
 go_enter Tryz.func16,Tryz.ntmps16
 go_wp2_with(first
  |(go_at_call 43;refine CKA.out.mono ?_;rintro r w1 ⟨rfl,k1⟩;obtain⟨b0,b1⟩:=PB.out _ k1;have K1:=zz0 k1;have UNW:=zz0 (UN.out _ (KA.out.trans1 k1));clear k1)
  |(go_at_call 23;refine UNW.out.mono ?_;rintro r w2 ⟨ug,uc,rfl,k2,hug,u2⟩;obtain⟨d0,d1⟩:=PB.out _ (K1.out.trans1 k2);have K2:=zz0 (K1.out.trans1 k2);have U2:=zz0 u2;clear k2 u2))
 go_loopw [31] (fun i wr=>∃j:Nat,j≤n∧i = .int .i64 j∧wr=w2) (fun i _=>n-(intOf i).toNat)
 case atStart=>exact⟨0,by omega,rfl,rfl⟩
 case round =>
  obtain⟨j,hj,rfl,rfl⟩:=hrel;by_cases hlt:j<n
  ·have hlj:(j:Int)<(n:Int):=by omega
   have hge:¬(n:Int)≤(j:Int):=by omega
   have hcell:wr.cell? ⟨ug,j,none⟩=some (.int .i64 (j:Int)):=by
    obtain⟨a',c',e,hx⟩:=U2.out;injection e with e1 e2 e3
    obtain⟨g',off,e4,hc⟩:=hx (by intro e;have e':=List.map_eq_nil_iff.1 e;have e2:=congrArg List.length e';simp at e2;omega)
    rw[←e1] at e4;injection e4 with e4
    injection e4 with e4 e5
    subst e4;subst e5;have:=hc j (iv j) (by rw[List.getElem?_map,List.getElem?_range hlt];rfl)
    rwa [Nat.zero_add] at this
   go_wp2_with fail
   refine⟨⟨j+1,by omega,?_⟩,by simp[intOf];omega⟩
   exact⟨rfl,trivial⟩
  ·obtain rfl:j=n:=by omega
   have CPW:=zz0 (CP.out _ (KA.out.trans1 K2.out))
   go_wp2_with(first
    |(go_at_call 44;refine CPW.out.mono ?_;rintro r w3 ⟨cv',rfl,k3,p3⟩;have K3:=zz0 k3;have P3:=zz0 p3;clear k3 p3)
    |(go_at_call 45;refine(zpL _).mono ?_;rintro r w4 ⟨q,rfl,hq,k4,b4⟩;have K4:=zz0 k4;have B4:=zz0 b4;clear k4 b4))
   have K4':=zz0 (KA.out.trans1 (K2.out.trans1 (K3.out.trans1 K4.out)));have hF0:zaH (fun g=>w.heap.size≤g) (w4.alloc (LgB (.slice none 0 0) (.slice none 0 0) 1 cv' q)) w4.heap.size j ⟨[],1,0,0⟩ :=
    (znS (w:=w) (w1:=w3) (w2:=w4) h10 (by have:=K3.out.size;have:=K2.out.size;have:=KA.out.size;simp at *;omega) h2 (by
      obtain⟨g,vs,c,e1,e2,e3,e4,e5,e6⟩:=P3.out;have hs:w.heap.size≤wr.heap.size:=Nat.le_trans KA.out.size K2.out.size;exact⟨g,vs,c,e1,e2,e3,e4,⟨Nat.le_trans hs e5.1,e5.2⟩,fun v hv k e=>⟨Nat.le_trans hs (e6 v hv k e).1,(e6 v hv k e).2⟩⟩) hq K4.out B4.out rfl rfl).mono (fun g x _=>x.1)
   have HF0:=zz0 hF0;have ADD:=zz0 (fun W L (hL:zaH (fun g=>w.heap.size≤g) W w4.heap.size j L) (hl:L.shs.length<3) (hy:Lay W)=>znT W hL hl hy)
   generalize hwB:w4.alloc (LgB (.slice none 0 0) (.slice none 0 0) 1 cv' q)=wB at HF0 hF0;have KB:Hid (za zq2 w wB):=zz0 (by rw[←hwB];exact K4'.out.alloc _)
   dsimp only[LgB] at hwB;rw[show((1:Nat):Int)=1 from rfl] at hwB
   rw[hwB];generalize w4.heap.size=b at HF0 ADD ⊢;clear hF0 hwB
   go_loopw [46] (fun i wr=>∃k:Nat,k≤j∧i = .int .i64 k∧za zq2 w wr∧zaH (fun g=>w.heap.size≤g) wr b j ⟨List.replicate k (sh1 16777216),1,0,0⟩) (fun i _=>j-(intOf i).toNat)
   case atStart=>exact⟨0,by omega,rfl,KB.out,HF0.out⟩
   case round =>
    obtain⟨k,hk,rfl,kw,hL⟩:=hrel;have KW:=zz0 kw;have HL:=zz0 hL;clear kw hL HF0;by_cases hlk:k<j
    ·have hlk':(k:Int)<(j:Int):=by omega
     have AD:=zz0 (ADD.out _ _ HL.out (by simp;omega) (LY.out.keepNon KW.out))
     go_wp2_with(go_at_call 46;refine AD.out.mono ?_;rintro r w6 ⟨rfl,t⟩;have TT:=zz0 t;clear t)
     refine⟨⟨k+1,by omega,by first|rfl|go_num,?_⟩,by simp[intOf];omega⟩
     obtain⟨k6,F',s6,hL6⟩:=TT.out;refine⟨KW.out.trans k6 (fun _ _ e=>e) (fun g hg e=>by omega),?_⟩
     have e1:List.replicate k (sh1 16777216) ++ [sh1 16777216]=List.replicate (k+1) (sh1 16777216):=by rw[List.replicate_succ']
     rw[e1] at hL6;exact hL6.mono (fun g x _=>by rcases s6 g x with y|y;exact y;have:=KW.out.size;omega)
    ·obtain rfl:k=j:=by omega
     obtain⟨A,dps,sps,dv,sv,cv,q',hA,hAF⟩:=id HL.out;have c4:=lg_4 hA.blk;have e1:setE 0 1 0=0:=by decide
     have e2:setP 0 1 0=1:=by decide
     have e3:setN 0 0 1 0=0:=by decide
     have SET:=zmB q' 0 0 1 0 _ hA.sq hA.sqin;rw[e1,e2,e3,zaK] at SET;have SET':=zz0 SET;have FIN:Hid (∀w',za (zq3 q') wr w'→w'.heap[q']? = some (SqB 1 0)→zan (fun g=>w.heap.size≤g) wr b k ⟨List.replicate k (sh1 16777216),1,0,1⟩ w'):=zz0 (fun w' kk hq=>hA.own (e':=1) (nx':=0) hAF (kk.mono (fun g _ x=>.inr x)) (kk.at hA.blk (fun e=>by have e':b=q':=e;have:=hA.apart 0 1 b hA.mem.1 (e' ▸ hA.mem.2.1);omega)) hq ⟨by decide,by decide,by decide,by decide⟩)
     clear SET hA
     go_wp2_with(go_at_call 47;refine SET'.out.mono ?_;rintro r w7 ⟨rfl,k7,q7⟩;have K7:=zz0 k7;have Q7:=zz0 q7;clear k7 q7)
     go_ret2;obtain⟨k8,F',s8,hL8⟩:=FIN.out _ K7.out Q7.out;refine⟨b,rfl,KW.out.trans k8 (fun _ _ e=>e) (fun g hg e=>by omega),hL8.mono (fun g x y=>⟨?_,y⟩)⟩
     rcases s8 g x with y|y
     ·exact y
     ·have:=KW.out.size;omega
end Go.Proofs.YtpojgmeoaflmoaaGreatDoor
