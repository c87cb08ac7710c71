/- slog.add: walked. · restore.load (no cursor there), restore.Begin: walked. · vault.Get, at a part of the one manifest: walked. · slog.New: walked. -/
import Derived.Test.YtnboipdpccnedaaGreatDoorQ33
import Derived.Test.YtnboipdpccnedaaGreatDoorQ40
set_option linter.unusedVariables false
set_option maxRecDepth 100000
set_option maxHeartbeats 16000000
namespace Go.Proofs.YtnboipdpccnedaaGreatDoor
open Go.RowKit Go.Maps
set_option linter.unusedSimpArgs false
theorem zmu {F:Nat→Prop} {b n:Nat} {L:Lg} (w:World) (h:LgAt F w b n L) (hl:L.shs.length < 3) (hlay:Lay w) :
    Calls Tryz.prog 60 #[.pointer (some ⟨b,0,none⟩),.int .i64 16777216] w fun r w'=>r = .returned .nilIface∧LgTo F w b n { L with shs:=L.shs ++ [sh1 16777216] } w':=by
  obtain ⟨A,dps,sps,dv,sv,cv,q,h,hF⟩:=h
  obtain ⟨da,dc,rfl,_,_⟩:=zaa h.disks
  obtain ⟨sa,sc,rfl,_,_⟩:=zaa h.shelves
  have h10:10≤w.heap.size:=by have:=h.low 0 b h.mem.1;omega
  have DN:=zz0 (zft 16777216 w (by omega))
  have SO:Hid (∀ w1 p,Keep Non w w1→DiskAt (fun g=>w.heap.size≤g∧g < w1.heap.size) w1 p (dk0 16777216)→Calls Tryz.prog 119 #[.pointer (some ⟨p,0,none⟩)] w1 fun e w'=>∃ sp,e = .returned (.tuple #[.pointer (some ⟨sp,0,none⟩),.nilIface])∧∃ FU,(∀ g,FU g→w.heap.size≤g)∧ShAt FU w' sp p (sh0 16777216)∧Keep Non w w'):=zz0 (by
    intro w1 p k1 d1
    refine (zlk w1 d1 (hlay.keepNon k1) (fun g x=>⟨by omega,x.2⟩)).mono ?_
    rintro e w' ⟨sp,e1,k2,FU,s2,u2⟩
    exact ⟨sp,e1,FU,fun g x=>by rcases s2 g x with y | y;exact y.1;have:=k1.size;omega,u2,k1.trans k2 (fun _ _ e=>e) (fun g hg x=>by omega)⟩)
  have H:=zz0 h
  have HFF:=zz0 hF
  have HL:=zz0 hl
  have HLAY:=zz0 hlay
  have hn2:dps.length < 3:=by rw [h.len.1];exact hl
  have hn3:sps.length < 3:=by rw [h.len.2];exact hl
  obtain ⟨i1,hi1,hz1,hz2,hz3⟩:=info_parts infoD
  have I1:=zz0 (And.intro hi1 (And.intro hz1 (And.intro hz2 hz3)))
  obtain ⟨i2,hi2,hy1,hy2,hy3⟩:=info_parts infoS
  have I2:=zz0 (And.intro hi2 (And.intro hy1 (And.intro hy2 hy3)))
  clear h hF hl hlay hi1 hz1 hz2 hz3 hi2 hy1 hy2 hy3
  have DN':Hid (Calls Tryz.prog 21 #[.int .i64 16777216] w fun e w'=>∃ p,e = .returned (.tuple #[.pointer (some ⟨p,0,none⟩),.nilIface])∧Keep Non w w'∧DiskAt (fun g=>w.heap.size≤g∧g < w'.heap.size) w' p (dk0 16777216)):=DN
  clear DN
  go_enter Tryz.func60,Tryz.ntmps60
  go_wp2_with (first
    | (go_at_call 21;refine DN'.out.mono ?_;rintro r w1 ⟨p,rfl,k1,d1⟩;have SOW:=zz0 (SO.out w1 p k1 d1);clear k1 d1)
    | (go_at_call 119;refine SOW.out.mono ?_;rintro r w2 ⟨sp,rfl,FU,hFU,hsh,k2⟩;have K2:=zz0 k2;have HFU:=zz0 hFU;have HSH:=zz0 hsh;clear k2 hFU hsh))
  have h2:=H.out.keep K2.out (fun _ _ _ e=>e)
  have H2:=zz0 h2
  have kd:Keep Non w2 w2.drew:=(Keep.refl _ _).drew
  have kD0:Keep Non w2 (w2.alloc (oD p)):=(Keep.refl _ _).alloc _
  have kS0:Keep Non w2 (w2.alloc (oS sp)):=(Keep.refl _ _).alloc _
  have kDS0:Keep Non w2 ((w2.alloc (oD p)).alloc (oS sp)):=kD0.alloc _
  have kSD0:Keep Non w2 ((w2.alloc (oS sp)).alloc (oD p)):=kS0.alloc _
  have kD:=kD0.drew
  have kDS:=kDS0.drew
  have kSD:=kSD0.drew
  have KD:=zz0 kD
  have KDS:=zz0 kDS
  have KSD:=zz0 kSD
  have bD:(w2.alloc (oD p)).drew.heap[w2.heap.size]? = some (oD p):=zab w2 (oD p)
  have bDS:((w2.alloc (oD p)).alloc (oS sp)).drew.heap[w2.heap.size]? = some (oD p):=zae (zab w2 (oD p)) _
  have cDS:((w2.alloc (oD p)).alloc (oS sp)).drew.heap[w2.heap.size+1]? = some (oS sp):=zaD w2 (oD p) (oS sp)
  have bSD:((w2.alloc (oS sp)).alloc (oD p)).drew.heap[w2.heap.size+1]? = some (oD p):=zaD w2 (oS sp) (oD p)
  have cSD:((w2.alloc (oS sp)).alloc (oD p)).drew.heap[w2.heap.size]? = some (oS sp):=zae (zab w2 (oS sp)) _
  have BD:=zz0 bD
  have BDS:=zz0 bDS
  have BSD:=zz0 bSD
  have CDS:=zz0 cDS
  have CSD:=zz0 cSD
  have rD:=zz0 (zac h2.disks kD (fun _ _ e=>e))
  have rDS:=zz0 (zac h2.disks kDS (fun _ _ e=>e))
  have rSD:=zz0 (zac h2.disks kSD (fun _ _ e=>e))
  have x00:=lg_0 h2.blk
  have x10:=lg_1 h2.blk
  have x0D:=lg_0 (kD0.at h2.blk (fun e=>e))
  have x1D:=lg_1 (kD0.at h2.blk (fun e=>e))
  have x0S:=lg_0 (kS0.at h2.blk (fun e=>e))
  have x1S:=lg_1 (kS0.at h2.blk (fun e=>e))
  have x0DS:=lg_0 (kDS0.at h2.blk (fun e=>e))
  have x1DS:=lg_1 (kDS0.at h2.blk (fun e=>e))
  have x0SD:=lg_0 (kSD0.at h2.blk (fun e=>e))
  have x1SD:=lg_1 (kSD0.at h2.blk (fun e=>e))
  clear h2 kd kD kDS kSD kD0 kS0 kDS0 kSD0 bD bDS cDS bSD cSD
  dsimp only [oD,oS] at x00 x10 x0D x1D x0S x1S x0DS x1DS x0SD x1SD
  go_region_law (first
    | (refine zag (by rfl) (.tmp 29) (.tmp 31) 126 (by rfl) 0 29 i1 (.pointer none) 1 8 Tryz.underlying126 I1.out.1 I1.out.2.1 I1.out.2.2.1 I1.out.2.2.2 rfl (by decide) (.slice da dps.length dc) dps.length (dps.map ptrV) (by first | rfl | simp [Act.eval,Act.put]) (by exact rD.out) ⟨w2.heap.size,0,none⟩ 1 1 [.pointer (some ⟨p,0,none⟩)] (by first | rfl | simp [Act.eval,Act.put]) (by rfl) (by exact zfJ BD.out) (by simp [Value.oneCell']) (by unfold maxLen;omega) (by omega) (Nat.zero_le _) ?_;intro v3 w3 ho hg hpp;obtain ⟨a8,tr⟩:=A8.of (p:=p) H2.out KD.out ho hg hpp;obtain ⟨a3,c3,rfl,_,_⟩:=zaa a8.row;have y1:=lg_1 a8.blk;have y2:=lg_1 (a8.alloc (oS sp)).blk;have A8h:=zz0 a8;clear ho hg hpp a8 tr;dsimp only [oS] at y1 y2)
    | (refine zag (by rfl) (.tmp 29) (.tmp 31) 126 (by rfl) 0 29 i1 (.pointer none) 1 8 Tryz.underlying126 I1.out.1 I1.out.2.1 I1.out.2.2.1 I1.out.2.2.2 rfl (by decide) (.slice da dps.length dc) dps.length (dps.map ptrV) (by first | rfl | simp [Act.eval,Act.put]) (by exact rDS.out) ⟨w2.heap.size,0,none⟩ 1 1 [.pointer (some ⟨p,0,none⟩)] (by first | rfl | simp [Act.eval,Act.put]) (by rfl) (by exact zfJ BDS.out) (by simp [Value.oneCell']) (by unfold maxLen;omega) (by omega) (Nat.zero_le _) ?_;intro v3 w3 ho hg hpp;obtain ⟨a8,tr⟩:=A8.of (p:=p) H2.out KDS.out ho hg hpp;obtain ⟨a3,c3,rfl,_,_⟩:=zaa a8.row;have y1:=lg_1 a8.blk;have y2:=lg_1 (a8.alloc (oS sp)).blk;have A8h:=zz0 a8;have TS:=zz0 (tr _ _ (Nat.le_succ _) CDS.out);clear ho hg hpp a8 tr;dsimp only [oS] at y1 y2)
    | (refine zag (by rfl) (.tmp 29) (.tmp 31) 126 (by rfl) 0 29 i1 (.pointer none) 1 8 Tryz.underlying126 I1.out.1 I1.out.2.1 I1.out.2.2.1 I1.out.2.2.2 rfl (by decide) (.slice da dps.length dc) dps.length (dps.map ptrV) (by first | rfl | simp [Act.eval,Act.put]) (by exact rSD.out) ⟨w2.heap.size+1,0,none⟩ 1 1 [.pointer (some ⟨p,0,none⟩)] (by first | rfl | simp [Act.eval,Act.put]) (by rfl) (by exact zfJ BSD.out) (by simp [Value.oneCell']) (by unfold maxLen;omega) (by omega) (Nat.zero_le _) ?_;intro v3 w3 ho hg hpp;obtain ⟨a8,tr⟩:=A8.of (p:=p) H2.out KSD.out ho hg hpp;obtain ⟨a3,c3,rfl,_,_⟩:=zaa a8.row;have y1:=lg_1 a8.blk;have y2:=lg_1 (a8.alloc (oS sp)).blk;have A8h:=zz0 a8;have TS:=zz0 (tr _ _ (Nat.le_refl _) CSD.out);clear ho hg hpp a8 tr;dsimp only [oS] at y1 y2)
    | (refine zag (by rfl) (.tmp 36) (.tmp 38) 127 (by rfl) 0 194 i2 (.pointer none) 1 8 Tryz.underlying127 I2.out.1 I2.out.2.1 I2.out.2.2.1 I2.out.2.2.2 rfl (by decide) (.slice sa sps.length sc) sps.length (sps.map ptrV) (by first | rfl | simp [Act.eval,Act.put]) (by exact A8h.out.shelves) ⟨w2.heap.size+1,0,none⟩ 1 1 [.pointer (some ⟨sp,0,none⟩)] (by first | rfl | simp [Act.eval,Act.put]) (by rfl) (by exact zfK TS.out) (by simp [Value.oneCell']) (by unfold maxLen;omega) (by omega) (Nat.zero_le _) ?_;intro v5 w5 ho hg hpp;have a15:=A15.of (sp:=sp) H2.out A8h.out ho hg hpp;obtain ⟨a5,c5,rfl,_,_⟩:=zaa a15.row5;have z0:=lg_0 a15.blk;have z1:=lg_1 (zcB a15.blk (.slice a3 (dps.length+1) c3));have f0:=lg_f a15.blk 0;have f1:=lg_f (zcB a15.blk (.slice a3 (dps.length+1) c3)) 1;have CLO:=zz0 (zdD H.out HFF.out HL.out HLAY.out K2.out HFU.out HSH.out a15);clear ho hg hpp a15)
    | (refine zag (by rfl) (.tmp 36) (.tmp 38) 127 (by rfl) 0 194 i2 (.pointer none) 1 8 Tryz.underlying127 I2.out.1 I2.out.2.1 I2.out.2.2.1 I2.out.2.2.2 rfl (by decide) (.slice sa sps.length sc) sps.length (sps.map ptrV) (by first | rfl | simp [Act.eval,Act.put]) (by exact A8h.out.shelves) ⟨w2.heap.size,0,none⟩ 1 1 [.pointer (some ⟨sp,0,none⟩)] (by first | rfl | simp [Act.eval,Act.put]) (by rfl) (by exact zfK TS.out) (by simp [Value.oneCell']) (by unfold maxLen;omega) (by omega) (Nat.zero_le _) ?_;intro v5 w5 ho hg hpp;have a15:=A15.of (sp:=sp) H2.out A8h.out ho hg hpp;obtain ⟨a5,c5,rfl,_,_⟩:=zaa a15.row5;have z0:=lg_0 a15.blk;have z1:=lg_1 (zcB a15.blk (.slice a3 (dps.length+1) c3));have f0:=lg_f a15.blk 0;have f1:=lg_f (zcB a15.blk (.slice a3 (dps.length+1) c3)) 1;have CLO:=zz0 (zdD H.out HFF.out HL.out HLAY.out K2.out HFU.out HSH.out a15);clear ho hg hpp a15)
    | (refine zag (by rfl) (.tmp 36) (.tmp 38) 127 (by rfl) 0 194 i2 (.pointer none) 1 8 Tryz.underlying127 I2.out.1 I2.out.2.1 I2.out.2.2.1 I2.out.2.2.2 rfl (by decide) (.slice sa sps.length sc) sps.length (sps.map ptrV) (by first | rfl | simp [Act.eval,Act.put]) (by exact (A8h.out.alloc (oS sp)).shelves) ⟨w3.heap.size,0,none⟩ 1 1 [.pointer (some ⟨sp,0,none⟩)] (by first | rfl | simp [Act.eval,Act.put]) (by rfl) (by exact zfK (zab w3 (oS sp))) (by simp [Value.oneCell']) (by unfold maxLen;omega) (by omega) (Nat.zero_le _) ?_;intro v5 w5 ho hg hpp;have a15:=A15.of (sp:=sp) H2.out (A8h.out.alloc (oS sp)) ho hg hpp;obtain ⟨a5,c5,rfl,_,_⟩:=zaa a15.row5;have z0:=lg_0 a15.blk;have z1:=lg_1 (zcB a15.blk (.slice a3 (dps.length+1) c3));have f0:=lg_f a15.blk 0;have f1:=lg_f (zcB a15.blk (.slice a3 (dps.length+1) c3)) 1;have CLO:=zz0 (zdD H.out HFF.out HL.out HLAY.out K2.out HFU.out HSH.out a15);clear ho hg hpp a15))
  all_goals go_wp2_with (go_at_call 120;refine CLO.out.mono ?_;rintro r w6 ⟨⟨nn,rfl⟩,t⟩;have T:=zz0 t;clear t)
  all_goals
    go_ret
    exact ⟨rfl,T.out⟩
theorem zdy:okObj rname:=by
  refine ⟨?_,by decide,by decide⟩
  unfold okName
  decide
theorem zja (F:Nat→Prop) (b lb q p:Nat) (X:Dk) (w:World) (d:StoreAt F w q p X) (hd:X.down=false) (hh:fhas X.shown rname=false) :
    Calls Tryz.prog 106 #[.pointer (some ⟨b,0,none⟩),.pointer (some ⟨lb,0,none⟩),.pointer (some ⟨q,0,none⟩)] w fun e w'=>e = .returned (.tuple #[.agg #[.int .i64 0,.int .i64 0,.int .i64 0,.int .i64 0,.slice none 0 0],.bool false,.nilIface])∧Keep Non w w':=by
  have kA:Keep Non w (w.alloc CuZ):=(Keep.refl _ _).alloc _
  have LD:=zz0 (zdY F q p rname X (w.alloc CuZ) (d.keep kA (fun _ _ e=>e)) zdy hd hh)
  have KA:=zz0 kA
  have BA:=zz0 (zjT w)
  clear d kA
  unfold sv rname at LD
  dsimp only [CuZ] at LD
  go_enter Tryz.func106,Tryz.ntmps106
  go_wp2_with (go_at_call 128;((with_reducible refine LD.out.mono ?_);rintro e w2 ⟨rfl,k2⟩);have b2:=nonAt (w:=w.alloc CuZ) k2 BA.out;have B2:=zz0 b2;have K2:=zz0 (KA.out.trans1 k2);have i0':=cu_0 b2;have i1':=cu_1 b2;have i2':=cu_2 b2;have i3':=cu_3 b2;have i4':=cu_4 b2;have j0':=cu_f b2 0;have j1':=cu_f b2 1;have j2':=cu_f b2 2;have j3':=cu_f b2 3;have j4':=cu_f b2 4;clear k2 b2)
  obtain ⟨r0,r1,r2,r3,r4,kf⟩:=zfo B2.out (.int .i64 0) (.int .i64 0) (.int .i64 0) (.int .i64 0) (.slice none 0 0) _ rfl
  refine bodyPost_ret (v:=.tuple #[.agg #[.int .i64 0,.int .i64 0,.int .i64 0,.int .i64 0,.slice none 0 0],.bool false,.nilIface]) (by simp [results,Tryz.results106,go_sem,r0,r1,r2,r3,r4]) rfl ?_
  exact ⟨rfl,K2.out.trans kf (fun _ _ e=>e) (fun g hg e=>by have e':g=w.heap.size:=e;omega)⟩
def RbEnd (F:Nat→Prop) (w:World) (b lb q p:Nat) (Z:Dk) (x:Nat) (w':World):Prop :=
  ∃ ad c F',Keep F w w'∧Sub F' F w∧(∀ g,F' g→g < w'.heap.size)∧StoreAt F' w' q p Z∧w.heap.size≤x∧x < w'.heap.size∧¬ F' x∧w'.heap[x]? = some (RsB b lb q 1 0 0 (.slice (some ad) 1 c) 0 false)∧ItAt w' ad 0 0 0 1∧w.heap.size≤ad.block∧ad.block < w'.heap.size∧¬ F' ad.block∧ad.block≠x
def RbSv (F:Nat→Prop) (w w4:World) (b lb q p c:Nat) (ad:Addr) (Z:Dk) (w':World):Prop :=
  ∃ F',Keep F w w'∧Keep (fun g=>F g∨g=w4.heap.size) w4 w'∧Sub F' F w4∧(∀ g,F' g→g < w'.heap.size∧g≠w4.heap.size)∧StoreAt F' w' q p Z∧w'.heap[w4.heap.size]? = some (RsB b lb q 1 0 0 (.slice (some ad) 1 c) 0 false)
theorem zoP (F:Nat→Prop) (b lb q p c:Nat) (ad:Addr) (Z:Dk) (w w4:World) (k:Keep Non w w4)
    (sv:∀ W,Keep Non w W→Calls Tryz.prog 69 #[.pointer (some ⟨q,0,none⟩),.string ⟨rname.toArray⟩,.agg #[.int .i64 0,.int .i64 0,.int .i64 1,.int .i64 0,.slice none 0 0]] W fun e w'=>e = .returned .nilIface∧StoreTo F W q p Z w') (hF:∀ g,F g→g < w.heap.size) :
    Calls Tryz.prog 108 #[.pointer (some ⟨w4.heap.size,0,none⟩),.int .i64 0] (w4.alloc (.cells #[.pointer (some ⟨b,0,none⟩),.pointer (some ⟨lb,0,none⟩),.pointer (some ⟨q,0,none⟩),.int .i64 1,.int .i64 0,.int .i64 0,.slice (some ad) 1 c,.int .i64 0,.bool false] 193 (0,0))) fun e w'=>e = .returned .nilIface∧RbSv F w w4 b lb q p c ad Z w':=by
  have hx:(w4.alloc (.cells #[.pointer (some ⟨b,0,none⟩),.pointer (some ⟨lb,0,none⟩),.pointer (some ⟨q,0,none⟩),.int .i64 1,.int .i64 0,.int .i64 0,.slice (some ad) 1 c,.int .i64 0,.bool false] 193 (0,0))).heap[w4.heap.size]? = some (RsB b lb q 1 0 0 (.slice (some ad) 1 c) 0 false):=zab w4 _
  have hxlt:w4.heap.size < (w4.alloc (.cells #[.pointer (some ⟨b,0,none⟩),.pointer (some ⟨lb,0,none⟩),.pointer (some ⟨q,0,none⟩),.int .i64 1,.int .i64 0,.int .i64 0,.slice (some ad) 1 c,.int .i64 0,.bool false] 193 (0,0))).heap.size:=by show _ < (w4.heap.push _).size;simp
  have k5:Keep Non w4 (w4.alloc (.cells #[.pointer (some ⟨b,0,none⟩),.pointer (some ⟨lb,0,none⟩),.pointer (some ⟨q,0,none⟩),.int .i64 1,.int .i64 0,.int .i64 0,.slice (some ad) 1 c,.int .i64 0,.bool false] 193 (0,0))):=(Keep.refl _ _).alloc _
  generalize hW:w4.alloc (.cells #[.pointer (some ⟨b,0,none⟩),.pointer (some ⟨lb,0,none⟩),.pointer (some ⟨q,0,none⟩),.int .i64 1,.int .i64 0,.int .i64 0,.slice (some ad) 1 c,.int .i64 0,.bool false] 193 (0,0))=W5 at hx hxlt k5 ⊢
  refine (zik w4.heap.size b lb q 1 0 0 0 0 (some ad) 1 c (fun w'=>Keep F W5 w'∧∃ F',Sub F' F W5∧StoreAt F' w' q p Z) W5 hx ?_ ?_).mono ?_
  · rintro w' ⟨kk,_⟩
    exact kk.at hx (fun y=>by have:=hF _ y;have:=k.size;omega)
  · intro W kW
    refine (sv W ((k.trans1 k5).trans1 kW)).mono ?_
    rintro e w' ⟨rfl,kk,F',s',d'⟩
    refine ⟨rfl,(kW.ofNon.trans kk (fun _ _ y=>y) (fun _ _ y=>y)),F',fun g y=>?_,d'⟩
    rcases s' g y with u | u
    · exact .inl u
    · exact .inr (Nat.le_trans kW.size u)
  · rintro e w' ⟨rfl,w1,⟨kk,F',s',d'⟩,rfl⟩
    have hn:∀ g,F' g→g≠w4.heap.size:=fun g y e=>by
      rcases s' g y with u | u
      · have:=hF _ u;have:=k.size;omega
      · omega
    have b1:=kk.at hx (fun y=>by have:=hF _ y;have:=k.size;omega)
    have k6:Keep (One w4.heap.size) w1 (w1.setCell ⟨w4.heap.size,7,none⟩ (.int .i64 0)):=(Keep.refl _ _).setOne _ _
    have K7:Keep (fun g=>F g∨g=w4.heap.size) w4 (w1.setCell ⟨w4.heap.size,7,none⟩ (.int .i64 0)):=(k5.trans kk (fun _ _ e=>e.elim) (fun _ _ e=>.inl e)).trans k6 (fun _ _ e=>e) (fun _ _ e=>.inr e)
    refine ⟨rfl,fun g=>F' g∧g < w1.heap.size,?_,K7,?_,?_,?_,?_⟩
    · exact k.trans K7 (fun _ _ e=>e.elim) (fun g hg e=>e.elim id (fun u=>by have:=k.size;omega))
    · intro g y
      rcases s' g y.1 with u | u
      · exact .inl u
      · exact .inr (by omega)
    · intro g y
      exact ⟨k6.lt y.2,hn g y.1⟩
    · exact d'.low.keep k6 (fun g y e=>hn g y.1 e)
    · exact zk9 b1 0
theorem zkZ (F FL T:Nat→Prop) (b lb q0 q p:Nat) (lv:Value) (m:Mf) (pt:Pt) (X Z:Dk) (L:Lg) (w:World) (hb:w.heap[b]? = some (VtB q0 lv)) (hm:MsAt T w lv [m]) (h32:pts32 m.parts) (hlen:m.parts.length≤10000)
    (ok:okMf m) (hnum:m.num=0) (hl:m.lo=0) (hh:m.hi=1) (htr:m.trim=0) (hps:m.parts = [pt]) (hf:pt.first=0) (hma:pt.many=1)
    (d:StoreAt F w q p X) (hF:∀ g,F g→g < w.heap.size) (lg:LgAt FL w lb 2 L) (hse:L.se=L.ep) (hnx:L.next=0) (hup:X.down=false) (hcur:fhas X.shown rname=false) (hlim:X.lim 2 2 20000) (hsv:X.sput rname (cuBy (cu00 1))=(0,Z)) :
    Calls Tryz.prog 49 #[.pointer (some ⟨b,0,none⟩),.pointer (some ⟨lb,0,none⟩),.pointer (some ⟨q,0,none⟩),.int .i64 1] w fun e w'=>∃ x,e = .returned (.tuple #[.pointer (some ⟨x,0,none⟩),.nilIface])∧RbEnd F w b lb q p Z x w':=by
  have LD:=zz0 (zja F b lb q p X w d hup hcur)
  have TL:Hid (∀ W,Keep Non w W→Calls Tryz.prog 65 #[.pointer (some ⟨lb,0,none⟩)] W fun r w'=>r = .returned (.tuple #[.int .i64 0,.nilIface])∧Keep Non W w'):=zz0 (fun W k=>by have:=zee W (lg.keepNon k) hse;rw [hnx] at this;exact this)
  have CH:=zz0 (fun W (k:Keep Non w W)=>zjw T b q0 lv m W (nonAt k hb) (hm.keepNon k) h32 hlen)
  have PO:=zz0 (fun T v W (h:MsAt T W v [m])=>zmL T v m pt W h ok hnum hl hh htr hps hf hma)
  have SV:Hid (∀ W,Keep Non w W→Calls Tryz.prog 69 #[.pointer (some ⟨q,0,none⟩),.string ⟨rname.toArray⟩,.agg #[.int .i64 0,.int .i64 0,.int .i64 1,.int .i64 0,.slice none 0 0]] W fun e w'=>e = .returned .nilIface∧StoreTo F W q p Z w'):=zz0 (fun W k=>by
    have hp:PtsAt W (.slice none 0 0) (cu00 1).parts:=PtsAt.of (B:=0) (World.ownsRow_nil _ _ _ _) (fun p hp=>by cases hp)
    have:=zcj F q p (cu00 1) (.slice none 0 0) rname X _ _ _ W (d.keep k (fun _ _ e=>e)) hlim (by omega) (by omega) (by omega) (fun g y=>k.lt (hF g y)) zdy (zfn (by omega)) hp (by have:=zbt (zfn (n:=1) (by omega));omega)
    rw [hsv] at this
    exact this)
  have HF:=zz0 hF
  clear hb hm h32 hlen ok hnum hl hh htr hps hf hma d lg hse hnx hup hcur hlim hsv hF
  go_enter Tryz.func49,Tryz.ntmps49
  go_wp2_with (first
    | (go_at_call 106;((with_reducible refine LD.out.mono ?_);rintro e w1 ⟨rfl,k1⟩);have K1:=zz0 (k1.alloc CuZ);clear k1)
    | (go_at_call 10;refine (CH.out _ K1.out).mono ?_;rintro e w2 ⟨v2,rfl,k2,m2⟩;have K2:=zz0 (K1.out.trans1 k2);have PO2:=zz0 (PO.out _ v2 w2 m2);clear k2 m2)
    | (go_at_call 107;((with_reducible refine PO2.out.mono ?_);rintro e w3 ⟨ad,c,rfl,k3,a1,a2,i3⟩);have K3:=zz0 (K2.out.trans1 k3);have E3:=zz0 (And.intro (Nat.le_trans K2.out.size a1) (And.intro a2 i3));have P3:=zz0 (zab w3 (.cells #[.int .i64 1,.int .i64 0,.int .i64 0,.slice (some ad) 1 c] 189 (0,0)));have K3':Hid (Keep Non w3 (w3.alloc (.cells #[.int .i64 1,.int .i64 0,.int .i64 0,.slice (some ad) 1 c] 189 (0,0)))):=zz0 ((Keep.refl _ _).alloc _);clear k3 a1 a2 i3)
    | (go_at_call 65;refine (TL.out _ (K3.out.trans1 K3'.out)).mono ?_;rintro e w4 ⟨rfl,k4⟩;have K4':=zz0 k4;have p4:=nonAt k4 P3.out;have P4:=zz0 p4;obtain ⟨c0,c1,c2,c3,_⟩:=zaQ p4;have kx:Keep Non w4 (w4.alloc (.cells #[.pointer (some ⟨b,0,none⟩),.pointer (some ⟨lb,0,none⟩),.pointer (some ⟨q,0,none⟩),.int .i64 1,.int .i64 0,.int .i64 0,.slice (some ad) 1 c,.int .i64 0,.bool false] 193 (0,0))):=(Keep.refl _ _).alloc _;have c1':=(zaQ (nonAt kx p4)).2.1;have SW:=zz0 (zoP F b lb q p c ad Z w w4 ((K3.out.trans1 K3'.out).trans1 k4) SV.out HF.out);clear k4 p4 kx)
    | (go_at_call 108;((with_reducible refine SW.out.mono ?_);rintro e w5 ⟨rfl,r5⟩);have R5:=zz0 r5;clear r5))
  go_ret2
  obtain ⟨F',kA,kB,s',f',d',x'⟩:=R5.out
  have hw4:w.heap.size≤w4.heap.size:=Nat.le_trans (K3.out.trans1 K3'.out).size K4'.out.size
  have had:ad.block < w4.heap.size:=Nat.lt_of_lt_of_le E3.out.2.1 (Nat.le_trans K3'.out.size K4'.out.size)
  have i4:ItAt w4 ad 0 0 0 1:=(E3.out.2.2.keep K3'.out (fun e=>e)).keep K4'.out (fun e=>e)
  have hxl:w4.heap.size < w5.heap.size:=by
    rcases Nat.lt_or_ge w4.heap.size w5.heap.size with h | h
    · exact h
    · rw [Array.getElem?_eq_none h] at x';cases x'
  have nad:¬ F' ad.block:=fun y=>by
    rcases s' _ y with u | u
    · have:=HF.out _ u;have:=E3.out.1;omega
    · omega
  refine ⟨w4.heap.size,rfl,ad,c,F',kA,fun g y=>?_,fun g y=>(f' g y).1,d',hw4,hxl,fun y=>(f' _ y).2 rfl,x',i4.keep kB (fun e=>?_),E3.out.1,by omega,nad,by omega⟩
  · rcases s' g y with u | u
    · exact .inl u
    · exact .inr (by omega)
  · rcases e with u | u
    · have:=HF.out _ u;have:=E3.out.1;omega
    · omega
def SgZ0:Obj:=.cells #[.int .i64 0,.slice none 0 0] 109 (0,0)
section
attribute [local go_sem ↓] hV84 hV106 hV87 hW84 hW106 hW87 hB106 hB87
theorem zpz (F T:Nat→Prop) (b q p place f:Nat) (lv:Value) (m:Mf) (cl:List Cl) (X:Dk) (w:World) (hb:w.heap[b]? = some (VtB q lv)) (d:StoreAt F w q p X) (hdn:X.down=false) (hlay:Lay w) (hm:MsAt T w lv [m]) (hp:m.parts[place]? = some (ptOf f cl)) (h64:m.parts.length≤10000) (hpl:place < 64)
    (f1:fhas X.shown (labelN 0 place)=true) (f2:fget X.shown (labelN 0 place)=segB f cl) (hcl:cl.length≤64) (hokc:∀ x ∈ cl,okCl x) (hfl:f+cl.length≤1048576) :
    Calls Tryz.prog 48 #[.pointer (some ⟨b,0,none⟩),.int .i64 0,.int .i64 place] w fun e w'=>∃ v',e = .returned (.tuple #[.agg #[.int .i64 f,v'],.nilIface])∧Keep Non w w'∧∃ xs,w'.ownsRow w.heap.size 60 2 v' cl.length xs∧CellsOf w.heap.size Non w' xs cl:=by
  have hsl:=zcC hokc hcl (show f≤1048576 by omega)
  have hrl:=zdd hokc hcl (show f≤1048576 by omega)
  have p5:(ptOf f cl).sum.length=32:=zal _
  have VP:=zz0 (fun W (k:Keep Non w W)=>znw T b q place lv m (ptOf f cl) W (nonAt k hb) (hm.keepNon k) hp p5 h64)
  have LB:=zz0 (fun W=>zcg 0 place W (by omega) (by omega))
  have GT:=zz0 (fun W (k:Keep Non w W)=>by
    have:=zcD F q p (labelN 0 place) X W (d.keep k (fun _ _ e=>e)) (zaI 0 place (by omega) (by omega)) hdn f1 (by rw [f2];omega)
    rw [f2] at this
    exact this)
  have MH:=zz0 (fun W v (k:Keep Non w W) (hb:Bs W v (segB f cl)) (ho:okc v) (hv:∀ g,v.ownBlock=some g→g < W.heap.size)=>zeh f v cl W hb ho hv hcl hokc hfl (by omega) (by omega) (hlay.keepNon k).kon (hlay.keepNon k).frs)
  have BB:Hid (∀ W,Keep Non w W→W.cell? ⟨b,0,none⟩=some (.pointer (some ⟨q,0,none⟩))):=zz0 (fun W k=>vt_0 (nonAt k hb))
  have NC:((0:Nat):Int)=0:=rfl
  have K0:Hid (Keep Non w (w.alloc SgZ0)):=zz0 ((Keep.refl _ _).alloc _)
  have R0:Hid ((w.alloc SgZ0).heap[w.heap.size]? = some (SgB 0 (.slice none 0 0))):=zz0 (zab w SgZ0)
  have VPW:=zz0 (VP.out _ K0.out)
  rw [NC] at LB
  clear hb d hlay hm hp f1 f2
  unfold sv at LB GT
  dsimp only [SgZ0] at VPW
  generalize hpt:ptOf f cl=pt at VPW MH p5 VP
  generalize hsb:segB f cl=sb at GT MH
  go_enter Tryz.func48,Tryz.ntmps48
  go_wp2_with (go_at_call 103;((with_reducible refine VPW.out.mono ?_);rintro e w1 ⟨rfl,k1⟩);have K1:=zz0 (K0.out.trans1 k1);have hsp:=zas w1 pt p5;have R1:=zz0 (nonAt (w:=w.alloc SgZ0) k1 R0.out);dsimp only [zPt,PtB] at hsp;clear k1)
  have kp:Keep Non w1 (w1.alloc (PtB pt)).drew:=((Keep.refl _ _).alloc _).drew
  have KP:=zz0 kp
  have PL:Hid (∀ W,Keep Non (w1.alloc (PtB pt)).drew W→(holdV 106 ⟨w1.heap.size,0,none⟩).run Tryz.prog W = .ok (ptV pt) W):=zz0 (fun W k=>zaG (nonAt k (by exact zab w1 (PtB pt))) p5)
  have KW:=zz0 (K1.out.trans1 kp)
  have v0:=BB.out _ KW.out
  have LBW:=zz0 (LB.out (w1.alloc (PtB pt)).drew)
  dsimp only [PtB] at v0 LBW
  clear kp hsp
  go_region_law (go_simp;first
    | (go_at_call 104;((with_reducible refine LBW.out.mono ?_);rintro r w2 ⟨rfl,k2⟩);have k2':=KW.out.trans1 k2;have v2:=BB.out _ k2';have GTW:=zz0 (GT.out w2 k2');have K2:=zz0 k2';have KP2:=zz0 (show Keep Non (w1.alloc (PtB pt)).drew w2 from k2);clear k2 k2')
    | (go_at_call 11;((with_reducible refine GTW.out.mono ?_);rintro r w3 ⟨v3,rfl,k3,o3⟩);obtain ⟨a3,c3,rfl,_,_⟩:=zaa o3;have hl3:=PL.out _ (KP2.out.trans1 k3);have MHW:=zz0 (MH.out w3 _ (K2.out.trans1 k3) (Rd.ofOwns o3) (zbw o3) (fun g e=>(o3.lt g e).2));have K3:=zz0 (K2.out.trans1 k3);have R3:=zz0 (nonAt k3 (nonAt KP2.out (nonAt KP.out R1.out)));clear k3 o3))
  all_goals go_wp2_with (go_at_call 105;refine MHW.out.mono ?_;rintro r w4 ⟨v4,rfl,k4,xs,o4,q4⟩;obtain ⟨a4,c4,rfl,_,_⟩:=zaa o4;have r4:=nonAt k4 R3.out;have R4:=zz0 r4;have K4:=zz0 (K3.out.trans1 k4);have O4:=zz0 o4;have Q4:=zz0 q4;have rf0:=sg_f r4 0;have rf1:=sg_f r4 1;have rc0:=sg_0 r4;have rc1:=sg_1 r4;have rx0:=sg_0 (zaz r4 f);clear k4 o4 q4 r4)
  all_goals
    have s0:=sg_0 (zaV (zaz R4.out f) (.slice a4 cl.length c4))
    have s1:=sg_1 (zaV (zaz R4.out f) (.slice a4 cl.length c4))
    refine bodyPost_ret (v:=.tuple #[.agg #[.int .i64 f,.slice a4 cl.length c4],.nilIface]) (by simp [results,Tryz.results48,go_sem,s0,s1]) rfl ?_
    have kf:Keep (One w.heap.size) w4 ((w4.setCell ⟨w.heap.size,0,none⟩ (.int .i64 f)).setCell ⟨w.heap.size,1,none⟩ (.slice a4 cl.length c4)):=((Keep.refl _ _).setOne _ _).setOne _ _
    have h3:=K3.out.size
    have hz:w.heap.size < w3.heap.size:=lt_of_block R3.out
    refine ⟨_,rfl,K4.out.trans kf (fun _ _ e=>e) (fun g hg e=>by have e':g=w.heap.size:=e;omega),xs,zad (zac O4.out kf (fun g e e2=>by have e':g=w.heap.size:=e2;have:=(O4.out.lt g e).1;omega)) (by omega),(Q4.out.keep (S':=Non) kf (fun g hg e=>by have e':g=w.heap.size:=e;omega) (fun _ _ e=>e.elim)).low (by omega) (fun _ e=>e)⟩
end
theorem zmt {w w1 w2 w3:World} {n q b:Nat} {cv:Value} (h10:10≤w.heap.size) (hw:w.heap.size≤w1.heap.size) (hn:n≤3) (hp:PrAt (fun g=>w.heap.size≤g∧g < w1.heap.size) w1 cv n) (hq:w1.heap.size≤q) (k2:Keep Non w1 w2) (bq:w2.heap[q]? = some (SqB 0 0)) (hb:b=w2.heap.size) (hw3:w3=w2.alloc (LgB (.slice none 0 0) (.slice none 0 0) 1 cv q)) :
    LgAt (fun g=>w.heap.size≤g∧g < w3.heap.size) w3 b n ⟨[],1,0,0⟩:=by
  subst hw3
  subst hb
  have hq2:=lt_of_block bq
  have k3:Keep Non w1 (w2.alloc (LgB (.slice none 0 0) (.slice none 0 0) 1 cv q)):=k2.trans1 ((Keep.refl _ _).alloc _)
  have sz:(w2.alloc (LgB (.slice none 0 0) (.slice none 0 0) 1 cv q)).heap.size=w2.heap.size+1:=by simp
  have k2s:=k2.size
  refine ⟨fun i g=>(i=0∧g=w2.heap.size)∨(i=1∧g=q)∨(i=4∧w.heap.size≤g∧g < w1.heap.size),[],[],_,_,cv,q,⟨zab _ _,zae bq _,⟨by decide,by decide,by decide,by decide⟩,World.ownsRow_nil _ _ _ _,World.ownsRow_nil _ _ _ _,⟨rfl,rfl⟩,?_,fun i s p dp hi=>by simp at hi,⟨.inl ⟨rfl,rfl⟩,.inr (.inl ⟨rfl,rfl⟩),(fun g e=>by cases e),(fun g e=>by cases e)⟩,?_,?_,⟨hn,by simp⟩⟩,?_⟩
  · have hp3:=hp.keepNon k3
    obtain ⟨g,vs,c,e1,e2,e3,e4,e5,e6⟩:=hp3
    exact ⟨g,vs,c,e1,e2,e3,e4,.inr (.inr ⟨rfl,e5⟩),fun v hv k e=>.inr (.inr ⟨rfl,e6 v hv k e⟩)⟩
  · rintro i j g (⟨h1,h2⟩ | ⟨h1,h2⟩ | ⟨h1,h2,h3⟩) (⟨h4,h5⟩ | ⟨h4,h5⟩ | ⟨h4,h5,h6⟩) <;> omega
  · rintro i g (⟨h1,h2⟩ | ⟨h1,h2⟩ | ⟨h1,h2,h3⟩) <;> constructor <;> omega
  · rintro i g (⟨h1,h2⟩ | ⟨h1,h2⟩ | ⟨h1,h2,h3⟩) <;> constructor <;> omega
theorem zh3 (T:Nat→Prop) (n:Nat) (cv:Value) (w:World) (hlay:Lay w) (h:PrAt T w cv n) (h1:1≤n) (h2:n≤3) (h10:10≤w.heap.size) :
    Calls Tryz.prog 20 #[.int .i64 n,.int .i64 16777216,cv] w fun r w'=>∃ b,r = .returned (.tuple #[.pointer (some ⟨b,0,none⟩),.nilIface])∧Keep Non w w'∧LgAt (fun g=>w.heap.size≤g∧g < w'.heap.size) w' b n ⟨List.replicate n (sh1 16777216),1,0,1⟩:=by
  have CK:=zz0 (fun W (k:Keep Non w W)=>zi2 T 1 n cv W (h.keepNon k) h1 h2 (by omega))
  have UN:=zz0 (fun W (k:Keep Non w W)=>zb6 T 1 n cv W (h.keepNon k) h1 h2)
  have CP:=zz0 (fun W (k:Keep Non w W)=>zid T 1 n cv W (h.keepNon k) h1 h2)
  obtain ⟨g0,vs0,c0,rfl,_⟩:=id h
  have PB:Hid (∀ W,Keep Non (w.alloc (PrB 1 (.slice (some ⟨g0,0,none⟩) (chN n) c0))) W→W.cell? ⟨w.heap.size,0,none⟩=some (.int .i64 (1:Nat))∧W.cell? ⟨w.heap.size,1,none⟩=some (.slice (some ⟨g0,0,none⟩) (chN n) c0)):=zz0 (fun W kk=>⟨pr_0 (kk.at (zab _ _) (fun e=>e)),pr_1 (kk.at (zab _ _) (fun e=>e))⟩)
  have KA:=zz0 ((Keep.refl Non w).alloc (PrB 1 (.slice (some ⟨g0,0,none⟩) (chN n) c0)))
  have LY:=zz0 hlay
  have a0:=pr_0 (zab w (PrB 1 (.slice (some ⟨g0,0,none⟩) (chN n) c0)))
  have a1:=pr_1 (zab w (PrB 1 (.slice (some ⟨g0,0,none⟩) (chN n) c0)))
  have CKA:=zz0 (CK.out _ KA.out)
  dsimp only [PrB] at a0 a1 CKA
  have hn1:¬ (n:Int) < 1:=by omega
  have hn8:¬ (8:Int) < n:=by omega
  clear h hlay CK
  go_enter Tryz.func20,Tryz.ntmps20
  go_wp2_with (first
    | (go_at_call 56;refine CKA.out.mono ?_;rintro r w1 ⟨rfl,k1⟩;obtain ⟨b0,b1⟩:=PB.out _ k1;have K1:=zz0 k1;have UNW:=zz0 (UN.out _ (KA.out.trans1 k1));clear k1)
    | (go_at_call 57;refine UNW.out.mono ?_;rintro r w2 ⟨ug,uc,rfl,k2,hug,u2⟩;obtain ⟨d0,d1⟩:=PB.out _ (K1.out.trans1 k2);have K2:=zz0 (K1.out.trans1 k2);have U2:=zz0 u2;clear k2 u2))
  go_loopw [31] (fun i wr=>∃ j:Nat,j≤n∧i = .int .i64 j∧wr=w2) (fun i _=>n - (intOf i).toNat)
  case atStart=>exact ⟨0,by omega,rfl,rfl⟩
  case round =>
    obtain ⟨j,hj,rfl,rfl⟩:=hrel
    by_cases hlt:j < n
    · have hlj:(j:Int) < (n:Int):=by omega
      have hge:¬ (n:Int)≤(j:Int):=by omega
      have hcell:wr.cell? ⟨ug,j,none⟩=some (.int .i64 (j:Int)):=by
        obtain ⟨a',c',e,hx⟩:=U2.out
        injection e with e1 e2 e3
        obtain ⟨g',off,e4,hc⟩:=hx (by intro e;have e':=List.map_eq_nil_iff.1 e;have e2:=congrArg List.length e';simp at e2;omega)
        rw [← e1] at e4
        injection e4 with e4
        injection e4 with e4 e5
        subst e4
        subst e5
        have:=hc j (iv j) (by rw [List.getElem?_map,List.getElem?_range hlt];rfl)
        rwa [Nat.zero_add] at this
      go_wp2_with fail
      refine ⟨⟨j+1,by omega,?_⟩,by simp [intOf];omega⟩
      exact ⟨rfl,trivial⟩
    · obtain rfl:j=n:=by omega
      have CPW:=zz0 (CP.out _ (KA.out.trans1 K2.out))
      go_wp2_with (first
        | (go_at_call 58;refine CPW.out.mono ?_;rintro r w3 ⟨cv',rfl,k3,p3⟩;have K3:=zz0 k3;have P3:=zz0 p3;clear k3 p3)
        | (go_at_call 59;refine (zoC _).mono ?_;rintro r w4 ⟨q,rfl,hq,k4,b4⟩;have K4:=zz0 k4;have B4:=zz0 b4;clear k4 b4))
      have K4':=zz0 (KA.out.trans1 (K2.out.trans1 (K3.out.trans1 K4.out)))
      have hF0:LgAt (fun g=>w.heap.size≤g) (w4.alloc (LgB (.slice none 0 0) (.slice none 0 0) 1 cv' q)) w4.heap.size j ⟨[],1,0,0⟩ :=
        (zmt (w:=w) (w1:=w3) (w2:=w4) h10 (by have:=K3.out.size;have:=K2.out.size;have:=KA.out.size;simp at *;omega) h2 (by
          obtain ⟨g,vs,c,e1,e2,e3,e4,e5,e6⟩:=P3.out
          have hs:w.heap.size≤wr.heap.size:=Nat.le_trans KA.out.size K2.out.size
          exact ⟨g,vs,c,e1,e2,e3,e4,⟨Nat.le_trans hs e5.1,e5.2⟩,fun v hv k e=>⟨Nat.le_trans hs (e6 v hv k e).1,(e6 v hv k e).2⟩⟩) hq K4.out B4.out rfl rfl).mono (fun g x _=>x.1)
      have HF0:=zz0 hF0
      have ADD:=zz0 (fun W L (hL:LgAt (fun g=>w.heap.size≤g) W w4.heap.size j L) (hl:L.shs.length < 3) (hy:Lay W)=>zmu W hL hl hy)
      generalize hwB:w4.alloc (LgB (.slice none 0 0) (.slice none 0 0) 1 cv' q)=wB at HF0 hF0
      have KB:Hid (Keep Non w wB):=zz0 (by rw [← hwB];exact K4'.out.alloc _)
      dsimp only [LgB] at hwB
      rw [show ((1:Nat):Int)=1 from rfl] at hwB
      rw [hwB]
      generalize w4.heap.size=b at HF0 ADD ⊢
      clear hF0 hwB
      go_loopw [46] (fun i wr=>∃ k:Nat,k≤j∧i = .int .i64 k∧Keep Non w wr∧LgAt (fun g=>w.heap.size≤g) wr b j ⟨List.replicate k (sh1 16777216),1,0,0⟩) (fun i _=>j - (intOf i).toNat)
      case atStart=>exact ⟨0,by omega,rfl,KB.out,HF0.out⟩
      case round =>
        obtain ⟨k,hk,rfl,kw,hL⟩:=hrel
        have KW:=zz0 kw
        have HL:=zz0 hL
        clear kw hL HF0
        by_cases hlk:k < j
        · have hlk':(k:Int) < (j:Int):=by omega
          have AD:=zz0 (ADD.out _ _ HL.out (by simp;omega) (LY.out.keepNon KW.out))
          go_wp2_with (go_at_call 60;refine AD.out.mono ?_;rintro r w6 ⟨rfl,t⟩;have TT:=zz0 t;clear t)
          refine ⟨⟨k+1,by omega,by first | rfl | go_num,?_⟩,by simp [intOf];omega⟩
          obtain ⟨k6,F',s6,hL6⟩:=TT.out
          refine ⟨KW.out.trans k6 (fun _ _ e=>e) (fun g hg e=>by omega),?_⟩
          have e1:List.replicate k (sh1 16777216) ++ [sh1 16777216]=List.replicate (k+1) (sh1 16777216):=by rw [List.replicate_succ']
          rw [e1] at hL6
          exact hL6.mono (fun g x _=>by rcases s6 g x with y | y;exact y;have:=KW.out.size;omega)
        · obtain rfl:k=j:=by omega
          obtain ⟨A,dps,sps,dv,sv,cv,q',hA,hAF⟩:=id HL.out
          have c4:=lg_4 hA.blk
          have e1:setE 0 1 0=0:=by decide
          have e2:setP 0 1 0=1:=by decide
          have e3:setN 0 0 1 0=0:=by decide
          have SET:=zlf q' 0 0 1 0 _ hA.sq hA.sqin
          rw [e1,e2,e3,zaK] at SET
          have SET':=zz0 SET
          have FIN:Hid (∀ w',Keep (One q') wr w'→w'.heap[q']? = some (SqB 1 0)→LgTo (fun g=>w.heap.size≤g) wr b k ⟨List.replicate k (sh1 16777216),1,0,1⟩ w'):=zz0 (fun w' kk hq=>hA.own (e':=1) (nx':=0) hAF (kk.mono (fun g _ x=>.inr x)) (kk.at hA.blk (fun e=>by have e':b=q':=e;have:=hA.apart 0 1 b hA.mem.1 (e' ▸ hA.mem.2.1);omega)) hq ⟨by decide,by decide,by decide,by decide⟩)
          clear SET hA
          go_wp2_with (go_at_call 61;refine SET'.out.mono ?_;rintro r w7 ⟨rfl,k7,q7⟩;have K7:=zz0 k7;have Q7:=zz0 q7;clear k7 q7)
          go_ret2
          obtain ⟨k8,F',s8,hL8⟩:=FIN.out _ K7.out Q7.out
          refine ⟨b,rfl,KW.out.trans k8 (fun _ _ e=>e) (fun g hg e=>by omega),hL8.mono (fun g x y=>⟨?_,y⟩)⟩
          rcases s8 g x with y | y
          · exact y
          · have:=KW.out.size;omega
end Go.Proofs.YtnboipdpccnedaaGreatDoor
