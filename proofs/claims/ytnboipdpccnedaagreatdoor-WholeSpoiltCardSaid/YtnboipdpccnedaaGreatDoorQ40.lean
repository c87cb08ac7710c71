/- slices.Equal at parts, cursor.Same: walked. · export.load, (*Export).Cursor: walked. · export.Begin: walked. · export.Begin behind a chain: walked (pr -/
import Derived.Test.YtnboipdpccnedaaGreatDoorQ39
set_option linter.unusedVariables false
set_option maxRecDepth 100000
set_option maxHeartbeats 16000000
namespace Go.Proofs.YtnboipdpccnedaaGreatDoor
open Go.RowKit Go.Maps
section
attribute [local go_sem ↓] hV84 hV106 hV87 hW84 hW106 hW87 hB106 hB87
end
def CuZ:Obj:=.cells #[.int .i64 0,.int .i64 0,.int .i64 0,.int .i64 0,.slice none 0 0] 139 (0,0)
theorem zjT (w:World):(w.alloc CuZ).heap[w.heap.size]? = some (CuB ⟨0,0,0,0,[]⟩ (.slice none 0 0)):=zab w CuZ
theorem zfl (F:Nat→Prop) (b lb q p:Nat) (lv:Value) (X:Dk) (w:World) (hb:w.heap[b]? = some (VtB q lv)) (d:StoreAt F w q p X) (hd:X.down=false) (hh:fhas X.shown cname=false) :
    Calls Tryz.prog 64 #[.pointer (some ⟨b,0,none⟩),.pointer (some ⟨lb,0,none⟩)] w fun e w'=>e = .returned (.tuple #[.agg #[.int .i64 0,.int .i64 0,.int .i64 0,.int .i64 0,.slice none 0 0],.bool false,.nilIface])∧Keep Non w w':=by
  have kA:Keep Non w (w.alloc CuZ):=(Keep.refl _ _).alloc _
  have ST:=zz0 (zch b q lv (w.alloc CuZ) (nonAt kA hb))
  have LD:=zz0 (zdY F q p cname X (w.alloc CuZ) (d.keep kA (fun _ _ e=>e)) zbf hd hh)
  have KA:=zz0 kA
  have BA:=zz0 (zjT w)
  clear hb d kA
  unfold sv cname at LD
  dsimp only [CuZ] at LD ST
  go_enter Tryz.func64,Tryz.ntmps64
  go_wp2_with (first
    | (go_at_call 8;((with_reducible refine ST.out.mono ?_);rintro e w1 ⟨rfl,rfl⟩))
    | (go_at_call 128;((with_reducible refine LD.out.mono ?_);rintro e w2 ⟨rfl,k2⟩);have b2:=nonAt (w:=w.alloc CuZ) k2 BA.out;have B2:=zz0 b2;have K2:=zz0 (KA.out.trans1 k2);have i0':=cu_0 b2;have i1':=cu_1 b2;have i2':=cu_2 b2;have i3':=cu_3 b2;have i4':=cu_4 b2;have j0':=cu_f b2 0;have j1':=cu_f b2 1;have j2':=cu_f b2 2;have j3':=cu_f b2 3;have j4':=cu_f b2 4;clear k2 b2))
  obtain ⟨r0,r1,r2,r3,r4,kf⟩:=zfo B2.out (.int .i64 0) (.int .i64 0) (.int .i64 0) (.int .i64 0) (.slice none 0 0) _ rfl
  refine bodyPost_ret (v:=.tuple #[.agg #[.int .i64 0,.int .i64 0,.int .i64 0,.int .i64 0,.slice none 0 0],.bool false,.nilIface]) (by simp [results,Tryz.results64,go_sem,r0,r1,r2,r3,r4]) rfl ?_
  exact ⟨rfl,K2.out.trans kf (fun _ _ e=>e) (fun g hg e=>by have e':g=w.heap.size:=e;omega)⟩
structure VtSt (F FL:Nat→Prop) (w:World) (b lb q p:Nat) (X:Dk) (L:Lg):Prop where
  vt:w.heap[b]? = some (VtB q (.slice none 0 0))
  st:StoreAt F w q p X
  lg:LgAt FL w lb L.shs.length L
  lay:Lay w
  out:¬ F b∧¬ FL b∧10≤b
  apart:∀ g,F g→¬ FL g
  low:∀ g,F g→10≤g∧g < w.heap.size
  lowL:∀ g,FL g→g < w.heap.size
structure VtOk (X:Dk):Prop where
  free:X.free
  tidy:X.tidy
  lim:X.lim 2 2 20000
  cur:fhas X.shown cname=false
  title:fhas X.shown (titleN 0)=false
def cu00 (n:Nat):Cu:=⟨0,0,n,0,[]⟩
theorem zfn {n:Nat} (h:n≤200):okCu (cu00 n):=⟨trivial,rfl,Nat.zero_le _,by show n≤1048576;omega,by show 0≤1048576;omega,by show 0≤64;omega⟩
structure VsSt (F FL T:Nat→Prop) (w:World) (b lb q p:Nat) (lv:Value) (ms:List Mf) (X:Dk) (L:Lg):Prop where
  vt:w.heap[b]? = some (VtB q lv)
  ms:MsAt T w lv ms
  st:StoreAt F w q p X
  lg:LgAt FL w lb L.shs.length L
  lay:Lay w
  out:¬ F b∧¬ FL b∧¬ T b∧10≤b
  apart:∀ g,F g→¬ FL g
  apartT:∀ g,T g→¬ F g∧¬ FL g
  low:∀ g,F g→10≤g∧g < w.heap.size
  lowL:∀ g,FL g→g < w.heap.size
  lowT:∀ g,T g→g < w.heap.size
theorem Bk.p32 {X:Dk} {ms:List Mf} (h:Bk X ms):∀ m ∈ ms,pts32 m.parts∧m.parts.length≤10000:=fun m hm=>by
  obtain ⟨i,hi,rfl⟩:=List.getElem_of_mem hm
  have ok:=(h.ok i _ (List.getElem?_eq_getElem hi)).1
  exact ⟨fun p hp=>(zbz _ _ ok.parts p hp).2.2.2.2,by have:=ok.many;omega⟩
theorem Bk.last0 {X:Dk} {ms:List Mf} (h:Bk X ms):(lastM ms).trim=0:=by
  by_cases hne:ms = []
  · subst hne;rfl
  · refine h.trim _ ?_
    unfold lastM
    rw [List.getLast?_eq_some_getLast hne]
    exact List.getLast_mem hne
theorem zlc {F FL T:Nat→Prop} {b lb q p:Nat} {lv:Value} {ms:List Mf} {X:Dk} {L:Lg} (w:World) (h:VsSt F FL T w b lb q p lv ms X L) (hbk:Bk X ms) (hba:Bare X ms) (hl:Log1 L) (lo:Nat) (hlo:lo=endM ms) (n:Int) (hn:¬ ((lo:Int) < n∧n≤L.next)) :
    Calls Tryz.prog 23 #[.pointer (some ⟨b,0,none⟩),.pointer (some ⟨lb,0,none⟩),.int .i64 n] w fun e w'=>e = .returned (.tuple #[.pointer none,.iface 55 (.int .i64 1)])∧Keep Non w w':=by
  have LD:=zz0 (zfl F b lb q p lv X w h.vt h.st hbk.free.1 hba.cur)
  have TL:=zz0 (fun W (k:Keep Non w W)=>zee W (h.lg.keepNon k) hl.se)
  have CH:=zz0 (fun W (k:Keep Non w W)=>zbC T b q lv ms W (nonAt k h.vt) (h.ms.keepNon k) hbk.p32 (by have:=hbk.few;omega))
  have EN:Hid (∀ W v (T':Nat→Prop),MsAt T' W v ms→Calls Tryz.prog 66 #[v] W fun e w'=>e = .returned (.int .i64 lo)∧Keep Non W w'):=zz0 (fun W v T' y=>by rw [hlo];exact zcG T' v ms W y (by have:=hbk.few;omega))
  clear h hbk hba hl hlo
  go_enter Tryz.func23,Tryz.ntmps23
  go_wp2_with (first
    | (go_at_call 64;((with_reducible refine LD.out.mono ?_);rintro e w1 ⟨rfl,k1⟩);have K1:=zz0 (k1.alloc CuZ);clear k1)
    | (go_at_call 65;refine (TL.out _ K1.out).mono ?_;rintro e w2 ⟨rfl,k2⟩;have K2:=zz0 (K1.out.trans1 k2);clear k2)
    | (go_at_call 10;refine (CH.out _ K2.out).mono ?_;rintro e w3 ⟨v3,rfl,k3,m3⟩;have M3:=zz0 m3;clear m3;have K3:=zz0 (K2.out.trans1 k3);clear k3)
    | (go_at_call 66;refine (EN.out _ v3 _ M3.out).mono ?_;rintro e w4 ⟨rfl,k4⟩;have K4:=zz0 (K3.out.trans1 k4);clear k4))
  all_goals
    go_ret2
    exact ⟨rfl,K4.out⟩
theorem zld {F FL T:Nat→Prop} {b lb q p:Nat} {lv:Value} {ms:List Mf} {X:Dk} {L:Lg} (w:World) (h:VsSt F FL T w b lb q p lv ms X L) (hbk:Bk X ms) (hba:Bare X ms) (hl:Log1 L) (hlow:∀ s ∈ L.shs,s.l=0) (lo n:Nat) (hlo:lo=endM ms) (h0:lo < n) (hn:n≤L.next) (code:Int) (hcd:(X.sput cname (cuBy (cuN lo n))).1=code) :
    Calls Tryz.prog 23 #[.pointer (some ⟨b,0,none⟩),.pointer (some ⟨lb,0,none⟩),.int .i64 n] w fun e w'=>∃ x,(code=0→e = .returned (.tuple #[.pointer (some ⟨x,0,none⟩),.nilIface]))∧(code≠0→e = .returned (.tuple #[.pointer none,.iface 55 (.int .i64 code)]))∧Keep F w w'∧∃ F',Sub F' F w∧(∀ g,F' g→g < w'.heap.size)∧StoreAt F' w' q p (X.sput cname (cuBy (cuN lo n))).2∧(code=0→w.heap.size≤x∧¬ F' x∧w'.heap[x]? = some (ExB b lb (cuN lo n) (.slice none 0 0) false)):=by
  have LD:=zz0 (zfl F b lb q p lv X w h.vt h.st hbk.free.1 hba.cur)
  have TL:=zz0 (fun W (k:Keep Non w W)=>zee W (h.lg.keepNon k) hl.se)
  have CH:=zz0 (fun W (k:Keep Non w W)=>zbC T b q lv ms W (nonAt k h.vt) (h.ms.keepNon k) hbk.p32 (by have:=hbk.few;omega))
  have EN:Hid (∀ W v (T':Nat→Prop),MsAt T' W v ms→Calls Tryz.prog 66 #[v] W fun e w'=>e = .returned (.int .i64 lo)∧Keep Non W w'):=zz0 (fun W v T' y=>by rw [hlo];exact zcG T' v ms W y (by have:=hbk.few;omega))
  have MK:Hid (∀ W v (T':Nat→Prop),MsAt T' W v ms→Calls Tryz.prog 68 #[v] W fun e w'=>e = .returned (.int .i64 0)∧Keep Non W w'):=zz0 (fun W v T' y=>by have:=zcI T' v ms W y (by have:=hbk.few;omega);rw [hbk.last0] at this;exact this)
  have LO:Hid (∀ W,Keep Non w W→Calls Tryz.prog 67 #[.pointer (some ⟨lb,0,none⟩)] W fun e w'=>e = .returned (.int .i64 0)∧Keep Non W w'):=zz0 (fun W k=>zpU W (h.lg.keepNon k) (by have:=hl.kd;omega) (by have:=hl.kd;omega) rfl hlow)
  have ST:=zz0 (fun W (k:Keep Non w W)=>zch b q lv W (nonAt k h.vt))
  have hn200:n≤200:=by have:=hl.next;omega
  have hfew:=hbk.few
  obtain ⟨Z,hZ⟩:∃ Z,Z=(X.sput cname (cuBy (cuN lo n))).2:=⟨_,rfl⟩
  have SV:Hid (∀ W,Keep Non w W→Calls Tryz.prog 69 #[.pointer (some ⟨q,0,none⟩),.string ⟨cname.toArray⟩,cuV (cuN lo n) (.slice none 0 0)] W fun e w'=>e = .returned (errv code)∧StoreTo F W q p Z w'):=zz0 (fun W k=>by
    rw [← hcd,hZ]
    have hp:PtsAt W (.slice none 0 0) (cuN lo n).parts:=PtsAt.of (B:=0) (World.ownsRow_nil _ _ _ _) (fun p hp=>by cases hp)
    exact zcj F q p (cuN lo n) (.slice none 0 0) cname X _ _ _ W (h.st.keep k (fun _ _ e=>e)) hba.lim (by omega) (by omega) (by omega) (fun g y=>k.lt (h.low g y).2) zbf (zjO (lo:=lo) (hi:=n) (by omega) hn200) hp (by have:=zbt (zjO (lo:=lo) (hi:=n) (by omega) hn200);omega))
  rw [← hZ]
  have HF:Hid (∀ g,F g→g < w.heap.size):=zz0 (fun g y=>(h.low g y).2)
  have hlo200:lo≤200:=by omega
  clear h hbk hba hl hcd hZ hlow hlo
  unfold cuV cuN cname at SV
  unfold cuN
  dsimp only at SV
  rw [show ((0:Nat):Int)=0 from rfl] at SV
  have ha:¬ (n:Int)≤(lo:Int):=by omega
  have hb:¬ (L.next:Int) < (n:Int):=by omega
  have hc:¬ (65536:Int) < ((n:Int) - (lo:Int)):=by omega
  have hwr:IntKind.wrap .i64 ((n:Int) - (lo:Int))=(n:Int) - (lo:Int):=IntWalk.i64_in _ (by omega)
  go_enter Tryz.func23,Tryz.ntmps23
  go_wp2_with (first
    | (go_at_call 64;((with_reducible refine LD.out.mono ?_);rintro e w1 ⟨rfl,k1⟩);have K1:=zz0 (k1.alloc CuZ);clear k1)
    | (go_at_call 65;refine (TL.out _ K1.out).mono ?_;rintro e w2 ⟨rfl,k2⟩;have K2:=zz0 (K1.out.trans1 k2);clear k2)
    | (go_at_call 10;refine (CH.out _ K2.out).mono ?_;rintro e w3 ⟨v3,rfl,k3,m3⟩;have M3:=zz0 m3;clear m3;have K3:=zz0 (K2.out.trans1 k3);clear k3)
    | (go_at_call 66;refine (EN.out _ v3 _ M3.out).mono ?_;rintro e w4 ⟨rfl,k4⟩;have M4:=zz0 (M3.out.keepNon k4);have K4:=zz0 (K3.out.trans1 k4);clear k4)
    | (go_at_call 67;refine (LO.out _ K4.out).mono ?_;rintro e w5 ⟨rfl,k5⟩;have M5:=zz0 (M4.out.keepNon k5);have K5:=zz0 (K4.out.trans1 k5);clear k5)
    | (go_at_call 68;refine (MK.out _ v3 _ M5.out).mono ?_;rintro e w6 ⟨rfl,k6⟩;have K6:=zz0 (K5.out.trans1 k6);clear k6))
  have K7:Hid (Keep Non w (w6.alloc (.cells #[.int .i64 lo,.int .i64 lo,.int .i64 n,.int .i64 0,.slice none 0 0] 139)).drew):=zz0 (K6.out.alloc _).drew
  have B7:Hid ((w6.alloc (.cells #[.int .i64 lo,.int .i64 lo,.int .i64 n,.int .i64 0,.slice none 0 0] 139)).drew.heap[w6.heap.size]? = some (.cells #[.int .i64 lo,.int .i64 lo,.int .i64 n,.int .i64 0,.slice none 0 0] 139 (0,0))):=zz0 (zab w6 _)
  have STW:=zz0 (ST.out _ K7.out)
  have SVW:=zz0 (SV.out _ K7.out)
  go_region_law (go_simp;first
    | (go_at_call 8;((with_reducible refine STW.out.mono ?_);rintro e w8 ⟨rfl,rfl⟩))
    | (go_at_call 69;((with_reducible refine SVW.out.mono ?_);rintro e w9 ⟨rfl,t9⟩)))
  all_goals
    obtain ⟨k9,F',s9,d9⟩:=t9
    have b9:=k9.at B7.out (fun y=>by have:=HF.out _ y;have:=K6.out.size;omega)
    have y0:w9.cell? ⟨w6.heap.size,0,none⟩=some (.int .i64 lo):=by simp [World.cell?,b9]
    have y1:w9.cell? ⟨w6.heap.size,1,none⟩=some (.int .i64 lo):=by simp [World.cell?,b9]
    have y2:w9.cell? ⟨w6.heap.size,2,none⟩=some (.int .i64 n):=by simp [World.cell?,b9]
    have y3:w9.cell? ⟨w6.heap.size,3,none⟩=some (.int .i64 0):=by simp [World.cell?,b9]
    have y4:w9.cell? ⟨w6.heap.size,4,none⟩=some (.slice none 0 0):=by simp [World.cell?,b9]
    have KF:Hid (Keep F w w9):=zz0 (K7.out.ofNon.trans k9 (fun _ _ y=>y) (fun _ _ y=>y))
    have S9:Hid (Sub F' F w):=zz0 (fun g y=>by
      rcases s9 g y with u | u
      · exact .inl u
      · exact .inr (Nat.le_trans K7.out.size u))
    have D9:=zz0 d9
    clear k9 s9 d9 b9
    by_cases h0c:code=0
    · rw [zbe h0c]
      go_wp2_with fail
      go_ret2
      have ka:Keep Non w9 (w9.alloc (ExB b lb ⟨lo,lo,n,0,[]⟩ (.slice none 0 0) false)):=(Keep.refl _ _).alloc _
      exact ⟨w9.heap.size,fun _=>rfl,fun e=>absurd h0c e,KF.out.trans1 ka.ofNon,fun g=>F' g∧g < w9.heap.size,fun g y=>S9.out g y.1,fun g y=>ka.lt y.2,D9.out.low.keep ka (fun _ _ e=>e),fun _=>⟨KF.out.size,fun y=>by have:=y.2;omega,zab w9 _⟩⟩
    · rw [zaU h0c]
      go_wp2_with fail
      go_ret2
      exact ⟨0,fun e=>absurd e h0c,fun _=>rfl,KF.out,fun g=>F' g∧g < w9.heap.size,fun g y=>S9.out g y.1,fun g y=>y.2,D9.out.low,fun e=>absurd e h0c⟩
theorem zg0 (T:Nat→Prop) (ms:List Mf) (a:Option Addr) (c lo trim:Nat) (pv:Value) (ps:List Pt) (w:World) (h:MsAt T w (.slice a ms.length c) ms) (hlen:ms.length < 90) (och:okCh ms) (hlo:lo=endM ms) (htr0:(lastM ms).trim≤trim) (hK:Kon w) (hF:Frs w) (hp:PtsAt w pv ps) (h32:pts32 ps) (h64:ps.length≤64) (hok:okPts lo ps) (hhi:endPts lo ps≤1048576) (htr:trim≤1048576) :
    Calls Tryz.prog 198 #[.slice a ms.length c,.int .i64 lo,.int .i64 trim,pv] w fun e w'=>∃ v',e = .returned (.tuple #[mfV (nxM ms.length lo (endPts lo ps) trim (aheadD ms) ps) v',.nilIface])∧Keep Non w w'∧w'.ownsRow w.heap.size 106 35 v' ps.length (ptsC ps):=by
  by_cases hne:ms = []
  · subst hne
    exact ziD a c lo trim pv ps w hp h32 h64 hok hhi htr
  · have e:aheadD ms=digM (lastM ms):=by unfold aheadD;rw [if_neg hne]
    rw [e]
    exact ziC T ms a c lo trim pv ps w h hne hlen och hlo htr0 hK hF hp h32 h64 hok hhi htr
theorem MsAt.lowN {T:Nat→Prop} {w:World} {v:Value} {ms:List Mf} (h:MsAt T w v ms) (hne:∀ m ∈ ms,0 < m.parts.length∧pts32 m.parts) (h0:ms≠[]):MsAt (fun g=>T g∧g < w.heap.size) w v ms:=by
  obtain ⟨a,c,e,hc,ha,hx⟩:=h
  refine ⟨a,c,e,hc,fun ad ead=>?_,fun j m hj=>?_⟩
  · have hl:0 < ms.length:=List.length_pos_iff.2 h0
    obtain ⟨hp,g,off,pa,pc,e2,hpt,hT,hcell⟩:=hx 0 ms[0] (List.getElem?_eq_getElem hl)
    have hg:g < w.heap.size:=ze7 (hcell 36 _ (ze9 _ _ hp))
    rw [e2] at ead
    injection ead with ead
    subst ead
    obtain ⟨g',off',e3,t⟩:=ha ⟨g,off,none⟩ e2
    injection e3 with e3 e4
    subst e3
    subst e4
    exact ⟨g,off,rfl,t,hg⟩
  · obtain ⟨hp,g,off,pa,pc,e2,hpt,hT,hcell⟩:=hx j m hj
    obtain ⟨hpos,h32⟩:=hne m (List.mem_of_getElem? hj)
    refine ⟨hp,g,off,pa,pc,e2,hpt,fun g' eg=>⟨hT g' eg,?_⟩,hcell⟩
    obtain ⟨a1,c1,e3,_,_,hy⟩:=hpt
    injection e3 with e3 _ e4
    subst e3
    obtain ⟨g1,o1,e5,hc1⟩:=hy 0 m.parts[0] (List.getElem?_eq_getElem hpos)
    subst e5
    have hl:(ptC m.parts[0]).length=35:=zbq (h32 _ (List.getElem_mem _))
    have hb:g1 < w.heap.size:=ze7 (hc1 34 _ (List.getElem?_eq_getElem (by omega)))
    have:g1=g':=by
      simp [Value.ownBlock] at eg
      omega
    rw [← this]
    exact hb
def SmOut (F FL TL:Nat→Prop) (w:World) (x b lb q p:Nat) (ms:List Mf) (c:Cu) (pv:Value) (Z:Dk) (L:Lg) (w':World):Prop :=
  ∃ F2 la lc T,Sub F2 F w∧Keep (fun g=>F g∨g=x∨g=b) w w'∧ExSt F2 FL w' x b lb q p (.slice la (ms.length+1) lc) c pv true Z L∧MsAt T w' (.slice la (ms.length+1) lc) (ms ++ [exN ms c])∧∀ g,T g→¬ F2 g∧g≠b∧g≠x∧g < w'.heap.size∧(TL g∨w.heap.size≤g)
section
attribute [local go_sem ↓] hV84 hV106 hV87 hW84 hW106 hW87 hB106 hB87
theorem zjc {F FL TL:Nat→Prop} {x b lb q p:Nat} {la:Option Addr} {lc:Nat} {ms:List Mf} {c:Cu} {pv:Value} {X:Dk} {L:Lg} (w:World) (h:ExSt F FL w x b lb q p (.slice la ms.length lc) c pv false X L) (hms:MsAt TL w (.slice la ms.length lc) ms) (hTL:∀ g,TL g→¬ F g∧g≠b∧g≠x∧g < w.heap.size) (hi:SInv L X ms c) (hd:c.next=c.hi) :
    Calls Tryz.prog 137 #[.pointer (some ⟨x,0,none⟩)] w fun e w'=>e = .returned .nilIface∧SmOut F FL TL w x b lb q p ms c pv ((putX X (titleN ms.length) (mfBy (exN ms c))).sdel cname).2 L w':=by
  have H:=zz0 h
  have HI:=zz0 hi
  have h4:=hi.few4
  have hfw:=hi.few
  have hok:=zj8 hi hd
  obtain ⟨hcd0,hlim0,hfol0,hch,hdel0,hbk0,-⟩:=zdR hi hd
  obtain ⟨m,hm⟩:∃ m,m=exN ms c:=⟨_,rfl⟩
  obtain ⟨Y,hY⟩:∃ Y,Y=putX X (titleN ms.length) (mfBy (exN ms c)):=⟨_,rfl⟩
  have hm':nxM ms.length c.lo (endPts c.lo c.parts) c.trim (aheadD ms) c.parts=m:=by rw [hm,exN,hi.trim,hok.2]
  have hmp:m.parts=c.parts:=by rw [hm];rfl
  have hln:=zj7 hi hd
  have OKM:=zz0 hok.1
  rw [← hY] at hcd0 hlim0 hdel0
  rw [← hY]
  rw [← hm] at OKM hln hcd0 hfol0
  have hmild:Y.mild:=hlim0.mild (by omega) (by omega) (by omega)
  have hmap:IsMap Y.shown:=hlim0.map
  have hdel:=hdel0
  have hcd:=hcd0
  have HNE:Hid (∀ y ∈ ms ++ [m],0 < y.parts.length∧pts32 y.parts):=zz0 (fun y hy=>by
    rcases List.mem_append.1 hy with u | u
    · exact ⟨List.length_pos_iff.2 (hi.bk.four y u).2,(hi.bk.p32 y u).1⟩
    · rw [List.mem_singleton.1 u,hmp]
      exact ⟨by have:=hi.stand;have:=hi.pos;omega,hi.ok.p32⟩)
  have M32:Hid (m.prev.length=32):=zz0 OKM.out.prev
  have P32:Hid (pts32 m.parts):=zz0 (by rw [hmp];exact hi.ok.p32)
  have NX0:Hid (∀ W va vc T' v,Keep Non w W→MsAt T' W (.slice va ms.length vc) ms→PtsAt W v c.parts→Calls Tryz.prog 198 #[.slice va ms.length vc,.int .i64 c.lo,.int .i64 c.trim,v] W fun e w'=>∃ v',e = .returned (.tuple #[mfV m v',.nilIface])∧Keep Non W w'∧w'.ownsRow W.heap.size 106 35 v' m.parts.length (ptsC m.parts)):=zz0 (fun W va vc T' v k hq hv=>by
    have:=zg0 T' ms va vc c.lo c.trim v c.parts W hq (by omega) hi.bk.ok hi.lo (by rw [hi.bk.last0];exact Nat.zero_le _) (H.out.lay.keepNon k).kon (H.out.lay.keepNon k).frs hv hi.ok.p32 (by omega) hi.ok.parts (by rw [hi.ok.stop];have:=hi.ok.le;have:=hi.ok.hi;omega) hi.ok.trim
    rw [hm',← hmp] at this
    exact this)
  have CM0:Hid (∀ W v,Keep Non w W→PtsAt W v m.parts→Calls Tryz.prog 199 #[.pointer (some ⟨b,0,none⟩),mfV m v] W fun e w'=>e = .returned .nilIface∧Keep (fun g=>F g∨g=b) W w'∧∃ v3 T F',Sub F' F W∧¬ F' b∧(∀ g,T g→¬ F' g∧g≠b∧(TL g∨W.heap.size≤g))∧MsAt T w' v3 (ms ++ [m])∧StoreAt F' w' q p Y∧w'.heap[b]? = some (VtB q v3)):=zz0 (fun W v k hv=>by
    have hnum:m.num=ms.length:=by rw [hm];rfl
    have:=zlJ F TL b q p ms la lc m v X _ _ _ W (nonAt k H.out.vt) (hms.keepNon k) (fun g y=>⟨(hTL g y).1,(hTL g y).2.1,k.lt (hTL g y).2.2.2⟩) (H.out.st.keep k (fun _ _ e=>e)) (fun g y=>⟨(H.out.low g y).1,k.lt (H.out.low g y).2⟩) H.out.out.2.1 hi.lim (by omega) (by omega) (by omega) hi.bk.free.1 (H.out.lay.keepNon k) hv OKM.out hnum (by omega) hi.bk.ok hfol0 (by rw [hmp];omega) P32.out (by rw [hmp];exact hi.segs) (by omega) (by rw [hcd])
    rw [hcd] at this
    exact this)
  have CH:Hid (∀ W,Keep Non w W→Calls Tryz.prog 10 #[.pointer (some ⟨b,0,none⟩)] W fun e w'=>∃ va vc,e = .returned (.slice va ms.length vc)∧Keep Non W w'∧MsAt (fun g=>W.heap.size≤g∧g < w'.heap.size) w' (.slice va ms.length vc) ms):=zz0 (fun W k=>by
    refine (zbC TL b q _ ms W (nonAt k H.out.vt) (hms.keepNon k) hi.bk.p32 (by omega)).mono ?_
    rintro e w' ⟨v',rfl,k',hq⟩
    obtain ⟨va,vc,rfl,_⟩:=id hq
    exact ⟨va,vc,rfl,k',hq⟩)
  obtain ⟨pa,pc,rfl,_,_⟩:=zaa h.row
  have NX:Hid (∀ W va vc T',Keep Non w W→MsAt T' W (.slice va ms.length vc) ms→Calls Tryz.prog 198 #[.slice va ms.length vc,.int .i64 c.lo,.int .i64 c.trim,.slice pa c.parts.length pc] W fun e w'=>∃ v',e = .returned (.tuple #[mfV m v',.nilIface])∧Keep Non W w'∧w'.ownsRow W.heap.size 106 35 v' m.parts.length (ptsC m.parts)):=zz0 (fun W va vc T' k hq=>NX0.out W va vc T' _ k hq (PtsAt.of (zac H.out.row k (fun _ _ e=>e)) HI.out.ok.p32))
  have LSw:Hid (∀ W,Keep Non w W→W.cell? ⟨x,0,none⟩=some (.pointer (some ⟨b,0,none⟩))∧W.cell? ⟨x,2,none⟩=some (.int .i64 c.lo)∧W.cell? ⟨x,5,none⟩=some (.int .i64 c.trim)∧W.cell? ⟨x,6,none⟩=some (.slice pa c.parts.length pc)):=zz0 (fun W k=>by
    have hxx:=nonAt k H.out.ex
    exact ⟨ex_0 hxx,ex_2 hxx,ex_5 hxx,ex_6 hxx⟩)
  obtain ⟨WX,hWX⟩:∃ WX,WX=w.drew:=⟨_,rfl⟩
  have KX:Hid (Keep Non w WX):=zz0 (by rw [hWX];exact (Keep.refl _ _).drew)
  have HW:Hid (w.drew=WX):=zz0 hWX.symm
  have LS:=zz0 (fun W (k:Keep Non WX W)=>LSw.out W (KX.out.trans1 k))
  have LS1:=zz0 (LSw.out w.drew (Keep.refl _ _).drew)
  have LZ:Hid (WX.heap.size≤WX.heap.size):=zz0 (Nat.le_refl _)
  have CH:=zz0 (fun W (k:Keep Non WX W)=>CH.out W (KX.out.trans1 k))
  have NX:=zz0 (fun W va vc T' (k:Keep Non WX W) hq=>NX.out W va vc T' (KX.out.trans1 k) hq)
  have HMP:Hid (m.parts=c.parts):=zz0 hmp
  have HMX:Hid (m=exN ms c):=zz0 hm
  have HTL:=zz0 hTL
  have HDEL:Hid ((Y.sdel cname).1=0):=zz0 hdel
  have CL0:Hid (∀ W F',StoreAt F' W q p Y→Calls Tryz.prog 73 #[.pointer (some ⟨q,0,none⟩),.string ⟨cname.toArray⟩] W fun e w'=>e = .returned .nilIface∧StoreTo F' W q p (Y.sdel cname).2 w'):=zz0 (fun W F' d=>by
    refine (zdX F' q p cname Y W d hmild hmap zbf).mono ?_
    rintro e w' ⟨rfl,t⟩
    rw [hdel]
    exact ⟨rfl,t⟩)
  clear h hi hm hm' hok hln hWX LSw NX0 hmp hcd hmild hmap hdel hcd0 hlim0 hfol0 hdel0 hbk0 hch hY hms hTL
  go_enter Tryz.func137,Tryz.ntmps137
  go_wp2_with fail
  refine (fun (FIN:Hid ?T)=>?main) (zz0 ?fin)
  case' main=>refine wp_region_noPanic ?_
  refine wp_region_held_drew (S:=fun W=>W.cell? ⟨x,0,none⟩=some (.pointer (some ⟨b,0,none⟩))∧W.cell? ⟨x,2,none⟩=some (.int .i64 c.lo)∧W.cell? ⟨x,5,none⟩=some (.int .i64 c.trim)∧W.cell? ⟨x,6,none⟩=some (.slice pa c.parts.length pc)) (by as_aux_lemma=>kernel_rfl) LS1.out (fun hHeld=>?_)
  refine tq 0 ?_;refine tq 1 ?_;refine tq 2 ?_;refine tq 3 ?_;refine tq 5 ?_;refine tq 6 ?_;refine tq 7 ?_;refine tq 8 ?_;refine tq 9 ?_;refine tq 10 ?_;refine tq 11 ?_;refine tq 12 ?_;refine tq 13 ?_;refine tq 14 ?_;refine tq 15 ?_;refine tq 16 ?_;refine tq 17 ?_;refine tq 18 ?_;refine tq 19 ?_
  rw [HW.out]
  clear hHeld
  have hHeld:=LS.out WX (Keep.refl _ _)
  refine wpAnyH_ready (rs:=[4,24]) (by as_aux_lemma=>kernel_rfl) (by simp) ?_
  refine AllReadyH.cons (by simp only [List.getElem?_toArray,List.getElem?_cons_succ,List.getElem?_cons_zero];rfl) (fun K hK=>?arm20_4) (AllReadyH.cons (by simp only [List.getElem?_toArray,List.getElem?_cons_succ,List.getElem?_cons_zero];rfl) (fun K hK=>?arm20_24) AllReadyH.nil)
  case' arm20_4 =>
    go_simp
    refine (CH.out WX (Keep.refl Non WX)).mono ?_
    rintro e w21 ⟨va21,vc21,rfl,t21,m21⟩
    have M21:=zz0 m21
    clear m21
    have k21:=zz0 (((Keep.refl Non WX)).trans1 t21)
    clear t21
    go_wp2_with fail
    refine hK.out _ _ (LS.out w21 k21.out) (fun hHeld21=>?_)
    clear hK K
    try simp only [Act.put,List.setIfInBounds_toArray,List.set_cons_zero,List.set_cons_succ]
    refine wpAnyH_ready (rs:=[20,24]) (by as_aux_lemma=>kernel_rfl) (by simp) ?_
    refine AllReadyH.cons (by simp only [List.getElem?_toArray,List.getElem?_cons_succ,List.getElem?_cons_zero];rfl) (fun K hK=>?arm22_20) (AllReadyH.cons (by simp only [List.getElem?_toArray,List.getElem?_cons_succ,List.getElem?_cons_zero];rfl) (fun K hK=>?arm22_24) AllReadyH.nil)
    case' arm22_20 =>
      go_simp
      refine (NX.out w21 va21 vc21 _ k21.out M21.out).mono ?_
      rintro e w23 ⟨v6,rfl,t23,o23⟩
      obtain ⟨a6,c6,rfl⟩:∃ a c',v6 = .slice a m.parts.length c':=by obtain ⟨a,c',e,_,_⟩:=zaa o23;exact ⟨a,c',e⟩
      have k23:=zz0 ((k21.out).trans1 t23)
      have O23:=zz0 o23
      clear t23 o23
      go_wp2_with fail
      refine hK.out _ _ (LS.out w23 k23.out) (fun hHeld23=>?_)
      clear hK K
      try simp only [Act.put,List.setIfInBounds_toArray,List.set_cons_zero,List.set_cons_succ]
      refine tq 21 ?_;refine tq 22 ?_;refine tq 23 ?_
      refine rc (i:=24) (fun K hK=>?_)
      go_simp
      have hst:=zaF w23 m a6 m.parts.length c6 M32.out
      dsimp only [zMf,MfB] at hst
      have E:=zz0 (zn0 (m:=m) k23.out O23.out (k21.out).size)
      refine hK.out _ _ (LS.out _ ((k23.out).alloc _)) (fun hHeld27=>?_)
      clear hK K
      try simp only [Act.put,List.setIfInBounds_toArray,List.set_cons_zero,List.set_cons_succ]
      refine rc (i:=25) (fun K hK=>?_)
      go_simp
      refine hK.out _ _ (LS.out _ ((k23.out).alloc _)) (fun hHeld28=>?_)
      clear hK K
      try simp only [Act.put,List.setIfInBounds_toArray,List.set_cons_zero,List.set_cons_succ]
      refine tq 26 ?_
      refine wpAnyH_done (by as_aux_lemma=>kernel_rfl) ?_ _
      refine NoPanic.normal ?_
      have e0:=E.out
      dsimp only [MfB] at e0
      generalize (w23.alloc _)=W5 at e0 ⊢
      generalize w23.heap.size=nb at e0 ⊢
      have E6:=zz0 e0
      try clear hst
      clear e0 E
      clear O23
      try clear hHeld21
      try clear hHeld23
      try clear hHeld27
      try clear hHeld28
      clear M21
      revert va21 vc21 a6 c6 W5 nb
      exact FIN.out
    case' arm22_24 =>
      go_simp
      have k30:Hid (Keep Non WX (w21.alloc (.cells zMf 87))):=zz0 ((k21.out).alloc _)
      have z30:Hid ((w21.alloc (.cells zMf 87)).heap[w21.heap.size]? = some (.cells zMf 87 (0,0))):=zz0 (zab w21 _)
      have y30:Hid (WX.heap.size≤w21.heap.size):=zz0 ((k21.out).size)
      have l30:Hid (w21.heap.size < (w21.alloc (.cells zMf 87)).heap.size):=zz0 (lt_of_block z30.out)
      have M30:=zz0 ((M21.out).keepNon ((Keep.refl Non w21).alloc (.cells zMf 87)))
      obtain ⟨v30,hv30⟩:∃ v30,v30=w21.alloc (.cells zMf 87):=⟨_,rfl⟩
      rw [← hv30] at k30 z30 l30 M30
      dsimp only [zMf] at hv30
      try rw [← hv30]
      clear hv30
      refine hK.out _ _ (LS.out v30 k30.out) (fun hHeld30=>?_)
      clear hK K
      try simp only [Act.put,List.setIfInBounds_toArray,List.set_cons_zero,List.set_cons_succ]
      refine rc (i:=20) (fun K hK=>?_)
      go_simp
      refine (NX.out v30 va21 vc21 _ k30.out M30.out).mono ?_
      rintro e w31 ⟨v6,rfl,t31,o31⟩
      obtain ⟨a6,c6,rfl⟩:∃ a c',v6 = .slice a m.parts.length c':=by obtain ⟨a,c',e,_,_⟩:=zaa o31;exact ⟨a,c',e⟩
      have k31:=zz0 ((k30.out).trans1 t31)
      have O31:=zz0 o31
      have z31:=zz0 (nonAt t31 z30.out)
      clear t31 o31
      go_wp2_with fail
      refine hK.out _ _ (LS.out w31 k31.out) (fun hHeld31=>?_)
      clear hK K
      try simp only [Act.put,List.setIfInBounds_toArray,List.set_cons_zero,List.set_cons_succ]
      refine tq 21 ?_;refine tq 22 ?_;refine tq 23 ?_
      refine rc (i:=25) (fun K hK=>?_)
      have hst:=zaT w31 w21.heap.size m a6 m.parts.length c6 zMf M32.out rfl z31.out
      have E:=zz0 (zjK (m:=m) k31.out z31.out y30.out O31.out l30.out)
      go_simp
      refine hK.out _ _ (LS.out _ E.out.kp) (fun hHeld35=>?_)
      clear hK K
      try simp only [Act.put,List.setIfInBounds_toArray,List.set_cons_zero,List.set_cons_succ]
      refine tq 26 ?_
      refine wpAnyH_done (by as_aux_lemma=>kernel_rfl) ?_ _
      refine NoPanic.normal ?_
      have e0:=E.out
      generalize (w31.setRow _ _)=W5 at e0 ⊢
      generalize w21.heap.size=nb at e0 ⊢
      have E6:=zz0 e0
      try clear hst
      clear e0 E
      clear O31
      try clear hHeld21
      try clear hHeld30
      try clear hHeld31
      try clear hHeld35
      clear M21 M30
      revert va21 vc21 a6 c6 W5 nb
      exact FIN.out
  case' arm20_24 =>
    go_simp
    have k37:Hid (Keep Non WX (WX.alloc (.cells zMf 87))):=zz0 (((Keep.refl Non WX)).alloc _)
    have z37:Hid ((WX.alloc (.cells zMf 87)).heap[WX.heap.size]? = some (.cells zMf 87 (0,0))):=zz0 (zab WX _)
    have y37:Hid (WX.heap.size≤WX.heap.size):=zz0 (((Keep.refl Non WX)).size)
    have l37:Hid (WX.heap.size < (WX.alloc (.cells zMf 87)).heap.size):=zz0 (lt_of_block z37.out)
    obtain ⟨v37,hv37⟩:∃ v37,v37=WX.alloc (.cells zMf 87):=⟨_,rfl⟩
    rw [← hv37] at k37 z37 l37
    dsimp only [zMf] at hv37
    try rw [← hv37]
    clear hv37
    refine hK.out _ _ (LS.out v37 k37.out) (fun hHeld37=>?_)
    clear hK K
    try simp only [Act.put,List.setIfInBounds_toArray,List.set_cons_zero,List.set_cons_succ]
    refine rc (i:=4) (fun K hK=>?_)
    go_simp
    refine (CH.out v37 k37.out).mono ?_
    rintro e w38 ⟨va38,vc38,rfl,t38,m38⟩
    have M38:=zz0 m38
    clear m38
    have k38:=zz0 ((k37.out).trans1 t38)
    have z38:=zz0 (nonAt t38 z37.out)
    have l38:=zz0 (Nat.lt_of_lt_of_le (l37.out) t38.size)
    clear t38
    go_wp2_with fail
    refine hK.out _ _ (LS.out w38 k38.out) (fun hHeld38=>?_)
    clear hK K
    try simp only [Act.put,List.setIfInBounds_toArray,List.set_cons_zero,List.set_cons_succ]
    refine rc (i:=20) (fun K hK=>?_)
    go_simp
    refine (NX.out w38 va38 vc38 _ k38.out M38.out).mono ?_
    rintro e w39 ⟨v6,rfl,t39,o39⟩
    obtain ⟨a6,c6,rfl⟩:∃ a c',v6 = .slice a m.parts.length c':=by obtain ⟨a,c',e,_,_⟩:=zaa o39;exact ⟨a,c',e⟩
    have k39:=zz0 ((k38.out).trans1 t39)
    have O39:=zz0 o39
    have z39:=zz0 (nonAt t39 z38.out)
    clear t39 o39
    go_wp2_with fail
    refine hK.out _ _ (LS.out w39 k39.out) (fun hHeld39=>?_)
    clear hK K
    try simp only [Act.put,List.setIfInBounds_toArray,List.set_cons_zero,List.set_cons_succ]
    refine tq 21 ?_;refine tq 22 ?_;refine tq 23 ?_
    refine rc (i:=25) (fun K hK=>?_)
    have hst:=zaT w39 WX.heap.size m a6 m.parts.length c6 zMf M32.out rfl z39.out
    have E:=zz0 (zjK (m:=m) k39.out z39.out y37.out O39.out l38.out)
    go_simp
    refine hK.out _ _ (LS.out _ E.out.kp) (fun hHeld43=>?_)
    clear hK K
    try simp only [Act.put,List.setIfInBounds_toArray,List.set_cons_zero,List.set_cons_succ]
    refine tq 26 ?_
    refine wpAnyH_done (by as_aux_lemma=>kernel_rfl) ?_ _
    refine NoPanic.normal ?_
    have e0:=E.out
    generalize (w39.setRow _ _)=W5 at e0 ⊢
    generalize WX.heap.size=nb at e0 ⊢
    have E6:=zz0 e0
    try clear hst
    clear e0 E
    clear O39
    try clear hHeld37
    try clear hHeld38
    try clear hHeld39
    try clear hHeld43
    clear M38
    revert va38 vc38 a6 c6 W5 nb
    exact FIN.out
  intro va0 vc0 a6 c6 W5 nb E6
  go_wp2_with fail
  obtain ⟨wd,hwd⟩:∃ wd,wd=W5.drew:=⟨_,rfl⟩
  have HD:Hid (W5.drew=wd):=zz0 hwd.symm
  have K5:Hid (Keep Non W5 wd):=zz0 (by rw [hwd];exact (Keep.refl _ _).drew)
  have KWD:Hid (Keep Non w wd):=zz0 (KX.out.trans1 (E6.out.kp.trans1 K5.out))
  have hnw:w.heap.size≤nb:=Nat.le_trans KX.out.size E6.out.lo
  have hbw:b < w.heap.size:=lt_of_block H.out.vt
  have LM:Hid (∀ W,Keep (fun g=>F g∨g=b) wd W→W.cell? ⟨x,0,none⟩=some (.pointer (some ⟨b,0,none⟩))∧(holdV 87 ⟨nb,0,none⟩).run Tryz.prog W = .ok (mfV m (.slice a6 m.parts.length c6)) W):=zz0 (fun W k=>by
    have h1:=k.at (nonAt KWD.out H.out.ex) (fun e=>by rcases e with e | e;exact H.out.out.1 e;exact H.out.out.2.2.1 e)
    have h2:=k.at (nonAt K5.out E6.out.bx) (fun e=>by rcases e with e | e;(have:=(H.out.low _ e).2;omega);omega)
    exact ⟨ex_0 h1,zan h2 M32.out⟩)
  have LM0:=zz0 (LM.out wd (Keep.refl _ _))
  have LM1:Hid (W5.drew.cell? ⟨x,0,none⟩=some (.pointer (some ⟨b,0,none⟩))∧(holdV 87 ⟨nb,0,none⟩).run Tryz.prog W5.drew = .ok (mfV m (.slice a6 m.parts.length c6)) W5.drew):=zz0 (by rw [HD.out];exact LM0.out)
  have CM:=zz0 (CM0.out wd _ KWD.out (PtsAt.of (zac E6.out.row K5.out (fun _ _ e=>e)) P32.out))
  have HNW:=zz0 hnw
  have HBW:=zz0 hbw
  clear hwd CM0 hnw hbw
  refine wp_region_noPanic ?_
  refine wp_region_held_drew (S:=fun W=>W.cell? ⟨x,0,none⟩=some (.pointer (some ⟨b,0,none⟩))∧(holdV 87 ⟨nb,0,none⟩).run Tryz.prog W = .ok (mfV m (.slice a6 m.parts.length c6)) W) (by as_aux_lemma=>kernel_rfl) LM1.out (fun hHeld=>?_)
  refine tq 0 ?_;refine tq 1 ?_;refine tq 2 ?_;refine tq 3 ?_;refine tq 4 ?_
  rw [HD.out]
  clear hHeld
  have hHeld:=LM0.out
  refine rc (i:=5) (fun K hK=>?_)
  go_simp
  refine CM.out.mono ?_
  rintro e w9 ⟨rfl,t9⟩
  go_wp2_with fail
  refine hK.out _ _ (LM.out w9 t9.1) (fun hHeld50=>?_)
  clear hK K
  try simp only [Act.put,List.setIfInBounds_toArray,List.set_cons_zero,List.set_cons_succ]
  refine tq 6 ?_
  refine wpAnyH_done (by as_aux_lemma=>kernel_rfl) ?_ _
  refine NoPanic.normal ?_
  obtain ⟨k9,v3,T,F',s',nb',hT,mq,d',vb⟩:=t9
  have mq2:=mq.lowN HNE.out (by simp)
  obtain ⟨la2,lc2,rfl⟩:∃ a c',v3 = .slice a (ms.length+1) c':=by
    obtain ⟨a,c',e,_⟩:=mq2
    exact ⟨a,c',by rw [e,List.length_append];rfl⟩
  have KF:Hid (Keep (fun g=>F g∨g=b) w w9):=zz0 (KWD.out.ofNon.trans k9 (fun _ _ y=>y) (fun _ _ y=>y))
  have X9:=zz0 (KF.out.at H.out.ex (fun e=>by rcases e with e | e;exact H.out.out.1 e;exact H.out.out.2.2.1 e))
  have hxw:x < w.heap.size:=lt_of_block H.out.ex
  have hnx:¬ F' x:=fun y=>by
    rcases s' x y with u | u
    · exact H.out.out.1 u
    · have:=KWD.out.size;omega
  have kx:Keep (One x) w9 (w9.setCell ⟨x,7,none⟩ (.bool true)):=(Keep.refl _ _).setOne _ _
  have VS:=zz0 (kx.at vb (fun e=>H.out.out.2.2.1 (by have e':b=x:=e;exact e'.symm)))
  have DS:=zz0 (d'.keep kx (fun g y e=>by have e':g=x:=e;exact hnx (e' ▸ y)))
  have ST:=zz0 (zch b q (.slice la2 (ms.length+1) lc2) _ VS.out)
  have CL:=zz0 (CL0.out _ _ DS.out)
  have c0:=ex_0 X9.out
  have c0s:=ex_0 (zka X9.out true)
  have c7:=ex_7 X9.out
  have f7:=ex_f X9.out 7
  have MS:=zz0 mq2
  have SS:=zz0 (And.intro s' (And.intro nb' hT))
  have KX9:=zz0 kx
  have HNX:=zz0 (And.intro hnx hxw)
  clear k9 s' nb' hT mq mq2 d' vb hxw hnx kx CL0
  unfold cname at CL
  go_wp2_with (first
    | (go_at_call 8;refine ST.out.mono ?_;rintro e wS ⟨rfl,rfl⟩)
    | (go_at_call 73;refine CL.out.mono ?_;rintro e wE ⟨rfl,tE⟩))
  go_ret
  obtain ⟨kE,F2,s2,d2⟩:=tE
  have d2':=d2.low
  have hwd:=KWD.out.size
  have h9:=KF.out.size
  have hE:=kE.size
  have hS:=KX9.out.size
  have hF2:∀ g,F2 g→F g∨w.heap.size≤g:=fun g y=>by
    rcases s2 g y with u | u
    · rcases SS.out.1 g u with v | v
      · exact .inl v
      · exact .inr (by omega)
    · exact .inr (by omega)
  have kA:Keep (fun g=>F g∨g=x∨g=b) w (w9.setCell ⟨x,7,none⟩ (.bool true)):=KF.out.trans KX9.out (fun g _ y=>by rcases y with y | y;exact .inl y;exact .inr (.inr y)) (fun g _ y=>.inr (.inl y))
  have kB:Keep (fun g=>F g∨g=x∨g=b) w wE:=kA.trans kE (fun _ _ y=>y) (fun g hg y=>by
    rcases SS.out.1 g y with u | u
    · exact .inl u
    · omega)
  have xE:=kE.at (zka X9.out true) HNX.out.1
  have bE:=kE.at VS.out SS.out.2.1
  have hTx:∀ g,T g→g≠x:=fun g y e=>by
    rcases (SS.out.2.2 g y).2.2 with u | u
    · exact (HTL.out g u).2.2.1 e
    · have:=HNX.out.2;omega
  have msE:=(MS.out.keep KX9.out (fun g y e=>hTx g y.1 e)).keep kE (fun g y=>(SS.out.2.2 g y.1).1)
  refine ⟨rfl,fun g=>F2 g∧g < wE.heap.size,la2,lc2,fun g=>T g∧g < w9.heap.size,fun g y=>hF2 g y.1,kB,?_,by rw [← HMX.out];exact msE,fun g y=>⟨fun z=>?_,(SS.out.2.2 g y.1).2.1,hTx g y.1,by have:=y.2;omega,?_⟩⟩
  · refine ⟨xE,zac H.out.row kB (fun g e y=>?_),bE,d2',H.out.lg.keep kB (fun g e y=>?_),H.out.lay.keep kB (fun g e y=>?_),⟨fun y=>?_,fun y=>?_,H.out.out.2.2.1,H.out.out.2.2.2.1,H.out.out.2.2.2.2.1,H.out.out.2.2.2.2.2.1,H.out.out.2.2.2.2.2.2⟩,fun g y z=>?_,fun g y=>⟨?_,y.2⟩,fun g y=>Nat.lt_of_lt_of_le (H.out.lowL g y) kB.size,fun g e=>?_⟩
    · obtain ⟨h1,h2,h3,_⟩:=H.out.pvo g e
      rcases y with y | y | y
      · exact h1 y
      · exact h2 y
      · exact h3 y
    · rcases y with y | y | y
      · exact H.out.apart g y e
      · subst y;exact H.out.out.2.2.2.1 e
      · subst y;exact H.out.out.2.2.2.2.1 e
    · have hx10:=H.out.out.2.2.2.2.2.1
      have hb10:=H.out.out.2.2.2.2.2.2
      rcases y with y | y | y
      · have:=(H.out.low g y).1;omega
      · omega
      · omega
    · rcases s2 x y.1 with u | u
      · exact HNX.out.1 u
      · have:=HNX.out.2;omega
    · rcases s2 b y.1 with u | u
      · exact SS.out.2.1 u
      · have:=HBW.out;omega
    · rcases hF2 g y.1 with u | u
      · exact H.out.apart g u z
      · have:=H.out.lowL g z;omega
    · rcases hF2 g y.1 with u | u
      · exact (H.out.low g u).1
      · have:=HNX.out.2;have:=H.out.out.2.2.2.2.2.1;omega
    · obtain ⟨h1,h2,h3,h4⟩:=H.out.pvo g e
      refine ⟨fun z=>?_,h2,h3,h4⟩
      have:=(H.out.row.lt g e).2
      rcases hF2 g z.1 with u | u
      · exact h1 u
      · omega
  · rcases s2 g z.1 with u | u
    · exact (SS.out.2.2 g y.1).1 u
    · have:=y.2;omega
  · rcases (SS.out.2.2 g y.1).2.2 with u | u
    · exact .inl u
    · exact .inr (Nat.le_trans hwd u)
end
end Go.Proofs.YtnboipdpccnedaaGreatDoor
