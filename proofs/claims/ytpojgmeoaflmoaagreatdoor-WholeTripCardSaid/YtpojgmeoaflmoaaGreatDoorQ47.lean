/- export.Begin behind a chain, with marks: -/
import Derived.Test.YtpojgmeoaflmoaaGreatDoorQ36
set_option linter.unusedVariables false
set_option maxRecDepth 100000
set_option maxHeartbeats 16000000
namespace Go.Proofs.YtpojgmeoaflmoaaGreatDoor
open Go.RowKit Go.Maps
theorem TAll.cur {D:Fl}{ms:List Mf}(h:TAll D (inB ms)):zz D zx=false:=by
 cases e:zz D zx with
 |false=>rfl
 |true =>
  rcases h zx zal.2.2 e with ⟨j,_,y⟩|⟨j,i,m,_,_,y⟩
  ·exact absurd y (zdw j)
  ·exact absurd y.symm (zdy j i)
theorem zqI {F:Nat→Prop}{b n t:Nat}{L:Lg}(w:World)(h:zaH F w b n L)(h1:1≤n)(h2:n≤3)(hl:L.shs.length=n)(h0:∀s ∈ L.shs,s.l=t)(ht:t≤1048576) :
 Calls Tryz.prog 63 #[.pointer (some ⟨b,0,none⟩)] w fun r w'=>r = .returned (.int .i64 t)∧za zq2 w w':=by
 have PJ:=zz0 (zlW w h h1);have UN:=zz0 (fun W e cv (k:za zq2 w W) T (hp:PrAt T W cv n)=>zc1 T e n cv W hp h1 h2)
 have UI:Hid (∀W u,za zq2 w W→u<n→Calls Tryz.prog 114 #[.pointer (some ⟨b,0,none⟩),.int .i64 u] W fun r w'=>∃b' F' e D,r = .returned (.pointer (some ⟨b',0,none⟩))∧za zq2 W w'∧zcn F' w' b' e t D):=zz0 (fun W u k hu=>by
  have hs:L.shs[u]? = some L.shs[u]:=List.getElem?_eq_getElem (by omega)
  refine(zlX W (h.keepNon k) hs).mono ?_;rintro r w' ⟨b',F',e1,e2,e3⟩;rw[h0 _ (List.getElem_mem _)] at e3;exact⟨b',F',_,_,e1,e2,e3⟩)
 clear h h0 hl
 go_enter Tryz.func63,Tryz.ntmps63
 go_wp2_with(first
  |(go_at_call 113;refine PJ.out.mono ?_;rintro r w1 ⟨cv',rfl,k1,p1⟩;obtain⟨g3,vs3,c3',rfl,_⟩:=id p1;have K1:=zz0 k1;have UNW:=zz0 (UN.out _ L.ep _ k1 _ p1);clear k1 p1)
  |(go_at_call 23;refine UNW.out.mono ?_;rintro r w2 ⟨ug,uc,rfl,k2,hug,u2⟩;have K2:=zz0 (K1.out.trans1 k2);have U2:=zz0 u2;clear k2 u2))
 go_loopw [3,10] (fun m i wr=>∃j:Nat,j≤n∧i = .int .i64 j∧m = .int .i64 (if j=0 then 1048576 else (t:Int))∧za zq2 w2 wr) (fun _ i _=>n-(intOf i).toNat)
 case atStart=>exact⟨0,by omega,rfl,rfl,za.refl _ _⟩
 case round =>
  obtain⟨j,hj,rfl,rfl,hk⟩:=hrel;have HK:=zz0 hk;have u3:=U2.out.keepNon hk;clear hk;by_cases hlt:j<n
  ·have hlj:(j:Int)<(n:Int):=by omega
   have hcell:wr.cell? ⟨ug,j,none⟩=some (.int .i64 (j:Int)):=by
    obtain⟨a',c',e,hx⟩:=u3;injection e with e1 e2 e3
    obtain⟨g',off,e4,hc⟩:=hx (by intro e;have e':=List.map_eq_nil_iff.1 e;have e2:=congrArg List.length e';simp at e2;omega)
    rw[←e1] at e4;injection e4 with e4
    injection e4 with e4 e5
    subst e4;subst e5;have:=hc j (iv j) (by rw[List.getElem?_map,List.getElem?_range hlt];rfl)
    rwa [Nat.zero_add] at this
   have UIW:=zz0 (UI.out wr j (K2.out.trans1 HK.out) hlt);have hmin:∀x:Int,x=(if j=0 then 1048576 else (t:Int))→(t:Int)≤x∧x≤1048576:=fun x e=>by split at e<;>omega
   generalize hm:(if j=0 then (1048576:Int) else (t:Int))=m
   have hm0:=hmin m hm.symm;clear u3 hmin
   go_wp2_with(first
    |(go_at_call 114;refine UIW.out.mono ?_;rintro r w3 ⟨b',F',e,D,rfl,k3,u3⟩;have K3:=zz0 k3;have LW:=zz0 (zjQ F' b' e t D w3 u3);clear k3 u3)
    |(go_at_call 115;refine LW.out.mono ?_;rintro r w4 ⟨rfl,rfl⟩))
   refine⟨⟨j+1,by omega,by first|rfl|go_num,?_,HK.out.trans1 K3.out⟩,by simp[intOf];omega⟩
   rw[if_neg (by omega)]
   first
    |rfl
    |(congr 1;omega)
    |(congr 1;simp;omega)
    |(congr 1;split<;>omega)
  ·obtain rfl:j=n:=by omega
   have e0:(if j=0 then (1048576:Int) else (t:Int))=t:=if_neg (by omega)
   rw[e0];clear u3
   go_wp2_with fail
   go_ret;exact⟨rfl,K2.out.trans1 HK.out⟩
theorem zk2 {F FL T:Nat→Prop}{C:Nat→Cl}{b lb q p:Nat}{lv:Value}{ms:List Mf}{X:Dk}{L:Lg}(w:World)(h:VsSt F FL T w b lb q p lv ms X L)(hbk:TB C X.shown ms)(hba:TAll X.shown (inB ms))(ht:TDk X)(hl:Log1 L)(lo:Nat)(hlo:lo=zbr ms)(n:Int)(hn:¬((lo:Int)<n∧n≤L.next)) :
 Calls Tryz.prog 27 #[.pointer (some ⟨b,0,none⟩),.pointer (some ⟨lb,0,none⟩),.int .i64 n] w fun e w'=>e = .returned (.tuple #[.pointer none,.iface 89 (.int .i64 1)])∧za zq2 w w':=by
 have LD:=zz0 (zef F b lb q p lv X w h.vt h.st ht.calm.down hba.cur);have TL:=zz0 (fun W (k:za zq2 w W)=>zdO W (h.lg.keepNon k) hl.se)
 have CH:=zz0 (fun W (k:za zq2 w W)=>zar T b q lv ms W (zh k h.vt) (h.ms.keepNon k) hbk.p32 (by have:=hbk.few;omega))
 have EN:Hid (∀W v (T':Nat→Prop),zai T' W v ms→Calls Tryz.prog 8 #[v] W fun e w'=>e = .returned (.int .i64 lo)∧za zq2 W w'):=zz0 (fun W v T' y=>by rw[hlo];exact zbN T' v ms W y (by have:=hbk.few;omega))
 clear h hbk hba ht hl hlo
 go_enter Tryz.func27,Tryz.ntmps27
 go_wp2_with(first
  |(go_at_call 62;((with_reducible refine LD.out.mono ?_);rintro e w1 ⟨rfl,k1⟩);have K1:=zz0 (k1.alloc CuZ);clear k1)
  |(go_at_call 15;refine(TL.out _ K1.out).mono ?_;rintro e w2 ⟨rfl,k2⟩;have K2:=zz0 (K1.out.trans1 k2);clear k2)
  |(go_at_call 9;refine(CH.out _ K2.out).mono ?_;rintro e w3 ⟨v3,rfl,k3,m3⟩;have M3:=zz0 m3;clear m3;have K3:=zz0 (K2.out.trans1 k3);clear k3)
  |(go_at_call 8;refine(EN.out _ v3 _ M3.out).mono ?_;rintro e w4 ⟨rfl,k4⟩;have K4:=zz0 (K3.out.trans1 k4);clear k4))
 all_goals
  go_ret2;exact⟨rfl,K4.out⟩
theorem zk3 {F FL T:Nat→Prop}{C:Nat→Cl}{b lb q p:Nat}{lv:Value}{ms:List Mf}{X:Dk}{L:Lg}(w:World)(h:VsSt F FL T w b lb q p lv ms X L)(hbk:TB C X.shown ms)(hba:TAll X.shown (inB ms))(ht:TDk X)(hl:Log1 L)(t:Nat)(hlow:∀s ∈ L.shs,s.l=t)(ht2:t≤200)(mk tr:Nat)(hmk:mk=(zT ms).trim)(hmk2:mk≤200)(htr:tr=max t mk)(lo n:Nat)(hlo:lo=zbr ms)(h0:lo<n)(hn:n≤L.next)(code:Int)(hcd:(X.sput zx (zco (cuM lo n tr))).1=code) :
 Calls Tryz.prog 27 #[.pointer (some ⟨b,0,none⟩),.pointer (some ⟨lb,0,none⟩),.int .i64 n] w fun e w'=>∃x,(code=0→e = .returned (.tuple #[.pointer (some ⟨x,0,none⟩),.nilIface]))∧(code≠0→e = .returned (.tuple #[.pointer none,.iface 89 (.int .i64 code)]))∧za F w w'∧∃F',zq5 F' F w∧(∀g,F' g→g<w'.heap.size)∧zk F' w' q p (X.sput zx (zco (cuM lo n tr))).2∧(code=0→w.heap.size≤x∧¬F' x∧w'.heap[x]? = some (ExB b lb (cuM lo n tr) (.slice none 0 0) false)):=by
 have LD:=zz0 (zef F b lb q p lv X w h.vt h.st ht.calm.down hba.cur);have TL:=zz0 (fun W (k:za zq2 w W)=>zdO W (h.lg.keepNon k) hl.se)
 have CH:=zz0 (fun W (k:za zq2 w W)=>zar T b q lv ms W (zh k h.vt) (h.ms.keepNon k) hbk.p32 (by have:=hbk.few;omega))
 have EN:Hid (∀W v (T':Nat→Prop),zai T' W v ms→Calls Tryz.prog 8 #[v] W fun e w'=>e = .returned (.int .i64 lo)∧za zq2 W w'):=zz0 (fun W v T' y=>by rw[hlo];exact zbN T' v ms W y (by have:=hbk.few;omega))
 have MK:Hid (∀W v (T':Nat→Prop),zai T' W v ms→Calls Tryz.prog 64 #[v] W fun e w'=>e = .returned (.int .i64 mk)∧za zq2 W w'):=zz0 (fun W v T' y=>by have:=zeT T' v ms W y (by have:=hbk.few;omega);rw[←hmk] at this;exact this)
 have LO:Hid (∀W,za zq2 w W→Calls Tryz.prog 63 #[.pointer (some ⟨lb,0,none⟩)] W fun e w'=>e = .returned (.int .i64 t)∧za zq2 W w'):=zz0 (fun W k=>zqI W (h.lg.keepNon k) (by have:=hl.kd;omega) (by have:=hl.kd;omega) rfl hlow (by omega))
 have ST:=zz0 (fun W (k:za zq2 w W)=>zcy b q lv W (zh k h.vt))
 have hn200:n≤200:=by have:=hl.next;omega
 have hfew:=hbk.few;obtain⟨Z,hZ⟩:∃Z,Z=(X.sput zx (zco (cuM lo n tr))).2:=⟨_,rfl⟩;have SV:Hid (∀W,za zq2 w W→Calls Tryz.prog 65 #[.pointer (some ⟨q,0,none⟩),.string ⟨zx.toArray⟩,cuV (cuM lo n tr) (.slice none 0 0)] W fun e w'=>e = .returned (zbU code)∧zn F W q p Z w'):=zz0 (fun W k=>by
  rw[←hcd,hZ];have hp:zC W (.slice none 0 0) (cuM lo n tr).parts:=zC.of (B:=0) (World.ownsRow_nil _ _ _ _) (fun p hp=>by cases hp)
  exact zdc F q p (cuM lo n tr) (.slice none 0 0) zx X _ _ _ W (h.st.keep k (fun _ _ e=>e)) (ze8 ht hbk (hba.mono (fun n y=>.inl y))) (by omega) (by omega) (by omega) (fun g y=>k.lt (h.low g y).2) zal (zjd (lo:=lo) (hi:=n) (tr:=tr) (by omega) hn200 (by omega)) hp (by have:=zcC (zjd (lo:=lo) (hi:=n) (tr:=tr) (by omega) hn200 (by omega));omega))
 rw[←hZ];have HF:Hid (∀g,F g→g<w.heap.size):=zz0 (fun g y=>(h.low g y).2)
 have hlo200:lo≤200:=by omega
 have hmx:(max (t:Int) (mk:Int))=(tr:Int):=by rw[htr];omega
 have hmx3:max t mk=tr:=htr.symm;have hmx2:(if (t:Int)<(mk:Int) then (mk:Int) else (t:Int))=(tr:Int):=by rw[htr];split<;>omega
 clear h hbk hba ht hl hcd hZ hlow hlo hmk htr;unfold cuV cuM zx at SV;unfold cuM;dsimp only at SV;have ha:¬(n:Int)≤(lo:Int):=by omega
 have hb:¬(L.next:Int)<(n:Int):=by omega
 have hc:¬(65536:Int)<((n:Int)-(lo:Int)):=by omega
 have hwr:IntKind.wrap .i64 ((n:Int)-(lo:Int))=(n:Int)-(lo:Int):=IntWalk.i64_in _ (by omega)
 go_enter Tryz.func27,Tryz.ntmps27
 go_wp2_with(first
  |(go_at_call 62;((with_reducible refine LD.out.mono ?_);rintro e w1 ⟨rfl,k1⟩);have K1:=zz0 (k1.alloc CuZ);clear k1)
  |(go_at_call 15;refine(TL.out _ K1.out).mono ?_;rintro e w2 ⟨rfl,k2⟩;have K2:=zz0 (K1.out.trans1 k2);clear k2)
  |(go_at_call 9;refine(CH.out _ K2.out).mono ?_;rintro e w3 ⟨v3,rfl,k3,m3⟩;have M3:=zz0 m3;clear m3;have K3:=zz0 (K2.out.trans1 k3);clear k3)
  |(go_at_call 8;refine(EN.out _ v3 _ M3.out).mono ?_;rintro e w4 ⟨rfl,k4⟩;have M4:=zz0 (M3.out.keepNon k4);have K4:=zz0 (K3.out.trans1 k4);clear k4)
  |(go_at_call 63;refine(LO.out _ K4.out).mono ?_;rintro e w5 ⟨rfl,k5⟩;have M5:=zz0 (M4.out.keepNon k5);have K5:=zz0 (K4.out.trans1 k5);clear k5)
  |(go_at_call 64;refine(MK.out _ v3 _ M5.out).mono ?_;rintro e w6 ⟨rfl,k6⟩;have K6:=zz0 (K5.out.trans1 k6);clear k6))
 have K7:Hid (za zq2 w (w6.alloc (.cells #[.int .i64 lo,.int .i64 lo,.int .i64 n,.int .i64 tr,.slice none 0 0] 127)).drew):=zz0 (K6.out.alloc _).drew;have B7:Hid ((w6.alloc (.cells #[.int .i64 lo,.int .i64 lo,.int .i64 n,.int .i64 tr,.slice none 0 0] 127)).drew.heap[w6.heap.size]? = some (.cells #[.int .i64 lo,.int .i64 lo,.int .i64 n,.int .i64 tr,.slice none 0 0] 127 (0,0))):=zz0 (ze w6 _);have STW:=zz0 (ST.out _ K7.out);have SVW:=zz0 (SV.out _ K7.out)
 go_region_law(go_simp;first
  |(go_at_call 66;((with_reducible refine STW.out.mono ?_);rintro e w8 ⟨rfl,rfl⟩))
  |(go_at_call 65;((with_reducible refine SVW.out.mono ?_);rintro e w9 ⟨rfl,t9⟩)))
 all_goals
  obtain⟨k9,F',s9,d9⟩:=t9;have b9:=k9.at B7.out (fun y=>by have:=HF.out _ y;have:=K6.out.size;omega)
  have y0:w9.cell? ⟨w6.heap.size,0,none⟩=some (.int .i64 lo):=by simp[World.cell?,b9]
  have y1:w9.cell? ⟨w6.heap.size,1,none⟩=some (.int .i64 lo):=by simp[World.cell?,b9]
  have y2:w9.cell? ⟨w6.heap.size,2,none⟩=some (.int .i64 n):=by simp[World.cell?,b9]
  have y3:w9.cell? ⟨w6.heap.size,3,none⟩=some (.int .i64 tr):=by simp[World.cell?,b9]
  have y4:w9.cell? ⟨w6.heap.size,4,none⟩=some (.slice none 0 0):=by simp[World.cell?,b9]
  have KF:Hid (za F w w9):=zz0 (K7.out.ofNon.trans k9 (fun _ _ y=>y) (fun _ _ y=>y))
  have S9:Hid (zq5 F' F w):=zz0 (fun g y=>by
   rcases s9 g y with u|u
   ·exact .inl u
   ·exact .inr (Nat.le_trans K7.out.size u))
  have D9:=zz0 d9;clear k9 s9 d9 b9;by_cases h0c:code=0
  ·rw[zbH h0c]
   go_wp2_with fail
   go_ret2;have ka:za zq2 w9 (w9.alloc (ExB b lb ⟨lo,lo,n,tr,[]⟩ (.slice none 0 0) false)):=(za.refl _ _).alloc _;exact⟨w9.heap.size,fun _=>rfl,fun e=>absurd h0c e,KF.out.trans1 ka.ofNon,fun g=>F' g∧g<w9.heap.size,fun g y=>S9.out g y.1,fun g y=>ka.lt y.2,D9.out.low.keep ka (fun _ _ e=>e),fun _=>⟨KF.out.size,fun y=>by have:=y.2;omega,ze w9 _⟩⟩
  ·rw[zaA h0c]
   go_wp2_with fail
   go_ret2;exact⟨0,fun e=>absurd e h0c,fun _=>rfl,KF.out,fun g=>F' g∧g<w9.heap.size,fun g y=>S9.out g y.1,fun g y=>y.2,D9.out.low,fun e=>absurd e h0c⟩
end Go.Proofs.YtpojgmeoaflmoaaGreatDoor
