/- shelf.Do, where the act goes well: walked. · A shelf is opened on an empty disk: walked. · The helpers on errors: an error as its number; is it this o -/
import Derived.Test.YtnboipdpccnedaaGreatDoorQ28
set_option linter.unusedVariables false
set_option maxRecDepth 100000
set_option maxHeartbeats 16000000
namespace Go.Proofs.YtnboipdpccnedaaGreatDoor
open Go.RowKit Go.Maps
def Sh.did (s:Sh) (by':Byt) (e l:Nat) (D:Un):Sh:=⟨(s.X.sput (nameN 114 s.next) by').2,e,l,D,s.next+1⟩
theorem zjg {F FS FU FU' FS':Nat→Prop} {w w3 w5 w7:World} {p dp q u b:Nat} {s:Sh} {by':Byt} {e l:Nat} {D:Un} (h:ShIn F FS FU w p dp q u s) (k3:Keep (fun g=>FU g∨w.heap.size≤g) w w3) (u3:UnAt FU' w3 b e l D) (s3:∀ g,FU' g→FU g∨w.heap.size≤g) (k35:Keep Non w3 w5) (k56:Keep FS w5 w7) (sf:Sub FS' FS w5) (st:StoreAt FS' w7 q dp (s.X.sput (nameN 114 s.next) by').2) (hb:w7.heap[p]? = some (ShB q u s.next)) :
    ShTo F w p dp (s.did by' e l D) ((w7.setCell ⟨p,1,none⟩ (.pointer (some ⟨b,0,none⟩))).setCell ⟨p,2,none⟩ (.int .i64 (s.next+1:Nat))):=by
  have hp:=lt_of_block h.blk
  have k37:Keep FS w3 w7:=(k35.ofNon).trans1 k56
  have u3l:=u3.low
  have u7:=u3l.keep k37 (fun g e x=>by rcases s3 g e.1 with y | y;exact h.apart g x y;have:=h.low g (h.inS g x).1;omega)
  have kS:Keep (One p) w7 ((w7.setCell ⟨p,1,none⟩ (.pointer (some ⟨b,0,none⟩))).setCell ⟨p,2,none⟩ (.int .i64 (s.next+1:Nat))):=((Keep.refl _ _).setOne _ _).setOne _ _
  have k3s:=k3.size
  have k5s:=k35.size
  have k7s:=k56.size
  refine ⟨?_,fun g=>g=p∨(FS' g∧g < w7.heap.size)∨(FU' g∧g < w3.heap.size),?_,fun g=>FS' g∧g < w7.heap.size,fun g=>FU' g∧g < w3.heap.size,q,b,?_,?_,?_,.inl rfl,?_,?_,?_,?_⟩
  · refine ((k3.trans (k35.ofNon (S:=F)) (U:=F) (fun i hi x=>?_) (fun _ _ x=>x)).trans k56 (fun _ _ x=>x) (fun g hg x=>(h.inS g x).1)).trans kS (fun _ _ x=>x) (fun g hg x=>by have x':g=p:=x;rw [x'];exact h.inF)
    rcases x with x | x
    · exact (h.inU i x).1
    · omega
  · rintro g (rfl | x | x)
    · exact .inl h.inF
    · rcases sf g x.1 with y | y
      · exact .inl (h.inS g y).1
      · exact .inr (by omega)
    · rcases s3 g x.1 with y | y
      · exact .inl (h.inU g y).1
      · exact .inr y
  · exact zo9 (zho hb b) (s.next+1)
  · obtain ⟨b1,b2,G,dg,hg⟩:=st
    have hlow:StoreAt (fun g=>FS' g∧g < w7.heap.size) w7 q dp (s.X.sput (nameN 114 s.next) by').2:=⟨b1,⟨b2,lt_of_block b1⟩,fun g=>G g∧g < w7.heap.size,dg.low,fun g x=>⟨⟨(hg g x.1).1,x.2⟩,(hg g x.1).2⟩⟩
    exact hlow.keep kS (fun g x y=>by have y':g=p:=y;rcases sf g x.1 with z | z;exact (h.inS g z).2 y';omega)
  · exact u7.keep kS (fun g x y=>by have y':g=p:=y;rcases s3 g x.1 with z | z;exact (h.inU g z).2 y';omega)
  · exact fun g x=>⟨.inr (.inl x),by rcases sf g x.1 with z | z;exact (h.inS g z).2;omega⟩
  · exact fun g x=>⟨.inr (.inr x),by rcases s3 g x.1 with z | z;exact (h.inU g z).2;omega⟩
  · intro g x y
    rcases sf g x.1 with z | z
    · rcases s3 g y.1 with t | t
      · exact h.apart g z t
      · have:=h.low g (h.inS g z).1;omega
    · have:=y.2;omega
  · rintro g (rfl | x | x)
    · have:=kS.size;omega
    · have:=kS.size;have:=x.2;omega
    · have:=kS.size;have:=x.2;omega
theorem znc {F FS FU FU':Nat→Prop} {w w2 w3:World} {p dp q u:Nat} {s:Sh} {o o':Obj} (h:ShIn F FS FU w p dp q u s) (k2:Keep Non w w2) (ab:w2.heap[w.heap.size]? = some o) (k3:Keep (fun g=>FU g∨((w.alloc o').heap.size≤g∧g < w2.heap.size)) w2 w3) (s3:Sub FU' (fun g=>FU g∨((w.alloc o').heap.size≤g∧g < w2.heap.size)) w2) :
    Keep (fun g=>FU g∨w.heap.size≤g) w w3∧w3.heap[w.heap.size]? = some o∧w3.heap[p]? = some (ShB q u s.next)∧∀ g,FU' g→FU g∨w.heap.size≤g:=by
  rw [World.size_alloc] at k3 s3
  have hp:=lt_of_block h.blk
  refine ⟨k2.ofNon.trans k3 (fun _ _ x=>x) (fun g hg x=>by rcases x with x | x;exact .inl x;exact .inr (by omega)),k3.at ab (fun x=>by rcases x with x | x;have:=h.low _ (h.inU _ x).1;omega;omega),k3.at (nonAt k2 h.blk) (fun x=>by rcases x with x | x;exact (h.inU _ x).2 rfl;omega),fun g x=>?_⟩
  have:=k2.size
  rcases s3 g x with (y | y) | y
  · exact .inl y
  · exact .inr (by omega)
  · exact .inr (by omega)
theorem zeC {F:Nat→Prop} {p dp:Nat} {s:Sh} (k e a n c:Nat) (pa:Option Addr) (by':Byt) (e2 l2:Nat) (D2:Un) (ka kk kf:Nat) (w:World) (h:ShAt F w p dp s) (hlay:Lay w) (hF:∀ g,F g→10≤g)
    (hn:s.next < 1000) (hl:s.X.lim ka kk kf) (ha:ka≤505) (hk:kk≤990) (hf:kf≤400000000) (hby:by'.length≤65536) (hcode:(s.X.sput (nameN 114 s.next) by').1=0)
    (AP:∀ W b F',Keep Non w W→UnAt F' W b s.e s.l s.D→Calls Tryz.prog 179 #[.pointer (some ⟨b,0,none⟩),.agg #[.int .i64 k,.int .i64 e,.int .i64 a,.slice pa n c]] W fun r w'=>(∃ n:Int,r = .returned (.tuple #[.int .i64 n,.nilIface]))∧UnTo F' W b e2 l2 D2 w')
    (PU:∀ W,Keep (fun g=>F g∨w.heap.size≤g) w W→Calls Tryz.prog 180 #[.agg #[.int .i64 k,.int .i64 e,.int .i64 a,.slice pa n c]] W fun r w'=>∃ v,r = .returned (.tuple #[v,.nilIface])∧Keep Non W w'∧w'.ownsRow W.heap.size 5 1 v by'.length (by'.map bv)) :
    Calls Tryz.prog 120 #[.pointer (some ⟨p,0,none⟩),.agg #[.int .i64 k,.int .i64 e,.int .i64 a,.slice pa n c]] w fun r w'=>(∃ n:Int,r = .returned (.tuple #[.int .i64 n,.nilIface]))∧ShTo F w p dp (s.did by' e2 l2 D2) w':=by
  have kA:Keep Non w (w.alloc (ActB k e a (.slice pa n c))):=(Keep.refl _ _).alloc _
  have WK:=zz0 (zff _ (h.keepNon kA))
  obtain ⟨FS,FU,q,u,h⟩:=h
  have H:=zz0 h
  have hA:=h.keep kA (fun _ _ x=>x)
  have c1:=sh_1 hA.blk
  have CP:=zz0 (zgR FU u s.e s.l s.D _ hA.unit (fun g x=>hA.low g (hA.inU g x).1))
  have KA:=zz0 kA
  have BA:=zz0 (zab w (ActB k e a (.slice pa n c)))
  have HA:=zz0 hA
  have LY:=zz0 hlay
  have HF:=zz0 hF
  have AP':=zz0 AP
  have PU':=zz0 PU
  have NM:=zz0 (fun W (hl:Lay W)=>zgD s.next W hn hl)
  have SP:=zz0 (fun W v F0 (st:StoreAt F0 W q dp s.X) (hv:Bs W v by') (hnp:∀ g,v.ownBlock=some g→¬ F0 g)=>zcX F0 q dp v (nameN 114 s.next) by' s.X ka kk kf W st hl ha hk hf (zkG _ hn) hv hby hnp)
  rw [hcode,zaK] at SP
  unfold ActB at c1
  dsimp only [ActB] at WK CP
  have hnx:¬ (99999999:Int) < (s.next:Int):=by omega
  clear h hA kA hlay hF AP PU hl hcode
  go_enter Tryz.func120,Tryz.ntmps120
  go_wp2_with (first
    | (go_at_call 177;refine WK.out.mono ?_;rintro r w1 ⟨rfl,rfl⟩)
    | (go_at_call 178;refine CP.out.mono ?_;rintro r w2 ⟨b,rfl,k2,hb2,u2⟩;have ab2:=nonAt k2 BA.out;have a0:=ac_0 ab2;have a1:=ac_1 ab2;have a2:=ac_2 ab2;have a3:=ac_3 ab2;have K2:=zz0 (KA.out.trans1 k2);have AB2:=zz0 ab2;have APW:=zz0 (AP'.out w2 b _ K2.out u2);clear k2 hb2 u2 ab2)
    | (go_at_call 179;refine APW.out.mono ?_;rintro r w3 ⟨⟨nn,rfl⟩,k3,FU',s3,u3⟩;obtain ⟨k03,ab3,sh3,s03⟩:=znc H.out K2.out AB2.out k3 s3;have a0':=ac_0 ab3;have a1':=ac_1 ab3;have a2':=ac_2 ab3;have a3':=ac_3 ab3;have e2':=sh_2 sh3;have K3:=zz0 k03;have AB3:=zz0 ab3;have SH3:=zz0 sh3;have U3:=zz0 u3;have S03:=zz0 s03;have PUW:=zz0 (PU'.out w3 (k03.mono (fun g hg x=>by rcases x with x | x;exact .inl (H.out.inU g x).1;exact .inr x)));clear k3 s3 u3 k03 ab3 sh3 s03)
    | (go_at_call 180;refine PUW.out.mono ?_;rintro r w4 ⟨v4,rfl,k4,o4⟩;obtain ⟨a4,c4,rfl,_,_⟩:=zaa o4;have sh4:=nonAt k4 SH3.out;have g0:=sh_0 sh4;have g2:=sh_2 sh4;have K4:=zz0 k4;have O4:=zz0 o4;have SH4:=zz0 sh4;clear k4 o4 sh4))
  have LY4:Hid (Lay w4.drew):=zz0 ((LY.out.keep (K3.out) (fun g hg x=>by rcases x with x | x;have:=HF.out g (H.out.inU g x).1;omega;have:=HF.out _ H.out.inF;have:=lt_of_block H.out.blk;omega)).keepNon (K4.out.trans1 (Keep.refl Non _).drew))
  have NMW:Hid (Calls Tryz.prog 181 #[.string ⟨#[114]⟩,.int .i64 s.next] w4.drew fun e w'=>e = .returned (.string ⟨(nameN 114 s.next).toArray⟩)∧Keep Non w4.drew w'):=zz0 (NM.out _ LY4.out)
  have ST:Hid (∀ W,Keep Non w4 W→StoreAt FS W q dp s.X):=zz0 (fun W kk=>(H.out.store.keep (K3.out) (fun g hg x=>by rcases x with x | x;exact H.out.apart g hg x;have:=H.out.low g (H.out.inS g hg).1;omega)).keep (K4.out.trans1 kk) (fun _ _ x=>x))
  have g0d:w4.drew.cell? ⟨p,0,none⟩=some (.pointer (some ⟨q,0,none⟩)):=g0
  have g2d:w4.drew.cell? ⟨p,2,none⟩=some (.int .i64 s.next):=g2
  clear NM AP' PU' WK CP
  go_region_law (go_simp;first
    | (go_at_call 181;refine NMW.out.mono ?_;rintro r w5 ⟨rfl,k5'⟩;have k5:=(Keep.refl Non w4).drew.trans1 k5';have g0e:=sh_0 (nonAt k5 SH4.out);have K5:=zz0 k5;have SPW:Hid (Calls Tryz.prog 14 #[.pointer (some ⟨q,0,none⟩),.string ⟨(nameN 114 s.next).toArray⟩,.slice a4 (List.length by') c4] w5 fun e w'=>e = .returned .nilIface∧StoreTo FS w5 q dp (s.X.sput (nameN 114 s.next) by').2 w'):=zz0 (SP.out w5 _ FS (ST.out w5 k5) ((Rd.ofOwns O4.out).keepNon k5) (fun g x y=>by have:=(O4.out.lt g x).1;have:=H.out.low g (H.out.inS g y).1;have:=K3.out.size;omega));clear k5 k5')
    | (go_at_call 14;refine SPW.out.mono ?_;rintro r w7 ⟨rfl,k7,FS',s7,d7⟩;have b7:=k7.at (nonAt (K4.out.trans1 K5.out) SH3.out) (fun x=>(H.out.inS p x).2 rfl);have i1:=sh_1 b7;have i2:=sh_2 (zho b7 b);have i1f:=sh_f b7 1;have i2f:=sh_f (zho b7 b) 2;have K7:=zz0 k7;have B7:=zz0 b7;have S7:=zz0 s7;have D7:=zz0 d7;clear k7 s7 d7 b7))
  all_goals go_wp2_with fail
  all_goals
    go_ret2
    exact ⟨⟨_,rfl⟩,zjg H.out K3.out U3.out S03.out (K4.out.trans1 K5.out) K7.out S7.out D7.out B7.out⟩
theorem zie {ns:List Byt} {X:Dk} (h:ns.Perm (Go.strKeys X.shown)) (he:X.shown = .map []):ns = []:=by
  rw [he] at h
  exact h.eq_nil
theorem zlm (F:Nat→Prop) (q p:Nat) (b:Byt) (X:Dk) (w:World) (d:StoreAt F w q p X) (hd:X.down=false) (he:X.shown = .map []) :
    Calls Tryz.prog 9 #[.pointer (some ⟨q,0,none⟩),sv b] w fun e w'=>e = .returned (.tuple #[.slice none 0 0,.nilIface])∧Keep Non w w':=by
  obtain ⟨blk,inF,G,dg,hg⟩:=d
  have c0:=st_0 blk
  have L:Hid (Calls Tryz.prog 30 #[.pointer (some ⟨p,0,none⟩)] w fun e w'=>∃ a c,e = .returned (.tuple #[.slice a 0 c,.nilIface])∧Keep Non w w'):=zz0 (by
    refine (zfs G p X w dg hd (by rw [he];decide)).mono ?_
    rintro e w' ⟨v,ns,rfl,hp,k,o⟩
    obtain rfl:=zie hp he
    obtain ⟨a,c,rfl,_,_⟩:=zaa o
    exact ⟨a,c,rfl,k⟩)
  clear blk dg hg
  unfold sv
  go_enter Tryz.func9,Tryz.ntmps9
  go_wp2_with (go_at_call 30;refine L.out.mono ?_;rintro r w1 ⟨a,c,rfl,k1⟩;have K1:=zz0 k1;clear k1)
  refine wp_loop_rounds 1 ?_
  rw [rounds_succ]
  go_wp2_with fail
  go_ret2
  exact ⟨rfl,K1.out⟩
theorem zjf (F:Nat→Prop) (q p:Nat) (X:Dk) (w:World) (d:StoreAt F w q p X) (hd:X.down=false) (he:X.shown = .map []) :
    Calls Tryz.prog 175 #[.pointer (some ⟨q,0,none⟩)] w fun e w'=>∃ b,e = .returned (.tuple #[.pointer (some ⟨b,0,none⟩),.int .i64 0,.nilIface])∧Keep Non w w'∧UnAt (fun g=>w.heap.size≤g∧g < w'.heap.size) w' b 0 0 (.map []):=by
  have L:=zz0 (zlm F q p [98] X w d hd he)
  clear d
  unfold sv at L
  go_enter Tryz.func175,Tryz.ntmps175
  go_wp2_with (go_at_call 9;refine L.out.mono ?_;rintro r w1 ⟨rfl,k1⟩;have K1:=zz0 k1;clear k1)
  refine wp_loop_rounds 1 ?_
  rw [rounds_succ]
  go_wp2_with (go_at_call 247;refine (zlD _).mono ?_;rintro r w2 ⟨b,rfl,k2,u2⟩;have K2:=zz0 k2;have U2:=zz0 u2;clear k2 u2)
  refine bodyPost_ret (v:=.tuple #[.pointer (some ⟨b,0,none⟩),.int .i64 0,.nilIface]) (by simp [results,Tryz.results175,go_sem]) rfl ?_
  exact ⟨b,rfl,K1.out.trans1 K2.out,U2.out.mono (fun g e=>⟨Nat.le_trans K1.out.size e.1,e.2⟩)⟩
theorem zje {F:Nat→Prop} {p dp:Nat} {s:Sh} (w:World) (h:ShAt F w p dp s) (hlay:Lay w) (hn:s.next < 1000) (hd:s.X.down=false) (hh:fhas s.X.shown (nameN 114 s.next)=false) :
    Calls Tryz.prog 176 #[.pointer (some ⟨p,0,none⟩)] w fun e w'=>e = .returned (.tuple #[.bool false,.nilIface])∧Keep Non w w':=by
  obtain ⟨FS,FU,q,u,h⟩:=h
  have H:=zz0 h
  have c0:=sh_0 h.blk
  have c2:=sh_2 h.blk
  have NMW:Hid (∀ W,Keep Non w W→Calls Tryz.prog 181 #[.string ⟨#[114]⟩,.int .i64 s.next] W fun e w'=>e = .returned (.string ⟨(nameN 114 s.next).toArray⟩)∧Keep Non W w'):=zz0 (fun W k=>zgD s.next W hn (hlay.keepNon k))
  have GT:Hid (∀ W,Keep Non w W→Calls Tryz.prog 11 #[.pointer (some ⟨q,0,none⟩),.string ⟨(nameN 114 s.next).toArray⟩] W fun e w'=>e = .returned (.tuple #[.slice none 0 0,.iface 55 (.int .i64 4)])∧Keep Non W w'):=zz0 (fun W k=>zcW FS q dp (nameN 114 s.next) s.X W (h.store.keep k (fun _ _ x=>x)) (zkG _ hn) hd hh)
  have hee:=zd4 4 4
  rw [show ((4:Int) == 4)=true from rfl] at hee
  have hnx:¬ (99999999:Int) < (s.next:Int):=by omega
  clear h hlay hd hh
  go_enter Tryz.func176,Tryz.ntmps176
  go_wp2_with fail
  have c0d:w.drew.cell? ⟨p,0,none⟩=some (.pointer (some ⟨q,0,none⟩)):=c0
  have c2d:w.drew.cell? ⟨p,2,none⟩=some (.int .i64 s.next):=c2
  have NMD:=zz0 (NMW.out w.drew (Keep.refl Non w).drew)
  go_region_law (go_simp;first
    | (go_at_call 181;refine NMD.out.mono ?_;rintro r w5 ⟨rfl,k5'⟩;have k5:=(Keep.refl Non w).drew.trans1 k5';have c0e:=sh_0 (nonAt k5 H.out.blk);have K5:=zz0 k5;have GTW:=zz0 (GT.out w5 k5);clear k5 k5')
    | (go_at_call 11;refine GTW.out.mono ?_;rintro r w6 ⟨rfl,k6⟩;have K6:=zz0 (K5.out.trans1 k6);clear k6))
  all_goals go_wp2_with fail
  all_goals
    go_ret2
    exact ⟨rfl,K6.out⟩
theorem zgE {F F1:Nat→Prop} {w w1 w2:World} {p q b room:Nat} (k1:Keep F w w1) (s1:Sub F1 F w) (d1:StoreAt F1 w1 q p (dk0 room)) (k2:Keep Non w1 w2) (u2:UnAt (fun g=>w1.heap.size≤g∧g < w2.heap.size) w2 b 0 0 (.map [])) (hq:w.heap.size≤q) (hF:∀ g,F g→g < w.heap.size) :
    ∃ F',Sub F' F w∧ShAt F' (w2.alloc (ShB q b 0)) w2.heap.size p ⟨dk0 room,0,0,.map [],0⟩:=by
  have kB:Keep Non w2 (w2.alloc (ShB q b 0)):=(Keep.refl _ _).alloc _
  have z1:=k1.size
  have z2:=k2.size
  have hsz:(w2.alloc (ShB q b 0)).heap.size=w2.heap.size+1:=by simp
  refine ⟨fun g=>g=w2.heap.size∨(F1 g∧g < w1.heap.size)∨(w1.heap.size≤g∧g < w2.heap.size),?_,fun g=>F1 g∧g < w1.heap.size,fun g=>w1.heap.size≤g∧g < w2.heap.size,q,b,zab _ _,?_,u2.keepNon kB,.inl rfl,?_,?_,?_,?_⟩
  · rintro g (rfl | x | x)
    · exact .inr (by omega)
    · exact s1 g x.1
    · exact .inr (by omega)
  · obtain ⟨b1,b2,G,dg,hg⟩:=d1
    have hlow:StoreAt (fun g=>F1 g∧g < w1.heap.size) w1 q p (dk0 room):=⟨b1,⟨b2,lt_of_block b1⟩,fun g=>G g∧g < w1.heap.size,dg.low,fun g x=>⟨⟨(hg g x.1).1,x.2⟩,(hg g x.1).2⟩⟩
    exact hlow.keep (k2.trans1 kB) (fun _ _ x=>x)
  · exact fun g x=>⟨.inr (.inl x),by have:=x.2;omega⟩
  · exact fun g x=>⟨.inr (.inr x),by have:=x.2;omega⟩
  · exact fun g x y=>by have:=x.2;have:=y.1;omega
  · rintro g (rfl | x | x)
    · omega
    · have:=x.2;omega
    · have:=x.2;omega
theorem zlk {F:Nat→Prop} {p:Nat} {room:Nat} (w:World) (d:DiskAt F w p (dk0 room)) (hlay:Lay w) (hF:∀ g,F g→10≤g∧g < w.heap.size) :
    Calls Tryz.prog 119 #[.pointer (some ⟨p,0,none⟩)] w fun e w'=>∃ b,e = .returned (.tuple #[.pointer (some ⟨b,0,none⟩),.nilIface])∧Keep F w w'∧∃ F',Sub F' F w∧ShAt F' w' b p ⟨dk0 room,0,0,.map [],0⟩:=by
  have HF:=zz0 hF
  have LY:=zz0 hlay
  have tid:(dk0 room).tidy:=fun n h=>by simp [dk0,fhas,has] at h
  have SO:Hid (Calls Tryz.prog 42 #[.pointer (some ⟨p,0,none⟩)] w fun e w'=>∃ q,e = .returned (.tuple #[.pointer (some ⟨q,0,none⟩),.nilIface])∧w.heap.size≤q∧StoreTo F w q p (dk0 room) w'):=zz0 (by
    refine (zdA F p (dk0 room) 0 0 0 w d ⟨rfl,by show (-1:Int) < 0;decide⟩ ⟨by simp [dk0,size],by simp [dk0],by simp [dk0,fused],by simp [dk0],isMap_empty⟩ (by omega) (by omega) (by omega) (fun n h=>by simp [dk0,fhas,has] at h)).mono ?_
    rintro e w' ⟨q,ns,rfl,hq,hp,t⟩
    obtain rfl:=zie hp rfl
    exact ⟨q,rfl,hq,t⟩)
  clear d hlay hF
  go_enter Tryz.func119,Tryz.ntmps119
  go_wp2_with (first
    | (go_at_call 42;refine SO.out.mono ?_;rintro r w1 ⟨q,rfl,hq,k1,F1,s1,d1⟩;have K1:=zz0 k1;have S1:=zz0 s1;have D1:=zz0 d1;clear k1 s1 d1)
    | (go_at_call 175;refine (zjf F1 q p (dk0 room) w1 D1.out rfl rfl).mono ?_;rintro r w2 ⟨b,rfl,k2,u2⟩;have K2:=zz0 k2;have U2:=zz0 u2;clear k2 u2))
  obtain ⟨F',sF,sA⟩:=zgE (room:=room) K1.out S1.out D1.out K2.out U2.out hq (fun g x=>(HF.out g x).2)
  have kB:Keep Non w2 (w2.alloc (ShB q b 0)):=(Keep.refl _ _).alloc _
  have KB:=zz0 (K1.out.trans1 (K2.out.trans1 kB).ofNon)
  have AG:=zz0 (zje _ sA (LY.out.keep KB.out (fun g hg x=>by have:=HF.out g x;omega)) (by show 0 < 1000;decide) rfl rfl)
  have SF:=zz0 sF
  have SA:=zz0 sA
  clear sF sA kB
  refine wp_loop_rounds 1 ?_
  rw [rounds_succ]
  go_wp2_with (go_at_call 176;refine AG.out.mono ?_;rintro r w4 ⟨rfl,k4⟩;have K4:=zz0 k4;clear k4)
  go_ret2
  exact ⟨w2.heap.size,rfl,KB.out.trans1 K4.out.ofNon,F',SF.out,SA.out.keepNon K4.out⟩
end Go.Proofs.YtnboipdpccnedaaGreatDoor
namespace Go.Proofs.YtnboipdpccnedaaGreatDoor
open Go.RowKit
theorem zmE (w:World):Calls Tryz.prog 46 #[.nilIface] w fun e w'=>e = .returned (.int .i64 0)∧w=w':=by
  go_enter Tryz.func46,Tryz.ntmps46
  go_wp2
  go_ret
  exact ⟨rfl,rfl⟩
theorem zf0 (n:Int) (w:World):(Instr.typeAssert (.iface 55 (.int .i64 n)) 36 55 true).run Tryz.prog w = .ok (.tuple #[.int .i64 n,.bool true]) w:=by kernel_rfl
theorem zmF (n:Int) (hn:(n != 0)=true) (w:World):Calls Tryz.prog 46 #[.iface 55 (.int .i64 n)] w fun e w'=>e = .returned (.int .i64 n)∧w=w':=by
  have ht:=zf0 n
  go_enter Tryz.func46,Tryz.ntmps46
  go_wp2
  go_ret
  exact ⟨rfl,rfl⟩
theorem zoE (n:Int) (w:World):Calls Tryz.prog 46 #[errv n] w fun e w'=>e = .returned (.int .i64 n)∧w=w':=by
  by_cases h:n=0
  · subst h
    exact zmE w
  · rw [zfu h]
    exact zmF n (by simpa using h) w
theorem zpT (n k:Int) (w:World):Calls Tryz.prog 16 #[errv n,.int .i64 k] w fun e w'=>e = .returned (.bool (n == k))∧w=w':=by
  go_enter Tryz.func16,Tryz.ntmps16
  go_wp2_with (go_at_call 46;go_must (refine (zoE n _).mono ?_);rintro e w' ⟨rfl,rfl⟩)
  go_ret
  exact ⟨rfl,rfl⟩
end Go.Proofs.YtnboipdpccnedaaGreatDoor
namespace Go.Proofs.YtnboipdpccnedaaGreatDoor
open Go.RowKit Go.Maps
theorem znx (d:List UInt8) (h:d.length≤64):(vtext d).length≤73:=by
  have:=zbl (a:=d.length) (by omega)
  unfold vputs at this
  simp only [List.flatMap_cons,List.flatMap_nil,List.append_nil] at this
  simp only [vtext,List.length_append]
  omega
theorem zap (k e a:Nat) (d:List UInt8) (hk:k≤5) (he:e≤1099511627776) (ha:a≤1048576) (hd:d.length≤64):(actBy k e a d).length≤200:=by
  have h1:=zbm (a:=k) (b:=e) (by omega) (by omega)
  have h2:=zbl (a:=a) (by omega)
  have h3:=znx d hd
  have h4:(actT k e a d).length≤100:=by
    unfold actT
    split <;> split <;> simp only [List.length_append,List.length_nil] <;> omega
  have:=zcL (t:=actT k e a d) (by omega)
  unfold actBy
  omega
structure Sh.ok (s:Sh):Prop where
  free:s.X.free
  lim:s.X.lim (2 * s.next) (2 * s.next) (400 * s.next)
  room:s.X.room=16777216
  many:size s.D≤s.next
theorem Sh.ok.code {s:Sh} (h:s.ok) (hn:s.next < 240) {by':Byt} (hb:by'.length≤200):(s.X.sput (nameN 114 s.next) by')=(0,⟨s.X.room,putFl s.X.shown (nameN 114 s.next) by',putFl s.X.shown (nameN 114 s.next) by',[],s.X.fuse,s.X.down⟩):=by
  rw [zcY h.free h.lim.map _ _ (by omega),if_neg (zic h.lim (by omega) (by have:=h.room;omega))]
theorem Sh.ok.did {s:Sh} (h:s.ok) (hn:s.next < 240) {by':Byt} (hb:by'.length≤200) {e l:Nat} {D:Un} (hD:size D≤size s.D+1):(s.did by' e l D).ok:=by
  have hl:=h.lim.sput (nameN 114 s.next) by'
  have hm:=h.many
  refine ⟨?_,?_,?_,?_⟩
  · unfold Sh.did
    rw [h.code hn hb]
    exact h.free
  · exact hl.mono (by show _≤2 * (s.next+1);omega) (by show _≤2 * (s.next+1);omega) (by show _≤400 * (s.next+1);omega)
  · unfold Sh.did
    rw [h.code hn hb]
    exact h.room
  · show size D≤s.next+1
    omega
def Acts (s s2:Sh) (v:Value) (R:(Nat→Prop)→World→Prop):Prop:=∀ (W:World) (F:Nat→Prop) (p dp:Nat),R F W→Lay W→(∀ g,F g→10≤g)→ShAt F W p dp s →
  Calls Tryz.prog 120 #[.pointer (some ⟨p,0,none⟩),v] W fun r w'=>(∃ n:Int,r = .returned (.tuple #[.int .i64 n,.nilIface]))∧ShTo F W p dp s2 w'
def Any:(Nat→Prop)→World→Prop:=fun _ _=>True
theorem zfX {s:Sh} (h:s.ok) (hn:s.next < 240) (e2:Nat) (he:s.e < e2) (he2:e2≤1099511627776):Acts s (s.did (actBy 1 e2 0 []) e2 s.l s.D) (.agg #[.int .i64 1,.int .i64 e2,.int .i64 0,.slice none 0 0]) Any :=
  fun W F p dp _ hlay hF hs=>zeC 1 e2 0 0 0 none _ e2 s.l s.D _ _ _ W hs hlay hF (by omega) h.lim (by omega) (by omega) (by omega) (by have:=zap 1 e2 0 [] (by omega) he2 (by omega) (by simp);omega)
    (by rw [h.code hn (zap 1 e2 0 [] (by omega) he2 (by omega) (by simp))]) (fun W' b F' k u=>zhi F' b s.e s.l s.D e2 W' u he he2) (fun W' k=>zhl e2 W' he2)
theorem zfW {s:Sh} (h:s.ok) (hn:s.next < 240) (a:Nat) (he:s.e≤1099511627776) (ha:a≤1048575) (h3:(uat s.l s.D a).1≠3) (h1:(uat s.l s.D a).1≠1):Acts s (s.did (actBy 3 s.e a []) s.e s.l (uput s.D a (2,[]))) (.agg #[.int .i64 3,.int .i64 s.e,.int .i64 a,.slice none 0 0]) Any :=
  fun W F p dp _ hlay hF hs=>zeC 3 s.e a 0 0 none _ s.e s.l (uput s.D a (2,[])) _ _ _ W hs hlay hF (by omega) h.lim (by omega) (by omega) (by omega) (by have:=zap 3 s.e a [] (by omega) he (by omega) (by simp);omega)
    (by rw [h.code hn (zap 3 s.e a [] (by omega) he (by omega) (by simp))]) (fun W' b F' k u=>zhh F' b s.e s.l s.D a W' u he ha (by have:=h.many;omega) h3 h1) (fun W' k=>zhk s.e a W' he ha)
theorem zjB {s:Sh} (h:s.ok) (hn:s.next < 240) (a:Nat) (he:s.e≤1099511627776) (ha:a≤1048576):Acts s (s.did (actBy 4 s.e a []) s.e (max s.l a) (cutLo (max s.l a) s.D)) (.agg #[.int .i64 4,.int .i64 s.e,.int .i64 a,.slice none 0 0]) Any :=
  fun W F p dp _ hlay hF hs=>zeC 4 s.e a 0 0 none _ s.e (max s.l a) (cutLo (max s.l a) s.D) _ _ _ W hs hlay hF (by omega) h.lim (by omega) (by omega) (by omega) (by have:=zap 4 s.e a [] (by omega) he ha (by simp);omega)
    (by rw [h.code hn (zap 4 s.e a [] (by omega) he ha (by simp))]) (fun W' b F' k u=>zhj F' b s.e s.l s.D a W' u he ha) (fun W' k=>zhm s.e a W' he ha)
theorem zlT {s:Sh} (h:s.ok) (hn:s.next < 240) (a:Nat) (he:s.e≤1099511627776) (ha:a≤1048576) (hl:s.l≤a):Acts s (s.did (actBy 5 s.e a []) s.e s.l (cutHi a s.D)) (.agg #[.int .i64 5,.int .i64 s.e,.int .i64 a,.slice none 0 0]) Any :=
  fun W F p dp _ hlay hF hs=>zeC 5 s.e a 0 0 none _ s.e s.l (cutHi a s.D) _ _ _ W hs hlay hF (by omega) h.lim (by omega) (by omega) (by omega) (by have:=zap 5 s.e a [] (by omega) he ha (by simp);omega)
    (by rw [h.code hn (zap 5 s.e a [] (by omega) he ha (by simp))]) (fun W' b F' k u=>zi7 F' b s.e s.l s.D a W' u he ha hl) (fun W' k=>zi8 s.e a W' he ha)
theorem zhM {v:Value} {d:List UInt8} {S:Nat→Prop} {w w':World} (h:Bs w v d) (k:Keep S w w') (hn:d = []∨∀ g,v.ownBlock=some g→¬ S g):Bs w' v d:=by
  rcases hn with rfl | hn
  · obtain ⟨a,c,e,_⟩:=h
    exact ⟨a,c,e,fun hne=>absurd rfl hne⟩
  · exact Rd.keep h k hn
def BsOut (v:Value) (d:List UInt8):(Nat→Prop)→World→Prop:=fun F w=>Bs w v d∧(d = []∨∀ g,v.ownBlock=some g→¬ F g∧g < w.heap.size)
theorem BsOut.keep {v:Value} {d:List UInt8} {F S:Nat→Prop} {w w':World} (h:BsOut v d F w) (k:Keep S w w') (hn:∀ g,v.ownBlock=some g→¬ S g):BsOut v d F w' :=
  ⟨h.1.keep k hn,h.2.imp id (fun y g e=>⟨(y g e).1,k.lt (y g e).2⟩)⟩
theorem ziv {s:Sh} (h:s.ok) (hn:s.next < 240) (a:Nat) (pa:Option Addr) (d:List UInt8) (dc:Nat) (hd:d.length≤64) (he:s.e≤1099511627776) (ha:a≤1048575) (h0:(uat s.l s.D a).1=0):Acts s (s.did (actBy 2 s.e a d) s.e s.l (uput s.D a (1,d))) (.agg #[.int .i64 2,.int .i64 s.e,.int .i64 a,.slice pa d.length dc]) (BsOut (.slice pa d.length dc) d) :=
  fun W F p dp hR hlay hF hs=>zeC 2 s.e a d.length dc pa _ s.e s.l (uput s.D a (1,d)) _ _ _ W hs hlay hF (by omega) h.lim (by omega) (by omega) (by omega) (by have:=zap 2 s.e a d (by omega) he (by omega) hd;omega)
    (by rw [h.code hn (zap 2 s.e a d (by omega) he (by omega) hd)]) (fun W' b F' k u=>zgx F' b s.e s.l s.D a pa d dc W' u he ha (hR.1.keepNon k) hd (by have:=h.many;omega) h0)
    (fun W' k=>zgy s.e a pa d dc W' (zhM hR.1 k (hR.2.imp id (fun y g e x=>by rcases x with x | x;exact (y g e).1 x;have:=(y g e).2;omega))) hd he ha)
theorem zgG {D:Un} (h:IsMap D) (a:Nat) (x:Cl):size (uput D a x)≤size D+1:=by
  obtain ⟨es,rfl⟩:=h
  show (DataW.insert _ _).length≤es.length+1
  rw [length_insert]
  have:=List.length_filter_le (fun p:Lit × DataW Cl=>!p.1.sameKey (ulit a)) es
  omega
end Go.Proofs.YtnboipdpccnedaaGreatDoor
namespace Go.Proofs.YtnboipdpccnedaaGreatDoor
open Go.RowKit
def SqB (ep nx:Int):Obj:=.cells #[.int .i64 ep,.int .i64 nx] 208 (0,0)
section
variable {w : World} {b : Nat} {ep nx : Int}
theorem sq0 (h:w.heap[b]? = some (SqB ep nx)):w.cell? ⟨b,0,none⟩=some (.int .i64 ep):=by simp [World.cell?,h,SqB]
theorem sq1 (h:w.heap[b]? = some (SqB ep nx)):w.cell? ⟨b,1,none⟩=some (.int .i64 nx):=by simp [World.cell?,h,SqB]
theorem sqf (h:w.heap[b]? = some (SqB ep nx)) (i:Nat):w.frozen? ⟨b,i,none⟩=false:=by simp [World.frozen?,h,SqB]
end
theorem zdu (b i:Nat) (v:Int) (w:World) (h:w.cell? ⟨b,i,none⟩=some (.int .i64 v)) :
    Calls Tryz.prog 183 #[.pointer (some ⟨b,i,none⟩)] w fun e w'=>e = .returned (.int .i64 v)∧w=w':=by
  have hl:=run_call_load (P:=Tryz.prog) Tryz.func257 (by kernel_rfl) (by kernel_rfl) (by kernel_rfl) .i64 (by kernel_rfl) h
  go_enter Tryz.func183,Tryz.ntmps183
  go_wp2
  go_ret
  exact ⟨rfl,rfl⟩
theorem zgM (b i:Nat) (v y:Int) (w:World) (h:w.cell? ⟨b,i,none⟩=some (.int .i64 v)) (hf:w.frozen? ⟨b,i,none⟩=false) :
    Calls Tryz.prog 123 #[.pointer (some ⟨b,i,none⟩),.int .i64 y] w fun e w'=>e = .returned (.tuple #[])∧w'=w.setCell ⟨b,i,none⟩ (.int .i64 y):=by
  have hl:=run_call_store (P:=Tryz.prog) Tryz.func184 (by kernel_rfl) (by kernel_rfl) (by kernel_rfl) (by kernel_rfl) (k:=.i64) (y:=y) h hf
  go_enter Tryz.func123,Tryz.ntmps123
  go_wp2
  go_end0
  exact ⟨rfl,rfl⟩
theorem znZ (b i:Nat) (v y:Int) (w:World) (h:w.cell? ⟨b,i,none⟩=some (.int .i64 v)) (hf:w.frozen? ⟨b,i,none⟩=false) :
    Calls Tryz.prog 259 #[.pointer (some ⟨b,i,none⟩),.int .i64 v,.int .i64 y] w fun e w'=>e = .returned (.bool true)∧w'=w.setCell ⟨b,i,none⟩ (.int .i64 y):=by
  have hl:=run_call_cas_hit (P:=Tryz.prog) Tryz.func324 (by kernel_rfl) (by kernel_rfl) (by kernel_rfl) .i64 (by kernel_rfl) (y:=y) h hf
  go_enter Tryz.func259,Tryz.ntmps259
  go_wp2
  go_ret
  exact ⟨rfl,rfl⟩
theorem znI (x most:Int) (w:World) :
    Calls Tryz.prog 121 #[.int .i64 x,.int .i64 most] w fun e w'=>e = .returned (.bool (fitB 0 most x))∧w=w':=by
  by_cases h:0≤x
  · by_cases h2:x≤most
    · rw [zok h h2]
      go_enter Tryz.func121,Tryz.ntmps121
      go_wp2
      go_ret
      exact ⟨zii (by simp),rfl⟩
    · rw [zkd (by omega)]
      go_enter Tryz.func121,Tryz.ntmps121
      go_wp2
      go_ret
      exact ⟨zii (by simp),rfl⟩
  · rw [zkd (by omega)]
    go_enter Tryz.func121,Tryz.ntmps121
    go_wp2
    go_ret
    exact ⟨rfl,rfl⟩
theorem zb1 (b:Nat) (ep nx:Int) (w:World) (h:w.heap[b]? = some (SqB ep nx)) :
    Calls Tryz.prog 122 #[.pointer (some ⟨b,0,none⟩)] w fun e w'=>e = .returned (.int .i64 ep)∧w=w':=by
  have h0:=sq0 h
  clear h
  go_enter Tryz.func122,Tryz.ntmps122
  go_wp2_with (go_at_call 183;go_must (refine (zdu b 0 ep _ h0).mono ?_);rintro e w' ⟨rfl,rfl⟩)
  go_ret
  exact ⟨rfl,rfl⟩
theorem zhH (b:Nat) (ep nx x:Int) (f:Bool) (w:World) (h:w.heap[b]? = some (SqB ep nx)) :
    Calls Tryz.prog 189 #[.pointer (some ⟨b,0,none⟩),.int .i64 x,.bool f] w fun e w'=>e = .returned (errv (asksE ep x f))∧w=w':=by
  have H:=zz0 h
  clear h
  cases f
  · go_enter Tryz.func189,Tryz.ntmps189
    go_wp2
    go_ret
    exact ⟨rfl,rfl⟩
  · by_cases h1:x < ep
    · have e1:asksE ep x true=6:=by simp [asksE,askE,h1]
      rw [e1]
      clear e1
      go_enter Tryz.func189,Tryz.ntmps189
      go_wp2_with (go_at_call 122;go_must (refine (zb1 b ep nx _ H.out).mono ?_);rintro e w' ⟨rfl,rfl⟩)
      go_ret
      exact ⟨rfl,rfl⟩
    · by_cases h2:ep < x
      · have e1:asksE ep x true=7:=by simp [asksE,askE,h1,h2]
        rw [e1]
        clear e1
        go_enter Tryz.func189,Tryz.ntmps189
        go_wp2_with (go_at_call 122;go_must (refine (zb1 b ep nx _ H.out).mono ?_);rintro e w' ⟨rfl,rfl⟩)
        go_ret
        exact ⟨rfl,rfl⟩
      · have e1:asksE ep x true=0:=by simp [asksE,askE,h1,h2]
        rw [e1]
        clear e1
        go_enter Tryz.func189,Tryz.ntmps189
        go_wp2_with (go_at_call 122;go_must (refine (zb1 b ep nx _ H.out).mono ?_);rintro e w' ⟨rfl,rfl⟩)
        go_ret
        exact ⟨rfl,rfl⟩
theorem zdI (b:Nat) (ep nx x:Int) (f:Bool) (w:World) (h:w.heap[b]? = some (SqB ep nx)) (he:asksE ep x f=0) :
    Calls Tryz.prog 189 #[.pointer (some ⟨b,0,none⟩),.int .i64 x,.bool f] w fun e w'=>e = .returned .nilIface∧w=w':=by
  have:=zhH b ep nx x f w h
  rw [he] at this
  exact this
theorem zdH (b:Nat) (ep nx x:Int) (f:Bool) (w:World) (h:w.heap[b]? = some (SqB ep nx)) (he:asksE ep x f≠0) :
    Calls Tryz.prog 189 #[.pointer (some ⟨b,0,none⟩),.int .i64 x,.bool f] w fun e w'=>e = .returned (.iface 55 (.int .i64 (asksE ep x f)))∧w=w':=by
  have:=zhH b ep nx x f w h
  rw [zfu he] at this
  exact this
theorem zoB (w:World) :
    Calls Tryz.prog 59 #[] w fun e w'=>e = .returned (.pointer (some ⟨w.heap.size,0,none⟩))∧w'=w.alloc (SqB 0 0):=by
  go_enter Tryz.func59,Tryz.ntmps59
  go_wp2
  go_ret
  exact ⟨rfl,rfl⟩
theorem zoC (w:World) :
    Calls Tryz.prog 59 #[] w fun e w'=>∃ b,e = .returned (.pointer (some ⟨b,0,none⟩))∧w.heap.size≤b∧Keep Non w w'∧w'.heap[b]? = some (SqB 0 0):=by
  refine (zoB w).mono ?_
  rintro e w' ⟨rfl,rfl⟩
  exact ⟨_,rfl,Nat.le_refl _,(Keep.refl _ _).alloc _,zab _ _⟩
theorem znk (b:Nat) (ep nx x:Int) (w:World) (h:w.heap[b]? = some (SqB ep nx)) :
    Calls Tryz.prog 129 #[.pointer (some ⟨b,0,none⟩),.int .i64 x] w fun e w'=>e = .returned (.tuple #[.int .i64 (tailV ep nx x),errv (askE ep x)])∧w=w':=by
  have H:=zz0 h
  have h1:=sq1 h
  clear h
  by_cases ha:askE ep x=0
  · have e2:tailV ep nx x=nx:=by simp [tailV,ha]
    rw [ha,e2]
    have AZ:Hid (asksE ep x true=0):=ha
    clear e2 ha
    go_enter Tryz.func129,Tryz.ntmps129
    go_wp2_with (first | (go_at_call 189;go_must (refine (zdI b ep nx x true _ H.out AZ.out).mono ?_);rintro e w' ⟨rfl,rfl⟩) | (go_at_call 183;go_must (refine (zdu b 1 nx _ h1).mono ?_);rintro e w' ⟨rfl,rfl⟩))
    go_ret2
    exact ⟨rfl,rfl⟩
  · have e2:tailV ep nx x=0:=by simp [tailV,ha]
    rw [zfu ha,e2]
    have AZ:Hid (asksE ep x true≠0):=ha
    have hq:askE ep x=asksE ep x true:=rfl
    rw [hq]
    clear e2 ha hq
    go_enter Tryz.func129,Tryz.ntmps129
    go_wp2_with (go_at_call 189;go_must (refine (zdH b ep nx x true _ H.out AZ.out).mono ?_);rintro e w' ⟨rfl,rfl⟩)
    go_ret2
    exact ⟨rfl,rfl⟩
theorem zdl (x most:Int) (w:World) (h:fitB 0 most x=true):Calls Tryz.prog 121 #[.int .i64 x,.int .i64 most] w fun e w'=>e = .returned (.bool true)∧w=w':=by
  have:=znI x most w
  rw [h] at this
  exact this
theorem in_no (x most:Int) (w:World) (h:fitB 0 most x=false):Calls Tryz.prog 121 #[.int .i64 x,.int .i64 most] w fun e w'=>e = .returned (.bool false)∧w=w':=by
  have:=znI x most w
  rw [h] at this
  exact this
theorem zkY (b:Nat) (ep nx x n:Int) (w:World) (h:w.heap[b]? = some (SqB ep nx)) (hi:SqIn ep nx) :
    Calls Tryz.prog 187 #[.pointer (some ⟨b,0,none⟩),.int .i64 x,.int .i64 n] w fun e w'=>e = .returned (errv (raiseE ep x n))∧Keep (One b) w w'∧w'.heap[b]? = some (SqB ep (raiseN ep nx x n)):=by
  have H:=zz0 h
  have h1:=sq1 h
  have f1:=sqf h 1
  clear h
  obtain ⟨i0,i1,i2,i3⟩:=hi
  cases hf:fitB 0 1048576 n
  · have e1:raiseE ep x n=1:=by simp [raiseE,asksE,hf]
    have e3:raiseN ep nx x n=nx:=by simp [raiseN,e1]
    have AZ:Hid (asksE ep x false≠0):=(by decide:(1:Int)≠0)
    rw [e1,e3]
    have HF:=zz0 hf
    clear e1 e3 hf
    go_enter Tryz.func187,Tryz.ntmps187
    go_wp2_with fail
    refine (in_no _ _ _ HF.out).mono ?_
    rintro e w' ⟨rfl,rfl⟩
    go_wp2_with fail
    refine (zdH b ep nx x false _ H.out AZ.out).mono ?_
    rintro e w' ⟨rfl,rfl⟩
    go_wp2_with fail
    go_ret
    exact ⟨rfl,Keep.refl _ _,H.out⟩
  · obtain ⟨n0,n1⟩:=zke hf
    have HF:=zz0 hf
    have hq:raiseE ep x n=asksE ep x true:=by simp [raiseE,hf]
    by_cases ha:asksE ep x true=0
    · have AZ:=zz0 ha
      by_cases hr:nx < n
      · have e3:raiseN ep nx x n=n:=by simp [raiseN,hq,ha,hr]
        rw [hq,ha,e3]
        clear e3 ha hq hf
        go_enter Tryz.func187,Tryz.ntmps187
        go_wp2_with fail
        refine (zdl _ _ _ HF.out).mono ?_
        rintro e w' ⟨rfl,rfl⟩
        go_wp2_with fail
        refine (zdI b ep nx x true _ H.out AZ.out).mono ?_
        rintro e w' ⟨rfl,rfl⟩
        go_wp2_with fail
        refine wp_loop_rounds 1 ?_
        rw [rounds_succ]
        go_wp2_with (first | (go_at_call 183;go_must (refine (zdu b 1 nx _ h1).mono ?_);rintro e w' ⟨rfl,rfl⟩) | (go_at_call 259;go_must (refine (znZ b 1 nx _ _ h1 f1).mono ?_);rintro e w' ⟨rfl,rfl⟩))
        go_ret
        exact ⟨rfl,(Keep.refl _ _).setOne _ _,zaf H.out 1 _⟩
      · have e3:raiseN ep nx x n=nx:=by simp [raiseN,hq,ha,hr]
        rw [hq,ha,e3]
        clear e3 ha hq hf
        go_enter Tryz.func187,Tryz.ntmps187
        go_wp2_with fail
        refine (zdl _ _ _ HF.out).mono ?_
        rintro e w' ⟨rfl,rfl⟩
        go_wp2_with fail
        refine (zdI b ep nx x true _ H.out AZ.out).mono ?_
        rintro e w' ⟨rfl,rfl⟩
        go_wp2_with fail
        refine wp_loop_rounds 1 ?_
        rw [rounds_succ]
        go_wp2_with (go_at_call 183;go_must (refine (zdu b 1 nx _ h1).mono ?_);rintro e w' ⟨rfl,rfl⟩)
        go_ret
        exact ⟨rfl,Keep.refl _ _,H.out⟩
    · have AZ:=zz0 ha
      have e3:raiseN ep nx x n=nx:=by simp [raiseN,hq,ha]
      rw [hq,zfu ha,e3]
      clear e3 ha hq hf
      go_enter Tryz.func187,Tryz.ntmps187
      go_wp2_with fail
      refine (zdl _ _ _ HF.out).mono ?_
      rintro e w' ⟨rfl,rfl⟩
      go_wp2_with fail
      refine (zdH b ep nx x true _ H.out AZ.out).mono ?_
      rintro e w' ⟨rfl,rfl⟩
      go_wp2_with fail
      go_ret
      exact ⟨rfl,Keep.refl _ _,H.out⟩
theorem zlf (b:Nat) (ep nx x n:Int) (w:World) (h:w.heap[b]? = some (SqB ep nx)) (hi:SqIn ep nx) :
    Calls Tryz.prog 61 #[.pointer (some ⟨b,0,none⟩),.int .i64 x,.int .i64 n] w fun e w'=>e = .returned (errv (setE ep x n))∧Keep (One b) w w'∧w'.heap[b]? = some (SqB (setP ep x n) (setN ep nx x n)):=by
  have H:=zz0 h
  have h0:=sq0 h
  have h1:=sq1 h
  have f0:=sqf h 0
  have f1:=sqf h 1
  clear h
  obtain ⟨i0,i1,i2,i3⟩:=hi
  cases hx:fitB 0 1099511627776 x
  · have e1:setE ep x n=1:=by simp [setE,hx]
    have e2:setP ep x n=ep:=by simp [setP,e1]
    have e3:setN ep nx x n=nx:=by simp [setN,e1]
    rw [e1,e2,e3]
    have HX:=zz0 hx
    clear e1 e2 e3 hx
    go_enter Tryz.func61,Tryz.ntmps61
    go_wp2_with (go_at_call 121;go_must (refine (in_no _ _ _ HX.out).mono ?_);rintro e w' ⟨rfl,rfl⟩)
    go_ret
    exact ⟨rfl,Keep.refl _ _,H.out⟩
  · cases hn:fitB 0 1048576 n
    · have e1:setE ep x n=1:=by simp [setE,hn]
      have e2:setP ep x n=ep:=by simp [setP,e1]
      have e3:setN ep nx x n=nx:=by simp [setN,e1]
      rw [e1,e2,e3]
      have HX:=zz0 hx
      have HN:=zz0 hn
      clear e1 e2 e3 hx hn
      go_enter Tryz.func61,Tryz.ntmps61
      go_wp2_with fail
      refine (zdl _ _ _ HX.out).mono ?_
      rintro e w' ⟨rfl,rfl⟩
      go_wp2_with fail
      refine (in_no _ _ _ HN.out).mono ?_
      rintro e w' ⟨rfl,rfl⟩
      go_wp2_with fail
      go_ret
      exact ⟨rfl,Keep.refl _ _,H.out⟩
    · have HX:=zz0 hx
      have HN:=zz0 hn
      by_cases hl:x≤ep
      · have e1:setE ep x n=6:=by simp [setE,hx,hn,hl]
        have e2:setP ep x n=ep:=by simp [setP,e1]
        have e3:setN ep nx x n=nx:=by simp [setN,e1]
        rw [e1,e2,e3]
        clear e1 e2 e3 hx hn
        go_enter Tryz.func61,Tryz.ntmps61
        go_wp2_with fail
        refine (zdl _ _ _ HX.out).mono ?_
        rintro e w' ⟨rfl,rfl⟩
        go_wp2_with fail
        refine (zdl _ _ _ HN.out).mono ?_
        rintro e w' ⟨rfl,rfl⟩
        go_wp2_with fail
        refine (zb1 b ep nx _ H.out).mono ?_
        rintro e w' ⟨rfl,rfl⟩
        go_wp2_with fail
        go_ret
        exact ⟨rfl,Keep.refl _ _,H.out⟩
      · have e1:setE ep x n=0:=by simp [setE,hx,hn,hl]
        have e2:setP ep x n=x:=by simp [setP,e1]
        have e3:setN ep nx x n=n:=by simp [setN,e1]
        rw [e1,e2,e3]
        clear e1 e2 e3 hx hn
        go_enter Tryz.func61,Tryz.ntmps61
        go_wp2_with fail
        refine (zdl _ _ _ HX.out).mono ?_
        rintro e w' ⟨rfl,rfl⟩
        go_wp2_with fail
        refine (zdl _ _ _ HN.out).mono ?_
        rintro e w' ⟨rfl,rfl⟩
        go_wp2_with fail
        refine (zb1 b ep nx _ H.out).mono ?_
        rintro e w' ⟨rfl,rfl⟩
        go_wp2_with fail
        refine (zgM b 0 ep x _ h0 f0).mono ?_
        rintro e w' ⟨rfl,rfl⟩
        have g:=zaf H.out 0 (.int .i64 x)
        have h1':=sq1 (ep:=x) (nx:=nx) (by exact g)
        have f1':=sqf (ep:=x) (nx:=nx) (by exact g) 1
        clear g
        go_wp2_with fail
        refine (zgM b 1 nx n _ h1' f1').mono ?_
        rintro e w' ⟨rfl,rfl⟩
        go_wp2_with fail
        go_ret
        exact ⟨rfl,((Keep.refl _ _).setOne _ _).setOne _ _,zaf (zaf H.out 0 _) 1 _⟩
end Go.Proofs.YtnboipdpccnedaaGreatDoor
