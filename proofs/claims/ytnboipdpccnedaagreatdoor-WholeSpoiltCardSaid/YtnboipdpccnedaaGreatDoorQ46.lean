/- The document's digests, as whole arrays: loaded, stored, compared. · store.List of all names: walked. · What WholeSpoilt's walk needs: exports one aft -/
import Derived.Test.YtnboipdpccnedaaGreatDoorRows
import Derived.LaidMore
import Derived.Lib.LaidTab
import Derived.Lay
import Derived.Stop.Joined
import Derived.ProofKit
import Derived.OpenShut
import Derived.Test.YtnboipdpccnedaaGreatDoorQ18
import Derived.Test.YtnboipdpccnedaaGreatDoorQ44
set_option linter.unusedVariables false
set_option maxRecDepth 100000
set_option maxHeartbeats 16000000
namespace Go.Proofs.YtnboipdpccnedaaGreatDoor
open Go.RowKit
theorem hVr (a:Addr):loadVar 49 a=holdV 49 a:=rfl
theorem hWr (a:Addr) (v:Value):storeVar 49 a v=holdW 49 a v:=rfl
theorem szR:(Tryz.prog.info? 49).map (·.size)=some 32:=by kernel_rfl
theorem zin (w:World) (g:Nat) (D:List UInt8) (old:Array Value) (h:D.length=32) (ho:old.size=32) (hg:w.heap[g]? = some (.cells old 49 (0,0))) :
    (holdW 49 ⟨g,0,none⟩ (arrV D)).run Tryz.prog w = .ok () (w.setRow g (D.map bv).toArray) :=
  run_storeVar_row (P:=Tryz.prog) w g 49 49 old (D.map bv).toArray hg (by rw [List.size_toArray,List.length_map,h];exact szR) (ho.trans (by rw [List.size_toArray,List.length_map,h])) (zhT D)
theorem zhc {w:World} {g:Nat} {D:List UInt8} (hg:w.heap[g]? = some (.cells (D.map bv).toArray 49 (0,0))) (h:D.length=32):(holdV 49 ⟨g,0,none⟩).run Tryz.prog w = .ok (arrV D) w :=
  zdv Tryz.isAgg49 Tryz.sizeOf49 w g 0 _ (by rw [List.length_map,h]) (fun j v hv=>by rw [Nat.zero_add,cell_of_row _ _ j _ _ _ hg];simpa using hv)
theorem zpP (D E:List UInt8) (hD:D.length=32) (hE:E.length=32) (w:World):(binOp BinOp.eql 49 (arrV D) (arrV E)).run Tryz.prog w = .ok (.bool (D == E)) w:=by
  have h:=znH 49 5 Tryz.underlying49 Tryz.underlying5 sizeU8 D E hD hE w
  unfold arrV at h ⊢
  simp [go_sem,h]
theorem zmm (o:BinOp) (x y:Operand) (D E:List UInt8) (w:World):(eqGuard o 49 x y (arrV D) (arrV E)).run Tryz.prog w = .ok () w:=by
  unfold arrV
  simp [go_sem,eqGuard]
end Go.Proofs.YtnboipdpccnedaaGreatDoor
namespace Go.Proofs.YtnboipdpccnedaaGreatDoor
open Go.RowKit Go.Maps
theorem infoName:(Tryz.prog.info? 9).map (fun i=>(i.zero,i.size,i.bytes))=some (some (.string ⟨#[]⟩),1,16):=by kernel_rfl
theorem zmG (w:World) (v:Value) (t:TypeId):∀ (i:Nat) u,[v][i]? = some u→(w.alloc (.cells #[v] t)).cell? ((⟨w.heap.size,0,none⟩:Addr).add i)=some u:=by
  intro i u h
  cases i with
  | zero =>
    simp at h
    subst h
    have hb:=zab w (.cells #[v] t)
    rw [zau]
    simp only [World.cell?,hb]
    rfl
  | succ i=>simp at h
theorem znf (F:Nat→Prop) (q p:Nat) (X:Dk) (w:World) (d:StoreAt F w q p X) (hd:X.down=false) (hs:size X.shown≤1000) (ht:X.tidy) :
    Calls Tryz.prog 9 #[.pointer (some ⟨q,0,none⟩),.string ⟨#[]⟩] w fun e w'=>∃ v,∃ ns:List Byt,e = .returned (.tuple #[v,.nilIface])∧(∀ n,n ∈ ns ↔ fhas X.shown n=true)∧Keep Non w w'∧w'.ownsRow w.heap.size 9 1 v ns.length (ns.map sv)∧ns.length≤1000:=by
  obtain ⟨G,dG,hG⟩:=d.dk
  have q0:=st_0 d.blk
  have L:=zz0 (zfs G p X w dG hd hs)
  have ST:=zz0 dG.str
  have HT:=zz0 ht
  have HS:=zz0 hs
  clear d dG hG ht hs
  obtain ⟨i0,hi0,hz0,hz1,hz2⟩:=info_parts infoName
  have I0:=zz0 (And.intro hi0 (And.intro hz0 (And.intro hz1 hz2)))
  clear hi0 hz0 hz1 hz2
  go_enter Tryz.func9,Tryz.ntmps9
  go_wp2_with (go_at_call 30;refine L.out.mono ?_;rintro e w1 ⟨v,ns,rfl,p1,k1,o1⟩;obtain ⟨a1,c1,rfl,_,_⟩:=zaa o1;have K1:=zz0 k1;have P1:=zz0 p1;have O1:=zz0 o1;clear p1 k1 o1)
  obtain ⟨nd,hmem⟩:=zfI ST.out P1.out
  have HM:=zz0 hmem
  have hnl:ns.length≤1000:=by
    have h1:=P1.out.length_eq
    obtain ⟨es,e,_⟩:=ST.out
    have h2:=HS.out
    rw [e] at h1 h2
    rw [h1]
    show (es.map _).length≤_
    rw [List.length_map]
    have h3:size (DataW.map es:Fl)=es.length:=rfl
    omega
  have HNL:=zz0 hnl
  clear nd hmem
  obtain ⟨wl,hwl⟩:∃ wl,wl=w1:=⟨_,rfl⟩
  go_loopw [8,27] (fun o i wr=>∃ j:Nat,j≤ns.length∧i = .int .i64 j∧Keep Non wl wr∧wr.ownsRow wl.heap.size 9 1 o j ((ns.take j).map sv)) (fun _ i _=>ns.length - (intOf i).toNat)
  case atStart =>
    subst hwl
    exact ⟨0,by omega,rfl,Keep.refl _ _,World.ownsRow_nil _ _ _ _⟩
  case round =>
    obtain ⟨j,hj,rfl,kw,ho⟩:=hrel
    obtain ⟨oa,oc,rfl,_,_⟩:=zaa ho
    have KW:=zz0 kw
    have HO:=zz0 ho
    clear kw ho
    by_cases hlt:j < ns.length
    · have hlj:(j:Int) < (ns.length:Int):=by omega
      have O2:=Rd.ofOwns (zac (hwl ▸ O1.out) KW.out (fun _ _ e=>e))
      obtain ⟨g,off,hc⟩:∃ g off,a1=some (⟨g,off,none⟩:Addr)∧∀ j u,(ns.map sv)[j]? = some u→wr.cell? ⟨g,off+j,none⟩=some u:=by
        obtain ⟨a',c',e,hx⟩:=O2
        injection e with e1 e2 e3
        obtain ⟨g,off,e4,hc⟩:=hx (by intro e;rw [List.map_eq_nil_iff] at e;rw [e] at hlt;exact absurd hlt (by simp))
        exact ⟨g,off,e1.trans e4,hc⟩
      obtain ⟨rfl,hc⟩:=hc
      have hcell:=hc j (sv ns[j]) (by rw [List.getElem?_map,List.getElem?_eq_getElem hlt];rfl)
      have hok:=HT.out _ ((HM.out _).1 (List.getElem_mem hlt))
      have NM:=zz0 (fun W=>zfg ns[j] W hok.1)
      rw [decide_eq_true (show ns[j].length≤20∧126 ∉ ns[j] from hok.2)] at NM
      have hhp:=Tryz.strings_HasPrefix ⟨ns[j].toArray⟩ ⟨#[]⟩
      have hb0:Lib.hasPrefix (⟨ns[j].toArray⟩:ByteArray).data.toList (⟨#[]⟩:ByteArray).data.toList=true:=rfl
      rw [hb0] at hhp
      have HP:=zz0 hhp
      have tj:(ns.take (j+1)).map sv=(ns.take j).map sv ++ [sv ns[j]]:=by rw [List.take_succ_eq_append_getElem hlt,List.map_append];rfl
      have TJ:=zz0 tj
      clear hc O2 hhp hb0 tj hok
      unfold sv at hcell NM TJ
      go_wp2_with (first
        | (go_at_call 31;refine (NM.out _).mono ?_;rintro e w2 ⟨rfl,k2⟩;have K2:=zz0 k2;clear k2)
        | (go_at_call 32;refine (HP.out _).mono ?_;rintro e w3 ⟨rfl,e3⟩;subst e3)
        | (at_builtin;refine zaj rfl _ _ 34 rfl wl.heap.size 9 i0 (.string ⟨#[]⟩) 1 16 Tryz.underlying34 I0.out.1 I0.out.2.1 I0.out.2.2.1 I0.out.2.2.2 rfl (by decide) (.slice oa j oc) j _ rfl (zac HO.out (K2.out.alloc _) (fun _ _ e=>e)) ⟨w3.heap.size,0,none⟩ 1 1 [.string ⟨ns[j].toArray⟩] rfl (by simp) (by exact zmG w3 _ _) (fun u hu=>by (simp at hu;subst hu;rfl)) (by have:=HNL.out;unfold maxLen;omega) (by have:=HNL.out;omega) (by have:=KW.out.size;have:=K2.out.size;simp;omega) ?_;intro v3 w4 ho hg hpp;have HO3:=zz0 ho;have HG:=zz0 hg;clear ho hg hpp))
      refine ⟨⟨j+1,by omega,by first | rfl | go_num,?_,by have:=HO3.out;unfold sv;rw [TJ.out];exact this⟩,by simp [intOf];omega⟩
      exact (KW.out.trans1 (K2.out.alloc _)).grown HG.out (fun g e=>.inr (HO.out.lt g e).1)
    · obtain rfl:j=ns.length:=by omega
      have ho:=HO.out
      rw [List.take_length] at ho
      have HOF:=zz0 ho
      clear ho
      go_wp2_with fail
      go_ret2
      subst hwl
      exact ⟨_,ns,rfl,HM.out,K1.out.trans1 KW.out,zad HOF.out K1.out.size,HNL.out⟩
theorem VsSt.keepNon {F FL T:Nat→Prop} {w w':World} {b lb q p:Nat} {lv:Value} {ms:List Mf} {X:Dk} {L:Lg} (h:VsSt F FL T w b lb q p lv ms X L) (k:Keep Non w w'):VsSt F FL T w' b lb q p lv ms X L :=
  ⟨nonAt k h.vt,h.ms.keepNon k,h.st.keep k (fun _ _ e=>e),h.lg.keepNon k,h.lay.keepNon k,h.out,h.apart,h.apartT,fun g y=>⟨(h.low g y).1,k.lt (h.low g y).2⟩,fun g y=>k.lt (h.lowL g y),fun g y=>k.lt (h.lowT g y)⟩
def Spo (w:World) (b lb q p:Nat) (FL:Nat→Prop) (L:Lg) (j:Nat) (wr:World):Prop :=
  ∃ F T la lc ms X,VsSt F FL T wr b lb q p (.slice la ms.length lc) ms X L∧Bk X ms∧Bare X ms∧ms.length≤j∧Keep Non w wr∧(∀ g,F g→w.heap.size≤g)∧w.heap.size≤b
theorem Spo.keepNon {w w1 w2:World} {b lb q p j:Nat} {FL:Nat→Prop} {L:Lg} (h:Spo w b lb q p FL L j w1) (k:Keep Non w1 w2):Spo w b lb q p FL L j w2:=by
  obtain ⟨F,T,la,lc,ms,X,st,h1,h2,h3,h4,h5⟩:=h
  exact ⟨F,T,la,lc,ms,X,st.keepNon k,h1,h2,h3,h4.trans1 k,h5⟩
theorem zpd {w wr:World} {b lb q p j:Nat} {FL:Nat→Prop} {L:Lg} (h:Spo w b lb q p FL L j wr) (hj:j≤4) (hl:Log1 L) (h3:∀ a,(cellL L a).1≠3) (hlow:∀ s ∈ L.shs,s.l=0) (n:Int) :
    Calls Tryz.prog 7 #[.pointer (some ⟨b,0,none⟩),.pointer (some ⟨lb,0,none⟩),.pointer (some ⟨p,0,none⟩),.int .i64 n,.slice none 0 0] wr fun e w'=>e = .returned (.tuple #[.pointer (some ⟨b,0,none⟩),.bool true])∧Spo w b lb q p FL L (j+1) w':=by
  obtain ⟨F,T,la,lc,ms,X,st,hbk,hba,hml,kw,hF,hb⟩:=h
  by_cases hr:(endM ms:Int) < n∧n≤L.next
  · have hn:n=(n.toNat:Int):=by omega
    rw [hn]
    refine (zeE (n:=n.toNat) (lo:=endM ms) wr st hbk hba (by omega) hl h3 hlow rfl (by omega) (by omega)).mono ?_
    rintro e w' ⟨rfl,k,F',T',la',lc',m,Z,st',hbk',hba',-,sb,hT,-⟩
    refine ⟨rfl,F',T',la',lc',ms ++ [m],Z,st',hbk',hba',by simp;omega,kw.trans k (fun _ _ e=>e) (fun g hg y=>?_),fun g y=>?_,hb⟩
    · rcases y with y | y
      · have:=hF g y;omega
      · omega
    · rcases sb g y with u | u
      · exact hF g u
      · have:=kw.size;omega
  · refine (zhw (lo:=endM ms) n wr st hbk hba hl rfl hr).mono ?_
    rintro e w' ⟨rfl,k⟩
    exact ⟨rfl,F,T,la,lc,ms,X,st.keepNon k,hbk,hba,by omega,kw.trans1 k,hF,hb⟩
theorem zpc {F:Nat→Prop} {X:Dk} {ms:List Mf} {n B:Byt} {q p:Nat} (w:World) (hbk:Bk X ms) (hba:Bare X ms) (hn:fhas X.shown n=true) (hB:Bad B) (hl:B.length≤65536) (st:StoreAt F w q p (putX X n B)) (hlay:Lay w) (hF:∀ g,F g→10≤g) :
    Calls Tryz.prog 15 #[.pointer (some ⟨p,0,none⟩)] w fun e w'=>Keep F w w'∧(e = .returned (.tuple #[.pointer none,.iface 55 (.int .i64 11)])∨∃ b',e = .returned (.tuple #[.pointer (some ⟨b',0,none⟩),.nilIface]) ∧
      Calls Tryz.prog 17 #[.pointer (some ⟨b',0,none⟩)] w' fun r w2=>∃ k:Nat,r = .returned (.tuple #[.int .i64 k,.iface 55 (.int .i64 11)])∧Keep Non w' w2):=by
  have hfew:=hbk.few
  obtain ⟨hw,ho,t,ht,htl,hlen⟩:=zhI hbk hba hn
  obtain ⟨-,sy⟩:=zgI hbk hba (n:=n) (B:=B) ho hl
  obtain ⟨G,dG,hG⟩:=st.dk
  have hG10:∀ g,G g→10≤g:=fun g y=>hF g (hG g y).1
  rcases hw with ⟨j,m,hj,rfl⟩ | ⟨j,i,m,hj,hi,rfl⟩
  · have hjl:=zai hj
    refine (znu G p ms j B _ _ _ _ w dG sy.free sy.lim (by omega) (by omega) (by omega) sy.tidy (by omega) (fun i m' hi hm'=>zgJ hbk hm' (fun e=>by have:=zeG (by have:=zai hm';omega) (by omega) e;omega)) sy.has sy.get hB hbk.ok (by omega) hlay hG10).mono ?_
    rintro e w' ⟨rfl,k⟩
    exact ⟨k.mono (fun g _ y=>(hG g y).1),.inl rfl⟩
  · have hjl:=zai hj
    refine (zlL G p ms _ _ _ _ w dG sy.free sy.lim (by omega) (by omega) (by omega) sy.tidy (zhr hbk) hbk.ok (by omega) hlay hG10).mono ?_
    rintro e w' ⟨b',q',la,lc,rfl,vb,mst,k,hb',F',sb,hF',st'⟩
    refine ⟨k.mono (fun g _ y=>(hG g y).1),.inr ⟨b',rfl,?_⟩⟩
    have hlay':Lay w':=hlay.keep k (fun g h10 y=>by have:=hG10 g y;omega)
    refine zlI F' _ b' q' p _ ms _ w' vb st' sy.free.1 hlay' mst (by omega) (fun j m hj=>?_) j i m B hj hi ?_ sy.has sy.get hB (fun j' i' m' pt h1 h2 h3=>zjj hbk hj hi h1 h2 (fun e=>by omega))
    · have hm:=List.mem_of_getElem? hj
      obtain ⟨ok,fo,_,_⟩:=hbk.ok j m hj
      have h4:=(hbk.four m hm).1
      refine ⟨?_,by omega,fun i pt hi=>?_⟩
      · have:=fo.1
        rw [List.length_take] at this
        have:=zai hj
        omega
      · obtain ⟨⟨p1,p2,p3,p4,p5⟩,_⟩:=zaN m.parts m.lo i pt ok.parts hi
        refine ⟨p5,?_,?_⟩
        · rw [hbk.last0];omega
        · obtain ⟨f,cl,e,_,_,_,_,_,h6⟩:=hbk.segs j m hj i pt hi
          rw [e]
          show f+cl.length≤1048576
          exact h6
    · obtain ⟨f,cl,e,_⟩:=hbk.segs j m hj i _ (List.getElem?_eq_getElem hi)
      exact ⟨f,cl,by rw [List.getElem?_eq_getElem hi,e]⟩
end Go.Proofs.YtnboipdpccnedaaGreatDoor
namespace Go.Proofs.YtnboipdpccnedaaGreatDoor
open Go.RowKit Go.Shelf
section
attribute [local go_sem ↓] hVr hWr
theorem zoX (l:List UInt8) (a:Option Addr) (cap:Nat) (w:World) (hb:Bs w (.slice a l.length cap) l) (ht:l.length≤10000) :
    Calls Tryz.prog 13 #[.slice a l.length cap] w fun e w'=>e = .returned (arrV (digB (shaS l)))∧Keep Non w w':=by
  have SM:=zz0 (fun W x y c d (k:Keep Non w W) (hx:Rd W (.slice x 64 c) kvs) (hy:Rd W (.slice y 8 d) fvs)=>zm5 l a cap x y c d W (hb.keepNon k) hx hy ht)
  have HD:Hid ((digB (shaS l)).length=32):=zz0 (zal _)
  generalize digB (shaS l)=D at SM HD ⊢
  clear hb ht
  generalize l.length=n at SM ⊢
  have K0:Hid (Keep Non w (w.alloc (.cells z32 49))):=zz0 ((Keep.refl _ _).alloc _)
  have B0:Hid ((w.alloc (.cells z32 49)).heap[w.heap.size]? = some (.cells z32 49 (0,0))):=zz0 (zab w _)
  have TB:=zz0 (zjo (w.alloc (.cells z32 49)))
  dsimp only [z32] at TB
  go_enter Tryz.func13,Tryz.ntmps13
  go_wp2_with (first
    | (go_at_call 37;refine TB.out.mono ?_;rintro e w1 ⟨x,c,y,d,rfl,k1',r1,r2⟩;have k1:Keep Non (w.alloc (.cells z32 49)) w1:=k1';have SMW:=zz0 (SM.out w1 x y c d (K0.out.trans1 k1) r1 r2);have K1:=zz0 (K0.out.trans1 k1);have B1:=zz0 (nonAt k1 B0.out);clear k1 k1' r1 r2)
    | (go_at_call 38;refine SMW.out.mono ?_;rintro e w2 ⟨rfl,k2⟩;have K2:=zz0 (K1.out.trans1 k2);have z2:=nonAt k2 B1.out;have hst:=zin w2 w.heap.size D z32 HD.out rfl z2;have Z2:=zz0 z2;clear k2 z2))
  have hlv:=zhc (w:=w2.setRow w.heap.size (D.map bv).toArray) (setRow_heap _ _ _ (D.map bv).toArray _ _ Z2.out) HD.out
  unfold holdV at hlv
  refine bodyPost_ret (v:=arrV D) (by simp [results,Tryz.results13,asAddr,hlv]) rfl ?_
  have kf:Keep (One w.heap.size) w2 (w2.setRow w.heap.size (D.map bv).toArray):=(Keep.refl (One w.heap.size) _).setRow (.inl (zar _)) _
  exact ⟨rfl,K2.out.trans kf (fun _ _ e=>e) (fun g hg e=>by have e':g=w.heap.size:=e;omega)⟩
end
end Go.Proofs.YtnboipdpccnedaaGreatDoor
namespace Go.Proofs.YtnboipdpccnedaaGreatDoor
open Go.RowKit
theorem zny (x:Int):0≤IntKind.wrap .u64 x:=by
  have e:(2 ^ IntKind.u64.bits:Int)=18446744073709551616:=rfl
  unfold IntKind.wrap
  simp only [e]
  rw [if_neg (by simp [IntKind.signed])]
  omega
theorem zhz (x:Int) {n:Nat} (h:0 < n):∃ t:Nat,t < n∧(IntKind.wrap .u64 x).tmod (n:Int)=t:=by
  have h1:=Int.tmod_nonneg (n:Int) (zny x)
  have h2:=Int.tmod_lt_of_pos (IntKind.wrap .u64 x) (show (0:Int) < (n:Int) by omega)
  exact ⟨((IntKind.wrap .u64 x).tmod (n:Int)).toNat,by omega,by omega⟩
theorem zpF {w:World} {g off c:Nat} {B:List UInt8} (h:Bs w (.slice (some ⟨g,off,none⟩) B.length c) B) (r:Nat) (hr:r < B.length) (y:UInt8):Bs (w.setCell ⟨g,off+r,none⟩ (bv y)) (.slice (some ⟨g,off,none⟩) B.length c) (B.set r y):=by
  obtain ⟨a,cap,e,hx⟩:=h
  injection e with e1 e2 e3
  have hne:B.map bv≠[]:=fun e=>by rw [List.map_eq_nil_iff] at e;rw [e] at hr;exact absurd hr (by simp)
  obtain ⟨g',off',e4,hc⟩:=hx hne
  rw [← e1] at e4
  injection e4 with e4
  injection e4 with e5 e6
  subst e5
  subst e6
  refine ⟨_,c,by rw [List.length_map,List.length_set],fun _=>⟨g,off,rfl,fun j u hu=>?_⟩⟩
  have h0:=hc r (bv B[r]) (by rw [List.getElem?_map,List.getElem?_eq_getElem hr];rfl)
  have hblk:∃ cs t fr,w.heap[g]? = some (.cells cs t fr)∧∀ i,w.cell? ⟨g,i,none⟩=cs[i]?:=by
    cases hq:w.heap[g]? with
    | none=>simp [World.cell?,hq] at h0
    | some o =>
      cases o with
      | cells cs t fr=>exact ⟨cs,t,fr,rfl,fun i=>by simp [World.cell?,hq]⟩
      | _=>simp [World.cell?,hq] at h0
  obtain ⟨cs,t,fr,hb,hcell⟩:=hblk
  have hb2:=zaf hb (off+r) (bv y)
  have hj:(w.setCell ⟨g,off+r,none⟩ (bv y)).cell? ⟨g,off+j,none⟩=(cs.setIfInBounds (off+r) (bv y))[off+j]?:=by
    simp only [World.cell?,hb2]
    rfl
  rw [hj,Array.getElem?_setIfInBounds]
  rw [List.getElem?_map] at hu
  by_cases hjr:j=r
  · subst hjr
    rw [List.getElem?_set_self hr] at hu
    rw [hcell] at h0
    have hlt:=(Array.getElem?_eq_some_iff.1 h0).1
    rw [if_pos rfl,if_pos hlt]
    exact hu
  · rw [List.getElem?_set_ne (fun e=>hjr e.symm)] at hu
    rw [if_neg (by omega),← hcell]
    exact hc j u (by rw [List.getElem?_map];exact hu)
end Go.Proofs.YtnboipdpccnedaaGreatDoor
namespace Go.Proofs.YtnboipdpccnedaaGreatDoor
open Go.ChangeShapes Go.WideShapes Go.ChangeAt Go.RowKit Go.Deep
theorem own:ownKnob Tryz.prog.godebug=none:=by kernel_rfl
theorem laidOut:laidOutB Tryz.prog=true:=by kernel_rfl
abbrev laid9:List (String × DataW Unit):=[("math/bits.deBruijn32tab",Rows.laid_math_bits_deBruijn32tab),("math/bits.deBruijn64tab",Rows.laid_math_bits_deBruijn64tab),("internal/strconv.uint64pow10",Rows.laid_internal_strconv_uint64pow10),("unicode/utf8.acceptRanges",Rows.laid_unicode_utf8_acceptRanges),("strconv.ErrRange",Rows.laid_strconv_ErrRange),("strconv.ErrSyntax",Rows.laid_strconv_ErrSyntax),("holdfast/sha.constants",Rows.laid_holdfast_sha_constants),("holdfast/sha.firsts",Rows.laid_holdfast_sha_firsts),("unicode/utf8.first",Rows.laid_unicode_utf8_first)]
theorem zaM {P:Program} {x:String × DataW Unit} {l:List (String × DataW Unit)} {w:World} (h:laidMet P (x :: l) w):laidMet P l w:=by
  obtain ⟨ps,⟨g,t,cs,fuel,p,q,_,_,_,_,hq,rfl⟩,hn,hc⟩:=h
  exact ⟨q,hq,(List.nodup_append.1 hn).2.1,fun b off hm=>hc b off (List.mem_append_right _ hm)⟩
theorem zc2 {P:Program} {w:World} {n:String} {g:Nat} {cs:Array Value} (hg:P.globalNamed n=some g) (h:w.var? P n=some cs):∃ (tt:TypeId) (fr:Nat × Nat),w.heap[g]? = some (.cells cs tt fr):=by
  simp only [World.var?,hg,Option.bind_some] at h
  split at h
  · next cs' tt fr e =>
    obtain rfl:=Option.some.inj h
    exact ⟨tt,fr,e⟩
  · cases h
def fList:List Int:=[0x6a09e667,0xbb67ae85,0x3c6ef372,0xa54ff53a,0x510e527f,0x9b05688c,0x1f83d9ab,0x5be0cd19]
theorem cData:(Rows.laid_holdfast_sha_constants:DataW Unit)=Lib.tabData .u32 kList:=by kernel_rfl
theorem fData:(Rows.laid_holdfast_sha_firsts:DataW Unit)=Lib.tabData .u32 fList:=by kernel_rfl
theorem pData:(Rows.laid_internal_strconv_uint64pow10:DataW Unit)=Lib.tabData .u64 Lib.pow10Tab:=by kernel_rfl
theorem gCons:Tryz.prog.globalNamed "holdfast/sha.constants" = some 2:=by kernel_rfl
theorem gFirs:Tryz.prog.globalNamed "holdfast/sha.firsts" = some 1:=by kernel_rfl
theorem gLast:Tryz.prog.globalNamed "math/bits.deBruijn64tab" = some 9:=by kernel_rfl
theorem tCons:(Tryz.prog.globals[2]?).map (·.type)=some 417:=by kernel_rfl
theorem tFirs:(Tryz.prog.globals[1]?).map (·.type)=some 373:=by kernel_rfl
theorem tPow:(Tryz.prog.globals[5]?).map (·.type)=some 439:=by kernel_rfl
theorem zoF {W:World} (h:laidMetH Tryz.prog laid9 W):Lay W∧10≤W.heap.size:=by
  rw [MakeChecks.laidMetH_plain _ _ _ (by kernel_rfl)] at h
  have h0:laidMet Tryz.prog laid9 W:=h
  have h1:laidMet Tryz.prog [("math/bits.deBruijn64tab",Rows.laid_math_bits_deBruijn64tab),("internal/strconv.uint64pow10",Rows.laid_internal_strconv_uint64pow10),("unicode/utf8.acceptRanges",Rows.laid_unicode_utf8_acceptRanges),("strconv.ErrRange",Rows.laid_strconv_ErrRange),("strconv.ErrSyntax",Rows.laid_strconv_ErrSyntax),("holdfast/sha.constants",Rows.laid_holdfast_sha_constants),("holdfast/sha.firsts",Rows.laid_holdfast_sha_firsts),("unicode/utf8.first",Rows.laid_unicode_utf8_first)] W:=zaM h0
  have h2:laidMet Tryz.prog [("internal/strconv.uint64pow10",Rows.laid_internal_strconv_uint64pow10),("unicode/utf8.acceptRanges",Rows.laid_unicode_utf8_acceptRanges),("strconv.ErrRange",Rows.laid_strconv_ErrRange),("strconv.ErrSyntax",Rows.laid_strconv_ErrSyntax),("holdfast/sha.constants",Rows.laid_holdfast_sha_constants),("holdfast/sha.firsts",Rows.laid_holdfast_sha_firsts),("unicode/utf8.first",Rows.laid_unicode_utf8_first)] W:=zaM h1
  have h3:laidMet Tryz.prog [("unicode/utf8.acceptRanges",Rows.laid_unicode_utf8_acceptRanges),("strconv.ErrRange",Rows.laid_strconv_ErrRange),("strconv.ErrSyntax",Rows.laid_strconv_ErrSyntax),("holdfast/sha.constants",Rows.laid_holdfast_sha_constants),("holdfast/sha.firsts",Rows.laid_holdfast_sha_firsts),("unicode/utf8.first",Rows.laid_unicode_utf8_first)] W:=zaM h2
  have h4:laidMet Tryz.prog [("strconv.ErrRange",Rows.laid_strconv_ErrRange),("strconv.ErrSyntax",Rows.laid_strconv_ErrSyntax),("holdfast/sha.constants",Rows.laid_holdfast_sha_constants),("holdfast/sha.firsts",Rows.laid_holdfast_sha_firsts),("unicode/utf8.first",Rows.laid_unicode_utf8_first)] W:=zaM h3
  have h5:laidMet Tryz.prog [("strconv.ErrSyntax",Rows.laid_strconv_ErrSyntax),("holdfast/sha.constants",Rows.laid_holdfast_sha_constants),("holdfast/sha.firsts",Rows.laid_holdfast_sha_firsts),("unicode/utf8.first",Rows.laid_unicode_utf8_first)] W:=zaM h4
  have h6:laidMet Tryz.prog [("holdfast/sha.constants",Rows.laid_holdfast_sha_constants),("holdfast/sha.firsts",Rows.laid_holdfast_sha_firsts),("unicode/utf8.first",Rows.laid_unicode_utf8_first)] W:=zaM h5
  have h7:laidMet Tryz.prog [("holdfast/sha.firsts",Rows.laid_holdfast_sha_firsts),("unicode/utf8.first",Rows.laid_unicode_utf8_first)] W:=zaM h6
  obtain ⟨p9,⟨g9,t9,cs9,f9,_,_,hg9,_,hv9,_,_,_⟩,_⟩:=h1
  obtain rfl:=Option.some.inj (gLast.symm.trans hg9)
  obtain ⟨tt9,fr9,hb9⟩:=zc2 gLast hv9
  have h10:10≤W.heap.size:=by
    have:=lt_of_block hb9
    omega
  have hp:Pow W:=by
    rw [pData] at h2
    exact Lib.tabIs_of_head znN tPow Tryz.underlying439 Tryz.underlying162 (by kernel_rfl) (by kernel_rfl) h2
  have c1:Lib.TabIs Tryz.prog W "holdfast/sha.constants" .u32 kList:=by
    rw [cData] at h6
    exact Lib.tabIs_of_head gCons tCons Tryz.underlying417 Tryz.underlying167 (by kernel_rfl) (by kernel_rfl) h6
  have c2:Lib.TabIs Tryz.prog W "holdfast/sha.firsts" .u32 fList:=by
    rw [fData] at h7
    exact Lib.tabIs_of_head gFirs tFirs Tryz.underlying373 Tryz.underlying167 (by kernel_rfl) (by kernel_rfl) h7
  obtain ⟨tf,ff,hf⟩:=zc2 gFirs c2
  obtain ⟨tc,fc,hc⟩:=zc2 gCons c1
  refine ⟨⟨⟨_,?_,⟨tc,fc,hc⟩,?_,fun i hi=>?_⟩,⟨tf,ff,hf⟩,hp⟩,h10⟩
  · rfl
  · have:=lt_of_block hc
    omega
  · have hl:kList.length=64:=rfl
    simp [kI,show i < kList.length by omega]
end Go.Proofs.YtnboipdpccnedaaGreatDoor
