/- holdfasttop.WholeSpoilt, where there is something to do: walked. · holdfasttop.WholeSpoilt: walked whole. -/
import Derived.Test.YtnboipdpccnedaaGreatDoorQ45
import Derived.Test.YtnboipdpccnedaaGreatDoorQ46
set_option linter.unusedVariables false
set_option maxRecDepth 100000
set_option maxHeartbeats 16000000
namespace Go.Proofs.YtnboipdpccnedaaGreatDoor
open Go.RowKit Go.Maps
theorem znW (cl:List Cl) (h:cl.length≤200):Log1 (bagL cl)∧(∀ s ∈ (bagL cl).shs,s.l=0)∧∀ a,(cellL (bagL cl) a).1≠3 :=
  ⟨(za5 cl h).log h,(za5 cl h).low,(za5 cl h).not3⟩
theorem zpa {X:Dk} {ms:List Mf} {ns:List Byt} {w:World} {base:Nat} {na:Option Addr} {nc:Nat} (hbk:Bk X ms) (hba:Bare X ms) (hmem:∀ n,n ∈ ns ↔ fhas X.shown n=true) (hl:ns.length≤1000) (o:w.ownsRow base 9 1 (.slice na ns.length nc) ns.length (ns.map sv)) (s0:Int) :
    (((ns.length:Int) == 0)=true∧ms.length=0)∨∃ (k:Nat) (nm t:Byt) (g:Nat),((ns.length:Int) == 0)=false∧(k:Int) < (ns.length:Int)∧na=some ⟨g,0,none⟩∧w.cell? ⟨g,k,none⟩=some (sv nm)∧(IntKind.wrap .u64 s0).tmod (ns.length:Int)=k∧IntKind.wrap .u64 (ns.length:Int)=ns.length∧IntKind.wrap .i64 (k:Int)=k∧¬ ((ns.length:Int)=0)∧fhas X.shown nm=true∧okObj nm∧fget X.shown nm=frameB t∧t.length≤65536∧(frameB t).length≤10000:=by
  by_cases h0:ns.length=0
  · refine .inl ⟨by simp [h0],?_⟩
    rcases Nat.eq_zero_or_pos ms.length with h | h
    · exact h
    · obtain ⟨n,hn⟩:=zjF hbk (List.length_pos_iff.1 h)
      have:=(hmem n).2 hn
      rw [List.eq_nil_of_length_eq_zero h0] at this
      cases this
  · obtain ⟨k,hk,hrem⟩:=zhz s0 (n:=ns.length) (by omega)
    have hin:ns[k] ∈ ns:=List.getElem_mem hk
    obtain ⟨_,hok,t,h1,h2,h3⟩:=zhI hbk hba ((hmem _).1 hin)
    rcases o.2 with ⟨_,hn⟩ | ⟨g,cap,cur,e,_⟩
    · exact absurd hn h0
    · injection e with e1 e2 e3
      have hcell:=World.ownsRow.cells o (g:=g) (by rw [e1];rfl) k (sv ns[k]) (by rw [List.getElem?_map,List.getElem?_eq_getElem hk];rfl)
      rw [zau,Nat.zero_add] at hcell
      exact .inr ⟨k,ns[k],t,g,beq_eq_false_iff_ne.2 (by omega),by omega,e1,hcell,hrem,wrap64 (by omega),IntWalk.i64_in _ (by omega),by omega,(hmem _).1 hin,hok,h1,h2,h3⟩
theorem zpb (t:Byt) (s1 s2:Int) (hl:(frameB t).length≤10000):∃ (NB NT hd k r M N4 e:Nat),(frameB t).length=NB∧t.length=NT∧IntKind.wrap .i64 ((NB:Int) - 4)=N4∧IntKind.wrap .i64 ((N4:Int) - (NT:Int))=hd∧IntKind.wrap .i64 ((NB:Int) - (hd:Int))=M∧IntKind.wrap .u64 (M:Int)=M∧(IntKind.wrap .u64 s1).tmod (M:Int)=k∧IntKind.wrap .i64 (k:Int)=k∧IntKind.wrap .i64 ((hd:Int)+(k:Int))=r∧¬ ((M:Int)=0)∧(r:Int) < (NB:Int)∧(vput t.length).length≤r∧(IntKind.wrap .u64 s2).tmod 8=e∧e < 8:=by
  have hN:=zcm t
  obtain ⟨k,hk,e1⟩:=zhz s1 (n:=t.length+4) (by omega)
  obtain ⟨e,he,e2⟩:=zhz s2 (n:=8) (by omega)
  exact ⟨_,_,(vput t.length).length,k,(vput t.length).length+k,t.length+4,(frameB t).length - 4,e,rfl,rfl,(IntWalk.i64_in _ (by omega)).trans (by omega),(IntWalk.i64_in _ (by omega)).trans (by omega),(IntWalk.i64_in _ (by omega)).trans (by omega),wrap64 (by omega),e1,IntWalk.i64_in _ (by omega),(IntWalk.i64_in _ (by omega)).trans (by omega),by omega,by omega,by omega,e2,he⟩
theorem zng {w:World} {base:Nat} {a:Option Addr} {c:Nat} {B:Byt} (o:w.ownsRow base 5 1 (.slice a B.length c) B.length (B.map bv)) (h0:0 < B.length):∃ g,a=some ⟨g,0,none⟩∧base≤g∧g < w.heap.size∧(∀ (j:Nat) (hj:j < B.length),w.cell? ⟨g,j,none⟩=some (bv B[j]))∧∀ W,Keep Non w W→∀ j,W.frozen? ⟨g,j,none⟩=false:=by
  rcases o.2 with ⟨_,hn⟩ | ⟨g,cap,cur,e,_,hg,_⟩
  · omega
  · injection e with e1 e2 e3
    have hlt:=o.lt g (by rw [e1];rfl)
    refine ⟨g,e1,hlt.1,hlt.2,fun j hj=>?_,fun W k j=>by simp [World.frozen?,nonAt k hg]⟩
    have hcell:=World.ownsRow.cells o (g:=g) (by rw [e1];rfl) j (bv B[j]) (by rw [List.getElem?_map,List.getElem?_eq_getElem hj];rfl)
    rwa [zau,Nat.zero_add] at hcell
theorem zpB:∀ n,n < 256→∀ e,e < 8→bits .xor .u8 ((n:Nat):Int) (IntKind.u8.wrap (2 ^ e))=((n ^^^ 2 ^ e:Nat):Int)∧n ^^^ 2 ^ e < 256∧n ^^^ 2 ^ e≠n:=by decide +kernel
theorem zpC (c:UInt8) {e:Nat} (he:e < 8):Value.int .u8 (bits .xor .u8 (c.toNat:Int) (IntKind.u8.wrap (2 ^ e)))=bv (UInt8.ofNat (c.toNat ^^^ 2 ^ e))∧UInt8.ofNat (c.toNat ^^^ 2 ^ e)≠c:=by
  obtain ⟨h1,h2,h3⟩:=zpB c.toNat c.toNat_lt e he
  have h4:(UInt8.ofNat (c.toNat ^^^ 2 ^ e)).toNat=c.toNat ^^^ 2 ^ e:=UInt8.toNat_ofNat_of_lt' h2
  refine ⟨?_,fun q=>h3 ?_⟩
  · rw [h1]
    show Value.int .u8 _=Value.int .u8 _
    rw [h4]
  · rw [← h4,q]
structure SpSet (w:World) (g:Nat) (v:Value) (B:List UInt8) (W:World):Prop where
  kp:Keep (One g) w W
  bs:Bs W v B
theorem SpSet.drew {w:World} {g:Nat} {v:Value} {B:List UInt8} {W:World} (h:SpSet w g v B W):SpSet w g v B W.drew:=⟨h.kp.drew,h.bs.keepNon (Keep.refl _ _).drew⟩
section
attribute [local go_sem ↓] hVr hWr
theorem zlr (v ev:Value) (cl:List Cl) (es:List Int) (s0 s1 s2:Int) (w:World) (hc:CellsIn w v cl) (hm:cl.length≤9223372036854775807) (he:Rd w ev (es.map (fun x=>Value.int .i64 x))) (hlay:Lay w) (h10:10≤w.heap.size) (hlong:longL cl=false) (hcl:cl.length≤200) (h5:es.length≤5) :
    Calls Tryz.prog 3 #[v,ev,.agg #[.int .i64 s0,.int .i64 s1,.int .i64 s2]] w fun e w'=>e = .returned (.bool true)∧Keep Non w w':=by
  have HL:=zz0 (znW cl hcl)
  have BK:=zz0 (fun W (k:Keep Non w W)=>zgP W (hlay.keepNon k) (Nat.le_trans h10 k.size))
  have LG:=zz0 (fun W (k:Keep Non w W)=>ziq v cl W (hc.keep k (fun _ _ e=>e)) hm)
  rw [hlong] at LG
  have BG:=zz0 (fun W (k:Keep Non w W)=>zfi v cl W (hc.keep k (fun _ _ e=>e)) hcl (hlay.keepNon k) (Nat.le_trans h10 k.size))
  have HE:=zz0 he
  have H10:=zz0 h10
  obtain ⟨xa,xc,rfl,hx⟩:=hc
  obtain ⟨ya,yc,rfl,hy⟩:=he
  rw [List.length_map] at *
  have h5':¬ (5:Int) < (es.length:Int):=by omega
  have K0:Hid (Keep Non w (w.alloc (.cells #[.int .i64 s0,.int .i64 s1,.int .i64 s2] 24))):=zz0 ((Keep.refl _ _).alloc _)
  have SB0:Hid ((w.alloc (.cells #[.int .i64 s0,.int .i64 s1,.int .i64 s2] 24)).heap[w.heap.size]? = some (.cells #[.int .i64 s0,.int .i64 s1,.int .i64 s2] 24 (0,0))):=zz0 (zab w _)
  clear hx hy hlay h10 hlong
  go_enter Tryz.func3,Tryz.ntmps3
  go_wp2_with (first
    | (go_at_call 4;refine (BK.out _ K0.out).mono ?_;rintro e w1 ⟨rfl,k1⟩;have K1:=zz0 (K0.out.trans1 k1);have SB1:=zz0 (nonAt k1 SB0.out);clear k1)
    | (go_at_call 5;refine (LG.out _ K1.out).mono ?_;rintro e w2 ⟨rfl,k2⟩;have K2:=zz0 (K1.out.trans1 k2);have SB2:=zz0 (nonAt k2 SB1.out);clear k2)
    | (go_at_call 6;refine (BG.out _ K2.out).mono ?_;rintro e w3 ⟨lb,b,p,q,F,FL,rfl,k3,v1,lo1⟩;have K3:=zz0 k3;have V1:=zz0 v1;have LO:=zz0 lo1;clear k3 v1 lo1))
  have SP3:Hid (Spo w2 b lb q p FL (bagL cl) 0 w3):=zz0 (by
    refine ⟨F,Non,none,0,[],dk0 16777216,V1.out.chain,zhL.1,zhL.2,by decide,K3.out,?_⟩
    exact ⟨fun g y=>LO.out g (.inl y),LO.out b (.inr rfl)⟩)
  go_loopw [8,42] (fun vv i wr=>∃ j:Nat,j≤es.length∧i = .int .i64 j∧vv = .pointer (some ⟨b,0,none⟩)∧Spo w2 b lb q p FL (bagL cl) j wr) (fun _ i _=>es.length - (intOf i).toNat)
  case atStart=>exact ⟨0,by omega,rfl,rfl,SP3.out⟩
  case round =>
    obtain ⟨j,hj,rfl,rfl,sp⟩:=hrel
    have SP:=zz0 sp
    clear sp
    by_cases hlt:j < es.length
    · have hlj:(j:Int) < (es.length:Int):=by omega
      obtain ⟨F2,T2,la2,lc2,ms2,X2,_,_,_,_,kw2,_⟩:=SP.out
      have hcell:∃ g off,ya=some (⟨g,off,none⟩:Addr)∧wr.cell? ⟨g,off+j,none⟩=some (.int .i64 es[j]):=by
        obtain ⟨a',c',e,hx⟩:=HE.out.keepNon (K2.out.trans1 kw2)
        injection e with e1 e2 e3
        obtain ⟨g,off,e4,hc⟩:=hx (by intro e;rw [List.map_eq_nil_iff] at e;rw [e] at hlt;exact absurd hlt (by simp))
        exact ⟨g,off,e1.trans e4,hc j _ (by rw [List.getElem?_map,List.getElem?_eq_getElem hlt];rfl)⟩
      obtain ⟨g,off,rfl,hcell⟩:=hcell
      have EX:=zz0 (zpd SP.out (by omega) HL.out.1 HL.out.2.2 HL.out.2.1 es[j])
      clear kw2
      go_wp2_with (go_at_call 7;refine EX.out.mono ?_;rintro e w5 ⟨rfl,s5⟩;have S5:=zz0 s5;clear s5)
      exact ⟨⟨j+1,by omega,by first | rfl | go_num,rfl,S5.out⟩,by simp [intOf];omega⟩
    · have hlj:¬ (j:Int) < (es.length:Int):=by omega
      obtain ⟨F2,T2,la,lc,ms,X,st,hbk,hba,hml,kw,hF2,hb2⟩:=SP.out
      have hfew:=hbk.few
      have LS:=zz0 (znf F2 q p X wr st.st hbk.free.1 (by have:=hba.lim.files;omega) hbk.tidy)
      have STO:=zz0 (fun W (k:Keep Non wr W)=>zch b q (.slice la ms.length lc) W (nonAt k st.vt))
      have STOw:=zz0 (STO.out wr (Keep.refl _ _))
      have ST:=zz0 st
      have HBK:=zz0 hbk
      have HBA:=zz0 hba
      have KR:=zz0 (K2.out.trans1 kw)
      have SBR:=zz0 (nonAt kw SB2.out)
      have HF2:=zz0 hF2
      have VC:=zz0 (fun W (k:Keep Non wr W)=>zbC T2 b q (.slice la ms.length lc) ms W (nonAt k st.vt) (st.ms.keepNon k) hbk.p32 (by omega))
      have GT:=zz0 (fun W n (k:Keep Non wr W) (h1:okObj n) (h2:fhas X.shown n=true) (h3:(fget X.shown n).length≤1000000000)=>zcD F2 q p n X W (st.st.keep k (fun _ _ e=>e)) h1 hbk.free.1 h2 h3)
      have SBC:Hid (∀ W,Keep Non wr W→W.cell? ⟨w.heap.size,0,none⟩=some (.int .i64 s0)∧W.cell? ⟨w.heap.size,1,none⟩=some (.int .i64 s1)∧W.cell? ⟨w.heap.size,2,none⟩=some (.int .i64 s2)):=zz0 (fun W k=>by
        have hb:=nonAt k SBR.out
        exact ⟨by simp [World.cell?,hb],by simp [World.cell?,hb],by simp [World.cell?,hb]⟩)
      clear st hbk hba kw hF2
      go_wp2_with (first
        | (go_at_call 8;first
          | ((with_reducible refine STOw.out.mono ?_);rintro e w4 ⟨rfl,e4⟩;subst e4)
          | ((with_reducible refine (STO.out w5 K5.out).mono ?_);rintro e w6 ⟨rfl,e6⟩;subst e6;have GTW:=zz0 (GT.out _ nm K5.out hn10 hn9 (by rw [hn11];omega))))
        | (go_at_call 9;((with_reducible refine LS.out.mono ?_);rintro e w5 ⟨nv,ns,rfl,hmem,k5,o5,hnl⟩;obtain ⟨na,nc,rfl,_,_⟩:=zaa o5;have K5:=zz0 k5;have HMEM:=zz0 hmem;have O5:=zz0 o5;rcases zpa HBK.out HBA.out hmem hnl o5 s0 with ⟨hn0,hm0⟩ | ⟨k0,nm,t,gn,hn1,hn2,rfl,hn4,hn5,hn6,hn7,hn8,hn9,hn10,hn11,hn12,hn13⟩;all_goals (clear k5 o5 hmem;obtain ⟨sc0,-,-⟩:=SBC.out w5 K5.out;try unfold sv at hn4)))
        | (go_at_call 11;unfold sv at GTW;rw [hn11] at GTW;((with_reducible refine GTW.out.mono ?_);rintro e w7 ⟨v7,rfl,k7,o7⟩);obtain ⟨a7,c7,rfl,_,_⟩:=zaa o7;obtain ⟨g7,rfl,hg7,hg7',hb7,hf7⟩:=zng o7 (by have:=zcm t;omega);obtain ⟨NB,NT,hd,k1,r1,M,N4,e8,hNB,hNT,hs1,hs2,hs3,hs4,hs5,hs6,hs7,hM0,hr1,hr2,hs8,he8⟩:=zpb t s1 s2 hn13
           have K7:=zz0 (K5.out.trans1 k7);have O7:=zz0 o7;have HB7:=zz0 hb7;have HF7:=zz0 hf7;have G7:=zz0 (And.intro hg7 hg7')
           have ONW:=zz0 (zg6 (.slice (some ⟨g7,0,none⟩) (frameB t).length c7) t w7 (Rd.ofOwns o7) (zbw o7) hn12 (fun g e=>(o7.lt g e).2))
           have OF:=zz0 (fun W B (hl:B.length=(frameB t).length) (h:Bs W (.slice (some ⟨g7,0,none⟩) B.length c7) B)=>zoX B (some ⟨g7,0,none⟩) c7 W h (by omega))
           have HN13:=zz0 (And.intro hn12 hn13)
           have HDL:Hid ((digB (shaS (frameB t))).length=32):=zz0 (zal _)
           obtain ⟨D,hD⟩:∃ D,D=digB (shaS (frameB t)):=⟨_,rfl⟩
           rw [← hD] at HDL
           have HD:=zz0 hD
           clear k7 o7 hb7 hn13 hg7 hg7' hf7 hD)
        | (go_at_call 12;rw [hNB] at ONW;refine ONW.out.mono ?_;rintro e w8 ⟨k8,v8,rfl,n8,-,-⟩;obtain ⟨a8,c8,rfl,-⟩:=zaw n8;(try rw [hNT]);have K8:=zz0 (K7.out.trans1 k8);have K78:=zz0 k8;have OFW:=zz0 (OF.out w8 (frameB t) rfl (Rd.keepNon (Rd.ofOwns O7.out) k8));rw [← HD.out,hNB] at OFW;clear k8 n8)
        | (go_at_call 13;((with_reducible refine OFW.out.mono ?_);rintro e w9 ⟨rfl,k9⟩);have hst:=zin (w9.alloc (.cells z32 49)) w9.heap.size D z32 HDL.out rfl (zab _ _);obtain ⟨wc,hwc⟩:∃ wc,wc=(w9.alloc (.cells z32 49)).setRow w9.heap.size (D.map bv).toArray:=⟨_,rfl⟩
           have KC:Hid (Keep Non w8 wc):=zz0 (by rw [hwc];exact (k9.alloc _).setRow (.inr k9.size) _)
           have DC:Hid (wc.heap[w9.heap.size]? = some (.cells (D.map bv).toArray 49 (0,0))):=zz0 (by rw [hwc];exact setRow_heap _ _ _ _ _ _ (zab _ _))
           have Z9:=zz0 k9.size
           rw [← hwc] at hst;dsimp only [z32] at hst;clear k9 hwc)
        | (go_at_call 10;((with_reducible refine (VC.out _ K5.out).mono ?_);rintro e w6 ⟨v6,rfl,k6,m6⟩;obtain ⟨a6,c6,rfl,_⟩:=m6;have K6:=zz0 k6;clear k6)))
      · go_ret
        exact ⟨rfl,KR.out.trans1 (K5.out.trans1 K6.out)⟩
      · have kw:Keep Non w4 wc:=K8.out.trans1 KC.out
        have k7:Keep Non w7 wc:=K78.out.trans1 KC.out
        obtain ⟨cb,hcb⟩:∃ cb,(frameB t)[r1]? = some cb:=⟨_,List.getElem?_eq_getElem (by omega)⟩
        have hcell:w7.cell? ⟨g7,r1,none⟩=some (.int .u8 cb.toNat):=by
          have h1:r1 < (frameB t).length:=by omega
          have h2:=HB7.out r1 h1
          rw [List.getElem?_eq_getElem h1] at hcb
          injection hcb with hcb
          rw [h2,hcb]
          rfl
        have CELL:Hid (∀ W,Keep Non w7 W→W.cell? ⟨g7,r1,none⟩=some (.int .u8 cb.toNat)):=zz0 (fun W k=>(World.cell?_of_block (k.block g7 G7.out.2 (fun e=>e))).trans hcell)
        have KW:=zz0 kw
        have KW7:=zz0 k7
        have HCB:=zz0 hcb
        obtain ⟨-,sc1,sc2⟩:=SBC.out wc.drew kw.drew
        have cc:=CELL.out wc.drew k7.drew
        have cf:=HF7.out wc.drew k7.drew r1
        have hM0n:¬ M=0:=by omega
        clear kw k7 hcb hcell hst
        obtain ⟨hx8,hx9⟩:=zpC cb he8
        obtain ⟨c2,hc2⟩:∃ c2,c2=UInt8.ofNat (cb.toNat ^^^ 2 ^ e8):=⟨_,rfl⟩
        rw [← hc2] at hx8 hx9
        obtain ⟨B2,hB2⟩:∃ B2,B2=(frameB t).set r1 c2:=⟨_,rfl⟩
        have hBl:B2.length=NB:=by rw [hB2,List.length_set,hNB]
        have BAD:Hid (Bad B2):=zz0 (by rw [hB2];exact zpE HN13.out.1 hr2 (by omega) (by rw [HCB.out];exact fun e=>hx9 (Option.some.inj e).symm))
        have P27:Hid (SpSet wc g7 (.slice (some ⟨g7,0,none⟩) NB c7) B2 (wc.setCell ⟨g7,r1,none⟩ (.int .u8 (bits .xor .u8 cb.toNat (IntKind.u8.wrap (2 ^ e8)))))):=zz0 (by
          rw [hx8,hB2,← hNB]
          have hb:=zpF (Rd.keepNon (Rd.ofOwns O7.out) KW7.out) r1 (by omega) c2
          rw [Nat.zero_add] at hb
          exact ⟨(Keep.refl _ _).setOne _ _,hb⟩)
        have HB2:=zz0 hBl
        clear hx8 hx9 hc2 hB2 hBl
        refine (fun (FIN:Hid ?T)=>?main) (zz0 ?fin)
        case' main =>
          go_region_law fail
        any_goals
          have e1:=P27.out
          have e2:=P27.out.drew
          first
          | (obtain ⟨W27,hW⟩:∃ W,W=(wc.setCell ⟨g7,r1,none⟩ (.int .u8 (bits .xor .u8 cb.toNat (IntKind.u8.wrap (2 ^ e8))))).drew:=⟨_,rfl⟩
             rw [← hW] at e2 ⊢
             have E27:=zz0 e2
             clear e1 e2 hW
             revert W27
             exact FIN.out)
          | (obtain ⟨W27,hW⟩:∃ W,W=(wc.setCell ⟨g7,r1,none⟩ (.int .u8 (bits .xor .u8 cb.toNat (IntKind.u8.wrap (2 ^ e8))))):=⟨_,rfl⟩
             rw [← hW] at e1 ⊢
             have E27:=zz0 e1
             clear e1 e2 hW
             revert W27
             exact FIN.out)
        intro W27 E27
        have hg7:w4.heap.size≤g7:=by have:=G7.out.1;have:=K5.out.size;omega
        have k47:Keep Non w4 W27:=KW.out.trans E27.out.kp (fun _ _ e=>e) (fun g hg e=>by have e':g=g7:=e;omega)
        have K47:=zz0 k47
        have hne7:w9.heap.size≠g7:=by have:=G7.out.2;have:=K78.out.size;have:=Z9.out;omega
        have LD2:Hid (∀ W,Keep Non W27 W→(holdV 49 ⟨w9.heap.size,0,none⟩).run Tryz.prog W = .ok (arrV D) W):=zz0 (fun W k=>zhc (nonAt k (E27.out.kp.at DC.out hne7)) HDL.out)
        obtain ⟨D2,hD2⟩:∃ D2,D2=digB (shaS B2):=⟨_,rfl⟩
        have HD2:Hid (D2.length=32):=zz0 (by rw [hD2];exact zal _)
        have OF2:Hid (∀ W,Keep Non W27 W→Calls Tryz.prog 13 #[.slice (some ⟨g7,0,none⟩) NB c7] W fun e w'=>e = .returned (arrV D2)∧Keep Non W w'):=zz0 (fun W k=>by
          have h1:=E27.out.bs.keepNon k
          have h2:=OF.out W B2 (HB2.out.trans hNB.symm) (by rw [HB2.out];exact h1)
          rw [HB2.out,← hD2] at h2
          exact h2)
        have PUT:Hid (∀ W,Keep Non W27 W→Calls Tryz.prog 14 #[.pointer (some ⟨q,0,none⟩),sv nm,.slice (some ⟨g7,0,none⟩) NB c7] W fun e w'=>e = .returned .nilIface∧StoreTo F2 W q p (putX X nm B2) w'):=zz0 (fun W k=>by
          obtain ⟨hsp,-⟩:=zgI HBK.out HBA.out (n:=nm) (B:=B2) hn10 (by have:=HB2.out;have:=HN13.out.2;omega)
          have:=zcX F2 q p (.slice (some ⟨g7,0,none⟩) NB c7) nm B2 X _ _ _ W (ST.out.st.keep (k47.trans1 k) (fun _ _ e=>e)) HBA.out.lim (by omega) (by omega) (by omega) hn10 (E27.out.bs.keepNon k) (by have:=HB2.out;have:=HN13.out.2;omega) (fun g e=>by
            simp [Value.ownBlock] at e
            intro y
            have:=(ST.out.low g y).2
            omega)
          rw [hsp] at this
          exact this)
        have SPO:Hid (∀ W W',Keep Non W27 W→StoreTo F2 W q p (putX X nm B2) W'→∃ F',(∀ g,F' g→w.heap.size≤g)∧Keep Non w W'∧Calls Tryz.prog 15 #[.pointer (some ⟨p,0,none⟩)] W' fun e w'=>Keep F' W' w'∧(e = .returned (.tuple #[.pointer none,.iface 55 (.int .i64 11)])∨∃ b',e = .returned (.tuple #[.pointer (some ⟨b',0,none⟩),.nilIface]) ∧
            Calls Tryz.prog 17 #[.pointer (some ⟨b',0,none⟩)] w' fun r w2=>∃ k:Nat,r = .returned (.tuple #[.int .i64 k,.iface 55 (.int .i64 11)])∧Keep Non w' w2)):=zz0 (fun W W' k t=>by
          obtain ⟨kt,F',sf,st'⟩:=t
          have hw3:=K2.out.size
          have k4W:=k47.trans1 k
          have hF3:∀ g,F2 g→w.heap.size≤g:=fun g y=>by have:=HF2.out g y;omega
          have hF':∀ g,F' g→w.heap.size≤g∧10≤g:=fun g y=>by
            rcases sf g y with u | u
            · exact ⟨hF3 g u,(ST.out.low g u).1⟩
            · have:=(KR.out.trans1 k4W).size;have:=H10.out;omega
          exact ⟨F',fun g y=>(hF' g y).1,(KR.out.trans1 k4W).trans kt (fun _ _ e=>e) (fun g hg e=>by have:=hF3 g e;omega),zpc W' HBK.out HBA.out hn9 BAD.out (by have:=HB2.out;have:=HN13.out.2;omega) st' ((ST.out.lay.keepNon k4W).keep kt (fun g h10 y=>by have:=(ST.out.low g y).1;omega)) (fun g y=>(hF' g y).2)⟩)
        have STO7:=zz0 (fun W (k:Keep Non W27 W)=>STO.out W (k47.trans1 k))
        have KWF:Hid (∀ W,Keep Non W27 W→Keep Non w W):=zz0 (fun W k=>KR.out.trans1 (k47.trans1 k))
        have KD7:Hid (Keep Non W27 W27.drew):=zz0 (Keep.refl _ _).drew
        have heq:=zpP D2 D HD2.out HDL.out
        have hgd:=zmm
        have hl7:=LD2.out _ KD7.out
        have OFW7:=zz0 (OF2.out _ KD7.out)
        clear k47 hD2 hg7
        unfold sv at PUT
        cases hDD:(D2 == D) with
        | true =>
          rw [hDD] at heq
          go_wp2_with fail
          refine wp_region_noPanic ?_
          refine wp_region_held_drew (S:=fun W=>(holdV 49 ⟨w9.heap.size,0,none⟩).run Tryz.prog W = .ok (arrV D) W) (by as_aux_lemma=>kernel_rfl) hl7 (fun hHeld=>?_)
          refine tq 0 ?_;refine tq 2 ?_
          refine rc (i:=1) (fun K hK=>?_)
          go_simp
          refine OFW7.out.mono ?_
          rintro r x1 ⟨rfl,k1'⟩
          have KX:=zz0 (KD7.out.trans1 k1')
          go_wp2_with fail
          refine hK.out _ _ (LD2.out x1 KX.out) (fun hHeld1=>?_)
          clear hK K k1'
          try simp only [Act.put,List.setIfInBounds_toArray,List.set_cons_zero,List.set_cons_succ]
          refine tq 3 ?_;refine tq 4 ?_
          refine tu (i:=5) ?_
          try simp only [Act.put,List.setIfInBounds_toArray,List.set_cons_zero,List.set_cons_succ]
          refine tu (i:=6) ?_
          try simp only [Act.put,List.setIfInBounds_toArray,List.set_cons_zero,List.set_cons_succ]
          refine tu (i:=7) ?_
          try simp only [Act.put,List.setIfInBounds_toArray,List.set_cons_zero,List.set_cons_succ]
          refine tu (i:=8) ?_
          try simp only [Act.put,List.setIfInBounds_toArray,List.set_cons_zero,List.set_cons_succ]
          refine tu (i:=9) ?_
          try simp only [Act.put,List.setIfInBounds_toArray,List.set_cons_zero,List.set_cons_succ]
          refine tu (i:=10) ?_
          try simp only [Act.put,List.setIfInBounds_toArray,List.set_cons_zero,List.set_cons_succ]
          refine tq 11 ?_
          refine wpAnyH_done (by as_aux_lemma=>kernel_rfl) ?_ _
          refine NoPanic.normal ?_
          have KD9:Hid (Keep Non W27 x1.drew):=zz0 KX.out.drew
          have hl9:=LD2.out _ KD9.out
          have OFW9:=zz0 (OF2.out _ KD9.out)
          clear hHeld hHeld1 hl7
          go_wp2_with fail
          go_region_law (go_simp;go_at_call 13;((with_reducible refine OFW9.out.mono ?_);rintro r x2 ⟨rfl,k2'⟩);have hl10:=LD2.out x2 (KD9.out.trans1 k2');have K10:=zz0 (KD9.out.trans1 k2');clear k2')
          all_goals
            go_wp2_with fail
            go_ret
            exact ⟨rfl,KWF.out _ K10.out⟩
        | false =>
          rw [hDD] at heq
          have IS:Hid (∀ W,Calls Tryz.prog 16 #[.iface 55 (.int .i64 11),.int .i64 11] W fun e w'=>e = .returned (.bool true)∧W=w'):=zz0 (fun W=>zpT 11 11 W)
          go_wp2_with fail
          refine wp_region_noPanic ?_
          refine wp_region_held_drew (S:=fun W=>(holdV 49 ⟨w9.heap.size,0,none⟩).run Tryz.prog W = .ok (arrV D) W) (by as_aux_lemma=>kernel_rfl) hl7 (fun hHeld=>?_)
          refine tq 0 ?_;refine tq 2 ?_
          refine rc (i:=1) (fun K hK=>?_)
          go_simp
          refine OFW7.out.mono ?_
          rintro r x1 ⟨rfl,k1'⟩
          have KX:=zz0 (KD7.out.trans1 k1')
          go_wp2_with fail
          refine hK.out _ _ (LD2.out x1 KX.out) (fun hHeld1=>?_)
          clear hK K k1'
          try simp only [Act.put,List.setIfInBounds_toArray,List.set_cons_zero,List.set_cons_succ]
          refine tq 3 ?_;refine tq 4 ?_
          refine tq 5 ?_;refine tq 7 ?_;refine tq 8 ?_
          refine rc (i:=6) (fun K hK=>?_)
          go_simp
          refine (STO7.out x1 KX.out).mono ?_
          rintro r x2 ⟨rfl,e2⟩
          subst e2
          go_wp2_with fail
          refine hK.out _ _ (LD2.out _ KX.out) (fun hHeld2=>?_)
          clear hK K
          try simp only [Act.put,List.setIfInBounds_toArray,List.set_cons_zero,List.set_cons_succ]
          refine rc (i:=9) (fun K hK=>?_)
          go_simp
          refine (PUT.out _ KX.out).mono ?_
          rintro r x3 ⟨rfl,tp⟩
          obtain ⟨F9,hF9,kW9,op9⟩:=SPO.out _ x3 KX.out tp
          have hn9':¬ F2 w9.heap.size:=fun y=>by
            have h1:=(ST.out.low _ y).2
            have h2:=K5.out.size
            have h3:=K78.out.size
            have h4:=Z9.out
            have h5:=G7.out
            omega
          have hl3:=zhc (tp.1.at (nonAt KX.out (E27.out.kp.at DC.out hne7)) hn9') HDL.out
          have OP:=zz0 op9
          have KW9:=zz0 kW9
          have HF9:=zz0 hF9
          clear tp op9 kW9 hF9 hn9'
          go_wp2_with fail
          refine hK.out _ _ hl3 (fun hHeld3=>?_)
          clear hK K
          try simp only [Act.put,List.setIfInBounds_toArray,List.set_cons_zero,List.set_cons_succ]
          refine tq 10 ?_;refine tq 11 ?_
          refine wpAnyH_done (by as_aux_lemma=>kernel_rfl) ?_ _
          refine NoPanic.normal ?_
          clear hHeld hHeld1 hHeld2 hHeld3 hl7 hl3
          go_wp2_with (first
            | (go_at_call 15;refine OP.out.mono ?_;rintro r x4 ⟨k4,h4⟩;have K4:Hid (Keep Non w x4):=zz0 (KW9.out.trans k4 (fun _ _ e=>e) (fun g hg e=>by have:=HF9.out g e;omega));clear k4;rcases h4 with rfl | ⟨b9,rfl,ck⟩;all_goals (try have CK:=zz0 ck))
            | (go_at_call 16;refine (IS.out _).mono ?_;rintro r x5 ⟨rfl,e5⟩;subst e5)
            | (go_at_call 17;refine CK.out.mono ?_;rintro r x6 ⟨kk,rfl,k6⟩;have K6:=zz0 (K4.out.trans1 k6);clear k6))
          all_goals
            go_ret
            exact ⟨rfl,by first | exact K6.out | exact K4.out⟩
end
theorem zhs (v ev:Value) (cl:List Cl) (es:List Int) (s0 s1 s2:Int) (w:World) (hc:CellsIn w v cl) (hm:cl.length≤9223372036854775807) (he:Rd w ev (es.map (fun x=>Value.int .i64 x))) (hlay:Lay w) (h10:10≤w.heap.size) (h:longL cl=true∨5 < es.length) :
    Calls Tryz.prog 3 #[v,ev,.agg #[.int .i64 s0,.int .i64 s1,.int .i64 s2]] w fun e w'=>e = .returned (.bool true)∧Keep Non w w':=by
  have BK:=zz0 (fun W (k:Keep Non w W)=>zgP W (hlay.keepNon k) (Nat.le_trans h10 k.size))
  have LG:=zz0 (fun W (k:Keep Non w W)=>ziq v cl W (hc.keep k (fun _ _ e=>e)) hm)
  obtain ⟨xa,xc,rfl,hx⟩:=hc
  obtain ⟨ya,yc,rfl,hy⟩:=he
  rw [List.length_map] at *
  have K0:Hid (Keep Non w (w.alloc (.cells #[.int .i64 s0,.int .i64 s1,.int .i64 s2] 24))):=zz0 ((Keep.refl _ _).alloc _)
  clear hx hy hlay h10
  cases hl:longL cl with
  | true =>
    rw [hl] at LG
    go_enter Tryz.func3,Tryz.ntmps3
    go_wp2_with (first
      | (go_at_call 4;refine (BK.out _ K0.out).mono ?_;rintro e w1 ⟨rfl,k1⟩;have K1:=zz0 (K0.out.trans1 k1);clear k1)
      | (go_at_call 5;refine (LG.out _ K1.out).mono ?_;rintro e w2 ⟨rfl,k2⟩;have K2:=zz0 (K1.out.trans1 k2);clear k2))
    go_ret
    exact ⟨rfl,K2.out⟩
  | false =>
    have h5:(5:Int) < (es.length:Int):=by
      rcases h with h | h
      · rw [hl] at h;cases h
      · omega
    rw [hl] at LG
    clear h
    go_enter Tryz.func3,Tryz.ntmps3
    go_wp2_with (first
      | (go_at_call 4;refine (BK.out _ K0.out).mono ?_;rintro e w1 ⟨rfl,k1⟩;have K1:=zz0 (K0.out.trans1 k1);clear k1)
      | (go_at_call 5;refine (LG.out _ K1.out).mono ?_;rintro e w2 ⟨rfl,k2⟩;have K2:=zz0 (K1.out.trans1 k2);clear k2))
    go_ret
    exact ⟨rfl,K2.out⟩
theorem zgT (v ev:Value) (cl:List Cl) (es:List Int) (s0 s1 s2:Int) (w:World) (hc:CellsIn w v cl) (hm:cl.length≤9223372036854775807) (he:Rd w ev (es.map (fun x=>Value.int .i64 x))) (hlay:Lay w) (h10:10≤w.heap.size) :
    Calls Tryz.prog 3 #[v,ev,.agg #[.int .i64 s0,.int .i64 s1,.int .i64 s2]] w fun e w'=>e = .returned (.bool true)∧Keep Non w w':=by
  by_cases h:longL cl=true∨5 < es.length
  · exact zhs v ev cl es s0 s1 s2 w hc hm he hlay h10 h
  · have h1:longL cl=false:=by
      cases hq:longL cl
      · rfl
      · exact absurd (.inl hq) h
    have hn:cl.length≤200:=by
      have h2:=h1
      unfold longL at h2
      rw [Bool.or_eq_false_iff] at h2
      have:=of_decide_eq_false h2.2
      omega
    exact zlr v ev cl es s0 s1 s2 w hc hm he hlay h10 h1 hn (by omega)
end Go.Proofs.YtnboipdpccnedaaGreatDoor
