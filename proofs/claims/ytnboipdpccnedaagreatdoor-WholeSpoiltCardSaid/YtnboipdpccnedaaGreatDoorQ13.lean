/- A disk that starts; a store that is opened: walked. · slices.Repeat at one cell without data: walked. · The taker of a run in memory; a row of cells a -/
import Derived.Test.YtnboipdpccnedaaGreatDoorQ10
import Derived.Test.YtnboipdpccnedaaGreatDoorQ12
set_option linter.unusedVariables false
set_option maxRecDepth 100000
set_option maxHeartbeats 16000000
namespace Go.Proofs.YtnboipdpccnedaaGreatDoor
open Go.RowKit Go.Maps
theorem zj1 (F:Nat→Prop) (p:Nat) (X:Dk) (w:World) (d:DiskAt F w p X) (hd:X.down=false) :
    Calls Tryz.prog 26 #[.pointer (some ⟨p,0,none⟩)] w fun e w'=>e = .returned (.tuple #[])∧DiskTo F w p { X with fuse:=-1 } w':=by
  obtain ⟨T,s,h,pv,d⟩:=d
  have D:=zz0 d
  have c5:=dk_5 d.blk
  have c4:=dk_4 d.blk
  have f5:=dk_f d.blk 5
  have f4:=dk_f d.blk 4
  have B:=zz0 d.blk
  clear d
  rw [hd] at c5
  obtain ⟨room,sure,shown,pend,fuse,down⟩:=X
  simp only at hd
  subst hd
  have D1:=D.out.turn (i:=5) (u:=.bool false) (Y:=Dk.mk room sure shown pend fuse false) (zjX B.out false) rfl rfl rfl rfl
  have D2:=zz0 (D1.2.turn (i:=4) (u:=.int .i64 (-1)) (Y:=Dk.mk room sure shown pend (-1) false) (zjW D1.2.blk (-1)) rfl rfl rfl rfl)
  have D3:=zz0 D1
  clear D1
  go_enter Tryz.func26,Tryz.ntmps26
  go_wp2_with fail
  go_end0
  exact ⟨rfl,zb5 D.out (D3.out.1.trans1 D2.out.1),F,Sub.refl _ _,T,s,h,pv,D2.out.2⟩
theorem zf9 (F:Nat→Prop) (p:Nat) (X:Dk) (w:World) (d:DiskAt F w p X) :
    Calls Tryz.prog 27 #[.pointer (some ⟨p,0,none⟩)] w fun e w'=>e = .returned (.bool X.down)∧w'=w:=by
  obtain ⟨T,s,h,pv,d⟩:=d
  have c5:=dk_5 d.blk
  clear d
  go_enter Tryz.func27,Tryz.ntmps27
  go_wp2_with fail
  go_ret
  exact ⟨rfl,rfl⟩
theorem FlAt.empty (w:World) (T:Nat→Prop):FlAt (w.alloc (.map #[] 0)) T w.heap.size (.map []):=MapAt.new w _ _
theorem zft (room:Nat) (w:World) (h:room≤1073741824) :
    Calls Tryz.prog 21 #[.int .i64 room] w fun e w'=>∃ p,e = .returned (.tuple #[.pointer (some ⟨p,0,none⟩),.nilIface])∧Keep Non w w'∧DiskAt (fun g=>w.heap.size≤g∧g < w'.heap.size) w' p (dk0 room):=by
  have hmm:=@run_makeMap Tryz.prog
  go_enter Tryz.func21,Tryz.ntmps21
  go_wp2_with fail
  go_ret2
  have m1:=FlAt.empty w (fun _=>False)
  have m2:=FlAt.empty (w.alloc (.map #[] 0)) (fun _=>False)
  have e1:(w.alloc (.map #[] 0)).heap.size=w.heap.size+1:=by simp
  rw [e1] at m2
  have ka:∀ (w:World) o,Keep Non w (w.alloc o):=fun w o=>(Keep.refl _ _).alloc _
  have e2:((w.alloc (.map #[] 0)).alloc (.map #[] 0)).heap.size=w.heap.size+1+1:=by simp
  have m1':=((m1.keep (ka _ (.map #[] 0)) (fun e=>e) (fun _ _ e=>e) (fun _ e=>e)).keep (ka _ (DkB room w.heap.size (w.heap.size+1) (.slice none 0 0) (-1) false)) (fun e=>e) (fun _ _ e=>e) (fun _ e=>e))
  have m2':=m2.keep (ka _ (DkB room w.heap.size (w.heap.size+1) (.slice none 0 0) (-1) false)) (fun e=>e) (fun _ _ e=>e) (fun _ e=>e)
  have b3:=zab ((w.alloc (.map #[] 0)).alloc (.map #[] 0)) (DkB room w.heap.size (w.heap.size+1) (.slice none 0 0) (-1) false)
  rw [e2] at b3
  refine ⟨w.heap.size+1+1,rfl,(((Keep.refl _ _).alloc _).alloc _).alloc _,fun _=>False,w.heap.size,w.heap.size+1,.slice none 0 0,b3,m1',m2',⟨[],World.ownsRow_nil _ _ _ _,rfl,fun i c l hc=>by simp [dk0] at hc⟩,?_,?_,?_,h⟩
  · exact ⟨⟨by omega,by simp <;> omega⟩,⟨by omega,by simp <;> omega⟩,⟨by omega,by simp <;> omega⟩,fun g e=>(by cases e),fun g e=>False.elim e⟩
  · exact ⟨by omega,by omega,by omega,fun g e=>by cases e⟩
  · exact ⟨fun e=>e,fun e=>e,fun e=>e,fun g e=>(by cases e),fun g e=>False.elim e⟩
def begun (n:Byt):Bool:=Lib.hasPrefix n [126]
def sweep1 (X:Dk) (n:Byt):Dk:=if begun n then (X.remove n).2 else X
def sweepD (ns:List Byt) (X:Dk):Dk:=ns.foldl sweep1 X
def openD (ns:List Byt) (X:Dk):Dk:=if ns.any begun then (sweepD ns X).sync.2 else sweepD ns X
theorem zpQ {w:World} {T:Nat→Prop} {b:Nat} {D:Fl} (h:FlAt w T b D):∃ es,D = .map es∧es.Pairwise (fun p q=>p.1≠q.1)∧∀ p ∈ es,∃ x,p.1 = .string x:=by
  have K:=string_keyed Tryz.underlying9
  obtain ⟨es,hD,hpw,_⟩:=World.ownsMap.entries h K
  obtain ⟨es',hD',hko⟩:=World.ownsMap.keysOf h
  obtain rfl:es=es':=by rw [hD] at hD';simpa using hD'
  exact ⟨es,hD,hpw,fun p hp=>by obtain ⟨v,hv⟩:=hko p hp;obtain ⟨x,_,hx,_⟩:=Maps.keyOf_str Tryz.underlying9 hv;exact ⟨x,hx⟩⟩
theorem zfI {D:Fl} (h:∃ es,D = .map es∧es.Pairwise (fun p q=>p.1≠q.1)∧∀ p ∈ es,∃ x,p.1 = .string x) {ns:List Byt} (hp:ns.Perm (Go.strKeys D)):ns.Nodup∧∀ n,n ∈ ns ↔ fhas D n=true:=by
  obtain ⟨es,rfl,hpw,hk⟩:=h
  constructor
  · refine hp.nodup_iff.2 ?_
    show (es.map fun p=>strOf p.1).Nodup
    refine List.pairwise_map.2 (hpw.imp_of_mem fun {p q} hp' hq' hne e=>hne ?_)
    obtain ⟨a,ha⟩:=hk p hp'
    obtain ⟨b,hb⟩:=hk q hq'
    rw [ha,hb] at e ⊢
    exact congrArg _ e
  · intro x
    rw [hp.mem_iff]
    unfold fhas
    rw [has_eq,List.any_eq_true]
    show x ∈ es.map (fun p=>strOf p.1) ↔ _
    rw [List.mem_map]
    constructor
    · rintro ⟨p,hp',rfl⟩
      obtain ⟨a,ha⟩:=hk p hp'
      exact ⟨p,hp',by rw [ha];simp [Lit.sameKey,strOf]⟩
    · rintro ⟨p,hp',hs⟩
      obtain ⟨a,ha⟩:=hk p hp'
      rw [ha] at hs
      exact ⟨p,hp',by rw [ha];simpa [Lit.sameKey,strOf] using hs⟩
theorem DiskAt.low {F:Nat→Prop} {w:World} {p:Nat} {X:Dk} (d:DiskAt F w p X):DiskAt (fun g=>F g∧g < w.heap.size) w p X:=by
  obtain ⟨T,s,h,pv,d⟩:=d
  obtain ⟨i1,i2,i3,i4,i5⟩:=d.inF
  have hpv:∀ g,pv.ownBlock=some g→g < w.heap.size:=by
    obtain ⟨xs,h1,_⟩:=d.pend
    exact fun g e=>(World.ownsRow.lt h1 g e).2
  exact ⟨T,s,h,pv,d.blk,d.sure,d.shown,d.pend,⟨⟨i1,zef d.blk⟩,⟨i2,d.sure.lt⟩,⟨i3,d.shown.lt⟩,fun g e=>⟨i4 g e,hpv g e⟩,fun g e=>⟨i5 g e,d.outT.2.2.2.2 g e⟩⟩,d.apart,d.outT,d.room⟩
theorem DiskAt.str {F:Nat→Prop} {w:World} {p:Nat} {X:Dk} (d:DiskAt F w p X):∃ es,X.shown = .map es∧es.Pairwise (fun p q=>p.1≠q.1)∧∀ p ∈ es,∃ x,p.1 = .string x:=by
  obtain ⟨T,s,h,pv,d⟩:=d
  exact zpQ d.shown
def Dk.free (X:Dk):Prop:=X.down=false∧X.fuse < 0
theorem Dk.free.works {X:Dk} (h:X.free):X.works=(0,X):=by
  unfold Dk.works
  rw [if_neg (by rw [h.1];decide),if_neg (by have:=h.2;omega),if_neg (by have:=h.2;omega)]
theorem Dk.free.remove {X:Dk} (h:X.free) {n:Byt} (hn:fhas X.shown n=true):X.remove n=(0,X.add (.remove n)):=by
  unfold Dk.remove
  rw [h.works,if_neg (fun e=>e rfl),if_pos hn]
theorem Dk.free.sync {X:Dk} (h:X.free):X.sync=(0,{ X with sure:=X.shown,pend:=[] }):=by
  unfold Dk.sync
  rw [h.works,if_neg (fun e=>e rfl)]
theorem zhv {X:Dk} (h:X.free) {n:Byt} (hn:fhas X.shown n=true):(sweep1 X n).free:=by
  unfold sweep1
  split
  · rw [h.remove hn];exact h
  · exact h
theorem zjm {X:Dk} (h:X.free) {n m:Byt} (hn:fhas X.shown n=true) (hm:m≠n):fhas (sweep1 X n).shown m=fhas X.shown m:=by
  unfold sweep1
  split
  · rw [h.remove hn]
    show fhas (Chg.on (.remove n) X.shown) m=_
    unfold Chg.on
    simp only [hn,if_true]
    exact zaW hm
  · rfl
theorem zdA (F0:Nat→Prop) (p:Nat) (X:Dk) (a k f:Nat) (w:World) (d0:DiskAt F0 w p X) (hd:X.free) (hl:X.lim a k f) (ha:a≤505) (hk:k+a≤990) (hf:f≤400000000) (hok:∀ n,fhas X.shown n=true→okName n) :
    Calls Tryz.prog 42 #[.pointer (some ⟨p,0,none⟩)] w fun e w'=>∃ (q:Nat) (ns:List Byt),e = .returned (.tuple #[.pointer (some ⟨q,0,none⟩),.nilIface])∧w.heap.size≤q∧ns.Perm (Go.strKeys X.shown)∧StoreTo F0 w q p (openD ns X) w':=by
  have d:=d0.low
  clear d0
  have hF:∀ g,(F0 g∧g < w.heap.size)→g < w.heap.size:=fun g e=>e.2
  have hF0:∀ g,(F0 g∧g < w.heap.size)→(F0 g∧g < w.heap.size):=fun g e=>e
  generalize hFF:(fun g=>F0 g∧g < w.heap.size)=F at d
  have hF:∀ g,F g→g < w.heap.size:=fun g e=>by rw [← hFF] at e;exact e.2
  have hF1:∀ g,F g→F0 g:=fun g e=>by rw [← hFF] at e;exact e.1
  have L:=zz0 (zfs F p X w d hd.1 (by have:=hl.files;omega))
  have D:=zz0 d
  have HF:=zz0 hF
  have HL:=zz0 hl
  have HD:=zz0 hd
  have ST:=zz0 d.str
  clear d hF hF0 hl hd
  go_enter Tryz.func42,Tryz.ntmps42
  go_wp2_with (go_at_call 30;refine L.out.mono ?_;rintro e w1 ⟨v,ns,rfl,p1,k1,o1⟩;obtain ⟨a1,c1,rfl,_,_⟩:=zaa o1;have K1:=zz0 k1;have P1:=zz0 p1;have O1:=zz0 o1;clear p1 k1 o1)
  obtain ⟨nd,hmem⟩:=zfI ST.out P1.out
  have ND:=zz0 nd
  have HM:=zz0 hmem
  clear nd hmem
  have hnl:ns.length≤a:=by
    have h1:=P1.out.length_eq
    obtain ⟨es,e,_⟩:=ST.out
    have h2:=HL.out.files
    rw [e] at h1 h2
    rw [h1]
    show (es.map _).length≤_
    rw [List.length_map]
    have h3:size (DataW.map es:Fl)=es.length:=rfl
    omega
  obtain ⟨wl,hwl⟩:∃ wl,wl=w1:=⟨_,rfl⟩
  go_loopw [6,24] (fun sw i wr=>∃ (j:Nat) (Y:Dk) (F':Nat→Prop),j≤ns.length∧i = .int .i64 j∧sw = .bool ((ns.take j).any begun)∧Y=sweepD (ns.take j) X∧Y.free∧Y.lim a (k+j) f∧(∀ n ∈ ns.drop j,fhas Y.shown n=true)∧Keep F wl wr∧Sub F' F wl∧DiskAt F' wr p Y) (fun _ i _=>ns.length - (intOf i).toNat)
  case atStart =>
    subst hwl
    exact ⟨0,X,F,by omega,rfl,rfl,rfl,HD.out,HL.out,fun n hn=>(HM.out n).1 (by simpa using hn),Keep.refl _ _,Sub.refl _ _,D.out.keep K1.out (fun _ _ e=>e)⟩
  case round =>
    obtain ⟨j,Y,F',hj,rfl,rfl,hY,hfr,hlim,hrest,kw,hs,dY⟩:=hrel
    have KW:=zz0 kw
    have HS:=zz0 hs
    have DY:=zz0 dY
    clear kw hs dY
    by_cases hlt:j < ns.length
    · have O2:=Rd.ofOwns (zac (hwl ▸ O1.out) KW.out (fun g e e2=>by have h1:=(O1.out.lt g e).1;have h2:=HF.out g e2;omega))
      obtain ⟨g,off,hc⟩:∃ g off,a1=some (⟨g,off,none⟩:Addr)∧∀ j u,(ns.map sv)[j]? = some u→wr.cell? ⟨g,off+j,none⟩=some u:=by
        obtain ⟨a',c',e,hx⟩:=O2
        injection e with e1 e2 e3
        obtain ⟨g,off,e4,hc⟩:=hx (by intro e;rw [List.map_eq_nil_iff] at e;rw [e] at hlt;exact absurd hlt (by simp))
        exact ⟨g,off,e1.trans e4,hc⟩
      obtain ⟨rfl,hc⟩:=hc
      have hcell:=hc j (sv ns[j]) (by rw [List.getElem?_map,List.getElem?_eq_getElem hlt];rfl)
      have hin:ns[j] ∈ ns:=List.getElem_mem hlt
      have hdr:ns.drop j=ns[j] :: ns.drop (j+1):=List.drop_eq_getElem_cons hlt
      have hnj:fhas Y.shown ns[j]=true:=hrest _ (by rw [hdr];exact List.mem_cons_self)
      have hnok:=hok _ ((HM.out _).1 hin)
      have hY1:sweepD (ns.take (j+1)) X=sweep1 Y ns[j]:=by rw [List.take_succ_eq_append_getElem hlt,hY];unfold sweepD;rw [List.foldl_append];rfl
      have hany:(ns.take (j+1)).any begun=((ns.take j).any begun || begun ns[j]):=by rw [List.take_succ_eq_append_getElem hlt,List.any_append];simp
      have hrest1:∀ n ∈ ns.drop (j+1),fhas (sweep1 Y ns[j]).shown n=true:=by
        intro n hn
        have hne:n≠ns[j]:=by
          have h1:=ND.out
          rw [← List.take_append_drop j ns,hdr,List.nodup_append] at h1
          have h2:=(List.nodup_cons.1 h1.2.1).1
          intro e
          exact h2 (e ▸ hn)
        rw [zjm hfr hnj hne]
        exact hrest n (by rw [hdr];exact List.mem_cons_of_mem _ hn)
      have H1:=zz0 (And.intro hY1 (And.intro hany (And.intro hrest1 (zhv hfr hnj))))
      have hhp:=Tryz.strings_HasPrefix ⟨ns[j].toArray⟩ ⟨#[126]⟩
      clear hY1 hany hrest1 hdr hrest hin hc O2
      have hb0:Lib.hasPrefix (⟨ns[j].toArray⟩:ByteArray).data.toList (⟨#[126]⟩:ByteArray).data.toList=begun ns[j]:=rfl
      rw [hb0] at hhp
      have HP:=zz0 hhp
      clear hhp hb0
      unfold sv at hcell
      have RM:=zz0 (zgc F' p ns[j] Y wr DY.out (hlim.mild (by omega) (by omega) (by omega)) hnok)
      have hrm:=hfr.remove hnj
      unfold sv at RM
      cases hb:begun ns[j] with
      | false =>
        rw [hb] at HP
        go_wp2_with (go_at_call 32;refine (HP.out _).mono ?_;rintro e w3 ⟨rfl,e3⟩;subst e3)
        have hY2:sweep1 Y ns[j]=Y:=by unfold sweep1;rw [hb];rfl
        refine ⟨⟨j+1,Y,F',by omega,by go_num,by rw [H1.out.2.1,hb,Bool.or_false],by rw [H1.out.1,hY2],hfr,hlim.mono (by omega) (by omega) (by omega),by have:=H1.out.2.2.1;rw [hY2] at this;exact this,KW.out,HS.out,DY.out⟩,by simp [intOf];omega⟩
      | true =>
        rw [hb] at HP
        rw [hrm] at RM
        have e0:errv ((0:Int),Y.add (.remove ns[j])).1 = .nilIface:=rfl
        rw [e0] at RM
        have RM2:=zz0 RM.out
        have hY2:sweep1 Y ns[j]=Y.add (.remove ns[j]):=by unfold sweep1;rw [hb,if_pos rfl,hrm]
        have hl2:=hlim.remove ns[j]
        rw [hrm] at hl2
        have HL2:=zz0 hl2
        clear hl2 hrm RM
        go_wp2_with (first
          | (go_at_call 32;refine (HP.out _).mono ?_;rintro e w3 ⟨rfl,e3⟩;subst e3)
          | (go_at_call 92;refine RM2.out.mono ?_;rintro e w3 ⟨rfl,k3,F3,s3,d3⟩;have K3:=zz0 k3;have S3:=zz0 s3;have D3:=zz0 d3;clear k3 s3 d3))
        refine ⟨⟨j+1,Y.add (.remove ns[j]),F3,by omega,by go_num,by rw [H1.out.2.1,hb,Bool.or_true],by rw [H1.out.1,hY2],by have:=H1.out.2.2.2;rw [hY2] at this;exact this,HL2.out.mono (by omega) (by omega) (by omega),by have:=H1.out.2.2.1;rw [hY2] at this;exact this,za9 KW.out HS.out K3.out,HS.out.trans S3.out KW.out.size,D3.out⟩,by simp [intOf];omega⟩
    · obtain rfl:j=ns.length:=by omega
      rw [List.take_length] at hY ⊢
      have FIN:Hid (∀ w3 Z,DiskTo F' wr p Z w3→StoreTo F0 w w3.heap.size p Z (w3.alloc (StB p))):=zz0 (by
        intro w3 Z dz
        obtain ⟨k3,F3,s3,d3⟩:=dz
        subst hwl
        have kk:Keep F w w3:=za9 (K1.out.ofNon.trans1 KW.out) (fun g e=>by rcases HS.out g e with e | e;exact .inl e;exact .inr (by have:=K1.out.size;omega)) k3
        refine ⟨(kk.mono (fun i _ e=>hF1 i e)).alloc _,fun g=>g=w3.heap.size∨(F3 g∧g < w3.heap.size),?_,zab _ _,.inl rfl,_,d3.low.keep ((Keep.refl Non _).alloc _) (fun _ _ e=>e),fun g e=>⟨.inr e,by have:=e.2;omega⟩⟩
        have z1:=kk.size
        rintro g (rfl | ⟨e,_⟩)
        · exact .inr z1
        · rcases s3 g e with e | e
          · rcases HS.out g e with e | e
            · exact .inl (hF1 g e)
            · exact .inr (by have:=K1.out.size;omega)
          · exact .inr (by have:=K1.out.size;have:=KW.out.size;omega))
      have SY:=zz0 (zg3 F' p Y wr DY.out hlim.fuse)
      have hsy:=hfr.sync
      cases hb:ns.any begun with
      | true =>
        rw [hsy] at SY
        have e0:errv ((0:Int),({ Y with sure:=Y.shown,pend:=[] }:Dk)).1 = .nilIface:=rfl
        rw [e0] at SY
        have SY2:=zz0 SY.out
        clear SY
        go_wp2_with (go_at_call 40;refine SY2.out.mono ?_;rintro e w3 ⟨rfl,d3⟩;have D3:=zz0 d3;clear d3)
        go_ret2
        refine ⟨_,ns,rfl,?_,P1.out,?_⟩
        · have h1:=K1.out.size
          have h2:=KW.out.size
          have h3:=D3.out.1.size
          subst hwl
          omega
        · have e:openD ns X = { Y with sure:=Y.shown,pend:=[] }:=by unfold openD;rw [hb,if_pos rfl,← hY,hsy]
          rw [e]
          exact FIN.out _ _ D3.out
      | false =>
        go_wp2_with fail
        go_ret2
        refine ⟨_,ns,rfl,?_,P1.out,?_⟩
        · have h1:=K1.out.size
          have h2:=KW.out.size
          subst hwl
          omega
        · have e:openD ns X=Y:=by unfold openD;rw [hb,← hY];rfl
          rw [e]
          exact FIN.out _ _ ⟨Keep.refl _ _,F',Sub.refl _ _,DY.out⟩
theorem zbS {P:Program} (w:World) (dT sT ty elem:TypeId) (k g o dLen dCap:Nat) (a:Addr) (sLen sCap:Nat) (cur:Array Value) (t:TypeId) (cs:List Value)
    (hu:P.underlying dT=some (.slice elem)) (hs:(P.info? elem).map (·.size)=some k)
    (hg:w.heap[g]? = some (.cells cur t (0,0))) (hn:cs.length=Nat.min sLen dLen * k)
    (hsrc:∀ j v,cs[j]? = some v→w.cell? (a.add j)=some v) (hfit:o+cs.length≤cur.size) (h1:∀ v ∈ cs,v.oneCell'=true) :
    (Builtin.copy_ #[dT,sT] ty #[.slice (some ⟨g,o,none⟩) dLen dCap,.slice (some a) sLen sCap]).run P w =
      .ok (goInt (Nat.min sLen dLen)) (w.setRow g (cur.toList.take o ++ cs ++ cur.toList.drop (o+cs.length)).toArray):=by
  have hl:=run_loadCells_list (P:=P) w a cs hsrc
  have hst:=run_storeCells_at P g o t cs 0 cur w hg (by simpa using hfit) h1
  cases hq:P.info? elem with
  | none=>simp [hq] at hs
  | some i =>
    have hi:i.size=k:=by simpa [hq] using hs
    simp [Builtin.copy_,run_underlying hu,Builtin.lenOf,Builtin.firstCells,sizeOf,typeInfo,hq,hi,← hn,hl,hst]
theorem infoCell:(Tryz.prog.info? 60).map (fun i=>(i.zero,i.size,i.bytes))=some (some (.agg #[.int .i64 0,.slice none 0 0]),2,32):=by kernel_rfl
def celAt (k:Int) (m i:Nat):Value:=if i % 2=1 then .slice none 0 0 else if i < 2 * m then .int .i64 k else .int .i64 0
def genC (k:Int) (n m:Nat):List Value:=(List.range (2 * n)).map (celAt k m)
theorem zaC (k:Int) (n m:Nat):(genC k n m).length=2 * n:=by simp [genC]
theorem za8 (k:Int) (n m i:Nat):(genC k n m)[i]? = if i < 2 * n then some (celAt k m i) else none:=by
  unfold genC
  rw [List.getElem?_map]
  split
  · rename_i h
    rw [List.getElem?_range h]
    rfl
  · rename_i h
    rw [List.getElem?_eq_none (by simp;omega)]
    rfl
theorem zfz (k:Int) (n m:Nat):∀ v ∈ genC k n m,v.oneCell'=true:=by
  intro v hv
  obtain ⟨i,_,rfl⟩:=List.mem_map.1 hv
  unfold celAt
  split
  · rfl
  · split <;> rfl
theorem zkg (k:Int) (n:Nat):madeCells #[.int .i64 0,.slice none 0 0] (n * 2)=(genC k n 0).toArray:=by
  apply Array.toList_inj.1
  apply List.ext_getElem?
  intro i
  rw [List.toList_toArray,za8]
  unfold madeCells
  by_cases h:i < 2 * n
  · rw [if_pos h]
    have h2:i < n * 2:=by omega
    simp only [Array.toList_map,Array.toList_range,List.getElem?_map,List.getElem?_range h2,Option.map_some]
    congr 1
    unfold celAt
    rcases Nat.mod_two_eq_zero_or_one i with e | e
    · rw [if_neg (by omega),if_neg (by omega)]
      simp [e]
    · rw [if_pos e]
      simp [e]
  · rw [if_neg h]
    simp
    omega
theorem zgg (k:Int) (n m d:Nat) (hd:m+d≤n):(genC k n m).take (m * 2) ++ genC k d d ++ (genC k n m).drop (m * 2+(genC k d d).length)=genC k n (m+d):=by
  apply List.ext_getElem?
  intro i
  rw [zaC,za8]
  by_cases h1:i < m * 2
  · rw [List.append_assoc,List.getElem?_append_left (by rw [List.length_take,zaC];omega),List.getElem?_take_of_lt h1,za8,if_pos (by omega),if_pos (by omega)]
    unfold celAt
    split
    · rfl
    · rw [if_pos (by omega),if_pos (by omega)]
  · by_cases h2:i < m * 2+2 * d
    · have hl:((genC k n m).take (m * 2) ++ genC k d d).length=m * 2+2 * d:=by rw [List.length_append,List.length_take,zaC,zaC];omega
      rw [List.getElem?_append_left (by omega),List.getElem?_append_right (by rw [List.length_take,zaC];omega),List.length_take,zaC,za8,if_pos (by omega),if_pos (by omega)]
      unfold celAt
      rw [show min (m * 2) (2 * n)=m * 2 by omega,show (i - m * 2) % 2=i % 2 by omega]
      split
      · rfl
      · rw [if_pos (by omega),if_pos (by omega)]
    · have hl:((genC k n m).take (m * 2) ++ genC k d d).length=m * 2+2 * d:=by rw [List.length_append,List.length_take,zaC,zaC];omega
      rw [List.getElem?_append_right (by omega),hl,List.getElem?_drop,za8,show m * 2+2 * d+(i - (m * 2+2 * d))=i by omega]
      split
      · unfold celAt
        split
        · rfl
        · rw [if_neg (by omega),if_neg (by omega)]
      · rfl
theorem zd8 {S:Nat→Prop} {w w':World} (h:Keep S w w') {g:Nat} (hg:S g∨w.heap.size≤g) (cs:Array Value):Keep S w (w'.setRow g cs):=by
  refine ⟨h.os,h.tape,h.output,by rw [show (w'.setRow g cs).heap.size=w'.heap.size by unfold World.setRow;simp];exact h.size,fun i hi hn=>?_⟩
  have hne:g≠i:=by
    rintro rfl
    rcases hg with e | e
    · exact hn e
    · omega
  rw [← h.block i hi hn]
  unfold World.setRow
  simp only [Array.getElem?_modify]
  rw [if_neg hne]
theorem zi9 (g off c n:Nat) (k:Int) (w:World) (h0:w.cell? ⟨g,off,none⟩=some (.int .i64 k)) (h1:w.cell? ⟨g,off+1,none⟩=some (.slice none 0 0)) (hn:1≤n) (hn2:n≤1000) (hc:1≤c) :
    Calls Tryz.prog 347 #[.slice (some ⟨g,off,none⟩) 1 c,.int .i64 n] w fun e w'=>e = .returned (.slice (some ⟨w.heap.size,0,none⟩) n n)∧Keep Non w w'∧w'.heap[w.heap.size]? = some (.cells (genC k n n).toArray 60 (0,0)):=by
  have HM:=zz0 (Tryz.bits_Mul 1 n (by omega) (by omega))
  have q1:1 * n / 18446744073709551616=0:=by omega
  have q2:1 * n % 18446744073709551616=n:=by omega
  rw [q1,q2] at HM
  clear q1 q2
  obtain ⟨i0,hi0,hz0,hz1,hz2⟩:=info_parts infoCell
  have hms:∀ w,(Instr.makeSlice 22 (.int .i64 n) (.int .i64 n)).run Tryz.prog w = .ok (.slice (some ⟨w.heap.size,0,none⟩) n n) (w.alloc (.cells (genC k n 0).toArray 60)):=by
    intro w
    have h:=run_makeSlice (P:=Tryz.prog) w 22 60 i0 _ Tryz.underlying22 hi0 hz0 .i64 .i64 n n (by omega) (by omega) (by rw [hz1];simp;omega) (by rw [hz2];omega) (by omega)
    rw [hz1] at h
    simp only [Int.toNat_natCast] at h
    rw [h]
    have e:madeCells (Value.agg #[Value.int .i64 0,Value.slice none 0 0]).cells (n * 2)=(genC k n 0).toArray:=zkg k n
    rw [e]
  have C0:=zz0 h0
  have C1:=zz0 h1
  have hsz:(Tryz.prog.info? 60).map (·.size)=some 2:=by rw [hi0];simp [hz1]
  have hlt:g < w.heap.size:=World.block_lt_of_cell? _ _ h0
  have cp1:(Builtin.copy_ #[22,22] 3 #[.slice (some ⟨w.heap.size,0,none⟩) n n,.slice (some ⟨g,off,none⟩) 1 c]).run Tryz.prog (w.alloc (.cells (genC k n 0).toArray 60)) = .ok (.int .i64 1) ((w.alloc (.cells (genC k n 0).toArray 60)).setRow w.heap.size (genC k n 1).toArray):=by
    have h:=zbS (P:=Tryz.prog) (w.alloc (.cells (genC k n 0).toArray 60)) 22 22 3 60 2 w.heap.size 0 n n ⟨g,off,none⟩ 1 c (genC k n 0).toArray 60 (genC k 1 1)
      Tryz.underlying22 hsz (zab _ _) (by rw [zaC,show Nat.min 1 n=1 from Nat.min_eq_left hn]) (by
        intro j v hv
        rw [za8] at hv
        have ka:Keep Non w (w.alloc (.cells (genC k n 0).toArray 60)):=(Keep.refl _ _).alloc _
        split at hv
        · rename_i hj
          injection hv with hv
          subst hv
          rcases (by omega:j=0∨j=1) with rfl | rfl
          · exact (World.cell?_of_block (a:=⟨g,off,none⟩) (ka.block g hlt (fun e=>e))).trans C0.out
          · exact (World.cell?_of_block (a:=⟨g,off+1,none⟩) (ka.block g hlt (fun e=>e))).trans C1.out
        · cases hv) (by rw [zaC];simp [zaC];omega) (zfz _ _ _)
    rw [h,show Nat.min 1 n=1 from Nat.min_eq_left hn]
    have e:=zgg k n 0 1 (by omega)
    simp only [Nat.zero_mul,Nat.zero_add] at e
    rw [List.toList_toArray,Nat.zero_add,e]
    rfl
  go_enter Tryz.func347,Tryz.ntmps347
  go_wp2_with (go_at_call 213;refine (HM.out _).mono ?_;rintro e w1 ⟨rfl,e1⟩;subst e1)
  clear h0 h1 cp1 hms HM
  obtain ⟨wa,hwa⟩:∃ wa,wa=w1.alloc (.cells (genC k n 0).toArray 60):=⟨_,rfl⟩
  have HA:=zz0 hwa
  have hga:wa.heap[w1.heap.size]? = some (.cells (genC k n 0).toArray 60 (0,0)):=by rw [hwa];exact zab _ _
  have GA:=zz0 hga
  rw [← hwa]
  clear hwa hga
  go_loopw [8] (fun i wr=>∃ m:Nat,1≤m∧m≤n∧i = .int .i64 m∧wr.heap=(wa.setRow w1.heap.size (genC k n m).toArray).heap∧Keep Non w1 wr) (fun i _=>n - (intOf i).toNat)
  case atStart=>exact ⟨1,by omega,hn,rfl,rfl,zd8 (by rw [HA.out];exact (Keep.refl _ _).alloc _) (.inr (Nat.le_refl _)) _⟩
  case round =>
    obtain ⟨m,hm1,hm2,rfl,hwr,kw⟩:=hrel
    have KW:=zz0 kw
    clear kw
    have hg:wr.heap[w1.heap.size]? = some (.cells (genC k n m).toArray 60 (0,0)):=by rw [hwr];exact setRow_heap _ _ _ _ _ _ GA.out
    by_cases hlt2:m < n
    · obtain ⟨d,hd,hd2,hd3⟩:∃ d,d=Nat.min m (n - m)∧1≤d∧m+d≤n:=⟨_,rfl,by show 1≤min m (n - m);omega,by show m+min m (n - m)≤n;omega⟩
      have hcc:∀ w':World,w'.heap=wr.heap→(Builtin.copy_ #[22,22] 3 #[.slice (some ⟨w1.heap.size,m * 2,none⟩) (n - m) (n - m),.slice (some ⟨w1.heap.size,0,none⟩) m n]).run Tryz.prog w' = .ok (.int .i64 d) (w'.setRow w1.heap.size (genC k n (m+d)).toArray):=by
        intro w' hw'
        have hg':w'.heap[w1.heap.size]? = some (.cells (genC k n m).toArray 60 (0,0)):=by rw [hw'];exact hg
        have h:=zbS (P:=Tryz.prog) w' 22 22 3 60 2 w1.heap.size (m * 2) (n - m) (n - m) ⟨w1.heap.size,0,none⟩ m n (genC k n m).toArray 60 (genC k d d)
          Tryz.underlying22 hsz hg' (by rw [zaC,← hd];omega) (by
            intro j v hv
            rw [za8] at hv
            split at hv
            · rename_i hj
              have e:((⟨w1.heap.size,0,none⟩:Addr).add j)=⟨w1.heap.size,j,none⟩:=by unfold Addr.add;split <;> simp_all
              rw [e]
              have hdm:d≤m:=by rw [hd];exact Nat.min_le_left _ _
              have hx:(genC k n m)[j]? = some v:=by
                rw [za8,if_pos (by omega),← hv]
                unfold celAt
                congr 1
                split
                · rfl
                · simp [show j < 2 * m by omega]
              simp [World.cell?,hg',hx]
            · cases hv) (by rw [zaC];simp [zaC];omega) (zfz _ _ _)
        rw [h,← hd,List.toList_toArray,zgg k n m d hd3]
        rfl
      have cp2:=hcc wr.drew rfl
      clear hcc hd
      go_wp2_with fail
      go_region
      go_wp2_with fail
      refine ⟨⟨m+d,by omega,hd3,by go_num,?_,zd8 KW.out.drew (.inr (Nat.le_refl _)) _⟩,by simp [intOf];omega⟩
      show (wr.setRow w1.heap.size (genC k n (m+d)).toArray).heap=_
      have e:(wr.setRow w1.heap.size (genC k n (m+d)).toArray).heap=((wa.setRow w1.heap.size (genC k n m).toArray).setRow w1.heap.size (genC k n (m+d)).toArray).heap:=by unfold World.setRow at hwr ⊢;simp only;rw [hwr]
      rw [e,setRow_setRow]
    · obtain rfl:m=n:=by omega
      go_wp2_with fail
      go_ret
      exact ⟨rfl,KW.out,hg⟩
def TkB (p:Nat) (vo:Value) (left:Int) (vl:Value) (kind:Int):Obj:=.cells #[.pointer (some ⟨p,0,none⟩),vo,.int .i64 left,vl,.int .i64 kind] 380 (0,0)
section
variable {w : World} {t p : Nat} {vo vl : Value} {left kind : Int}
theorem tk_0 (e:w.heap[t]? = some (TkB p vo left vl kind)):w.cell? ⟨t,0,none⟩=some (.pointer (some ⟨p,0,none⟩)):=by simp [World.cell?,e,TkB]
theorem tk_1 (e:w.heap[t]? = some (TkB p vo left vl kind)):w.cell? ⟨t,1,none⟩=some vo:=by simp [World.cell?,e,TkB]
theorem tk_2 (e:w.heap[t]? = some (TkB p vo left vl kind)):w.cell? ⟨t,2,none⟩=some (.int .i64 left):=by simp [World.cell?,e,TkB]
theorem tk_3 (e:w.heap[t]? = some (TkB p vo left vl kind)):w.cell? ⟨t,3,none⟩=some vl:=by simp [World.cell?,e,TkB]
theorem tk_4 (e:w.heap[t]? = some (TkB p vo left vl kind)):w.cell? ⟨t,4,none⟩=some (.int .i64 kind):=by simp [World.cell?,e,TkB]
theorem tk_f (e:w.heap[t]? = some (TkB p vo left vl kind)) (i:Nat):w.frozen? ⟨t,i,none⟩=false:=by simp [World.frozen?,e,TkB]
theorem zlu (e:w.heap[t]? = some (TkB p vo left vl kind)) (v:Value):(w.setCell ⟨t,1,none⟩ v).heap[t]? = some (TkB p v left vl kind):=zaf e 1 _
theorem zlv (e:w.heap[t]? = some (TkB p vo left vl kind)) (k:Int):(w.setCell ⟨t,2,none⟩ (.int .i64 k)).heap[t]? = some (TkB p vo k vl kind):=zaf e 2 _
theorem zph (e:w.heap[t]? = some (TkB p vo left vl kind)) (v:Value):(w.setCell ⟨t,3,none⟩ v).heap[t]? = some (TkB p vo left v kind):=zaf e 3 _
theorem zlw (e:w.heap[t]? = some (TkB p vo left vl kind)) (k:Int):(w.setCell ⟨t,4,none⟩ (.int .i64 k)).heap[t]? = some (TkB p vo left vl k):=zaf e 4 _
end
def CellsOf (B:Nat) (S:Nat→Prop) (w:World) (xs:List Value) (out:List Cl):Prop :=
  xs.length=2 * out.length∧∀ (j:Nat) x,out[j]? = some x→∃ s,xs[2 * j]? = some (.int .i64 x.1)∧xs[2 * j+1]? = some s∧Bs w s x.2∧okc s∧∀ g,s.ownBlock=some g→B≤g∧g < w.heap.size∧¬ S g
theorem CellsOf.keep {B:Nat} {S S' T:Nat→Prop} {w w':World} {xs:List Value} {out:List Cl} (h:CellsOf B S w xs out) (k:Keep T w w') (hT:∀ g,B≤g→T g→S g) (hS:∀ g,g < w.heap.size→S' g→S g):CellsOf B S' w' xs out:=by
  refine ⟨h.1,fun j x hx=>?_⟩
  obtain ⟨s,h1,h2,h3,h4,h5⟩:=h.2 j x hx
  exact ⟨s,h1,h2,h3.keep k (fun g e e2=>(h5 g e).2.2 (hT g (h5 g e).1 e2)),h4,fun g e=>⟨(h5 g e).1,k.lt (h5 g e).2.1,fun e2=>(h5 g e).2.2 (hS g (h5 g e).2.1 e2)⟩⟩
theorem CellsOf.nil (B:Nat) (S:Nat→Prop) (w:World):CellsOf B S w [] []:=⟨rfl,fun j x h=>by simp at h⟩
theorem CellsOf.append {B:Nat} {S:Nat→Prop} {w:World} {xs ys:List Value} {out out':List Cl} (h:CellsOf B S w xs out) (h':CellsOf B S w ys out'):CellsOf B S w (xs ++ ys) (out ++ out'):=by
  have hl:=h.1
  have hl':=h'.1
  refine ⟨by simp only [List.length_append];omega,fun j x hx=>?_⟩
  by_cases hj:j < out.length
  · rw [List.getElem?_append_left hj] at hx
    obtain ⟨s,h1,h2,h3⟩:=h.2 j x hx
    exact ⟨s,by rw [List.getElem?_append_left (by omega)];exact h1,by rw [List.getElem?_append_left (by omega)];exact h2,h3⟩
  · rw [List.getElem?_append_right (by omega)] at hx
    obtain ⟨s,h1,h2,h3⟩:=h'.2 _ x hx
    refine ⟨s,?_,?_,h3⟩
    · rw [List.getElem?_append_right (by omega),← h1];congr 1;omega
    · rw [List.getElem?_append_right (by omega),← h2];congr 1;omega
theorem CellsOf.rep (B:Nat) (S:Nat→Prop) (w:World) (k:Int) (n:Nat):CellsOf B S w (genC k n n) (List.replicate n (k,[])):=by
  refine ⟨by rw [zaC];simp,fun j x hx=>?_⟩
  rw [List.getElem?_replicate] at hx
  split at hx
  · rename_i hj
    injection hx with hx
    subst hx
    refine ⟨.slice none 0 0,?_,?_,Rd.nil _,⟨Nat.le_refl _,fun ad e=>by cases e⟩,fun g e=>by cases e⟩
    · rw [za8,if_pos (by omega)];unfold celAt;rw [if_neg (by omega),if_pos (by omega)]
    · rw [za8,if_pos (by omega)];unfold celAt;rw [if_pos (by omega)]
  · cases hx
structure TkAt (B:Nat) (F:Nat→Prop) (w:World) (t p:Nat) (l:Byt) (out:List Cl) (left:Nat) (last:Byt) (kind:Int) (vo vl:Value):Prop where
  blk:w.heap[t]? = some (TkB p vo left vl kind)
  rd:RdAt F w p l
  hF:∀ g,F g→g < B
  htB:B≤t
  out:∃ xs,w.ownsRow B 60 2 vo out.length xs∧CellsOf B (fun g=>g=t∨vo.ownBlock=some g) w xs out
  voT:vo.ownBlock≠some t
  last:Bs w vl last∧okc vl∧∀ g,vl.ownBlock=some g→B≤g∧g < w.heap.size∧g≠t∧vo.ownBlock≠some g
theorem TkAt.hp {B:Nat} {F:Nat→Prop} {w:World} {t p left:Nat} {l last:Byt} {out:List Cl} {kind:Int} {vo vl:Value} (h:TkAt B F w t p l out left last kind vo vl):p < B:=by
  obtain ⟨v,_,_,_,h4,_⟩:=h.rd
  exact h.hF p h4
theorem TkAt.read {B:Nat} {F:Nat→Prop} {w w':World} {t p left:Nat} {l l' last:Byt} {out:List Cl} {kind:Int} {vo vl:Value} (h:TkAt B F w t p l out left last kind vo vl) (k:Keep (One p) w w') (r:RdAt F w' p l'):TkAt B F w' t p l' out left last kind vo vl:=by
  have hp:=h.hp
  have htB:=h.htB
  have hno:∀ g,B≤g→¬ One p g:=fun g e e2=>by have e2':g=p:=e2;omega
  obtain ⟨xs,h1,h2⟩:=h.out
  refine ⟨k.at h.blk (hno t htB),r,h.hF,htB,⟨xs,zac h1 k (fun g e=>hno g (h1.lt g e).1),h2.keep k (fun g e e2=>absurd e2 (hno g e)) (fun g _ e=>e)⟩,h.voT,h.last.1.keep k (fun g e=>hno g (h.last.2.2 g e).1),h.last.2.1,fun g e=>?_⟩
  obtain ⟨q1,q2,q3⟩:=h.last.2.2 g e
  exact ⟨q1,k.lt q2,q3⟩
theorem TkAt.keepNon {B:Nat} {F:Nat→Prop} {w w':World} {t p left:Nat} {l last:Byt} {out:List Cl} {kind:Int} {vo vl:Value} (h:TkAt B F w t p l out left last kind vo vl) (k:Keep Non w w'):TkAt B F w' t p l out left last kind vo vl :=
  h.read (k.mono (fun _ _ e=>e.elim)) (h.rd.keep k (fun _ _ e=>e))
theorem zio {B:Nat} {F:Nat→Prop} {w3 w4 w6:World} {t p left m left':Nat} {l last last':Byt} {out out2:List Cl} {kind kind':Int} {vo vl vo4 vl':Value} {ys news:List Value} (h:TkAt B F w3 t p l out left last kind vo vl)
    (o2:CellsOf B (fun g=>g=t∨vo.ownBlock=some g) w3 ys out) (n2:CellsOf B (fun g=>g=t∨vo.ownBlock=some g) w3 news out2) (hm:out2.length=m) (HO:w4.ownsRow B 60 2 vo4 (out.length+m) (ys ++ news))
    (KG:Keep (fun k=>vo.ownBlock=some k) w3 w4) (HP:vo4.ownBlock=vo.ownBlock∨vo4.ownBlock=some w3.heap.size) (b6:w6.heap[t]? = some (TkB p vo4 left' vl' kind')) (k6:Keep (One t) w4 w6)
    (hl:Bs w3 vl' last'∧okc vl'∧∀ g,vl'.ownBlock=some g→B≤g∧g < w3.heap.size∧g≠t∧vo.ownBlock≠some g) :
    Keep (fun g=>B≤g) w3 w6∧TkAt B F w6 t p l (out ++ out2) left' last' kind' vo4 vl':=by
  have htl:=lt_of_block h.blk
  obtain ⟨xs,q1,_⟩:=h.out
  have hvB:∀ g,vo.ownBlock=some g→B≤g:=fun g e=>(q1.lt g e).1
  have hne:∀ g,vo.ownBlock≠some g→g < w3.heap.size→vo4.ownBlock≠some g:=by
    intro g e e1 e2
    rcases HP with e3 | e3
    · exact e (by rw [← e3,e2])
    · rw [e3] at e2;injection e2 with e2;omega
  have hT:vo4.ownBlock≠some t:=hne t h.voT htl
  have hh:=h.htB
  refine ⟨(KG.mono (fun g _ e=>hvB g e)).trans k6 (fun _ _ e=>e) (fun g _ e=>by have e':g=t:=e;omega),b6,?_,h.hF,hh,⟨ys ++ news,?_,?_⟩,hT,?_⟩
  · exact (h.rd.keep KG (fun g e e2=>by have:=h.hF g e;have:=hvB g e2;omega)).keep k6 (fun g e e2=>by have e':g=t:=e2;have:=h.hF g e;omega)
  · rw [List.length_append,hm]
    exact zac HO k6 (fun g e e2=>hT (by have e':g=t:=e2;rw [← e'];exact e))
  · refine ((o2.append n2).keep (S':=fun g=>g=t∨vo4.ownBlock=some g) KG (fun g _ e=>.inr e) ?_).keep k6 (fun g _ e=>.inl e) (fun g _ e=>e)
    rintro g hg (e | e)
    · exact .inl e
    · rcases HP with e3 | e3
      · exact .inr (by rw [← e3,e])
      · rw [e3] at e;injection e with e;omega
  · refine ⟨(hl.1.keep KG (fun g e=>(hl.2.2 g e).2.2.2)).keep k6 (fun g e=>(hl.2.2 g e).2.2.1),hl.2.1,fun g e=>?_⟩
    obtain ⟨r1,r2,r3,r4⟩:=hl.2.2 g e
    exact ⟨r1,k6.lt (KG.lt r2),r3,hne g r4 r2⟩
theorem zh1 {B p:Nat} {w w2 w6:World} (k1:Keep (One p) w w2) (k2:Keep (fun g=>B≤g) w2 w6):Keep (fun g=>g=p∨B≤g) w w6 :=
  k1.trans k2 (fun g _ e=>.inl e) (fun g _ e=>.inr e)
theorem zk3 {w:World} {g n:Nat} {k:Int} {T:TypeId} (h:w.heap[g]? = some (.cells (genC k n n).toArray T (0,0))):∀ j u,(genC k n n)[j]? = some u→w.cell? ((⟨g,0,none⟩:Addr).add j)=some u:=by
  intro j u hu
  rw [zau,Nat.zero_add]
  simp [World.cell?,h,hu]
theorem zpl (B:Nat) (F:Nat→Prop) (t p left n:Nat) (r last:Byt) (out:List Cl) (k kind:Int) (vo vl:Value) (w:World) (h:TkAt B F w t p (vput k.toNat ++ r) out left last kind vo vl)
    (hn:1≤n) (hn2:n≤left) (hl:out.length+left≤64) (hk0:0≤k) (hk3:k≤3) (hk1:k≠1) (hkk:k≠kind) :
    Calls Tryz.prog 296 #[.pointer (some ⟨t,0,none⟩),.int .u64 n] w fun e w'=>e = .returned (.tuple #[])∧Keep (fun g=>g=p∨B≤g) w w'∧∃ vo',TkAt B F w' t p r (out ++ List.replicate n (k,[])) (left - n) last k vo' vl:=by
  have H:=zz0 h
  have c0:=tk_0 h.blk
  have c2:=tk_2 h.blk
  have RDH:=zz0 h.rd
  obtain ⟨kn,rfl⟩:∃ kn:Nat,k=kn:=⟨k.toNat,by omega⟩
  have WI:=zz0 (zbc F p kn 3 r w (by simpa using h.rd) (by omega) (by omega))
  obtain ⟨xs,o1,o2⟩:=h.out
  have O1:=zz0 o1
  have O2:=zz0 o2
  obtain ⟨oa,oc,rfl,_,_⟩:=zaa o1
  obtain ⟨i0,hi0,hz0,hz1,hz2⟩:=info_parts infoCell
  have hb1:((kn:Int) == 1)=false:=by simpa using hk1
  have hb2:((kn:Int) == kind)=false:=by simpa using hkk
  have I0:=zz0 (And.intro hi0 (And.intro hz0 (And.intro hz1 hz2)))
  clear h o1 o2 hk1 hkk
  go_enter Tryz.func296,Tryz.ntmps296
  go_wp2_with (first
    | (go_at_call 95;refine WI.out.mono ?_;rintro e w1 ⟨rfl,k1,r1⟩;have T1:=H.out.read k1 r1;have d0:=tk_0 T1.blk;have d1:=tk_1 T1.blk;have d4:=tk_4 T1.blk;have K1:=zz0 k1;have H1:=zz0 T1;have R1:=zz0 r1;clear k1 r1 T1)
    | (go_at_call 154;refine (zbR F p r _ R1.out).mono ?_;rintro e w2 ⟨rfl,e2⟩;subst e2))
  have BT:=zz0 H1.out.blk
  have OB:=zz0 H1.out.voT
  obtain ⟨ys,o1,o2⟩:=H1.out.out
  have P1:=zz0 o1
  have P2:=zz0 o2
  clear o1 o2
  have hwn:IntKind.i64.wrap (n:Int)=n:=IntWalk.i64_in _ (by omega)
  have hwn2:IntKind.wrap .i64 (n:Int)=n:=hwn
  have ka:Keep Non w2 (w2.alloc (.cells #[.int .i64 kn,.slice none 0 0] 60)):=(Keep.refl _ _).alloc _
  have a0:(w2.alloc (.cells #[.int .i64 kn,.slice none 0 0] 60)).drew.cell? ⟨w2.heap.size,0,none⟩=some (.int .i64 kn):=World.cell?_alloc_new w2 _ _ 0
  have a1:(w2.alloc (.cells #[.int .i64 kn,.slice none 0 0] 60)).drew.cell? ⟨w2.heap.size,0+1,none⟩=some (.slice none 0 0):=World.cell?_alloc_new w2 _ _ 1
  have d1a:(w2.alloc (.cells #[.int .i64 kn,.slice none 0 0] 60)).cell? ⟨t,1,none⟩=some (.slice oa out.length oc):=tk_1 (ka.at BT.out (fun e=>e))
  have A0:=zz0 a0
  have A1:=zz0 a1
  clear d0 d4 c0 c2 a0 a1 ka hi0 hz0 hz1 hz2
  go_region_law (first
    | (go_simp;go_at_call 347;refine (zi9 w2.heap.size 0 1 n kn _ (by exact A0.out) (by exact A1.out) hn (by omega) (by omega)).mono ?_;rintro e w3 ⟨rfl,k3,b3⟩;have K3:Hid (Keep Non w2 w3):=zz0 (((Keep.refl Non w2).alloc _).drew.trans1 k3);have e1:w3.cell? ⟨t,1,none⟩=some (.slice oa out.length oc):=tk_1 (K3.out.at BT.out (fun e=>e));have B3:Hid (w3.heap[w2.heap.size+1]? = some (.cells (genC kn n n).toArray 60 (0,0))):=zz0 (by rw [← b3];simp);clear k3 b3)
    | ((refine zag (by rfl) (.tmp 49) (.tmp 55) 22 (by rfl) B 60 i0 _ 2 32 Tryz.underlying22 I0.out.1 I0.out.2.1 I0.out.2.2.1 I0.out.2.2.2 rfl (by decide) (.slice oa out.length oc) out.length ys (by rfl) (zac P1.out K3.out (fun _ _ e=>e)) ⟨w2.heap.size+1,0,none⟩ n n (genC kn n n) (by simp [Act.eval]) (by rw [zaC];omega) (by exact zk3 B3.out) (zfz _ _ _) (by unfold maxLen;omega) (by omega) (by have h1:=K3.out.size;have h2:=H1.out.htB;have h3:=lt_of_block BT.out;omega) ?_;intro v4 w4 ho hg hpp;obtain ⟨a4,c4,rfl,_,_⟩:=zaa ho;have HO:=zz0 ho;have HP:=zz0 hpp;have KG:Hid (Keep (fun k=>(Value.slice oa out.length oc).ownBlock=some k) w3 w4):=zz0 (Keep.grown (Keep.refl _ _) hg (fun k e=>.inl e));have b4:=KG.out.at (K3.out.at BT.out (fun e=>e)) OB.out;have B4:=zz0 b4;have g1:=tk_f b4 1;have g2:=tk_f b4 2;have g4:=tk_f b4 4;have q1:=tk_1 b4;have d2:=tk_2 b4;have q4:=tk_4 b4;clear ho hg hpp b4)))
  all_goals
    have hln:IntKind.wrap .i64 ((left:Int) - n)=((left - n:Nat):Int):=by rw [show ((left:Int) - n)=((left - n:Nat):Int) by omega];exact IntWalk.i64_in _ (by omega)
    go_wp2_with fail
    go_end0
    have h3:=H1.out.keepNon K3.out
    have k6:Keep (One t) w4 (((w4.setCell ⟨t,1,none⟩ (.slice a4 (out.length+n) c4)).setCell ⟨t,2,none⟩ (.int .i64 (left - n:Nat))).setCell ⟨t,4,none⟩ (.int .i64 kn)):=(((Keep.refl _ _).setOne _ _).setOne _ _).setOne _ _
    obtain ⟨c1,c2⟩:=zio (left':=left - n) (kind':=kn) h3 (P2.out.keep K3.out (fun _ _ e=>e.elim) (fun _ _ e=>e)) (CellsOf.rep B _ w3 kn n) (List.length_replicate ..) HO.out KG.out HP.out (zlw (zlv (zlu B4.out _) _) _) k6 h3.last
    exact ⟨rfl,zh1 K1.out (K3.out.ofNon.trans1 c1),_,c2⟩
end Go.Proofs.YtnboipdpccnedaaGreatDoor
