/- The law's long and begin: walked. · The law's begin: walked. · holdfasttop.restored's parts: the disk, the chains of two units, Over. · holdfasttop.be -/
import Derived.Test.YtnboipdpccnedaaGreatDoorQ43
import Derived.Test.YtnboipdpccnedaaGreatDoorQ44
set_option linter.unusedVariables false
set_option maxRecDepth 100000
set_option maxHeartbeats 16000000
namespace Go.Proofs.YtnboipdpccnedaaGreatDoor
open Go.RowKit Go.Maps
def CellsIn (w:World) (v:Value) (cl:List Cl):Prop:=∃ a c,v = .slice a cl.length c∧∀ j (hj:j < cl.length),∃ g off sa sc,a=some ⟨g,off,none⟩∧g < w.heap.size∧w.cell? ⟨g,off+j * 2,none⟩=some (.int .i64 cl[j].1)∧w.cell? ⟨g,off+j * 2+1,none⟩=some (.slice sa cl[j].2.length sc)∧Bs w (.slice sa cl[j].2.length sc) cl[j].2∧(cl[j].2 = []∨∀ k,(Value.slice sa cl[j].2.length sc).ownBlock=some k→k < w.heap.size)
theorem CellsIn.keep {S:Nat→Prop} {w w':World} {v:Value} {cl:List Cl} (h:CellsIn w v cl) (k:Keep S w w') (hn:∀ g,g < w.heap.size→¬ S g):CellsIn w' v cl:=by
  obtain ⟨a,c,rfl,hx⟩:=h
  refine ⟨a,c,rfl,fun j hj=>?_⟩
  obtain ⟨g,off,sa,sc,h1,h2,h3,h4,h5,h6⟩:=hx j hj
  have hc:∀ i v,w.cell? ⟨g,i,none⟩=some v→w'.cell? ⟨g,i,none⟩=some v:=fun i v e=>by
    have:=k.block g h2 (hn g h2)
    unfold World.cell? at *
    rw [this]
    exact e
  exact ⟨g,off,sa,sc,h1,k.lt h2,hc _ _ h3,hc _ _ h4,zhM h5 k (h6.imp id (fun h6 g e=>hn g (h6 g e))),h6.imp id (fun h6 k' e=>k.lt (h6 k' e))⟩
def longL (cl:List Cl):Bool:=cl.any (fun x=>decide (64 < x.2.length)) || decide (200 < cl.length)
theorem ziq (v:Value) (cl:List Cl) (w:World) (h:CellsIn w v cl) (hm:cl.length≤9223372036854775807) :
    Calls Tryz.prog 5 #[v,.int .i64 200] w fun e w'=>e = .returned (.bool (longL cl))∧Keep Non w w':=by
  have H:=zz0 h
  obtain ⟨a,c,rfl,hx⟩:=h
  clear hx
  go_enter Tryz.func5,Tryz.ntmps5
  go_wp2_with fail
  go_loopw [9] (fun i wr=>∃ j:Nat,j≤cl.length∧i = .int .i64 j∧Keep Non w wr∧(cl.take j).any (fun x=>decide (64 < x.2.length))=false) (fun i _=>cl.length - (intOf i).toNat)
  case atStart=>exact ⟨0,by omega,rfl,Keep.refl _ _,rfl⟩
  case round =>
    obtain ⟨j,hj,rfl,hk,hl⟩:=hrel
    by_cases hlt:j < cl.length
    · have hlj:(j:Int) < (cl.length:Int):=by omega
      obtain ⟨a1,c1,e1,hx⟩:=H.out.keep hk (fun _ _ e=>e)
      injection e1 with e1 e3 e4
      subst e1
      subst e4
      obtain ⟨g,off,sa,sc,rfl,h2,h3,h4,h5,h6⟩:=hx j hlt
      have hst:(cl.take (j+1)).any (fun x=>decide (64 < x.2.length))=((cl.take j).any (fun x=>decide (64 < x.2.length)) || decide (64 < cl[j].2.length)):=by
        rw [List.take_add_one,List.getElem?_eq_getElem hlt,List.any_append]
        simp only [Option.toList_some,List.any_cons,List.any_nil,Bool.or_false]
      rw [hl,Bool.false_or] at hst
      have hany:64 < cl[j].2.length→longL cl=true:=fun e=>by
        unfold longL
        rw [List.any_eq_true.2 ⟨cl[j],List.getElem_mem _,by simpa using e⟩]
        rfl
      generalize cl[j]=y at h3 h4 hst hany
      clear hx h5 h6
      by_cases h64:64 < y.2.length
      · have h64':(64:Int) < (y.2.length:Int):=by omega
        have hL:=hany h64
        go_wp2_with fail
        go_ret
        exact ⟨by first | rfl | rw [hL],hk.alloc _⟩
      · have h64':¬ (64:Int) < (y.2.length:Int):=by omega
        rw [decide_eq_false h64] at hst
        go_wp2_with fail
        exact ⟨⟨j+1,by omega,by first | rfl | go_num,hk.alloc _,hst⟩,by simp [intOf];omega⟩
    · obtain rfl:j=cl.length:=by omega
      rw [List.take_length] at hl
      have hb:(decide ((200:Int) < (cl.length:Int)))=longL cl:=by
        unfold longL
        rw [hl,Bool.false_or]
        by_cases h2:200 < cl.length
        · rw [decide_eq_true h2,decide_eq_true (by omega)]
        · rw [decide_eq_false h2,decide_eq_false (by omega)]
      go_wp2_with fail
      go_ret
      exact ⟨by first | (rw [← hb];rfl) | (rw [← hb];simp),hk⟩
def putN (L:Lg):Nat→List Cl→Lg
  | _,[]=>L
  | i,x :: r=>putN (putL L i x) (i+1) r
theorem zgs:∀ (l:List Cl) (L:Lg) (i:Nat) (x:Cl),putN L i (l ++ [x])=putL (putN L i l) (i+l.length) x
  | [],L,i,x=>rfl
  | y :: r,L,i,x=>by
    show putN (putL L i y) (i+1) (r ++ [x])=_
    rw [zgs r]
    have e:i+1+r.length=i+(y :: r).length:=by simp;omega
    rw [e]
    rfl
theorem zeq:∀ (l:List Cl) (L:Lg) (i:Nat),Filled L i→i+l.length≤200→Filled (putN L i l) (i+l.length)
  | [],L,i,h,_=>h
  | y :: r,L,i,h,hl=>by
    simp at hl
    have:=zeq r (putL L i y) (i+1) (h.put (by omega) y) (by omega)
    have e:i+1+r.length=i+(y :: r).length:=by simp;omega
    rw [e] at this
    exact this
theorem zbr (room:Nat):(dk0 room).free:=⟨rfl,by show (-1:Int) < 0;decide⟩
theorem zc6 (room:Nat) (n:Byt):fhas (dk0 room).shown n=false:=rfl
theorem zcA (room:Nat):(dk0 room).lim 0 0 0:=⟨Nat.le_refl _,Nat.le_refl _,Nat.le_refl _,by show (-1:Int)≤1000000000;decide,⟨[],rfl⟩⟩
theorem zhV (room:Nat):VtOk (dk0 room):=⟨zbr room,(fun n h=>by rw [zc6] at h;cases h),(zcA room).mono (by omega) (by omega) (by omega),zc6 _ _,zc6 _ _⟩
def bagL (cl:List Cl):Lg:=putN ⟨[sh1 16777216],1,0,1⟩ 0 cl
theorem za5 (cl:List Cl) (h:cl.length≤200):Filled (bagL cl) cl.length:=by
  have:=zeq cl ⟨[sh1 16777216],1,0,1⟩ 0 filled0 (by omega)
  rwa [Nat.zero_add] at this
theorem zmM (w:World):PrAt (fun g=>w.heap.size≤g) ((w.alloc (.cells #[.int .i64 0] 3)).alloc (.cells #[.slice (some ⟨w.heap.size,0,none⟩) 1 1] 23)) (.slice (some ⟨w.heap.size+1,0,none⟩) 1 1) 1:=by
  have h1:Rd (w.alloc (.cells #[.int .i64 0] 3)) (.slice (some ⟨w.heap.size,0,none⟩) 1 1) [.int .i64 0]:=zbY w 3 [.int .i64 0]
  have h2:=zbY (w.alloc (.cells #[.int .i64 0] 3)) 23 [.slice (some ⟨w.heap.size,0,none⟩) 1 1]
  have e:(w.alloc (.cells #[.int .i64 0] 3)).heap.size=w.heap.size+1:=by simp
  rw [e] at h2
  refine ⟨_,_,_,rfl,rfl,h2,⟨rfl,fun i u l hu hl=>?_⟩,by omega,fun v hv k hk=>?_⟩
  · cases i with
    | succ i=>simp at hu
    | zero =>
      simp at hu
      subst hu
      have hl':l = [0]:=by simpa [chainsN] using hl.symm
      subst hl'
      exact h1.keepNon ((Keep.refl _ _).alloc _)
  · simp at hv
    subst hv
    simp [Value.ownBlock] at hk
    omega
def zd1:Dk:=putX (dk0 1048576) rname (cuBy (cu00 1))
def zd2:Dk:=putX zd1 rname (cuBy (cuAt 1 1 0))
theorem zhR:okCu (cuAt 1 1 0):=⟨trivial,rfl,Nat.le_refl _,by show 1≤1048576;omega,by show 0≤1048576;omega,by show 0≤64;omega⟩
theorem zlP:(dk0 1048576).sput rname (cuBy (cu00 1))=(0,zd1):=by
  have hl:=zbt (zfn (n:=1) (by omega))
  rcases zet (zbr _) (zcA 1048576) (by omega) rname (cuBy (cu00 1)) (by omega) with ⟨e,h1⟩ | e
  · have hr:(dk0 1048576).room=1048576:=rfl
    rw [hr] at h1
    omega
  · exact e
theorem zfV:zd1.lim 2 2 6600:=(zbQ (zcA 1048576) zlP).mono (by omega) (by omega) (by have hl:=zbt (zfn (n:=1) (by omega));omega)
theorem zlR:zd1.sput rname (cuBy (cuAt 1 1 0))=(0,zd2):=by
  have hl:=zbt zhR
  rcases zet (X:=zd1) (zes (zbr _) _ _) zfV (by omega) rname (cuBy (cuAt 1 1 0)) (by omega) with ⟨e,h1⟩ | e
  · have hr:zd1.room=1048576:=rfl
    rw [hr] at h1
    omega
  · exact e
theorem zlQ:zd2.lim 4 4 13200:=(zbQ zfV zlR).mono (by omega) (by omega) (by have hl:=zbt zhR;omega)
theorem znB:zd2.mild:=zlQ.mild (by omega) (by omega) (by omega)
theorem zpD:(zd2.sdel rname).1=0:=by
  have hh:fhas zd2.shown rname=true:=zaS zfV.map
  rw [zgB (X:=zd2) (zes (zes (zbr _) _ _) _ _),if_pos hh]
theorem zm1 {x b lb q N B M t:Nat} {iv:Value} {ov:Bool} (w:World) (hx:w.heap[x]? = some (RsB b lb q N B M iv t ov)) :
    Calls Tryz.prog 51 #[.pointer (some ⟨x,0,none⟩)] w fun e w'=>e = .returned (.bool ov)∧w'=w:=by
  have c8:=rs_8 hx
  go_enter Tryz.func51,Tryz.ntmps51
  go_wp2_with fail
  go_ret
  exact ⟨rfl,rfl⟩
theorem zlo (F0:Nat→Prop) (p room:Nat) (w:World) (d0:DiskAt F0 w p (dk0 room)) :
    Calls Tryz.prog 42 #[.pointer (some ⟨p,0,none⟩)] w fun e w'=>∃ q,e = .returned (.tuple #[.pointer (some ⟨q,0,none⟩),.nilIface])∧w.heap.size≤q∧StoreTo F0 w q p (dk0 room) w':=by
  refine (zdA F0 p (dk0 room) 0 0 0 w d0 (zbr _) (zcA _) (by omega) (by omega) (by omega) (fun n h=>((zhV room).tidy n h).1)).mono ?_
  rintro e w' ⟨q,ns,rfl,hq,hp,t⟩
  rw [zda (zhV room).tidy ns hp d0.str] at t
  exact ⟨q,rfl,hq,t⟩
def o0:Obj:=.cells #[.int .i64 0] 3 (0,0)
def o1:Obj:=.cells #[.int .i64 1] 3 (0,0)
def o2 (n:Nat):Obj:=.cells #[.slice (some ⟨n,0,none⟩) 1 1,.slice (some ⟨n+1,0,none⟩) 1 1] 23 (0,0)
theorem zmN (w:World):PrAt (fun g=>w.heap.size≤g) (((w.alloc o0).alloc o1).alloc (o2 w.heap.size)) (.slice (some ⟨w.heap.size+1+1,0,none⟩) 2 2) 2:=by
  have h1:Rd (w.alloc o0) (.slice (some ⟨w.heap.size,0,none⟩) 1 1) [.int .i64 0]:=zbY w 3 [.int .i64 0]
  have e1:(w.alloc o0).heap.size=w.heap.size+1:=by show (w.heap.push _).size=_;simp
  have e2:((w.alloc o0).alloc o1).heap.size=w.heap.size+1+1:=by show ((w.heap.push _).push _).size=_;simp
  have h2:Rd ((w.alloc o0).alloc o1) (.slice (some ⟨w.heap.size+1,0,none⟩) 1 1) [.int .i64 1]:=by have:=zbY (w.alloc o0) 3 [.int .i64 1];rw [e1] at this;exact this
  have h3:Rd (((w.alloc o0).alloc o1).alloc (o2 w.heap.size)) (.slice (some ⟨w.heap.size+1+1,0,none⟩) 2 2) [.slice (some ⟨w.heap.size,0,none⟩) 1 1,.slice (some ⟨w.heap.size+1,0,none⟩) 1 1]:=by have:=zbY ((w.alloc o0).alloc o1) 23 [.slice (some ⟨w.heap.size,0,none⟩) 1 1,.slice (some ⟨w.heap.size+1,0,none⟩) 1 1];rw [e2] at this;exact this
  refine ⟨_,_,_,rfl,rfl,h3,⟨rfl,fun i u l hu hl=>?_⟩,by omega,fun v hv k hk=>?_⟩
  · match i,hu,hl with
    | 0,hu,hl =>
      simp at hu
      subst hu
      have hl':l = [0]:=by simpa [chainsN] using hl.symm
      subst hl'
      exact h1.keepNon (((Keep.refl _ _).alloc _).alloc _)
    | 1,hu,hl =>
      simp at hu
      subst hu
      have hl':l = [1]:=by simpa [chainsN] using hl.symm
      subst hl'
      exact h2.keepNon ((Keep.refl _ _).alloc _)
    | i+2,hu,hl=>simp at hu
  · simp at hv
    rcases hv with rfl | rfl
    · have:w.heap.size=k:=by simpa [Value.ownBlock] using hk
      omega
    · have:w.heap.size+1=k:=by simpa [Value.ownBlock] using hk
      omega
theorem zfi (v:Value) (cl:List Cl) (w:World) (hc:CellsIn w v cl) (hn:cl.length≤200) (hlay:Lay w) (h10:10≤w.heap.size) :
    Calls Tryz.prog 6 #[v] w fun e w'=>∃ lb b p q F FL,e = .returned (.tuple #[.pointer (some ⟨lb,0,none⟩),.pointer (some ⟨b,0,none⟩),.pointer (some ⟨p,0,none⟩),.bool true])∧Keep Non w w'∧VtSt F FL w' b lb q p (dk0 16777216) (bagL cl)∧∀ g,(F g∨g=b)→w.heap.size≤g:=by
  have H:=zz0 hc
  have HL:=zz0 hlay
  have NW:=zz0 (zh3 _ 1 _ _ (hlay.keepNon (((Keep.refl Non w).alloc _).alloc _)) (zmM w) (by omega) (by omega) (by simp;omega))
  obtain ⟨a,c,rfl,hx⟩:=hc
  clear hx hlay
  go_enter Tryz.func6,Tryz.ntmps6
  go_wp2_with (first
    | (go_at_call 20;refine NW.out.mono ?_;rintro e w1 ⟨lb,rfl,k1,l1⟩;have K1:=zz0 ((((Keep.refl Non w).alloc _).alloc _).trans1 k1);have Z1:Hid (w.heap.size+2≤w1.heap.size):=zz0 (by have:=k1.size;simpa using this);have LG1:=zz0 l1;clear k1 l1)
    | (go_at_call 21;refine (zft 16777216 w1 (by omega)).mono ?_;rintro e w2 ⟨p,rfl,k2,d2⟩;have K2:=zz0 k2;have D2:=zz0 d2;clear k2 d2)
    | (go_at_call 15;refine (znv _ p (dk0 16777216) 0 0 0 w2 D2.out (zbr _) (zcA _) (by omega) (by omega) (by omega) (zhV _).tidy (zc6 _ _)).mono ?_;rintro e w3 ⟨b,q,rfl,vb,k3,hb,F3,s3,nb,l3,st3⟩;have K3:=zz0 k3;have VB:=zz0 vb;have S3:=zz0 (And.intro s3 (And.intro nb (And.intro l3 hb)));have ST3:=zz0 st3;clear vb k3 hb s3 nb l3 st3))
  have K23:Hid (Keep Non w1 w3):=zz0 (K2.out.trans K3.out (fun _ _ e=>e) (fun g hg e=>by have:=e.1;omega))
  have L3:Hid (LgAt (fun g=>w.heap.size+2≤g∧g < w1.heap.size) w3 lb 1 (bagL [])):=zz0 ((LG1.out.keepNon K23.out).mono (fun g y _=>⟨by have:=y.1;simp at this;omega,y.2⟩))
  have KW3:=zz0 (K1.out.trans1 K23.out)
  go_loopw [49] (fun i wr=>∃ j:Nat,j≤cl.length∧i = .int .i64 j∧LgTo (fun g=>w.heap.size+2≤g∧g < w1.heap.size) w3 lb 1 (bagL (cl.take j)) wr) (fun i _=>cl.length - (intOf i).toNat)
  case atStart=>exact ⟨0,by omega,rfl,LgTo.refl L3.out (Keep.refl _ _)⟩
  case round =>
    obtain ⟨j,hj,rfl,tj⟩:=hrel
    have TJ:=zz0 tj
    obtain ⟨kj,FJ,sj,lj⟩:=tj
    have hz3:=K23.out.size
    have CJ:=H.out.keep (S:=fun g=>w.heap.size≤g) ((KW3.out.mono (S:=Non) (T:=fun g=>w.heap.size≤g) (fun _ _ e=>e.elim)).trans kj (fun _ _ e=>e) (fun g hg e=>by have:=e.1;omega)) (fun g hg e=>by omega)
    have CJH:=zz0 CJ
    clear kj sj lj CJ
    by_cases hlt:j < cl.length
    · have hlj:(j:Int) < (cl.length:Int):=by omega
      obtain ⟨a1,c1,e1,hx⟩:=CJH.out
      injection e1 with e1 e3 e4
      subst e1
      subst e4
      obtain ⟨g,off,sa,sc,rfl,h2,h3,h4,h5,h6⟩:=hx j hlt
      obtain ⟨kj,FJ,sj,lj⟩:=TJ.out
      have hFJ:∀ g,FJ g→w.heap.size≤g:=fun g y=>by
        rcases sj g y with u | u
        · omega
        · have:=KW3.out.size;omega
      have hst:bagL (cl.take (j+1))=putL (bagL (cl.take j)) j cl[j]:=by
        rw [List.take_add_one,List.getElem?_eq_getElem hlt]
        show putN _ 0 (cl.take j ++ [cl[j]])=_
        rw [zgs,List.length_take,Nat.zero_add,Nat.min_eq_left (by omega)]
        rfl
      have hfl:Filled (bagL (cl.take j)) j:=by
        have:=za5 (cl.take j) (by rw [List.length_take];omega)
        rwa [List.length_take,Nat.min_eq_left (by omega)] at this
      have PU:Hid (∀ W,Keep Non wr W→Calls Tryz.prog 22 #[.pointer (some ⟨lb,0,none⟩),.int .i64 j,.agg #[.int .i64 cl[j].1,.slice sa cl[j].2.length sc]] W fun r w'=>(∃ e,r = .returned (errv e))∧LgTo FJ W lb 1 (putL (bagL (cl.take j)) j cl[j]) w'):=zz0 (fun W k=>by
        refine zmw W (lj.keepNon k) hfl (by omega) (HL.out.keep (S:=fun g=>w.heap.size≤g) ((KW3.out.mono (T:=fun g=>w.heap.size≤g) (fun _ _ e=>e.elim)).trans (kj.trans1 k.ofNon) (fun _ _ e=>e) (fun g hg e=>by have:=e.1;omega)) (fun g hg e=>by omega)) (Rd.keepNon h5 k) (by
          rcases h6 with h6 | h6
          · exact .inl h6
          by_cases hne:cl[j].2 = []
          · exact .inl hne
          refine .inr (fun g e=>⟨fun y=>?_,k.lt (h6 g e)⟩)
          have hown:g < w.heap.size:=by
            obtain ⟨_,_,e1,hx0⟩:=H.out
            injection e1 with e1 _ _
            obtain ⟨g1,off1,sa1,sc1,q1,q2,q3,q4,q5,q6⟩:=hx0 j hlt
            rw [← e1] at q1
            injection q1 with q1
            injection q1 with q1 q1'
            subst q1
            subst q1'
            have kk:Keep (fun g=>w.heap.size≤g) w wr:=(KW3.out.mono (T:=fun g=>w.heap.size≤g) (fun _ _ e=>e.elim)).trans kj (fun _ _ e=>e) (fun g hg e=>by have:=e.1;omega)
            have h4':=zaZ kk (by omega) q4
            rw [h4] at h4'
            injection h4' with h4'
            rw [h4'] at e
            exact (q6.resolve_left hne) g e
          have:=hFJ g y
          omega))
      have HJ:=zz0 (And.intro kj sj)
      have HST:=zz0 hst
      clear h5 h6 hx lj hfl kj sj hst
      generalize cl[j]=y at h3 h4 PU HST
      go_wp2_with (go_at_call 22;refine (PU.out _ ((Keep.refl _ _).alloc _)).mono ?_;rintro e w5 ⟨⟨ee,rfl⟩,t5⟩;have T5:=zz0 t5;clear t5)
      refine ⟨⟨j+1,by omega,by first | rfl | go_num,?_⟩,by simp [intOf];omega⟩
      rw [HST.out]
      exact LgTo.trans HJ.out.2 HJ.out.1 (LgTo.pre ((Keep.refl _ _).alloc _) T5.out)
    · obtain rfl:j=cl.length:=by omega
      rw [List.take_length] at TJ
      go_wp2_with fail
      refine bodyPost_ret (v:=.tuple #[.pointer (some ⟨lb,0,none⟩),.pointer (some ⟨b,0,none⟩),.pointer (some ⟨p,0,none⟩),.bool true]) (by simp [results,Tryz.results6,go_sem]) rfl ?_
      obtain ⟨kj,FJ,sj,lj⟩:=TJ.out
      have h1:=K1.out.size
      have h2:=K2.out.size
      have h3:=K3.out.size
      have hw:w.heap.size≤w3.heap.size:=KW3.out.size
      have hz:=Z1.out
      have hF:∀ g,F3 g→w1.heap.size≤g∧g < w3.heap.size:=fun g y=>by
        have:=S3.out.2.2.1 g y
        rcases S3.out.1 g y with u | u
        · exact ⟨u.1,this⟩
        · exact ⟨by omega,this⟩
      have hbb:=S3.out.2.2.2
      have kw:Keep Non w wr:=KW3.out.trans kj (fun _ _ e=>e) (fun g hg e=>by have:=e.1;omega)
      refine ⟨lb,b,p,q,F3,fun g=>FJ g∧g < wr.heap.size,rfl,kw,⟨kj.at VB.out (fun e=>by have:=e.2;omega),ST3.out.keep kj (fun g y e=>by have:=hF g y;have:=e.2;omega),(by rw [(za5 cl hn).one];exact lj.low),HL.out.keepNon kw,⟨S3.out.2.1,fun y=>?_,by omega⟩,fun g y z=>?_,fun g y=>⟨by have:=hF g y;omega,by have:=hF g y;have:=kj.size;omega⟩,fun g y=>y.2⟩,fun g y=>y.elim (fun y=>by have:=hF g y;omega) (fun e=>by omega)⟩
      · have hb3:b < w3.heap.size:=lt_of_block VB.out
        rcases sj b y.1 with u | u
        · have:=u.2;omega
        · omega
      · have:=hF g y
        rcases sj g z.1 with u | u
        · have:=u.2;omega
        · omega
def FLr (W w1:World):Nat→Prop:=fun g=>W.heap.size≤g∧g < w1.heap.size
theorem zo5 {w W w1 w2 w3:World} {lb:Nat} {F':Nat→Prop} (kW:Keep Non w W) (k1:Keep Non W w1) (lg:LgAt (FLr W w1) w1 lb 2 lA) (k2:Keep Non w1 w2) (k3:Keep (fun g=>w1.heap.size≤g∧g < w2.heap.size) w2 w3) (s3:Sub F' (fun g=>w1.heap.size≤g∧g < w2.heap.size) w2) :
    Keep Non w w3∧LgAt (FLr W w1) w3 lb 2 lA∧w1.heap.size≤w3.heap.size∧∀ g,F' g→w1.heap.size≤g:=by
  have k13:Keep Non w1 w3:=k2.trans k3 (fun _ _ e=>e) (fun g hg e=>by have:=e.1;omega)
  refine ⟨(kW.trans1 k1).trans1 k13,lg.keepNon k13,k13.size,fun g y=>?_⟩
  rcases s3 g y with u | u
  · exact u.1
  · have:=k2.size;omega
theorem zm3 {w W w1 w3 w4:World} {b lb x q p:Nat} {F':Nat→Prop} {Z:Dk} (kW:Keep Non w W) (hW:W.heap.size≤w1.heap.size) (o:Keep Non w w3∧LgAt (FLr W w1) w3 lb 2 lA∧w1.heap.size≤w3.heap.size∧∀ g,F' g→w1.heap.size≤g) (r:RbEnd F' w3 b lb q p Z x w4) :
    ∃ ad c F'',RsIn F'' (FLr W w1) w w4 b lb x q p c 0 ad Z lA:=by
  obtain ⟨k3,lg,h13,f'⟩:=o
  obtain ⟨ad,c,F'',k4,s4,l4,d4,x1,x2,x3,x4,i4,a1,a2,a3,a4⟩:=r
  have hw:=kW.size
  have h34:=k4.size
  have f'':∀ g,F'' g→w1.heap.size≤g:=fun g y=>by
    rcases s4 g y with u | u
    · exact f' g u
    · omega
  refine ⟨ad,c,F'',k3.trans k4 (fun _ _ e=>e) (fun g hg y=>by have:=f' g y;omega),fun g y=>⟨by have:=f'' g y;omega,l4 g y⟩,fun g y=>⟨by have:=y.1;omega,by have:=y.2;omega⟩,fun g y z=>by have:=f'' g y;have:=z.2;omega,⟨by omega,x3,fun y=>by have:=y.2;omega⟩,⟨by omega,a2,a3,fun y=>by have:=y.2;omega,a4⟩,d4,lg.keep k4 (fun g y z=>by have:=f' g z;have:=y.2;omega),x4,i4⟩
theorem zgQ {F0 T:Nat→Prop} {b q0 p0:Nat} {lv:Value} {m:Mf} {X0:Dk} (w:World) (v:RvIn F0 T w b q0 p0 lv m X0) (h10:10≤w.heap.size) :
    Calls Tryz.prog 18 #[.pointer (some ⟨b,0,none⟩),.int .i64 1] w fun e w'=>∃ lb FL,e = .returned (.tuple #[.pointer (some ⟨lb,0,none⟩),.bool true])∧Keep Non w w'∧LgAt FL w' lb 2 lD:=by
  have kW:Keep Non w (((w.alloc o0).alloc o1).alloc (o2 w.heap.size)):=(((Keep.refl _ _).alloc _).alloc _).alloc _
  have NW:=zz0 (zh3 _ 2 _ _ (v.lay.keepNon kW) (zmN w) (by omega) (by omega) (by have:=kW.size;omega))
  have KW:=zz0 kW
  have V:=zz0 v
  have BG:=zz0 (fun F FL lb q p (W:World) (k:Keep Non w W) (d:StoreAt F W q p (dk0 1048576)) (hF:∀ g,F g→g < W.heap.size) (lg:LgAt FL W lb 2 lA)=>zkZ F FL T b lb q0 q p lv m (ptOf 0 [(2,[])]) (dk0 1048576) zd1 lA W (nonAt k v.hb) (v.ms.keepNon k) (by rw [v.parts];intro y hy;rcases List.mem_cons.1 hy with rfl | hy;exact zal _;cases hy) (by rw [v.parts];decide) v.ok v.num v.lo v.hi v.trim v.parts rfl rfl d hF lg rfl rfl (zbr _).1 (zc6 _ _) ((zcA _).mono (by omega) (by omega) (by omega)) zlP)
  clear v kW
  unfold o0 o1 o2 at NW
  go_enter Tryz.func18,Tryz.ntmps18
  go_wp2_with (first
    | (go_at_call 20;refine NW.out.mono ?_;rintro e w1 ⟨lb,rfl,k1,l1⟩;have K1:=zz0 k1;have LG1:=zz0 l1;clear k1 l1)
    | (go_at_call 21;refine (zft 1048576 w1 (by omega)).mono ?_;rintro e w2 ⟨p,rfl,k2,d2⟩;have K2:=zz0 k2;have D2:=zz0 d2;clear k2 d2)
    | (go_at_call 42;refine (zlo _ p 1048576 w2 D2.out).mono ?_;rintro e w3 ⟨q,rfl,hq,k3,F',s3,d3⟩;have D3:=zz0 d3.low;have O3:=zz0 (zo5 (F':=fun g=>F' g∧g < w3.heap.size) KW.out K1.out (by exact LG1.out) K2.out k3 (fun g y=>s3 g y.1));clear k3 s3 d3 hq)
    | (go_at_call 49;refine (BG.out _ _ lb q p w3 O3.out.1 D3.out (fun g y=>y.2) O3.out.2.1).mono ?_;rintro e w4 ⟨x,rfl,r4⟩;obtain ⟨ad,c,F4,r5⟩:=zm3 KW.out K1.out.size O3.out r4;have R5:=zz0 r5;clear r4 r5)
    | (go_at_call 50;refine (zoO V.out R5.out (zfV.mono (by omega) (by omega) (by omega)) zlR znB zlQ.map zpD).mono ?_;rintro e w5 ⟨n5,rfl,r6⟩;have R6:=zz0 r6;clear r6)
    | (go_at_call 51;refine (zm1 w5 R6.out.2.2).mono ?_;rintro e w6 ⟨rfl,rfl⟩))
  go_ret2
  obtain ⟨FL',l6⟩:=R6.out.2.1
  exact ⟨lb,FL',rfl,R6.out.1,l6⟩
theorem VtSt.second {F FL F5:Nat→Prop} {w3 w4 w5:World} {b lb q p b2 q2 p2:Nat} {X:Dk} {L:Lg} {room:Nat} (h:VtSt F FL w3 b lb q p X L) (k4:Keep Non w3 w4) (vb:w5.heap[b2]? = some (VtB q2 (.slice none 0 0))) (k5:Keep (fun g=>w3.heap.size≤g∧g < w4.heap.size) w4 w5) (hb2:w4.heap.size≤b2) (s5:Sub F5 (fun g=>w3.heap.size≤g∧g < w4.heap.size) w4) (nb:¬ F5 b2) (l5:∀ g,F5 g→g < w5.heap.size) (st:StoreAt F5 w5 q2 p2 (dk0 room)) :
    VtSt F5 FL w5 b2 lb q2 p2 (dk0 room) L∧Keep Non w3 w5∧∀ g,F5 g→w3.heap.size≤g:=by
  have k35:Keep Non w3 w5:=k4.trans k5 (fun _ _ e=>e) (fun g hg e=>by have:=e.1;omega)
  have h3:10≤w3.heap.size:=by have:=h.out.2.2;have:=lt_of_block h.vt;omega
  have hs4:=k4.size
  have hF:∀ g,F5 g→w3.heap.size≤g:=fun g y=>by
    rcases s5 g y with u | u
    · exact u.1
    · omega
  refine ⟨⟨vb,st,h.lg.keepNon k35,h.lay.keepNon k35,⟨nb,fun y=>?_,by omega⟩,fun g y z=>?_,fun g y=>⟨by have:=hF g y;omega,l5 g y⟩,fun g y=>k35.lt (h.lowL g y)⟩,k35,hF⟩
  · have:=h.lowL b2 y;omega
  · have:=h.lowL g z;have:=hF g y;omega
def clH:List Cl:=[(2,[])]
theorem slabH:slabL (bagL clH) 1 0 = [(2,[])]:=by decide
theorem nextH:(bagL clH).next=1:=by decide
def XpOut (w:World) (F:Nat→Prop) (b q p:Nat) (w':World):Prop:=Keep (fun g=>F g∨g=b) w w'∧∃ F2 T v3 m X,RvIn F2 T w' b q p v3 m X
theorem VtSt.chain {F FL:Nat→Prop} {w:World} {b lb q p:Nat} {X:Dk} {L:Lg} (h:VtSt F FL w b lb q p X L):VsSt F FL Non w b lb q p (.slice none 0 0) [] X L :=
  ⟨h.vt,MsAt.nil _ _,h.st,h.lg,h.lay,⟨h.out.1,h.out.2.1,fun e=>e,h.out.2.2⟩,h.apart,fun g e=>e.elim,h.low,h.lowL,fun g e=>e.elim⟩
theorem zhL:Bk (dk0 16777216) []∧Bare (dk0 16777216) []:=by
  have hh:=fun n=>zc6 16777216 n
  refine ⟨⟨zbr _,(zhV _).tidy,rfl,by decide,okCh.nil,fun m hm=>by simp at hm,fun m hm=>by simp at hm,by decide,fun j m hj=>by simp at hj,fun k _ _=>hh _,fun j m hj=>by simp at hj⟩,⟨hh _,fun n hn=>?_,(zcA _).mono (by omega) (by omega) (by omega)⟩⟩
  rw [hh n] at hn
  cases hn
theorem zhy {F FL:Nat→Prop} {b lb q p:Nat} (w:World) (h:VtSt F FL w b lb q p (dk0 16777216) (bagL clH)) :
    Calls Tryz.prog 7 #[.pointer (some ⟨b,0,none⟩),.pointer (some ⟨lb,0,none⟩),.pointer (some ⟨p,0,none⟩),.int .i64 1,.slice none 0 0] w fun e w'=>e = .returned (.tuple #[.pointer (some ⟨b,0,none⟩),.bool true])∧XpOut w F b q p w':=by
  have FL0:=za5 clH (by decide)
  have L1:=FL0.log (by decide)
  refine (zeE (n:=1) (lo:=0) (la:=none) (lc:=0) (ms:=[]) w h.chain zhL.1 zhL.2 (by decide) L1 FL0.not3 FL0.low rfl (by omega) (by rw [nextH];exact Nat.le_refl _)).mono ?_
  rintro e w' ⟨rfl,k,F',T',la,lc,m,Z,st,hbk,hba,hend,sb,hT,hco,hp1,hp2⟩
  have hm:([] ++ [m])[0]? = some m:=rfl
  have l1:m.parts.length=1:=by
    have e0:endM []=0:=rfl
    rw [e0] at hp1 hp2
    omega
  obtain ⟨ok,fo,_,_⟩:=hbk.ok 0 m hm
  obtain ⟨c1,c2⟩:=hco 0 (by omega)
  have e64:endM []+64 * 0=0:=rfl
  rw [e64,slabH] at c1 c2
  have hp:m.parts = [ptOf 0 [(2,[])]]:=by
    match hq:m.parts,l1 with
    | [x],_ =>
      rw [hq] at c1
      simp at c1
      rw [c1]
  have hlo:m.lo=0:=by
    have:=ok.parts
    rw [hp] at this
    exact this.1.symm
  have hhi:m.hi=1:=by
    have e:endM ([] ++ [m])=m.hi:=rfl
    rw [← e,hend]
  refine ⟨rfl,k,F',T',_,m,Z,st.vt,st.st,hbk.free.1,st.lay,st.ms,ok,?_,hlo,hhi,hbk.trim m (by simp),hp,?_,c2⟩
  · exact fo.1
  · obtain ⟨f,cl,_,h1,_⟩:=hbk.segs 0 m hm 0 (ptOf 0 [(2,[])]) (by rw [hp];rfl)
    exact h1
def oH:Obj:=.cells #[.int .i64 2,.slice none 0 0] 60 (0,0)
theorem cellsH (w:World):CellsIn (w.alloc oH) (.slice (some ⟨w.heap.size,0,none⟩) 1 1) clH:=by
  refine ⟨some ⟨w.heap.size,0,none⟩,1,rfl,fun j hj=>?_⟩
  have h0:j=0:=by have:j < 1:=hj;omega
  subst h0
  refine ⟨w.heap.size,0,none,0,rfl,lt_of_block (zab w oH),cl0 (k:=2) (zab w oH),cl1 (k:=2) (zab w oH),?_,.inr (fun k e=>by cases e)⟩
  exact Rd.ofOwns (World.ownsRow_nil (w.alloc oH) 0 5 1)
theorem zn5:(cutS 2 1 (trimS 0 sHo)).ok:=(zil znT (by decide) (by omega)).did (by decide) (zap 5 2 1 [] (by omega) (by omega) (by omega) (by simp)) (by decide)
theorem zgP (w:World) (hlay:Lay w) (h10:10≤w.heap.size) :
    Calls Tryz.prog 4 #[] w fun e w'=>e = .returned (.bool true)∧Keep Non w w':=by
  have kA:Keep Non w (w.alloc oH):=(Keep.refl _ _).alloc _
  have BG:=zz0 (zfi (.slice (some ⟨w.heap.size,0,none⟩) 1 1) clH (w.alloc oH) (cellsH w) (by decide) (hlay.keepNon kA) (Nat.le_trans h10 kA.size))
  have RD:=zz0 (fun F b (W:World) (h:LgAt F W b 2 lD)=>by
    have:=zgi (a:=0) (s:=cutS 2 1 (trimS 0 sHo)) W h (by omega) (zkm 0) rfl rfl zn5.free.1 (by omega) (by rw [lD_at];decide)
    rw [lD_at] at this
    exact this)
  have KA:=zz0 kA
  have H10:=zz0 h10
  clear kA hlay h10
  unfold oH at BG
  go_enter Tryz.func4,Tryz.ntmps4
  go_wp2_with (first
    | (go_at_call 6;refine BG.out.mono ?_;rintro e w1 ⟨lb,b,p,q,F,FL,rfl,k1,v1,lo1⟩;have K1:=zz0 (KA.out.trans1 k1);have V1:=zz0 v1;have LO:=zz0 (fun g y=>Nat.le_trans KA.out.size (lo1 g y));clear k1 v1 lo1)
    | (go_at_call 7;refine (zhy w1 V1.out).mono ?_;rintro e w2 ⟨rfl,k2,F2,T,v3,m,X,rv⟩;have K2:=zz0 (K1.out.trans k2 (fun _ _ e=>e) (fun g hg y=>by have:=LO.out g y;omega));have RV:=zz0 rv;clear k2 rv)
    | (go_at_call 18;refine (zgQ w2 RV.out (Nat.le_trans H10.out K2.out.size)).mono ?_;rintro e w3 ⟨lb3,FL3,rfl,k3,l3⟩;have K3:=zz0 (K2.out.trans1 k3);have L3:=zz0 l3;clear k3 l3)
    | (go_at_call 19;refine (RD.out _ _ w3 L3.out).mono ?_;rintro e w4 ⟨v4,rfl,k4,o4⟩;obtain ⟨a4,c4,rfl,_,_⟩:=zaa o4;have K4:=zz0 (K3.out.trans1 k4);clear k4 o4))
  go_ret
  exact ⟨rfl,K4.out.alloc _⟩
end Go.Proofs.YtnboipdpccnedaaGreatDoor
