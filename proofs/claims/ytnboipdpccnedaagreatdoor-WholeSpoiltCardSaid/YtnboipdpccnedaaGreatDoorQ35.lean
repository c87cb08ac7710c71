/- vault.Chain of any chain: walked (turned from WVault). · vault.Open of any chain: walked. · Rows of manifests: their cells; slices.Clone of manifests: -/
import Derived.Test.YtnboipdpccnedaaGreatDoorQ32
set_option linter.unusedVariables false
set_option maxRecDepth 100000
set_option maxHeartbeats 16000000
namespace Go.Proofs.YtnboipdpccnedaaGreatDoor
open Go.RowKit
def MsOwn (B:Nat) (w:World) (v:Value) (ms:List Mf) (xs:List Value):Prop:=w.ownsRow B 87 37 v ms.length xs∧xs.length=ms.length * 37 ∧
  ∀ (j:Nat) m,ms[j]? = some m→m.prev.length=32∧∃ pa pc,(∀ (i:Nat) u,(mfC m (.slice pa m.parts.length pc))[i]? = some u→xs[j * 37+i]? = some u)∧PtsAt w (.slice pa m.parts.length pc) m.parts∧∀ g,(Value.slice pa m.parts.length pc).ownBlock=some g→B≤g∧g < w.heap.size∧v.ownBlock≠some g
theorem MsOwn.nil (B:Nat) (w:World):MsOwn B w (.slice none 0 0) [] []:=⟨World.ownsRow_nil _ _ _ _,rfl,fun j m h=>by simp at h⟩
theorem MsOwn.at {B:Nat} {w:World} {v:Value} {ms:List Mf} {xs:List Value} (h:MsOwn B w v ms xs):MsAt (fun g=>B≤g∧g < w.heap.size) w v ms:=by
  obtain ⟨ho,hl,hx⟩:=h
  have hlt:=ho.lt
  rcases ho.2 with ⟨hv,hn⟩ | ⟨g,cap,cur,rfl,_,hg,hn,_,_,htake⟩
  · have e:ms = []:=List.eq_nil_of_length_eq_zero (by omega)
    subst e
    rw [hv]
    exact MsAt.nil _ _
  · refine ⟨some ⟨g,0,none⟩,cap,rfl,hn,fun ad e=>⟨g,0,by injection e with e;exact e.symm,hlt g rfl⟩,fun j m hj=>?_⟩
    obtain ⟨h32,pa,pc,h1,h2,h3⟩:=hx j m hj
    refine ⟨h32,g,0,pa,pc,rfl,h2,fun g' e=>⟨(h3 g' e).1,(h3 g' e).2.1⟩,fun i u hu=>?_⟩
    have hu':=h1 i u hu
    rw [Nat.zero_add,World.cell?,hg]
    rw [← htake,List.getElem?_take] at hu'
    split at hu'
    · simpa using hu'
    · cases hu'
theorem MsOwn.keep {B:Nat} {S:Nat→Prop} {w w':World} {v:Value} {ms:List Mf} {xs:List Value} (h:MsOwn B w v ms xs) (k:Keep S w w') (hn:∀ g,B≤g→g < w.heap.size→¬ S g):MsOwn B w' v ms xs:=by
  obtain ⟨ho,hl,hx⟩:=h
  refine ⟨zac ho k (fun g e=>hn g (ho.lt g e).1 (ho.lt g e).2),hl,fun j m hj=>?_⟩
  obtain ⟨h32,pa,pc,h1,h2,h3⟩:=hx j m hj
  exact ⟨h32,pa,pc,h1,h2.keep k (fun g e=>hn g (h3 g e).1 (h3 g e).2.1),fun g e=>⟨(h3 g e).1,k.lt (h3 g e).2.1,(h3 g e).2.2⟩⟩
theorem MsOwn.snoc {B:Nat} {w wA w3:World} {o v3:Value} {ms:List Mf} {xs:List Value} {m:Mf} {pa:Option Addr} {pc:Nat} (h:MsOwn B w o ms xs) (k:Keep Non w wA) (hB:B≤w.heap.size) (h32:m.prev.length=32) (hp:PtsAt wA (.slice pa m.parts.length pc) m.parts) (hpo:∀ g,(Value.slice pa m.parts.length pc).ownBlock=some g→w.heap.size≤g∧g < wA.heap.size)
    (ho:w3.ownsRow B 87 37 v3 (ms.length+1) (xs ++ mfC m (.slice pa m.parts.length pc))) (hg:wA.grownBy w3 o.ownBlock) (hpp:v3.ownBlock=o.ownBlock∨v3.ownBlock=some wA.heap.size) :
    MsOwn B w3 v3 (ms ++ [m]) (xs ++ mfC m (.slice pa m.parts.length pc))∧Keep (fun g=>o.ownBlock=some g) w w3:=by
  obtain ⟨ho0,hl,hx⟩:=h
  have kg:Keep (fun g=>o.ownBlock=some g) wA w3:=(Keep.refl _ _).grown hg (fun k e=>.inl e)
  have hk:=k.size
  have hk3:=kg.size
  refine ⟨⟨by rw [List.length_append];exact ho,by rw [List.length_append,List.length_append,hl,za2 h32];simp;omega,fun j x hj=>?_⟩,k.ofNon.trans1 kg⟩
  rcases Nat.lt_or_ge j ms.length with hj2 | hj2
  · rw [List.getElem?_append_left hj2] at hj
    obtain ⟨a32,pa',pc',h1,h2,h3⟩:=hx j x hj
    refine ⟨a32,pa',pc',fun i u hu=>?_,(h2.keepNon k).keep kg (fun g e e2=>(h3 g e).2.2 e2),fun g e=>⟨(h3 g e).1,by have:=(h3 g e).2.1;omega,fun e2=>?_⟩⟩
    · have:=h1 i u hu
      rw [List.getElem?_append_left (List.getElem?_eq_some_iff.1 this).1]
      exact this
    · rcases hpp with q | q
      · exact (h3 g e).2.2 (by rw [← q,e2])
      · rw [q] at e2;injection e2 with e2;have:=(h3 g e).2.1;omega
  · rw [List.getElem?_append_right hj2] at hj
    have ej:j - ms.length=0:=by
      have:=(List.getElem?_eq_some_iff.1 hj).1
      simp at this
      omega
    rw [ej] at hj
    simp at hj
    subst hj
    refine ⟨h32,pa,pc,fun i u hu=>?_,hp.keep kg (fun g e e2=>?_),fun g e=>⟨by have:=(hpo g e).1;omega,by have:=(hpo g e).2;omega,fun e2=>?_⟩⟩
    · rw [(by rw [hl,show j=ms.length by omega]:j * 37+i=xs.length+i),List.getElem?_append_right (by omega),Nat.add_sub_cancel_left]
      exact hu
    · have:=(hpo g e).1
      have:=(ho0.lt g e2).2
      omega
    · rcases hpp with q | q
      · rw [q] at e2
        have:=(hpo g e).1
        have:=(ho0.lt g e2).2
        omega
      · rw [q] at e2;injection e2 with e2;have:=(hpo g e).2;omega
section
attribute [local go_sem ↓] hV84 hV106 hV87 hW84 hW106 hW87 hB106 hB87 hBS85 hBS41
theorem zbC (T:Nat→Prop) (b q:Nat) (lv:Value) (ms:List Mf) (w:World) (h:w.heap[b]? = some (VtB q lv)) (hm:MsAt T w lv ms) (h32:∀ m ∈ ms,pts32 m.parts∧m.parts.length≤10000) (hlen:ms.length≤1000) :
    Calls Tryz.prog 10 #[.pointer (some ⟨b,0,none⟩)] w fun e w'=>∃ v',e = .returned v'∧Keep Non w w'∧MsAt (fun g=>w.heap.size≤g∧g < w'.heap.size) w' v' ms:=by
  have c1:=vt_1 h
  have H:=zz0 hm
  have H32:=zz0 h32
  obtain ⟨a,c,rfl,hc,ha,hx⟩:=hm
  obtain ⟨i0,hi0,hz0,hz1,hz2⟩:=info_parts infoMf
  have I0:=zz0 (And.intro hi0 (And.intro hz0 (And.intro hz1 hz2)))
  clear h hx ha hi0 hz0 hz1 hz2 h32
  go_enter Tryz.func10,Tryz.ntmps10
  go_wp2_with fail
  go_loopw [3,13] (fun o i wr=>∃ j:Nat,j≤ms.length∧i = .int .i64 j∧Keep Non w wr∧∃ xs,MsOwn w.heap.size wr o (ms.take j) xs) (fun _ i _=>ms.length - (intOf i).toNat)
  case atStart=>exact ⟨0,by omega,rfl,Keep.refl _ _,[],MsOwn.nil _ _⟩
  case round =>
    obtain ⟨j,hj,rfl,hk,xs,ho⟩:=hrel
    have K:=zz0 hk
    have O:=zz0 ho
    obtain ⟨oa,oc,rfl,_,_⟩:=zaa ho.1
    have tl:(ms.take j).length=j:=by rw [List.length_take];omega
    have OR:Hid (wr.ownsRow w.heap.size 87 37 (.slice oa (ms.take j).length oc) (ms.take j).length xs):=zz0 ho.1
    rw [tl] at O OR ⊢
    clear hk ho
    by_cases hlt:j < ms.length
    · have hlj:(j:Int) < (ms.length:Int):=by omega
      obtain ⟨m,hm⟩:∃ m,ms[j]? = some m:=⟨_,List.getElem?_eq_getElem hlt⟩
      obtain ⟨a1,c1',e1,hc1,ha1,hx⟩:=H.out.keepNon K.out
      injection e1 with e1 e3 e4
      subst e1
      subst e4
      obtain ⟨hp32,g,off,pa,pc,rfl,x1,x2,x3⟩:=hx j m hm
      obtain ⟨p32,pl⟩:=H32.out m (List.mem_of_getElem? hm)
      have hld:=load83 wr g (off+j * 37) m (.slice pa m.parts.length pc) hp32 x3
      have hst:=zaF wr m pa m.parts.length pc hp32
      have hlm:=zan (zab wr (MfB m (.slice pa m.parts.length pc))) hp32
      have CO:=zz0 (zfG m (.slice pa m.parts.length pc) (wr.alloc (MfB m (.slice pa m.parts.length pc))) (x1.keepNon ((Keep.refl Non wr).alloc _)) hp32 p32 pl)
      have P32:=zz0 p32
      have ZW:=zz0 K.out.size
      have tj:ms.take (j+1)=ms.take j ++ [m]:=by rw [List.take_add_one,hm];rfl
      have TJ:=zz0 tj
      dsimp only [zMf,MfB] at hst
      dsimp only [MfB] at hlm CO
      clear hx ha1 x1 x2 x3 hm p32 pl tj
      go_wp2_with (first
        | (go_at_call 33;refine CO.out.mono ?_;rintro e w2 ⟨v2,rfl,k2,o2⟩;obtain ⟨a2,c2,rfl,_,_⟩:=zaa o2;have hbu:=za6 m a2 m.parts.length c2 hp32 w2;have K2:Hid (Keep Non wr (w2.alloc (MfB m (.slice a2 m.parts.length c2)))):=zz0 ((((Keep.refl Non wr).alloc (MfB m (.slice pa m.parts.length pc))).trans1 k2).alloc _);have O2:Hid (w2.ownsRow wr.heap.size 106 35 (.slice a2 m.parts.length c2) m.parts.length (ptsC m.parts)):=zz0 (zad o2 (by simp));clear k2 o2)
        | (at_builtin;refine zaj rfl _ _ 41 rfl w.heap.size 87 i0 (.agg zMf) 37 88 Tryz.underlying41 I0.out.1 I0.out.2.1 I0.out.2.2.1 I0.out.2.2.2 rfl (by decide) (.slice oa j oc) j xs rfl (zac OR.out K2.out (fun _ _ e=>e)) ⟨w2.heap.size,0,none⟩ 1 1 (mfC m (.slice a2 m.parts.length c2)) rfl (by rw [za2 hp32]) (by exact zcP (zab w2 (MfB m (.slice a2 m.parts.length c2)))) (zcp m a2 m.parts.length c2) (by unfold maxLen;omega) (by omega) (Nat.le_trans ZW.out K2.out.size) ?_;intro v3 w3 ho hg hpp;have HO:=zz0 ho;have HG:=zz0 hg;have HPP:=zz0 hpp;clear ho hg hpp))
      have oP:PtsAt (w2.alloc (MfB m (.slice a2 m.parts.length c2))) (.slice a2 m.parts.length c2) m.parts:=PtsAt.keepNon (PtsAt.of O2.out P32.out) ((Keep.refl Non w2).alloc _)
      have oo:∀ g,(Value.slice a2 m.parts.length c2).ownBlock=some g→wr.heap.size≤g∧g < (w2.alloc (MfB m (.slice a2 m.parts.length c2))).heap.size:=fun g e=>by have:=O2.out.lt g e;simp;omega
      obtain ⟨so,sk⟩:=MsOwn.snoc O.out K2.out ZW.out hp32 oP oo (by rw [tl];exact HO.out) HG.out HPP.out
      refine ⟨⟨j+1,by omega,by first | rfl | go_num,K.out.trans sk (fun _ _ e=>e) (fun g hg e=>by have:=(OR.out.lt g e).1;omega),_,by rw [TJ.out];exact so⟩,by simp [intOf];omega⟩
    · obtain rfl:j=ms.length:=by omega
      have M:=O.out.at
      rw [List.take_length] at M
      have MH:=zz0 M
      clear M
      go_wp2_with fail
      go_ret
      exact ⟨_,rfl,K.out,MH.out⟩
end
end Go.Proofs.YtnboipdpccnedaaGreatDoor
namespace Go.Proofs.YtnboipdpccnedaaGreatDoor
open Go.RowKit Go.Maps
structure HasMs (X:Dk) (ms:List Mf):Prop where
  has:∀ (j:Nat) m,ms[j]? = some m→fhas X.shown (titleN j)=true∧fget X.shown (titleN j)=mfBy m
  no:fhas X.shown (titleN ms.length)=false
theorem MsAt.widen {T U:Nat→Prop} {w:World} {v:Value} {ms:List Mf} (h:MsAt T w v ms) (hs:∀ g,T g→U g):MsAt U w v ms:=by
  obtain ⟨a,c,rfl,hc,ha,hx⟩:=h
  refine ⟨a,c,rfl,hc,fun ad e=>?_,fun j m hj=>?_⟩
  · obtain ⟨g,off,e1,e2⟩:=ha ad e
    exact ⟨g,off,e1,hs g e2⟩
  · obtain ⟨h32,g,off,pa,pc,rfl,h1,h2,h3⟩:=hx j m hj
    exact ⟨h32,g,off,pa,pc,rfl,h1,fun g e=>hs g (h2 g e),h3⟩
def vtLen (w:World) (b:Nat):Nat:=match w.cell? ⟨b,1,none⟩ with | some (.slice _ n _)=>n | _=>0
theorem ziu {w:World} {b q:Nat} {a:Option Addr} {n c:Nat} (h:w.heap[b]? = some (VtB q (.slice a n c))):vtLen w b=n:=by
  unfold vtLen
  rw [vt_1 h]
def VoLp (b q p:Nat) (F1:Nat→Prop) (wB:World) (X:Dk) (ms:List Mf) (j:Nat) (wr:World):Prop :=
  ∃ oa oc xs,wr.heap[b]? = some (VtB q (.slice oa j oc))∧MsOwn (b+1) wr (.slice oa j oc) (ms.take j) xs∧StoreAt F1 wr q p X∧Keep (One b) wB wr
theorem zpW (m:Mf) (n:Nat) (h:(mfBy m).length≤n):(mfT m).length≤n:=by
  simp only [mfBy,frameB,vtext,sealB,List.length_append] at h
  omega
theorem zpA {b q p j:Nat} {F1:Nat→Prop} {wB wr W w9:World} {X:Dk} {ms:List Mf} {m:Mf} {oa a4:Option Addr} {oc c4:Nat} {v9:Value} {xs:List Value} (hsB:wB.heap.size=b+1) (hB:b < wr.heap.size) (hj:j≤ms.length) (hF:∀ g,F1 g→g < b) (hm:ms[j]? = some m) (h32:m.prev.length=32) (vb:wr.heap[b]? = some (VtB q (.slice oa j oc))) (ow:MsOwn (b+1) wr (.slice oa j oc) (ms.take j) xs) (st:StoreAt F1 wr q p X) (kr:Keep (One b) wB wr) (kW:Keep Non wr W) (hp:PtsAt W (.slice a4 m.parts.length c4) m.parts) (hpo:∀ g,(Value.slice a4 m.parts.length c4).ownBlock=some g→wr.heap.size≤g∧g < W.heap.size)
    (ho:w9.ownsRow (b+1) 87 37 v9 (j+1) (xs ++ mfC m (.slice a4 m.parts.length c4))) (hg:W.grownBy w9 (Value.slice oa j oc).ownBlock) (hpp:v9.ownBlock=(Value.slice oa j oc).ownBlock∨v9.ownBlock=some W.heap.size) :
    VoLp b q p F1 wB X ms (j+1) (w9.setCell ⟨b,1,none⟩ v9)∧w9.heap[b]? = some (VtB q (.slice oa j oc))∧vtLen (w9.setCell ⟨b,1,none⟩ v9) b=j+1:=by
  have tl:(ms.take j).length=j:=by rw [List.length_take];omega
  obtain ⟨a9,c9,rfl,_,_⟩:=zaa ho
  obtain ⟨so,sk⟩:=MsOwn.snoc ow kW (by omega) h32 hp hpo (by rw [tl];exact ho) hg hpp
  have lo:∀ g,(Value.slice oa j oc).ownBlock=some g→b+1≤g:=fun g e=>(ow.1.lt g e).1
  have b9:=sk.at vb (fun e=>by have:=lo b e;omega)
  have kb:Keep (One b) w9 (w9.setCell ⟨b,1,none⟩ (.slice a9 (j+1) c9)):=(Keep.refl _ _).setOne _ _
  have bb:=zaf b9 1 (.slice a9 (j+1) c9)
  have tj:ms.take (j+1)=ms.take j ++ [m]:=by rw [List.take_add_one,hm];rfl
  have s0:=kr.size
  refine ⟨⟨a9,c9,_,bb,by rw [tj];exact so.keep kb (fun g e1 _ e=>by have e':g=b:=e;omega),(st.keep sk (fun g x e=>by have:=hF g x;have:=lo g e;omega)).keep kb (fun g x e=>by have e':g=b:=e;have:=hF g x;omega),?_⟩,b9,ziu bb⟩
  exact (kr.trans sk (U:=fun g=>One b g∨(Value.slice oa j oc).ownBlock=some g) (fun _ _ x=>.inl x) (fun _ _ x=>.inr x)).trans kb (fun g hg x=>by rcases x with x | x;exact x;(have:=lo g x;omega)) (fun _ _ x=>x)
def VoOk (F0:Nat→Prop) (w:World) (p:Nat) (X:Dk) (ms:List Mf) (e:Ending) (w':World):Prop :=
  ∃ b q la lc,e = .returned (.tuple #[.pointer (some ⟨b,0,none⟩),.nilIface])∧w'.heap[b]? = some (VtB q (.slice la ms.length lc))∧MsAt (fun g=>b < g∧g < w'.heap.size) w' (.slice la ms.length lc) ms∧Keep F0 w w'∧w.heap.size≤b∧∃ F',Sub F' F0 w∧(∀ g,F' g→g < b)∧StoreAt F' w' q p X
section
attribute [local go_sem ↓] hV84 hV106 hV87 hW84 hW106 hW87 hB106 hB87 hBS85 hBS41
theorem zfk (F0:Nat→Prop) (p:Nat) (ms:List Mf) (J:Nat) (B:List UInt8) (X:Dk) (a k f:Nat) (w:World) (d0:DiskAt F0 w p X) (hd:X.free) (hl:X.lim a k f) (ha:a≤505) (hk:k+a≤990) (hf:f≤400000000) (ht:X.tidy) (hJ:J≤ms.length) (hms:∀ (j:Nat) m,j < J→ms[j]? = some m→fhas X.shown (titleN j)=true∧fget X.shown (titleN j)=mfBy m) (cs:(J=ms.length∧fhas X.shown (titleN J)=false)∨(fhas X.shown (titleN J)=true∧fget X.shown (titleN J)=B∧Bad B)) (och:okCh ms) (hlen:ms.length < 90) (hlay:Lay w) (h10:∀ g,F0 g→10≤g) :
    Calls Tryz.prog 15 #[.pointer (some ⟨p,0,none⟩)] w fun e w'=>(J=ms.length∧fhas X.shown (titleN J)=false∧VoOk F0 w p X ms e w')∨(fhas X.shown (titleN J)=true∧e = .returned (.tuple #[.pointer none,.iface 55 (.int .i64 11)])∧Keep F0 w w'):=by
  have SO:Hid (Calls Tryz.prog 42 #[.pointer (some ⟨p,0,none⟩)] w fun e w'=>∃ q,e = .returned (.tuple #[.pointer (some ⟨q,0,none⟩),.nilIface])∧w.heap.size≤q∧∃ F',Sub F' F0 w∧(∀ g,F' g→g < w'.heap.size)∧Keep F0 w w'∧StoreAt F' w' q p X):=zz0 (by
    refine (zdA F0 p X a k f w d0 hd hl ha hk hf (fun n h=>(ht n h).1)).mono ?_
    rintro e w' ⟨q,ns,rfl,hq,hp,t⟩
    rw [zda ht ns hp d0.str] at t
    obtain ⟨k1,F1,s1,d⟩:=t
    obtain ⟨b1,i1,G,dg,hg⟩:=d
    exact ⟨q,rfl,hq,fun g=>F1 g∧g < w'.heap.size,fun g x=>s1 g x.1,fun g x=>x.2,k1,b1,⟨i1,lt_of_block b1⟩,fun g=>G g∧g < w'.heap.size,dg.low,fun g x=>⟨⟨(hg g x.1).1,x.2⟩,(hg g x.1).2⟩⟩)
  have HM:=zz0 hms
  have CS:=zz0 cs
  have OC:=zz0 och
  have LY:=zz0 hlay
  have H10:=zz0 h10
  have HD:=zz0 hd
  obtain ⟨i0,hi0,hz0,hz1,hz2⟩:=info_parts infoMf
  have I0:=zz0 (And.intro hi0 (And.intro hz0 (And.intro hz1 hz2)))
  have EE:=zd4 4 4
  have EN:=zd5 4
  have L10:Hid (10≤w.heap.size):=zz0 (by
    obtain ⟨T,s,h,pv,di⟩:=d0
    have:=h10 p di.inF.1
    have:=lt_of_block di.blk
    omega)
  clear d0 hd hl ht hms cs och hlay h10 hi0 hz0 hz1 hz2
  go_enter Tryz.func15,Tryz.ntmps15
  go_wp2_with (go_at_call 42;refine SO.out.mono ?_;rintro r w1 ⟨q,rfl,hq,F1,s1,f1,k1,d1⟩;have K1:=zz0 k1;have S1:=zz0 s1;have D1:=zz0 d1;have FL1:=zz0 f1;clear k1 s1 d1 f1)
  have kB:Keep Non w1 (w1.alloc (VtB q (.slice none 0 0))):=(Keep.refl _ _).alloc _
  have BB:=zz0 (zab w1 (VtB q (.slice none 0 0)))
  have DB:=zz0 (D1.out.keep kB (fun _ _ e=>e))
  have KB:=zz0 kB
  obtain ⟨wB,hwB⟩:∃ wB,wB=w1.alloc (VtB q (.slice none 0 0)):=⟨_,rfl⟩
  have hsB:wB.heap.size=w1.heap.size+1:=by rw [hwB];simp
  rw [← hwB] at BB DB KB
  unfold VtB at hwB
  rw [← hwB]
  clear hwB kB
  have SB:=zz0 hsB
  have LX:Hid (10≤w1.heap.size):=zz0 (Nat.le_trans L10.out K1.out.size)
  clear hsB
  go_loopw [] (fun wr=>∃ j,j≤J∧VoLp w1.heap.size q p F1 wB X ms j wr) (fun wr=>ms.length - vtLen wr w1.heap.size)
  case atStart=>exact ⟨0,by omega,none,0,[],BB.out,MsOwn.nil _ _,DB.out,Keep.refl _ _⟩
  case round =>
    obtain ⟨j,hj,oa,oc,xs,vb,ow,st,kr⟩:=hrel
    have VB:=zz0 vb
    have OW:=zz0 ow
    have ST:=zz0 st
    have KR:=zz0 kr
    have x0:=vt_1 vb
    have VL:=zz0 (ziu vb)
    have GT:=zz0 (fun W (k:Keep Non wr W)=>ST.out.keep k (fun _ _ e=>e))
    have XB:=zz0 (fun W (k:Keep Non wr W)=>vt_1 (nonAt k VB.out))
    have TT:=zz0 (zeJ j wr (by omega))
    clear vb ow st kr
    by_cases hlt:j < J
    · obtain ⟨m,hm⟩:∃ m,ms[j]? = some m:=⟨_,List.getElem?_eq_getElem (by omega)⟩
      obtain ⟨t1,t2⟩:=HM.out j m hlt hm
      obtain ⟨m1,m2,m3,m4⟩:=OC.out j m hm
      have h32:=m1.prev
      have GG:=zz0 (fun W (k:Keep Non wr W)=>zcD F1 q p (titleN j) X W (GT.out W k) (zaJ j (by omega)) HD.out.1 t1 (by rw [t2];omega))
      rw [t2] at GG
      have MT:=zz0 (fun W B v (h:World.ownsRow W B 5 1 v (mfBy m).length ((mfBy m).map bv))=>zmD v m W (Rd.ofOwns h) (zbw h) (fun g e=>(h.lt g e).2) m1 m3 (zpW m _ m4))
      have M1:=zz0 m1
      have M3:=zz0 m3
      have HMJ:=zz0 hm
      clear t1 t2 m1 m2 m3 m4 hm
      unfold sv at TT GG
      go_wp2_with (first
        | (go_at_call 43;refine TT.out.mono ?_;rintro r w2 ⟨rfl,k2⟩;have K2:=zz0 k2;clear k2)
        | (go_at_call 11;refine (GG.out w2 K2.out).mono ?_;rintro r w3 ⟨v3,rfl,k3,o3⟩;have MTW:=zz0 (MT.out w3 _ v3 o3);obtain ⟨a3,c3,rfl,_,_⟩:=zaa o3;have K3:=zz0 (K2.out.trans1 k3);clear k3 o3)
        | (go_at_call 44;refine MTW.out.mono ?_;rintro r w4 ⟨v4,rfl,k4,o4⟩;obtain ⟨a4,c4,rfl,_,_⟩:=zaa o4;have hst:=zaF w4 m a4 m.parts.length c4 h32;dsimp only [zMf] at hst;have O4:=zz0 (zad o4 K3.out.size);have K4:=zz0 (K3.out.trans1 k4);clear k4 o4))
      have OR:Hid (wr.ownsRow (w1.heap.size+1) 87 37 (.slice oa j oc) j xs):=zz0 (by have:=OW.out.1;rwa [show (ms.take j).length=j by rw [List.length_take];omega] at this)
      have P32:pts32 m.parts:=fun x hx=>by
        obtain ⟨i,hi,rfl⟩:=List.getElem_of_mem hx
        exact (zaN m.parts m.lo i _ M1.out.parts (List.getElem?_eq_getElem hi)).1.2.2.2.2
      have kA:Keep Non w4 (w4.alloc (MfB m (.slice a4 m.parts.length c4))):=(Keep.refl _ _).alloc _
      have PT:Hid (PtsAt (w4.alloc (MfB m (.slice a4 m.parts.length c4))) (.slice a4 m.parts.length c4) m.parts):=zz0 ((PtsAt.of O4.out P32).keepNon kA)
      have PO:Hid (∀ g,(Value.slice a4 m.parts.length c4).ownBlock=some g→wr.heap.size≤g∧g < (w4.alloc (MfB m (.slice a4 m.parts.length c4))).heap.size):=zz0 (fun g e=>by have:=O4.out.lt g e;simp;omega)
      have BK:=zz0 (zab w4 (MfB m (.slice a4 m.parts.length c4)))
      have KA:=zz0 (K4.out.trans1 kA)
      obtain ⟨WA,hWA⟩:∃ WA,WA=w4.alloc (MfB m (.slice a4 m.parts.length c4)):=⟨_,rfl⟩
      rw [← hWA] at KA BK PT PO
      rw [← hWA]
      clear hWA hst kA MTW O4
      obtain ⟨b4,hb4⟩:∃ b4,b4=w4.heap.size:=⟨_,rfl⟩
      rw [← hb4] at BK
      rw [← hb4]
      clear hb4
      have kB:Keep Non WA (WA.alloc (MfB m (.slice a4 m.parts.length c4))):=(Keep.refl _ _).alloc _
      have l0:=zan BK.out h32
      have l1:=zan (w:=WA.drew) BK.out h32
      have b0:=za6 m a4 m.parts.length c4 h32 WA
      have b1:=za6 m a4 m.parts.length c4 h32 WA.drew
      have x2:=XB.out _ KA.out
      have x3:=XB.out _ (KA.out.trans1 kB)
      have BN:=zz0 (zab WA (MfB m (.slice a4 m.parts.length c4)))
      have KB':=zz0 (KA.out.trans1 kB)
      have PT2:Hid (PtsAt (WA.alloc (MfB m (.slice a4 m.parts.length c4))).drew (.slice a4 m.parts.length c4) m.parts):=zz0 (PT.out.keepNon kB.drew)
      have PO2:Hid (∀ g,(Value.slice a4 m.parts.length c4).ownBlock=some g→wr.heap.size≤g∧g < (WA.alloc (MfB m (.slice a4 m.parts.length c4))).drew.heap.size):=zz0 (fun g e=>⟨(PO.out g e).1,Nat.lt_of_lt_of_le (PO.out g e).2 kB.drew.size⟩)
      have SZ:Hid (w1.heap.size+1≤(WA.alloc (MfB m (.slice a4 m.parts.length c4))).drew.heap.size):=zz0 (by have h1:=KR.out.size;have h2:=KA.out.size;have h3:=kB.drew.size;have h4:=SB.out;omega)
      have HB:=zz0 (lt_of_block VB.out)
      clear kB
      unfold mfV at l0 l1 b0 b1
      dsimp only [MfB] at b0 b1 x3
      unfold mfV
      go_region_law (refine zag (by rfl) (.tmp 52) (.tmp 54) 41 (by rfl) (w1.heap.size+1) 87 i0 (.agg zMf) 37 88 Tryz.underlying41 I0.out.1 I0.out.2.1 I0.out.2.2.1 I0.out.2.2.2 rfl (by decide) (.slice oa j oc) j xs (by first | rfl | simp [Act.eval,Act.put]) (zac OR.out KB'.out.drew (fun _ _ e=>e)) ⟨WA.heap.size,0,none⟩ 1 1 (mfC m (.slice a4 m.parts.length c4)) (by first | rfl | simp [Act.eval,Act.put]) (by rw [za2 h32]) (by exact zcP BN.out) (zcp m a4 m.parts.length c4) (by unfold maxLen;omega) (by omega) (by exact SZ.out) ?_;intro v9 w9 ho hg hpp;obtain ⟨a9,c9,rfl,_,_⟩:=zaa ho;obtain ⟨nx,b9,vl⟩:=zpA SB.out HB.out (show j≤ms.length by omega) FL1.out HMJ.out h32 VB.out OW.out ST.out KR.out KB'.out.drew PT2.out PO2.out ho hg hpp;have x9:=vt_1 b9;have f9:=vt_f b9 1;have NX:=zz0 nx;have VN:=zz0 vl;clear ho hg hpp nx b9 vl)
      all_goals
        refine ⟨?_,by rw [VN.out,VL.out];omega⟩
        repeat apply Exists.intro
        exact ⟨⟨j+1,by omega,NX.out⟩,rfl⟩
    · obtain rfl:j=J:=by omega
      rcases CS.out with ⟨hJl,hno⟩ | ⟨t1,t2,hB⟩
      · subst hJl
        have GG:=zz0 (fun W (k:Keep Non wr W)=>zcW F1 q p (titleN ms.length) X W (GT.out W k) (zaJ ms.length (by omega)) HD.out.1 hno)
        have MA:=OW.out.at
        rw [List.take_length] at MA
        have CC:=zz0 (fun W (k:Keep Non wr W)=>zcy _ _ ms W (MA.keepNon k) OC.out (by omega) ((LY.out.keep (K1.out.trans1 KB.out.ofNon) (fun g h x=>by have:=H10.out g x;omega)).keep (KR.out.trans1 k.ofNon) (fun g h x=>by have e:g=w1.heap.size:=x;have:=LX.out;omega)).kon ((LY.out.keep (K1.out.trans1 KB.out.ofNon) (fun g h x=>by have:=H10.out g x;omega)).keep (KR.out.trans1 k.ofNon) (fun g h x=>by have e:g=w1.heap.size:=x;have:=LX.out;omega)).frs)
        have MA':=zz0 MA
        clear MA
        unfold sv at TT GG
        go_wp2_with (first
          | (go_at_call 43;refine TT.out.mono ?_;rintro r w2 ⟨rfl,k2⟩;have K2:=zz0 k2;clear k2)
          | (go_at_call 11;refine (GG.out w2 K2.out).mono ?_;rintro r w3 ⟨rfl,k3⟩;have x3:=XB.out _ (K2.out.trans1 k3);have K3:=zz0 (K2.out.trans1 k3);clear k3)
          | (go_at_call 45;refine (CC.out w3 K3.out).mono ?_;rintro r w4 ⟨rfl,k4⟩;have K4:=zz0 (K3.out.trans1 k4);clear k4))
        go_ret2
        have kF:Keep F0 w w4:=(K1.out.trans1 KB.out.ofNon).trans (KR.out.trans1 K4.out.ofNon) (fun _ _ x=>x) (fun g hg x=>by have e:g=w1.heap.size:=x;have:=K1.out.size;omega)
        have ok:VoOk F0 w p X ms _ w4:=⟨w1.heap.size,q,oa,oc,rfl,K4.out.at VB.out (fun e=>e),MsAt.widen (MA'.out.keepNon K4.out) (fun g x=>⟨by omega,by have:=K4.out.size;omega⟩),kF,K1.out.size,F1,S1.out,FL1.out,ST.out.keep K4.out (fun _ _ e=>e)⟩
        first
        | exact ok
        | exact .inl ⟨rfl,hno,ok⟩
      · have hbl:=hB.len
        have GG:=zz0 (fun W (k:Keep Non wr W)=>zcD F1 q p (titleN j) X W (GT.out W k) (zaJ j (by omega)) HD.out.1 t1 (by rw [t2];omega))
        rw [t2] at GG
        have MT:=zz0 (fun W B' v (h:World.ownsRow W B' 5 1 v B.length (B.map bv))=>zmC v B W (Rd.ofOwns h) hB (zbw h) (fun g e=>(h.lt g e).2))
        have T1:=zz0 t1
        clear t1 t2 hB CS
        generalize B.length=nb at GG MT hbl
        unfold sv at TT GG
        go_wp2_with (first
          | (go_at_call 43;refine TT.out.mono ?_;rintro r w2 ⟨rfl,k2⟩;have K2:=zz0 k2;clear k2)
          | (go_at_call 11;refine (GG.out w2 K2.out).mono ?_;rintro r w3 ⟨v3,rfl,k3,o3⟩;have MTW:=zz0 (MT.out w3 _ v3 o3);obtain ⟨a3,c3,rfl,_,_⟩:=zaa o3;have K3:=zz0 (K2.out.trans1 k3);clear k3 o3)
          | (go_at_call 44;refine MTW.out.mono ?_;rintro r w4 ⟨rfl,k4⟩;have hst:=zaF w4 mf0 none 0 0 (List.length_replicate ..);dsimp only [zMf] at hst;have K4:=zz0 (K3.out.trans1 k4);clear k4))
        go_ret2
        have kF:Keep F0 w w4:=(K1.out.trans1 KB.out.ofNon).trans (KR.out.trans1 K4.out.ofNon) (fun _ _ x=>x) (fun g hg x=>by have e:g=w1.heap.size:=x;have:=K1.out.size;omega)
        exact .inr ⟨T1.out,rfl,kF.alloc _⟩
theorem zlL (F0:Nat→Prop) (p:Nat) (ms:List Mf) (X:Dk) (a k f:Nat) (w:World) (d0:DiskAt F0 w p X) (hd:X.free) (hl:X.lim a k f) (ha:a≤505) (hk:k+a≤990) (hf:f≤400000000) (ht:X.tidy) (hms:HasMs X ms) (och:okCh ms) (hlen:ms.length < 90) (hlay:Lay w) (h10:∀ g,F0 g→10≤g) :
    Calls Tryz.prog 15 #[.pointer (some ⟨p,0,none⟩)] w fun e w'=>VoOk F0 w p X ms e w':=by
  refine (zfk F0 p ms ms.length [] X a k f w d0 hd hl ha hk hf ht (Nat.le_refl _) (fun j m _ h=>hms.has j m h) (.inl ⟨rfl,hms.no⟩) och hlen hlay h10).mono ?_
  rintro e w' (⟨_,_,h⟩ | ⟨h,_⟩)
  · exact h
  · rw [hms.no] at h;cases h
theorem znu (F0:Nat→Prop) (p:Nat) (ms:List Mf) (J:Nat) (B:List UInt8) (X:Dk) (a k f:Nat) (w:World) (d0:DiskAt F0 w p X) (hd:X.free) (hl:X.lim a k f) (ha:a≤505) (hk:k+a≤990) (hf:f≤400000000) (ht:X.tidy) (hJ:J≤ms.length) (hms:∀ (j:Nat) m,j < J→ms[j]? = some m→fhas X.shown (titleN j)=true∧fget X.shown (titleN j)=mfBy m) (h1:fhas X.shown (titleN J)=true) (h2:fget X.shown (titleN J)=B) (hB:Bad B) (och:okCh ms) (hlen:ms.length < 90) (hlay:Lay w) (h10:∀ g,F0 g→10≤g) :
    Calls Tryz.prog 15 #[.pointer (some ⟨p,0,none⟩)] w fun e w'=>e = .returned (.tuple #[.pointer none,.iface 55 (.int .i64 11)])∧Keep F0 w w':=by
  refine (zfk F0 p ms J B X a k f w d0 hd hl ha hk hf ht hJ hms (.inr ⟨h1,h2,hB⟩) och hlen hlay h10).mono ?_
  rintro e w' (⟨_,h,_⟩ | ⟨_,h⟩)
  · rw [h1] at h;cases h
  · exact h
end
end Go.Proofs.YtnboipdpccnedaaGreatDoor
namespace Go.Proofs.YtnboipdpccnedaaGreatDoor
open Go.RowKit
abbrev MfE:=Mf × Option Addr × Nat
def mfEv (e:MfE):Value:=.slice e.2.1 e.1.parts.length e.2.2
def mfE (e:MfE):List Value:=mfC e.1 (mfEv e)
def EsAt (T:Nat→Prop) (w:World) (es:List MfE):Prop:=∀ e ∈ es,e.1.prev.length=32∧PtsAt w (mfEv e) e.1.parts∧∀ g,(mfEv e).ownBlock=some g→T g
def msE (es:List MfE):List Value:=es.flatMap mfE
theorem zoy {T:Nat→Prop} {w:World} {es:List MfE} (h:EsAt T w es):(msE es).length=es.length * 37:=zcK 37 mfE es (fun e he=>za2 (h e he).1)
theorem zoz (es:List MfE):∀ u ∈ msE es,u.oneCell'=true:=by
  intro u hu
  obtain ⟨e,_,hu⟩:=List.mem_flatMap.1 hu
  exact zcp e.1 e.2.1 e.1.parts.length e.2.2 u hu
theorem EsAt.keep {S T:Nat→Prop} {w w':World} {es:List MfE} (h:EsAt T w es) (k:Keep S w w') (hn:∀ g,T g→¬ S g):EsAt T w' es:=fun e he=>by
  obtain ⟨h1,h2,h3⟩:=h e he
  exact ⟨h1,h2.keep k (fun g eg=>hn g (h3 g eg)),h3⟩
theorem EsAt.mono {T U:Nat→Prop} {w:World} {es:List MfE} (h:EsAt T w es) (hs:∀ g,T g→U g):EsAt U w es:=fun e he=>⟨(h e he).1,(h e he).2.1,fun g eg=>hs g ((h e he).2.2 g eg)⟩
theorem EsAt.snoc {T:Nat→Prop} {w:World} {es:List MfE} {e:MfE} (h:EsAt T w es) (h1:e.1.prev.length=32) (h2:PtsAt w (mfEv e) e.1.parts) (h3:∀ g,(mfEv e).ownBlock=some g→T g):EsAt T w (es ++ [e]):=fun x hx=>by
  rcases List.mem_append.1 hx with hx | hx
  · exact h x hx
  · rw [List.mem_singleton.1 hx];exact ⟨h1,h2,h3⟩
theorem zd6 {α β:Type} {P:Nat→α→β→Prop}:∀ (l:List α) (k:Nat),(∀ j x,l[j]? = some x→∃ y,P (k+j) x y)→∃ ys:List β,ys.length=l.length∧∀ (j:Nat) x y,l[j]? = some x→ys[j]? = some y→P (k+j) x y
  | [],k,_=>⟨[],rfl,fun j x y h=>by simp at h⟩
  | x :: r,k,h=>by
    obtain ⟨y,hy⟩:=h 0 x rfl
    obtain ⟨ys,hl,hys⟩:=zd6 (P:=P) r (k+1) (fun j z hz=>by
      have:=h (j+1) z hz
      rwa [show k+(j+1)=k+1+j by omega] at this)
    refine ⟨y :: ys,by simp [hl],fun j a b ha hb=>?_⟩
    cases j with
    | zero=>simp at ha hb;subst ha;subst hb;exact hy
    | succ j =>
      rw [List.getElem?_cons_succ] at ha hb
      have:=hys j a b ha hb
      rwa [show k+1+j=k+(j+1) by omega] at this
theorem MsAt.es {T:Nat→Prop} {w:World} {a:Option Addr} {n c:Nat} {ms:List Mf} (h:MsAt T w (.slice a n c) ms) :
    ∃ es:List MfE,es.map (·.1)=ms∧EsAt T w es∧(a=none→es = [])∧∀ ad,a=some ad→∀ (j:Nat) u,(msE es)[j]? = some u→w.cell? (ad.add j)=some u:=by
  obtain ⟨a',c',e,hc,ha,hx⟩:=h
  injection e with e1 e2 e3
  subst e1
  have key:∀ (j:Nat) m,ms[j]? = some m→∃ y:Option Addr × Nat,m.prev.length=32∧PtsAt w (.slice y.1 m.parts.length y.2) m.parts∧(∀ g,(Value.slice y.1 m.parts.length y.2).ownBlock=some g→T g)∧∃ g off,a=some ⟨g,off,none⟩∧∀ (i:Nat) u,(mfC m (.slice y.1 m.parts.length y.2))[i]? = some u→w.cell? ⟨g,off+(0+j) * 37+i,none⟩=some u:=fun j m hm=>by
    obtain ⟨h32,g,off,pa,pc,e,x1,x2,x3⟩:=hx j m hm
    exact ⟨(pa,pc),h32,x1,x2,g,off,e,by rw [Nat.zero_add];exact x3⟩
  obtain ⟨ys,hl,hys⟩:=zd6 (P:=fun j m (y:Option Addr × Nat)=>m.prev.length=32∧PtsAt w (.slice y.1 m.parts.length y.2) m.parts∧(∀ g,(Value.slice y.1 m.parts.length y.2).ownBlock=some g→T g)∧∃ g off,a=some ⟨g,off,none⟩∧∀ (i:Nat) u,(mfC m (.slice y.1 m.parts.length y.2))[i]? = some u→w.cell? ⟨g,off+j * 37+i,none⟩=some u) ms 0 key
  have hz:(ms.zip ys).map (·.1)=ms:=List.map_fst_zip (by omega)
  have get:∀ (j:Nat) (e:MfE),(ms.zip ys)[j]? = some e→ms[j]? = some e.1∧ys[j]? = some e.2:=fun j e he=>by
    rw [List.getElem?_zip_eq_some] at he
    exact he
  refine ⟨ms.zip ys,hz,fun e he=>?_,fun e=>?_,fun ad e j u hu=>?_⟩
  · obtain ⟨j,hj⟩:=List.mem_iff_getElem?.1 he
    obtain ⟨g1,g2⟩:=get j e hj
    obtain ⟨h1,h2,h3,_⟩:=hys j _ _ g1 g2
    exact ⟨h1,h2,h3⟩
  · cases ms with
    | nil=>rfl
    | cons m r =>
      obtain ⟨_,_,_,_,_,q,_⟩:=hx 0 m rfl
      rw [e] at q
      cases q
  · have hl37:∀ e ∈ ms.zip ys,(mfE e).length=37:=fun e he=>by
      obtain ⟨j,hj⟩:=List.mem_iff_getElem?.1 he
      obtain ⟨g1,g2⟩:=get j e hj
      exact za2 (hys j _ _ g1 g2).1
    obtain ⟨x,hx',hu'⟩:=ze2 37 mfE (ms.zip ys) hl37 (by decide) j u hu
    obtain ⟨g1,g2⟩:=get _ x hx'
    obtain ⟨_,_,_,g,off,ea,hc⟩:=hys _ _ _ g1 g2
    rw [e] at ea
    injection ea with ea
    subst ea
    have:=hc _ u hu'
    rw [zau,show off+j=off+(0+j / 37) * 37+j % 37 by have:=Nat.div_add_mod j 37;omega]
    exact this
theorem MsAt.ofEs {B:Nat} {T:Nat→Prop} {w:World} {v:Value} {es:List MfE} (h:w.ownsRow B 87 37 v es.length (msE es)) (he:EsAt T w es) (hT:∀ g,v.ownBlock=some g→T g):MsAt T w v (es.map (·.1)):=by
  rcases h.2 with ⟨hv,hn⟩ | ⟨g,cap,cur,rfl,_,hg,hn,_,_,htake⟩
  · obtain rfl:es = []:=List.eq_nil_of_length_eq_zero (by omega)
    rw [hv]
    exact MsAt.nil _ _
  · refine ⟨some ⟨g,0,none⟩,cap,by rw [List.length_map],by rw [List.length_map];exact hn,fun ad e=>⟨g,0,by injection e with e;exact e.symm,hT g rfl⟩,fun j m hj=>?_⟩
    rw [List.getElem?_map] at hj
    obtain ⟨x,hx,rfl⟩:=Option.map_eq_some_iff.1 hj
    obtain ⟨h1,h2,h3⟩:=he x (List.mem_of_getElem? hx)
    refine ⟨h1,g,0,x.2.1,x.2.2,rfl,h2,h3,fun i u hu=>?_⟩
    have hi:i < 37:=by
      obtain ⟨q,_⟩:=List.getElem?_eq_some_iff.1 hu
      rw [za2 h1] at q
      exact q
    have hc:=zds 37 mfE es (fun e he'=>za2 (he e he').1) j i x hx hi
    have hc':(msE es)[j * 37+i]? = some u:=hc.trans hu
    rw [Nat.zero_add,World.cell?,hg]
    rw [← htake,List.getElem?_take] at hc'
    split at hc'
    · simpa using hc'
    · cases hc'
theorem zl3 {T:Nat→Prop} (a:Option Addr) (c:Nat) (es:List MfE) (w:World) (he:EsAt T w es) (hn:a=none→es = []) (hc:∀ ad,a=some ad→∀ (j:Nat) u,(msE es)[j]? = some u→w.cell? (ad.add j)=some u) (hlen:es.length≤1000) :
    Calls Tryz.prog 266 #[.slice a es.length c] w fun e w'=>∃ v',e = .returned v'∧Keep Non w w'∧w'.ownsRow w.heap.size 87 37 v' es.length (msE es):=by
  have hq:=fun (w:World)=>Lib.run_eql_slice_nil (P:=Tryz.prog) w 41 87 a es.length c 0 0 Tryz.underlying41
  cases a with
  | none =>
    obtain rfl:=hn rfl
    simp only [List.length_nil] at hq ⊢
    clear hc
    go_enter Tryz.func266,Tryz.ntmps266
    go_wp2
    go_ret
    exact ⟨_,rfl,Keep.refl _ _,World.ownsRow_nil _ _ _ _⟩
  | some a =>
    obtain ⟨i0,hi,hz0,hz1,hz2⟩:=info_parts infoMf
    have hnews:∀ (j:Nat) u,(msE es)[j]? = some u→(w.alloc (.cells #[] 87)).cell? (a.add j)=some u:=fun j u hu=>by
      have:=hc a rfl j u hu
      have hb:=World.block_lt_of_cell? _ _ this
      rw [← this]
      exact World.cell?_of_block (((Keep.refl Non w).alloc (.cells #[] 87)).block _ hb (fun e=>e))
    have HN:=zz0 hnews
    have HL:=zz0 hlen
    have H3:=zz0 (zoy he)
    have hown:Hid ((w.alloc (.cells #[] 87)).ownsRow w.heap.size 87 37 (.slice (some ⟨w.heap.size,0,none⟩) 0 0) 0 []):=World.ownsRow_made w #[] 0 (Nat.le_refl _) (by decide) rfl
    clear hnews hc hlen
    go_enter Tryz.func266,Tryz.ntmps266
    go_wp2_with (at_builtin;refine zaj rfl _ _ 41 rfl w.heap.size 87 i0 (.agg zMf) 37 88 Tryz.underlying41 hi hz0 hz1 hz2 rfl (by decide) _ _ _ rfl hown.out a es.length c (msE es) rfl H3.out HN.out (zoz es) (by have:=HL.out;unfold maxLen;omega) (by have:=HL.out;omega) (by simp) ?_;intro v' w' ho hg hp;have HO:=zz0 ho;have HP:=zz0 hp;clear ho hp)
    go_ret
    have hk:Keep Non w w':=by
      have:=((Keep.refl Non w).alloc (.cells #[] 87)).trans ((Keep.refl (One w.heap.size) _).grown hg (row:=some w.heap.size) (fun k e=>.inl (by injection e with e;exact e.symm))) (U:=Non) (fun _ _ h=>h) (fun i hi h=>by unfold One at h;omega)
      exact this
    have ho:=HO.out
    rw [List.nil_append,Nat.zero_add] at ho
    exact ⟨v',rfl,hk,ho⟩
end Go.Proofs.YtnboipdpccnedaaGreatDoor
