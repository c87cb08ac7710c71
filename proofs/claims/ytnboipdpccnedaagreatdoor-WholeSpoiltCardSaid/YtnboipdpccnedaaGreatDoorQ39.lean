/- (*Export).commit: walked (printed by wip/xcomm.py). · slices.IndexFunc, ContainsFunc where no element is meant: walked (printed by wip/idx.py). · (*Ex -/
import Derived.Test.YtnboipdpccnedaaGreatDoorQ38
set_option linter.unusedVariables false
set_option maxRecDepth 100000
set_option maxHeartbeats 16000000
namespace Go.Proofs.YtnboipdpccnedaaGreatDoor
open Go.RowKit Go.Maps
structure CmEnd (WX:World) (m:Mf) (v:Value) (nb:Nat) (W5:World):Prop where
  bx:W5.heap[nb]? = some (MfB m v)
  lo:WX.heap.size≤nb
  kp:Keep Non WX W5
  row:W5.ownsRow WX.heap.size 106 35 v m.parts.length (ptsC m.parts)
theorem zn0 {W4 w6:World} {m:Mf} {v:Value} {B:Nat} (k6:Keep Non W4 w6) (o:w6.ownsRow B 106 35 v m.parts.length (ptsC m.parts)) (hB:W4.heap.size≤B):CmEnd W4 m v w6.heap.size (w6.alloc (MfB m v)) :=
  ⟨zab _ _,k6.size,k6.alloc _,zad (zac o ((Keep.refl Non _).alloc _) (fun _ _ e=>e)) hB⟩
theorem zjK {W4 w6:World} {m:Mf} {v:Value} {B nb:Nat} (k6:Keep Non W4 w6) (hb:w6.heap[nb]? = some (.cells zMf 87 (0,0))) (h1:W4.heap.size≤nb) (o:w6.ownsRow B 106 35 v m.parts.length (ptsC m.parts)) (hB:nb < B) :
    CmEnd W4 m v nb (w6.setRow nb (mfC m v).toArray):=by
  have k:Keep (One nb) w6 (w6.setRow nb (mfC m v).toArray):=(Keep.refl (One nb) _).setRow (.inl (zar _)) _
  exact ⟨setRow_heap _ _ _ _ _ _ hb,h1,k6.trans k (fun _ _ e=>e) (fun g hg e=>by have e':g=nb:=e;omega),zad (zac o k (fun g e e2=>by have e':g=nb:=e2;have:=(o.lt g e).1;omega)) (by omega)⟩
theorem ze7 {w:World} {g i:Nat} {v:Value} (e:w.cell? ⟨g,i,none⟩=some v):g < w.heap.size:=by
  rcases Nat.lt_or_ge g w.heap.size with q | q
  · exact q
  · rw [World.cell?,Array.getElem?_eq_none q] at e
    cases e
section
attribute [local go_sem ↓] hV84 hV106 hV87 hW84 hW106 hW87 hB106 hB87
end
end Go.Proofs.YtnboipdpccnedaaGreatDoor
namespace Go.Proofs.YtnboipdpccnedaaGreatDoor
open Go.RowKit
def sl1 (x:Addr × Nat × Nat):Value:=.slice (some x.1) x.2.1 x.2.2
theorem zko (g:Nat) (a:Option Addr) (c:Nat) (us:List Nat) (w:World)
    (eg:∀ args w,(callFunc g args).run Tryz.prog w = .ok (.enter g args) w)
    (hr:Rd w (.slice a us.length c) (us.map iv)) (hl:us.length≤1000)
    (hs:∀ (j:Nat) u W,us[j]? = some u→Keep Non w W→Calls Tryz.prog g #[iv u] W fun e w'=>e = .returned (.bool false)∧Keep Non W w') :
    Calls Tryz.prog 171 #[.slice a us.length c,.func (.func g) #[] #[]] w fun e w'=>e = .returned (.int .i64 (-1))∧Keep Non w w':=by
  have HS:=zz0 hs
  have HR:=zz0 hr
  clear hs hr
  go_enter Tryz.func171,Tryz.ntmps171
  go_wp2_with fail
  go_loopw [8] (fun i wr=>∃ j:Nat,j≤us.length∧i = .int .i64 j∧Keep Non w wr) (fun i _=>us.length - (intOf i).toNat)
  case atStart=>exact ⟨0,by omega,rfl,Keep.refl _ _⟩
  case round =>
    obtain ⟨j,hj,rfl,hi⟩:=hrel
    have HI:=zz0 hi
    have hrd:=HR.out.keepNon hi
    clear hi
    by_cases hlt:j < us.length
    · have hlj:(j:Int) < (us.length:Int):=by omega
      obtain ⟨b,off,rfl,hc⟩:∃ b off,a=some ⟨b,off,none⟩∧∀ (k:Nat) u,(us.map iv)[k]? = some u→wr.cell? ⟨b,off+k,none⟩=some u:=by
        obtain ⟨a',c',e,hx⟩:=hrd
        injection e with e1 e2 e3
        obtain ⟨g',off,e4,hc⟩:=hx (by intro e;have e':=List.map_eq_nil_iff.1 e;rw [e'] at hlt;exact absurd hlt (by simp))
        exact ⟨g',off,e1.trans e4,hc⟩
      obtain ⟨u,hu⟩:∃ u,us[j]? = some u:=⟨_,List.getElem?_eq_getElem hlt⟩
      have hcell:wr.cell? ⟨b,off+j,none⟩=some (iv u):=hc j _ (by rw [List.getElem?_map,hu];rfl)
      unfold iv at hcell
      have ST:=zz0 (HS.out j u wr hu HI.out)
      unfold iv at ST
      clear hc hrd hu
      clear HR
      go_wp2_with fail
      refine ST.out.mono ?_
      rintro e w1 ⟨rfl,i1⟩
      have I1:=zz0 i1
      clear i1 ST HS
      go_wp2_with fail
      exact ⟨⟨j+1,by omega,by first | rfl | go_num,HI.out.trans1 I1.out⟩,by simp [intOf];omega⟩
    · obtain rfl:j=us.length:=by omega
      clear hrd
      go_wp2_with fail
      go_ret
      exact ⟨rfl,HI.out⟩
theorem zmp (g:Nat) (a:Option Addr) (c:Nat) (us:List Nat) (w:World)
    (eg:∀ args w,(callFunc g args).run Tryz.prog w = .ok (.enter g args) w)
    (hr:Rd w (.slice a us.length c) (us.map iv)) (hl:us.length≤1000)
    (hs:∀ (j:Nat) u W,us[j]? = some u→Keep Non w W→Calls Tryz.prog g #[iv u] W fun e w'=>e = .returned (.bool false)∧Keep Non W w') :
    Calls Tryz.prog 114 #[.slice a us.length c,.func (.func g) #[] #[]] w fun e w'=>e = .returned (.bool false)∧Keep Non w w':=by
  have IX:=zz0 (zko g a c us w eg hr hl hs)
  clear hr hs
  go_enter Tryz.func114,Tryz.ntmps114
  go_wp2_with (go_at_call 171;refine IX.out.mono ?_;rintro e w1 ⟨rfl,k1⟩;have K1:=zz0 k1;clear k1)
  go_ret
  exact ⟨rfl,K1.out⟩
theorem zkn (g:Nat) (a:Option Addr) (c:Nat) (us:List (Addr × Nat × Nat)) (w:World)
    (eg:∀ args w,(callFunc g args).run Tryz.prog w = .ok (.enter g args) w)
    (hr:Rd w (.slice a us.length c) (us.map sl1)) (hl:us.length≤1000)
    (hs:∀ (j:Nat) u W,us[j]? = some u→Keep Non w W→Calls Tryz.prog g #[sl1 u] W fun e w'=>e = .returned (.bool false)∧Keep Non W w') :
    Calls Tryz.prog 170 #[.slice a us.length c,.func (.func g) #[] #[]] w fun e w'=>e = .returned (.int .i64 (-1))∧Keep Non w w':=by
  have HS:=zz0 hs
  have HR:=zz0 hr
  clear hs hr
  go_enter Tryz.func170,Tryz.ntmps170
  go_wp2_with fail
  go_loopw [8] (fun i wr=>∃ j:Nat,j≤us.length∧i = .int .i64 j∧Keep Non w wr) (fun i _=>us.length - (intOf i).toNat)
  case atStart=>exact ⟨0,by omega,rfl,Keep.refl _ _⟩
  case round =>
    obtain ⟨j,hj,rfl,hi⟩:=hrel
    have HI:=zz0 hi
    have hrd:=HR.out.keepNon hi
    clear hi
    by_cases hlt:j < us.length
    · have hlj:(j:Int) < (us.length:Int):=by omega
      obtain ⟨b,off,rfl,hc⟩:∃ b off,a=some ⟨b,off,none⟩∧∀ (k:Nat) u,(us.map sl1)[k]? = some u→wr.cell? ⟨b,off+k,none⟩=some u:=by
        obtain ⟨a',c',e,hx⟩:=hrd
        injection e with e1 e2 e3
        obtain ⟨g',off,e4,hc⟩:=hx (by intro e;have e':=List.map_eq_nil_iff.1 e;rw [e'] at hlt;exact absurd hlt (by simp))
        exact ⟨g',off,e1.trans e4,hc⟩
      obtain ⟨u,hu⟩:∃ u,us[j]? = some u:=⟨_,List.getElem?_eq_getElem hlt⟩
      have hcell:wr.cell? ⟨b,off+j,none⟩=some (sl1 u):=hc j _ (by rw [List.getElem?_map,hu];rfl)
      unfold sl1 at hcell
      have ST:=zz0 (HS.out j u wr hu HI.out)
      unfold sl1 at ST
      clear hc hrd hu
      clear HR
      go_wp2_with fail
      refine ST.out.mono ?_
      rintro e w1 ⟨rfl,i1⟩
      have I1:=zz0 i1
      clear i1 ST HS
      go_wp2_with fail
      exact ⟨⟨j+1,by omega,by first | rfl | go_num,HI.out.trans1 I1.out⟩,by simp [intOf];omega⟩
    · obtain rfl:j=us.length:=by omega
      clear hrd
      go_wp2_with fail
      go_ret
      exact ⟨rfl,HI.out⟩
theorem zmo (g:Nat) (a:Option Addr) (c:Nat) (us:List (Addr × Nat × Nat)) (w:World)
    (eg:∀ args w,(callFunc g args).run Tryz.prog w = .ok (.enter g args) w)
    (hr:Rd w (.slice a us.length c) (us.map sl1)) (hl:us.length≤1000)
    (hs:∀ (j:Nat) u W,us[j]? = some u→Keep Non w W→Calls Tryz.prog g #[sl1 u] W fun e w'=>e = .returned (.bool false)∧Keep Non W w') :
    Calls Tryz.prog 113 #[.slice a us.length c,.func (.func g) #[] #[]] w fun e w'=>e = .returned (.bool false)∧Keep Non w w':=by
  have IX:=zz0 (zkn g a c us w eg hr hl hs)
  clear hr hs
  go_enter Tryz.func113,Tryz.ntmps113
  go_wp2_with (go_at_call 170;refine IX.out.mono ?_;rintro e w1 ⟨rfl,k1⟩;have K1:=zz0 k1;clear k1)
  go_ret
  exact ⟨rfl,K1.out⟩
theorem zmr {p:Nat→Prop}:∀ n,p n→∃ j,p j∧∀ k,p k→j≤k:=by
  intro n
  induction n using Nat.strongRecOn with
  | _ n ih =>
    intro h
    by_cases hk:∃ k,k < n∧p k
    · obtain ⟨k,h1,h2⟩:=hk
      exact ih k h1 h2
    · exact ⟨n,h,fun k hp=>by
        rcases Nat.lt_or_ge k n with h1 | h1
        · exact absurd ⟨k,h1,hp⟩ hk
        · exact h1⟩
open Classical in
/-- The least number of which something is true. -/
noncomputable def leastN (p:Nat→Prop):Nat:=if h:∃ j,p j∧∀ k,p k→j≤k then Classical.choose h else 0
theorem zbM {p:Nat→Prop} {n:Nat} (h:p n):p (leastN p)∧∀ k,p k→leastN p≤k:=by
  have h':=zmr n h
  unfold leastN
  rw [dif_pos h']
  exact Classical.choose_spec h'
theorem znz (x:Nat) (w:World) (N:Nat) (hN:N≤1000000) (I:Nat→World→Prop) (Q:Value→World→Prop) (h0:I N w)
    (hs:∀ j W,I j W→Calls Tryz.prog 70 #[.pointer (some ⟨x,0,none⟩)] W fun e w'=>(∃ k,k < j∧e = .returned (.tuple #[.bool false,.nilIface])∧I k w')∨(e = .returned (.tuple #[.bool true,.nilIface])∧Q .nilIface w')∨(∃ c:Int,e = .returned (.tuple #[.bool false,.iface 55 (.int .i64 c)])∧Q (.iface 55 (.int .i64 c)) w')) :
    Calls Tryz.prog 25 #[.pointer (some ⟨x,0,none⟩)] w fun e w'=>∃ (n:Nat) (v:Value),e = .returned (.tuple #[.int .i64 n,v])∧Q v w':=by
  have HS:=zz0 hs
  have H0:=zz0 h0
  clear hs h0
  go_enter Tryz.func25,Tryz.ntmps25
  go_wp2_with fail
  go_loopw [4] (fun i wr=>∃ (n j:Nat),i = .int .i64 n∧n+j≤N∧j=leastN (fun j=>I j wr)∧I j wr) (fun _ wr=>leastN (fun j=>I j wr))
  case atStart =>
    have:=zbM (p:=fun j=>I j w) H0.out
    exact ⟨0,_,rfl,by have:=this.2 N H0.out;omega,rfl,this.1⟩
  case round =>
    obtain ⟨n,j,rfl,hnj,hj,hI⟩:=hrel
    have ST:=zz0 (HS.out j wr hI)
    have HJ:=zz0 hj
    clear hj hI
    go_wp2_with (go_at_call 70;refine ST.out.mono ?_;rintro e w1 (⟨k,hk,rfl,hI⟩ | ⟨rfl,hQ⟩ | ⟨c,rfl,hQ⟩))
    · have hl:=zbM (p:=fun j=>I j w1) hI
      have hk2:=hl.2 k hI
      have hj2:=HJ.out
      refine ⟨⟨n+1,leastN (fun j=>I j w1),by first | rfl | (congr 1;omega),by omega,rfl,hl.1⟩,by omega⟩
    · go_ret2
      exact ⟨n+1,_,rfl,hQ⟩
    · go_ret2
      exact ⟨n,_,rfl,hQ⟩
theorem zmR (x:Nat) (w:World) (N:Nat) (hN:N≤1000000) (I:Nat→World→Prop) (Q:Value→World→Prop) (h0:I N w)
    (hs:∀ j W,I j W→Calls Tryz.prog 109 #[.pointer (some ⟨x,0,none⟩)] W fun e w'=>(∃ k,k < j∧e = .returned (.tuple #[.bool false,.nilIface])∧I k w')∨(e = .returned (.tuple #[.bool true,.nilIface])∧Q .nilIface w')∨(∃ c:Int,e = .returned (.tuple #[.bool false,.iface 55 (.int .i64 c)])∧Q (.iface 55 (.int .i64 c)) w')) :
    Calls Tryz.prog 50 #[.pointer (some ⟨x,0,none⟩)] w fun e w'=>∃ (n:Nat) (v:Value),e = .returned (.tuple #[.int .i64 n,v])∧Q v w':=by
  have HS:=zz0 hs
  have H0:=zz0 h0
  clear hs h0
  go_enter Tryz.func50,Tryz.ntmps50
  go_wp2_with fail
  go_loopw [4] (fun i wr=>∃ (n j:Nat),i = .int .i64 n∧n+j≤N∧j=leastN (fun j=>I j wr)∧I j wr) (fun _ wr=>leastN (fun j=>I j wr))
  case atStart =>
    have:=zbM (p:=fun j=>I j w) H0.out
    exact ⟨0,_,rfl,by have:=this.2 N H0.out;omega,rfl,this.1⟩
  case round =>
    obtain ⟨n,j,rfl,hnj,hj,hI⟩:=hrel
    have ST:=zz0 (HS.out j wr hI)
    have HJ:=zz0 hj
    clear hj hI
    go_wp2_with (go_at_call 109;refine ST.out.mono ?_;rintro e w1 (⟨k,hk,rfl,hI⟩ | ⟨rfl,hQ⟩ | ⟨c,rfl,hQ⟩))
    · have hl:=zbM (p:=fun j=>I j w1) hI
      have hk2:=hl.2 k hI
      have hj2:=HJ.out
      refine ⟨⟨n+1,leastN (fun j=>I j w1),by first | rfl | (congr 1;omega),by omega,rfl,hl.1⟩,by omega⟩
    · go_ret2
      exact ⟨n+1,_,rfl,hQ⟩
    · go_ret2
      exact ⟨n,_,rfl,hQ⟩
end Go.Proofs.YtnboipdpccnedaaGreatDoor
namespace Go.Proofs.YtnboipdpccnedaaGreatDoor
open Go.RowKit Go.Maps
theorem zjA {x b lb:Nat} {c:Cu} {pa:Option Addr} {pn pc:Nat} (v:Value) (Q:World→Prop) (w:World) (hx:w.heap[x]? = some (ExB b lb c (.slice pa pn pc) false)) (hne:c.next≠c.hi)
    (hp:∀ W,Keep Non w W→Calls Tryz.prog 136 #[.pointer (some ⟨x,0,none⟩)] W fun e w'=>e = .returned v∧Q w') :
    Calls Tryz.prog 70 #[.pointer (some ⟨x,0,none⟩)] w fun e w'=>e = .returned (.tuple #[.bool false,v])∧Q w':=by
  have c2:=ex_2 hx
  have c3:=ex_3 hx
  have c4:=ex_4 hx
  have c5:=ex_5 hx
  have c6:=ex_6 hx
  have c7:=ex_7 hx
  have DN:=zz0 (zeX c pa pn pc w)
  rw [decide_eq_false hne] at DN
  have HP:=zz0 hp
  clear hx hp
  unfold cuV at DN
  go_enter Tryz.func70,Tryz.ntmps70
  go_wp2_with (first
    | (go_at_call 135;((with_reducible refine DN.out.mono ?_);rintro e w1 ⟨rfl,k1⟩))
    | (go_at_call 136;refine (HP.out _ k1).mono ?_;rintro e w2 ⟨rfl,q2⟩))
  go_ret2
  exact ⟨rfl,q2⟩
theorem zgU {x b lb:Nat} {c:Cu} {pa:Option Addr} {pn pc:Nat} (Q:World→Prop) (w:World) (hx:w.heap[x]? = some (ExB b lb c (.slice pa pn pc) false)) (hne:c.next=c.hi)
    (hp:∀ W,Keep Non w W→Calls Tryz.prog 137 #[.pointer (some ⟨x,0,none⟩)] W fun e w'=>e = .returned .nilIface∧Q w') :
    Calls Tryz.prog 70 #[.pointer (some ⟨x,0,none⟩)] w fun e w'=>e = .returned (.tuple #[.bool true,.nilIface])∧Q w':=by
  have c2:=ex_2 hx
  have c3:=ex_3 hx
  have c4:=ex_4 hx
  have c5:=ex_5 hx
  have c6:=ex_6 hx
  have c7:=ex_7 hx
  have DN:=zz0 (zeX c pa pn pc w)
  rw [decide_eq_true hne] at DN
  have HP:=zz0 hp
  clear hx hp hne
  unfold cuV at DN
  go_enter Tryz.func70,Tryz.ntmps70
  go_wp2_with (first
    | (go_at_call 135;((with_reducible refine DN.out.mono ?_);rintro e w1 ⟨rfl,k1⟩))
    | (go_at_call 137;refine (HP.out _ k1).mono ?_;rintro e w2 ⟨rfl,q2⟩))
  go_ret2
  exact ⟨rfl,q2⟩
theorem ExOut.trans {F F1 FL:Nat→Prop} {w w1 w2:World} {x b lb q p:Nat} {lv:Value} {c:Cu} {ov:Bool} {X:Dk} {L:Lg} (s:Sub F1 F w) (k:Keep (fun g=>F g∨g=x) w w1) (h:ExOut F1 FL w1 x b lb q p lv c ov X L w2):ExOut F FL w x b lb q p lv c ov X L w2:=by
  obtain ⟨F2,pv,s2,k2,e⟩:=h
  refine ⟨F2,pv,s.trans s2 k.size,k.trans k2 (fun _ _ y=>y) (fun g hg y=>?_),e⟩
  rcases y with y | y
  · rcases s g y with z | z
    · exact .inl z
    · omega
  · exact .inr y
end Go.Proofs.YtnboipdpccnedaaGreatDoor
namespace Go.Proofs.YtnboipdpccnedaaGreatDoor
open Go.RowKit
theorem zhG (args:Array Value) (w:World):(callFunc 111 args).run Tryz.prog w = .ok (.enter 111 args) w:=zbH Tryz.func111 (by kernel_rfl) rfl args w
theorem zkK (args:Array Value) (w:World):(callFunc 115 args).run Tryz.prog w = .ok (.enter 115 args) w:=zbH Tryz.func115 (by kernel_rfl) rfl args w
theorem zkW (a:Option Addr) (m c:Nat) (w:World) (h1:1≤m) (h2:m≤4) :
    Calls Tryz.prog 111 #[.slice a m c] w fun e w'=>e = .returned (.bool false)∧w'=w:=by
  have e1:¬ (m:Int) < 1:=by omega
  have e2:¬ (4:Int) < m:=by omega
  go_enter Tryz.func111,Tryz.ntmps111
  go_wp2_with fail
  go_ret
  exact ⟨rfl,rfl⟩
theorem zmQ (n:Nat) (w:World) (h:n < 8) :
    Calls Tryz.prog 172 #[.int .i64 n] w fun e w'=>e = .returned (.bool true)∧w'=w:=by
  have hn:(n:Int) < 8:=by omega
  go_enter Tryz.func172,Tryz.ntmps172
  go_wp2_with fail
  go_ret
  exact ⟨rfl,rfl⟩
theorem zoJ (n:Nat) (w:World) (h:n < 8) :
    Calls Tryz.prog 115 #[.int .i64 n] w fun e w'=>e = .returned (.bool false)∧w'=w:=by
  have U:=zz0 (zmQ n w h)
  go_enter Tryz.func115,Tryz.ntmps115
  go_wp2_with (go_at_call 172;refine U.out.mono ?_;rintro e w1 ⟨rfl,rfl⟩)
  go_ret
  exact ⟨rfl,rfl⟩
theorem PrAt.parts {T:Nat→Prop} {w:World} {cv:Value} {n:Nat} (h:PrAt T w cv n):∃ g c,cv = .slice (some ⟨g,0,none⟩) (chN n) c∧∃ xs:List (Addr × Nat × Nat),xs.length=chN n∧(∀ x ∈ xs,1≤x.2.1∧x.2.1≤2)∧Rd w cv (xs.map sl1):=by
  obtain ⟨g,vs,c,rfl,hl,hr,hi,hg,ht⟩:=h
  refine ⟨g,c,rfl,?_⟩
  have key:∀ (us:List Value),(∀ v ∈ us,∃ x:Addr × Nat × Nat,v=sl1 x∧1≤x.2.1∧x.2.1≤2)→∃ xs:List (Addr × Nat × Nat),us=xs.map sl1∧∀ x ∈ xs,1≤x.2.1∧x.2.1≤2:=by
    intro us
    induction us with
    | nil=>intro _;exact ⟨[],rfl,fun x hx=>by cases hx⟩
    | cons v r ih =>
      intro h
      obtain ⟨x,rfl,hx⟩:=h v (by simp)
      obtain ⟨xs,rfl,hxs⟩:=ih (fun v hv=>h v (by simp [hv]))
      exact ⟨x :: xs,rfl,fun y hy=>by rcases List.mem_cons.1 hy with rfl | hy;exact hx;exact hxs y hy⟩
  obtain ⟨xs,rfl,hxs⟩:=key vs (fun v hv=>by
    obtain ⟨i,hi',rfl⟩:=List.getElem_of_mem hv
    have hic:i < chN n:=by rw [← hl];exact hi'
    have hx:=hi.2 i _ (chnI n i) (List.getElem?_eq_getElem hi') (zgX hic)
    have hlen:=zdM hic
    obtain ⟨xa,xc,e,hxx⟩:=hx
    obtain ⟨xg,xo,rfl,_⟩:=hxx (by intro e;rw [List.map_eq_nil_iff] at e;rw [e] at hlen;simp at hlen)
    rw [List.length_map] at e
    exact ⟨(⟨xg,xo,none⟩,(chnI n i).length,xc),e,hlen⟩)
  exact ⟨xs,by simpa using hl,hxs,hr⟩
theorem zi2 (T:Nat→Prop) (e n:Nat) (cv:Value) (w:World) (h:PrAt T w cv n) (h1:1≤n) (h2:n≤3) (he:e≤1099511627776) :
    Calls Tryz.prog 56 #[.agg #[.int .i64 e,cv]] w fun r w'=>r = .returned .nilIface∧Keep Non w w':=by
  have PU:=zz0 (fun W (k:Keep Non w W)=>zb6 T e n cv W (h.keepNon k) h1 h2)
  have CC:Hid (∀ W,Keep Non w W→Calls Tryz.prog 112 #[cv] W (NewI W (List.range n))):=zz0 (by
    obtain ⟨g,vs,c,rfl,hl,hr,hi,hg,ht⟩:=h
    have CC:=(fun W (k:Keep Non w W)=>zdS g vs (chainsN n) c W (by rw [hl];exact hr.keepNon k) ⟨hi.1,fun i u l hu hl=>(hi.2 i u l hu hl).keepNon k⟩ (by rw [zbF];simp;omega) (by have:=zeT h2;omega))
    rw [hl,zbF] at CC
    exact CC)
  obtain ⟨g,c,rfl,xs,hxl,hxs,hr⟩:=h.parts
  have CW:Hid (∀ W,Keep Non w W→Calls Tryz.prog 113 #[.slice (some ⟨g,0,none⟩) (chN n) c,.func (.func 111) #[] #[]] W fun e w'=>e = .returned (.bool false)∧Keep Non W w'):=zz0 (fun W k=>by
    have:=zmo 111 (some ⟨g,0,none⟩) c xs W zhG (by rw [hxl];exact hr.keepNon k) (by have:=zeT h2;omega) (fun j u W' hu _=>(zkW _ _ _ W' (hxs u (List.mem_of_getElem? hu)).1 (by have:=(hxs u (List.mem_of_getElem? hu)).2;omega)).mono (fun r w' ⟨a,b⟩=>⟨a,by rw [b];exact Keep.refl _ _⟩))
    rw [hxl] at this
    exact this)
  have CO:Hid (∀ W a c,Is W (.slice a n c) (List.range n)→Calls Tryz.prog 114 #[.slice a n c,.func (.func 115) #[] #[]] W fun e w'=>e = .returned (.bool false)∧Keep Non W w'):=zz0 (fun W a c hi=>by
    have:=zmp 115 a c (List.range n) W zkK (by rw [List.length_range];exact hi) (by simp;omega) (fun j u W' hu _=>(zoJ u W' (by
      rcases Nat.lt_or_ge j n with x | x
      · rw [List.getElem?_range x] at hu;injection hu with hu;omega
      · rw [List.getElem?_eq_none (by simpa using x)] at hu;cases hu)).mono (fun r w' ⟨a,b⟩=>⟨a,by rw [b];exact Keep.refl _ _⟩))
    rw [List.length_range] at this
    exact this)
  have hn1:¬ (chN n:Int) < 1:=by have:=zgY h1;omega
  have hn2:¬ (4:Int) < (chN n:Int):=by have:=zeT h2;omega
  have hn3:¬ (n:Int) < n:=by omega
  clear h hr
  go_enter Tryz.func56,Tryz.ntmps56
  go_wp2_with (first
    | (go_at_call 112;refine (CC.out _ ((Keep.refl _ _).alloc _)).mono ?_;rintro r w1 ⟨v1,rfl,k1,o1⟩;obtain ⟨a1,c1,rfl,_,_⟩:=zaa o1;rw [List.length_range] at *;have K1:=zz0 (((Keep.refl Non w).alloc _).trans1 k1);have I1:=zz0 (Rd.ofOwns o1);have P1:=zz0 (k1.at (zab w (PrB e (.slice (some ⟨g,0,none⟩) (chN n) c))) (fun e=>e));have q10:=pr_0 P1.out;have q11:=pr_1 P1.out;clear k1 o1)
    | (go_at_call 113;refine (CW.out _ K1.out).mono ?_;rintro r w2 ⟨rfl,k2⟩;have K2:=zz0 (K1.out.trans1 k2);have I2:=zz0 (I1.out.keepNon k2);have P2:=zz0 (k2.at P1.out (fun e=>e));have q20:=pr_0 P2.out;have q21:=pr_1 P2.out;clear k2)
    | (go_at_call 114;refine (CO.out _ _ _ I2.out).mono ?_;rintro r w3 ⟨rfl,k3⟩;have K3:=zz0 (K2.out.trans1 k3);have P3:=zz0 (k3.at P2.out (fun e=>e));have q30:=pr_0 P3.out;have q31:=pr_1 P3.out;clear k3)
    | (go_at_call 57;refine (PU.out _ K3.out).mono ?_;rintro r w4 ⟨g4,c4,rfl,k4,_,_⟩;have K4:=zz0 (K3.out.trans1 k4);clear k4))
  go_ret
  exact ⟨rfl,K4.out⟩
end Go.Proofs.YtnboipdpccnedaaGreatDoor
namespace Go.Proofs.YtnboipdpccnedaaGreatDoor
open Go.RowKit Go.Maps
def SegN (X:Dk) (j i:Nat) (pt:Pt):Prop:=∃ f cl,pt=ptOf f cl∧fhas X.shown (labelN j i)=true∧fget X.shown (labelN j i)=segB f cl∧cl≠[]∧cl.length≤64∧(∀ x ∈ cl,okCl x)∧f+cl.length≤1048576
theorem zhI {X:Dk} {ms:List Mf} (h:Bk X ms) (hb:Bare X ms) {n:Byt} (hn:fhas X.shown n=true) :
    ((∃ (j:Nat) (m:Mf),ms[j]? = some m∧n=titleN j)∨∃ (j i:Nat) (m:Mf),ms[j]? = some m∧i < m.parts.length∧n=labelN j i)∧okObj n∧∃ t,fget X.shown n=frameB t∧t.length≤65536∧(frameB t).length≤10000:=by
  rcases hb.all n hn with ⟨j,hj,rfl⟩ | ⟨j,i,m,hj,hi,rfl⟩
  · have hm:ms[j]? = some ms[j]:=List.getElem?_eq_getElem hj
    obtain ⟨m1,_,_,m4⟩:=h.ok j _ hm
    have hlen:(mfBy ms[j]).length≤3400:=znJ m1 (by have:=(h.four _ (List.mem_of_getElem? hm)).1;omega) (by have:=m1.num;omega) (by have h1:=(zaH ms[j].parts ms[j].lo 0).2;rw [m1.stop] at h1;simp only [List.take_zero,endPts] at h1;have:=m1.hi;omega) m1.hi m1.trim (fun p hp=>zek (zbz _ _ m1.parts p hp))
    refine ⟨.inl ⟨j,_,hm,rfl⟩,zaJ j (by have:=h.few;omega),mfT ms[j],(h.tit j _ hm).2,?_,by show (mfBy ms[j]).length≤10000;omega⟩
    have e:(mfBy ms[j]).length=(vput (mfT ms[j]).length).length+(mfT ms[j]).length+4:=zcm _
    omega
  · obtain ⟨f,cl,e,h1,h2,h3,h4,h5,h6⟩:=h.segs j m hj i _ (List.getElem?_eq_getElem hi)
    have hsl:=zcC h5 h4 (show f≤1048576 by omega)
    have hrl:=zdd h5 h4 (show f≤1048576 by omega)
    have hjl:=zai hj
    refine ⟨.inr ⟨j,i,m,hj,hi,rfl⟩,zaI j i (by have:=h.few;omega) (by have:=(h.four m (List.mem_of_getElem? hj)).1;omega),vput f ++ runB cl,h2,by omega,by show (segB f cl).length≤10000;omega⟩
theorem zjF {X:Dk} {ms:List Mf} (h:Bk X ms) (hne:ms≠[]):∃ n,fhas X.shown n=true:=by
  have hl:0 < ms.length:=List.length_pos_iff.2 hne
  exact ⟨_,(h.tit 0 _ (List.getElem?_eq_getElem hl)).1⟩
structure SpY (Y:Dk) (n B:Byt):Prop where
  free:Y.free
  tidy:Y.tidy
  lim:Y.lim 200 200 5000000
  has:fhas Y.shown n=true
  get:fget Y.shown n=B
theorem zgI {X:Dk} {ms:List Mf} (h:Bk X ms) (hb:Bare X ms) {n B:Byt} (hn:okObj n) (hl:B.length≤65536):X.sput n B=(0,putX X n B)∧SpY (putX X n B) n B:=by
  have hf:=h.few
  have e:=zgt h.free h.room hb.lim (by omega) (by omega) n B hl
  exact ⟨e,h.free,zbA h.tidy h.free hb.lim.map hn hl e,(zbQ hb.lim e).mono (by omega) (by omega) (by omega),zaS hb.lim.map,zaR hb.lim.map⟩
theorem zgJ {X:Dk} {ms:List Mf} (h:Bk X ms) {n B:Byt} {i:Nat} {m:Mf} (hi:ms[i]? = some m) (hne:titleN i≠n):fhas (putX X n B).shown (titleN i)=true∧fget (putX X n B).shown (titleN i)=mfBy m:=by
  have hil:=zai hi
  have ho:=zaJ i (by have:=h.few;omega)
  rw [za3 ho hne,zbh ho hne]
  exact h.tit i m hi
theorem zhr {X:Dk} {ms:List Mf} (h:Bk X ms) {j i:Nat} {B:Byt}:HasMs (putX X (labelN j i) B) ms where
  has:=fun k m hk=>zgJ h hk (zc9 _ _ _).symm
  no:=by
    have hf:=h.few
    rw [za3 (zaJ ms.length (by omega)) (zc9 _ _ _).symm]
    exact h.no ms.length (Nat.le_refl _) (by omega)
theorem zjj {X:Dk} {ms:List Mf} (h:Bk X ms) {j i:Nat} {B:Byt} {m:Mf} (hj:ms[j]? = some m) (hi:i < m.parts.length) {j' i':Nat} {m':Mf} {pt:Pt} (hj':ms[j']? = some m') (hi':m'.parts[i']? = some pt) (hne:¬ (j'=j∧i'=i)):SegN (putX X (labelN j i) B) j' i' pt:=by
  have l1:=zai hj
  have l2:=zai hj'
  have l3:=zai hi'
  have hf:=h.few
  have f1:=(h.four m (List.mem_of_getElem? hj)).1
  have f2:=(h.four m' (List.mem_of_getElem? hj')).1
  obtain ⟨f,cl,e,a1,a2,a3⟩:=h.segs j' m' hj' i' pt hi'
  have ho:=zaI j' i' (by omega) (by omega)
  have hn:labelN j' i'≠labelN j i:=fun e=>hne (zcN (by omega) (by omega) (by omega) (by omega) e)
  exact ⟨f,cl,e,by rw [za3 ho hn];exact a1,by rw [zbh ho hn];exact a2,a3⟩
end Go.Proofs.YtnboipdpccnedaaGreatDoor
