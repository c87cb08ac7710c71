/- A shared log in memory: its units' disks and shelves, its projection, its sequencer. · slog: in, ask, has, do, read, raise, Tail: walked. · slog: has, -/
import Derived.Test.YtnboipdpccnedaaGreatDoorQ29
import Derived.Test.YtnboipdpccnedaaGreatDoorQ30
set_option linter.unusedVariables false
set_option maxRecDepth 100000
set_option maxHeartbeats 16000000
namespace Go.Proofs.YtnboipdpccnedaaGreatDoor
open Go.RowKit Go.Maps
def ptrV (g:Nat):Value:=.pointer (some ⟨g,0,none⟩)
def LgB (dv sv:Value) (e:Nat) (cv:Value) (q:Nat):Obj:=.cells #[dv,sv,.int .i64 e,cv,.pointer (some ⟨q,0,none⟩)] 129 (0,0)
section
variable {w : World} {b e q : Nat} {dv sv cv : Value}
theorem lg_0 (h:w.heap[b]? = some (LgB dv sv e cv q)):w.cell? ⟨b,0,none⟩=some dv:=by simp [World.cell?,h,LgB]
theorem lg_1 (h:w.heap[b]? = some (LgB dv sv e cv q)):w.cell? ⟨b,1,none⟩=some sv:=by simp [World.cell?,h,LgB]
theorem lg_2 (h:w.heap[b]? = some (LgB dv sv e cv q)):w.cell? ⟨b,2,none⟩=some (.int .i64 e):=by simp [World.cell?,h,LgB]
theorem lg_3 (h:w.heap[b]? = some (LgB dv sv e cv q)):w.cell? ⟨b,3,none⟩=some cv:=by simp [World.cell?,h,LgB]
theorem lg_4 (h:w.heap[b]? = some (LgB dv sv e cv q)):w.cell? ⟨b,4,none⟩=some (.pointer (some ⟨q,0,none⟩)):=by simp [World.cell?,h,LgB]
theorem lg_f (h:w.heap[b]? = some (LgB dv sv e cv q)) (i:Nat):w.frozen? ⟨b,i,none⟩=false:=by simp [World.frozen?,h,LgB]
theorem zcB (h:w.heap[b]? = some (LgB dv sv e cv q)) (v:Value):(w.setCell ⟨b,0,none⟩ v).heap[b]? = some (LgB v sv e cv q):=zaf h 0 _
theorem zos (h:w.heap[b]? = some (LgB dv sv e cv q)) (v:Value):(w.setCell ⟨b,1,none⟩ v).heap[b]? = some (LgB dv v e cv q):=zaf h 1 _
theorem zkw (h:w.heap[b]? = some (LgB dv sv e cv q)) (k:Nat):(w.setCell ⟨b,2,none⟩ (.int .i64 k)).heap[b]? = some (LgB dv sv k cv q):=zaf h 2 _
end
structure Lg where
  shs:List Sh
  ep:Nat
  next:Nat
  se:Nat
structure LgIn (A:Nat→Nat→Prop) (w:World) (b:Nat) (dps sps:List Nat) (dv sv cv:Value) (q n:Nat) (L:Lg):Prop where
  blk:w.heap[b]? = some (LgB dv sv L.ep cv q)
  sq:w.heap[q]? = some (SqB L.se L.next)
  sqin:SqIn L.se L.next
  disks:w.ownsRow 0 29 1 dv dps.length (dps.map ptrV)
  shelves:w.ownsRow 0 194 1 sv sps.length (sps.map ptrV)
  len:dps.length=L.shs.length∧sps.length=L.shs.length
  proj:PrAt (A 4) w cv n
  sh:∀ i s p dp,L.shs[i]? = some s→sps[i]? = some p→dps[i]? = some dp→ShAt (A (5+i)) w p dp s
  mem:A 0 b∧A 1 q∧(∀ g,dv.ownBlock=some g→A 2 g)∧(∀ g,sv.ownBlock=some g→A 3 g)
  apart:∀ i j g,A i g→A j g→i=j
  low:∀ i g,A i g→10≤g∧g < w.heap.size
  small:n≤3∧L.shs.length≤3
def LgAt (F:Nat→Prop) (w:World) (b n:Nat) (L:Lg):Prop:=∃ A dps sps dv sv cv q,LgIn A w b dps sps dv sv cv q n L∧∀ i g,A i g→F g
def LgTo (F:Nat→Prop) (w:World) (b n:Nat) (L:Lg) (w':World):Prop:=Keep F w w'∧∃ F',Sub F' F w∧LgAt F' w' b n L
theorem LgIn.keep {A:Nat→Nat→Prop} {w w':World} {b:Nat} {dps sps:List Nat} {dv sv cv:Value} {q n:Nat} {L:Lg} {S:Nat→Prop} (h:LgIn A w b dps sps dv sv cv q n L) (k:Keep S w w') (hn:∀ i g,A i g→¬ S g):LgIn A w' b dps sps dv sv cv q n L :=
  ⟨k.at h.blk (hn 0 _ h.mem.1),k.at h.sq (hn 1 _ h.mem.2.1),h.sqin,zac h.disks k (fun g e=>hn 2 g (h.mem.2.2.1 g e)),zac h.shelves k (fun g e=>hn 3 g (h.mem.2.2.2 g e)),h.len,
    h.proj.keep k (hn 4),fun i s p dp a b c=>(h.sh i s p dp a b c).keep k (hn _),h.mem,h.apart,fun i g e=>⟨(h.low i g e).1,k.lt (h.low i g e).2⟩,h.small⟩
theorem LgAt.keep {F S:Nat→Prop} {w w':World} {b n:Nat} {L:Lg} (h:LgAt F w b n L) (k:Keep S w w') (hn:∀ g,F g→¬ S g):LgAt F w' b n L:=by
  obtain ⟨A,dps,sps,dv,sv,cv,q,h,hF⟩:=h
  exact ⟨A,dps,sps,dv,sv,cv,q,h.keep k (fun i g e=>hn g (hF i g e)),hF⟩
theorem LgAt.keepNon {F:Nat→Prop} {w w':World} {b n:Nat} {L:Lg} (h:LgAt F w b n L) (k:Keep Non w w'):LgAt F w' b n L:=h.keep k (fun _ _ e=>e)
theorem LgAt.mono {F G:Nat→Prop} {w:World} {b n:Nat} {L:Lg} (h:LgAt F w b n L) (hs:∀ g,F g→g < w.heap.size→G g):LgAt G w b n L:=by
  obtain ⟨A,dps,sps,dv,sv,cv,q,h,hF⟩:=h
  exact ⟨A,dps,sps,dv,sv,cv,q,h,fun i g e=>hs g (hF i g e) (h.low i g e).2⟩
def putA (A:Nat→Nat→Prop) (i:Nat) (B:Nat→Prop):Nat→Nat→Prop:=fun j g=>if j=i then B g else A j g
theorem zgr {A:Nat→Nat→Prop} {i:Nat} {B:Nat→Prop} {g:Nat}:putA A i B i g=B g:=if_pos rfl
theorem zdb {A:Nat→Nat→Prop} {i j:Nat} {B:Nat→Prop} {g:Nat} (h:j≠i):putA A i B j g=A j g:=if_neg h
theorem zi5 {A:Nat→Nat→Prop} {i:Nat} {B:Nat→Prop} {w:World} (h:∀ i j g,A i g→A j g→i=j) (hl:∀ i g,A i g→10≤g∧g < w.heap.size) (hB:Sub B (A i) w):∀ j k g,putA A i B j g→putA A i B k g→j=k:=by
  intro j k g hj hk
  unfold putA at hj hk
  split at hj
  · rename_i ej
    split at hk
    · rename_i ek;rw [ej,ek]
    · rcases hB g hj with x | x
      · rw [ej];exact h _ _ g x hk
      · have:=(hl _ g hk).2;omega
  · split at hk
    · rename_i ek
      rcases hB g hk with x | x
      · rw [ek];exact h _ _ g hj x
      · have:=(hl _ g hj).2;omega
    · exact h _ _ g hj hk
theorem LgIn.unit {A:Nat→Nat→Prop} {w w':World} {b:Nat} {dps sps:List Nat} {dv sv cv:Value} {q n i p dp:Nat} {L:Lg} {s s2:Sh} (h:LgIn A w b dps sps dv sv cv q n L) (hs:L.shs[i]? = some s) (hp:sps[i]? = some p) (hd:dps[i]? = some dp) (t:ShTo (A (5+i)) w p dp s2 w') :
    ∃ B,Sub B (A (5+i)) w∧Keep (A (5+i)) w w'∧LgIn (putA A (5+i) B) w' b dps sps dv sv cv q n { L with shs:=L.shs.set i s2 }:=by
  obtain ⟨k,B,sb,t⟩:=t
  have ap:=zi5 h.apart h.low sb
  have ne:∀ j g,j≠5+i→A j g→¬ A (5+i) g:=fun j g hj x y=>hj (h.apart _ _ g x y)
  have e4:∀ (j:Nat),j < 5→putA A (5+i) B j=A j:=fun j hj=>by funext g;exact zdb (by omega)
  have hil:i < L.shs.length:=by
    rcases Nat.lt_or_ge i L.shs.length with x | x
    · exact x
    · rw [List.getElem?_eq_none x] at hs;cases hs
  refine ⟨B,sb,k,k.at h.blk (ne 0 _ (by omega) h.mem.1),k.at h.sq (ne 1 _ (by omega) h.mem.2.1),h.sqin,zac h.disks k (fun g e=>ne 2 g (by omega) (h.mem.2.2.1 g e)),zac h.shelves k (fun g e=>ne 3 g (by omega) (h.mem.2.2.2 g e)),?_,?_,?_,?_,ap,?_,?_⟩
  · simpa using h.len
  · rw [e4 4 (by omega)];exact h.proj.keep k (fun g x=>ne 4 g (by omega) x)
  · intro j s' p' dp' hj hpj hdj
    simp only at hj
    by_cases e:j=i
    · subst e
      rw [List.getElem?_set_self hil] at hj
      rw [hp] at hpj
      rw [hd] at hdj
      injection hj with hj
      injection hpj with hpj
      injection hdj with hdj
      subst hj
      subst hpj
      subst hdj
      have e5:putA A (5+j) B (5+j)=B:=by funext g;exact zgr
      rw [e5]
      exact t
    · rw [List.getElem?_set_ne (fun x=>e x.symm)] at hj
      have e5:putA A (5+i) B (5+j)=A (5+j):=by funext g;exact zdb (by omega)
      rw [e5]
      exact (h.sh j s' p' dp' hj hpj hdj).keep k (fun g x=>ne (5+j) g (by omega) x)
  · rw [e4 0 (by omega),e4 1 (by omega),e4 2 (by omega),e4 3 (by omega)];exact h.mem
  · intro j g x
    unfold putA at x
    have hsz:=k.size
    split at x
    · refine ⟨?_,t.low g x⟩
      rcases sb g x with y | y
      · exact (h.low _ g y).1
      · have:=(h.low 0 b h.mem.1);omega
    · have:=h.low j g x;omega
  · simpa using h.small
theorem LgIn.unitTo {A:Nat→Nat→Prop} {F:Nat→Prop} {w w':World} {b:Nat} {dps sps:List Nat} {dv sv cv:Value} {q n i p dp:Nat} {L:Lg} {s s2:Sh} (h:LgIn A w b dps sps dv sv cv q n L) (hF:∀ i g,A i g→F g) (hs:L.shs[i]? = some s) (hp:sps[i]? = some p) (hd:dps[i]? = some dp) (t:ShTo (A (5+i)) w p dp s2 w') :
    LgTo F w b n { L with shs:=L.shs.set i s2 } w':=by
  obtain ⟨B,sb,k,h'⟩:=h.unit hs hp hd t
  refine ⟨k.mono (fun g _ x=>hF _ g x),fun g=>∃ j,putA A (5+i) B j g,?_,_,dps,sps,dv,sv,cv,q,h',fun j g x=>⟨j,x⟩⟩
  rintro g ⟨j,x⟩
  unfold putA at x
  split at x
  · rcases sb g x with y | y
    · exact .inl (hF _ g y)
    · exact .inr y
  · exact .inl (hF _ g x)
def LgIT (A:Nat→Nat→Prop) (w:World) (b:Nat) (dps sps:List Nat) (dv sv cv:Value) (q n u:Nat) (L:Lg) (w':World):Prop :=
  ∃ B,Sub B (A (5+u)) w∧Keep (A (5+u)) w w'∧LgIn (putA A (5+u) B) w' b dps sps dv sv cv q n L
theorem LgIT.pre {A:Nat→Nat→Prop} {w w1 w':World} {b:Nat} {dps sps:List Nat} {dv sv cv:Value} {q n u:Nat} {L:Lg} (k:Keep Non w w1) (d:LgIT A w1 b dps sps dv sv cv q n u L w'):LgIT A w b dps sps dv sv cv q n u L w':=by
  obtain ⟨B,hs,kk,hl⟩:=d
  refine ⟨B,fun g x=>?_,k.ofNon.trans1 kk,hl⟩
  rcases hs g x with y | y
  · exact .inl y
  · have:=k.size;right;omega
theorem LgIT.to {A:Nat→Nat→Prop} {F:Nat→Prop} {w w':World} {b:Nat} {dps sps:List Nat} {dv sv cv:Value} {q n u:Nat} {L:Lg} (d:LgIT A w b dps sps dv sv cv q n u L w') (hF:∀ i g,A i g→F g):LgTo F w b n L w':=by
  obtain ⟨B,hs,kk,hl⟩:=d
  refine ⟨kk.mono (fun g _ x=>hF _ g x),fun g=>F g∨w.heap.size≤g,fun g x=>x,putA A (5+u) B,dps,sps,dv,sv,cv,q,hl,fun i g x=>?_⟩
  by_cases e:i=5+u
  · subst e
    rw [zgr] at x
    rcases hs g x with y | y
    · exact .inl (hF _ g y)
    · exact .inr y
  · rw [zdb e] at x
    exact .inl (hF _ g x)
theorem LgTo.trans {F F':Nat→Prop} {w w' w'':World} {b n:Nat} {L:Lg} (s:Sub F' F w) (k:Keep F w w') (d:LgTo F' w' b n L w''):LgTo F w b n L w'':=by
  obtain ⟨k2,F'',s2,d2⟩:=d
  exact ⟨za9 k s k2,F'',s.trans s2 k.size,d2⟩
theorem LgTo.refl {F:Nat→Prop} {w w':World} {b n:Nat} {L:Lg} (d:LgAt F w b n L) (k:Keep Non w w'):LgTo F w b n L w' :=
  ⟨k.mono (fun _ _ e=>e.elim),F,Sub.refl _ _,d.keepNon k⟩
theorem LgTo.pre {F:Nat→Prop} {w w1 w':World} {b n:Nat} {L:Lg} (k:Keep Non w w1) (d:LgTo F w1 b n L w'):LgTo F w b n L w':=by
  obtain ⟨k2,F',s,d⟩:=d
  exact ⟨(k.mono (fun _ _ e=>e.elim):Keep F w w1).trans k2 (fun _ _ e=>e) (fun _ _ e=>e),F',fun g e=>by rcases s g e with x | x;exact .inl x;exact .inr (Nat.le_trans k.size x),d⟩
theorem LgTo.post {F:Nat→Prop} {w w1 w':World} {b n:Nat} {L:Lg} (d:LgTo F w b n L w1) (k:Keep Non w1 w'):LgTo F w b n L w':=by
  obtain ⟨k2,F',s,d⟩:=d
  exact ⟨k2.trans1 k.ofNon,F',s,d.keepNon k⟩
theorem zai {α:Type} {l:List α} {i:Nat} {x:α} (h:l[i]? = some x):i < l.length:=by
  rcases Nat.lt_or_ge i l.length with y | y
  · exact y
  · rw [List.getElem?_eq_none y] at h;cases h
theorem zij {w:World} {B g c k i x:Nat} {ty:TypeId} {l:List Nat} (o:w.ownsRow B ty 1 (.slice (some ⟨g,0,none⟩) k c) l.length (l.map ptrV)) (hi:l[i]? = some x):w.cell? ⟨g,i,none⟩=some (ptrV x):=by
  have hr:=Rd.ofOwns o
  obtain ⟨a',c',e,hx⟩:=hr
  injection e with e1 e2 e3
  obtain ⟨g',off,e4,hc⟩:=hx (by intro e;rw [List.map_eq_nil_iff] at e;rw [e] at hi;cases hi)
  rw [← e1] at e4
  injection e4 with e4
  injection e4 with e4 e5
  subst e4
  subst e5
  have:=hc i (ptrV x) (by rw [List.getElem?_map,hi];rfl)
  rwa [Nat.zero_add] at this
theorem LgIn.at {A:Nat→Nat→Prop} {w:World} {b:Nat} {dps sps:List Nat} {dv sv cv:Value} {q n u:Nat} {L:Lg} {s:Sh} (h:LgIn A w b dps sps dv sv cv q n L) (hs:L.shs[u]? = some s) :
    ∃ p dp sg sc dg dc,sv = .slice (some ⟨sg,0,none⟩) L.shs.length sc∧dv = .slice (some ⟨dg,0,none⟩) L.shs.length dc∧sps[u]? = some p∧dps[u]? = some dp∧u < L.shs.length∧w.cell? ⟨sg,u,none⟩=some (ptrV p)∧w.cell? ⟨dg,u,none⟩=some (ptrV dp)∧ShAt (A (5+u)) w p dp s:=by
  have hu:=zai hs
  obtain ⟨l1,l2⟩:=h.len
  obtain ⟨sg,sc,e1,_⟩:=zbO h.shelves (by omega)
  obtain ⟨dg,dc,e2,_⟩:=zbO h.disks (by omega)
  have hp:=List.getElem?_eq_getElem (show u < sps.length by omega)
  have hd:=List.getElem?_eq_getElem (show u < dps.length by omega)
  have r1:=h.shelves
  have r2:=h.disks
  rw [e1] at r1
  rw [e2] at r2
  exact ⟨_,_,sg,sc,dg,dc,by rw [e1,l2],by rw [e2,l1],hp,hd,hu,zij r1 hp,zij r2 hd,h.sh u s _ _ hs hp hd⟩
theorem zbN (x most:Int) (w:World) (h1:0≤x) (h2:x≤most) :
    Calls Tryz.prog 53 #[.int .i64 x,.int .i64 most] w fun e w'=>e = .returned (.bool true)∧w'=w:=by
  go_enter Tryz.func53,Tryz.ntmps53
  go_wp2_with fail
  go_ret
  exact ⟨rfl,rfl⟩
theorem zcn (b:Nat) (w:World) :
    Calls Tryz.prog 52 #[.pointer (some ⟨b,0,none⟩),.bool true] w fun e w'=>e = .returned .nilIface∧w'=w:=by
  go_enter Tryz.func52,Tryz.ntmps52
  go_wp2_with fail
  go_ret
  exact ⟨rfl,rfl⟩
theorem zmv {A:Nat→Nat→Prop} {dps sps:List Nat} {dv sv cv:Value} {q b n u:Nat} {L:Lg} {s s2:Sh} (k e a m c:Nat) (pa:Option Addr) (R:(Nat→Prop)→World→Prop) (w:World) (h:LgIn A w b dps sps dv sv cv q n L) (hs:L.shs[u]? = some s) (hlay:Lay w)
    (ha:Acts s s2 (.agg #[.int .i64 k,.int .i64 e,.int .i64 a,.slice pa m c]) R) (hR:∀ w' F',Keep Non w w'→(∀ g,F' g→A (5+u) g)→R F' w') :
    Calls Tryz.prog 185 #[.pointer (some ⟨b,0,none⟩),.int .i64 u,.agg #[.int .i64 k,.int .i64 e,.int .i64 a,.slice pa m c]] w fun r w'=>(∃ n:Int,r = .returned (.tuple #[.int .i64 n,.nilIface]))∧LgIT A w b dps sps dv sv cv q n u { L with shs:=L.shs.set u s2 } w':=by
  have kA:Keep Non w (w.alloc (ActB k e a (.slice pa m c))):=(Keep.refl _ _).alloc _
  have hA:=h.keep kA (fun _ _ _ x=>x)
  obtain ⟨p,dp,sg,sc,dg,dc,rfl,rfl,hp,hd,hu,hcs,hcd,hsh⟩:=hA.at hs
  have c1:=lg_1 hA.blk
  unfold ptrV at hcs
  have kAd:Keep Non w (w.alloc (ActB k e a (.slice pa m c))).drew:=kA.drew
  have hAd:=hA.keep ((Keep.refl Non _).drew) (fun _ _ _ x=>x)
  have AC:=zz0 (ha _ _ p dp (hR _ (A (5+u)) kAd (fun _ x=>x)) (hlay.keepNon kAd) (fun g x=>(hA.low _ g x).1) (hsh.keepNon (Keep.refl Non _).drew))
  have CL:=zz0 (fun w' (t:ShTo (A (5+u)) (w.alloc (ActB k e a (.slice pa m c))).drew p dp s2 w')=>LgIT.pre kAd (hAd.unit hs hp hd t))
  have bA:=zab w (ActB k e a (.slice pa m c))
  have a0:=ac_0 bA
  have a1:=ac_1 bA
  have a2:=ac_2 bA
  have a3:=ac_3 bA
  have hlt:(u:Int) < L.shs.length:=by omega
  clear h hA hAd hsh hlay ha hR kA kAd bA hcd hp hd
  have c1d:(w.alloc (ActB k e a (.slice pa m c))).drew.cell? ⟨b,1,none⟩=some (.slice (some ⟨sg,0,none⟩) L.shs.length sc):=c1
  have hcsd:(w.alloc (ActB k e a (.slice pa m c))).drew.cell? ⟨sg,u,none⟩=some (.pointer (some ⟨p,0,none⟩)):=hcs
  have a0d:(w.alloc (ActB k e a (.slice pa m c))).drew.cell? ⟨w.heap.size,0,none⟩=some (.int .i64 k):=a0
  have a1d:(w.alloc (ActB k e a (.slice pa m c))).drew.cell? ⟨w.heap.size,1,none⟩=some (.int .i64 e):=a1
  have a2d:(w.alloc (ActB k e a (.slice pa m c))).drew.cell? ⟨w.heap.size,2,none⟩=some (.int .i64 a):=a2
  have a3d:(w.alloc (ActB k e a (.slice pa m c))).drew.cell? ⟨w.heap.size,3,none⟩=some (.slice pa m c):=a3
  dsimp only [ActB] at *
  go_enter Tryz.func185,Tryz.ntmps185
  go_wp2_with fail
  go_region_law (go_simp;go_at_call 120;refine AC.out.mono ?_;rintro r w2 ⟨⟨nn,rfl⟩,t⟩;have T:=zz0 t;clear t)
  all_goals go_wp2_with fail
  all_goals
    go_ret2
    exact ⟨⟨_,rfl⟩,CL.out _ T.out⟩
theorem zec {F:Nat→Prop} {b n u:Nat} {L:Lg} {s s2:Sh} (k e a m c:Nat) (pa:Option Addr) (R:(Nat→Prop)→World→Prop) (w:World) (h:LgAt F w b n L) (hs:L.shs[u]? = some s) (hlay:Lay w)
    (ha:Acts s s2 (.agg #[.int .i64 k,.int .i64 e,.int .i64 a,.slice pa m c]) R) (hR:∀ w' F',Keep Non w w'→(∀ g,F' g→F g)→R F' w') :
    Calls Tryz.prog 185 #[.pointer (some ⟨b,0,none⟩),.int .i64 u,.agg #[.int .i64 k,.int .i64 e,.int .i64 a,.slice pa m c]] w fun r w'=>(∃ n:Int,r = .returned (.tuple #[.int .i64 n,.nilIface]))∧LgTo F w b n { L with shs:=L.shs.set u s2 } w':=by
  obtain ⟨A,dps,sps,dv,sv,cv,q,h,hF⟩:=h
  refine (zmv k e a m c pa R w h hs hlay ha (fun w' F' kk hh=>hR w' F' kk (fun g x=>hF _ g (hh g x)))).mono ?_
  rintro r w' ⟨x,t⟩
  exact ⟨x,t.to hF⟩
theorem zdL {w wA w2:World} {v:Value} {n:Nat} {xs:List Value} {ty:TypeId} (kA:Keep Non w wA) (k2:Keep Non wA w2) (o:w2.ownsRow wA.heap.size ty 1 v n xs) (hA:w.heap.size+1≤wA.heap.size) (k:Int) (u:Value) :
    Keep Non w ((w2.setCell ⟨w.heap.size,0,none⟩ (.int .i64 k)).setCell ⟨w.heap.size,1,none⟩ u)∧((w2.setCell ⟨w.heap.size,0,none⟩ (.int .i64 k)).setCell ⟨w.heap.size,1,none⟩ u).ownsRow w.heap.size ty 1 v n xs:=by
  have k3:Keep (One w.heap.size) w2 ((w2.setCell ⟨w.heap.size,0,none⟩ (.int .i64 k)).setCell ⟨w.heap.size,1,none⟩ u):=((Keep.refl _ _).setOne _ _).setOne _ _
  exact ⟨(kA.trans1 k2).trans k3 (fun _ _ e=>e) (fun g hg e=>by have e':g=w.heap.size:=e;omega),zad (zac o k3 (fun g hg e=>by have e':g=w.heap.size:=e;have:=(o.lt g hg).1;omega)) (by omega)⟩
theorem ze6 {F:Nat→Prop} {b n u a:Nat} {L:Lg} {s:Sh} (w:World) (h:LgAt F w b n L) (hs:L.shs[u]? = some s) (he:s.e=L.ep) (hd:s.X.down=false) (ha:a≤1048575) (hx:(uat s.l s.D a).2.length≤100000000) :
    Calls Tryz.prog 55 #[.pointer (some ⟨b,0,none⟩),.int .i64 u,.int .i64 a] w fun r w'=>∃ v,r = .returned (.tuple #[.agg #[.int .i64 (uat s.l s.D a).1,v],.nilIface])∧Keep Non w w'∧w'.ownsRow w.heap.size 5 1 v (uat s.l s.D a).2.length ((uat s.l s.D a).2.map bv):=by
  obtain ⟨A,dps,sps,dv,sv,cv,q,h,hF⟩:=h
  obtain ⟨p,dp,sg,sc,dg,dc,rfl,rfl,hp,hd',hu,hcs,hcd,hsh⟩:=h.at hs
  have RD:=zz0 (fun W (k:Keep Non w W)=>zll W (hsh.keepNon k) hd ha hx)
  rw [he] at RD
  have B:=zz0 h.blk
  unfold ptrV at hcs
  have HC:=zz0 hcs
  have hlt:(u:Int) < L.shs.length:=by omega
  generalize uat s.l s.D a=x at RD ⊢
  obtain ⟨kx,lx⟩:=x
  dsimp only at RD ⊢
  have kA:Keep Non w (w.alloc (ClB 0 (.slice none 0 0))):=(Keep.refl _ _).alloc _
  have bA:=nonAt kA h.blk
  have c1:=lg_1 bA
  have c2:=lg_2 bA
  have kB:Keep (One w.heap.size) w w:=Keep.refl _ _
  have hcsA:(w.alloc (ClB 0 (.slice none 0 0))).cell? ⟨sg,u,none⟩=some (.pointer (some ⟨p,0,none⟩)):=(World.cell?_alloc_lt _ _ _ (World.block_lt_of_cell? _ _ hcs)).trans hcs
  have c1d:(w.alloc (ClB 0 (.slice none 0 0))).drew.cell? ⟨b,1,none⟩=some (.slice (some ⟨sg,0,none⟩) L.shs.length sc):=c1
  have c2d:(w.alloc (ClB 0 (.slice none 0 0))).drew.cell? ⟨b,2,none⟩=some (.int .i64 L.ep):=c2
  have hcsd:(w.alloc (ClB 0 (.slice none 0 0))).drew.cell? ⟨sg,u,none⟩=some (.pointer (some ⟨p,0,none⟩)):=hcsA
  have RDW:=zz0 (RD.out _ kA.drew)
  have kAd:=zz0 kA.drew
  have rb:=zz0 (zab w (ClB 0 (.slice none 0 0)))
  clear h hsh hcd hp hd' hx hs RD hcs HC B bA kA
  dsimp only [ClB] at c1 c2 hcsA c1d c2d hcsd RDW
  go_enter Tryz.func55,Tryz.ntmps55
  go_wp2_with fail
  go_region_law (go_simp;go_at_call 110;refine RDW.out.mono ?_;rintro r w2 ⟨v,rfl,k2,o2⟩;obtain ⟨va,vc,rfl,_,_⟩:=zaa o2;have rb2:=nonAt k2 rb.out;have r0:=cl0 rb2;have r1:=cl1 rb2;have r0f:=clf rb2 0;have r1f:=clf rb2 1;have q0:=cl0 (zbd (zaY rb2 kx) (.slice va lx.length vc));have q1:=cl1 (zbd (zaY rb2 kx) (.slice va lx.length vc));have K2:=zz0 k2;have O2:=zz0 o2;clear k2 o2 rb2)
  all_goals go_wp2_with fail
  all_goals
    refine bodyPost_ret (v:=.tuple #[.agg #[.int .i64 kx,.slice va lx.length vc],.nilIface]) (by simp [results,Tryz.results55,go_sem,Act.put,q0,q1]) rfl ?_
    obtain ⟨k,o⟩:=zdL kAd.out K2.out O2.out (by show _≤(w.alloc _).heap.size;rw [World.size_alloc];exact Nat.le_refl _) kx (.slice va lx.length vc)
    exact ⟨_,rfl,k,o⟩
def homeN (n a:Nat):List Nat:=chnI n (a % chN n)
def lastN (n a:Nat):Nat:=(homeN n a).getLastD 0
theorem zfA (a:Nat):homeN 1 a = [0]:=by
  have e:chN 1=1:=rfl
  unfold homeN
  rw [e,Nat.mod_one]
  rfl
theorem zkm (a:Nat):homeN 2 a = [a % 2]:=by
  have e:chN 2=2:=rfl
  unfold homeN
  rw [e]
  obtain h | h:a % 2=0∨a % 2=1:=by omega
  · rw [h];rfl
  · rw [h];rfl
theorem zfB (a:Nat):homeN 3 a=if a % 2=0 then [0] else [1,2]:=by
  have e:chN 3=2:=rfl
  unfold homeN
  rw [e]
  obtain h | h:a % 2=0∨a % 2=1:=by omega
  · rw [h];rfl
  · rw [h];rfl
theorem ziT {A:Nat→Nat→Prop} {dps sps:List Nat} {dv sv cv:Value} {q b n a:Nat} {L:Lg} (w:World) (h:LgIn A w b dps sps dv sv cv q n L) (hn:0 < n) (ha:a≤1048575) :
    Calls Tryz.prog 54 #[.pointer (some ⟨b,0,none⟩),.int .i64 a] w fun r w'=>∃ g o c,r = .returned (.slice (some ⟨g,o,none⟩) (homeN n a).length c)∧Keep Non w w'∧Is w' (.slice (some ⟨g,o,none⟩) (homeN n a).length c) (homeN n a)∧A 4 g:=by
  have c3:=lg_3 h.blk
  have hn2:=h.small.1
  obtain ⟨g,vs,c,rfl,hl,hr,hi,hg,ht⟩:=h.proj
  have hcp:0 < chN n:=zgY hn
  obtain ⟨N,hN⟩:∃ N,N=chN n:=⟨_,rfl⟩
  have hle:N≤2:=by rw [hN];exact zeT hn2
  have hm:a % N < N:=Nat.mod_lt _ (by omega)
  obtain ⟨x,hx⟩:∃ x,vs[a % N]? = some x:=⟨_,List.getElem?_eq_getElem (by omega)⟩
  have hho:homeN n a=chnI n (a % N):=by unfold homeN;rw [← hN]
  rw [hho]
  have hxi:Is w x (chnI n (a % N)):=hi.2 (a % N) x _ hx (zgX (by omega))
  have hlen:=zdM (n:=n) (i:=a % N) (by omega)
  have htx:=ht x (List.mem_of_getElem? hx)
  clear h ht hho
  have hcell:w.cell? ⟨g,a % N,none⟩=some x:=by
    obtain ⟨a',c',e,hx'⟩:=hr
    injection e with e1 e2 e3
    obtain ⟨g',off,e4,hc⟩:=hx' (by intro e;rw [e] at hl;simp at hl;omega)
    rw [← e1] at e4
    injection e4 with e4
    injection e4 with e4 e5
    subst e4
    subst e5
    have:=hc _ x hx
    rwa [Nat.zero_add] at this
  obtain ⟨xa,xc,rfl,hxx⟩:=id hxi
  obtain ⟨xg,xo,rfl,_⟩:=hxx (by intro e;rw [List.map_eq_nil_iff] at e;rw [e] at hlen;simp at hlen)
  have htg:=htx xg rfl
  simp only [List.length_map] at hcell hxi
  generalize chnI n (a % N)=us at hcell hxi hlen ⊢
  have XI:Hid (∀ W,Keep Non w W→Is W (.slice (some ⟨xg,xo,none⟩) us.length xc) us):=zz0 (fun W k=>Rd.keepNon hxi k)
  have hcd:w.drew.cell? ⟨g,a % N,none⟩=some (.slice (some ⟨xg,xo,none⟩) us.length xc):=hcell
  have c3d:w.drew.cell? ⟨b,3,none⟩=some (.slice (some ⟨g,0,none⟩) (chN n) c):=c3
  rw [← hN] at c3d
  have hN0:(N:Int)≠0:=by omega
  have HTG:=zz0 htg
  clear hr hi hxx hxi hcell c3 hx htx htg hN hcp hl hlen
  go_enter Tryz.func54,Tryz.ntmps54
  go_wp2_with fail
  go_region
  all_goals go_wp2_with fail
  all_goals
    go_ret
    exact ⟨_,_,_,rfl,(Keep.refl _ _).drew,XI.out _ (Keep.refl _ _).drew,HTG.out⟩
theorem zed {F:Nat→Prop} {b n a:Nat} {L:Lg} (w:World) (h:LgAt F w b n L) (hn:0 < n) (ha:a≤1048575) :
    Calls Tryz.prog 54 #[.pointer (some ⟨b,0,none⟩),.int .i64 a] w fun r w'=>∃ g o c,r = .returned (.slice (some ⟨g,o,none⟩) (homeN n a).length c)∧Keep Non w w'∧Is w' (.slice (some ⟨g,o,none⟩) (homeN n a).length c) (homeN n a):=by
  obtain ⟨A,dps,sps,dv,sv,cv,q,h,hF⟩:=h
  refine (ziT w h hn ha).mono ?_
  rintro r w' ⟨g,o,c,e,k,i,_⟩
  exact ⟨g,o,c,e,k,i⟩
theorem zgw (ep n:Nat) (hn:n≤1048576):raiseE ep ep n=0:=by
  unfold raiseE asksE askE fitB
  rw [if_pos (by simp;omega),if_neg (by omega),if_neg (by omega)]
theorem zkX (ep nx n:Nat) (hn:n≤1048576):raiseN ep nx ep n=((max nx n:Nat):Int):=by
  unfold raiseN
  rw [if_pos (zgw ep n hn)]
  split <;> omega
theorem LgIn.own {A:Nat→Nat→Prop} {F:Nat→Prop} {w w':World} {b:Nat} {dps sps:List Nat} {dv sv cv:Value} {q n:Nat} {L:Lg} {e' nx':Nat} (h:LgIn A w b dps sps dv sv cv q n L) (hF:∀ i g,A i g→F g) (k:Keep (fun g=>g=b∨g=q) w w')
    (hb:w'.heap[b]? = some (LgB dv sv e' cv q)) (hq:w'.heap[q]? = some (SqB e' nx')) (hi:SqIn e' nx'):LgTo F w b n ⟨L.shs,e',nx',e'⟩ w':=by
  have ne:∀ i g,2≤i→A i g→¬ (g=b∨g=q):=by
    rintro i g hi x (rfl | rfl)
    · have:=h.apart _ _ _ x h.mem.1;omega
    · have:=h.apart _ _ _ x h.mem.2.1;omega
  refine ⟨k.mono (fun g _ x=>?_),F,Sub.refl _ _,A,dps,sps,dv,sv,cv,q,⟨hb,hq,hi,zac h.disks k (fun g x=>ne 2 g (by omega) (h.mem.2.2.1 g x)),zac h.shelves k (fun g x=>ne 3 g (by omega) (h.mem.2.2.2 g x)),h.len,h.proj.keep k (ne 4 · (by omega)),fun i s p dp a c d=>(h.sh i s p dp a c d).keep k (ne _ · (by omega)),h.mem,h.apart,fun i g x=>⟨(h.low i g x).1,k.lt (h.low i g x).2⟩,h.small⟩,hF⟩
  rcases x with rfl | rfl
  · exact hF _ _ h.mem.1
  · exact hF _ _ h.mem.2.1
theorem LgIn.sqTo {A:Nat→Nat→Prop} {F:Nat→Prop} {w w':World} {b:Nat} {dps sps:List Nat} {dv sv cv:Value} {q n:Nat} {L:Lg} {nx':Nat} (h:LgIn A w b dps sps dv sv cv q n L) (hF:∀ i g,A i g→F g) (k:Keep (One q) w w')
    (he:L.se=L.ep) (hq:w'.heap[q]? = some (SqB L.ep nx')) (hi:SqIn L.ep nx'):LgTo F w b n { L with next:=nx' } w':=by
  have e1:({ L with next:=nx' }:Lg)=⟨L.shs,L.ep,nx',L.ep⟩:=by rw [he]
  rw [e1]
  exact h.own hF (k.mono (fun g _ x=>.inr x)) (k.at h.blk (fun e=>by have e':b=q:=e;have:=h.apart 0 1 b h.mem.1 (e' ▸ h.mem.2.1);omega)) hq hi
theorem ze5 {F:Nat→Prop} {b n x:Nat} {L:Lg} (w:World) (h:LgAt F w b n L) (hse:L.se=L.ep) (hx:x≤1048576) :
    Calls Tryz.prog 127 #[.pointer (some ⟨b,0,none⟩),.int .i64 x] w fun r w'=>r = .returned .nilIface∧LgTo F w b n { L with next:=max L.next x } w':=by
  obtain ⟨A,dps,sps,dv,sv,cv,q,h,hF⟩:=h
  have c2:=lg_2 h.blk
  have c4:=lg_4 h.blk
  have c2d:w.drew.cell? ⟨b,2,none⟩=some (.int .i64 L.ep):=c2
  have c4d:w.drew.cell? ⟨b,4,none⟩=some (.pointer (some ⟨q,0,none⟩)):=c4
  have hd:=h.keep ((Keep.refl Non w).drew) (fun _ _ _ e=>e)
  have hsq:=hd.sq
  have hsi:=hd.sqin
  rw [hse] at hsq hsi
  have RS:=zkY q L.ep L.next L.ep x w.drew hsq hsi
  rw [zgw L.ep x hx,zkX L.ep L.next x hx,zaK] at RS
  have RS':=zz0 RS
  have FIN:=zz0 (fun w' (k:Keep (One q) w.drew w') (hq:w'.heap[q]? = some (SqB L.ep ((max L.next x:Nat):Int)))=>LgTo.pre (Keep.refl Non w).drew (hd.sqTo hF k hse hq (by have:=hsi;unfold SqIn at *;omega)))
  clear RS h hd c2 c4 hsq hsi
  go_enter Tryz.func127,Tryz.ntmps127
  go_wp2_with fail
  go_region_law (go_simp;go_at_call 187;refine RS'.out.mono ?_;rintro r w2 ⟨rfl,k,hq⟩;have K:=zz0 k;have HQ:=zz0 hq;clear k hq)
  all_goals go_wp2_with fail
  all_goals
    go_ret
    exact ⟨rfl,FIN.out _ K.out HQ.out⟩
theorem zee {F:Nat→Prop} {b n:Nat} {L:Lg} (w:World) (h:LgAt F w b n L) (hse:L.se=L.ep) :
    Calls Tryz.prog 65 #[.pointer (some ⟨b,0,none⟩)] w fun r w'=>r = .returned (.tuple #[.int .i64 L.next,.nilIface])∧Keep Non w w':=by
  obtain ⟨A,dps,sps,dv,sv,cv,q,h,hF⟩:=h
  have c2:=lg_2 h.blk
  have c4:=lg_4 h.blk
  have c2d:w.drew.cell? ⟨b,2,none⟩=some (.int .i64 L.ep):=c2
  have c4d:w.drew.cell? ⟨b,4,none⟩=some (.pointer (some ⟨q,0,none⟩)):=c4
  have hd:=h.keep ((Keep.refl Non w).drew) (fun _ _ _ e=>e)
  have hsq:=hd.sq
  rw [hse] at hsq
  have TL:=znk q L.ep L.next L.ep w.drew hsq
  have e0:askE L.ep L.ep=0:=by unfold askE;rw [if_neg (by omega),if_neg (by omega)]
  have e1:tailV L.ep L.next L.ep=L.next:=by unfold tailV;rw [if_pos e0]
  rw [e0,e1,zaK] at TL
  have TL':=zz0 TL
  clear TL h hd c2 c4 hsq
  go_enter Tryz.func65,Tryz.ntmps65
  go_wp2_with fail
  go_region_law (go_simp;go_at_call 129;refine TL'.out.mono ?_;rintro r w2 ⟨rfl,rfl⟩)
  all_goals go_wp2_with fail
  all_goals
    go_ret2
    exact ⟨rfl,(Keep.refl _ _).drew⟩
theorem zei (j:Int) (w:World):(binOp .neq 36 .nilIface (.iface 55 (.int .i64 j))).run Tryz.prog w = .ok (.bool true) w:=by
  have h:∀ d:Nat,(Op.equalIn (d+1) 36 .nilIface (.iface 55 (.int .i64 j))).run Tryz.prog w = .ok false w:=fun d=>by simp [Op.equalIn,run_underlying Tryz.underlying36]
  simp only [binOp]
  simp [Op.equal,Op.maxDepth,h 9999]
theorem zha {b u e a m c:Nat} {pa:Option Addr} (Q:World→Prop) (w:World)
    (DO0:∀ W,Keep Non w W→Calls Tryz.prog 185 #[.pointer (some ⟨b,0,none⟩),.int .i64 u,.agg #[.int .i64 3,.int .i64 e,.int .i64 a,.slice none 0 0]] W fun r w'=>(∃ n:Int,r = .returned (.tuple #[.int .i64 n,.nilIface]))∧Q w') :
    Calls Tryz.prog 126 #[.pointer (some ⟨b,0,none⟩),.int .i64 u,.int .i64 e,.int .i64 a,.agg #[.int .i64 2,.slice pa m c]] w fun r w'=>r = .returned .nilIface∧Q w':=by
  have e1:=zei 8
  have k1:Keep Non w ((w.alloc (ClB 2 (.slice pa m c))).alloc (ActB 3 e a (.slice none 0 0))):=((Keep.refl _ _).alloc _).alloc _
  have b1:=zae (zab w (ClB 2 (.slice pa m c))) (ActB 3 e a (.slice none 0 0))
  have k0:=cl0 b1
  have kA:=k1
  have DOA:=zz0 (DO0 _ kA)
  have e1':=e1
  clear kA k1 DO0
  dsimp only [ClB,ActB] at *
  go_enter Tryz.func126,Tryz.ntmps126
  go_wp2_with (go_at_call 185;refine DOA.out.mono ?_;rintro r w2 ⟨⟨nn,rfl⟩,t⟩;have T:=zz0 t;clear t)
  go_ret
  exact ⟨rfl,T.out⟩
theorem zg9 {b u e a m c:Nat} {pa:Option Addr} (Q:World→Prop) (w:World)
    (DO0:∀ W,Keep Non w W→Calls Tryz.prog 185 #[.pointer (some ⟨b,0,none⟩),.int .i64 u,.agg #[.int .i64 2,.int .i64 e,.int .i64 a,.slice pa m c]] W fun r w'=>(∃ n:Int,r = .returned (.tuple #[.int .i64 n,.nilIface]))∧Q w') :
    Calls Tryz.prog 126 #[.pointer (some ⟨b,0,none⟩),.int .i64 u,.int .i64 e,.int .i64 a,.agg #[.int .i64 1,.slice pa m c]] w fun r w'=>r = .returned .nilIface∧Q w':=by
  have e1:=zei 8
  have b1:=zae (zab w (ClB 1 (.slice pa m c))) (ActB 3 e a (.slice none 0 0))
  have k0:=cl0 b1
  have c1:=cl1 b1
  have kA:Keep Non w ((w.alloc (ClB 1 (.slice pa m c))).alloc (ActB 2 e a (.slice pa m c))).drew:=(((Keep.refl _ _).alloc _).alloc _).drew
  have c1d:((w.alloc (ClB 1 (.slice pa m c))).alloc (ActB 3 e a (.slice none 0 0))).drew.cell? ⟨w.heap.size,1,none⟩=some (.slice pa m c):=c1
  have b2:=zae (zab w (ClB 1 (.slice pa m c))) (ActB 2 e a (.slice none 0 0))
  have c1e:((w.alloc (ClB 1 (.slice pa m c))).alloc (ActB 2 e a (.slice none 0 0))).drew.cell? ⟨w.heap.size,1,none⟩=some (.slice pa m c):=cl1 b2
  have b3:=zae (zab w (ClB 1 (.slice pa m c))) (ActB 2 e a (.slice pa m c))
  have c0g:((w.alloc (ClB 1 (.slice pa m c))).alloc (ActB 2 e a (.slice pa m c))).drew.cell? ⟨w.heap.size,0,none⟩=some (.int .i64 1):=cl0 b3
  clear b1 b2 b3
  have DOA:=zz0 (DO0 _ kA)
  have e1':=e1
  clear kA DO0
  dsimp only [ClB,ActB] at *
  go_enter Tryz.func126,Tryz.ntmps126
  go_wp2_with fail
  go_region
  all_goals go_wp2_with (go_at_call 185;refine DOA.out.mono ?_;rintro r w2 ⟨⟨nn,rfl⟩,t⟩;have T:=zz0 t;clear t)
  all_goals
    go_ret
    exact ⟨rfl,T.out⟩
theorem ze4 {F:Nat→Prop} {b n u e a m c:Nat} {pa:Option Addr} {L:Lg} {s s2:Sh} (R:(Nat→Prop)→World→Prop) (w:World) (h:LgAt F w b n L) (hs:L.shs[u]? = some s) (hlay:Lay w)
    (ha:Acts s s2 (.agg #[.int .i64 3,.int .i64 e,.int .i64 a,.slice none 0 0]) R) (hR:∀ w' F',Keep Non w w'→(∀ g,F' g→F g)→R F' w') :
    Calls Tryz.prog 126 #[.pointer (some ⟨b,0,none⟩),.int .i64 u,.int .i64 e,.int .i64 a,.agg #[.int .i64 2,.slice pa m c]] w fun r w'=>r = .returned .nilIface∧LgTo F w b n { L with shs:=L.shs.set u s2 } w' :=
  zha _ w (fun W k=>(zec 3 e a 0 0 none R W (h.keepNon k) hs (hlay.keepNon k) ha (fun w' F' k' hF=>hR w' F' (k.trans1 k') hF)).mono (fun r w' x=>⟨x.1,LgTo.pre k x.2⟩))
theorem ziV {F:Nat→Prop} {b n u e a m c:Nat} {pa:Option Addr} {L:Lg} {s s2:Sh} (R:(Nat→Prop)→World→Prop) (w:World) (h:LgAt F w b n L) (hs:L.shs[u]? = some s) (hlay:Lay w)
    (ha:Acts s s2 (.agg #[.int .i64 2,.int .i64 e,.int .i64 a,.slice pa m c]) R) (hR:∀ w' F',Keep Non w w'→(∀ g,F' g→F g)→R F' w') :
    Calls Tryz.prog 126 #[.pointer (some ⟨b,0,none⟩),.int .i64 u,.int .i64 e,.int .i64 a,.agg #[.int .i64 1,.slice pa m c]] w fun r w'=>r = .returned .nilIface∧LgTo F w b n { L with shs:=L.shs.set u s2 } w' :=
  zg9 _ w (fun W k=>(zec 2 e a m c pa R W (h.keepNon k) hs (hlay.keepNon k) ha (fun w' F' k' hF=>hR w' F' (k.trans1 k') hF)).mono (fun r w' x=>⟨x.1,LgTo.pre k x.2⟩))
theorem LgAt.low {F:Nat→Prop} {w:World} {b n:Nat} {L:Lg} (h:LgAt F w b n L):LgAt (fun g=>F g∧g < w.heap.size) w b n L:=by
  obtain ⟨A,dps,sps,dv,sv,cv,q,h,hF⟩:=h
  exact ⟨A,dps,sps,dv,sv,cv,q,h,fun i g e=>⟨hF i g e,(h.low i g e).2⟩⟩
theorem LgTo.ofLow {F:Nat→Prop} {w w':World} {b n:Nat} {L:Lg} {m:Nat} (h:LgTo (fun g=>F g∧g < m) w b n L w'):LgTo F w b n L w':=by
  obtain ⟨k,F',s,h⟩:=h
  exact ⟨k.mono (fun _ _ x=>x.1),F',fun g x=>by rcases s g x with y | y;exact .inl y.1;exact .inr y,h⟩
def PbB (b:Nat):Obj:=.cells #[.pointer (some ⟨b,0,none⟩)] 27 (0,0)
theorem pb_0 {w:World} {g b:Nat} (h:w.heap[g]? = some (PbB b)):w.cell? ⟨g,0,none⟩=some (.pointer (some ⟨b,0,none⟩)):=by simp [World.cell?,h,PbB]
def InB (x:Int):Obj:=.cells #[.int .i64 x] 3 (0,0)
theorem in_0 {w:World} {g:Nat} {x:Int} (h:w.heap[g]? = some (InB x)):w.cell? ⟨g,0,none⟩=some (.int .i64 x):=by simp [World.cell?,h,InB]
theorem zgK (args:Array Value) (w:World):(callFunc 125 args).run Tryz.prog w = .ok (.enter 125 args) w:=zbH Tryz.func125 (by kernel_rfl) rfl args w
theorem zgj (u g h j b a e:Nat) (k:Int) (xa:Option Addr) (m xc:Nat) (w:World) (Q:World→Prop) (c2:w.cell? ⟨b,2,none⟩=some (.int .i64 e)) (g0:w.cell? ⟨g,0,none⟩=some (.pointer (some ⟨b,0,none⟩))) (h0:w.cell? ⟨h,0,none⟩=some (.int .i64 a)) (j0:w.cell? ⟨j,0,none⟩=some (.int .i64 k)) (j1:w.cell? ⟨j,1,none⟩=some (.slice xa m xc))
    (hp:Calls Tryz.prog 126 #[.pointer (some ⟨b,0,none⟩),.int .i64 u,.int .i64 e,.int .i64 a,.agg #[.int .i64 k,.slice xa m xc]] w.drew fun r w'=>r = .returned .nilIface∧Q w') :
    Calls Tryz.prog 125 #[.int .i64 u,.pointer (some ⟨g,0,none⟩),.pointer (some ⟨h,0,none⟩),.pointer (some ⟨j,0,none⟩)] w fun r w'=>r = .returned .nilIface∧Q w':=by
  have HP:=zz0 hp
  have c2d:w.drew.cell? ⟨b,2,none⟩=some (.int .i64 e):=c2
  have g0d:w.drew.cell? ⟨g,0,none⟩=some (.pointer (some ⟨b,0,none⟩)):=g0
  have h0d:w.drew.cell? ⟨h,0,none⟩=some (.int .i64 a):=h0
  have j0d:w.drew.cell? ⟨j,0,none⟩=some (.int .i64 k):=j0
  have j1d:w.drew.cell? ⟨j,1,none⟩=some (.slice xa m xc):=j1
  clear hp c2 g0 h0 j0 j1
  go_enter Tryz.func125,Tryz.ntmps125
  go_wp2_with fail
  go_region_law (go_simp;go_at_call 126;refine HP.out.mono ?_;rintro r w2 ⟨rfl,hq⟩;have HQ:=zz0 hq;clear hq)
  all_goals go_wp2_with fail
  all_goals
    go_ret
    exact ⟨rfl,HQ.out⟩
theorem zhb {F0:Nat→Prop} {b n a u m c xc:Nat} {k:Int} {pa:Option Addr} {xa:Option Addr} {L L2:Lg} (w:World) (h0:LgAt F0 w b n L) (he:L2.ep=L.ep) (hse:L2.se=L2.ep) (hu:Is w (.slice pa 1 c) [u]) (ha:a+1≤1048576)
    (hp:∀ W F,Keep Non w W→(∀ g,F g→F0 g∧g < w.heap.size)→LgAt F W b n L→Calls Tryz.prog 126 #[.pointer (some ⟨b,0,none⟩),.int .i64 u,.int .i64 L.ep,.int .i64 a,.agg #[.int .i64 k,.slice xa m xc]] W fun r w'=>r = .returned .nilIface∧LgTo F W b n L2 w') :
    Calls Tryz.prog 63 #[.pointer (some ⟨b,0,none⟩),.slice pa 1 c,.int .i64 a,.agg #[.int .i64 k,.slice xa m xc]] w fun r w'=>r = .returned .nilIface∧LgTo F0 w b n { L2 with next:=max L2.next (a+1) } w':=by
  have h:=h0.low
  obtain ⟨F,hFF⟩:∃ F,F=fun g=>F0 g∧g < w.heap.size:=⟨_,rfl⟩
  rw [← hFF] at h
  have kA:Keep Non w (((w.alloc (PbB b)).alloc (InB a)).alloc (ClB k (.slice xa m xc))):=(((Keep.refl _ _).alloc _).alloc _).alloc _
  have b0:(((w.alloc (PbB b)).alloc (InB a)).alloc (ClB k (.slice xa m xc))).heap[w.heap.size]? = some (PbB b):=zae (zae (zab _ _) _) _
  have b1:(((w.alloc (PbB b)).alloc (InB a)).alloc (ClB k (.slice xa m xc))).heap[w.heap.size+1]? = some (InB a):=zae (zaD _ _ _) _
  have b2:(((w.alloc (PbB b)).alloc (InB a)).alloc (ClB k (.slice xa m xc))).heap[w.heap.size+1+1]? = some (ClB k (.slice xa m xc)):=by
    have:=zaD (w.alloc (PbB b)) (InB a) (ClB k (.slice xa m xc))
    rwa [World.size_alloc] at this
  generalize hwA:((w.alloc (PbB b)).alloc (InB a)).alloc (ClB k (.slice xa m xc))=wA at kA b0 b1 b2
  have hA:=h.keepNon kA
  have hlowF:∀ g,F g→g < w.heap.size:=fun g x=>by rw [hFF] at x;exact x.2
  have c2A:wA.cell? ⟨b,2,none⟩=some (.int .i64 L.ep):=by
    obtain ⟨A,dps,sps,dv,sv,cv,q,h,hF⟩:=hA
    exact lg_2 h.blk
  have ALL:=zz0 (zjD 125 (.pointer (some ⟨w.heap.size,0,none⟩)) (.pointer (some ⟨w.heap.size+1,0,none⟩)) (.pointer (some ⟨w.heap.size+1+1,0,none⟩)) pa c [u]
    (fun j W=>(j=0→W=wA)∧(j=1→LgTo F wA b n L2 W)) wA zgK (fun j W hj hI=>by
      obtain rfl:j=0:=by simp at hj;omega
      rw [hI.1 rfl]
      exact hu.keepNon kA) ⟨fun _=>rfl,fun x=>absurd x (by omega)⟩ (by simp) (fun j u' W hj hI=>by
      obtain rfl:j=0:=by
        rcases j with _ | j
        · rfl
        · simp at hj
      obtain rfl:u=u':=by simpa using hj
      rw [hI.1 rfl]
      refine (zgj u w.heap.size (w.heap.size+1) (w.heap.size+1+1) b a L.ep k xa m xc wA (fun w'=>LgTo F wA b n L2 w') c2A (pb_0 b0) (in_0 b1) (cl0 b2) (cl1 b2) ((hp wA.drew F (kA.drew) (fun g x=>by rw [hFF] at x;exact x) (hA.keepNon (Keep.refl _ _).drew)).mono (fun r w' ⟨x,y⟩=>⟨x,LgTo.pre (Keep.refl _ _).drew y⟩))).mono (fun r w' ⟨x,y⟩=>⟨x,fun e=>absurd e (by omega),fun _=>y⟩)))
  have AFT:Hid (∀ W,LgTo F wA b n L2 W→W.cell? ⟨w.heap.size,0,none⟩=some (.pointer (some ⟨b,0,none⟩))∧W.cell? ⟨w.heap.size+1,0,none⟩=some (.int .i64 a) ∧
      Calls Tryz.prog 127 #[.pointer (some ⟨b,0,none⟩),.int .i64 ((a+1:Nat):Int)] W fun r w'=>r = .returned .nilIface∧LgTo F0 w b n { L2 with next:=max L2.next (a+1) } w'):=zz0 (by
    rintro W ⟨k,F',s,hL⟩
    refine ⟨pb_0 (k.at b0 (fun x=>by have:=hlowF _ x;omega)),in_0 (k.at b1 (fun x=>by have:=hlowF _ x;omega)),(ze5 W hL hse (by omega)).mono ?_⟩
    rintro r w' ⟨x,y⟩
    refine ⟨x,?_⟩
    have t:=LgTo.pre kA (LgTo.trans s k y)
    rw [hFF] at t
    exact t.ofLow)
  clear h0 h hA b0 b1 b2 c2A hu hp hlowF
  subst hwA
  dsimp only [PbB,InB,ClB,List.length_singleton] at ALL AFT
  have e1:((a+1:Nat):Int)=(a:Int)+1:=by omega
  rw [e1] at AFT
  go_enter Tryz.func63,Tryz.ntmps63
  go_wp2_with (first
    | (go_at_call 124;refine ALL.out.mono ?_;rintro r w2 ⟨rfl,_,t⟩;obtain ⟨p0,p1,rc⟩:=AFT.out w2 (t rfl);have RC:=zz0 rc;clear t rc)
    | (go_at_call 127;refine RC.out.mono ?_;rintro r w3 ⟨rfl,t3⟩;have T3:=zz0 t3;clear t3))
  go_ret
  exact ⟨rfl,T3.out⟩
end Go.Proofs.YtnboipdpccnedaaGreatDoor
