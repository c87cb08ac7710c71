/- vault.Add: walked. · Projections of one chain a unit: Units, Copy, Check: walked. · A sequencer as plain numbers: an epoch, the next address; what eac -/
import Derived.Test.YtnboipdpccnedaaGreatDoorQ25
import Derived.Test.YtnboipdpccnedaaGreatDoorQ27
set_option linter.unusedVariables false
set_option maxRecDepth 100000
set_option maxHeartbeats 16000000
namespace Go.Proofs.YtnboipdpccnedaaGreatDoor
open Go.RowKit
theorem zhu {F:Nat→Prop} {w w2 w3 w4:World} {q p b:Nat} {X:Dk} (k2:Keep Non w w2) (t:StoreTo F w2 q p X w3) (k:Keep (One b) w3 w4) (hb:w.heap.size≤b) (hb2:b < w2.heap.size) (hF:∀ g,F g→g < w.heap.size):StoreTo F w q p X w4:=by
  obtain ⟨k3,F',s,d⟩:=t
  refine ⟨(k2.ofNon.trans1 k3).trans k (fun _ _ e=>e) (fun g hg e=>by have e':g=b:=e;omega),F',?_,d.keep k (fun g hg e=>?_)⟩
  · intro g e
    rcases s g e with e | e
    · exact .inl e
    · exact .inr (by have:=k2.size;omega)
  · have e':g=b:=e
    rcases s g hg with h | h
    · have:=hF g h
      omega
    · omega
section
attribute [local go_sem ↓] hV84 hV106 hV87 hW84 hW106 hW87 hB106 hB87
theorem zpx (F:Nat→Prop) (b q p num place f:Nat) (la:Option Addr) (lc:Nat) (v:Value) (cl:List Cl) (X:Dk) (a k fu:Nat) (w:World) (hb:w.heap[b]? = some (VtB q (.slice la num lc))) (d:StoreAt F w q p X) (hl:X.lim a k fu) (ha:a≤505) (hk:k≤990) (hf:fu≤400000000) (hF:∀ g,F g→g < w.heap.size)
    (hn:num < 100) (hpl:place < 100) (hcs:CsAt w v cl) (hne:cl≠[]) (h64:cl.length≤64) (hok:∀ x ∈ cl,okCl x) (hfl:f+cl.length≤1048576) (hbl:(vput f ++ runB cl).length≤65536) (hs:(segB f cl).length≤65536) (hK:Kon w) (hFr:Frs w) (hbF:¬ F b)
    (hcode:(X.sput (labelN num place) (segB f cl)).1=0) :
    Calls Tryz.prog 196 #[.pointer (some ⟨b,0,none⟩),.int .i64 num,.int .i64 place,.agg #[.int .i64 f,v]] w fun e w'=>e = .returned (.tuple #[ptV (ptOf f cl),.nilIface])∧StoreTo F w q p (X.sput (labelN num place) (segB f cl)).2 w':=by
  have OF:=zz0 (fun w1 (kk:Keep Non w w1)=>zpZ f v cl w1 (hcs.keepNon kk) hne h64 hok hfl hbl (by omega) (hK.keep kk) (hFr.keep kk))
  have SP:Hid (∀ w2 v2,Keep Non w w2→Bs w2 v2 (segB f cl)→(∀ g,v2.ownBlock=some g→w.heap.size≤g)→Calls Tryz.prog 14 #[.pointer (some ⟨q,0,none⟩),.string ⟨(labelN num place).toArray⟩,v2] w2 fun e w'=>e = .returned .nilIface∧StoreTo F w2 q p (X.sput (labelN num place) (segB f cl)).2 w'):=zz0 (fun w2 v2 k2 hv hg=>by
    refine (zcX F q p v2 (labelN num place) (segB f cl) X a k fu w2 (d.keep k2 (fun _ _ e=>e)) hl ha hk hf (zaI num place hn hpl) hv hs (fun g e e2=>by have:=hg g e;have:=hF g e2;omega)).mono ?_
    rintro e w' ⟨rfl,t⟩
    rw [zbe hcode]
    exact ⟨rfl,t⟩)
  have LB:Hid (∀ W,Calls Tryz.prog 104 #[.int .i64 num,.int .i64 place] W fun e w'=>e = .returned (.string ⟨(labelN num place).toArray⟩)∧Keep Non W w'):=zz0 (fun W=>zcg num place W hn hpl)
  obtain ⟨sa,sc,rfl,_⟩:=hcs
  have HB:=zz0 hb
  have HF:=zz0 hF
  have HBF:=zz0 hbF
  have kA:Keep Non w ((w.alloc (.cells #[.int .i64 f,.slice sa cl.length sc] 109)).alloc (.cells zPt 106)):=((Keep.refl _ _).alloc _).alloc _
  have c1:=vt_1 (nonAt kA hb)
  have ZA:=zz0 (zaA w (.cells #[.int .i64 f,.slice sa cl.length sc] 109 (0,0)) (.cells zPt 106 (0,0)))
  have OFA:=zz0 (OF.out _ kA)
  have KA:=zz0 kA
  dsimp only [zPt] at c1 OFA
  have hnp:¬ (place:Int) < 0:=by omega
  have hnp2:¬ (1023:Int) < (place:Int):=by omega
  clear d hl hF hK hFr hok hne hbl hcode hb kA
  go_enter Tryz.func196,Tryz.ntmps196
  go_wp2_with (go_at_call 265;refine OFA.out.mono ?_;rintro e w1 ⟨v1,rfl,k1,o1⟩;obtain ⟨a1,c1',rfl,_,_⟩:=zaa o1;have K1:Hid (Keep Non w w1):=zz0 (KA.out.trans1 k1);have z1:w1.heap[w.heap.size+1]? = some (.cells zPt 106 (0,0)):=nonAt k1 ZA.out;have Z1:=zz0 z1;have c0:=vt_0 (nonAt K1.out HB.out);have hs0:=zas w1 (ptOf f cl) (zal _);have c0b:=vt_0 (nonAt ((Keep.refl Non w1).alloc (PtB (ptOf f cl))) (nonAt K1.out HB.out));dsimp only [zPt,PtB] at hs0 c0b;have S1:Hid (w.heap.size+2≤w1.heap.size):=zz0 (by have:=k1.size;simpa using this);have O1:Hid (w1.ownsRow w.heap.size 5 1 (.slice a1 (segB f cl).length c1') (segB f cl).length ((segB f cl).map bv)):=zz0 (zad o1 (by simp;omega));clear k1 o1 z1)
  go_region_law (go_simp;first
    | (go_at_call 104;refine (LB.out _).mono ?_;rintro e w2 ⟨rfl,k2⟩;have k2':Keep Non w1 w2:=(((Keep.refl Non w1).alloc (PtB (ptOf f cl))).drew).trans1 k2;have P2:=zz0 (nonAt k2 (by exact zab w1 (PtB (ptOf f cl))));have d0:=vt_0 (nonAt (K1.out.trans1 k2') HB.out);have K2:=zz0 (K1.out.trans1 k2');have S2:Hid (w1.heap.size≤w2.heap.size):=zz0 k2'.size;have Z2:=zz0 (nonAt k2' Z1.out);have SPW:=zz0 (SP.out w2 (.slice a1 (segB f cl).length c1') K2.out (Rd.keepNon (Rd.ofOwns O1.out) k2') (fun g e=>(O1.out.lt g e).1));clear k2 k2')
    | (go_at_call 14;refine SPW.out.mono ?_;rintro e w3 ⟨rfl,t3⟩;have k3:=t3.1;have z3:w3.heap[w.heap.size+1]? = some (.cells zPt 106 (0,0)):=k3.at Z2.out (fun e=>by have:=HF.out _ e;omega);have hst:=zcq w3 (w.heap.size+1) (ptOf f cl) zPt (zal _) rfl z3;have HL:=zz0 (zaG (p:=ptOf f cl) (setRow_heap w3 (w.heap.size+1) _ (ptC (ptOf f cl)).toArray _ _ z3) (zal _));have p3:w3.heap[w1.heap.size]? = some (PtB (ptOf f cl)):=k3.at P2.out (fun e=>by have:=HF.out _ e;have:=S1.out;omega);have hlp:=zaG p3 (zal _);have T3:=zz0 t3;clear t3 k3 z3 p3))
  all_goals go_wp2_with fail
  all_goals
    have hlv:=HL.out
    unfold holdV at hlv
    refine bodyPost_ret (v:=.tuple #[ptV (ptOf f cl),.nilIface]) (by simp [results,Tryz.results196,asAddr,hlv]) rfl ?_
    have k4:Keep (One (w.heap.size+1)) w3 (w3.setRow (w.heap.size+1) (ptC (ptOf f cl)).toArray):=(Keep.refl (One (w.heap.size+1)) _).setRow (.inl (zar _)) _
    have s1:=S1.out
    have h12:=S2.out
    exact ⟨rfl,zhu K2.out T3.out k4 (by omega) (by omega) HF.out⟩
end
end Go.Proofs.YtnboipdpccnedaaGreatDoor
namespace Go.Proofs.YtnboipdpccnedaaGreatDoor
open Go.RowKit Go.Sort
theorem sort1:([0]:List Int).mergeSort (fun x y=>decide (x≤y)) = [0]:=by simp
theorem sort2:([0,1]:List Int).mergeSort (fun x y=>decide (x≤y)) = [0,1]:=List.mergeSort_of_pairwise (by decide)
theorem sort3:([0,1,2]:List Int).mergeSort (fun x y=>decide (x≤y)) = [0,1,2]:=List.mergeSort_of_pairwise (by decide)
theorem comp3:Lib.compact ([0,1,2]:List Int) = [0,1,2]:=by decide
theorem comp1:Lib.compact ([0]:List Int) = [0]:=by decide
theorem comp2:Lib.compact ([0,1]:List Int) = [0,1]:=by decide
def rgI (n:Nat):List Int:=(List.range n).map (fun (i:Nat)=>(i:Int))
theorem zoT (n:Nat) (h1:1≤n) (h2:n≤3):(rgI n).mergeSort (fun x y=>decide (x≤y))=rgI n:=by
  obtain rfl | rfl | rfl:n=1∨n=2∨n=3:=by omega
  · exact sort1
  · exact sort2
  · exact sort3
theorem zoS (n:Nat) (h1:1≤n) (h2:n≤3):Lib.compact (rgI n)=rgI n:=by
  obtain rfl | rfl | rfl:n=1∨n=2∨n=3:=by omega
  · exact comp1
  · exact comp2
  · exact comp3
theorem zgz (n:Nat):(rgI n).length=n:=by simp [rgI]
theorem zlp {w:World} {g off n c:Nat} (h1:1≤n) (h2:n≤3) (hH:Holds (Value.int .i64) w g off (rgI n).toArray) (hg:g < w.heap.size) :
    Calls Tryz.prog 116 #[.slice (some ⟨g,off,none⟩) n c] w fun e w'=>e = .returned (.tuple #[])∧Keep Non w w':=by
  have h:=Tryz.slices_Sort_int g off c (rgI n) w hH hg (by rw [zgz];omega)
  rw [zgz] at h
  refine h.mono ?_
  rintro e w' ⟨rfl,k,os,rfl⟩
  rw [zoT n h1 h2,putRow_ahead,putRow_self _ _ _ _ _ hH]
  exact ⟨rfl,Keep.ofBelow (Lib.below_grow _ _ (Nat.le_refl _) k os)⟩
theorem zjL {w:World} {g off n c:Nat} (h1:1≤n) (h2:n≤3) (hc:n≤c) (hH:Holds (Value.int .i64) w g off (rgI n).toArray) :
    Calls Tryz.prog 117 #[.slice (some ⟨g,off,none⟩) n c] w fun e w'=>e = .returned (.slice (some ⟨g,off,none⟩) n c)∧Keep Non w w':=by
  have h:=Tryz.slices_Compact_int g off c (rgI n) w hH (by rw [zgz];omega) (by rw [zgz];omega)
  rw [zoS n h1 h2,zgz] at h
  refine h.mono ?_
  rintro e w' ⟨rfl,k,rfl⟩
  rw [Nat.sub_self,List.replicate_zero,List.append_nil,putRow_ahead,putRow_self _ _ _ _ _ hH]
  exact ⟨rfl,(Keep.refl Non w).drewN k⟩
def chainsN (n:Nat):List (List Nat):=if n=3 then [[0],[1,2]] else (List.range n).map (fun i=>[i])
def chN (n:Nat):Nat:=if n=3 then 2 else n
theorem zbF (n:Nat):(chainsN n).flatten=List.range n:=by
  unfold chainsN
  split
  · rename_i h
    subst h
    rfl
  · rename_i h
    clear h
    induction n with
    | zero=>rfl
    | succ n ih=>rw [List.range_succ,List.map_append,List.flatten_append,ih];rfl
theorem zeU (n:Nat):(chainsN n).length=chN n:=by
  unfold chainsN chN
  split <;> simp
theorem zeT {n:Nat} (h:n≤3):chN n≤2:=by
  unfold chN
  split <;> omega
theorem zgY {n:Nat} (h:1≤n):1≤chN n:=by
  unfold chN
  split <;> omega
def chnI (n i:Nat):List Nat:=(chainsN n).getD i []
theorem zgX {n i:Nat} (h:i < chN n):(chainsN n)[i]? = some (chnI n i):=by
  unfold chnI
  rw [List.getD_eq_getElem?_getD,List.getElem?_eq_getElem (by rw [zeU];exact h)]
  rfl
theorem zdM {n i:Nat} (h:i < chN n):1≤(chnI n i).length∧(chnI n i).length≤2:=by
  unfold chnI chainsN chN at *
  split
  · rename_i e
    rw [if_pos e] at h
    obtain rfl | rfl:i=0∨i=1:=by omega
    · exact ⟨by decide,by decide⟩
    · exact ⟨by decide,by decide⟩
  · rename_i e
    rw [if_neg e] at h
    simp [List.getD_eq_getElem?_getD,h]
def PrAt (T:Nat→Prop) (w:World) (cv:Value) (n:Nat):Prop:=∃ g vs c,cv = .slice (some ⟨g,0,none⟩) (chN n) c∧vs.length=chN n∧Rd w cv vs∧Iss w vs (chainsN n)∧T g∧∀ v ∈ vs,∀ k,v.ownBlock=some k→T k
theorem PrAt.keep {S T:Nat→Prop} {w w':World} {cv:Value} {n:Nat} (h:PrAt T w cv n) (k:Keep S w w') (hn:∀ g,T g→¬ S g):PrAt T w' cv n:=by
  obtain ⟨g,vs,c,rfl,hl,hr,hi,hg,ht⟩:=h
  exact ⟨g,vs,c,rfl,hl,hr.keep k (fun j e=>hn j (by injection e with e;rw [← e];exact hg)),⟨hi.1,fun i u l hu hl=>(hi.2 i u l hu hl).keep k (fun j e=>hn j (ht u (List.mem_of_getElem? hu) j e))⟩,hg,ht⟩
theorem PrAt.keepNon {T:Nat→Prop} {w w':World} {cv:Value} {n:Nat} (h:PrAt T w cv n) (k:Keep Non w w'):PrAt T w' cv n:=h.keep k (fun _ _ e=>e)
theorem zmn {w:World} {b n:Nat} {v:Value} {l:List Nat} (o:w.ownsRow b 3 1 v n (l.map iv)) (hl:l.length=n) (hn:0 < n):∃ g c,v = .slice (some ⟨g,0,none⟩) n c∧n≤c∧g < w.heap.size∧b≤g∧Holds (Value.int .i64) w g 0 (l.map (fun (i:Nat)=>(i:Int))).toArray:=by
  obtain ⟨g,c,rfl,hc,hb,hg⟩:=zbO o hn
  refine ⟨g,c,rfl,hc,hg,hb,?_⟩
  rcases o.2 with ⟨h,_⟩ | ⟨g',cap,cur,e,_,hgb,_,_,_,htake⟩
  · cases h
  · injection e with e1 e2 e3
    injection e1 with e1
    injection e1 with e1
    subst e1
    intro j hj
    simp only [List.size_toArray,List.length_map] at hj
    have hx:=congrArg (fun (x:List Value)=>x[j]?) htake
    have hj1:j < (l.map iv).length:=by rw [List.length_map];exact hj
    constructor
    · rw [Nat.zero_add,World.cell?,hgb]
      simp only [List.getElem?_take,List.getElem?_map] at hx
      split at hx
      · rw [Array.getElem?_toList] at hx
        simp only [hx]
        simp [hj,iv]
      · rw [List.getElem?_eq_getElem hj] at hx
        cases hx
    · simp [World.frozen?,hgb]
theorem ziQ {w w':World} {g off:Nat} {d:Array Int} (k:Keep Non w w') (h:Holds (Value.int .i64) w g off d) (hg:g < w.heap.size):Holds (Value.int .i64) w' g off d:=fun j hj=>by
  obtain ⟨a,b⟩:=h j hj
  have e:=k.block g hg (fun x=>x)
  unfold World.cell? World.frozen? at *
  rw [e]
  exact ⟨a,b⟩
theorem zb6 (T:Nat→Prop) (e n:Nat) (cv:Value) (w:World) (h:PrAt T w cv n) (h1:1≤n) (h2:n≤3) :
    Calls Tryz.prog 57 #[.agg #[.int .i64 e,cv]] w fun r w'=>∃ g c,r = .returned (.slice (some ⟨g,0,none⟩) n c)∧Keep Non w w'∧w.heap.size≤g∧Is w' (.slice (some ⟨g,0,none⟩) n c) (List.range n):=by
  obtain ⟨g,vs,c,rfl,hl,hr,hi,hg,ht⟩:=h
  have CC:=zz0 (fun W (k:Keep Non w W)=>zdS g vs (chainsN n) c W (by rw [hl];exact hr.keepNon k) ⟨hi.1,fun i u l hu hl=>(hi.2 i u l hu hl).keepNon k⟩ (by rw [zbF];simp;omega) (by have:=zeT h2;omega))
  rw [hl,zbF] at CC
  clear hr hi hl
  go_enter Tryz.func57,Tryz.ntmps57
  go_wp2_with (first
    | (go_at_call 112;refine (CC.out _ ((Keep.refl _ _).alloc _)).mono ?_;rintro r w1 ⟨v1,rfl,k1,o1⟩;obtain ⟨g1,c1,rfl,hc1,hg1,hb1,H1⟩:=zmn o1 rfl (by simp;omega);rw [List.length_range] at *;have K1:=zz0 (((Keep.refl Non w).alloc _).trans1 k1);have O1:=zz0 o1;have HH:=zz0 H1;clear k1 o1 H1)
    | (go_at_call 116;refine (zlp h1 h2 HH.out hg1).mono ?_;rintro r w2 ⟨rfl,k2⟩;have K2:=zz0 (K1.out.trans1 k2);have HH2:=zz0 (ziQ k2 HH.out hg1);have I2:=zz0 ((Rd.ofOwns O1.out).keepNon k2);clear k2)
    | (go_at_call 117;refine (zjL h1 h2 hc1 HH2.out).mono ?_;rintro r w3 ⟨rfl,k3⟩;have K3:=zz0 k3;clear k3))
  go_ret
  exact ⟨g1,c1,rfl,K2.out.trans1 K3.out,by simp at hb1;omega,I2.out.keepNon K3.out⟩
end Go.Proofs.YtnboipdpccnedaaGreatDoor
namespace Go.Proofs.YtnboipdpccnedaaGreatDoor
def askE (ep x:Int):Int:=if x < ep then 6 else if ep < x then 7 else 0
def fitB (lo hi n:Int):Bool:=decide (lo≤n∧n≤hi)
def asksE (ep x:Int) (fits:Bool):Int:=if fits then askE ep x else 1
def raiseE (ep x n:Int):Int:=asksE ep x (fitB 0 1048576 n)
def raiseN (ep nx x n:Int):Int:=if raiseE ep x n=0 then (if nx < n then n else nx) else nx
def setE (ep x n:Int):Int:=if fitB 0 1099511627776 x && fitB 0 1048576 n then (if x≤ep then 6 else 0) else 1
def setP (ep x n:Int):Int:=if setE ep x n=0 then x else ep
def setN (ep nx x n:Int):Int:=if setE ep x n=0 then n else nx
def tailV (ep nx x:Int):Int:=if askE ep x=0 then nx else 0
def SqIn (ep nx:Int):Prop:=0≤ep∧ep≤1099511627776∧0≤nx∧nx≤1048576
theorem zke {lo hi n:Int} (h:fitB lo hi n=true):lo≤n∧n≤hi:=of_decide_eq_true h
theorem zok {lo hi n:Int} (h:lo≤n) (h':n≤hi):fitB lo hi n=true:=decide_eq_true ⟨h,h'⟩
theorem zkd {lo hi n:Int} (h:n < lo∨hi < n):fitB lo hi n=false:=decide_eq_false (by omega)
end Go.Proofs.YtnboipdpccnedaaGreatDoor
namespace Go.Proofs.YtnboipdpccnedaaGreatDoor
open Go.RowKit
def PrB (e:Nat) (cv:Value):Obj:=.cells #[.int .i64 e,cv] 120 (0,0)
section
variable {w : World} {b e : Nat} {cv : Value}
theorem pr_0 (h:w.heap[b]? = some (PrB e cv)):w.cell? ⟨b,0,none⟩=some (.int .i64 e):=by simp [World.cell?,h,PrB]
theorem pr_1 (h:w.heap[b]? = some (PrB e cv)):w.cell? ⟨b,1,none⟩=some cv:=by simp [World.cell?,h,PrB]
theorem pr_f (h:w.heap[b]? = some (PrB e cv)) (i:Nat):w.frozen? ⟨b,i,none⟩=false:=by simp [World.frozen?,h,PrB]
theorem zfL (h:w.heap[b]? = some (PrB e cv)) (k:Nat):(w.setCell ⟨b,0,none⟩ (.int .i64 k)).heap[b]? = some (PrB k cv):=zaf h 0 _
theorem zem (h:w.heap[b]? = some (PrB e cv)) (v:Value):(w.setCell ⟨b,1,none⟩ v).heap[b]? = some (PrB e v):=zaf h 1 _
end
theorem infoSlI:(Tryz.prog.info? 23).map (fun i=>(i.zero,i.size,i.bytes))=some (some (.slice none 0 0),1,24):=by kernel_rfl
def OutI (n B:Nat) (w:World) (ov:Value) (j:Nat):Prop:=∃ us:List Value,w.ownsRow B 23 1 ov j us∧us.length=j∧(∀ u ∈ us,u.oneCell'=true)∧∀ (i:Nat) u,us[i]? = some u→Is w u (chnI n i)∧∀ k,u.ownBlock=some k→B≤k∧k < w.heap.size∧ov.ownBlock≠some k
theorem zmJ {n B j g2 c2 m:Nat} {wr w2 w3:World} {oa:Option Addr} {oc:Nat} {v3:Value} {us:List Value} (ho:wr.ownsRow B 23 1 (.slice oa j oc) j us) (hl:us.length=j) (h1:∀ u ∈ us,u.oneCell'=true) (hu:∀ (i:Nat) u,us[i]? = some u→Is wr u (chnI n i)∧∀ k,u.ownBlock=some k→B≤k∧k < wr.heap.size∧(Value.slice oa j oc).ownBlock≠some k)
    (k2:Keep Non wr w2) (hm:m=(chnI n j).length) (o2:w2.ownsRow wr.heap.size 3 1 (.slice (some ⟨g2,0,none⟩) m c2) m ((chnI n j).map iv)) (hB:B≤wr.heap.size)
    (h3:w3.ownsRow B 23 1 v3 (j+1) (us ++ [.slice (some ⟨g2,0,none⟩) m c2])) (hg:(w2.alloc (.cells #[.slice (some ⟨g2,0,none⟩) m c2] 23)).grownBy w3 (Value.slice oa j oc).ownBlock) (hp:v3.ownBlock=(Value.slice oa j oc).ownBlock∨v3.ownBlock=some (w2.alloc (.cells #[.slice (some ⟨g2,0,none⟩) m c2] 23)).heap.size) :
    OutI n B w3 v3 (j+1)∧Keep (fun k=>(Value.slice oa j oc).ownBlock=some k) wr w3:=by
  have kA:Keep Non wr (w2.alloc (.cells #[.slice (some ⟨g2,0,none⟩) m c2] 23)):=k2.trans1 ((Keep.refl _ _).alloc _)
  have kg:Keep (fun k=>(Value.slice oa j oc).ownBlock=some k) (w2.alloc (.cells #[.slice (some ⟨g2,0,none⟩) m c2] 23)) w3:=(Keep.refl _ _).grown hg (fun k e=>.inl e)
  have kk:=kA.ofNon.trans1 kg
  have hlt2:=o2.lt g2 rfl
  have hsz:(w2.alloc (.cells #[.slice (some ⟨g2,0,none⟩) m c2] 23)).heap.size=w2.heap.size+1:=by simp
  have hol:∀ k,(Value.slice oa j oc).ownBlock=some k→k < wr.heap.size:=fun k e=>(ho.lt k e).2
  have kgs:=kg.size
  have k2s:=k2.size
  refine ⟨⟨us ++ [.slice (some ⟨g2,0,none⟩) m c2],h3,by simp [hl],?_,?_⟩,kk⟩
  · intro u hu'
    rcases List.mem_append.1 hu' with h | h
    · exact h1 u h
    · simp only [List.mem_singleton] at h;subst h;rfl
  · intro i u hi
    rcases Nat.lt_or_ge i us.length with hlt | hge
    · rw [List.getElem?_append_left hlt] at hi
      obtain ⟨a,b⟩:=hu i u hi
      refine ⟨a.keep kk (fun k e x=>(b k e).2.2 x),fun k e=>?_⟩
      obtain ⟨b1,b2,b3⟩:=b k e
      refine ⟨b1,by omega,fun x=>?_⟩
      rcases hp with hp | hp
      · exact b3 (hp ▸ x)
      · rw [hp] at x;have x':=Option.some.inj x;omega
    · rw [List.getElem?_append_right hge] at hi
      have hi0:i - us.length=0:=by
        rcases Nat.eq_zero_or_pos (i - us.length) with e | e
        · exact e
        · rw [List.getElem?_eq_none (by simp;omega)] at hi;cases hi
      rw [hi0] at hi
      simp only [List.getElem?_cons_zero,Option.some.injEq] at hi
      subst hi
      obtain rfl:i=j:=by omega
      have r2:Is w2 (.slice (some ⟨g2,0,none⟩) m c2) (chnI n i):=Rd.ofOwns o2
      refine ⟨(r2.keepNon ((Keep.refl _ _).alloc _)).keep kg (fun k e x=>?_),fun k e=>?_⟩
      · have e':g2=k:=Option.some.inj e
        have:=hol k x
        omega
      · have e':g2=k:=Option.some.inj e
        refine ⟨by omega,by omega,fun x=>?_⟩
        rcases hp with hp | hp
        · rw [hp] at x;have:=hol k x;omega
        · rw [hp] at x;have x':=Option.some.inj x;omega
theorem zkM (w:World) (v:Value) (t:TypeId):∀ (j:Nat) u,[v][j]? = some u→(w.alloc (.cells #[v] t)).cell? ((⟨w.heap.size,0,none⟩:Addr).add j)=some u:=by
  intro j u hu
  rw [zau,Nat.zero_add,cell_of_row _ _ j _ _ _ (zab _ _)]
  simpa using hu
theorem OutI.keep {n B j:Nat} {w w':World} {ov:Value} {S:Nat→Prop} (h:OutI n B w ov j) (k:Keep S w w') (hn:∀ g,B≤g→¬ S g):OutI n B w' ov j:=by
  obtain ⟨us,o,h1,h2,h3⟩:=h
  refine ⟨us,zac o k (fun g e=>hn g (o.lt g e).1),h1,h2,fun i u hi=>?_⟩
  obtain ⟨a,b⟩:=h3 i u hi
  exact ⟨a.keep k (fun g e=>hn g (b g e).1),fun g e=>⟨(b g e).1,k.lt (b g e).2.1,(b g e).2.2⟩⟩
theorem OutI.pr {B n:Nat} {w:World} {ov:Value} (h:OutI n B w ov (chN n)) (h1:1≤n):PrAt (fun g=>B≤g∧g < w.heap.size) w ov n:=by
  obtain ⟨us,o,hl,h2,h3⟩:=h
  obtain ⟨g,c,rfl,_⟩:=zbO o (zgY h1)
  refine ⟨g,us,c,rfl,hl,Rd.ofOwns o,⟨by rw [hl,zeU],fun i u l hu hc=>?_⟩,o.lt g rfl,fun v hv k e=>?_⟩
  · have e:l=chnI n i:=by
      unfold chnI
      rw [List.getD_eq_getElem?_getD,hc]
      rfl
    rw [e]
    exact (h3 i u hu).1
  · obtain ⟨i,hi,rfl⟩:=List.getElem_of_mem hv
    obtain ⟨a,b⟩:=h3 i _ (List.getElem?_eq_getElem hi)
    exact ⟨(b k e).1,(b k e).2.1⟩
theorem setNew {w w':World} (k:Keep Non w w') (b i:Nat) (v:Value) (hb:w.heap.size≤b):Keep Non w (w'.setCell ⟨b,i,none⟩ v) :=
  k.trans ((Keep.refl (One b) w').setOne i v) (fun _ _ e=>e) (fun g hg e=>by have e':g=b:=e;omega)
theorem zid (T:Nat→Prop) (e n:Nat) (cv:Value) (w:World) (h:PrAt T w cv n) (h1:1≤n) (h2:n≤3) :
    Calls Tryz.prog 58 #[.agg #[.int .i64 e,cv]] w fun r w'=>∃ cv',r = .returned (.agg #[.int .i64 e,cv'])∧Keep Non w w'∧PrAt (fun g=>w.heap.size≤g∧g < w'.heap.size) w' cv' n:=by
  obtain ⟨g,vs,c,rfl,hl,hr,hi,hg,ht⟩:=h
  have hch:=zeT h2
  have HR:=zz0 hr
  have HI:=zz0 hi
  have e0:((w.alloc (PrB e (.slice (some ⟨g,0,none⟩) (chN n) c))).alloc (PrB 0 (.slice none 0 0))).heap[w.heap.size]? = some (PrB e (.slice (some ⟨g,0,none⟩) (chN n) c)):=zae (zab _ _) _
  have b2:(((w.alloc (PrB e (.slice (some ⟨g,0,none⟩) (chN n) c))).alloc (PrB 0 (.slice none 0 0))).alloc (PrB e (.slice none 0 0))).heap[w.heap.size+1]? = some (PrB 0 (.slice none 0 0)):=zae (zaD _ _ _) _
  have b3:(((w.alloc (PrB e (.slice (some ⟨g,0,none⟩) (chN n) c))).alloc (PrB 0 (.slice none 0 0))).alloc (PrB e (.slice none 0 0))).heap[w.heap.size+1+1]? = some (PrB e (.slice none 0 0)):=by
    have:=zaD (w.alloc (PrB e (.slice (some ⟨g,0,none⟩) (chN n) c))) (PrB 0 (.slice none 0 0)) (PrB e (.slice none 0 0))
    rwa [World.size_alloc] at this
  have kA:Keep Non w (((w.alloc (PrB e (.slice (some ⟨g,0,none⟩) (chN n) c))).alloc (PrB 0 (.slice none 0 0))).alloc (PrB e (.slice none 0 0))):=(((Keep.refl _ _).alloc _).alloc _).alloc _
  have sA:w.heap.size+3≤(((w.alloc (PrB e (.slice (some ⟨g,0,none⟩) (chN n) c))).alloc (PrB 0 (.slice none 0 0))).alloc (PrB e (.slice none 0 0))).heap.size:=by simp
  have B2:=zz0 b2
  have B3:=zz0 b3
  have KA:=zz0 kA
  have SA:=zz0 sA
  obtain ⟨i0,hi0,hz0,hz1,hz2⟩:=info_parts infoSlI
  have I0:=zz0 (And.intro hi0 (And.intro hz0 (And.intro hz1 hz2)))
  clear hr hi e0 b2 b3 kA sA hi0 hz0 hz1 hz2
  go_enter Tryz.func58,Tryz.ntmps58
  go_wp2_with fail
  go_loopw [12] (fun i wr=>∃ j:Nat,j≤chN n∧i = .int .i64 j∧Keep Non w wr∧wr.heap[w.heap.size+1]? = some (PrB 0 (.slice none 0 0))∧∃ ov,wr.heap[w.heap.size+1+1]? = some (PrB e ov)∧OutI n (w.heap.size+3) wr ov j∧w.heap.size+3≤wr.heap.size) (fun i _=>chN n - (intOf i).toNat)
  case atStart=>exact ⟨0,by omega,rfl,KA.out,B2.out,_,B3.out,⟨[],World.ownsRow_nil _ _ _ _,rfl,by simp,by simp⟩,SA.out⟩
  case round =>
    obtain ⟨j,hj,rfl,k,hb2,ov,hb3,ho,hs⟩:=hrel
    obtain ⟨us,ho,hul,hu1,hu⟩:=ho
    obtain ⟨oa,oc,rfl,_,_⟩:=zaa ho
    have K:=zz0 k
    have P2:=zz0 hb2
    have P3:=zz0 hb3
    have OO:=zz0 ho
    have UU:=zz0 (And.intro hul (And.intro hu1 hu))
    have o1:=pr_1 hb3
    have S:=zz0 hs
    clear k hb2 hul hu1 hu
    by_cases hlt:j < chN n
    · have hlj:(j:Int) < (chN n:Int):=by omega
      have hr2:=HR.out.keepNon K.out
      obtain ⟨x,hx⟩:∃ x,vs[j]? = some x:=⟨_,List.getElem?_eq_getElem (by omega)⟩
      have hxi:Is wr x (chnI n j):=(HI.out.2 j x (chnI n j) hx (zgX hlt)).keepNon K.out
      have hcell:wr.cell? ⟨g,j,none⟩=some x:=by
        obtain ⟨a',c',e,hx'⟩:=hr2
        injection e with e1 e2 e3
        obtain ⟨g',off,e4,hc⟩:=hx' (by intro e;rw [e] at hl;simp at hl;omega)
        rw [← e1] at e4
        injection e4 with e4
        injection e4 with e4 e5
        subst e4
        subst e5
        have:=hc j x hx
        rwa [Nat.zero_add] at this
      obtain ⟨xa,xc,rfl,hxx⟩:=id hxi
      obtain ⟨xg,xo,rfl,_⟩:=hxx (by intro e;have:=(zdM hlt).1;rw [List.map_eq_nil_iff] at e;rw [e] at this;simp at this)
      obtain ⟨m,hm⟩:∃ m,m=(chnI n j).length:=⟨_,rfl⟩
      have hm1:0 < m:=by have:=(zdM hlt).1;omega
      have hm2:m≤2:=by have:=(zdM hlt).2;omega
      simp only [List.length_map] at hcell hxi
      rw [← hm] at hcell hxi
      have HM:=zz0 hm
      have CL:=zz0 (zdQ ⟨xg,xo,none⟩ xc (chnI n j) wr.drew (by rw [← hm];exact hxi) (by omega))
      have o1d:wr.drew.cell? ⟨w.heap.size+1+1,1,none⟩=some (.slice oa j oc):=o1
      rw [← hm] at CL
      have CL2:Hid (Calls Tryz.prog 118 #[.slice (some ⟨xg,xo,none⟩) m xc] wr.drew fun r w2=>∃ g2 c2,r = .returned (.slice (some ⟨g2,0,none⟩) m c2)∧Keep Non wr w2∧w2.ownsRow wr.heap.size 3 1 (.slice (some ⟨g2,0,none⟩) m c2) m ((chnI n j).map iv)):=zz0 (by
        refine CL.out.mono ?_
        rintro r w2 ⟨v2,rfl,k2,o2⟩
        rw [← hm] at o2
        obtain ⟨g2,c2,rfl,_⟩:=zbO o2 hm1
        exact ⟨g2,c2,rfl,(Keep.refl Non wr).drew.trans1 k2,o2⟩)
      clear hxx hxi hr2 hb3 ho hx CL hm
      go_wp2_with fail
      go_region_law (first
        | (go_simp;(go_at_call 118;refine CL2.out.mono ?_;rintro r w2 ⟨g2,c2,rfl,k2,o2⟩;have p3:=k2.at P3.out (fun e=>e);have o2':=pr_1 p3;have o2a:=pr_1 (zae p3 (.cells #[.slice (some ⟨g2,0,none⟩) m c2] 23));have K2:=zz0 k2;have O2:=zz0 o2;clear k2 o2 p3))
        | (refine zag (by rfl) (.tmp 17) (.tmp 20) 67 (by rfl) (w.heap.size+3) 23 i0 (.slice none 0 0) 1 24 Tryz.underlying67 I0.out.1 I0.out.2.1 I0.out.2.2.1 I0.out.2.2.2 rfl (by decide) (.slice oa j oc) j us (by first | rfl | simp [Act.eval,Act.put]) (by exact zac OO.out (K2.out.trans1 ((Keep.refl Non w2).alloc _)) (fun _ _ e=>e)) ⟨w2.heap.size,0,none⟩ 1 1 [.slice (some ⟨g2,0,none⟩) m c2] (by first | rfl | simp [Act.eval,Act.put]) (by rfl) (by exact zkM w2 _ _) (by simp [Value.oneCell']) (by unfold maxLen;omega) (by omega) (by have:=K2.out.size;simp;omega) ?_;intro v3 w3 ho hg hpp;obtain ⟨oj,kj⟩:=zmJ OO.out UU.out.1 UU.out.2.1 UU.out.2.2 K2.out HM.out O2.out S.out ho hg hpp;have hn3:∀ k,(Value.slice oa j oc).ownBlock=some k→w.heap.size+3≤k:=(fun k e=>(OO.out.lt k e).1);have p2:=kj.at P2.out (fun e=>by have:=hn3 _ e;omega);have p3:=kj.at P3.out (fun e=>by have:=hn3 _ e;omega);obtain ⟨oa3,oc3,rfl,_,_⟩:=zaa ho;have i3:=pr_1 p3;have f3:=pr_f p3 1;have P2':=zz0 p2;have P3':=zz0 p3;have SIZ:=zz0 (Nat.le_trans S.out kj.size);have OJ:=zz0 oj;have KJ:=zz0 (K.out.trans kj (fun _ _ e=>e) (fun k hk e=>by have:=hn3 k e;omega));clear ho hg hpp oj kj hn3 p2 p3))
      all_goals go_wp2_with fail
      all_goals
        have k1:Keep (One (w.heap.size+1+1)) w3 (w3.setCell ⟨w.heap.size+1+1,1,none⟩ (.slice oa3 (j+1) oc3)):=(Keep.refl _ _).setOne _ _
        exact ⟨⟨j+1,by omega,by first | rfl | go_num,setNew KJ.out _ _ _ (by omega),k1.at P2'.out (fun e=>by have e':w.heap.size+1=w.heap.size+1+1:=e;omega),_,zem P3'.out _,OJ.out.keep k1 (fun g hg e=>by have e':g=w.heap.size+1+1:=e;omega),by have:=k1.size;have:=OJ.out;have:=KJ.out.size;have:=lt_of_block P3'.out;rcases OJ.out with ⟨us',o',l',_⟩;have:=SIZ.out;omega⟩,by simp [intOf];omega⟩
    · obtain hjn:j=chN n:=by omega
      subst hjn
      have o0:=pr_0 hb3
      have r0:=pr_0 P2.out
      have r1:=pr_1 P2.out
      have rf0:=pr_f P2.out 0
      have rf1:=pr_f P2.out 1
      have q0:=pr_0 (zem (zfL P2.out e) (.slice oa (chN n) oc))
      have q1:=pr_1 (zem (zfL P2.out e) (.slice oa (chN n) oc))
      clear hb3 ho
      go_wp2_with fail
      refine bodyPost_ret (v:=.agg #[.int .i64 e,.slice oa (chN n) oc]) (by simp [results,Tryz.results58,go_sem,q0,q1]) rfl ?_
      have k1:Keep (One (w.heap.size+1)) wr ((wr.setCell ⟨w.heap.size+1,0,none⟩ (.int .i64 e)).setCell ⟨w.heap.size+1,1,none⟩ (.slice oa (chN n) oc)):=((Keep.refl _ _).setOne _ _).trans1 ((Keep.refl _ _).setOne _ _)
      have O:=OutI.pr (OutI.keep (⟨us,OO.out,UU.out⟩:OutI n (w.heap.size+3) wr (.slice oa (chN n) oc) (chN n)) k1 (fun g hg e=>by have e':g=w.heap.size+1:=e;omega)) h1
      obtain ⟨g',vs',c',e1,e2,e3,e4,e5,e6⟩:=O
      exact ⟨_,rfl,setNew (setNew K.out _ _ _ (by omega)) _ _ _ (by omega),g',vs',c',e1,e2,e3,e4,⟨by omega,e5.2⟩,fun v hv k e=>⟨by have:=(e6 v hv k e).1;omega,(e6 v hv k e).2⟩⟩
section
attribute [local go_sem ↓] hV84 hV106 hV87 hW84 hW106 hW87 hB106 hB87
end
theorem zc7:∀ (f:Nat) (last:List UInt8) (cl:List Cl),(∀ x ∈ cl,okCl x)→cl.length≤64→last.length≤64→(encRun f last cl).length≤96 * cl.length
  | 0,_,_,_,_,_=>by simp [encRun]
  | f+1,_,[],_,_,_=>by simp [encRun]
  | f+1,last,x :: r,h,hl,hla=>by
    obtain ⟨h0,h3,h64,h1⟩:=h x (by simp)
    have hle:=zhn (x :: r)
    have ha:=zbZ last x.2
    simp only [List.length_cons] at hl hle ⊢
    show (if 0 < rowN (x :: r) then vput (rowN (x :: r)) ++ vput x.1.toNat ++ encRun f last ((x :: r).drop (rowN (x :: r))) else vput 0 ++ vput x.2.length ++ vput (alikeN last x.2) ++ x.2.drop (alikeN last x.2) ++ encRun f x.2 r).length≤_
    split
    · rename_i hp
      have ih:=zc7 f last ((x :: r).drop (rowN (x :: r))) (fun y hy=>h y (List.mem_of_mem_drop hy)) (by rw [List.length_drop];simp;omega) hla
      have e1:=zao (n:=rowN (x :: r)) (by omega)
      have e2:=zao (n:=x.1.toNat) (by omega)
      rw [List.length_drop] at ih
      simp only [List.length_cons] at ih
      simp only [List.length_append]
      omega
    · have ih:=zc7 f x.2 r (fun y hy=>h y (by simp [hy])) (by omega) h64
      have e0:=zao (n:=0) (by omega)
      have e1:=zao (n:=x.2.length) (by omega)
      have e2:=zao (n:=alikeN last x.2) (by omega)
      simp only [List.length_append,List.length_drop]
      omega
theorem zdd {f:Nat} {cl:List Cl} (h:∀ x ∈ cl,okCl x) (hl:cl.length≤64) (hf:f≤1048576):(vput f ++ runB cl).length≤6200:=by
  have h1:=zc7 cl.length [] cl h hl (by simp)
  have e1:=zao (n:=cl.length) (by omega)
  have e2:=zao (n:=f) (by omega)
  unfold runB
  simp only [List.length_append]
  omega
theorem zcL {t:List UInt8} (h:t.length≤60000):(frameB t).length≤t.length+7:=by
  have e:=zao (n:=t.length) (by omega)
  unfold frameB sealB
  rw [List.length_append,za4,zba]
  omega
theorem zcC {f:Nat} {cl:List Cl} (h:∀ x ∈ cl,okCl x) (hl:cl.length≤64) (hf:f≤1048576):(segB f cl).length≤6207:=by
  have h1:=zdd h hl hf
  have h2:=zcL (t:=vput f ++ runB cl) (by omega)
  exact Nat.le_trans h2 (by omega)
theorem zpM {c:Cu} (h:okCu c) (hp:∀ p ∈ c.parts,p.many < 2 ^ 63∧p.size < 2 ^ 63∧p.sum.length=32):(cuBy c).length≤3300:=by
  have h1:=zcQ c.parts hp
  have h2:=h.many
  have h3:=h.le
  have h4:=h.hi
  have h5:=h.trim
  have h6:=h.lo
  have h7:=zaB [c.lo,c.next,c.hi,c.trim,c.parts.length] (by intro n hn;simp at hn;omega)
  have h8:(cuT c).length≤3245:=by
    unfold cuT
    rw [List.length_append]
    simp only [List.length_cons,List.length_nil] at h7
    omega
  have h9:=zcL (t:=cuT c) (by omega)
  exact Nat.le_trans h9 (by omega)
end Go.Proofs.YtnboipdpccnedaaGreatDoor
namespace Go.Proofs.YtnboipdpccnedaaGreatDoor
open Go.RowKit Go.Maps
section
attribute [local go_sem ↓] hV84 hV106 hV87 hW84 hW106 hW87 hB106 hB87
end
theorem StoreAt.low {F:Nat→Prop} {w:World} {q p:Nat} {X:Dk} (d:StoreAt F w q p X):StoreAt (fun g=>F g∧g < w.heap.size) w q p X:=by
  obtain ⟨b1,i1,G,dg,hg⟩:=d
  exact ⟨b1,⟨i1,lt_of_block b1⟩,fun g=>G g∧g < w.heap.size,dg.low,fun g x=>⟨⟨(hg g x.1).1,x.2⟩,(hg g x.1).2⟩⟩
theorem zl4 {w w2:World} {m:Mf} {a2 pa:Option Addr} {c2 pc:Nat} (h32:pts32 m.parts) (k2:Keep Non w w2) (bx:w2.heap[w.heap.size]? = some (MfB m (.slice pa m.parts.length pc))) (o2:w2.ownsRow (w.heap.size+1) 106 35 (.slice a2 m.parts.length c2) m.parts.length (ptsC m.parts)) :
    (w2.setRow w.heap.size (mfC m (.slice a2 m.parts.length c2)).toArray).heap[w.heap.size]? = some (MfB m (.slice a2 m.parts.length c2))∧Keep Non w (w2.setRow w.heap.size (mfC m (.slice a2 m.parts.length c2)).toArray)∧(w2.setRow w.heap.size (mfC m (.slice a2 m.parts.length c2)).toArray).ownsRow w.heap.size 106 35 (.slice a2 m.parts.length c2) m.parts.length (ptsC m.parts):=by
  have k:Keep (One w.heap.size) w2 (w2.setRow w.heap.size (mfC m (.slice a2 m.parts.length c2)).toArray):=(Keep.refl (One _) _).setRow (.inl (zar _)) _
  exact ⟨setRow_heap _ _ _ _ _ _ bx,k2.trans k (fun _ _ e=>e) (fun g hg e=>by have e':g=w.heap.size:=e;omega),zad (zac o2 k (fun g e e2=>by have e':g=w.heap.size:=e2;have:=(o2.lt g e).1;omega)) (by omega)⟩
section
attribute [local go_sem ↓] hV84 hV106 hV87 hW84 hW106 hW87 hB106 hB87 hBS41
end
end Go.Proofs.YtnboipdpccnedaaGreatDoor
