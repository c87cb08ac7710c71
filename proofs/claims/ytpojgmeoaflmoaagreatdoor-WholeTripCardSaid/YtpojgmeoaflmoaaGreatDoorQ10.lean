/- slices.Repeat at one cell without data:  -/
import Derived.Test.YtpojgmeoaflmoaaGreatDoorQ03
import Derived.Test.YtpojgmeoaflmoaaGreatDoorQ09
set_option linter.unusedVariables false
set_option maxRecDepth 100000
set_option maxHeartbeats 16000000
namespace Go.Proofs.YtpojgmeoaflmoaaGreatDoor
open Go.RowKit Go.Maps
theorem zbQ {P:Program}(w:World)(dT sT ty elem:TypeId)(k g o dLen dCap:Nat)(a:Addr)(sLen sCap:Nat)(cur:Array Value)(t:TypeId)(cs:List Value)
 (hu:P.underlying dT=some (.slice elem)) (hs:(P.info? elem).map (·.size)=some k)
 (hg:w.heap[g]? = some (.cells cur t (0,0))) (hn:cs.length=Nat.min sLen dLen*k)
 (hsrc:∀j v,cs[j]? = some v→w.cell? (a.add j)=some v) (hfit:o+cs.length≤cur.size) (h1:∀v ∈ cs,v.oneCell'=true) :
 (Builtin.copy_ #[dT,sT] ty #[.slice (some ⟨g,o,none⟩) dLen dCap,.slice (some a) sLen sCap]).run P w =
   .ok (goInt (Nat.min sLen dLen)) (w.setRow g (cur.toList.take o++cs++cur.toList.drop (o+cs.length)).toArray):=by
 have hl:=run_loadCells_list (P:=P) w a cs hsrc;have hst:=run_storeCells_at P g o t cs 0 cur w hg (by simpa using hfit) h1
 cases hq:P.info? elem with
 |none=>simp[hq] at hs
 |some i =>
  have hi:i.size=k:=by simpa [hq] using hs
  simp[Builtin.copy_,run_underlying hu,Builtin.lenOf,Builtin.firstCells,sizeOf,typeInfo,hq,hi,←hn,hl,hst]
theorem infoCell:(Tryz.prog.info? 45).map (fun i=>(i.zero,i.size,i.bytes))=some (some (.agg #[.int .i64 0,.slice none 0 0]),2,32):=by kernel_rfl
def celAt (k:Int)(m i:Nat):Value:=if i%2=1 then .slice none 0 0 else if i<2*m then .int .i64 k else .int .i64 0
def zch (k:Int)(n m:Nat):List Value:=(List.range (2*n)).map (celAt k m)
theorem zam (k:Int)(n m:Nat):(zch k n m).length=2*n:=by simp[zch]
theorem zbt (k:Int)(n m i:Nat):(zch k n m)[i]? = if i<2*n then some (celAt k m i) else none:=by
 unfold zch;rw[List.getElem?_map]
 split
 ·rename_i h
  rw[List.getElem?_range h]
  rfl
 ·rename_i h
  rw[List.getElem?_eq_none (by simp;omega)]
  rfl
theorem zgB (k:Int)(n m:Nat):∀v ∈ zch k n m,v.oneCell'=true:=by
 intro v hv;obtain⟨i,_,rfl⟩:=List.mem_map.1 hv;unfold celAt
 split
 ·rfl
 ·split<;>rfl
theorem zlI (k:Int)(n:Nat):madeCells #[.int .i64 0,.slice none 0 0] (n*2)=(zch k n 0).toArray:=by
 apply Array.toList_inj.1
 apply List.ext_getElem?
 intro i;rw[List.toList_toArray,zbt];unfold madeCells;by_cases h:i<2*n
 ·rw[if_pos h]
  have h2:i<n*2:=by omega
  simp only[Array.toList_map,Array.toList_range,List.getElem?_map,List.getElem?_range h2,Option.map_some]
  congr 1
  unfold celAt;rcases Nat.mod_two_eq_zero_or_one i with e|e
  ·rw[if_neg (by omega),if_neg (by omega)]
   simp[e]
  ·rw[if_pos e]
   simp[e]
 ·rw[if_neg h]
  simp;omega
theorem zhq (k:Int)(n m d:Nat)(hd:m+d≤n):(zch k n m).take (m*2)++zch k d d++(zch k n m).drop (m*2+(zch k d d).length)=zch k n (m+d):=by
 apply List.ext_getElem?
 intro i;rw[zam,zbt];by_cases h1:i<m*2
 ·rw[List.append_assoc,List.getElem?_append_left (by rw[List.length_take,zam];omega),List.getElem?_take_of_lt h1,zbt,if_pos (by omega),if_pos (by omega)]
  unfold celAt
  split
  ·rfl
  ·rw[if_pos (by omega),if_pos (by omega)]
 ·by_cases h2:i<m*2+2*d
  ·have hl:((zch k n m).take (m*2)++zch k d d).length=m*2+2*d:=by rw[List.length_append,List.length_take,zam,zam];omega
   rw[List.getElem?_append_left (by omega),List.getElem?_append_right (by rw[List.length_take,zam];omega),List.length_take,zam,zbt,if_pos (by omega),if_pos (by omega)]
   unfold celAt;rw[show min (m*2) (2*n)=m*2 by omega,show(i-m*2)%2=i%2 by omega]
   split
   ·rfl
   ·rw[if_pos (by omega),if_pos (by omega)]
  ·have hl:((zch k n m).take (m*2)++zch k d d).length=m*2+2*d:=by rw[List.length_append,List.length_take,zam,zam];omega
   rw[List.getElem?_append_right (by omega),hl,List.getElem?_drop,zbt,show m*2+2*d+(i-(m*2+2*d))=i by omega]
   split
   ·unfold celAt
    split
    ·rfl
    ·rw[if_neg (by omega),if_neg (by omega)]
   ·rfl
theorem zfb {S:Nat→Prop}{w w':World}(h:za S w w'){g:Nat}(hg:S g∨w.heap.size≤g)(cs:Array Value):za S w (w'.setRow g cs):=by
 refine⟨h.os,h.tape,h.output,by rw[show(w'.setRow g cs).heap.size=w'.heap.size by unfold World.setRow;simp];exact h.size,fun i hi hn=>?_⟩
 have hne:g≠i:=by
  rintro rfl;rcases hg with e|e
  ·exact hn e
  ·omega
 rw[←h.block i hi hn];unfold World.setRow;simp only[Array.getElem?_modify];rw[if_neg hne]
theorem zkA (g off c n:Nat)(k:Int)(w:World)(h0:w.cell? ⟨g,off,none⟩=some (.int .i64 k))(h1:w.cell? ⟨g,off+1,none⟩=some (.slice none 0 0))(hn:1≤n)(hn2:n≤1000)(hc:1≤c) :
 Calls Tryz.prog 372 #[.slice (some ⟨g,off,none⟩) 1 c,.int .i64 n] w fun e w'=>e = .returned (.slice (some ⟨w.heap.size,0,none⟩) n n)∧za zq2 w w'∧w'.heap[w.heap.size]? = some (.cells (zch k n n).toArray 45 (0,0)):=by
 have HM:=zz0 (Tryz.bits_Mul 1 n (by omega) (by omega))
 have q1:1*n / 18446744073709551616=0:=by omega
 have q2:1*n%18446744073709551616=n:=by omega
 rw[q1,q2] at HM;clear q1 q2;obtain⟨i0,hi0,hz0,hz1,hz2⟩:=info_parts infoCell;have hms:∀w,(Instr.makeSlice 22 (.int .i64 n) (.int .i64 n)).run Tryz.prog w = .ok (.slice (some ⟨w.heap.size,0,none⟩) n n) (w.alloc (.cells (zch k n 0).toArray 45)):=by
  intro w;have h:=run_makeSlice (P:=Tryz.prog) w 22 45 i0 _ Tryz.underlying22 hi0 hz0 .i64 .i64 n n (by omega) (by omega) (by rw[hz1];simp;omega) (by rw[hz2];omega) (by omega)
  rw[hz1] at h;simp only[Int.toNat_natCast] at h;rw[h];have e:madeCells (Value.agg #[Value.int .i64 0,Value.slice none 0 0]).cells (n*2)=(zch k n 0).toArray:=zlI k n;rw[e]
 have C0:=zz0 h0;have C1:=zz0 h1;have hsz:(Tryz.prog.info? 45).map (·.size)=some 2:=by rw[hi0];simp[hz1]
 have hlt:g<w.heap.size:=World.block_lt_of_cell? _ _ h0;have cp1:(Builtin.copy_ #[22,22] 3 #[.slice (some ⟨w.heap.size,0,none⟩) n n,.slice (some ⟨g,off,none⟩) 1 c]).run Tryz.prog (w.alloc (.cells (zch k n 0).toArray 45)) = .ok (.int .i64 1) ((w.alloc (.cells (zch k n 0).toArray 45)).setRow w.heap.size (zch k n 1).toArray):=by
  have h:=zbQ (P:=Tryz.prog) (w.alloc (.cells (zch k n 0).toArray 45)) 22 22 3 45 2 w.heap.size 0 n n ⟨g,off,none⟩ 1 c (zch k n 0).toArray 45 (zch k 1 1)
   Tryz.underlying22 hsz (ze _ _) (by rw[zam,show Nat.min 1 n=1 from Nat.min_eq_left hn]) (by
    intro j v hv;rw[zbt] at hv;have ka:za zq2 w (w.alloc (.cells (zch k n 0).toArray 45)):=(za.refl _ _).alloc _
    split at hv
    ·rename_i hj
     injection hv with hv
     subst hv;rcases(by omega:j=0∨j=1) with rfl|rfl
     ·exact(World.cell?_of_block (a:=⟨g,off,none⟩) (ka.block g hlt (fun e=>e))).trans C0.out
     ·exact(World.cell?_of_block (a:=⟨g,off+1,none⟩) (ka.block g hlt (fun e=>e))).trans C1.out
    ·cases hv) (by rw[zam];simp[zam];omega) (zgB _ _ _)
  rw[h,show Nat.min 1 n=1 from Nat.min_eq_left hn]
  have e:=zhq k n 0 1 (by omega)
  simp only[Nat.zero_mul,Nat.zero_add] at e;rw[List.toList_toArray,Nat.zero_add,e]
  rfl
 go_enter Tryz.func372,Tryz.ntmps372
 go_wp2_with(go_at_call 219;refine(HM.out _).mono ?_;rintro e w1 ⟨rfl,e1⟩;subst e1)
 clear h0 h1 cp1 hms HM;obtain⟨wa,hwa⟩:∃wa,wa=w1.alloc (.cells (zch k n 0).toArray 45):=⟨_,rfl⟩;have HA:=zz0 hwa;have hga:wa.heap[w1.heap.size]? = some (.cells (zch k n 0).toArray 45 (0,0)):=by rw[hwa];exact ze _ _
 have GA:=zz0 hga;rw[←hwa];clear hwa hga
 go_loopw [8] (fun i wr=>∃m:Nat,1≤m∧m≤n∧i = .int .i64 m∧wr.heap=(wa.setRow w1.heap.size (zch k n m).toArray).heap∧za zq2 w1 wr) (fun i _=>n-(intOf i).toNat)
 case atStart=>exact⟨1,by omega,hn,rfl,rfl,zfb (by rw[HA.out];exact(za.refl _ _).alloc _) (.inr (Nat.le_refl _)) _⟩
 case round =>
  obtain⟨m,hm1,hm2,rfl,hwr,kw⟩:=hrel;have KW:=zz0 kw;clear kw;have hg:wr.heap[w1.heap.size]? = some (.cells (zch k n m).toArray 45 (0,0)):=by rw[hwr];exact setRow_heap _ _ _ _ _ _ GA.out
  by_cases hlt2:m<n
  ·obtain⟨d,hd,hd2,hd3⟩:∃d,d=Nat.min m (n-m)∧1≤d∧m+d≤n:=⟨_,rfl,by show 1≤min m (n-m);omega,by show m+min m (n-m)≤n;omega⟩
   have hcc:∀w':World,w'.heap=wr.heap→(Builtin.copy_ #[22,22] 3 #[.slice (some ⟨w1.heap.size,m*2,none⟩) (n-m) (n-m),.slice (some ⟨w1.heap.size,0,none⟩) m n]).run Tryz.prog w' = .ok (.int .i64 d) (w'.setRow w1.heap.size (zch k n (m+d)).toArray):=by
    intro w' hw';have hg':w'.heap[w1.heap.size]? = some (.cells (zch k n m).toArray 45 (0,0)):=by rw[hw'];exact hg
    have h:=zbQ (P:=Tryz.prog) w' 22 22 3 45 2 w1.heap.size (m*2) (n-m) (n-m) ⟨w1.heap.size,0,none⟩ m n (zch k n m).toArray 45 (zch k d d)
     Tryz.underlying22 hsz hg' (by rw[zam,←hd];omega) (by
      intro j v hv;rw[zbt] at hv
      split at hv
      ·rename_i hj
       have e:((⟨w1.heap.size,0,none⟩:Addr).add j)=⟨w1.heap.size,j,none⟩:=by unfold Addr.add;split<;>simp_all
       rw[e];have hdm:d≤m:=by rw[hd];exact Nat.min_le_left _ _
       have hx:(zch k n m)[j]? = some v:=by
        rw[zbt,if_pos (by omega),←hv]
        unfold celAt
        congr 1
        split
        ·rfl
        ·simp[show j<2*m by omega]
       simp[World.cell?,hg',hx]
      ·cases hv) (by rw[zam];simp[zam];omega) (zgB _ _ _)
    rw[h,←hd,List.toList_toArray,zhq k n m d hd3]
    rfl
   have cp2:=hcc wr.drew rfl;clear hcc hd
   go_wp2_with fail
   go_region
   go_wp2_with fail
   refine⟨⟨m+d,by omega,hd3,by go_num,?_,zfb KW.out.drew (.inr (Nat.le_refl _)) _⟩,by simp[intOf];omega⟩
   show(wr.setRow w1.heap.size (zch k n (m+d)).toArray).heap=_
   have e:(wr.setRow w1.heap.size (zch k n (m+d)).toArray).heap=((wa.setRow w1.heap.size (zch k n m).toArray).setRow w1.heap.size (zch k n (m+d)).toArray).heap:=by unfold World.setRow at hwr ⊢;simp only;rw[hwr]
   rw[e,setRow_setRow]
  ·obtain rfl:m=n:=by omega
   go_wp2_with fail
   go_ret;exact⟨rfl,KW.out,hg⟩
def TkB (p:Nat)(vo:Value)(left:Int)(vl:Value)(kind:Int):Obj:=.cells #[.pointer (some ⟨p,0,none⟩),vo,.int .i64 left,vl,.int .i64 kind] 431 (0,0)
section
variable {w : World} {t p : Nat} {vo vl : Value} {left kind : Int}
theorem tk_0 (e:w.heap[t]? = some (TkB p vo left vl kind)):w.cell? ⟨t,0,none⟩=some (.pointer (some ⟨p,0,none⟩)):=by simp[World.cell?,e,TkB]
theorem tk_1 (e:w.heap[t]? = some (TkB p vo left vl kind)):w.cell? ⟨t,1,none⟩=some vo:=by simp[World.cell?,e,TkB]
theorem tk_2 (e:w.heap[t]? = some (TkB p vo left vl kind)):w.cell? ⟨t,2,none⟩=some (.int .i64 left):=by simp[World.cell?,e,TkB]
theorem tk_3 (e:w.heap[t]? = some (TkB p vo left vl kind)):w.cell? ⟨t,3,none⟩=some vl:=by simp[World.cell?,e,TkB]
theorem tk_4 (e:w.heap[t]? = some (TkB p vo left vl kind)):w.cell? ⟨t,4,none⟩=some (.int .i64 kind):=by simp[World.cell?,e,TkB]
theorem tk_f (e:w.heap[t]? = some (TkB p vo left vl kind))(i:Nat):w.frozen? ⟨t,i,none⟩=false:=by simp[World.frozen?,e,TkB]
theorem zmL (e:w.heap[t]? = some (TkB p vo left vl kind))(v:Value):(w.setCell ⟨t,1,none⟩ v).heap[t]? = some (TkB p v left vl kind):=zj e 1 _
theorem zmM (e:w.heap[t]? = some (TkB p vo left vl kind))(k:Int):(w.setCell ⟨t,2,none⟩ (.int .i64 k)).heap[t]? = some (TkB p vo k vl kind):=zj e 2 _
theorem zqk (e:w.heap[t]? = some (TkB p vo left vl kind))(v:Value):(w.setCell ⟨t,3,none⟩ v).heap[t]? = some (TkB p vo left v kind):=zj e 3 _
theorem zmN (e:w.heap[t]? = some (TkB p vo left vl kind))(k:Int):(w.setCell ⟨t,4,none⟩ (.int .i64 k)).heap[t]? = some (TkB p vo left vl k):=zj e 4 _
end
def zG (B:Nat)(S:Nat→Prop)(w:World)(xs:List Value)(out:List Cl):Prop :=
 xs.length=2*out.length∧∀(j:Nat) x,out[j]? = some x→∃s,xs[2*j]? = some (.int .i64 x.1)∧xs[2*j+1]? = some s∧Bs w s x.2∧okc s∧∀g,s.ownBlock=some g→B≤g∧g<w.heap.size∧¬S g
theorem zG.keep {B:Nat}{S S' T:Nat→Prop}{w w':World}{xs:List Value}{out:List Cl}(h:zG B S w xs out)(k:za T w w')(hT:∀g,B≤g→T g→S g)(hS:∀g,g<w.heap.size→S' g→S g):zG B S' w' xs out:=by
 refine⟨h.1,fun j x hx=>?_⟩
 obtain⟨s,h1,h2,h3,h4,h5⟩:=h.2 j x hx;exact⟨s,h1,h2,h3.keep k (fun g e e2=>(h5 g e).2.2 (hT g (h5 g e).1 e2)),h4,fun g e=>⟨(h5 g e).1,k.lt (h5 g e).2.1,fun e2=>(h5 g e).2.2 (hS g (h5 g e).2.1 e2)⟩⟩
theorem zG.nil (B:Nat)(S:Nat→Prop)(w:World):zG B S w [] []:=⟨rfl,fun j x h=>by simp at h⟩
theorem zG.append {B:Nat}{S:Nat→Prop}{w:World}{xs ys:List Value}{out out':List Cl}(h:zG B S w xs out)(h':zG B S w ys out'):zG B S w (xs++ys) (out++out'):=by
 have hl:=h.1;have hl':=h'.1;refine⟨by simp only[List.length_append];omega,fun j x hx=>?_⟩
 by_cases hj:j<out.length
 ·rw[List.getElem?_append_left hj] at hx
  obtain⟨s,h1,h2,h3⟩:=h.2 j x hx;exact⟨s,by rw[List.getElem?_append_left (by omega)];exact h1,by rw[List.getElem?_append_left (by omega)];exact h2,h3⟩
 ·rw[List.getElem?_append_right (by omega)] at hx
  obtain⟨s,h1,h2,h3⟩:=h'.2 _ x hx;refine⟨s,?_,?_,h3⟩
  ·rw[List.getElem?_append_right (by omega),←h1];congr 1;omega
  ·rw[List.getElem?_append_right (by omega),←h2];congr 1;omega
theorem zG.rep (B:Nat)(S:Nat→Prop)(w:World)(k:Int)(n:Nat):zG B S w (zch k n n) (List.replicate n (k,[])):=by
 refine⟨by rw[zam];simp,fun j x hx=>?_⟩
 rw[List.getElem?_replicate] at hx
 split at hx
 ·rename_i hj
  injection hx with hx
  subst hx;refine⟨.slice none 0 0,?_,?_,Rd.nil _,⟨Nat.le_refl _,fun ad e=>by cases e⟩,fun g e=>by cases e⟩
  ·rw[zbt,if_pos (by omega)];unfold celAt;rw[if_neg (by omega),if_pos (by omega)]
  ·rw[zbt,if_pos (by omega)];unfold celAt;rw[if_pos (by omega)]
 ·cases hx
structure TkAt (B:Nat)(F:Nat→Prop)(w:World)(t p:Nat)(l:zqY)(out:List Cl)(left:Nat)(last:zqY)(kind:Int)(vo vl:Value):Prop where
 blk:w.heap[t]? = some (TkB p vo left vl kind)
 rd:zbf F w p l
 hF:∀g,F g→g<B
 htB:B≤t
 out:∃xs,w.ownsRow B 45 2 vo out.length xs∧zG B (fun g=>g=t∨vo.ownBlock=some g) w xs out
 voT:vo.ownBlock≠some t
 last:Bs w vl last∧okc vl∧∀g,vl.ownBlock=some g→B≤g∧g<w.heap.size∧g≠t∧vo.ownBlock≠some g
theorem TkAt.hp {B:Nat}{F:Nat→Prop}{w:World}{t p left:Nat}{l last:zqY}{out:List Cl}{kind:Int}{vo vl:Value}(h:TkAt B F w t p l out left last kind vo vl):p<B:=by
 obtain⟨v,_,_,_,h4,_⟩:=h.rd;exact h.hF p h4
theorem TkAt.read {B:Nat}{F:Nat→Prop}{w w':World}{t p left:Nat}{l l' last:zqY}{out:List Cl}{kind:Int}{vo vl:Value}(h:TkAt B F w t p l out left last kind vo vl)(k:za (zq3 p) w w')(r:zbf F w' p l'):TkAt B F w' t p l' out left last kind vo vl:=by
 have hp:=h.hp;have htB:=h.htB;have hno:∀g,B≤g→¬zq3 p g:=fun g e e2=>by have e2':g=p:=e2;omega
 obtain⟨xs,h1,h2⟩:=h.out;refine⟨k.at h.blk (hno t htB),r,h.hF,htB,⟨xs,zc h1 k (fun g e=>hno g (h1.lt g e).1),h2.keep k (fun g e e2=>absurd e2 (hno g e)) (fun g _ e=>e)⟩,h.voT,h.last.1.keep k (fun g e=>hno g (h.last.2.2 g e).1),h.last.2.1,fun g e=>?_⟩
 obtain⟨q1,q2,q3⟩:=h.last.2.2 g e;exact⟨q1,k.lt q2,q3⟩
theorem TkAt.keepNon {B:Nat}{F:Nat→Prop}{w w':World}{t p left:Nat}{l last:zqY}{out:List Cl}{kind:Int}{vo vl:Value}(h:TkAt B F w t p l out left last kind vo vl)(k:za zq2 w w'):TkAt B F w' t p l out left last kind vo vl :=
 h.read (k.mono (fun _ _ e=>e.elim)) (h.rd.keep k (fun _ _ e=>e))
theorem zjK {B:Nat}{F:Nat→Prop}{w3 w4 w6:World}{t p left m left':Nat}{l last last':zqY}{out out2:List Cl}{kind kind':Int}{vo vl vo4 vl':Value}{ys news:List Value}(h:TkAt B F w3 t p l out left last kind vo vl)
 (o2:zG B (fun g=>g=t∨vo.ownBlock=some g) w3 ys out) (n2:zG B (fun g=>g=t∨vo.ownBlock=some g) w3 news out2) (hm:out2.length=m) (HO:w4.ownsRow B 45 2 vo4 (out.length+m) (ys++news))
 (KG:za (fun k=>vo.ownBlock=some k) w3 w4) (HP:vo4.ownBlock=vo.ownBlock∨vo4.ownBlock=some w3.heap.size) (b6:w6.heap[t]? = some (TkB p vo4 left' vl' kind')) (k6:za (zq3 t) w4 w6)
 (hl:Bs w3 vl' last'∧okc vl'∧∀g,vl'.ownBlock=some g→B≤g∧g<w3.heap.size∧g≠t∧vo.ownBlock≠some g) :
 za (fun g=>B≤g) w3 w6∧TkAt B F w6 t p l (out++out2) left' last' kind' vo4 vl':=by
 have htl:=lt_of_block h.blk;obtain⟨xs,q1,_⟩:=h.out;have hvB:∀g,vo.ownBlock=some g→B≤g:=fun g e=>(q1.lt g e).1
 have hne:∀g,vo.ownBlock≠some g→g<w3.heap.size→vo4.ownBlock≠some g:=by
  intro g e e1 e2;rcases HP with e3|e3
  ·exact e (by rw[←e3,e2])
  ·rw[e3] at e2;injection e2 with e2;omega
 have hT:vo4.ownBlock≠some t:=hne t h.voT htl;have hh:=h.htB;refine⟨(KG.mono (fun g _ e=>hvB g e)).trans k6 (fun _ _ e=>e) (fun g _ e=>by have e':g=t:=e;omega),b6,?_,h.hF,hh,⟨ys++news,?_,?_⟩,hT,?_⟩
 ·exact(h.rd.keep KG (fun g e e2=>by have:=h.hF g e;have:=hvB g e2;omega)).keep k6 (fun g e e2=>by have e':g=t:=e2;have:=h.hF g e;omega)
 ·rw[List.length_append,hm]
  exact zc HO k6 (fun g e e2=>hT (by have e':g=t:=e2;rw[←e'];exact e))
 ·refine((o2.append n2).keep (S':=fun g=>g=t∨vo4.ownBlock=some g) KG (fun g _ e=>.inr e) ?_).keep k6 (fun g _ e=>.inl e) (fun g _ e=>e)
  rintro g hg (e|e)
  ·exact .inl e
  ·rcases HP with e3|e3
   ·exact .inr (by rw[←e3,e])
   ·rw[e3] at e;injection e with e;omega
 ·refine⟨(hl.1.keep KG (fun g e=>(hl.2.2 g e).2.2.2)).keep k6 (fun g e=>(hl.2.2 g e).2.2.1),hl.2.1,fun g e=>?_⟩
  obtain⟨r1,r2,r3,r4⟩:=hl.2.2 g e;exact⟨r1,k6.lt (KG.lt r2),r3,hne g r4 r2⟩
theorem zjn {B p:Nat}{w w2 w6:World}(k1:za (zq3 p) w w2)(k2:za (fun g=>B≤g) w2 w6):za (fun g=>g=p∨B≤g) w w6 :=
 k1.trans k2 (fun g _ e=>.inl e) (fun g _ e=>.inr e)
theorem zms {w:World}{g n:Nat}{k:Int}{T:TypeId}(h:w.heap[g]? = some (.cells (zch k n n).toArray T (0,0))):∀j u,(zch k n n)[j]? = some u→w.cell? ((⟨g,0,none⟩:Addr).add j)=some u:=by
 intro j u hu;rw[zag,Nat.zero_add];simp[World.cell?,h,hu]
theorem zqn (B:Nat)(F:Nat→Prop)(t p left n:Nat)(r last:zqY)(out:List Cl)(k kind:Int)(vo vl:Value)(w:World)(h:TkAt B F w t p (zo k.toNat++r) out left last kind vo vl)
 (hn:1≤n) (hn2:n≤left) (hl:out.length+left≤64) (hk0:0≤k) (hk3:k≤3) (hk1:k≠1) (hkk:k≠kind) :
 Calls Tryz.prog 358 #[.pointer (some ⟨t,0,none⟩),.int .u64 n] w fun e w'=>e = .returned (.tuple #[])∧za (fun g=>g=p∨B≤g) w w'∧∃vo',TkAt B F w' t p r (out++List.replicate n (k,[])) (left-n) last k vo' vl:=by
 have H:=zz0 h;have c0:=tk_0 h.blk;have c2:=tk_2 h.blk;have RDH:=zz0 h.rd;obtain⟨kn,rfl⟩:∃kn:Nat,k=kn:=⟨k.toNat,by omega⟩
 have WI:=zz0 (zaz F p kn 3 r w (by simpa using h.rd) (by omega) (by omega))
 obtain⟨xs,o1,o2⟩:=h.out;have O1:=zz0 o1;have O2:=zz0 o2;obtain⟨oa,oc,rfl,_,_⟩:=zb o1;obtain⟨i0,hi0,hz0,hz1,hz2⟩:=info_parts infoCell;have hb1:((kn:Int)==1)=false:=by simpa using hk1
 have hb2:((kn:Int)==kind)=false:=by simpa using hkk
 have I0:=zz0 (And.intro hi0 (And.intro hz0 (And.intro hz1 hz2)));clear h o1 o2 hk1 hkk
 go_enter Tryz.func358,Tryz.ntmps358
 go_wp2_with(first
  |(go_at_call 98;refine WI.out.mono ?_;rintro e w1 ⟨rfl,k1,r1⟩;have T1:=H.out.read k1 r1;have d0:=tk_0 T1.blk;have d1:=tk_1 T1.blk;have d4:=tk_4 T1.blk;have K1:=zz0 k1;have H1:=zz0 T1;have R1:=zz0 r1;clear k1 r1 T1)
  |(go_at_call 157;refine(zcM F p r _ R1.out).mono ?_;rintro e w2 ⟨rfl,e2⟩;subst e2))
 have BT:=zz0 H1.out.blk;have OB:=zz0 H1.out.voT;obtain⟨ys,o1,o2⟩:=H1.out.out;have P1:=zz0 o1;have P2:=zz0 o2;clear o1 o2;have hwn:IntKind.i64.wrap (n:Int)=n:=IntWalk.i64_in _ (by omega)
 have hwn2:IntKind.wrap .i64 (n:Int)=n:=hwn;have ka:za zq2 w2 (w2.alloc (.cells #[.int .i64 kn,.slice none 0 0] 45)):=(za.refl _ _).alloc _;have a0:(w2.alloc (.cells #[.int .i64 kn,.slice none 0 0] 45)).drew.cell? ⟨w2.heap.size,0,none⟩=some (.int .i64 kn):=World.cell?_alloc_new w2 _ _ 0;have a1:(w2.alloc (.cells #[.int .i64 kn,.slice none 0 0] 45)).drew.cell? ⟨w2.heap.size,0+1,none⟩=some (.slice none 0 0):=World.cell?_alloc_new w2 _ _ 1;have d1a:(w2.alloc (.cells #[.int .i64 kn,.slice none 0 0] 45)).cell? ⟨t,1,none⟩=some (.slice oa out.length oc):=tk_1 (ka.at BT.out (fun e=>e))
 have A0:=zz0 a0;have A1:=zz0 a1;clear d0 d4 c0 c2 a0 a1 ka hi0 hz0 hz1 hz2
 go_region_law(first
  |(go_simp;go_at_call 372;refine(zkA w2.heap.size 0 1 n kn _ (by exact A0.out) (by exact A1.out) hn (by omega) (by omega)).mono ?_;rintro e w3 ⟨rfl,k3,b3⟩;have K3:Hid (za zq2 w2 w3):=zz0 (((za.refl zq2 w2).alloc _).drew.trans1 k3);have e1:w3.cell? ⟨t,1,none⟩=some (.slice oa out.length oc):=tk_1 (K3.out.at BT.out (fun e=>e));have B3:Hid (w3.heap[w2.heap.size+1]? = some (.cells (zch kn n n).toArray 45 (0,0))):=zz0 (by rw[←b3];simp);clear k3 b3)
  |((refine zl (by rfl) (.tmp 49) (.tmp 55) 22 (by rfl) B 45 i0 _ 2 32 Tryz.underlying22 I0.out.1 I0.out.2.1 I0.out.2.2.1 I0.out.2.2.2 rfl (by decide) (.slice oa out.length oc) out.length ys (by rfl) (zc P1.out K3.out (fun _ _ e=>e)) ⟨w2.heap.size+1,0,none⟩ n n (zch kn n n) (by simp[Act.eval]) (by rw[zam];omega) (by exact zms B3.out) (zgB _ _ _) (by unfold maxLen;omega) (by omega) (by have h1:=K3.out.size;have h2:=H1.out.htB;have h3:=lt_of_block BT.out;omega) ?_;intro v4 w4 ho hg hpp;obtain⟨a4,c4,rfl,_,_⟩:=zb ho;have HO:=zz0 ho;have HP:=zz0 hpp;have KG:Hid (za (fun k=>(Value.slice oa out.length oc).ownBlock=some k) w3 w4):=zz0 (za.grown (za.refl _ _) hg (fun k e=>.inl e));have b4:=KG.out.at (K3.out.at BT.out (fun e=>e)) OB.out;have B4:=zz0 b4;have g1:=tk_f b4 1;have g2:=tk_f b4 2;have g4:=tk_f b4 4;have q1:=tk_1 b4;have d2:=tk_2 b4;have q4:=tk_4 b4;clear ho hg hpp b4)))
 all_goals
  have hln:IntKind.wrap .i64 ((left:Int)-n)=((left-n:Nat):Int):=by rw[show((left:Int)-n)=((left-n:Nat):Int) by omega];exact IntWalk.i64_in _ (by omega)
  go_wp2_with fail
  go_end0
  have h3:=H1.out.keepNon K3.out;have k6:za (zq3 t) w4 (((w4.setCell ⟨t,1,none⟩ (.slice a4 (out.length+n) c4)).setCell ⟨t,2,none⟩ (.int .i64 (left-n:Nat))).setCell ⟨t,4,none⟩ (.int .i64 kn)):=(((za.refl _ _).setOne _ _).setOne _ _).setOne _ _;obtain⟨c1,c2⟩:=zjK (left':=left-n) (kind':=kn) h3 (P2.out.keep K3.out (fun _ _ e=>e.elim) (fun _ _ e=>e)) (zG.rep B _ w3 kn n) (List.length_replicate ..) HO.out KG.out HP.out (zmN (zmM (zmL B4.out _) _) _) k6 h3.last
  exact⟨rfl,zjn K1.out (K3.out.ofNon.trans1 c1),_,c2⟩
theorem zpe {w:World}{a:Option Addr}{n c:Nat}{l:List UInt8}(h:Bs w (.slice a n c) l)(s:Nat)(hs:s≤l.length)(c':Nat):Bs w (.slice a s c') (l.take s):=by
 obtain⟨a',cap,e,hx⟩:=h;injection e with e1 e2 e3
 subst e1;refine⟨a,c',by congr 1;simp;omega,fun hne=>?_⟩
 obtain⟨g,off,rfl,hc⟩:=hx (by intro e;apply hne;rw[List.map_eq_nil_iff] at e;subst e;simp)
 refine⟨g,off,rfl,fun j u hu=>hc j u ?_⟩
 rw[List.map_take,List.getElem?_take] at hu
 split at hu
 ·exact hu
 ·cases hu
theorem zqp (W:World)(a b:Value)(t:TypeId):∀j u,[a,b][j]? = some u→(W.alloc (.cells #[a,b] t)).cell? ((⟨W.heap.size,0,none⟩:Addr).add j)=some u:=by
 intro j u hu;rw[zag,Nat.zero_add]
 match j with
 |0=>simp at hu;subst hu;exact World.cell?_alloc_new _ _ _ 0
 |1=>simp at hu;subst hu;exact World.cell?_alloc_new _ _ _ 1
 |j+2=>simp at hu
theorem zql {B:Nat}{F:Nat→Prop}{w3 w4 w5 w6:World}{t p left s n:Nat}{l r last x:zqY}{out:List Cl}{kind:Int}{vo vl v4 v6:Value}(h3:TkAt B F w3 t p l out left last kind vo vl)(h5:TkAt B F w5 t p r out left last kind vo vl)
 (HTL:(last.take s).length=s) (HDL:(x.drop s).length=n-s) (NN:x.length=n) (SN:zad last x=s) (hta:last.take s=x.take s) (hs2:s≤n) (K4:za zq2 w3 w4) (K5:za (zq3 p) w4 w5)
 (O4:w4.ownsRow w3.drew.heap.size 5 1 v4 s ((last.take s).map bv))
 (HO:w6.ownsRow w3.heap.size 5 1 v6 (s+((x.drop s).map bv).length) ((last.take s).map bv++(x.drop s).map bv)) (HG:w5.grownBy w6 v4.ownBlock) :
 ∃a6 c6,v6 = .slice a6 n c6∧w6.ownsRow w3.heap.size 5 1 (.slice a6 n c6) x.length (x.map bv)∧(∀g,(Value.slice a6 n c6).ownBlock=some g→w3.heap.size≤g∧g<w6.heap.size)∧TkAt B F w6 t p r out left last kind vo vl∧za (zq3 p) w3 w6:=by
 have hlen:s+((x.drop s).map bv).length=n:=by rw[List.length_map,HDL];omega
 have hx:(last.take s).map bv++(x.drop s).map bv=x.map bv:=by rw[←List.map_append,hta,List.take_append_drop]
 rw[hlen,hx] at HO;obtain⟨a6,c6,rfl,_,_⟩:=zb HO;have k45:za (zq3 p) w3 w5:=K4.ofNon.trans1 K5;have kg:za (fun k=>v4.ownBlock=some k) w5 w6:=za.grown (za.refl _ _) HG (fun k e=>.inl e)
 have h4b:∀g,v4.ownBlock=some g→w3.heap.size≤g:=fun g e=>by have:=(O4.lt g e).1;simpa using this
 have k36:za (zq3 p) w3 w6:=k45.trans kg (fun _ _ e=>e) (fun g hg e=>by have:=h4b g e;omega)
 have hB:∀g,F g→g<w3.heap.size:=fun g e=>by have:=h3.hF g e;have:=h3.htB;have:=lt_of_block h3.blk;omega
 refine⟨a6,c6,rfl,by rw[NN];exact HO,fun g e=>HO.lt g e,h3.read k36 (h5.rd.keep kg (fun g e e2=>by have:=hB g e;have:=h4b g e2;omega)),k36⟩
theorem zoD (B:Nat)(F:Nat→Prop)(t p left:Nat)(r last x:zqY)(out:List Cl)(kind:Int)(vo vl:Value)(w:World)(h:TkAt B F w t p (zo x.length++(zo (zad last x)++(x.drop (zad last x)++r))) out left last kind vo vl)
 (hn:1≤left) (hx:x.length≤64) (hl:out.length+left≤64) (hla:last.length≤64) :
 Calls Tryz.prog 359 #[.pointer (some ⟨t,0,none⟩)] w fun e w'=>e = .returned (.tuple #[])∧za (fun g=>g=p∨B≤g) w w'∧∃vo' vl',TkAt B F w' t p r (out ++ [(1,x)]) (left-1) x 1 vo' vl':=by
 have hs1:=(zcT last x).1;have hs2:=(zcT last x).2;have hta:=zeG last x;generalize hsN:zad last x=s at h hs1 hs2 hta;have SN:=zz0 hsN;generalize hnN:x.length=n at h hx hs2;have NN:=zz0 hnN;have H:=zz0 h;have c0:=tk_0 h.blk;obtain⟨xs,o1,o2⟩:=h.out;obtain⟨oa,oc,rfl,_,_⟩:=zb o1;obtain⟨l1,l2,l3⟩:=h.last;obtain⟨la,lc,rfl,_⟩:=zY l1;have hlc:last.length≤lc:=l2.1;obtain⟨i0,hi0,hz0,hz1,hz2⟩:=info_parts infoCell;have I0:=zz0 (And.intro hi0 (And.intro hz0 (And.intro hz1 hz2)));obtain⟨j0,hj0,jz0,jz1,jz2⟩:=info_parts infoU8;have J0:=zz0 (And.intro hj0 (And.intro jz0 (And.intro jz1 jz2)));clear h o1 o2 hsN hnN hi0 hz0 hz1 hz2 hj0 jz0 jz1 jz2 l1 l2 l3
 go_enter Tryz.func359,Tryz.ntmps359
 go_wp2_with(first
  |(go_at_call 100;first
    |(refine(zei F p n _ _ H.out.rd (by omega)).mono ?_;rintro e w1 ⟨rfl,k1,r1⟩;have T1:=H.out.read k1 r1;have d0:=tk_0 T1.blk;have d3:=tk_3 T1.blk;have K1:=zz0 k1;have H1:=zz0 T1;clear k1 r1 T1)
    |(refine(zei F p s _ _ H1.out.rd (by omega)).mono ?_;rintro e w2 ⟨rfl,k2,r2⟩;have T2:=H1.out.read k2 r2;have e0:=tk_0 T2.blk;have e3:=tk_3 T2.blk;have K2:=zz0 (K1.out.trans1 k2);have H2:=zz0 T2;clear k2 r2 T2))
  |(go_at_call 157;refine(zcM F p _ _ H2.out.rd).mono ?_;rintro e w3 ⟨rfl,e2⟩;subst e2))
 have hns:IntKind.wrap .u64 ((n:Int)-s)=((n-s:Nat):Int):=by rw[show((n:Int)-s)=((n-s:Nat):Int) by omega];exact zX (by omega)
 have hns2:IntKind.wrap .i64 ((n-s:Nat):Int)=((n-s:Nat):Int):=IntWalk.i64_in _ (by omega)
 have htl:(last.take s).length=s:=by rw[List.length_take];omega
 have HTL:=zz0 htl;have hdl:(x.drop s).length=n-s:=by rw[List.length_drop,NN.out]
 have HDL:=zz0 hdl;have hslc:s≤lc:=by omega
 clear c0 d0 d3 htl hdl
 go_region_law(first
  |(go_simp;go_at_call 150;refine(za7 _ (last.take s) _ (by exact(zpe H2.out.last.1 s (by omega) _).keepNon ((za.refl _ _).drew)) (by rw[HTL.out];omega)).mono ?_;rintro e w4 ⟨v4,rfl,k4,o4⟩;rw[HTL.out] at o4;obtain⟨a4,c4,rfl,_,_⟩:=zb o4;have T4:=H2.out.keepNon (((za.refl zq2 _).drew).trans1 k4);have g0:=tk_0 T4.blk;have H4:=zz0 T4;have K4:=zz0 (((za.refl zq2 _).drew).trans1 k4);have O4:=zz0 o4;clear k4 T4 o4)
  |(go_simp;go_at_call 154;rw[←HDL.out];refine(zgy F p (x.drop s) r _ H4.out.rd (by rw[HDL.out];omega)).mono ?_;rintro e w5 ⟨v5,rfl,k5,r5,o5⟩;rw[HDL.out] at o5;obtain⟨a5,c5,rfl,_,_⟩:=zb o5;have H5:=zz0 (H4.out.read k5 r5);have K5:=zz0 k5;have O5:=zz0 o5;clear k5 r5 o5)
  |(refine zaj (by rfl) (.tmp 51) (.tmp 60) 43 (by rfl) w3.heap.size 5 j0 (.int .u8 0) 1 Tryz.underlying43 J0.out.1 J0.out.2.1 J0.out.2.2.1 J0.out.2.2.2 rfl (.slice a4 s c4) s ((last.take s).map bv) (by rfl) (by exact zc O4.out K5.out (fun g e=>by have h1:=(O4.out.lt g e).1;have h2:=H2.out.hp;have h3:=H2.out.htB;have h4:=lt_of_block H2.out.blk;unfold zq3;simp at h1;omega)) (.slice a5 (n-s) c5) (by simp[Act.eval]) ((x.drop s).map bv) (by exact Rd.ofOwns O5.out) (zy _) (by rw[List.length_map,HDL.out];unfold maxLen;omega) (by rw[List.length_map,HDL.out];omega) (by have:=K4.out.size;have:=K5.out.size;omega) ?_;intro v6 w6 ho hg hpp;have HO:=zz0 ho;have HG:=zz0 hg;clear ho hg hpp))
 all_goals
  obtain⟨a6,c6,rfl,ho,hb6,h6⟩:=zql H2.out H5.out HTL.out HDL.out NN.out SN.out hta hs2 K4.out K5.out O4.out HO.out HG.out;have O6:=zz0 ho;have B6:=zz0 hb6;have H6:=zz0 h6.1;have K6:=zz0 h6.2;have e0:=tk_0 h6.1.blk;have e1:=tk_1 h6.1.blk;have e2:=tk_2 h6.1.blk;have e3:=tk_3 h6.1.blk;clear ho hb6 h6 HO HG
  go_wp2_with(first
   |(go_at_call 157;refine(zcM F p r _ H6.out.rd).mono ?_;rintro e w7 ⟨rfl,e2⟩;subst e2)
   |(go_at_call 354;refine(zg5 _ _ last x _ H6.out.last.1 (Rd.ofOwns O6.out) (by omega) (by have:=NN.out;omega)).mono ?_;rw[SN.out];rintro e w8 ⟨rfl,k8⟩;have T8:=H6.out.keepNon k8;have g0:=tk_0 T8.blk;have g1:=tk_1 T8.blk;have g2:=tk_2 T8.blk;have H8:=zz0 T8;have K8:=zz0 k8;obtain⟨ys,p1,p2⟩:=T8.out;have P1:=zz0 p1;have P2:=zz0 p2;have OB:=zz0 T8.voT;clear k8 T8 p1 p2)
   |(at_builtin;refine zv rfl _ _ 22 rfl B 45 i0 _ 2 32 Tryz.underlying22 I0.out.1 I0.out.2.1 I0.out.2.2.1 I0.out.2.2.2 rfl (by decide) (.slice oa out.length oc) out.length ys rfl (zc P1.out ((za.refl zq2 _).alloc _) (fun _ _ e=>e)) ⟨w8.heap.size,0,none⟩ 1 1 [.int .i64 1,.slice a6 n c6] rfl rfl (zqp _ _ _ _) (by intro u hu;simp at hu;rcases hu with rfl|rfl<;>rfl) (by unfold maxLen;omega) (by omega) (by have h2:=H8.out.htB;have h3:=lt_of_block H8.out.blk;simp;omega) ?_;intro v9 w9 ho hg hpp;obtain⟨a9,c9,rfl,_,_⟩:=zb ho;have HO:=zz0 ho;have HP:=zz0 hpp;have KG:Hid (za (fun k=>(Value.slice oa out.length oc).ownBlock=some k) (w8.alloc (.cells #[.int .i64 1,.slice a6 n c6] 45)) w9):=zz0 (za.grown (za.refl _ _) hg (fun k e=>.inl e));have b9:=KG.out.at (zi H8.out.blk _) OB.out;have B9:=zz0 b9;have i1:=tk_f b9 1;have i2:=tk_f b9 2;have i3:=tk_f b9 3;have i4:=tk_f b9 4;have j1:=tk_1 b9;have j2:=tk_2 b9;have j3:=tk_3 b9;have j4:=tk_4 b9;clear ho hg hpp b9))
 all_goals
  go_end0
  have hl1:((left:Int)-1)=((left-1:Nat):Int):=by omega
  rw[hl1];have ha:za zq2 w8 (w8.alloc (.cells #[.int .i64 1,.slice a6 n c6] 45)):=(za.refl _ _).alloc _;have k6:za (zq3 t) w9 ((((w9.setCell ⟨t,1,none⟩ (.slice a9 (out.length+1) c9)).setCell ⟨t,2,none⟩ (.int .i64 (left-1:Nat))).setCell ⟨t,3,none⟩ (.slice a6 n c6)).setCell ⟨t,4,none⟩ (.int .i64 1)):=((((za.refl _ _).setOne _ _).setOne _ _).setOne _ _).setOne _ _;have hb8:∀g,(Value.slice a6 n c6).ownBlock=some g→B≤g∧g<(w8.alloc (.cells #[.int .i64 1,.slice a6 n c6] 45)).heap.size∧g≠t∧(Value.slice oa out.length oc).ownBlock≠some g:=by
   intro g e;obtain⟨q1,q2⟩:=B6.out g e;have h1:=H2.out.htB;have h2:=lt_of_block H2.out.blk;have h3:=ha.lt (K8.out.lt q2);obtain⟨zs,z1,_⟩:=H2.out.out;exact⟨by omega,h3,by omega,fun e2=>by have:=(z1.lt g e2).2;omega⟩
  have hbs:Bs (w8.alloc (.cells #[.int .i64 1,.slice a6 n c6] 45)) (.slice a6 n c6) x:=((Rd.ofOwns O6.out).keepNon K8.out).keepNon ha;have hnew:zG B (fun g=>g=t∨(Value.slice oa out.length oc).ownBlock=some g) (w8.alloc (.cells #[.int .i64 1,.slice a6 n c6] 45)) [.int .i64 1,.slice a6 n c6] [(1,x)]:=by
   refine⟨rfl,fun j y hj=>?_⟩
   cases j with
   |succ j=>simp at hj
   |zero =>
    simp at hj;subst hj;exact⟨.slice a6 n c6,rfl,rfl,hbs,zdA O6.out,fun g e=>⟨(hb8 g e).1,(hb8 g e).2.1,fun e2=>e2.elim (hb8 g e).2.2.1 (hb8 g e).2.2.2⟩⟩
  have hp:=HP.out;obtain⟨c1,c2⟩:=zjK (m:=1) (left':=left-1) (kind':=1) (H8.out.keepNon ha) (P2.out.keep ha (fun _ _ e=>e.elim) (fun _ _ e=>e)) hnew rfl HO.out KG.out hp (zmN (zqk (zmM (zmL B9.out _) _) _) _) k6 ⟨hbs,zdA O6.out,hb8⟩
  exact⟨rfl,zjn ((K2.out.trans1 K6.out).trans1 K8.out.ofNon) (ha.ofNon.trans1 c1),_,_,c2⟩
theorem zgd (k:Int):∀cl:List Cl,(∀x ∈ cl,x.1≠1→x.2 = [])→k≠1→cl.take (zbh k cl)=List.replicate (zbh k cl) (k,[])
 |[],_,_=>rfl
 |x::r,h,hk=>by
  unfold zbh
  split
  ·rename_i e
   have hx:x=(k,[]):=Prod.ext e (h x (by simp) (by rw[e];exact hk))
   rw[List.take_succ_cons,List.replicate_succ,zgd k r (fun y hy=>h y (by simp[hy])) hk,hx]
  ·rfl
theorem zfA (k:Int):∀(cl:List Cl) x,(cl.drop (zbh k cl)).head? = some x→x.1≠k
 |[],x,h=>by simp at h
 |y::r,x,h=>by
  unfold zbh at h
  split at h
  ·rw[List.drop_succ_cons] at h
   exact zfA k r x h
  ·rename_i e
   simp at h;rw[←h];exact e
theorem zom {x:Cl}{r:List Cl}(h:0<zcR (x::r)):x.1≠1∧zcR (x::r)=zbh x.1 (x::r):=by
 have e:zcR (x::r)=if x.1=1 then 0 else zbh x.1 (x::r):=rfl
 rw[e] at h ⊢
 split at h
 ·omega
 ·rename_i h1
  exact⟨h1,if_neg h1⟩
theorem zmu {x:Cl}{r:List Cl}(h:¬0<zcR (x::r)):x.1=1:=by
 apply Classical.byContradiction
 intro h1;apply h;have e:zcR (x::r)=if x.1=1 then 0 else zbh x.1 (x::r):=rfl
 rw[e,if_neg h1];unfold zbh;rw[if_pos rfl];omega
theorem zqb (rest:List Cl)(last r:zqY)(hok:∀x ∈ rest,zcl x)(h:0<zcR rest):∃(N:Nat)(k:Int),1≤N∧N≤rest.length∧k≠1∧0≤k∧k≤3 ∧
 zak rest.length last rest++r=zo N++(zo k.toNat++(zak (rest.length-N) last (rest.drop N)++r))∧rest.take N=List.replicate N (k,[])∧(∀y,(rest.drop N).head? = some y→y.1≠k)∧(∀x,rest.head? = some x→x.1=k):=by
 cases rest with
 |nil=>simp[zcR] at h
 |cons x rs =>
  obtain⟨hx1,hxr⟩:=zom h;obtain⟨hk0,hk3,_,_⟩:=hok x (by simp)
  refine⟨zcR (x::rs),x.1,h,ziM _,hx1,hk0,hk3,?_,?_,?_,fun y e=>by simp at e;rw[e]⟩
  ·have e:zak (x::rs).length last (x::rs)=zo (zcR (x::rs))++zo x.1.toNat++zak rs.length last ((x::rs).drop (zcR (x::rs))):=by
    show(if 0<zcR (x::rs) then _ else _)=_
    rw[if_pos h]
   rw[e,zcD rs.length ((x::rs).length-zcR (x::rs)) last _ (by rw[List.length_drop];simp;omega) (by rw[List.length_drop];exact Nat.le_refl _)]
   simp only[List.append_assoc]
  ·rw[hxr];exact zgd _ _ (fun y hy=>(hok y hy).2.2.2) hx1
  ·rw[hxr];exact zfA _ _
theorem zoo (rest:List Cl)(last r:zqY)(hok:∀x ∈ rest,zcl x)(hne:rest≠[])(h:¬0<zcR rest):∃(x:zqY)(rs:List Cl),rest=(1,x)::rs∧x.length≤64∧(∀y ∈ rs,zcl y) ∧
 zak rest.length last rest++r=zo 0++(zo x.length++(zo (zad last x)++(x.drop (zad last x)++(zak rs.length x rs++r)))):=by
 cases rest with
 |nil=>exact absurd rfl hne
 |cons x rs =>
  obtain⟨k,x⟩:=x;have h1:=zmu h;simp only at h1;subst h1;refine⟨x,rs,rfl,(hok (1,x) (by simp)).2.2.1,fun y hy=>hok y (by simp[hy]),?_⟩
  show(if 0<zcR ((1,x)::rs) then _ else _)++r=_
  rw[if_neg h];simp only[List.append_assoc]
theorem CsAt.of {B:Nat}{S:Nat→Prop}{w:World}{v:Value}{xs:List Value}{cl:List Cl}(h:w.ownsRow B 45 2 v cl.length xs)(h2:zG B S w xs cl):CsAt w v cl:=by
 rcases h.2 with ⟨hv,hn⟩|⟨g,cap,cur,rfl,_,hg,hn,_,_,htake⟩
 ·obtain rfl:cl = []:=List.eq_nil_of_length_eq_zero (by omega)
  exact⟨none,0,by rw[hv];rfl,by simp,fun ad e=>(by cases e),fun j hj=>by simp at hj⟩
 ·refine⟨some ⟨g,0,none⟩,cap,rfl,hn,fun ad e=>⟨g,0,by injection e with e;exact e.symm⟩,fun j hj=>?_⟩
  obtain⟨s,h3,h4,h5,h6,_⟩:=h2.2 j cl[j] (List.getElem?_eq_getElem hj);have hx:∀i u,xs[i]? = some u→w.cell? ⟨g,0+i,none⟩=some u:=by
   intro i u hu;rw[Nat.zero_add,World.cell?,hg];rw[←htake,List.getElem?_take] at hu
   split at hu
   ·simpa using hu
   ·cases hu
  exact⟨g,0,s,rfl,by rw[Nat.mul_comm];exact hx _ _ h3,by rw[Nat.mul_comm,Nat.add_assoc];exact hx _ _ h4,h5,h6⟩
theorem zG.low {B B':Nat}{S S':Nat→Prop}{w:World}{xs:List Value}{out:List Cl}(h:zG B S w xs out)(hB:B'≤B)(hS:∀g,S' g→S g):zG B' S' w xs out:=by
 refine⟨h.1,fun j x hx=>?_⟩
 obtain⟨s,h1,h2,h3,h4,h5⟩:=h.2 j x hx;exact⟨s,h1,h2,h3,h4,fun g e=>⟨by have:=(h5 g e).1;omega,(h5 g e).2.1,fun e2=>(h5 g e).2.2 (hS g e2)⟩⟩
def tkLeft (w:World)(b:Nat):Nat:=match w.cell? ⟨b,2,none⟩ with|some (.int _ k)=>k.toNat|_=>0
theorem TkAt.left {B:Nat}{F:Nat→Prop}{w:World}{t p left:Nat}{l last:zqY}{out:List Cl}{kind:Int}{vo vl:Value}(h:TkAt B F w t p l out left last kind vo vl):tkLeft w t=left:=by
 unfold tkLeft;rw[tk_2 h.blk];simp
def TkLoop (B:Nat)(F:Nat→Prop)(w1:World)(cl:List Cl)(r:zqY)(p:Nat)(wr:World)(rest:List Cl):Prop :=
 ∃(last:zqY) (done:List Cl) (kind:Int) (vo vl:Value),cl=done++rest∧TkAt B F wr B p (zak rest.length last rest++r) done rest.length last kind vo vl∧last.length≤64∧(∀x,rest.head? = some x→x.1≠1→x.1≠kind)∧(∀x ∈ rest,zcl x)∧za (fun g=>g=p∨B≤g) w1 wr
theorem zkM (F:Nat→Prop)(p:Nat)(cl:List Cl)(r:zqY)(w:World)(h:zbf F w p (runB cl++r))(hl:cl.length≤64)(hok:∀x ∈ cl,zcl x)(hF:∀g,F g→g<w.heap.size) :
 Calls Tryz.prog 330 #[.pointer (some ⟨p,0,none⟩)] w fun e w'=>∃v',e = .returned v'∧za (zq3 p) w w'∧zbf F w' p r∧∃xs,w'.ownsRow w.heap.size 45 2 v' cl.length xs∧zG w.heap.size zq2 w' xs cl:=by
 have H:=zz0 h;have HF:=zz0 hF;have hpw:F p:=by obtain⟨_,_,_,_,h4,_⟩:=h;exact h4
 have HP:=zz0 hpw;have h':zbf F w p (zo cl.length++(zak cl.length [] cl++r)):=by rw[←List.append_assoc];exact h
 have H0:=zz0 h';have hmin:min (cl.length:Int) 64=cl.length:=by omega
 clear h h' hF hpw
 go_enter Tryz.func330,Tryz.ntmps330
 go_wp2_with(first
  |(go_at_call 100;refine(zei F p cl.length _ _ H0.out (by omega)).mono ?_;rintro e w1 ⟨rfl,k1,r1⟩;have K1:=zz0 k1;have R1:=zz0 r1;clear k1 r1))
 have hF1:∀g,F g→g<w1.heap.size:=fun g e=>K1.out.lt (HF.out g e)
 have HF1:=zz0 hF1;clear hF1
 go_loopw [] (fun wr=>∃rest,TkLoop w1.heap.size F w1 cl r p wr rest) (fun wr=>tkLeft wr w1.heap.size)
 case atStart =>
  have kb:za zq2 w1 (w1.alloc (TkB p (.slice none 0 0) cl.length (.slice none 0 0) 1)):=(za.refl _ _).alloc _;refine⟨cl,[],[],1,.slice none 0 0,.slice none 0 0,rfl,⟨ze _ _,R1.out.keep kb (fun _ _ e=>e),HF1.out,Nat.le_refl _,⟨[],World.ownsRow_nil _ _ _ _,zG.nil _ _ _⟩,(fun e=>by cases e),⟨Rd.nil _,⟨Nat.le_refl _,fun ad e=>by cases e⟩,fun g e=>by cases e⟩⟩,by simp,fun _ _ h=>h,hok,kb.ofNon⟩
 case round =>
  obtain⟨rest,last,done,kind,vo,vl,hcl,hT,hla,hkind,hokr,hK⟩:=hrel;have K:=zz0 hK;have T:=zz0 hT;have CL:=zz0 hcl;have c0:=tk_0 hT.blk;have c1:=tk_1 hT.blk;have c2:=tk_2 hT.blk;have OKR:=zz0 hokr;have KD:=zz0 hkind;have hlen:done.length+rest.length≤64:=by rw[hcl,List.length_append] at hl;exact hl
  have LN:=zz0 hT.left;clear hK hT hcl hokr hkind;by_cases hne:rest = []
  ·subst hne
   simp only[List.length_nil] at c2
   go_wp2_with(go_at_call 157;refine(zcM F p _ _ T.out.rd).mono ?_;rintro e w2 ⟨rfl,e2⟩;subst e2)
   go_ret;have hd:cl=done:=by have:=CL.out;simpa using this
   obtain⟨xs,o1,o2⟩:=T.out.out;have hr:=T.out.rd;refine⟨_,rfl,?_,by simpa [zak] using hr,xs,?_,?_⟩
   ·exact K1.out.trans K.out (fun _ _ e=>e) (fun g hg e=>by rcases e with e|e;exact e;have:=K1.out.size;omega)
   ·rw[hd];exact zg o1 K1.out.size
   ·rw[hd];exact o2.low K1.out.size (fun _ e=>e.elim)
  ·have hpos:(0:Int)<(rest.length:Nat):=by have:=List.length_pos_iff.2 hne;omega
   have hpos2:0<rest.length:=List.length_pos_iff.2 hne;by_cases hn:0<zcR rest
   ·obtain⟨N,k,hN1,hN2,hk1,hk0,hk3,hen,htk,hnx,hhd⟩:=zqb rest last r OKR.out hn
    have hkk:k≠kind:=by
     cases rest with
     |nil=>exact absurd rfl hne
     |cons x rs=>have:=KD.out x rfl;rw[hhd x rfl] at this;exact this hk1
    have EN:=zz0 hen;have TK:=zz0 htk;have NX:=zz0 hnx;have HH:=zz0 (And.intro hkk (And.intro hk1 (And.intro hk0 hk3)));have hNp:(0:Int)<(N:Int):=by omega
    clear hen htk hnx hhd hne hn hkk hk1 hk0 hk3
    go_wp2_with(first
     |(go_at_call 157;first
        |(with_reducible refine(zcM F p _ wr T.out.rd).mono ?_;rintro e w2 ⟨rfl,e2⟩;subst e2)
        |(with_reducible refine(zcM F p _ _ T4.out.rd).mono ?_;rintro e w2 ⟨rfl,e2⟩;subst e2))
     |(go_at_call 100;refine(zei F p N _ _ (by have h0:=T.out.rd;rw[EN.out] at h0;exact h0) (by omega)).mono ?_;rintro e w4 ⟨rfl,k4,r4⟩;have t4:=T.out.read k4 r4;have d0:=tk_0 t4.blk;have T4:=zz0 t4;have K4:=zz0 k4;clear k4 r4 t4)
     |(go_at_call 358;refine(zqn w1.heap.size F w1.heap.size p rest.length N _ last done k kind vo vl _ T4.out hN1 hN2 hlen HH.out.2.2.1 HH.out.2.2.2 HH.out.2.1 HH.out.1).mono ?_;rintro e w5 ⟨rfl,k5,vo',t5⟩;have T5:=zz0 t5;have K5:=zz0 k5;clear k5 t5))
    have hdl:(rest.drop N).length=rest.length-N:=List.length_drop ..;refine⟨⟨rest.drop N,last,done++List.replicate N (k,[]),k,vo',vl,?_,by rw[hdl];exact T5.out,hla,fun y hy _=>NX.out y hy,fun y hy=>OKR.out y (List.mem_of_mem_drop hy),?_⟩,?_⟩
    ·rw[CL.out,←TK.out,List.append_assoc,List.take_append_drop]
    ·exact(K.out.trans1 (K4.out.mono (fun _ _ e=>.inl e))).trans1 K5.out
    ·rw[T5.out.left,LN.out];omega
   ·obtain⟨x,rs,hrs,hx,hok2,hen⟩:=zoo rest last r OKR.out hne hn
    have EN:=zz0 hen;have RS:=zz0 hrs;have OK2:=zz0 hok2;clear hen hrs hne hn hok2
    go_wp2_with(first
     |(go_at_call 157;first
        |(with_reducible refine(zcM F p _ wr T.out.rd).mono ?_;rintro e w2 ⟨rfl,e2⟩;subst e2)
        |(with_reducible refine(zcM F p _ _ T4.out.rd).mono ?_;rintro e w2 ⟨rfl,e2⟩;subst e2))
     |(go_at_call 100;refine(zei F p 0 _ _ (by have h0:=T.out.rd;rw[EN.out] at h0;exact h0) (by omega)).mono ?_;rintro e w4 ⟨rfl,k4,r4⟩;have t4:=T.out.read k4 r4;have d0:=tk_0 t4.blk;have T4:=zz0 t4;have K4:=zz0 k4;clear k4 r4 t4)
     |(go_at_call 359;refine(zoD w1.heap.size F w1.heap.size p rest.length _ last x done kind vo vl _ T4.out hpos2 hx hlen hla).mono ?_;rintro e w5 ⟨rfl,k5,vo',vl',t5⟩;have T5:=zz0 t5;have K5:=zz0 k5;clear k5 t5))
    have hdl:rest.length-1=rs.length:=by rw[RS.out];simp
    have t5:=T5.out;rw[hdl] at t5;refine⟨⟨rs,x,done ++ [(1,x)],1,vo',vl',?_,t5,hx,fun y hy e=>e,OK2.out,?_⟩,?_⟩
    ·rw[CL.out,RS.out];simp
    ·exact(K.out.trans1 (K4.out.mono (fun _ _ e=>.inl e))).trans1 K5.out
    ·rw[t5.left,LN.out];omega
theorem zmC (f:Nat)(v:Value)(cl:List Cl)(w:World)(h:Bs w v (zaC f cl))(hc:okc v)(hv:∀g,v.ownBlock=some g→g<w.heap.size)(hl:cl.length≤64)(hok:∀x ∈ cl,zcl x)(hf:f+cl.length≤1048576)(hb:(zo f++runB cl).length≤65536) :
 Calls Tryz.prog 300 #[v] w fun e w'=>∃v',e = .returned (.tuple #[.agg #[.int .i64 f,v'],.nilIface])∧za zq2 w w'∧∃xs,w'.ownsRow w.heap.size 45 2 v' cl.length xs∧zG w.heap.size zq2 w' xs cl:=by
 have FO:=zz0 (fun w1 (k:za zq2 w w1)=>zio v (zo f++runB cl) w1 (h.keepNon k) hc hb (fun g e=>k.lt (hv g e)))
 obtain⟨a,c,rfl,_⟩:=zY h;clear h hc hv;have B0:=zz0 (ze w (SgB 0 (.slice none 0 0)));have K0:Hid (za zq2 w (w.alloc (SgB 0 (.slice none 0 0)))):=zz0 ((za.refl _ _).alloc _)
 go_enter Tryz.func300,Tryz.ntmps300
 go_wp2_with(first
  |(go_at_call 96;refine(FO.out _ K0.out).mono ?_;rintro e w1 ⟨k1,v1,rfl,n1⟩;obtain⟨b1,b2,b3⟩:=n1;have K1:=zz0 (K0.out.trans1 k1);have G1:Hid (w1.heap[w.heap.size]? = some (SgB 0 (.slice none 0 0))):=zz0 (zh k1 B0.out);have Z1:Hid (w.heap.size+1≤w1.heap.size):=zz0 (by have:=k1.size;simpa [SgB] using this);have B1:=zz0 b1;have B2:=zz0 b2;have B3:Hid (∀g,v1.ownBlock=some g→w.heap.size<g∧g<w1.heap.size):=zz0 (fun g e=>⟨by have:=(b3 g e).1;simp at this;omega,(b3 g e).2⟩);clear k1 b1 b2 b3)
  |(go_at_call 97;refine(ziL (fun g=>w.heap.size<g∧g<w1.heap.size) v1 (zo f++runB cl) w1 B1.out B2.out (fun g e=>⟨(B3.out g e).2,B3.out g e⟩)).mono ?_;rintro e w2 ⟨rfl,k2,r2⟩;have K2:=zz0 (K1.out.trans1 k2);have G2:=zz0 (zh k2 G1.out);have Z2:Hid (w1.heap.size<w2.heap.size):=zz0 (by obtain⟨_,q,_⟩:=r2;exact lt_of_block q);have R2:=zz0 r2;clear k2 r2)
  |(go_at_call 98;refine(zaz _ w1.heap.size f 1048576 (runB cl) w2 R2.out (by omega) (by omega)).mono ?_;rintro e w3 ⟨rfl,k3,r3⟩;have G3:=k3.at G2.out (by have:=Z1.out;unfold zq3;omega);have K3:=zz0 k3;have R3:=zz0 r3;have e0:=sg_0 G3;have e1:=sg_1 G3;have f0:=sg_f G3 0;have f1:=sg_f G3 1;have GG3:=zz0 G3;clear k3 r3 G3)
  |(go_at_call 330;refine(zkM _ w1.heap.size cl [] (w3.alloc (SgB f (.slice none 0 0))) (by rw[List.append_nil];exact R3.out.keep ((za.refl zq2 w3).alloc _) (fun _ _ e=>e)) hl hok (fun g e=>by have h1:=K3.out.size;have h2:=Z2.out;simp;rcases e with e|e<;>omega)).mono ?_;rintro e w4 ⟨v4,rfl,k4,r4,xs,o4,q4⟩;obtain⟨a4,c4,rfl,_,_⟩:=zb o4;have b4:=k4.at (ze w3 (SgB f (.slice none 0 0))) (by have h1:=K3.out.size;have h2:=Z2.out;unfold zq3;omega);have G4:=(((za.refl zq2 w3).alloc (SgB f (.slice none 0 0))).ofNon.trans1 k4).at GG3.out (by have:=Z1.out;unfold zq3;omega);have g0:=sg_0 b4;have g1:=sg_1 b4;have i1:=sg_f b4 1;have m0:=sg_0 G4;have m1:=sg_1 G4;have n0:=sg_f G4 0;have n1:=sg_f G4 1;have K4:=zz0 (((za.refl zq2 w3).alloc (SgB f (.slice none 0 0))).ofNon.trans1 k4);have BB4:=zz0 b4;have GG4:=zz0 G4;have R4:=zz0 r4;have O4:=zz0 o4;have Q4:=zz0 q4;clear k4 r4 o4 q4 b4 G4)
  |(go_at_call 103;refine(zlw _ w1.heap.size _ (R4.out.keep ((za.refl (zq3 w3.heap.size) w4).setOne _ _) (fun g e e2=>by have e3:g=w3.heap.size:=e2;have h1:=K3.out.size;have h2:=Z2.out;rcases e with e|e<;>omega))).mono ?_;rintro e w5 ⟨rfl,e2⟩;subst e2)
  |(go_at_call 321;have k5:=(za.refl (zq3 w3.heap.size) w4).setOne 1 (.slice a4 cl.length c4);have o5:=zc O4.out k5 (fun g e=>by have:=(O4.out.lt g e).1;simp at this;unfold zq3;omega);have q5:=Q4.out.keep (S':=zq2) k5 (fun g h1 h2=>by have h3:g=w3.heap.size:=h2;simp at h1;omega) (fun _ _ e=>e);refine(zge f _ cl _ (CsAt.of o5 q5) hl hok hf).mono ?_;rintro e w6 ⟨rfl,k6⟩;have b6:=zh k6 (zc4 BB4.out (.slice a4 cl.length c4));have G6:=zh k6 (k5.at GG4.out (by have:=Z1.out;have:=Z2.out;have:=K3.out.size;unfold zq3;omega));have s0:=sg_0 b6;have s1:=sg_1 b6;have t0:=sg_0 G6;have t1:=sg_1 G6;have u0:=sg_f G6 0;have u1:=sg_f G6 1;have x0:=sg_0 (zcj G6 f);have x1:=sg_1 (zc4 (zcj G6 f) (.slice a4 cl.length c4));have O6:=zz0 (zc o5 k6 (fun _ _ e=>e));have Q6:=zz0 (q5.keep (S':=zq2) k6 (fun _ _ e=>e) (fun _ _ e=>e));have K6:=zz0 (k5.trans1 k6.ofNon);clear k6 k5 o5 q5 b6 G6))
 refine bodyPost_ret (v:=.tuple #[.agg #[.int .i64 f,.slice a4 cl.length c4],.nilIface]) (by simp[results,Tryz.results300,go_sem,x0,x1]) rfl ?_
 have z1:=Z1.out;have z2:=Z2.out;have h2:=K2.out.size;have h3:=K3.out.size;have kf:za (zq3 w.heap.size) w6 ((w6.setCell ⟨w.heap.size,0,none⟩ (.int .i64 f)).setCell ⟨w.heap.size,1,none⟩ (.slice a4 cl.length c4)):=((za.refl _ _).setOne _ _).setOne _ _;refine⟨_,rfl,?_,xs,zg (zc O6.out kf (fun g e=>by have:=(O6.out.lt g e).1;simp at this;unfold zq3;omega)) (by simp;omega),(Q6.out.keep (S':=zq2) kf (fun g g1 e=>by have e':g=w.heap.size:=e;simp at g1;omega) (fun _ _ e=>e)).low (by simp;omega) (fun _ e=>e)⟩
 have k03:za zq2 w w3:=K2.out.trans K3.out (fun _ _ e=>e) (fun g hg e=>by have e':g=w1.heap.size:=e;omega)
 have k04:za zq2 w w4:=k03.trans K4.out (fun _ _ e=>e) (fun g hg e=>by have e':g=w1.heap.size:=e;omega)
 have k06:za zq2 w w6:=k04.trans K6.out (fun _ _ e=>e) (fun g hg e=>by have e':g=w3.heap.size:=e;omega)
 exact k06.trans kf (fun _ _ e=>e) (fun g hg e=>by have e':g=w.heap.size:=e;omega)
end Go.Proofs.YtpojgmeoaflmoaaGreatDoor
