/- A change is added to a disk: walked. · A -/
import Derived.Test.YtpojgmeoaflmoaaGreatDoorQ02
import Derived.Test.YtpojgmeoaflmoaaGreatDoorQ06
set_option linter.unusedVariables false
set_option maxRecDepth 100000
set_option maxHeartbeats 16000000
namespace Go.Proofs.YtpojgmeoaflmoaaGreatDoor
open Go.RowKit Go.Maps
def chg0:Value:=.agg #[.int .i64 0,.string ⟨#[]⟩,.string ⟨#[]⟩,.slice none 0 0]
theorem infoChg:(Tryz.prog.info? 139).map (fun i=>(i.zero,i.size,i.bytes))=some (some chg0,4,64):=by kernel_rfl
def chgV (c:Chg)(v:Value):Value:=match c with
 |.write n _=>.agg #[.int .i64 0,sv n,sv [],v]
 |.rename n m=>.agg #[.int .i64 1,sv n,sv m,v]
 |.remove n=>.agg #[.int .i64 2,sv n,sv [],v]
theorem zks {w w':World}{S T:Nat→Prop}{pv':Value}{cs:List Chg}{c:Chg}{l:List Value}{xs:List (List Value)}(h2:xs.length=cs.length)(h3:∀(i:Nat) c l,cs[i]? = some c→xs[i]? = some l→ChgV w T c l)(hl:ChgV w T c l)
 (ho:w'.ownsRow 0 139 4 pv' (cs.length+1) (xs.flatten++l)) (k:za S w w') (hn:∀g,T g→¬S g):PendAt w' T pv' (cs ++ [c]):=by
 refine⟨xs ++ [l],?_,by simp[h2],fun i c' l' hc hl'=>?_⟩
 ·rw[List.length_append,List.flatten_append]
  simpa using ho
 ·rcases Nat.lt_or_ge i cs.length with hi|hi
  ·rw[List.getElem?_append_left hi] at hc
   rw[List.getElem?_append_left (by omega)] at hl'
   exact(h3 i c' l' hc hl').keep k hn (fun _ e=>e)
  ·rw[List.getElem?_append_right hi] at hc
   rw[List.getElem?_append_right (by omega),h2] at hl'
   have hi0:i-cs.length=0:=by
    rcases Nat.eq_zero_or_pos (i-cs.length) with e|e
    ·exact e
    ·rw[List.getElem?_eq_none (by simp;omega)] at hc;cases hc
   rw[hi0] at hc hl';simp at hc hl';subst hc;subst hl';exact hl.keep k hn (fun _ e=>e)
theorem zl {P:Program}{w:World}{ops:Array Oper}{o:Oper}{a:Act}{K:Act→World→Prop}{Q:Exit→Act→World→Prop}{E:Prop}(hgd:o.guard=none)(s x:Operand)(t:TypeId)
 (ho:o.op = .call { callee:=.builtin .append,args:=#[s,x],argTypes:=#[t,t] })
 (base:Nat) (e:TypeId) (i:TypeInfo) (z:Value) (size bytes:Nat) (ht:P.underlying t=some (.slice e)) (hi:P.info? e=some i) (hz:i.zero=some z)
 (hsize:i.size=size) (hby:i.bytes=bytes) (hzs:z.cells.size=size) (hsz:0<size)
 (v:Value) (n:Nat) (xs:List Value) (hs:a.eval s=v) (hown:w.ownsRow base e size v n xs)
 (ad:Addr) (m c:Nat) (news:List Value) (hx:a.eval x = .slice (some ad) m c) (hl:news.length=m*size) (hnews:∀j u,news[j]? = some u→w.cell? (ad.add j)=some u) (h1:∀u ∈ news,u.oneCell'=true)
 (h63:n+m≤maxLen) (hbytes:(n+m)*bytes≤140737488355328) (hbase:base≤w.heap.size)
 (h:∀v' w',w'.ownsRow base e size v' (n+m) (xs++news)→w.grownBy w' v.ownBlock→(v'.ownBlock=v.ownBlock∨v'.ownBlock=some w.heap.size)→K (a.put o.dst v') w') :
 if Region.wanted o (yielded ops a.tmps)=true then Oper.wp P o a w K Q else E:=by
 have hw:Region.wanted o (yielded ops a.tmps)=true:=by simp[Region.wanted,hgd]
 rw[if_pos hw];obtain⟨v',w',hr,h2,h3,h4⟩:=run_append_own (P:=P) w base t o.type e i z size bytes ht hi hz hsize hby hzs hsz v n xs hown ad m c news hl hnews h1 h63 hbytes hbase;have h5:=zcU w base t o.type e i z size bytes ht hi hz hsize hby hsz v n xs hown ad m c news hl hnews h1 h63 hbytes hr;unfold Oper.wp execOp;simp only[ho,resolve,invoke,builtin,Sem.run_bind,Sem.run_pure,Result.andThen_ok,List.map_toArray,List.map_cons,List.map_nil,hs,hx,hr];exact h v' w' h2 h3 h5
theorem zgA (W:World)(k:Nat)(hk:k=W.heap.size)(a b c d:Value)(t:TypeId):∀j u,[a,b,c,d][j]? = some u→(W.alloc (.cells #[a,b,c,d] t)).cell? ((⟨k,0,none⟩:Addr).add j)=some u:=by
 subst hk;intro j u hu;rw[zag,Nat.zero_add]
 match j with
 |0=>simp at hu;subst hu;exact World.cell?_alloc_new _ _ _ 0
 |1=>simp at hu;subst hu;exact World.cell?_alloc_new _ _ _ 1
 |2=>simp at hu;subst hu;exact World.cell?_alloc_new _ _ _ 2
 |3=>simp at hu;subst hu;exact World.cell?_alloc_new _ _ _ 3
 |j+4=>simp at hu
def box2 (w:World)(l:List Value):World:=(w.alloc (.cells l.toArray 139)).alloc (.cells l.toArray 139)
theorem zeK (w:World)(l:List Value):za zq2 w (box2 w l):=((za.refl _ _).alloc _).alloc _
theorem zd7 {F T:Nat→Prop}{w w1 w4:World}{p s h:Nat}{pv:Value}{X:Dk}{c:Chg}{l:List Value}{xs:List (List Value)}{a1:Option Addr}{c1 n1:Nat}(d:zq F T w p s h pv X)(P1:w.ownsRow 0 139 4 pv X.pend.length xs.flatten)
 (P23:xs.length=X.pend.length∧∀(i:Nat) c l,X.pend[i]? = some c→xs[i]? = some l→ChgV w T c l) (hl:ChgV w T c l) (HO:w1.ownsRow 0 139 4 (.slice a1 n1 c1) (X.pend.length+1) (xs.flatten++l))
 (HP:(Value.slice a1 n1 c1).ownBlock=pv.ownBlock∨(Value.slice a1 n1 c1).ownBlock=some (w.heap.size+1+1)) (KG:za (fun k=>pv.ownBlock=some k) w w1)
 (HB:(w1.setCell ⟨p,3,none⟩ (.slice a1 n1 c1)).heap[p]? = some (DkB X.room s h (.slice a1 n1 c1) X.fuse X.down)) (K4:za (zq3 h) (w1.setCell ⟨p,3,none⟩ (.slice a1 n1 c1)) w4) (M4:zbA w4 T h (c.on X.shown)) :
 za F w w4∧∃pv',(∀g,pv'.ownBlock=some g→F g∨w.heap.size≤g)∧zq (fun g=>F g∨pv'.ownBlock=some g) T w4 p s h pv' (X.add c):=by
 obtain⟨i1,i2,i3,i4,i5⟩:=d.inF;obtain⟨a1',a2,a3,a4⟩:=d.apart;obtain⟨o1,o2,o3,o4,o5⟩:=d.outT;have hpl:=lt_of_block d.blk;have hsl:=zF.lt d.sure;have hhl:=zF.lt d.shown
 -- where the new row lies
 have hw:∀g,(Value.slice a1 n1 c1).ownBlock=some g→(pv.ownBlock=some g)∨w.heap.size≤g:=by
  intro g e;rcases HP with q|q
  ·exact .inl (q.symm.trans e)
  ·rw[q] at e;injection e with e;exact .inr (by omega)
 have kS:za (fun k=>pv.ownBlock=some k∨k=p∨k=h) w w4:=(KG.trans ((za.refl (zq3 p) w1).setOne 3 (.slice a1 n1 c1)) (U:=fun k=>pv.ownBlock=some k∨k=p∨k=h) (fun _ _ e=>.inl e) (fun _ _ e=>.inr (.inl e))).trans K4 (fun _ _ e=>e) (fun _ _ e=>.inr (.inr e))
 have hT:∀g,T g→¬(pv.ownBlock=some g∨g=p∨g=h):=fun g hg e=>by
  rcases e with e|e|e
  ·exact o4 g e hg
  ·exact o1 (e ▸ hg)
  ·exact o3 (e ▸ hg)
 have hv1:∀g,(Value.slice a1 n1 c1).ownBlock=some g→g≠p∧g≠s∧g≠h∧¬T g:=fun g e=>by
  rcases hw g e with q|q
  ·exact⟨(a4 g q).1,(a4 g q).2.1,(a4 g q).2.2,o4 g q⟩
  ·exact⟨by omega,by omega,by omega,fun e2=>by have:=o5 g e2;omega⟩
 have k14:za (fun k=>k=p∨k=h) w1 w4:=((za.refl (zq3 p) w1).setOne 3 (.slice a1 n1 c1)).trans K4 (fun _ _ e=>.inl e) (fun _ _ e=>.inr e)
 refine⟨kS.mono (fun i _ e=>by rcases e with e|e|e;exact i4 i e;exact e ▸ i1;exact e ▸ i3),_,fun g e=>by rcases hw g e with q|q;exact .inl (i4 g q);exact .inr q,?_⟩
 refine⟨K4.at HB (fun e=>a3 e),d.sure.keep kS (fun e=>by rcases e with e|e|e;exact(a4 s e).2.1 rfl;exact a2 e.symm;exact a1' e) hT (fun _ e=>e),M4,?_,⟨.inl i1,.inl i2,.inl i3,fun g e=>.inr e,fun g e=>.inl (i5 g e)⟩,⟨a1',a2,a3,fun g e=>⟨(hv1 g e).1,(hv1 g e).2.1,(hv1 g e).2.2.1⟩⟩,⟨o1,o2,o3,fun g e=>(hv1 g e).2.2.2,fun g e=>kS.lt (o5 g e)⟩,d.room⟩
 have hl4:l.length=4:=by
  cases c with
  |write n b=>obtain⟨v,e,_⟩:=hl;rw[e];rfl
  |rename n m=>rw[show l=_ from hl];rfl
  |remove n=>rw[show l=_ from hl];rfl
 exact zks P23.1 P23.2 hl (zc HO k14 (fun g e e2=>by rcases e2 with e2|e2;exact(hv1 g e).1 e2;exact(hv1 g e).2.2.1 e2)) kS hT
theorem zfW (F T:Nat→Prop)(p s h:Nat)(pv v:Value)(n b:zqY)(X:Dk)(w:World)(d:zq F T w p s h pv X)(hv:zbT w T v b)(hs:size X.shown≤1000000)(hp:X.pend.length≤1000000)(hn:n.length≤1000) :
 Calls Tryz.prog 131 #[.pointer (some ⟨p,0,none⟩),chgV (.write n b) v] w fun e w'=>e = .returned (.tuple #[])∧za F w w'∧∃pv',(∀g,pv'.ownBlock=some g→F g∨w.heap.size≤g)∧zq (fun g=>F g∨pv'.ownBlock=some g) T w' p s h pv' (X.add (.write n b)):=by
 have D:=zz0 d;have V:=zz0 hv;have B:=zz0 d.blk;have c2:=dk_2 d.blk;have c3:=dk_3 d.blk;have f3:=dk_f d.blk 3;obtain⟨i0,hi0,hz0,hz1,hz2⟩:=info_parts infoChg;obtain⟨xs,p1,p2,p3⟩:=d.pend;have P1:=zz0 p1;have P23:=zz0 (And.intro p2 p3);obtain⟨pa,pc,rfl,_,_⟩:=zb p1;obtain⟨⟨a,c,rfl,_⟩,_⟩:=hv;rw[List.length_map] at V ⊢;clear d p1 p2 p3;unfold chgV sv
 go_enter Tryz.func131,Tryz.ntmps131
 have ca:(w.alloc (.cells #[.int .i64 0,.string ⟨n.toArray⟩,.string ⟨#[]⟩,.slice a (List.length b) c] 139)).cell? ⟨p,3,none⟩=some (.slice pa X.pend.length pc):=dk_3 (zi B.out _);have cb2:((w.alloc (.cells #[.int .i64 0,.string ⟨n.toArray⟩,.string ⟨#[]⟩,.slice a (List.length b) c] 139)).alloc (.cells #[.int .i64 0,.string ⟨n.toArray⟩,.string ⟨#[]⟩,.slice a (List.length b) c] 139)).cell? ⟨p,3,none⟩=some (.slice pa X.pend.length pc):=dk_3 (zi (zi B.out _) _)
 go_wp2_with fail
 have FN:=zz0 (zgA (w.alloc (.cells #[.int .i64 0,.string ⟨n.toArray⟩,.string ⟨#[]⟩,.slice a (List.length b) c] 139)) (w.heap.size+1) (by simp) (.int .i64 0) (.string ⟨n.toArray⟩) (.string ⟨#[]⟩) (.slice a (List.length b) c) 139)
 have KB:=zz0 (zeK w [.int .i64 0,.string ⟨n.toArray⟩,.string ⟨#[]⟩,.slice a (List.length b) c])
 go_region_law(refine zl (by rfl) (.tmp 8) (.tmp 10) 105 (by rfl) 0 139 i0 chg0 4 64 Tryz.underlying105 hi0 hz0 hz1 hz2 rfl (by decide) (.slice pa X.pend.length pc) X.pend.length xs.flatten (by rfl) (zc (S:=zq2) P1.out (by exact⟨KB.out.os,KB.out.tape,KB.out.output,KB.out.size,KB.out.block⟩) (fun _ _ e=>e)) ⟨w.heap.size+1,0,none⟩ 1 1 [.int .i64 0,.string ⟨n.toArray⟩,.string ⟨#[]⟩,.slice a (List.length b) c] (by rfl) (by rfl) (by exact FN.out) (by intro u hu;simp at hu;rcases hu with rfl|rfl|rfl|rfl<;>rfl) (by unfold maxLen;omega) (by omega) (Nat.zero_le _) ?_;intro v1 w1 ho hg hpp;obtain⟨a1,c1,rfl,_,_⟩:=zb ho;have HO:=zz0 ho;have HP:=zz0 hpp;have KG:Hid (za (fun k=>(Value.slice pa X.pend.length pc).ownBlock=some k) w w1):=zz0 (za.grown (a:=w) (by exact⟨KB.out.os,KB.out.tape,KB.out.output,KB.out.size,fun k hk hn=>KB.out.block k hk (fun e=>e)⟩) hg (fun k e=>.inl e));have B1:=KG.out.at B.out (fun e=>(D.out.apart.2.2.2 p e).1 rfl);have e2:=dk_2 B1;have e3:=dk_3 B1;have g3:=dk_f B1 3;have BB1:=zz0 B1;have BX:Hid (w1.heap[w.heap.size]? = some (.cells #[.int .i64 0,.string ⟨n.toArray⟩,.string ⟨#[]⟩,.slice a (List.length b) c] 139)):=zz0 ((hg.block w.heap.size (by simp;omega) (fun e=>by have:=(P1.out.lt w.heap.size e.symm).2;omega)).trans (by exact(zi (ze w _) _)));clear ho hg hpp B1)
 all_goals
  have hb3:(w1.setCell ⟨p,3,none⟩ (.slice a1 (X.pend.length+1) c1)).heap[p]? = some (DkB X.room s h (.slice a1 (X.pend.length+1) c1) X.fuse X.down):=zcW BB1.out _;have r2:=dk_2 hb3;have hpl:=lt_of_block B.out;have bx3:(w1.setCell ⟨p,3,none⟩ (.slice a1 (X.pend.length+1) c1)).heap[w.heap.size]? = some (.cells #[.int .i64 0,.string ⟨n.toArray⟩,.string ⟨#[]⟩,.slice a (List.length b) c] 139):=zdC BX.out (by omega) 3 _
  have q0:(w1.setCell ⟨p,3,none⟩ (.slice a1 (X.pend.length+1) c1)).cell? ⟨w.heap.size,0,none⟩=some (.int .i64 0):=by simp[World.cell?,bx3]
  have q1:(w1.setCell ⟨p,3,none⟩ (.slice a1 (X.pend.length+1) c1)).cell? ⟨w.heap.size,1,none⟩=some (.string ⟨n.toArray⟩):=by simp[World.cell?,bx3]
  have q2:(w1.setCell ⟨p,3,none⟩ (.slice a1 (X.pend.length+1) c1)).cell? ⟨w.heap.size,2,none⟩=some (.string ⟨#[]⟩):=by simp[World.cell?,bx3]
  have q3:(w1.setCell ⟨p,3,none⟩ (.slice a1 (X.pend.length+1) c1)).cell? ⟨w.heap.size,3,none⟩=some (.slice a (List.length b) c):=by simp[World.cell?,bx3]
  have K3:=zz0 (KG.out.trans ((za.refl (zq3 p) w1).setOne 3 (.slice a1 (X.pend.length+1) c1)) (U:=fun k=>(Value.slice pa X.pend.length pc).ownBlock=some k∨k=p) (fun _ _ e=>.inl e) (fun _ _ e=>.inr e))
  have hTn:Hid (∀g,T g→¬((Value.slice pa X.pend.length pc).ownBlock=some g∨g=p)):=zz0 (fun g hg e=>by
   rcases e with e|e
   ·exact D.out.outT.2.2.2.1 g e hg
   ·exact D.out.outT.1 (e ▸ hg))
  have MS:=zz0 (zbA.keep D.out.shown K3.out (fun e=>by rcases e with e|e;exact(D.out.apart.2.2.2 h e).2.2 rfl;exact D.out.apart.2.2.1 e.symm) hTn.out (fun _ e=>e))
  have VS:=zz0 (V.out.keep K3.out hTn.out (fun _ e=>e))
  have MSd:=zz0 (zbA.keep MS.out ((za.refl zq2 _).drew) (fun e=>e) (fun _ _ e=>e) (fun _ e=>e))
  have VSd:=zz0 (VS.out.keep ((za.refl zq2 _).drew) (fun _ _ e=>e) (fun _ e=>e))
  have HB3:=zz0 hb3;clear hb3 bx3;go_simp
  go_wp2_with fail
  go_region_with (go_at_call 68;refine(zjh T h X.shown n b (.slice a (List.length b) c) _ MSd.out D.out.outT.2.2.1 VSd.out hs hn (fun g e=>K3.out.lt (D.out.outT.2.2.2.2 g e))).mono ?_;rintro e w4 ⟨rfl,k4,m4⟩;have K4:=zz0 (zR k4);have M4:=zz0 m4;clear k4 m4)
  all_goals
   go_wp2_with fail
   go_end0
   exact⟨rfl,zd7 D.out P1.out P23.out (c:=.write n b) (l:=[.int .i64 0,.string ⟨n.toArray⟩,.string ⟨#[]⟩,.slice a (List.length b) c]) ⟨_,rfl,V.out⟩ HO.out (HP.out.imp id (fun e=>e.trans (by congr 1;simp))) KG.out HB3.out K4.out M4.out⟩
theorem zih (F T:Nat→Prop)(p s h:Nat)(pv:Value)(n m:zqY)(X:Dk)(w:World)(d:zq F T w p s h pv X)(hs:size X.shown≤1000000)(hp:X.pend.length≤1000000)(hn:n.length≤1000)(hn2:m.length≤1000)(hh:zz X.shown n=true) :
 Calls Tryz.prog 131 #[.pointer (some ⟨p,0,none⟩),chgV (.rename n m) (.slice none 0 0)] w fun e w'=>e = .returned (.tuple #[])∧za F w w'∧∃pv',(∀g,pv'.ownBlock=some g→F g∨w.heap.size≤g)∧zq (fun g=>F g∨pv'.ownBlock=some g) T w' p s h pv' (X.add (.rename n m)):=by
 have D:=zz0 d;have B:=zz0 d.blk;have c2:=dk_2 d.blk;have c3:=dk_3 d.blk;have f3:=dk_f d.blk 3;obtain⟨i0,hi0,hz0,hz1,hz2⟩:=info_parts infoChg;obtain⟨xs,p1,p2,p3⟩:=d.pend;have P1:=zz0 p1;have P23:=zz0 (And.intro p2 p3);obtain⟨pa,pc,rfl,_,_⟩:=zb p1;clear d p1 p2 p3;unfold chgV sv
 go_enter Tryz.func131,Tryz.ntmps131
 have ca:(w.alloc (.cells #[.int .i64 1,.string ⟨n.toArray⟩,.string ⟨m.toArray⟩,.slice none 0 0] 139)).cell? ⟨p,3,none⟩=some (.slice pa X.pend.length pc):=dk_3 (zi B.out _);have cb2:((w.alloc (.cells #[.int .i64 1,.string ⟨n.toArray⟩,.string ⟨m.toArray⟩,.slice none 0 0] 139)).alloc (.cells #[.int .i64 1,.string ⟨n.toArray⟩,.string ⟨m.toArray⟩,.slice none 0 0] 139)).cell? ⟨p,3,none⟩=some (.slice pa X.pend.length pc):=dk_3 (zi (zi B.out _) _)
 go_wp2_with fail
 have FN:=zz0 (zgA (w.alloc (.cells #[.int .i64 1,.string ⟨n.toArray⟩,.string ⟨m.toArray⟩,.slice none 0 0] 139)) (w.heap.size+1) (by simp) (.int .i64 1) (.string ⟨n.toArray⟩) (.string ⟨m.toArray⟩) (.slice none 0 0) 139)
 have KB:=zz0 (zeK w [.int .i64 1,.string ⟨n.toArray⟩,.string ⟨m.toArray⟩,.slice none 0 0])
 go_region_law(refine zl (by rfl) (.tmp 8) (.tmp 10) 105 (by rfl) 0 139 i0 chg0 4 64 Tryz.underlying105 hi0 hz0 hz1 hz2 rfl (by decide) (.slice pa X.pend.length pc) X.pend.length xs.flatten (by rfl) (zc (S:=zq2) P1.out (by exact⟨KB.out.os,KB.out.tape,KB.out.output,KB.out.size,KB.out.block⟩) (fun _ _ e=>e)) ⟨w.heap.size+1,0,none⟩ 1 1 [.int .i64 1,.string ⟨n.toArray⟩,.string ⟨m.toArray⟩,.slice none 0 0] (by rfl) (by rfl) (by exact FN.out) (by intro u hu;simp at hu;rcases hu with rfl|rfl|rfl|rfl<;>rfl) (by unfold maxLen;omega) (by omega) (Nat.zero_le _) ?_;intro v1 w1 ho hg hpp;obtain⟨a1,c1,rfl,_,_⟩:=zb ho;have HO:=zz0 ho;have HP:=zz0 hpp;have KG:Hid (za (fun k=>(Value.slice pa X.pend.length pc).ownBlock=some k) w w1):=zz0 (za.grown (a:=w) (by exact⟨KB.out.os,KB.out.tape,KB.out.output,KB.out.size,fun k hk hn=>KB.out.block k hk (fun e=>e)⟩) hg (fun k e=>.inl e));have B1:=KG.out.at B.out (fun e=>(D.out.apart.2.2.2 p e).1 rfl);have e2:=dk_2 B1;have e3:=dk_3 B1;have g3:=dk_f B1 3;have BB1:=zz0 B1;have BX:Hid (w1.heap[w.heap.size]? = some (.cells #[.int .i64 1,.string ⟨n.toArray⟩,.string ⟨m.toArray⟩,.slice none 0 0] 139)):=zz0 ((hg.block w.heap.size (by simp;omega) (fun e=>by have:=(P1.out.lt w.heap.size e.symm).2;omega)).trans (by exact(zi (ze w _) _)));clear ho hg hpp B1)
 all_goals
  have hb3:(w1.setCell ⟨p,3,none⟩ (.slice a1 (X.pend.length+1) c1)).heap[p]? = some (DkB X.room s h (.slice a1 (X.pend.length+1) c1) X.fuse X.down):=zcW BB1.out _;have r2:=dk_2 hb3;have hpl:=lt_of_block B.out;have bx3:(w1.setCell ⟨p,3,none⟩ (.slice a1 (X.pend.length+1) c1)).heap[w.heap.size]? = some (.cells #[.int .i64 1,.string ⟨n.toArray⟩,.string ⟨m.toArray⟩,.slice none 0 0] 139):=zdC BX.out (by omega) 3 _
  have q0:(w1.setCell ⟨p,3,none⟩ (.slice a1 (X.pend.length+1) c1)).cell? ⟨w.heap.size,0,none⟩=some (.int .i64 1):=by simp[World.cell?,bx3]
  have q1:(w1.setCell ⟨p,3,none⟩ (.slice a1 (X.pend.length+1) c1)).cell? ⟨w.heap.size,1,none⟩=some (.string ⟨n.toArray⟩):=by simp[World.cell?,bx3]
  have q2:(w1.setCell ⟨p,3,none⟩ (.slice a1 (X.pend.length+1) c1)).cell? ⟨w.heap.size,2,none⟩=some (.string ⟨m.toArray⟩):=by simp[World.cell?,bx3]
  have q3:(w1.setCell ⟨p,3,none⟩ (.slice a1 (X.pend.length+1) c1)).cell? ⟨w.heap.size,3,none⟩=some (.slice none 0 0):=by simp[World.cell?,bx3]
  have K3:=zz0 (KG.out.trans ((za.refl (zq3 p) w1).setOne 3 (.slice a1 (X.pend.length+1) c1)) (U:=fun k=>(Value.slice pa X.pend.length pc).ownBlock=some k∨k=p) (fun _ _ e=>.inl e) (fun _ _ e=>.inr e))
  have hTn:Hid (∀g,T g→¬((Value.slice pa X.pend.length pc).ownBlock=some g∨g=p)):=zz0 (fun g hg e=>by
   rcases e with e|e
   ·exact D.out.outT.2.2.2.1 g e hg
   ·exact D.out.outT.1 (e ▸ hg))
  have MS:=zz0 (zbA.keep D.out.shown K3.out (fun e=>by rcases e with e|e;exact(D.out.apart.2.2.2 h e).2.2 rfl;exact D.out.apart.2.2.1 e.symm) hTn.out (fun _ e=>e))
  have MSd:=zz0 (zbA.keep MS.out ((za.refl zq2 _).drew) (fun e=>e) (fun _ _ e=>e) (fun _ e=>e))
  have HB3:=zz0 hb3;clear hb3 bx3;go_simp
  go_wp2_with fail
  go_region_with (go_at_call 68;refine(zhj T h X.shown n m _ MSd.out D.out.outT.2.2.1 hs hn hn2 (fun g e=>K3.out.lt (D.out.outT.2.2.2.2 g e)) hh).mono ?_;rintro e w4 ⟨rfl,k4,m4⟩;have K4:=zz0 (zR k4);have M4:=zz0 m4;clear k4 m4)
  all_goals
   go_wp2_with fail
   go_end0
   exact⟨rfl,zd7 D.out P1.out P23.out (c:=.rename n m) (l:=[.int .i64 1,.string ⟨n.toArray⟩,.string ⟨m.toArray⟩,.slice none 0 0]) (by first|rfl|exact rfl) HO.out (HP.out.imp id (fun e=>e.trans (by congr 1;simp))) KG.out HB3.out K4.out (by show zbA _ T h (if zz X.shown n=true then _ else _);rw[if_pos hh];exact M4.out)⟩
theorem zig (F T:Nat→Prop)(p s h:Nat)(pv:Value)(n:zqY)(X:Dk)(w:World)(d:zq F T w p s h pv X)(hs:size X.shown≤1000000)(hp:X.pend.length≤1000000)(hn:n.length≤1000)(hh:zz X.shown n=true) :
 Calls Tryz.prog 131 #[.pointer (some ⟨p,0,none⟩),chgV (.remove n) (.slice none 0 0)] w fun e w'=>e = .returned (.tuple #[])∧za F w w'∧∃pv',(∀g,pv'.ownBlock=some g→F g∨w.heap.size≤g)∧zq (fun g=>F g∨pv'.ownBlock=some g) T w' p s h pv' (X.add (.remove n)):=by
 have D:=zz0 d;have B:=zz0 d.blk;have c2:=dk_2 d.blk;have c3:=dk_3 d.blk;have f3:=dk_f d.blk 3;obtain⟨i0,hi0,hz0,hz1,hz2⟩:=info_parts infoChg;obtain⟨xs,p1,p2,p3⟩:=d.pend;have P1:=zz0 p1;have P23:=zz0 (And.intro p2 p3);obtain⟨pa,pc,rfl,_,_⟩:=zb p1;clear d p1 p2 p3;unfold chgV sv
 go_enter Tryz.func131,Tryz.ntmps131
 have ca:(w.alloc (.cells #[.int .i64 2,.string ⟨n.toArray⟩,.string ⟨#[]⟩,.slice none 0 0] 139)).cell? ⟨p,3,none⟩=some (.slice pa X.pend.length pc):=dk_3 (zi B.out _);have cb2:((w.alloc (.cells #[.int .i64 2,.string ⟨n.toArray⟩,.string ⟨#[]⟩,.slice none 0 0] 139)).alloc (.cells #[.int .i64 2,.string ⟨n.toArray⟩,.string ⟨#[]⟩,.slice none 0 0] 139)).cell? ⟨p,3,none⟩=some (.slice pa X.pend.length pc):=dk_3 (zi (zi B.out _) _)
 go_wp2_with fail
 have FN:=zz0 (zgA (w.alloc (.cells #[.int .i64 2,.string ⟨n.toArray⟩,.string ⟨#[]⟩,.slice none 0 0] 139)) (w.heap.size+1) (by simp) (.int .i64 2) (.string ⟨n.toArray⟩) (.string ⟨#[]⟩) (.slice none 0 0) 139)
 have KB:=zz0 (zeK w [.int .i64 2,.string ⟨n.toArray⟩,.string ⟨#[]⟩,.slice none 0 0])
 go_region_law(refine zl (by rfl) (.tmp 8) (.tmp 10) 105 (by rfl) 0 139 i0 chg0 4 64 Tryz.underlying105 hi0 hz0 hz1 hz2 rfl (by decide) (.slice pa X.pend.length pc) X.pend.length xs.flatten (by rfl) (zc (S:=zq2) P1.out (by exact⟨KB.out.os,KB.out.tape,KB.out.output,KB.out.size,KB.out.block⟩) (fun _ _ e=>e)) ⟨w.heap.size+1,0,none⟩ 1 1 [.int .i64 2,.string ⟨n.toArray⟩,.string ⟨#[]⟩,.slice none 0 0] (by rfl) (by rfl) (by exact FN.out) (by intro u hu;simp at hu;rcases hu with rfl|rfl|rfl|rfl<;>rfl) (by unfold maxLen;omega) (by omega) (Nat.zero_le _) ?_;intro v1 w1 ho hg hpp;obtain⟨a1,c1,rfl,_,_⟩:=zb ho;have HO:=zz0 ho;have HP:=zz0 hpp;have KG:Hid (za (fun k=>(Value.slice pa X.pend.length pc).ownBlock=some k) w w1):=zz0 (za.grown (a:=w) (by exact⟨KB.out.os,KB.out.tape,KB.out.output,KB.out.size,fun k hk hn=>KB.out.block k hk (fun e=>e)⟩) hg (fun k e=>.inl e));have B1:=KG.out.at B.out (fun e=>(D.out.apart.2.2.2 p e).1 rfl);have e2:=dk_2 B1;have e3:=dk_3 B1;have g3:=dk_f B1 3;have BB1:=zz0 B1;have BX:Hid (w1.heap[w.heap.size]? = some (.cells #[.int .i64 2,.string ⟨n.toArray⟩,.string ⟨#[]⟩,.slice none 0 0] 139)):=zz0 ((hg.block w.heap.size (by simp;omega) (fun e=>by have:=(P1.out.lt w.heap.size e.symm).2;omega)).trans (by exact(zi (ze w _) _)));clear ho hg hpp B1)
 all_goals
  have hb3:(w1.setCell ⟨p,3,none⟩ (.slice a1 (X.pend.length+1) c1)).heap[p]? = some (DkB X.room s h (.slice a1 (X.pend.length+1) c1) X.fuse X.down):=zcW BB1.out _;have r2:=dk_2 hb3;have hpl:=lt_of_block B.out;have bx3:(w1.setCell ⟨p,3,none⟩ (.slice a1 (X.pend.length+1) c1)).heap[w.heap.size]? = some (.cells #[.int .i64 2,.string ⟨n.toArray⟩,.string ⟨#[]⟩,.slice none 0 0] 139):=zdC BX.out (by omega) 3 _
  have q0:(w1.setCell ⟨p,3,none⟩ (.slice a1 (X.pend.length+1) c1)).cell? ⟨w.heap.size,0,none⟩=some (.int .i64 2):=by simp[World.cell?,bx3]
  have q1:(w1.setCell ⟨p,3,none⟩ (.slice a1 (X.pend.length+1) c1)).cell? ⟨w.heap.size,1,none⟩=some (.string ⟨n.toArray⟩):=by simp[World.cell?,bx3]
  have q2:(w1.setCell ⟨p,3,none⟩ (.slice a1 (X.pend.length+1) c1)).cell? ⟨w.heap.size,2,none⟩=some (.string ⟨#[]⟩):=by simp[World.cell?,bx3]
  have q3:(w1.setCell ⟨p,3,none⟩ (.slice a1 (X.pend.length+1) c1)).cell? ⟨w.heap.size,3,none⟩=some (.slice none 0 0):=by simp[World.cell?,bx3]
  have K3:=zz0 (KG.out.trans ((za.refl (zq3 p) w1).setOne 3 (.slice a1 (X.pend.length+1) c1)) (U:=fun k=>(Value.slice pa X.pend.length pc).ownBlock=some k∨k=p) (fun _ _ e=>.inl e) (fun _ _ e=>.inr e))
  have hTn:Hid (∀g,T g→¬((Value.slice pa X.pend.length pc).ownBlock=some g∨g=p)):=zz0 (fun g hg e=>by
   rcases e with e|e
   ·exact D.out.outT.2.2.2.1 g e hg
   ·exact D.out.outT.1 (e ▸ hg))
  have MS:=zz0 (zbA.keep D.out.shown K3.out (fun e=>by rcases e with e|e;exact(D.out.apart.2.2.2 h e).2.2 rfl;exact D.out.apart.2.2.1 e.symm) hTn.out (fun _ e=>e))
  have MSd:=zz0 (zbA.keep MS.out ((za.refl zq2 _).drew) (fun e=>e) (fun _ _ e=>e) (fun _ e=>e))
  have HB3:=zz0 hb3;clear hb3 bx3;go_simp
  go_wp2_with fail
  go_region_with (go_at_call 68;refine(zhh T h X.shown n _ MSd.out D.out.outT.2.2.1 hs hn (fun g e=>K3.out.lt (D.out.outT.2.2.2.2 g e)) hh).mono ?_;rintro e w4 ⟨rfl,k4,m4⟩;have K4:=zz0 (zR k4);have M4:=zz0 m4;clear k4 m4)
  all_goals
   go_wp2_with fail
   go_end0
   exact⟨rfl,zd7 D.out P1.out P23.out (c:=.remove n) (l:=[.int .i64 2,.string ⟨n.toArray⟩,.string ⟨#[]⟩,.slice none 0 0]) (by first|rfl|exact rfl) HO.out (HP.out.imp id (fun e=>e.trans (by congr 1;simp))) KG.out HB3.out K4.out (by show zbA _ T h (if zz X.shown n=true then _ else _);rw[if_pos hh];exact M4.out)⟩
end Go.Proofs.YtpojgmeoaflmoaaGreatDoor
