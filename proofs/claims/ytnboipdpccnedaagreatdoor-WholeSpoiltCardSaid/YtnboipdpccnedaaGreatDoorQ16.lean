/- The taker of a run: a cell with data: walked. · An append onto a row of the call's own: it lies where it lay, or in a new block, and then all old bloc -/
import Derived.Test.YtnboipdpccnedaaGreatDoorQ13
import Derived.Test.YtnboipdpccnedaaGreatDoorQ14
set_option linter.unusedVariables false
set_option maxRecDepth 100000
set_option maxHeartbeats 16000000
namespace Go.Proofs.YtnboipdpccnedaaGreatDoor
open Go.RowKit Go.Maps
theorem znY {w:World} {a:Option Addr} {n c:Nat} {l:List UInt8} (h:Bs w (.slice a n c) l) (s:Nat) (hs:s≤l.length) (c':Nat):Bs w (.slice a s c') (l.take s):=by
  obtain ⟨a',cap,e,hx⟩:=h
  injection e with e1 e2 e3
  subst e1
  refine ⟨a,c',by congr 1;simp;omega,fun hne=>?_⟩
  obtain ⟨g,off,rfl,hc⟩:=hx (by intro e;apply hne;rw [List.map_eq_nil_iff] at e;subst e;simp)
  refine ⟨g,off,rfl,fun j u hu=>hc j u ?_⟩
  rw [List.map_take,List.getElem?_take] at hu
  split at hu
  · exact hu
  · cases hu
theorem zpt (W:World) (a b:Value) (t:TypeId):∀ j u,[a,b][j]? = some u→(W.alloc (.cells #[a,b] t)).cell? ((⟨W.heap.size,0,none⟩:Addr).add j)=some u:=by
  intro j u hu
  rw [zau,Nat.zero_add]
  match j with
  | 0=>simp at hu;subst hu;exact World.cell?_alloc_new _ _ _ 0
  | 1=>simp at hu;subst hu;exact World.cell?_alloc_new _ _ _ 1
  | j+2=>simp at hu
theorem zpi {B:Nat} {F:Nat→Prop} {w3 w4 w5 w6:World} {t p left s n:Nat} {l r last x:Byt} {out:List Cl} {kind:Int} {vo vl v4 v6:Value} (h3:TkAt B F w3 t p l out left last kind vo vl) (h5:TkAt B F w5 t p r out left last kind vo vl)
    (HTL:(last.take s).length=s) (HDL:(x.drop s).length=n - s) (NN:x.length=n) (SN:alikeN last x=s) (hta:last.take s=x.take s) (hs2:s≤n) (K4:Keep Non w3 w4) (K5:Keep (One p) w4 w5)
    (O4:w4.ownsRow w3.drew.heap.size 5 1 v4 s ((last.take s).map bv))
    (HO:w6.ownsRow w3.heap.size 5 1 v6 (s+((x.drop s).map bv).length) ((last.take s).map bv ++ (x.drop s).map bv)) (HG:w5.grownBy w6 v4.ownBlock) :
    ∃ a6 c6,v6 = .slice a6 n c6∧w6.ownsRow w3.heap.size 5 1 (.slice a6 n c6) x.length (x.map bv)∧(∀ g,(Value.slice a6 n c6).ownBlock=some g→w3.heap.size≤g∧g < w6.heap.size)∧TkAt B F w6 t p r out left last kind vo vl∧Keep (One p) w3 w6:=by
  have hlen:s+((x.drop s).map bv).length=n:=by rw [List.length_map,HDL];omega
  have hx:(last.take s).map bv ++ (x.drop s).map bv=x.map bv:=by rw [← List.map_append,hta,List.take_append_drop]
  rw [hlen,hx] at HO
  obtain ⟨a6,c6,rfl,_,_⟩:=zaa HO
  have k45:Keep (One p) w3 w5:=K4.ofNon.trans1 K5
  have kg:Keep (fun k=>v4.ownBlock=some k) w5 w6:=Keep.grown (Keep.refl _ _) HG (fun k e=>.inl e)
  have h4b:∀ g,v4.ownBlock=some g→w3.heap.size≤g:=fun g e=>by have:=(O4.lt g e).1;simpa using this
  have k36:Keep (One p) w3 w6:=k45.trans kg (fun _ _ e=>e) (fun g hg e=>by have:=h4b g e;omega)
  have hB:∀ g,F g→g < w3.heap.size:=fun g e=>by have:=h3.hF g e;have:=h3.htB;have:=lt_of_block h3.blk;omega
  refine ⟨a6,c6,rfl,by rw [NN];exact HO,fun g e=>HO.lt g e,h3.read k36 (h5.rd.keep kg (fun g e e2=>by have:=hB g e;have:=h4b g e2;omega)),k36⟩
theorem znl (B:Nat) (F:Nat→Prop) (t p left:Nat) (r last x:Byt) (out:List Cl) (kind:Int) (vo vl:Value) (w:World) (h:TkAt B F w t p (vput x.length ++ (vput (alikeN last x) ++ (x.drop (alikeN last x) ++ r))) out left last kind vo vl)
    (hn:1≤left) (hx:x.length≤64) (hl:out.length+left≤64) (hla:last.length≤64) :
    Calls Tryz.prog 297 #[.pointer (some ⟨t,0,none⟩)] w fun e w'=>e = .returned (.tuple #[])∧Keep (fun g=>g=p∨B≤g) w w'∧∃ vo' vl',TkAt B F w' t p r (out ++ [(1,x)]) (left - 1) x 1 vo' vl':=by
  have hs1:=(zbZ last x).1
  have hs2:=(zbZ last x).2
  have hta:=zdG last x
  generalize hsN:alikeN last x=s at h hs1 hs2 hta
  have SN:=zz0 hsN
  generalize hnN:x.length=n at h hx hs2
  have NN:=zz0 hnN
  have H:=zz0 h
  have c0:=tk_0 h.blk
  obtain ⟨xs,o1,o2⟩:=h.out
  obtain ⟨oa,oc,rfl,_,_⟩:=zaa o1
  obtain ⟨l1,l2,l3⟩:=h.last
  obtain ⟨la,lc,rfl,_⟩:=zaw l1
  have hlc:last.length≤lc:=l2.1
  obtain ⟨i0,hi0,hz0,hz1,hz2⟩:=info_parts infoCell
  have I0:=zz0 (And.intro hi0 (And.intro hz0 (And.intro hz1 hz2)))
  obtain ⟨j0,hj0,jz0,jz1,jz2⟩:=info_parts infoU8
  have J0:=zz0 (And.intro hj0 (And.intro jz0 (And.intro jz1 jz2)))
  clear h o1 o2 hsN hnN hi0 hz0 hz1 hz2 hj0 jz0 jz1 jz2 l1 l2 l3
  go_enter Tryz.func297,Tryz.ntmps297
  go_wp2_with (first
    | (go_at_call 97;first
       | (refine (zej F p n _ _ H.out.rd (by omega)).mono ?_;rintro e w1 ⟨rfl,k1,r1⟩;have T1:=H.out.read k1 r1;have d0:=tk_0 T1.blk;have d3:=tk_3 T1.blk;have K1:=zz0 k1;have H1:=zz0 T1;clear k1 r1 T1)
       | (refine (zej F p s _ _ H1.out.rd (by omega)).mono ?_;rintro e w2 ⟨rfl,k2,r2⟩;have T2:=H1.out.read k2 r2;have e0:=tk_0 T2.blk;have e3:=tk_3 T2.blk;have K2:=zz0 (K1.out.trans1 k2);have H2:=zz0 T2;clear k2 r2 T2))
    | (go_at_call 154;refine (zbR F p _ _ H2.out.rd).mono ?_;rintro e w3 ⟨rfl,e2⟩;subst e2))
  have hns:IntKind.wrap .u64 ((n:Int) - s)=((n - s:Nat):Int):=by rw [show ((n:Int) - s)=((n - s:Nat):Int) by omega];exact wrap64 (by omega)
  have hns2:IntKind.wrap .i64 ((n - s:Nat):Int)=((n - s:Nat):Int):=IntWalk.i64_in _ (by omega)
  have htl:(last.take s).length=s:=by rw [List.length_take];omega
  have HTL:=zz0 htl
  have hdl:(x.drop s).length=n - s:=by rw [List.length_drop,NN.out]
  have HDL:=zz0 hdl
  have hslc:s≤lc:=by omega
  clear c0 d0 d3 htl hdl
  go_region_law (first
    | (go_simp;go_at_call 81;refine (za1 _ (last.take s) _ (by exact (znY H2.out.last.1 s (by omega) _).keepNon ((Keep.refl _ _).drew)) (by rw [HTL.out];omega)).mono ?_;rintro e w4 ⟨v4,rfl,k4,o4⟩;rw [HTL.out] at o4;obtain ⟨a4,c4,rfl,_,_⟩:=zaa o4;have T4:=H2.out.keepNon (((Keep.refl Non _).drew).trans1 k4);have g0:=tk_0 T4.blk;have H4:=zz0 T4;have K4:=zz0 (((Keep.refl Non _).drew).trans1 k4);have O4:=zz0 o4;clear k4 T4 o4)
    | (go_simp;go_at_call 152;rw [← HDL.out];refine (zhX F p (x.drop s) r _ H4.out.rd (by rw [HDL.out];omega)).mono ?_;rintro e w5 ⟨v5,rfl,k5,r5,o5⟩;rw [HDL.out] at o5;obtain ⟨a5,c5,rfl,_,_⟩:=zaa o5;have H5:=zz0 (H4.out.read k5 r5);have K5:=zz0 k5;have O5:=zz0 o5;clear k5 r5 o5)
    | (refine zay (by rfl) (.tmp 51) (.tmp 60) 44 (by rfl) w3.heap.size 5 j0 (.int .u8 0) 1 Tryz.underlying44 J0.out.1 J0.out.2.1 J0.out.2.2.1 J0.out.2.2.2 rfl (.slice a4 s c4) s ((last.take s).map bv) (by rfl) (by exact zac O4.out K5.out (fun g e=>by have h1:=(O4.out.lt g e).1;have h2:=H2.out.hp;have h3:=H2.out.htB;have h4:=lt_of_block H2.out.blk;unfold One;simp at h1;omega)) (.slice a5 (n - s) c5) (by simp [Act.eval]) ((x.drop s).map bv) (by exact Rd.ofOwns O5.out) (zam _) (by rw [List.length_map,HDL.out];unfold maxLen;omega) (by rw [List.length_map,HDL.out];omega) (by have:=K4.out.size;have:=K5.out.size;omega) ?_;intro v6 w6 ho hg hpp;have HO:=zz0 ho;have HG:=zz0 hg;clear ho hg hpp))
  all_goals
    obtain ⟨a6,c6,rfl,ho,hb6,h6⟩:=zpi H2.out H5.out HTL.out HDL.out NN.out SN.out hta hs2 K4.out K5.out O4.out HO.out HG.out
    have O6:=zz0 ho
    have B6:=zz0 hb6
    have H6:=zz0 h6.1
    have K6:=zz0 h6.2
    have e0:=tk_0 h6.1.blk
    have e1:=tk_1 h6.1.blk
    have e2:=tk_2 h6.1.blk
    have e3:=tk_3 h6.1.blk
    clear ho hb6 h6 HO HG
    go_wp2_with (first
      | (go_at_call 154;refine (zbR F p r _ H6.out.rd).mono ?_;rintro e w7 ⟨rfl,e2⟩;subst e2)
      | (go_at_call 348;refine (zfY _ _ last x _ H6.out.last.1 (Rd.ofOwns O6.out) (by omega) (by have:=NN.out;omega)).mono ?_;rw [SN.out];rintro e w8 ⟨rfl,k8⟩;have T8:=H6.out.keepNon k8;have g0:=tk_0 T8.blk;have g1:=tk_1 T8.blk;have g2:=tk_2 T8.blk;have H8:=zz0 T8;have K8:=zz0 k8;obtain ⟨ys,p1,p2⟩:=T8.out;have P1:=zz0 p1;have P2:=zz0 p2;have OB:=zz0 T8.voT;clear k8 T8 p1 p2)
      | (at_builtin;refine zaj rfl _ _ 22 rfl B 60 i0 _ 2 32 Tryz.underlying22 I0.out.1 I0.out.2.1 I0.out.2.2.1 I0.out.2.2.2 rfl (by decide) (.slice oa out.length oc) out.length ys rfl (zac P1.out ((Keep.refl Non _).alloc _) (fun _ _ e=>e)) ⟨w8.heap.size,0,none⟩ 1 1 [.int .i64 1,.slice a6 n c6] rfl rfl (zpt _ _ _ _) (by intro u hu;simp at hu;rcases hu with rfl | rfl <;> rfl) (by unfold maxLen;omega) (by omega) (by have h2:=H8.out.htB;have h3:=lt_of_block H8.out.blk;simp;omega) ?_;intro v9 w9 ho hg hpp;obtain ⟨a9,c9,rfl,_,_⟩:=zaa ho;have HO:=zz0 ho;have HP:=zz0 hpp;have KG:Hid (Keep (fun k=>(Value.slice oa out.length oc).ownBlock=some k) (w8.alloc (.cells #[.int .i64 1,.slice a6 n c6] 60)) w9):=zz0 (Keep.grown (Keep.refl _ _) hg (fun k e=>.inl e));have b9:=KG.out.at (zae H8.out.blk _) OB.out;have B9:=zz0 b9;have i1:=tk_f b9 1;have i2:=tk_f b9 2;have i3:=tk_f b9 3;have i4:=tk_f b9 4;have j1:=tk_1 b9;have j2:=tk_2 b9;have j3:=tk_3 b9;have j4:=tk_4 b9;clear ho hg hpp b9))
  all_goals
    go_end0
    have hl1:((left:Int) - 1)=((left - 1:Nat):Int):=by omega
    rw [hl1]
    have ha:Keep Non w8 (w8.alloc (.cells #[.int .i64 1,.slice a6 n c6] 60)):=(Keep.refl _ _).alloc _
    have k6:Keep (One t) w9 ((((w9.setCell ⟨t,1,none⟩ (.slice a9 (out.length+1) c9)).setCell ⟨t,2,none⟩ (.int .i64 (left - 1:Nat))).setCell ⟨t,3,none⟩ (.slice a6 n c6)).setCell ⟨t,4,none⟩ (.int .i64 1)):=((((Keep.refl _ _).setOne _ _).setOne _ _).setOne _ _).setOne _ _
    have hb8:∀ g,(Value.slice a6 n c6).ownBlock=some g→B≤g∧g < (w8.alloc (.cells #[.int .i64 1,.slice a6 n c6] 60)).heap.size∧g≠t∧(Value.slice oa out.length oc).ownBlock≠some g:=by
      intro g e
      obtain ⟨q1,q2⟩:=B6.out g e
      have h1:=H2.out.htB
      have h2:=lt_of_block H2.out.blk
      have h3:=ha.lt (K8.out.lt q2)
      obtain ⟨zs,z1,_⟩:=H2.out.out
      exact ⟨by omega,h3,by omega,fun e2=>by have:=(z1.lt g e2).2;omega⟩
    have hbs:Bs (w8.alloc (.cells #[.int .i64 1,.slice a6 n c6] 60)) (.slice a6 n c6) x:=((Rd.ofOwns O6.out).keepNon K8.out).keepNon ha
    have hnew:CellsOf B (fun g=>g=t∨(Value.slice oa out.length oc).ownBlock=some g) (w8.alloc (.cells #[.int .i64 1,.slice a6 n c6] 60)) [.int .i64 1,.slice a6 n c6] [(1,x)]:=by
      refine ⟨rfl,fun j y hj=>?_⟩
      cases j with
      | succ j=>simp at hj
      | zero =>
        simp at hj
        subst hj
        exact ⟨.slice a6 n c6,rfl,rfl,hbs,zbw O6.out,fun g e=>⟨(hb8 g e).1,(hb8 g e).2.1,fun e2=>e2.elim (hb8 g e).2.2.1 (hb8 g e).2.2.2⟩⟩
    have hp:=HP.out
    obtain ⟨c1,c2⟩:=zio (m:=1) (left':=left - 1) (kind':=1) (H8.out.keepNon ha) (P2.out.keep ha (fun _ _ e=>e.elim) (fun _ _ e=>e)) hnew rfl HO.out KG.out hp (zlw (zph (zlv (zlu B9.out _) _) _) _) k6 ⟨hbs,zbw O6.out,hb8⟩
    exact ⟨rfl,zh1 ((K2.out.trans1 K6.out).trans1 K8.out.ofNon) (ha.ofNon.trans1 c1),_,_,c2⟩
end Go.Proofs.YtnboipdpccnedaaGreatDoor
namespace Go.Proofs.YtnboipdpccnedaaGreatDoor
open Go.RowKit
theorem zix {P:Program} (w:World) (base:Nat) (t ty e:TypeId) (i:TypeInfo) (z:Value) (size bytes:Nat) (ht:P.underlying t=some (.slice e)) (hi:P.info? e=some i) (hz:i.zero=some z)
    (hsize:i.size=size) (hby:i.bytes=bytes) (hsz:0 < size)
    (v:Value) (n:Nat) (xs:List Value) (hown:w.ownsRow base e size v n xs)
    (a:Addr) (m c:Nat) (news:List Value) (hl:news.length=m * size) (hnews:∀ j u,news[j]? = some u→w.cell? (a.add j)=some u) (h1:∀ u ∈ news,u.oneCell'=true)
    (h63:n+m≤maxLen) (hbytes:(n+m) * bytes≤140737488355328) {v':Value} {w':World} (hrun:(Builtin.append_ #[t,t] ty #[v,.slice (some a) m c]).run P w = .ok v' w') :
    v'.ownBlock=v.ownBlock∨(v'.ownBlock=some w.heap.size∧Keep Non w w'):=by
  subst hsize
  subst hby
  have hsmall:n+m≤9223372036854775807:=by simp only [maxLen] at h63;omega
  rcases hown.2 with ⟨rfl,rfl⟩ | ⟨g,cap,cur,rfl,hbg,hg,hnc,hcm,hcs,htake⟩
  · by_cases hm:m=0
    · subst hm
      have hn:news = []:=List.eq_nil_of_length_eq_zero (by simpa using hl)
      subst hn
      have hr:(Builtin.append_ #[t,t] ty #[.slice none 0 0,.slice (some a) 0 c]).run P w = .ok (.slice none 0 0) w:=by
        simp [Builtin.append_,run_underlying ht,sizeOf,typeInfo,hi,Builtin.lenOf,Builtin.firstCells,loadCells,loadCellsFrom]
      rw [hr] at hrun
      injection hrun with e1 e2
      subst e1
      exact .inl rfl
    · have hr:=run_append_nil (P:=P) w t ty e i z ht hi hz a m c news hl hnews (by omega) (by omega) (by have hb:=hbytes;simp only [Nat.zero_add] at hb;omega)
      rw [hr] at hrun
      injection hrun with e1 e2
      subst e1
      subst e2
      exact .inr ⟨rfl,(Keep.refl Non w).drew.alloc _⟩
  · by_cases hroom:n+m≤cap
    · have hfit:n * i.size+news.length≤cur.size:=by rw [hl,hcs,← Nat.add_mul];exact Nat.mul_le_mul_right _ hroom
      have hr:=run_append_room (P:=P) w t ty e i ht hi g n cap cur hg a m c news hl hnews h1 hroom hfit
      rw [hr] at hrun
      injection hrun with e1 e2
      subst e1
      exact .inl rfl
    · have holds:∀ j u,xs[j]? = some u→w.cell? ((⟨g,0,none⟩:Addr).add j)=some u:=hown.cells (g:=g) rfl
      have hr:=run_append_grow (P:=P) w t ty e i z ht hi hz ⟨g,0,none⟩ n cap xs hown.1 holds a m c news hl hnews (by omega) (by omega) (growslice_fits (by omega) hbytes)
      rw [hr] at hrun
      injection hrun with e1 e2
      subst e1
      subst e2
      exact .inr ⟨rfl,(Keep.refl Non w).drew.alloc _⟩
theorem zfP {P:Program} (w:World) (base:Nat) (t ty e:TypeId) (i:TypeInfo) (z:Value) (bytes:Nat) (ht:P.underlying t=some (.slice e)) (hi:P.info? e=some i) (hz:i.zero=some z)
    (hsize:i.size=1) (hby:i.bytes=bytes) (hzs:z.cells.size=1)
    (v:Value) (n:Nat) (xs:List Value) (hown:w.ownsRow base e 1 v n xs) (x:Value) (news:List Value) (hr:Rd w x news) (h1:∀ u ∈ news,u.oneCell'=true)
    (h63:n+news.length≤maxLen) (hbytes:(n+news.length) * bytes≤140737488355328) (hbase:base≤w.heap.size) :
    ∃ v' w',(Builtin.append_ #[t,t] ty #[v,x]).run P w = .ok v' w'∧w'.ownsRow base e 1 v' (n+news.length) (xs ++ news)∧w.grownBy w' v.ownBlock∧(v'.ownBlock=v.ownBlock∨(v'.ownBlock=some w.heap.size∧Keep Non w w')):=by
  have hr0:=hr
  obtain ⟨a,c,rfl,hx⟩:=hr
  cases a with
  | none =>
    have hn:news = []:=by
      cases news with
      | nil=>rfl
      | cons u r =>
        obtain ⟨g,off,e,_⟩:=hx (by simp)
        cases e
    subst hn
    have hrun:(Builtin.append_ #[t,t] ty #[v,.slice none 0 c]).run P w = .ok v w:=by
      rcases hown.2 with ⟨rfl,_⟩ | ⟨g,cap,cur,rfl,_,_,hnc,_⟩
      · simp [Builtin.append_,run_underlying ht,sizeOf,typeInfo,hi,Builtin.lenOf,Builtin.firstCells]
      · simp [Builtin.append_,run_underlying ht,sizeOf,typeInfo,hi,Builtin.lenOf,Builtin.firstCells,hnc,storeCells]
    exact ⟨v,w,hrun,by simpa using hown,World.grownBy.refl w _,.inl rfl⟩
  | some a =>
    have hn:=(Rd.news hr0 rfl).2
    obtain ⟨v',w',hrun,h2,h3,_⟩:=run_append_own (P:=P) w base t ty e i z 1 bytes ht hi hz hsize hby hzs (by decide) v n xs hown a news.length c news (by omega) hn h1 h63 hbytes hbase
    exact ⟨v',w',hrun,h2,h3,zix w base t ty e i z 1 bytes ht hi hz hsize hby (by decide) v n xs hown a news.length c news (by omega) hn h1 h63 hbytes hrun⟩
theorem zeO {P:Program} {w:World} {ops:Array Oper} {o:Oper} {a:Act} {K:Act→World→Prop} {Q:Exit→Act→World→Prop} {E:Prop} (hgd:o.guard=none) (s x:Operand) (t:TypeId)
    (ho:o.op = .call { callee:=.builtin .append,args:=#[s,x],argTypes:=#[t,t] })
    (base:Nat) (e:TypeId) (i:TypeInfo) (z:Value) (bytes:Nat) (ht:P.underlying t=some (.slice e)) (hi:P.info? e=some i) (hz:i.zero=some z)
    (hsize:i.size=1) (hby:i.bytes=bytes) (hzs:z.cells.size=1)
    (v:Value) (n:Nat) (xs:List Value) (hs:a.eval s=v) (hown:w.ownsRow base e 1 v n xs)
    (xv:Value) (hx:a.eval x=xv) (news:List Value) (hr:Rd w xv news) (h1:∀ u ∈ news,u.oneCell'=true)
    (h63:n+news.length≤maxLen) (hbytes:(n+news.length) * bytes≤140737488355328) (hbase:base≤w.heap.size)
    (h:∀ v' w',w'.ownsRow base e 1 v' (n+news.length) (xs ++ news)→w.grownBy w' v.ownBlock→(v'.ownBlock=v.ownBlock∨(v'.ownBlock=some w.heap.size∧Keep Non w w'))→K (a.put o.dst v') w') :
    if Region.wanted o (yielded ops a.tmps)=true then Oper.wp P o a w K Q else E:=by
  have hw:Region.wanted o (yielded ops a.tmps)=true:=by simp [Region.wanted,hgd]
  rw [if_pos hw]
  obtain ⟨v',w',hr,h2,h3,h4⟩:=zfP (P:=P) w base t o.type e i z bytes ht hi hz hsize hby hzs v n xs hown xv news hr h1 h63 hbytes hbase
  unfold Oper.wp execOp
  simp only [ho,resolve,invoke,builtin,Sem.run_bind,Sem.run_pure,Result.andThen_ok,List.map_toArray,List.map_cons,List.map_nil,hs,hx,hr]
  exact h v' w' h2 h3 h4
end Go.Proofs.YtnboipdpccnedaaGreatDoor
namespace Go.Proofs.YtnboipdpccnedaaGreatDoor
open Go.RowKit Go.Maps
theorem zfd (k:Int):∀ cl:List Cl,(∀ x ∈ cl,x.1≠1→x.2 = [])→k≠1→cl.take (rowLen k cl)=List.replicate (rowLen k cl) (k,[])
  | [],_,_=>rfl
  | x :: r,h,hk=>by
    unfold rowLen
    split
    · rename_i e
      have hx:x=(k,[]):=Prod.ext e (h x (by simp) (by rw [e];exact hk))
      rw [List.take_succ_cons,List.replicate_succ,zfd k r (fun y hy=>h y (by simp [hy])) hk,hx]
    · rfl
theorem zey (k:Int):∀ (cl:List Cl) x,(cl.drop (rowLen k cl)).head? = some x→x.1≠k
  | [],x,h=>by simp at h
  | y :: r,x,h=>by
    unfold rowLen at h
    split at h
    · rw [List.drop_succ_cons] at h
      exact zey k r x h
    · rename_i e
      simp at h
      rw [← h]
      exact e
theorem zm2 {x:Cl} {r:List Cl} (h:0 < rowN (x :: r)):x.1≠1∧rowN (x :: r)=rowLen x.1 (x :: r):=by
  have e:rowN (x :: r)=if x.1=1 then 0 else rowLen x.1 (x :: r):=rfl
  rw [e] at h ⊢
  split at h
  · omega
  · rename_i h1
    exact ⟨h1,if_neg h1⟩
theorem zk6 {x:Cl} {r:List Cl} (h:¬ 0 < rowN (x :: r)):x.1=1:=by
  apply Classical.byContradiction
  intro h1
  apply h
  have e:rowN (x :: r)=if x.1=1 then 0 else rowLen x.1 (x :: r):=rfl
  rw [e,if_neg h1]
  unfold rowLen
  rw [if_pos rfl]
  omega
theorem zo6 (rest:List Cl) (last r:Byt) (hok:∀ x ∈ rest,okCl x) (h:0 < rowN rest):∃ (N:Nat) (k:Int),1≤N∧N≤rest.length∧k≠1∧0≤k∧k≤3 ∧
    encRun rest.length last rest ++ r=vput N ++ (vput k.toNat ++ (encRun (rest.length - N) last (rest.drop N) ++ r))∧rest.take N=List.replicate N (k,[])∧(∀ y,(rest.drop N).head? = some y→y.1≠k)∧(∀ x,rest.head? = some x→x.1=k):=by
  cases rest with
  | nil=>simp [rowN] at h
  | cons x rs =>
    obtain ⟨hx1,hxr⟩:=zm2 h
    obtain ⟨hk0,hk3,_,_⟩:=hok x (by simp)
    refine ⟨rowN (x :: rs),x.1,h,zhn _,hx1,hk0,hk3,?_,?_,?_,fun y e=>by simp at e;rw [e]⟩
    · have e:encRun (x :: rs).length last (x :: rs)=vput (rowN (x :: rs)) ++ vput x.1.toNat ++ encRun rs.length last ((x :: rs).drop (rowN (x :: rs))):=by
        show (if 0 < rowN (x :: rs) then _ else _)=_
        rw [if_pos h]
      rw [e,zbG rs.length ((x :: rs).length - rowN (x :: rs)) last _ (by rw [List.length_drop];simp;omega) (by rw [List.length_drop];exact Nat.le_refl _)]
      simp only [List.append_assoc]
    · rw [hxr];exact zfd _ _ (fun y hy=>(hok y hy).2.2.2) hx1
    · rw [hxr];exact zey _ _
theorem zm6 (rest:List Cl) (last r:Byt) (hok:∀ x ∈ rest,okCl x) (hne:rest≠[]) (h:¬ 0 < rowN rest):∃ (x:Byt) (rs:List Cl),rest=(1,x) :: rs∧x.length≤64∧(∀ y ∈ rs,okCl y) ∧
    encRun rest.length last rest ++ r=vput 0 ++ (vput x.length ++ (vput (alikeN last x) ++ (x.drop (alikeN last x) ++ (encRun rs.length x rs ++ r)))):=by
  cases rest with
  | nil=>exact absurd rfl hne
  | cons x rs =>
    obtain ⟨k,x⟩:=x
    have h1:=zk6 h
    simp only at h1
    subst h1
    refine ⟨x,rs,rfl,(hok (1,x) (by simp)).2.2.1,fun y hy=>hok y (by simp [hy]),?_⟩
    show (if 0 < rowN ((1,x) :: rs) then _ else _) ++ r=_
    rw [if_neg h]
    simp only [List.append_assoc]
theorem CsAt.of {B:Nat} {S:Nat→Prop} {w:World} {v:Value} {xs:List Value} {cl:List Cl} (h:w.ownsRow B 60 2 v cl.length xs) (h2:CellsOf B S w xs cl):CsAt w v cl:=by
  rcases h.2 with ⟨hv,hn⟩ | ⟨g,cap,cur,rfl,_,hg,hn,_,_,htake⟩
  · obtain rfl:cl = []:=List.eq_nil_of_length_eq_zero (by omega)
    exact ⟨none,0,by rw [hv];rfl,by simp,fun ad e=>(by cases e),fun j hj=>by simp at hj⟩
  · refine ⟨some ⟨g,0,none⟩,cap,rfl,hn,fun ad e=>⟨g,0,by injection e with e;exact e.symm⟩,fun j hj=>?_⟩
    obtain ⟨s,h3,h4,h5,h6,_⟩:=h2.2 j cl[j] (List.getElem?_eq_getElem hj)
    have hx:∀ i u,xs[i]? = some u→w.cell? ⟨g,0+i,none⟩=some u:=by
      intro i u hu
      rw [Nat.zero_add,World.cell?,hg]
      rw [← htake,List.getElem?_take] at hu
      split at hu
      · simpa using hu
      · cases hu
    exact ⟨g,0,s,rfl,by rw [Nat.mul_comm];exact hx _ _ h3,by rw [Nat.mul_comm,Nat.add_assoc];exact hx _ _ h4,h5,h6⟩
theorem CellsOf.low {B B':Nat} {S S':Nat→Prop} {w:World} {xs:List Value} {out:List Cl} (h:CellsOf B S w xs out) (hB:B'≤B) (hS:∀ g,S' g→S g):CellsOf B' S' w xs out:=by
  refine ⟨h.1,fun j x hx=>?_⟩
  obtain ⟨s,h1,h2,h3,h4,h5⟩:=h.2 j x hx
  exact ⟨s,h1,h2,h3,h4,fun g e=>⟨by have:=(h5 g e).1;omega,(h5 g e).2.1,fun e2=>(h5 g e).2.2 (hS g e2)⟩⟩
def tkLeft (w:World) (b:Nat):Nat:=match w.cell? ⟨b,2,none⟩ with | some (.int _ k)=>k.toNat | _=>0
theorem TkAt.left {B:Nat} {F:Nat→Prop} {w:World} {t p left:Nat} {l last:Byt} {out:List Cl} {kind:Int} {vo vl:Value} (h:TkAt B F w t p l out left last kind vo vl):tkLeft w t=left:=by
  unfold tkLeft
  rw [tk_2 h.blk]
  simp
def TkLoop (B:Nat) (F:Nat→Prop) (w1:World) (cl:List Cl) (r:Byt) (p:Nat) (wr:World) (rest:List Cl):Prop :=
  ∃ (last:Byt) (done:List Cl) (kind:Int) (vo vl:Value),cl=done ++ rest∧TkAt B F wr B p (encRun rest.length last rest ++ r) done rest.length last kind vo vl∧last.length≤64∧(∀ x,rest.head? = some x→x.1≠1→x.1≠kind)∧(∀ x ∈ rest,okCl x)∧Keep (fun g=>g=p∨B≤g) w1 wr
theorem zjp (F:Nat→Prop) (p:Nat) (cl:List Cl) (r:Byt) (w:World) (h:RdAt F w p (runB cl ++ r)) (hl:cl.length≤64) (hok:∀ x ∈ cl,okCl x) (hF:∀ g,F g→g < w.heap.size) :
    Calls Tryz.prog 220 #[.pointer (some ⟨p,0,none⟩)] w fun e w'=>∃ v',e = .returned v'∧Keep (One p) w w'∧RdAt F w' p r∧∃ xs,w'.ownsRow w.heap.size 60 2 v' cl.length xs∧CellsOf w.heap.size Non w' xs cl:=by
  have H:=zz0 h
  have HF:=zz0 hF
  have hpw:F p:=by obtain ⟨_,_,_,_,h4,_⟩:=h;exact h4
  have HP:=zz0 hpw
  have h':RdAt F w p (vput cl.length ++ (encRun cl.length [] cl ++ r)):=by rw [← List.append_assoc];exact h
  have H0:=zz0 h'
  have hmin:min (cl.length:Int) 64=cl.length:=by omega
  clear h h' hF hpw
  go_enter Tryz.func220,Tryz.ntmps220
  go_wp2_with (first
    | (go_at_call 97;refine (zej F p cl.length _ _ H0.out (by omega)).mono ?_;rintro e w1 ⟨rfl,k1,r1⟩;have K1:=zz0 k1;have R1:=zz0 r1;clear k1 r1))
  have hF1:∀ g,F g→g < w1.heap.size:=fun g e=>K1.out.lt (HF.out g e)
  have HF1:=zz0 hF1
  clear hF1
  go_loopw [] (fun wr=>∃ rest,TkLoop w1.heap.size F w1 cl r p wr rest) (fun wr=>tkLeft wr w1.heap.size)
  case atStart =>
    have kb:Keep Non w1 (w1.alloc (TkB p (.slice none 0 0) cl.length (.slice none 0 0) 1)):=(Keep.refl _ _).alloc _
    refine ⟨cl,[],[],1,.slice none 0 0,.slice none 0 0,rfl,⟨zab _ _,R1.out.keep kb (fun _ _ e=>e),HF1.out,Nat.le_refl _,⟨[],World.ownsRow_nil _ _ _ _,CellsOf.nil _ _ _⟩,(fun e=>by cases e),⟨Rd.nil _,⟨Nat.le_refl _,fun ad e=>by cases e⟩,fun g e=>by cases e⟩⟩,by simp,fun _ _ h=>h,hok,kb.ofNon⟩
  case round =>
    obtain ⟨rest,last,done,kind,vo,vl,hcl,hT,hla,hkind,hokr,hK⟩:=hrel
    have K:=zz0 hK
    have T:=zz0 hT
    have CL:=zz0 hcl
    have c0:=tk_0 hT.blk
    have c1:=tk_1 hT.blk
    have c2:=tk_2 hT.blk
    have OKR:=zz0 hokr
    have KD:=zz0 hkind
    have hlen:done.length+rest.length≤64:=by rw [hcl,List.length_append] at hl;exact hl
    have LN:=zz0 hT.left
    clear hK hT hcl hokr hkind
    by_cases hne:rest = []
    · subst hne
      simp only [List.length_nil] at c2
      go_wp2_with (go_at_call 154;refine (zbR F p _ _ T.out.rd).mono ?_;rintro e w2 ⟨rfl,e2⟩;subst e2)
      go_ret
      have hd:cl=done:=by have:=CL.out;simpa using this
      obtain ⟨xs,o1,o2⟩:=T.out.out
      have hr:=T.out.rd
      refine ⟨_,rfl,?_,by simpa [encRun] using hr,xs,?_,?_⟩
      · exact K1.out.trans K.out (fun _ _ e=>e) (fun g hg e=>by rcases e with e | e;exact e;have:=K1.out.size;omega)
      · rw [hd];exact zad o1 K1.out.size
      · rw [hd];exact o2.low K1.out.size (fun _ e=>e.elim)
    · have hpos:(0:Int) < (rest.length:Nat):=by have:=List.length_pos_iff.2 hne;omega
      have hpos2:0 < rest.length:=List.length_pos_iff.2 hne
      by_cases hn:0 < rowN rest
      · obtain ⟨N,k,hN1,hN2,hk1,hk0,hk3,hen,htk,hnx,hhd⟩:=zo6 rest last r OKR.out hn
        have hkk:k≠kind:=by
          cases rest with
          | nil=>exact absurd rfl hne
          | cons x rs=>have:=KD.out x rfl;rw [hhd x rfl] at this;exact this hk1
        have EN:=zz0 hen
        have TK:=zz0 htk
        have NX:=zz0 hnx
        have HH:=zz0 (And.intro hkk (And.intro hk1 (And.intro hk0 hk3)))
        have hNp:(0:Int) < (N:Int):=by omega
        clear hen htk hnx hhd hne hn hkk hk1 hk0 hk3
        go_wp2_with (first
          | (go_at_call 154;first
              | (with_reducible refine (zbR F p _ wr T.out.rd).mono ?_;rintro e w2 ⟨rfl,e2⟩;subst e2)
              | (with_reducible refine (zbR F p _ _ T4.out.rd).mono ?_;rintro e w2 ⟨rfl,e2⟩;subst e2))
          | (go_at_call 97;refine (zej F p N _ _ (by have h0:=T.out.rd;rw [EN.out] at h0;exact h0) (by omega)).mono ?_;rintro e w4 ⟨rfl,k4,r4⟩;have t4:=T.out.read k4 r4;have d0:=tk_0 t4.blk;have T4:=zz0 t4;have K4:=zz0 k4;clear k4 r4 t4)
          | (go_at_call 296;refine (zpl w1.heap.size F w1.heap.size p rest.length N _ last done k kind vo vl _ T4.out hN1 hN2 hlen HH.out.2.2.1 HH.out.2.2.2 HH.out.2.1 HH.out.1).mono ?_;rintro e w5 ⟨rfl,k5,vo',t5⟩;have T5:=zz0 t5;have K5:=zz0 k5;clear k5 t5))
        have hdl:(rest.drop N).length=rest.length - N:=List.length_drop ..
        refine ⟨⟨rest.drop N,last,done ++ List.replicate N (k,[]),k,vo',vl,?_,by rw [hdl];exact T5.out,hla,fun y hy _=>NX.out y hy,fun y hy=>OKR.out y (List.mem_of_mem_drop hy),?_⟩,?_⟩
        · rw [CL.out,← TK.out,List.append_assoc,List.take_append_drop]
        · exact (K.out.trans1 (K4.out.mono (fun _ _ e=>.inl e))).trans1 K5.out
        · rw [T5.out.left,LN.out];omega
      · obtain ⟨x,rs,hrs,hx,hok2,hen⟩:=zm6 rest last r OKR.out hne hn
        have EN:=zz0 hen
        have RS:=zz0 hrs
        have OK2:=zz0 hok2
        clear hen hrs hne hn hok2
        go_wp2_with (first
          | (go_at_call 154;first
              | (with_reducible refine (zbR F p _ wr T.out.rd).mono ?_;rintro e w2 ⟨rfl,e2⟩;subst e2)
              | (with_reducible refine (zbR F p _ _ T4.out.rd).mono ?_;rintro e w2 ⟨rfl,e2⟩;subst e2))
          | (go_at_call 97;refine (zej F p 0 _ _ (by have h0:=T.out.rd;rw [EN.out] at h0;exact h0) (by omega)).mono ?_;rintro e w4 ⟨rfl,k4,r4⟩;have t4:=T.out.read k4 r4;have d0:=tk_0 t4.blk;have T4:=zz0 t4;have K4:=zz0 k4;clear k4 r4 t4)
          | (go_at_call 297;refine (znl w1.heap.size F w1.heap.size p rest.length _ last x done kind vo vl _ T4.out hpos2 hx hlen hla).mono ?_;rintro e w5 ⟨rfl,k5,vo',vl',t5⟩;have T5:=zz0 t5;have K5:=zz0 k5;clear k5 t5))
        have hdl:rest.length - 1=rs.length:=by rw [RS.out];simp
        have t5:=T5.out
        rw [hdl] at t5
        refine ⟨⟨rs,x,done ++ [(1,x)],1,vo',vl',?_,t5,hx,fun y hy e=>e,OK2.out,?_⟩,?_⟩
        · rw [CL.out,RS.out];simp
        · exact (K.out.trans1 (K4.out.mono (fun _ _ e=>.inl e))).trans1 K5.out
        · rw [t5.left,LN.out];omega
end Go.Proofs.YtnboipdpccnedaaGreatDoor
