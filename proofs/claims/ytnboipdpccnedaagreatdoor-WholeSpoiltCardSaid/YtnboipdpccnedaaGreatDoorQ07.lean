/- Frames: put, taken. · Cells: looked at, held against one another, copied. · Runs of cells: their bytes, in plain words; slices of cells. · The text of -/
import Derived.Test.YtnboipdpccnedaaGreatDoorQ03
set_option linter.unusedVariables false
set_option maxRecDepth 100000
set_option maxHeartbeats 16000000
namespace Go.Proofs.YtnboipdpccnedaaGreatDoor
open Go.RowKit
def frameB (t:List UInt8):List UInt8:=sealB (vtext t)
theorem za4 (t:List UInt8):(vtext t).length=(vput t.length).length+t.length:=by simp [vtext]
theorem zcm (t:List UInt8):(frameB t).length=(vput t.length).length+t.length+4:=by simp [frameB,zgC,za4]
theorem zbs (v:Value) (t:List UInt8) (w:World) (h:Bs w v t) (hl:t.length≤65536) :
    Calls Tryz.prog 194 #[.slice none 0 0,v] w fun e w'=>∃ v',e = .returned (.tuple #[v',.nilIface])∧Keep Non w w'∧w'.ownsRow w.heap.size 5 1 v' (frameB t).length ((frameB t).map bv):=by
  have V:=zz0 h
  have h3:(vput t.length).length≤3:=zao (by omega)
  obtain ⟨a,c,rfl,_⟩:=h
  rw [List.length_map] at V ⊢
  go_enter Tryz.func194,Tryz.ntmps194
  go_wp2_with (first
    | (go_at_call 83;refine (zeg _).mono ?_;rintro e w1 ⟨rfl,k1,m1⟩;have K1:=zz0 k1;have M1:Hid (MkNew w1 w.heap.size):=zz0 m1;clear k1 m1)
    | (go_at_call 256;refine (zer _ [] a c t _ (Rd.nil _) (by simp) (by exact V.out.keepNon K1.out) (by omega)).mono ?_;rintro e w2 ⟨v2,rfl,k2,o2⟩;rw [List.nil_append] at o2;have K2:=zz0 k2;have O2:=zz0 o2;clear k2 o2)
    | (go_at_call 264;refine (zjd w.heap.size _ (vtext t) _ (M1.out.keep K2.out (fun e=>e)) (Rd.ofOwns O2.out) (by rw [za4];omega) (fun g e=>by have:=(O2.out.lt g e).1;have:=K1.out.size;have:=M1.out.lt;omega)).mono ?_;rintro e w3 ⟨v3,rfl,k3,o3⟩;obtain ⟨a3,c3,rfl,_,_⟩:=zaa o3;have K3:=zz0 k3;have O3:=zz0 o3;clear k3 o3)
    | (go_at_call 263;have hb2:Bss (w3.alloc (.cells #[Value.slice none 0 0,Value.slice a3 (sealB (vtext t)).length c3] 44)) [Value.slice none 0 0,Value.slice a3 (sealB (vtext t)).length c3] [[],sealB (vtext t)]:=zlz (Rd.nil _) (Rd.keepNon (Rd.ofOwns O3.out) ((Keep.refl _ _).alloc _));refine (zeW _ [Value.slice none 0 0,Value.slice a3 (sealB (vtext t)).length c3] [[],sealB (vtext t)] 2 _ (zlB _ _) hb2 (by simp [zgC,za4];omega) (by simp)).mono ?_;rintro e w4 ⟨v4,rfl,k4,o4⟩;have K4:=zz0 k4;have O4:=zz0 o4;clear k4 o4))
  go_ret2
  have ho:=O4.out
  have e:[[],sealB (vtext t)].flatten=frameB t:=by simp [frameB]
  rw [e] at ho
  have hk:=((K1.out.trans1 K2.out).trans K3.out (U:=Non) (fun _ _ h=>h) (fun i hi e=>by unfold One at e;omega)).trans1 (((Keep.refl _ _).alloc _).trans1 K4.out)
  exact ⟨_,rfl,hk,zad ho (by have h1:=K1.out.size;have h2:=K2.out.size;have h3:=K3.out.size;simp;omega)⟩
theorem zbO {w:World} {base:Nat} {e:TypeId} {size:Nat} {v:Value} {n:Nat} {xs:List Value} (h:w.ownsRow base e size v n xs) (hn:0 < n):∃ g c,v = .slice (some ⟨g,0,none⟩) n c∧n≤c∧base≤g∧g < w.heap.size:=by
  rcases h.2 with ⟨_,h2⟩ | ⟨g,cap,cur,rfl,hb,hg,h1,_⟩
  · omega
  · exact ⟨g,cap,rfl,h1,hb,lt_of_block hg⟩
theorem zkP {x s:List UInt8} {e:Ending} {P:Value→Prop} (hq:fourB (crcI x)=s) (h:(fourB (crcI x)=s∧∃ v',e = .returned (.tuple #[v',.nilIface])∧P v')∨(fourB (crcI x)≠s∧e = .returned (.tuple #[.slice none 0 0,errv 11]))):∃ v',e = .returned (.tuple #[v',.nilIface])∧P v':=by
  rcases h with ⟨_,h⟩ | ⟨q,_⟩
  · exact h
  · exact absurd hq q
theorem zkO {x s:List UInt8} {e:Ending} {P:Value→Prop} (hq:¬ fourB (crcI x)=s) (h:(fourB (crcI x)=s∧∃ v',e = .returned (.tuple #[v',.nilIface])∧P v')∨(fourB (crcI x)≠s∧e = .returned (.tuple #[.slice none 0 0,errv 11]))):e = .returned (.tuple #[.slice none 0 0,.iface 55 (.int .i64 11)]):=by
  rcases h with ⟨q,_⟩ | ⟨_,h⟩
  · exact absurd q hq
  · exact h
theorem zgf (v:Value) (t s:List UInt8) (w:World) (h:Bs w v (vtext t ++ s)) (hc:okc v) (hs:s.length=4) (hl:t.length≤65536) (hv:∀ g,v.ownBlock=some g→g < w.heap.size) :
    Calls Tryz.prog 36 #[v] w fun e w'=>Keep Non w w'∧((fourB (crcI (vtext t))=s∧∃ v',e = .returned (.tuple #[v',.int .i64 (vtext t ++ s).length,.nilIface])∧Bs w' v' t∧okc v'∧(∀ g,v'.ownBlock=some g→w.heap.size≤g∧g < w'.heap.size))∨(fourB (crcI (vtext t))≠s∧e = .returned (.tuple #[.slice none 0 0,.int .i64 0,errv 11]))):=by
  have V:=zz0 h
  have HC:=zz0 hc
  have VB:=zz0 hv
  have h3:(vput t.length).length≤3:=zao (by omega)
  have hlen:(vtext t ++ s).length=(vput t.length).length+t.length+4:=by simp [za4,hs]
  clear hv
  obtain ⟨a,c,rfl,hx⟩:=h
  obtain ⟨g,off,rfl,_⟩:=hx (by intro e;rw [List.map_eq_nil_iff] at e;rw [e] at hlen;simp at hlen)
  have hc1:=hc.1
  rw [List.length_map,hlen] at V VB HC hc1 ⊢
  clear hx hc
  have V2:Hid (Bs w (.slice (some ⟨g,off,none⟩) ((vput t.length).length+t.length+4) c) (vput t.length ++ (t ++ s))):=zz0 (by have:=V.out;unfold vtext at this;rw [List.append_assoc] at this;exact this)
  generalize hhd:(vput t.length).length=hd at h3 hlen V VB HC hc1 V2 ⊢
  have HHD:=zz0 hhd
  clear hhd hlen
  go_enter Tryz.func36,Tryz.ntmps36
  have hd1:1≤hd:=by rw [← HHD.out];exact zc0 _
  have HVL:Hid ((vtext t).length=hd+t.length):=zz0 (by rw [za4,HHD.out])
  by_cases hq:fourB (crcI (vtext t))=s
  · go_wp2_with (go_at_call 82;refine (zhx _ t.length (t ++ s) _ V2.out HC.out (by omega)).mono ?_;rw [HHD.out];rintro e w0 ⟨rfl,e1⟩;subst e1)
    go_region_with (first
      | (go_at_call 83;refine (zeg _).mono ?_;rintro e w1 ⟨rfl,k1,m1⟩;have K1:=zz0 (zax (w:=w0) (by exact k1));have M1:Hid (MkNew w1 w0.heap.size):=zz0 m1;clear k1 m1)
      | (go_at_call 84;refine (zfb w0.heap.size _ (vtext t) s _ M1.out (V.out.keepNon K1.out) HC.out hs (by rw [za4,HHD.out];omega) (fun q e=>by have:=VB.out q e;omega)).mono ?_;rintro e w2 ⟨k2,h2⟩;obtain ⟨v2,rfl,o2⟩:=zkP hq h2;rw [HVL.out] at o2;obtain ⟨g2,c2,rfl,hc2,hg2,hg3⟩:=zbO o2 (by omega);have K2:=zz0 k2;have O2:=zz0 o2;clear k2 o2 h2))
    all_goals
      go_wp2_with fail
      all_goals go_ret3
      all_goals
        have hk:=K1.out.trans K2.out (U:=Non) (fun _ _ h=>h) (fun i hi e=>by unfold One at e;omega)
        have hbs:Bs w2 (.slice (some ⟨g2,0,none⟩) (hd+t.length) c2) (vput t.length ++ t):=Rd.ofOwns O2.out
        have hs1:=K1.out.size
      · exact ⟨hk,_,rfl,by have:=zfO 0 hbs hc2 (by rw [HHD.out];assumption);rw [HHD.out,Nat.add_sub_cancel_left] at this;exact this,⟨by omega,fun ad e=>by injection e with e;exact ⟨_,_,e.symm⟩⟩,fun q e=>by injection e with e;subst e;exact ⟨Nat.le_trans hs1 hg2,hg3⟩⟩
      · exact ⟨hk,_,rfl,by have:=zew hbs;rw [HHD.out,Nat.add_sub_cancel_left,Nat.zero_add] at this;exact this,⟨by omega,fun ad e=>by injection e with e;exact ⟨_,_,e.symm⟩⟩,fun q e=>by injection e with e;subst e;exact ⟨Nat.le_trans hs1 hg2,hg3⟩⟩
  · go_wp2_with (go_at_call 82;refine (zhx _ t.length (t ++ s) _ V2.out HC.out (by omega)).mono ?_;rw [HHD.out];rintro e w0 ⟨rfl,e1⟩;subst e1)
    go_region_with (first
      | (go_at_call 83;refine (zeg _).mono ?_;rintro e w1 ⟨rfl,k1,m1⟩;have K1:=zz0 (zax (w:=w0) (by exact k1));have M1:Hid (MkNew w1 w0.heap.size):=zz0 m1;clear k1 m1)
      | (go_at_call 84;refine (zfb w0.heap.size _ (vtext t) s _ M1.out (V.out.keepNon K1.out) HC.out hs (by rw [za4,HHD.out];omega) (fun q e=>by have:=VB.out q e;omega)).mono ?_;rintro e w2 ⟨k2,h2⟩;obtain rfl:=zkO hq h2;have K2:=zz0 k2;clear k2 h2))
    all_goals
      go_wp2_with fail
      go_ret3
      exact ⟨K1.out.trans K2.out (U:=Non) (fun _ _ h=>h) (fun i hi e=>by unfold One at e;omega),.inr ⟨hq,rfl⟩⟩
def cellE (k:Int) (n:Nat):Int:=if k < 0∨3 < k then 1 else if 64 < n then 3 else if 0 < n∧k≠1 then 2 else 0
theorem zci (k:Int) (a:Option Addr) (n c:Nat) (w:World) :
    Calls Tryz.prog 62 #[.agg #[.int .i64 k,.slice a n c]] w fun e w'=>e = .returned (errv (cellE k n))∧Keep Non w w':=by
  by_cases h1:k < 0∨3 < k
  · have e:errv (cellE k n) = .iface 55 (.int .i64 1):=by unfold cellE;rw [if_pos h1];rfl
    rw [e]
    rcases h1 with h1 | h1
    all_goals
      go_enter Tryz.func62,Tryz.ntmps62
      go_wp2_with fail
      go_ret
      exact ⟨rfl,(Keep.refl _ _).alloc _⟩
  · have h1a:0≤k:=by omega
    have h1b:k≤3:=by omega
    by_cases h2:64 < n
    · have e:errv (cellE k n) = .iface 55 (.int .i64 3):=by unfold cellE;rw [if_neg h1,if_pos h2];rfl
      rw [e]
      clear h1
      go_enter Tryz.func62,Tryz.ntmps62
      go_wp2_with fail
      go_ret
      exact ⟨rfl,(Keep.refl _ _).alloc _⟩
    · have h2a:n≤64:=by omega
      by_cases h3:0 < n∧k≠1
      · have e:errv (cellE k n) = .iface 55 (.int .i64 2):=by unfold cellE;rw [if_neg h1,if_neg h2,if_pos h3];rfl
        rw [e]
        obtain ⟨h3a,h3b⟩:=h3
        clear h1 h2
        go_enter Tryz.func62,Tryz.ntmps62
        go_wp2_with fail
        go_ret
        exact ⟨rfl,(Keep.refl _ _).alloc _⟩
      · have e:errv (cellE k n) = .nilIface:=by unfold cellE;rw [if_neg h1,if_neg h2,if_neg h3];rfl
        rw [e]
        clear h1 h2
        by_cases h4:0 < n
        · obtain rfl:k=1:=by rcases Classical.em (k=1) with h | h;exact h;exact absurd ⟨h4,h⟩ h3
          clear h3
          go_enter Tryz.func62,Tryz.ntmps62
          go_wp2_with fail
          go_ret
          exact ⟨rfl,(Keep.refl _ _).alloc _⟩
        · obtain rfl:n=0:=by omega
          clear h3
          go_enter Tryz.func62,Tryz.ntmps62
          go_wp2_with fail
          go_ret
          exact ⟨rfl,(Keep.refl _ _).alloc _⟩
def ClB (k:Int) (v:Value):Obj:=.cells #[.int .i64 k,v] 60 (0,0)
section
variable {w : World} {p : Nat} {k : Int} {v : Value}
theorem cl0 (h:w.heap[p]? = some (ClB k v)):w.cell? ⟨p,0,none⟩=some (.int .i64 k):=by simp [World.cell?,h,ClB]
theorem cl1 (h:w.heap[p]? = some (ClB k v)):w.cell? ⟨p,1,none⟩=some v:=by simp [World.cell?,h,ClB]
theorem clf (h:w.heap[p]? = some (ClB k v)) (i:Nat):w.frozen? ⟨p,i,none⟩=false:=by simp [World.frozen?,h,ClB]
theorem zaY (h:w.heap[p]? = some (ClB k v)) (j:Int):(w.setCell ⟨p,0,none⟩ (.int .i64 j)).heap[p]? = some (ClB j v):=zaf h 0 _
theorem zbd (h:w.heap[p]? = some (ClB k v)) (u:Value):(w.setCell ⟨p,1,none⟩ u).heap[p]? = some (ClB k u):=zaf h 1 _
end
theorem zf4 (k:Int) (v:Value) (l:List UInt8) (w:World) (h:Bs w v l) (hl:l.length≤100000000) :
    Calls Tryz.prog 232 #[.agg #[.int .i64 k,v]] w fun e w'=>∃ v',e = .returned (.agg #[.int .i64 k,v'])∧Keep Non w w'∧w'.ownsRow w.heap.size 5 1 v' l.length (l.map bv):=by
  have H:=zz0 h
  obtain ⟨a,c,rfl,_⟩:=zaw h
  clear h
  have B1:Hid (((w.alloc (ClB k (.slice a l.length c))).alloc (ClB 0 (.slice none 0 0))).heap[w.heap.size]? = some (ClB k (.slice a l.length c))):=zz0 (zae (zab _ _) _)
  have B2:Hid (((w.alloc (ClB k (.slice a l.length c))).alloc (ClB 0 (.slice none 0 0))).heap[w.heap.size+1]? = some (ClB 0 (.slice none 0 0))):=zz0 (by have:=zab (w.alloc (ClB k (.slice a l.length c))) (ClB 0 (.slice none 0 0));rw [World.size_alloc] at this;exact this)
  go_enter Tryz.func232,Tryz.ntmps232
  go_wp2_with fail
  go_region_with (go_at_call 81;refine (za1 _ l ((w.alloc (ClB k (.slice a l.length c))).alloc (ClB 0 (.slice none 0 0))).drew (by exact Rd.keepNon H.out (((Keep.refl _ _).alloc _).alloc _).drew) (by omega)).mono ?_;rintro e w1 ⟨v1,rfl,k1,o1⟩;obtain ⟨a1,c1,rfl,_,_⟩:=zaa o1;have K1:=zz0 (zax k1);have O1:=zz0 o1;clear k1 o1;have b1:=K1.out.at B1.out (fun e=>e);have b2:=K1.out.at B2.out (fun e=>e);have BB2:=zz0 b2;have c0:=cl0 b1;have d0:=cl0 b2;have d1:=cl1 b2;have f0:=clf b2 0;have f1:=clf b2 1;have k0:=cl0 (zaY b2 k);have k1:=cl1 (zbd (zaY b2 k) (.slice a1 l.length c1));clear b1 b2)
  all_goals
    go_wp2_with fail
    refine bodyPost_ret (v:=.agg #[.int .i64 k,.slice a1 l.length c1]) (by simp [results,Tryz.results232,go_sem,k0,k1]) rfl ?_
    refine ⟨_,rfl,?_,zad (zac (S:=One (w.heap.size+1)) O1.out (((Keep.refl _ _).setOne _ _).setOne _ _) (fun g e=>by have:=(O1.out.lt g e).1;simp at this;unfold One;omega)) (by simp;omega)⟩
    exact ((((Keep.refl Non w).alloc (ClB k (.slice a l.length c))).alloc (ClB 0 (.slice none 0 0))).trans1 K1.out).trans (T:=One (w.heap.size+1)) (((Keep.refl _ _).setOne _ _).setOne _ _) (fun _ _ h=>h) (fun i hi h=>by unfold One at h;omega)
abbrev Cl:=Int × List UInt8
def rowLen (k:Int):List Cl→Nat
  | []=>0
  | x :: r=>if x.1=k then rowLen k r+1 else 0
def rowN:List Cl→Nat
  | []=>0
  | x :: r=>if x.1=1 then 0 else rowLen x.1 (x :: r)
theorem zgA (k:Int):∀ cl:List Cl,rowLen k cl≤cl.length
  | []=>Nat.le_refl _
  | x :: r=>by
    have:=zgA k r
    unfold rowLen
    split
    · simpa using this
    · exact Nat.zero_le _
theorem zhn:∀ cl:List Cl,rowN cl≤cl.length
  | []=>Nat.le_refl _
  | x :: r=>by
    show (if x.1=1 then 0 else rowLen x.1 (x :: r))≤_
    split
    · exact Nat.zero_le _
    · exact zgA _ _
def alikeN:List UInt8→List UInt8→Nat
  | x :: r,y :: s=>if x=y then alikeN r s+1 else 0
  | _,_=>0
theorem zbZ:∀ a b:List UInt8,alikeN a b≤a.length∧alikeN a b≤b.length
  | [],b=>by simp [alikeN]
  | x :: r,[]=>by simp [alikeN]
  | x :: r,y :: s=>by
    have:=zbZ r s
    unfold alikeN
    split
    · simp;omega
    · simp
theorem zdG:∀ a b:List UInt8,a.take (alikeN a b)=b.take (alikeN a b)
  | [],b=>by simp [alikeN]
  | x :: r,[]=>by simp [alikeN]
  | x :: r,y :: s=>by
    unfold alikeN
    split
    · rename_i h
      subst h
      simp [zdG r s]
    · simp
def encRun:Nat→List UInt8→List Cl→List UInt8
  | 0,_,_=>[]
  | _+1,_,[]=>[]
  | f+1,last,x :: r =>
    if 0 < rowN (x :: r) then vput (rowN (x :: r)) ++ vput x.1.toNat ++ encRun f last ((x :: r).drop (rowN (x :: r)))
    else vput 0 ++ vput x.2.length ++ vput (alikeN last x.2) ++ x.2.drop (alikeN last x.2) ++ encRun f x.2 r
def runB (cl:List Cl):List UInt8:=vput cl.length ++ encRun cl.length [] cl
theorem zbG:∀ (f g:Nat) (last:List UInt8) (cl:List Cl),cl.length≤f→cl.length≤g→encRun f last cl=encRun g last cl
  | 0,0,_,_,_,_=>rfl
  | 0,g+1,_,[],_,_=>rfl
  | f+1,0,_,[],_,_=>rfl
  | f+1,g+1,_,[],_,_=>rfl
  | f+1,g+1,last,x :: r,hf,hg=>by
    have h1:r.length≤f:=by simpa using hf
    have h2:r.length≤g:=by simpa using hg
    unfold encRun
    split
    · rename_i h
      rw [zbG f g last _ (by rw [List.length_drop];simp;omega) (by rw [List.length_drop];simp;omega)]
    · rw [zbG f g x.2 r h1 h2]
  | 0,_,_,x :: r,h,_=>by simp at h
  | f+1,0,_,x :: r,_,h=>by simp at h
def CsAt (w:World) (v:Value) (cl:List Cl):Prop:=∃ a c,v = .slice a cl.length c∧cl.length≤c∧(∀ ad,a=some ad→∃ g off,ad=⟨g,off,none⟩)∧∀ j (hj:j < cl.length),∃ g off s,a=some ⟨g,off,none⟩∧w.cell? ⟨g,off+j * 2,none⟩=some (.int .i64 cl[j].1)∧w.cell? ⟨g,off+j * 2+1,none⟩=some s∧Bs w s cl[j].2∧okc s
theorem CsAt.keepNon {w w':World} {v:Value} {cl:List Cl} (h:CsAt w v cl) (k:Keep Non w w'):CsAt w' v cl:=by
  obtain ⟨a,c,rfl,hc,ha,hx⟩:=h
  refine ⟨a,c,rfl,hc,ha,fun j hj=>?_⟩
  obtain ⟨g,off,s,rfl,h1,h2,h3,h4⟩:=hx j hj
  have hg:=World.block_lt_of_cell? _ _ h1
  exact ⟨g,off,s,rfl,(World.cell?_of_block (k.block g hg (fun e=>e))).trans h1,(World.cell?_of_block (k.block g hg (fun e=>e))).trans h2,h3.keepNon k,h4⟩
def NewR (w w':World) (v':Value) (t:List UInt8):Prop:=Bs w' v' t∧okc v'∧(∀ g,v'.ownBlock=some g→w.heap.size≤g∧g < w'.heap.size)
theorem zg6 (v:Value) (t:List UInt8) (w:World) (h:Bs w v (frameB t)) (hc:okc v) (hl:t.length≤65536) (hv:∀ g,v.ownBlock=some g→g < w.heap.size) :
    Calls Tryz.prog 12 #[v] w fun e w'=>Keep Non w w'∧∃ v',e = .returned (.tuple #[v',.nilIface])∧NewR w w' v' t:=by
  have hlen:(vtext t ++ fourB (crcI (vtext t))).length=(frameB t).length:=rfl
  have C:Calls Tryz.prog 36 #[v] w fun e w'=>Keep Non w w'∧∃ v',e = .returned (.tuple #[v',.int .i64 (frameB t).length,.nilIface])∧NewR w w' v' t:=by
    refine (zgf v t _ w h hc (zba _) hl hv).mono ?_
    rw [hlen]
    rintro e w1 ⟨k1,h1⟩
    exact ⟨k1,(h1.resolve_right (fun q=>q.1 rfl)).2⟩
  have HC:=zz0 C
  obtain ⟨a,c,rfl,_⟩:=h
  rw [List.length_map] at HC ⊢
  have hl2:(frameB t).length≤100000:=by
    have h3:(vput t.length).length≤3:=zao (by omega)
    rw [zcm];omega
  clear hc hv hlen C
  generalize (frameB t).length=q at HC hl2 ⊢
  go_enter Tryz.func12,Tryz.ntmps12
  go_wp2_with (go_at_call 36;refine HC.out.mono ?_;rintro e w1 ⟨k1,v1,rfl,r1⟩;have K1:=zz0 k1;have R1:=zz0 r1;clear k1 r1)
  go_ret2
  exact ⟨K1.out,_,rfl,R1.out⟩
theorem zkf (v:Value) (t s:List UInt8) (w:World) (h:Bs w v (vtext t ++ s)) (hs:s.length=4) (hn:fourB (crcI (vtext t))≠s) (hc:okc v) (hl:t.length≤65536) (hv:∀ g,v.ownBlock=some g→g < w.heap.size) :
    Calls Tryz.prog 12 #[v] w fun e w'=>Keep Non w w'∧e = .returned (.tuple #[.slice none 0 0,.iface 55 (.int .i64 11)]):=by
  have C:Calls Tryz.prog 36 #[v] w fun e w'=>Keep Non w w'∧e = .returned (.tuple #[.slice none 0 0,.int .i64 0,.iface 55 (.int .i64 11)]):=by
    refine (zgf v t s w h hc hs hl hv).mono ?_
    rintro e w1 ⟨k1,h1⟩
    exact ⟨k1,(h1.resolve_left (fun q=>hn q.1)).2⟩
  have HC:=zz0 C
  obtain ⟨a,c,rfl,_⟩:=h
  rw [List.length_map] at HC ⊢
  clear hc hv C
  generalize (vtext t ++ s).length=q at HC ⊢
  go_enter Tryz.func12,Tryz.ntmps12
  go_wp2_with (go_at_call 36;refine HC.out.mono ?_;rintro e w1 ⟨k1,rfl⟩;have K1:=zz0 k1;clear k1)
  go_ret2
  exact ⟨K1.out,rfl⟩
end Go.Proofs.YtnboipdpccnedaaGreatDoor
