/- Runs of cells: how long a row is, how much two texts have in common: walked. · cell.PutRun: walked. -/
import Derived.Test.YtnboipdpccnedaaGreatDoorQ07
set_option linter.unusedVariables false
set_option maxRecDepth 100000
set_option maxHeartbeats 16000000
namespace Go.Proofs.YtnboipdpccnedaaGreatDoor
open Go.RowKit
theorem zex (k:Int):∀ (cl:List Cl) (j:Nat),(∀ i (h:i < cl.length),i < j→cl[i].1=k)→j≤cl.length→rowLen k cl=j+rowLen k (cl.drop j)
  | cl,0,_,_=>by simp
  | [],j+1,_,h=>by simp at h
  | x :: r,j+1,h,hj=>by
    have h0:x.1=k:=h 0 (by simp) (by omega)
    have:=zex k r j (fun i hi hij=>h (i+1) (by simpa using hi) (by omega)) (by simpa using hj)
    rw [List.drop_succ_cons]
    show (if x.1=k then rowLen k r+1 else 0)=_
    rw [if_pos h0,this]
    omega
theorem zdE:∀ (a b:List UInt8) (j:Nat),a.take j=b.take j→j≤a.length→j≤b.length→alikeN a b=j+alikeN (a.drop j) (b.drop j)
  | a,b,0,_,_,_=>by simp
  | [],b,j+1,_,h,_=>by simp at h
  | x :: r,[],j+1,_,_,h=>by simp at h
  | x :: r,y :: s,j+1,h,ha,hb=>by
    rw [List.take_succ_cons,List.take_succ_cons] at h
    injection h with h1 h2
    have:=zdE r s j h2 (by simpa using ha) (by simpa using hb)
    rw [List.drop_succ_cons,List.drop_succ_cons]
    show (if x=y then alikeN r s+1 else 0)=_
    rw [if_pos h1,this]
    omega
theorem zez (cl:List Cl) (j:Nat) (hj:j≤cl.length) (R:∀ i (h:i < cl.length),i < j→cl[i].1≠1∧∀ h0:0 < cl.length,cl[i].1=cl[0].1) (hs:∀ h:j < cl.length,cl[j].1=1∨cl[j].1≠cl[0].1):rowN cl=j:=by
  cases cl with
  | nil=>have:j=0:=by simpa using hj
         subst this;rfl
  | cons x r =>
    show (if x.1=1 then 0 else rowLen x.1 (x :: r))=j
    by_cases h1:x.1=1
    · rw [if_pos h1]
      cases j with
      | zero=>rfl
      | succ j=>exact absurd h1 (R 0 (by simp) (by omega)).1
    · rw [if_neg h1,zex x.1 (x :: r) j (fun i h hi=>(R i h hi).2 (by simp)) hj]
      rcases Nat.lt_or_ge j (x :: r).length with h | h
      · rw [List.drop_eq_getElem_cons h]
        show j+(if (x :: r)[j].1=x.1 then _ else 0)=j
        rw [if_neg (fun e=>by rcases hs h with q | q;exact h1 (e.symm.trans q);exact q e)]
        rfl
      · rw [List.drop_eq_nil_of_le h]
        rfl
theorem zk7 (v:Value) (cl:List Cl) (w:World) (h:CsAt w v cl) (hl:cl.length≤1000000) :
    Calls Tryz.prog 381 #[v] w fun e w'=>e = .returned (.int .i64 (rowN cl))∧Keep Non w w':=by
  have H:=zz0 h
  obtain ⟨a,c,rfl,hc,ha,hx⟩:=h
  clear hx
  go_enter Tryz.func381,Tryz.ntmps381
  go_wp2_with fail
  go_loopw [3] (fun i wr=>∃ j:Nat,j≤cl.length∧i = .int .i64 j∧Keep Non w wr∧(∀ i (h:i < cl.length),i < j→cl[i].1≠1∧∀ h0:0 < cl.length,cl[i].1=cl[0].1)) (fun i _=>cl.length - (intOf i).toNat)
  case atStart=>exact ⟨0,by omega,rfl,Keep.refl _ _,fun i h hi=>by omega⟩
  case round =>
    obtain ⟨j,hj,rfl,hk,hr⟩:=hrel
    have K:=zz0 hk
    have R:=zz0 hr
    clear hk hr
    by_cases hlt:j < cl.length
    · have hlj:(j:Int) < (cl.length:Int):=by omega
      obtain ⟨a1,c1,e1,q1,q2,hx⟩:=H.out.keepNon K.out
      obtain ⟨g,off,s,rfl,d1,_⟩:=hx j hlt
      obtain ⟨g',off',s',e2,d2,_⟩:=hx 0 (by omega)
      injection e1 with e1 e3 e4
      subst e1
      subst e4
      injection e2 with e2
      injection e2 with e2 e5
      subst e2
      subst e5
      clear hx q1 q2 e3
      rw [Nat.zero_mul,Nat.add_zero] at d2
      generalize hx1:cl[j].1=x at d1
      generalize hy1:cl[0].1=y at d2
      have HX:=zz0 hx1
      have HY:=zz0 hy1
      clear hx1 hy1
      by_cases h1:x=1
      · go_wp2_with fail
        go_quiet (fail)
        go_wp2_with fail
        go_ret
        exact ⟨by rw [zez cl j (by omega) R.out (fun h=>.inl (HX.out.trans h1))];rfl,K.out.drewN _⟩
      · have g1:(x != 1)=true:=by simpa using h1
        by_cases h2:x=y
        · subst h2
          go_wp2_with fail
          go_quiet (fail)
          go_wp2_with fail
          exact ⟨⟨j+1,by omega,by first | rfl | go_num,K.out.drewN _,fun i h hi=>by
            rcases Nat.lt_or_ge i j with h3 | h3
            · exact R.out i h h3
            · obtain rfl:i=j:=by omega
              exact ⟨fun e=>h1 (HX.out.symm.trans e),fun h0=>HX.out.trans HY.out.symm⟩⟩,by simp [intOf];omega⟩
        · have g2:(x == y)=false:=by simpa using h2
          go_wp2_with fail
          go_quiet (fail)
          go_wp2_with fail
          go_ret
          exact ⟨by rw [zez cl j (by omega) R.out (fun h=>.inr (fun e=>h2 (HX.out.symm.trans (e.trans HY.out))))];rfl,K.out.drewN _⟩
    · obtain rfl:j=cl.length:=by omega
      go_wp2_with fail
      go_quiet (fail)
      go_wp2_with fail
      go_ret
      exact ⟨by rw [zez cl cl.length (Nat.le_refl _) R.out (fun h=>absurd h (Nat.lt_irrefl _))];rfl,K.out.drewN _⟩
theorem zdF (a b:List UInt8) (j:Nat) (ha:j≤a.length) (hb:j≤b.length) (R:a.take j=b.take j) (hs:∀ (h:j < a.length) (h':j < b.length),a[j]≠b[j]):alikeN a b=j:=by
  rw [zdE a b j R ha hb]
  rcases Nat.lt_or_ge j a.length with h | h
  · rcases Nat.lt_or_ge j b.length with h' | h'
    · rw [List.drop_eq_getElem_cons h,List.drop_eq_getElem_cons h']
      show j+(if a[j]=b[j] then _ else 0)=j
      rw [if_neg (hs h h')]
      rfl
    · rw [List.drop_eq_nil_of_le h']
      cases a.drop j <;> rfl
  · rw [List.drop_eq_nil_of_le h]
    rfl
theorem zfY (v v':Value) (l m:List UInt8) (w:World) (h:Bs w v l) (h':Bs w v' m) (hl:l.length≤100000000) (hm:m.length≤100000000) :
    Calls Tryz.prog 348 #[v,v'] w fun e w'=>e = .returned (.int .i64 (alikeN l m))∧Keep Non w w':=by
  have H:=zz0 h
  have H':=zz0 h'
  obtain ⟨a,c,rfl,q0⟩:=zaw h
  obtain ⟨a',c',rfl,q1⟩:=zaw h'
  clear h h' q0 q1
  go_enter Tryz.func348,Tryz.ntmps348
  go_wp2_with fail
  go_loopw [5] (fun i wr=>∃ j:Nat,j≤l.length∧j≤m.length∧i = .int .i64 j∧l.take j=m.take j∧Keep Non w wr) (fun i _=>l.length - (intOf i).toNat)
  case atStart=>exact ⟨0,by omega,by omega,rfl,rfl,Keep.refl _ _⟩
  case round =>
    obtain ⟨j,hj,hj2,rfl,he,hk⟩:=hrel
    have HE:=zz0 he
    have K:=zz0 hk
    clear he hk
    by_cases hlt:j < l.length∧j < m.length
    · obtain ⟨hlt,hlt'⟩:=hlt
      obtain ⟨a1,c1,e1,q⟩:=zaw (H.out.keepNon K.out)
      obtain ⟨g,off,rfl,hcell⟩:=q j hlt
      injection e1 with e1 e5 e3
      subst e1
      subst e3
      obtain ⟨a2,c2,e2,q'⟩:=zaw (H'.out.keepNon K.out)
      obtain ⟨g2,off2,rfl,hcell2⟩:=q' j hlt'
      injection e2 with e2 e6 e4
      subst e2
      subst e4
      clear e5 e6
      have hlj:(j:Int) < (l.length:Int):=by omega
      have hlj2:(j:Int) < (m.length:Int):=by omega
      have HQ:Hid (l[j].toNat=m[j].toNat ↔ l.take (j+1)=m.take (j+1)):=zz0 (zgO hlt hlt' HE.out)
      have HN:Hid (l[j].toNat≠m[j].toNat→alikeN l m=j):=zz0 (fun hne=>zdF l m j (by omega) (by omega) HE.out (fun _ _ e=>hne (by rw [e])))
      have hmin:(j:Int) < min (l.length:Int) (m.length:Int):=by omega
      clear q q'
      generalize l[j].toNat=x at hcell HQ HN
      generalize m[j].toNat=y at hcell2 HQ HN
      by_cases hxy:x=y
      · subst hxy
        have HQ2:=zz0 (HQ.out.1 rfl)
        clear HQ HN
        rcases Int.lt_or_le (m.length:Int) (l.length:Int) with hml | hml
        all_goals
          go_wp2_with fail
          go_quiet (fail)
          go_wp2_with fail
          exact ⟨⟨j+1,by omega,by omega,by first | rfl | go_num,HQ2.out,K.out.drewN _⟩,by simp [intOf];omega⟩
      · have hne:(((x:Nat):Int) == (y:Int))=false:=by simp;omega
        have HN2:=zz0 (HN.out hxy)
        clear HQ HN
        rcases Int.lt_or_le (m.length:Int) (l.length:Int) with hml | hml
        all_goals
          go_wp2_with fail
          go_quiet (fail)
          go_wp2_with fail
          go_ret
          exact ⟨by rw [HN2.out];rfl,K.out.drewN _⟩
    · have HN:Hid (alikeN l m=j):=zz0 (zdF l m j hj hj2 HE.out (fun h h'=>absurd ⟨h,h'⟩ hlt))
      have hmin:¬ (j:Int) < min (l.length:Int) (m.length:Int):=by omega
      clear hlt
      rcases Int.lt_or_le (m.length:Int) (l.length:Int) with hml | hml
      · have hq:¬ j < m.length:=by omega
        clear hmin
        go_wp2_with fail
        go_quiet (fail)
        go_wp2_with fail
        go_ret
        exact ⟨by rw [HN.out];rfl,K.out.drewN _⟩
      · have hq:¬ j < l.length:=by omega
        clear hmin
        go_wp2_with fail
        go_quiet (fail)
        go_wp2_with fail
        go_ret
        exact ⟨by rw [HN.out];rfl,K.out.drewN _⟩
def okCl (x:Cl):Prop:=0≤x.1∧x.1≤3∧x.2.length≤64∧(x.1≠1→x.2 = [])
theorem znL {x:Cl} (h:okCl x):cellE x.1 x.2.length=0:=by
  obtain ⟨h1,h2,h3,h4⟩:=h
  unfold cellE
  rw [if_neg (by omega),if_neg (by omega),if_neg]
  rintro ⟨h5,h6⟩
  rw [h4 h6] at h5
  exact absurd h5 (by simp)
def slen:Value→Nat
  | .slice _ n _=>n
  | _=>0
def PutRunR (w:World) (cl:List Cl) (l0:List UInt8) (rv ov la:Value) (wr:World):Prop :=
  ∃ (rest:List Cl) (last done:List UInt8),CsAt wr rv rest∧Bs wr la last∧wr.ownsRow w.heap.size 5 1 ov (l0 ++ vput cl.length ++ done).length ((l0 ++ vput cl.length ++ done).map bv)∧Keep Non w wr ∧
    done ++ encRun rest.length last rest=encRun cl.length [] cl∧(∀ x ∈ rest,okCl x)∧done.length+96 * rest.length≤96 * 64∧last.length≤64
theorem zfS {w:World} {t:TypeId} (u v z:Value):Rd (w.alloc (.cells #[u,v,z] t)) (.slice (some ⟨w.heap.size,0,none⟩) 3 3) [u,v,z]:=by
  refine ⟨_,3,rfl,fun _=>⟨w.heap.size,0,rfl,fun j x hx=>?_⟩⟩
  match j with
  | 0=>simp at hx;subst hx;exact World.cell?_alloc_new _ _ _ 0
  | 1=>simp at hx;subst hx;exact World.cell?_alloc_new _ _ _ 1
  | 2=>simp at hx;subst hx;exact World.cell?_alloc_new _ _ _ 2
  | j+3=>simp at hx
theorem zjM {w:World} {g off rc m n:Nat} {cl:List Cl} (h:CsAt w (.slice (some ⟨g,off,none⟩) m rc) cl) (hm:cl.length=m) (hn:n≤m) (hrc:m≤rc) :
    CsAt w (.slice (if rc=n then some ⟨g,off,none⟩ else some ⟨g,off+n * 2,none⟩) (m - n) (rc - n)) (cl.drop n):=by
  obtain ⟨a,c,e,_,_,hx⟩:=h
  injection e with e1 e2 e3
  subst e1
  have hl:(cl.drop n).length=m - n:=by rw [List.length_drop,hm]
  refine ⟨_,_,by rw [hl],by rw [hl];omega,fun ad e=>?_,fun j hj=>?_⟩
  · split at e <;> (injection e with e;exact ⟨_,_,e.symm⟩)
  · rw [hl] at hj
    obtain ⟨g',off',s,e4,h1,h2,h3,h4⟩:=hx (n+j) (by omega)
    injection e4 with e4
    injection e4 with e4 e5
    subst e4
    subst e5
    refine ⟨g,off+n * 2,s,by rw [if_neg (by omega)],?_,?_,?_,h4⟩
    · rw [List.getElem_drop,show off+n * 2+j * 2=off+(n+j) * 2 by omega];exact h1
    · rw [show off+n * 2+j * 2+1=off+(n+j) * 2+1 by omega];exact h2
    · rw [List.getElem_drop];exact h3
theorem PutRunR.drewN {w:World} {cl:List Cl} {l0:List UInt8} {rv ov la:Value} {wr:World} (n:Nat) (h:PutRunR w cl l0 rv ov la wr):PutRunR w cl l0 rv ov la (wr.drewN n):=by
  obtain ⟨rest,last,done,h1,h2,h3,h4,h5⟩:=h
  have k:Keep Non wr (wr.drewN n):=(Keep.refl _ _).drewN n
  exact ⟨rest,last,done,h1.keepNon k,h2.keepNon k,zac h3 k (fun _ _ e=>e),h4.drewN n,h5⟩
theorem zi6 (v b:Value) (l0:List UInt8) (cl:List Cl) (w:World) (hb:Bs w b l0) (hl0:l0.length≤1000) (h:CsAt w v cl) (hl:cl.length≤64) (hok:∀ x ∈ cl,okCl x) :
    Calls Tryz.prog 361 #[b,v] w fun e w'=>∃ v',e = .returned (.tuple #[v',.nilIface])∧Keep Non w w'∧w'.ownsRow w.heap.size 5 1 v' (l0 ++ runB cl).length ((l0 ++ runB cl).map bv):=by
  have H:=zz0 h
  have HB:=zz0 hb
  obtain ⟨a,c,rfl,hc,ha,hx⟩:=h
  obtain ⟨a0,c0,rfl,_⟩:=hb
  clear hx
  obtain ⟨i0,hi0,hz0,hz1,hz2⟩:=info_parts infoU8
  rw [List.length_map] at HB ⊢
  go_enter Tryz.func361,Tryz.ntmps361
  go_wp2_with fail
  go_loopw [20] (fun i wr=>∃ j:Nat,j≤cl.length∧i = .int .i64 j∧Keep Non w wr) (fun i _=>cl.length - (intOf i).toNat)
  case atStart=>exact ⟨0,by omega,rfl,Keep.refl _ _⟩
  case round =>
    obtain ⟨j,hj,rfl,hk⟩:=hrel
    have K:=zz0 hk
    clear hk
    by_cases hlt:j < cl.length
    · have hlj:(j:Int) < (cl.length:Int):=by omega
      obtain ⟨a1,c1,e1,q1,q2,hx⟩:=H.out.keepNon K.out
      obtain ⟨g,off,s,rfl,d1,d2,d3,d4⟩:=hx j hlt
      have hce:=znL (hok _ (List.getElem_mem hlt))
      injection e1 with e1 e3 e4
      subst e1
      subst e4
      clear hx q1 q2 e3
      obtain ⟨a2,c2,rfl,_⟩:=zaw d3
      generalize cl[j].1=x at d1 hce
      generalize cl[j].2.length=n at d2 hce
      clear d3 d4
      have HCE:=zz0 hce
      clear hce
      go_wp2_with (go_at_call 62;refine (zci x a2 n c2 _).mono ?_;rw [HCE.out];rintro e w1 ⟨rfl,k1⟩;rw [zaK];have K1:=zz0 k1;clear k1)
      exact ⟨⟨j+1,by omega,by first | rfl | go_num,(K.out.alloc _).trans1 K1.out⟩,by simp [intOf];omega⟩
    · obtain rfl:j=cl.length:=by omega
      go_wp2_with (go_at_call 193;refine (zat _ l0 (some ⟨wr.heap.size,0,none⟩) 1 [cl.length] _ (HB.out.keepNon (K.out.alloc _)) (by omega) (zcR _ _ _) (by intro n hn;simp at hn;omega) (by simp)).mono ?_;rintro e w1 ⟨v1,rfl,k1,o1⟩;obtain ⟨a1,c1,rfl,_,_⟩:=zaa o1;have K1:=zz0 ((K.out.alloc _).trans1 k1);have O1:=zz0 o1;clear k1 o1)
      obtain ⟨w0,hw0⟩:∃ w0,w0=w1:=⟨_,rfl⟩
      subst hw0
      have hvl:(vput cl.length).length≤3:=zao (by omega)
      have O1':Hid (w0.ownsRow w.heap.size 5 1 (.slice a1 (l0.length+(vputs [cl.length]).length) c1) (l0 ++ vput cl.length ++ []).length ((l0 ++ vput cl.length ++ []).map bv)):=zz0 (by
        have:=zad O1.out (base:=w.heap.size) (by have:=K.out.size;simp;omega)
        simpa [vputs] using this)
      go_loopw [1,9,10] (fun rv ov la wr=>PutRunR w cl l0 rv ov la wr) (fun rv _ _ _=>slen rv)
      case atStart=>exact ⟨cl,[],[],H.out.keepNon K1.out,Rd.nil _,O1'.out,K1.out,rfl,hok,by simp;omega,by simp⟩
      case round =>
        obtain ⟨rest,last,done,hcs,hla,hou,hkk,henc,hokr,hbd,hlast⟩:=hrel
        have CS:=zz0 hcs
        have LA:=zz0 hla
        have OU:=zz0 hou
        have KK:=zz0 hkk
        have EN:=zz0 henc
        have OKR:=zz0 hokr
        have BD:=zz0 hbd
        obtain ⟨va,vc,rfl,_,_⟩:=zaa hou
        obtain ⟨ra,rc,rfl,hrc,hra,hrx⟩:=hcs
        obtain ⟨la1,lc,rfl,_⟩:=zaw hla
        clear hla hou hkk henc hokr hbd
        cases rest with
        | nil =>
          clear hrx
          have e0:l0 ++ vput cl.length ++ done=l0 ++ runB cl:=by
            have e1:done=encRun cl.length [] cl:=by have:=EN.out;simpa [encRun] using this
            rw [e1,List.append_assoc]
            rfl
          clear EN BD
          rw [e0] at OU ⊢
          go_wp2_with fail
          go_ret2
          exact ⟨_,rfl,KK.out,OU.out⟩
        | cons x r =>
          obtain ⟨g,off,s,rfl,d1,d2,d3,d4⟩:=hrx 0 (by simp)
          simp only [List.getElem_cons_zero,Nat.zero_mul,Nat.add_zero] at d1 d2 d3
          obtain ⟨a2,c2,rfl,_⟩:=zaw d3
          have T:=zz0 d3
          have TO:=zz0 d4
          obtain ⟨hk0,hk3,hl64,hk1⟩:=OKR.out x (by simp)
          have hxn:((x.1.toNat:Nat):Int)=x.1:=by omega
          have hdl:done.length≤96 * 64:=by have:=BD.out;omega
          have hrl:(x :: r).length≤64:=by have:=BD.out;omega
          have hrow:=zhn (x :: r)
          clear hrx d3 d4
          by_cases hn:0 < rowN (x :: r)
          · have EN2:Hid (done ++ (vput (rowN (x :: r)) ++ vput x.1.toNat) ++ encRun ((x :: r).drop (rowN (x :: r))).length last ((x :: r).drop (rowN (x :: r)))=encRun cl.length [] cl):=zz0 (by
              rw [← EN.out]
              show _=done ++ (if 0 < rowN (x :: r) then _ else _)
              rw [if_pos hn,zbG r.length ((x :: r).drop (rowN (x :: r))).length last _ (by rw [List.length_drop];simp;omega) (Nat.le_refl _)]
              simp only [List.append_assoc])
            have hdc:done.length+96 * (x :: r).length≤96 * 64:=BD.out
            have hv1:(vput (rowN (x :: r))).length≤3:=zao (by omega)
            have hv2:(vput x.1.toNat).length≤3:=zao (by omega)
            have HV:=zz0 (And.intro hv1 hv2)
            have hlen:((x :: r).length:Nat)≠0:=by simp
            have OKR2:Hid (∀ y ∈ (x :: r).drop (rowN (x :: r)),okCl y):=zz0 (fun y hy=>OKR.out y (List.mem_of_mem_drop hy))
            clear EN BD OKR hk1 hv1 hv2
            generalize hnn:rowN (x :: r)=n at hn EN2 HV hrow OKR2
            have hq:(l0 ++ vput cl.length ++ done).length≤100000:=by simp only [List.length_append];omega
            have hm0:0 < (x :: r).length:=by simp
            clear hlen
            have hx:IntKind.u64.wrap x.1=((x.1.toNat:Nat):Int):=by rw [← hxn,wrap64 (by omega)];simp
            have hrow2:Calls Tryz.prog 381 #[.slice (some ⟨g,off,none⟩) (x :: r).length rc] wr fun e w'=>e = .returned (.int .i64 n)∧Keep Non wr w':=by
              rw [← hnn];exact zk7 _ (x :: r) wr CS.out (by omega)
            have HR:=zz0 hrow2
            have hkl:x.1.toNat≤3:=by omega
            clear hrow2 hnn
            rw [← hxn] at d1
            clear hxn hx hk0 hk3
            generalize x.1.toNat=kn at EN2 HV hkl d1
            generalize hmm:(x :: r).length=m at CS HR hrc hrl hdc hrow hm0
            have HM:=zz0 hmm
            clear hmm
            generalize hqq:(l0 ++ vput cl.length ++ done).length=q at OU hq
            have HQ:=zz0 hqq
            clear hqq
            go_wp2_with (first
              | (go_at_call 381;refine HR.out.mono ?_;rintro e w2 ⟨rfl,k2⟩;have K2:=zz0 k2;clear k2;have d1':=(World.cell?_of_block (K2.out.block g (World.block_lt_of_cell? _ _ d1) (fun e=>e))).trans d1)
              | (go_at_call 193;refine (zat _ (l0 ++ vput cl.length ++ done) (some ⟨w2.heap.size,0,none⟩) 2 [n,kn] _ (((Rd.ofOwns OU.out).keepNon K2.out).keepNon ((Keep.refl _ _).alloc _)) (by rw [HQ.out];omega) (by exact zlB _ _) (by intro z hz;simp at hz;omega) (by simp)).mono ?_;rintro e w3 ⟨v3,rfl,k3,o3⟩;obtain ⟨a3,c3,rfl,_,_⟩:=zaa o3;have K3:=zz0 (((Keep.refl _ _).alloc _).trans1 k3);have O3:=zz0 o3;clear k3 o3))
            have e:l0 ++ vput cl.length ++ done ++ vputs [n,kn]=l0 ++ vput cl.length ++ (done ++ (vput n ++ vput kn)):=by simp [vputs]
            have o:=zad O3.out (base:=w.heap.size) (by have h1:=KK.out.size;have h2:=K2.out.size;simp;omega)
            rw [e] at o
            have hl2:l0.length+((vput cl.length).length+(done.length+(vputs [n,kn]).length))=(l0 ++ vput cl.length ++ (done ++ (vput n ++ vput kn))).length:=by simp [vputs]
            have K4:=K2.out.trans1 K3.out
            rw [hl2]
            refine ⟨⟨(x :: r).drop n,last,done ++ (vput n ++ vput kn),zjM (CS.out.keepNon K4) HM.out hrow hrc,LA.out.keepNon K4,o,KK.out.trans1 K4,EN2.out,OKR2.out,?_,hlast⟩,?_⟩
            · have hv:=HV.out
              rw [List.length_drop,HM.out]
              simp only [List.length_append]
              omega
            · simp only [slen];omega
          · have hn0:rowN (x :: r)=0:=by omega
            have hs:=zbZ last x.2
            have EN2:Hid (done ++ (vput 0 ++ vput x.2.length ++ vput (alikeN last x.2) ++ x.2.drop (alikeN last x.2)) ++ encRun r.length x.2 r=encRun cl.length [] cl):=zz0 (by
              rw [← EN.out]
              show _=done ++ (if 0 < rowN (x :: r) then _ else _)
              rw [if_neg hn]
              simp only [List.append_assoc])
            have hdc:done.length+96 * (x :: r).length≤96 * 64:=BD.out
            have hrow2:Calls Tryz.prog 381 #[.slice (some ⟨g,off,none⟩) (x :: r).length rc] wr fun e w'=>e = .returned (.int .i64 0)∧Keep Non wr w':=by
              have:=zk7 _ (x :: r) wr CS.out (by omega)
              rw [hn0] at this
              exact this
            have HR:=zz0 hrow2
            have OKR2:Hid (∀ y ∈ r,okCl y):=zz0 (fun y hy=>OKR.out y (by simp [hy]))
            have hq:(l0 ++ vput cl.length ++ done).length≤100000:=by simp only [List.length_append];omega
            have CS2:Hid (CsAt wr (.slice (if rc=1 then some ⟨g,off,none⟩ else some ⟨g,off+1 * 2,none⟩) ((x :: r).length - 1) (rc - 1)) r):=zz0 (zjM CS.out rfl (by simp) hrc)
            have hm0:0 < (x :: r).length:=by simp
            clear EN BD OKR hk1 hrow2 hn hn0 hrow hxn hk0 hk3 CS
            generalize hsn:alikeN last x.2=sN at hs EN2
            have HSN:=zz0 hsn
            clear hsn
            generalize hmm:(x :: r).length=m at CS2 HR hrc hrl hdc hm0
            have HM:=zz0 hmm
            clear hmm
            generalize hqq:(l0 ++ vput cl.length ++ done).length=q at OU hq
            have HQ:=zz0 hqq
            clear hqq
            go_wp2_with (first
              | (go_at_call 381;refine HR.out.mono ?_;rintro e w2 ⟨rfl,k2⟩;have K2:=zz0 k2;clear k2;have d2':=(World.cell?_of_block (K2.out.block g (World.block_lt_of_cell? _ _ d2) (fun e=>e))).trans d2)
              | (go_at_call 348;refine (zfY _ _ last x.2 _ (LA.out.keepNon K2.out) (T.out.keepNon K2.out) (by omega) (by omega)).mono ?_;rw [HSN.out];rintro e w3 ⟨rfl,k3⟩;have K3:=zz0 (K2.out.trans1 k3);clear k3))
            have TV:∀ tv,Bs wr tv (x.2.drop sN)→Hid (Bs w3 tv (x.2.drop sN)):=fun tv h=>zz0 (h.keepNon K3.out)
            have hn2:x.2.length - sN≤64:=by omega
            have hdrop:(x.2.drop sN).length=x.2.length - sN:=List.length_drop
            have T3:=zz0 (T.out.keepNon K3.out)
            cases a2 with
            | none =>
              have hx0:x.2 = []:=by
                rcases Classical.em (x.2 = []) with e | e
                · exact e
                · obtain ⟨_,_,e1,hh⟩:=T.out
                  obtain ⟨g9,off9,e2,_⟩:=hh (by simpa using e)
                  injection e1 with e1
                  rw [← e1] at e2
                  cases e2
              have hx1:x.2.length=0:=by rw [hx0];rfl
              have hs0:sN=0:=by omega
              subst hs0
              have TD:=TV (.slice none 0 c2) ⟨none,c2,by rw [hx0];rfl,fun h=>by rw [hx0] at h;exact (h rfl).elim⟩
              have hc2:=TO.out.1
              have hn20:x.2.length=0:=hx1
              have hnn:=hx1
              simp only [hx1] at hc2 hn2 hdrop T3 hs hl64 d2 ⊢
              clear hx0 hx1 hn20
              have HV27:Hid ((vputs [0,0,0]).length≤27):=zz0 (zaB [0,0,0] (by intro z hz;simp at hz;omega))
              have hw1:=wrap64 (n:=0) (by omega)
              have hw2:=wrap64 (n:=0) (by omega)
              go_region_law (first
                | (go_simp;go_at_call 193;refine (zat _ (l0 ++ vput cl.length ++ done) (some ⟨w3.heap.size,0,none⟩) 3 [0,0,0] _ (by exact (((Rd.ofOwns OU.out).keepNon K3.out).keepNon (((Keep.refl Non w3).alloc _).drew))) (by rw [HQ.out];omega) (by exact zfS _ _ _) (by intro z hz;simp at hz;omega) (by simp)).mono ?_;rintro e w4 ⟨v4,rfl,k4,o4⟩;obtain ⟨Q2,hQ2⟩:∃ Q2,Q2=(l0 ++ vput cl.length ++ done ++ vputs [0,0,0]).length:=⟨_,rfl⟩;rw [← hQ2] at o4;obtain ⟨a4,c4,rfl,_,_⟩:=zaa o4;have K4:Hid (Keep Non w3 w4):=zz0 ((((Keep.refl Non w3).alloc _).drew).trans1 k4);have O4:Hid (w4.ownsRow w.heap.size 5 1 (.slice a4 Q2 c4) Q2 ((l0 ++ vput cl.length ++ done ++ vputs [0,0,0]).map bv)):=zz0 (zad o4 (by have:=KK.out.size;have:=K3.out.size;simp;omega));have OB:Hid (∀ g,(Value.slice a4 Q2 c4).ownBlock=some g→w3.heap.size≤g):=zz0 (fun g e=>by have:=(o4.lt g e).1;simp at this;omega);have HQ2:=zz0 hQ2;have hQB:Q2≤100030:=(by rw [hQ2,List.length_append,HQ.out];exact Nat.le_trans (Nat.add_le_add hq HV27.out) (Nat.le_of_ble_eq_true rfl));clear k4 o4 hQ2)
                | (refine zay (by rfl) (.tmp 70) (.tmp 73) 44 (by rfl) w.heap.size 5 i0 (.int .u8 0) 1 Tryz.underlying44 hi0 hz0 hz1 hz2 rfl (.slice a4 Q2 c4) Q2 ((l0 ++ vput cl.length ++ done ++ vputs [0,0,0]).map bv) (by rfl) (by exact O4.out) (.slice none 0 c2) (by simp [Act.eval]) ((x.2.drop 0).map bv) (by exact TD.out.keepNon K4.out) (zam _) (by rw [List.length_map,hdrop];unfold maxLen;omega) (by rw [List.length_map,hdrop];omega) (by have:=KK.out.size;have:=K3.out.size;have:=K4.out.size;omega) ?_;intro v5 w5 ho hg hpp;have O5:=zz0 ho;have K5:Hid (Keep Non w3 w5):=zz0 (K4.out.grown hg (fun k e=>.inr (OB.out k e)));clear ho hg hpp))
              all_goals
                have o5:=O5.out
                have e5:l0 ++ vput cl.length ++ done ++ vputs [0,0,0] ++ x.2.drop 0=l0 ++ vput cl.length ++ (done ++ (vput 0 ++ vput 0 ++ vput 0 ++ x.2.drop 0)):=by simp [vputs]
                rw [← List.map_append,e5,show Q2+((x.2.drop 0).map bv).length=(l0 ++ vput cl.length ++ (done ++ (vput 0 ++ vput 0 ++ vput 0 ++ x.2.drop 0))).length by rw [← e5,List.length_append,← HQ2.out];simp] at o5
                have K6:=K3.out.trans1 K5.out
                have CS3:=zz0 (CS2.out.keepNon K6)
                have T6:=T3.out.keepNon K5.out
                have R6:∀ rv,rv = .slice (if rc=1 then some ⟨g,off,none⟩ else some ⟨g,off+1 * 2,none⟩) (m - 1) (rc - 1)→PutRunR w cl l0 rv v5 (.slice none 0 c2) w5:=by
                  rintro rv rfl
                  refine ⟨r,x.2,done ++ (vput 0 ++ vput 0 ++ vput 0 ++ x.2.drop 0),CS3.out,T6,o5,KK.out.trans1 K6,by rw [← EN2.out,hnn],OKR2.out,?_,by omega⟩
                  have hm1:m=r.length+1:=by rw [← HM.out];rfl
                  have hv27:=HV27.out
                  simp only [List.length_append,hdrop,zcs,zeI,List.append_nil] at hv27 ⊢
                  omega
                clear o5 e5 T6 K6
                have hm1i:(1:Int)≤(m:Int):=by omega
                by_cases hrc1:rc=1
                all_goals
                  have R7:=R6 _ rfl
                  clear R6
                  first | rw [if_pos hrc1,show rc - 1=0 by omega] at R7 | rw [if_neg hrc1] at R7
                  have R8:=zz0 (fun n=>PutRunR.drewN n R7)
                  clear R7
                  go_simp
                  go_wp2_with fail
                  go_region
                  all_goals
                    go_wp2_with fail
                    exact ⟨by first | exact R8.out 0 | exact R8.out 1,by simp [slen];omega⟩
            | some ad =>
              obtain ⟨g2,off2,rfl⟩:=TO.out.2 ad rfl
              have hc2:=TO.out.1
              by_cases hcq:c2=sN
              · have TD:=TV (.slice (some ⟨g2,off2,none⟩) (x.2.length - sN) 0) ⟨_,0,by rw [List.length_map,hdrop],fun h=>by
                  have h9:x.2.drop sN = []:=List.eq_nil_of_length_eq_zero (by rw [hdrop];omega)
                  rw [h9] at h
                  exact (h rfl).elim⟩
                subst hcq
                generalize hnn:x.2.length=n2 at hc2 hn2 hdrop T3 TD HSN hs hl64 d2
                have HV27:Hid ((vputs [0,n2,c2]).length≤27):=zz0 (zaB [0,n2,c2] (by intro z hz;simp at hz;omega))
                have hw1:=wrap64 (n:=n2) (by omega)
                have hw2:=wrap64 (n:=c2) (by omega)
                go_region_law (first
                  | (go_simp;go_at_call 193;refine (zat _ (l0 ++ vput cl.length ++ done) (some ⟨w3.heap.size,0,none⟩) 3 [0,n2,c2] _ (by exact (((Rd.ofOwns OU.out).keepNon K3.out).keepNon (((Keep.refl Non w3).alloc _).drew))) (by rw [HQ.out];omega) (by exact zfS _ _ _) (by intro z hz;simp at hz;omega) (by simp)).mono ?_;rintro e w4 ⟨v4,rfl,k4,o4⟩;obtain ⟨Q2,hQ2⟩:∃ Q2,Q2=(l0 ++ vput cl.length ++ done ++ vputs [0,n2,c2]).length:=⟨_,rfl⟩;rw [← hQ2] at o4;obtain ⟨a4,c4,rfl,_,_⟩:=zaa o4;have K4:Hid (Keep Non w3 w4):=zz0 ((((Keep.refl Non w3).alloc _).drew).trans1 k4);have O4:Hid (w4.ownsRow w.heap.size 5 1 (.slice a4 Q2 c4) Q2 ((l0 ++ vput cl.length ++ done ++ vputs [0,n2,c2]).map bv)):=zz0 (zad o4 (by have:=KK.out.size;have:=K3.out.size;simp;omega));have OB:Hid (∀ g,(Value.slice a4 Q2 c4).ownBlock=some g→w3.heap.size≤g):=zz0 (fun g e=>by have:=(o4.lt g e).1;simp at this;omega);have HQ2:=zz0 hQ2;have hQB:Q2≤100030:=(by rw [hQ2,List.length_append,HQ.out];exact Nat.le_trans (Nat.add_le_add hq HV27.out) (Nat.le_of_ble_eq_true rfl));clear k4 o4 hQ2)
                  | (refine zay (by rfl) (.tmp 70) (.tmp 73) 44 (by rfl) w.heap.size 5 i0 (.int .u8 0) 1 Tryz.underlying44 hi0 hz0 hz1 hz2 rfl (.slice a4 Q2 c4) Q2 ((l0 ++ vput cl.length ++ done ++ vputs [0,n2,c2]).map bv) (by rfl) (by exact O4.out) (.slice (some ⟨g2,off2,none⟩) (n2 - c2) 0) (by simp [Act.eval] <;> omega) ((x.2.drop c2).map bv) (by exact TD.out.keepNon K4.out) (zam _) (by rw [List.length_map,hdrop];unfold maxLen;omega) (by rw [List.length_map,hdrop];omega) (by have:=KK.out.size;have:=K3.out.size;have:=K4.out.size;omega) ?_;intro v5 w5 ho hg hpp;have O5:=zz0 ho;have K5:Hid (Keep Non w3 w5):=zz0 (K4.out.grown hg (fun k e=>.inr (OB.out k e)));clear ho hg hpp))
                all_goals
                  have o5:=O5.out
                  have e5:l0 ++ vput cl.length ++ done ++ vputs [0,n2,c2] ++ x.2.drop c2=l0 ++ vput cl.length ++ (done ++ (vput 0 ++ vput n2 ++ vput c2 ++ x.2.drop c2)):=by simp [vputs]
                  rw [← List.map_append,e5,show Q2+((x.2.drop c2).map bv).length=(l0 ++ vput cl.length ++ (done ++ (vput 0 ++ vput n2 ++ vput c2 ++ x.2.drop c2))).length by rw [← e5,List.length_append,← HQ2.out];simp] at o5
                  have K6:=K3.out.trans1 K5.out
                  have CS3:=zz0 (CS2.out.keepNon K6)
                  have T6:=T3.out.keepNon K5.out
                  have R6:∀ rv,rv = .slice (if rc=1 then some ⟨g,off,none⟩ else some ⟨g,off+1 * 2,none⟩) (m - 1) (rc - 1)→PutRunR w cl l0 rv v5 (.slice (some ⟨g2,off2,none⟩) n2 c2) w5:=by
                    rintro rv rfl
                    refine ⟨r,x.2,done ++ (vput 0 ++ vput n2 ++ vput c2 ++ x.2.drop c2),CS3.out,T6,o5,KK.out.trans1 K6,by rw [← EN2.out,hnn],OKR2.out,?_,by omega⟩
                    have hm1:m=r.length+1:=by rw [← HM.out];rfl
                    have hv27:=HV27.out
                    simp only [List.length_append,hdrop,zcs,zeI,List.append_nil] at hv27 ⊢
                    omega
                  clear o5 e5 T6 K6
                  have hm1i:(1:Int)≤(m:Int):=by omega
                  by_cases hrc1:rc=1
                  all_goals
                    have R7:=R6 _ rfl
                    clear R6
                    first | rw [if_pos hrc1,show rc - 1=0 by omega] at R7 | rw [if_neg hrc1] at R7
                    have R8:=zz0 (fun n=>PutRunR.drewN n R7)
                    clear R7
                    go_simp
                    go_wp2_with fail
                    go_region
                    all_goals
                      go_wp2_with fail
                      exact ⟨by first | exact R8.out 0 | exact R8.out 1,by simp [slen];omega⟩
              · have TD:=TV (.slice (some ⟨g2,off2+sN,none⟩) (x.2.length - sN) (c2 - sN)) (by
                  have h:=T.out
                  rw [← List.take_append_drop sN x.2] at h
                  have:=zew h
                  rw [List.length_take,Nat.min_eq_left hs.2,List.length_append,List.length_take,List.length_drop,Nat.min_eq_left hs.2] at this
                  rw [show sN+(x.2.length - sN) - sN=x.2.length - sN by omega] at this
                  exact this)
                generalize hnn:x.2.length=n2 at hc2 hn2 hdrop T3 TD HSN hs hl64 d2
                have HV27:Hid ((vputs [0,n2,sN]).length≤27):=zz0 (zaB [0,n2,sN] (by intro z hz;simp at hz;omega))
                have hw1:=wrap64 (n:=n2) (by omega)
                have hw2:=wrap64 (n:=sN) (by omega)
                go_region_law (first
                  | (go_simp;go_at_call 193;refine (zat _ (l0 ++ vput cl.length ++ done) (some ⟨w3.heap.size,0,none⟩) 3 [0,n2,sN] _ (by exact (((Rd.ofOwns OU.out).keepNon K3.out).keepNon (((Keep.refl Non w3).alloc _).drew))) (by rw [HQ.out];omega) (by exact zfS _ _ _) (by intro z hz;simp at hz;omega) (by simp)).mono ?_;rintro e w4 ⟨v4,rfl,k4,o4⟩;obtain ⟨Q2,hQ2⟩:∃ Q2,Q2=(l0 ++ vput cl.length ++ done ++ vputs [0,n2,sN]).length:=⟨_,rfl⟩;rw [← hQ2] at o4;obtain ⟨a4,c4,rfl,_,_⟩:=zaa o4;have K4:Hid (Keep Non w3 w4):=zz0 ((((Keep.refl Non w3).alloc _).drew).trans1 k4);have O4:Hid (w4.ownsRow w.heap.size 5 1 (.slice a4 Q2 c4) Q2 ((l0 ++ vput cl.length ++ done ++ vputs [0,n2,sN]).map bv)):=zz0 (zad o4 (by have:=KK.out.size;have:=K3.out.size;simp;omega));have OB:Hid (∀ g,(Value.slice a4 Q2 c4).ownBlock=some g→w3.heap.size≤g):=zz0 (fun g e=>by have:=(o4.lt g e).1;simp at this;omega);have HQ2:=zz0 hQ2;have hQB:Q2≤100030:=(by rw [hQ2,List.length_append,HQ.out];exact Nat.le_trans (Nat.add_le_add hq HV27.out) (Nat.le_of_ble_eq_true rfl));clear k4 o4 hQ2)
                  | (refine zay (by rfl) (.tmp 70) (.tmp 73) 44 (by rfl) w.heap.size 5 i0 (.int .u8 0) 1 Tryz.underlying44 hi0 hz0 hz1 hz2 rfl (.slice a4 Q2 c4) Q2 ((l0 ++ vput cl.length ++ done ++ vputs [0,n2,sN]).map bv) (by rfl) (by exact O4.out) (.slice (some ⟨g2,off2+sN,none⟩) (n2 - sN) (c2 - sN)) (by simp [Act.eval]) ((x.2.drop sN).map bv) (by exact TD.out.keepNon K4.out) (zam _) (by rw [List.length_map,hdrop];unfold maxLen;omega) (by rw [List.length_map,hdrop];omega) (by have:=KK.out.size;have:=K3.out.size;have:=K4.out.size;omega) ?_;intro v5 w5 ho hg hpp;have O5:=zz0 ho;have K5:Hid (Keep Non w3 w5):=zz0 (K4.out.grown hg (fun k e=>.inr (OB.out k e)));clear ho hg hpp))
                all_goals
                  have o5:=O5.out
                  have e5:l0 ++ vput cl.length ++ done ++ vputs [0,n2,sN] ++ x.2.drop sN=l0 ++ vput cl.length ++ (done ++ (vput 0 ++ vput n2 ++ vput sN ++ x.2.drop sN)):=by simp [vputs]
                  rw [← List.map_append,e5,show Q2+((x.2.drop sN).map bv).length=(l0 ++ vput cl.length ++ (done ++ (vput 0 ++ vput n2 ++ vput sN ++ x.2.drop sN))).length by rw [← e5,List.length_append,← HQ2.out];simp] at o5
                  have K6:=K3.out.trans1 K5.out
                  have CS3:=zz0 (CS2.out.keepNon K6)
                  have T6:=T3.out.keepNon K5.out
                  have R6:∀ rv,rv = .slice (if rc=1 then some ⟨g,off,none⟩ else some ⟨g,off+1 * 2,none⟩) (m - 1) (rc - 1)→PutRunR w cl l0 rv v5 (.slice (some ⟨g2,off2,none⟩) n2 c2) w5:=by
                    rintro rv rfl
                    refine ⟨r,x.2,done ++ (vput 0 ++ vput n2 ++ vput sN ++ x.2.drop sN),CS3.out,T6,o5,KK.out.trans1 K6,by rw [← EN2.out,hnn],OKR2.out,?_,by omega⟩
                    have hm1:m=r.length+1:=by rw [← HM.out];rfl
                    have hv27:=HV27.out
                    simp only [List.length_append,hdrop,zcs,zeI,List.append_nil] at hv27 ⊢
                    omega
                  clear o5 e5 T6 K6
                  have hm1i:(1:Int)≤(m:Int):=by omega
                  by_cases hrc1:rc=1
                  all_goals
                    have R7:=R6 _ rfl
                    clear R6
                    first | rw [if_pos hrc1,show rc - 1=0 by omega] at R7 | rw [if_neg hrc1] at R7
                    have R8:=zz0 (fun n=>PutRunR.drewN n R7)
                    clear R7
                    go_simp
                    go_wp2_with fail
                    go_region
                    all_goals
                      go_wp2_with fail
                      exact ⟨by first | exact R8.out 0 | exact R8.out 1,by simp [slen];omega⟩
end Go.Proofs.YtnboipdpccnedaaGreatDoor
