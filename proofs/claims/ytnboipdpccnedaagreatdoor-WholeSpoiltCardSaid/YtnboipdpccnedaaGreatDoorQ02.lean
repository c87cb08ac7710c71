/- varint.Put: walked. · varint.PutText: walked. · varint.Take, where the bytes begin with a number: walked. · A reader of bytes: its calls, where all go -/
import Derived.Laws.BitsAllLaws
import Derived.Deep.RegionWith
import Derived.Deep.RegionHeld3
import Derived.Deep.QuietTactic
import Derived.BigQuiet
import Derived.RegionTactic
import Derived.StillTailTactics
import Derived.Defers
import Derived.Laws.Pointers
import Derived.Laws.LoneSync
import Derived.RegionCalls
import Derived.ChangeAlike
import Derived.Test.YtnboipdpccnedaaGreatDoorQ01
set_option linter.unusedVariables false
set_option maxRecDepth 100000
set_option maxHeartbeats 16000000
namespace Go.Proofs.YtnboipdpccnedaaGreatDoor
open Go.RowKit
def nv (n:Nat):Value:=.int .u64 n
theorem zaB:∀ (ns:List Nat),(∀ n ∈ ns,n < 2 ^ 63)→(vputs ns).length≤9 * ns.length
  | [],_=>by simp [vputs]
  | n :: r,h=>by
    have h1:=zaX (h n (by simp))
    have h2:=zaB r (fun m hm=>h m (by simp [hm]))
    rw [zcs,List.length_append,List.length_cons]
    omega
theorem zat (b:Value) (l:List UInt8) (a:Option Addr) (c:Nat) (ns:List Nat) (w:World) (hb:Bs w b l) (hl:l.length≤100000000000) (hr:Rd w (.slice a ns.length c) (ns.map nv)) (hn:∀ n ∈ ns,n < 2 ^ 63) (hlen:ns.length≤1000) :
    Calls Tryz.prog 193 #[b,.slice a ns.length c] w (NewB w (l ++ vputs ns)):=by
  have HB:=zz0 hb
  have HR:=zz0 hr
  clear hb hr
  go_enter Tryz.func193,Tryz.ntmps193
  go_wp2_with fail
  refine (za1 b l w HB.out (by omega)).mono ?_
  rintro e w1 ⟨v1,rfl,k1,o1⟩
  go_wp2_with fail
  have O1:=zz0 o1
  have K1:=zz0 k1
  clear o1 k1
  go_loopw [5,12] (fun o i wr=>∃ j:Nat,j≤ns.length∧i = .int .i64 j∧Keep Non w wr∧wr.ownsRow w.heap.size 5 1 o (l ++ vputs (ns.take j)).length ((l ++ vputs (ns.take j)).map bv)) (fun _ i _=>ns.length - (intOf i).toNat)
  case atStart=>exact ⟨0,by omega,rfl,K1.out,by simpa [vputs] using O1.out⟩
  case round =>
    obtain ⟨j,hj,rfl,kp,ho⟩:=hrel
    have KP:=zz0 kp
    have HO:=zz0 ho
    clear kp ho
    by_cases h:j < ns.length
    · have hlt:(j:Int) < (ns.length:Int):=by omega
      have hr2:=HR.out.keepNon KP.out
      obtain ⟨g,off,rfl,hc⟩:∃ g off,a=some ⟨g,off,none⟩∧∀ j u,(ns.map nv)[j]? = some u→wr.cell? ⟨g,off+j,none⟩=some u:=by
        obtain ⟨a',c',e,hx⟩:=hr2
        injection e with e1 e2 e3
        obtain ⟨g,off,e4,hc⟩:=hx (by intro e;have e':=List.map_eq_nil_iff.1 e;rw [e'] at h;exact absurd h (by simp))
        exact ⟨g,off,e1.trans e4,hc⟩
      have hcell:wr.cell? ⟨g,off+j,none⟩=some (.int .u64 ((ns.getD j 0:Nat):Int)):=hc j _ (by simp [nv,h])
      have hnj:ns.getD j 0 < 2 ^ 63:=hn _ (by simp [h])
      have HT:Hid (vputs (ns.take (j+1))=vputs (ns.take j) ++ vput (ns.getD j 0)):=zz0 (by rw [List.take_succ_eq_append_getElem h,zjy];simp [h])
      have HL:Hid ((l ++ vputs (ns.take j)).length≤1000000000000):=zz0 (by
        have:=zaB (ns.take j) (fun m hm=>hn m (List.mem_of_mem_take hm))
        rw [List.length_append]
        rw [List.length_take] at this
        omega)
      have HN:=zz0 hnj
      clear hc hr2 hnj
      generalize ns.getD j 0=m at hcell HT HN
      go_wp2_with fail
      refine (zoN _ _ m w.heap.size _ wr HN.out HO.out KP.out.size HL.out).mono ?_
      rintro e w2 ⟨v2,rfl,o2,k2⟩
      have K2:=zz0 (KP.out.trans k2 (fun _ _ h=>h) (fun i hi e=>by have:=(HO.out.lt i e).1;omega):Keep Non w w2)
      rw [← List.map_append,List.append_assoc,← HT.out,show (l ++ vputs (ns.take j)).length+(vput m).length=(l ++ vputs (ns.take (j+1))).length by rw [HT.out];simp;omega] at o2
      have O2:=zz0 o2
      clear o2 k2
      go_wp2_with fail
      exact ⟨⟨j+1,by omega,by go_num,K2.out,O2.out⟩,by simp [intOf];omega⟩
    · have e:j=ns.length:=by omega
      subst e
      have ho:=HO.out
      rw [List.take_length] at ho
      have HO2:=zz0 ho
      clear ho
      go_wp2_with fail
      go_ret
      exact ⟨_,rfl,KP.out,HO2.out⟩
theorem zad {w:World} {B base:Nat} {e:TypeId} {s:Nat} {v:Value} {n:Nat} {xs:List Value} (h:w.ownsRow B e s v n xs) (hb:base≤B):w.ownsRow base e s v n xs:=by
  obtain ⟨h1,h2⟩:=h
  refine ⟨h1,?_⟩
  rcases h2 with h2 | ⟨g,cap,cur,rfl,hb2,rest⟩
  · exact .inl h2
  · exact .inr ⟨g,cap,cur,rfl,by omega,rest⟩
def vtext (t:List UInt8):List UInt8:=vput t.length ++ t
theorem zer (b:Value) (l:List UInt8) (a:Option Addr) (c:Nat) (t:List UInt8) (w:World) (hb:Bs w b l) (hl:l.length≤100000000000) (ht:Bs w (.slice a t.length c) t) (htl:t.length≤100000000000) :
    Calls Tryz.prog 256 #[b,.slice a t.length c] w (NewB w (l ++ vtext t)):=by
  have HB:=zz0 hb
  have HT:=zz0 ht
  obtain ⟨i0,hi0,hz0,hz1,hz2⟩:=info_parts infoU8
  clear hb ht
  go_enter Tryz.func256,Tryz.ntmps256
  go_wp2_with fail
  have hp:=zat b l (some ⟨w.heap.size,0,none⟩) 1 [t.length] (w.alloc (.cells #[.int .u64 t.length] 162)) (HB.out.keepNon ((Keep.refl Non w).alloc _)) hl (zcR _ _ _) (by intro n hn;simp at hn;omega) (by simp)
  refine hp.mono ?_
  rintro e w1 ⟨v1,rfl,k1,o1⟩
  have K1:=zz0 (((Keep.refl Non w).alloc _).trans1 k1)
  have O1:=zz0 o1
  have hln:Hid ((l ++ vputs [t.length]).length≤100000000009):=zz0 (by have:=zaB [t.length] (by intro n hn;simp at hn;omega);rw [List.length_append];simp at this;omega)
  have HT1:=zz0 (HT.out.keepNon K1.out)
  clear hp k1 o1
  generalize hm:l ++ vputs [t.length]=m at O1 hln
  have HM:=zz0 hm
  clear hm
  go_wp2_with (refine zah rfl _ _ 44 rfl w.heap.size 5 i0 (.int .u8 0) 1 Tryz.underlying44 hi0 hz0 hz1 hz2 rfl _ _ _ rfl (zad O1.out (by simp)) (.slice a t.length c) rfl (t.map bv) HT1.out (zam t) (by have:=hln.out;unfold maxLen;simp;omega) (by have:=hln.out;simp;omega) (by have:=K1.out.size;omega) ?_;intro v' w' ho hg hpp;have HO3:=zz0 ho;have HG:=zz0 hg;clear ho hg hpp)
  go_ret
  have h3:=HO3.out
  rw [← List.map_append,← HM.out,List.append_assoc,show vputs [t.length] ++ t=vtext t by simp [vputs,vtext]] at h3
  refine ⟨_,rfl,K1.out.grown HG.out (fun q e=>.inr (by have:=(O1.out.lt q e).1;simp at this;omega)),?_⟩
  simpa [vputs,vtext,Nat.add_assoc] using h3
def okc:Value→Prop
  | .slice a n c=>n≤c∧∀ ad,a=some ad→∃ g off,ad=⟨g,off,none⟩
  | _=>True
theorem zbw {w:World} {base:Nat} {e:TypeId} {size:Nat} {v:Value} {n:Nat} {xs:List Value} (h:w.ownsRow base e size v n xs):okc v:=by
  rcases h.2 with ⟨rfl,rfl⟩ | ⟨g,cap,cur,rfl,_,_,h1,_⟩
  · exact ⟨Nat.zero_le _,fun ad e=>by cases e⟩
  · exact ⟨h1,fun ad e=>by injection e with e;subst e;exact ⟨_,_,rfl⟩⟩
theorem andNot128 (m:Nat) (h:m < 128):bits .andNot .u8 ((m:Nat):Int) 128=((m:Nat):Int):=by
  have h1:∀ x:Fin 128,bits .andNot .u8 ((x.val:Nat):Int) 128=((x.val:Nat):Int):=by decide +kernel
  exact h1 ⟨m,h⟩
theorem andNot128' (m:Nat) (h:m < 128):bits .andNot .u8 (((m:Nat):Int)+128) 128=((m:Nat):Int):=by
  have h1:∀ x:Fin 128,bits .andNot .u8 (((x.val:Nat):Int)+128) 128=((x.val:Nat):Int):=by decide +kernel
  exact h1 ⟨m,h⟩
theorem wrap64 {n:Nat} (h:n < 2 ^ 64):IntKind.u64.wrap (n:Int)=(n:Int):=by
  have e:(2 ^ IntKind.u64.bits:Int)=18446744073709551616:=rfl
  unfold IntKind.wrap
  simp only [e]
  rw [if_neg (by simp [IntKind.signed])]
  omega
theorem zkR {acc m k n:Nat} (hn:n < 2 ^ 63) (hv:acc+m * 128 ^ k≤n) (ha:acc < 128 ^ k):bits .or .u64 (acc:Int) (IntKind.u64.wrap ((m:Int) * 2 ^ (7 * k)))=((acc+m * 128 ^ k:Nat):Int):=by
  have e:(m:Int) * 2 ^ (7 * k)=((m * 128 ^ k:Nat):Int):=by
    rw [show (128:Nat) ^ k=2 ^ (7 * k) by rw [Nat.pow_mul]]
    simp
  have e2:m * 128 ^ k=m <<< (7 * k):=by rw [Nat.shiftLeft_eq,Nat.pow_mul]
  generalize hq:m * 128 ^ k=q at hv e e2
  rw [e,wrap64 (by omega),u64_or_nat acc q (by omega) (by omega),e2,zp1 (by rw [Nat.pow_mul];exact ha),← e2]
  rw [← hq]
theorem zhx (v:Value) (n:Nat) (r:List UInt8) (w:World) (h:Bs w v (vput n ++ r)) (hc:okc v) (hn:n < 2 ^ 63) :
    Calls Tryz.prog 82 #[v] w fun e w'=>e = .returned (.tuple #[.int .u64 n,.int .i64 (vput n).length,.nilIface])∧w'=w:=by
  obtain ⟨a,c,rfl,hx⟩:=h
  obtain ⟨g,off,rfl,hcell⟩:=hx (by intro e;have h0:=zc0 n;rw [List.map_eq_nil_iff,List.append_eq_nil_iff] at e;rw [e.1] at h0;exact absurd h0 (by simp))
  rw [List.length_map]
  replace hc:=hc.1
  simp only [List.length_map] at hc
  have h9:=zaX hn
  have HL:=zz0 hcell
  generalize hq:(vput n ++ r).length=q at hc ⊢
  have hq1:(vput n).length≤q:=by rw [← hq];simp
  clear hcell hx
  go_enter Tryz.func82,Tryz.ntmps82
  go_wp2_with fail
  all_goals
    go_loopw [5,15] (fun o i wr=>∃ (m acc:Nat) (pre:List UInt8),i = .int .i64 pre.length∧o = .int .u64 acc∧wr=w∧pre ++ vput m=vput n∧n=acc+m * 128 ^ pre.length∧acc < 128 ^ pre.length∧(pre.length=0∨0 < m)) (fun _ i _=>q - (intOf i).toNat)
    case atStart=>exact ⟨n,0,[],rfl,rfl,rfl,rfl,by simp,by simp,.inl rfl⟩
    case round =>
      obtain ⟨m,acc,pre,rfl,rfl,rfl,he,hv,ha,hz⟩:=hrel
      have hl:pre.length < (vput n).length:=by rw [← he];have:=zc0 m;simp;omega
      have hle:(vput n ++ r)=pre ++ (vput m ++ r):=by rw [← he];simp
      by_cases hm:m < 128
      · have hcc:wr.cell? ⟨g,off+pre.length,none⟩=some (.int .u8 (m:Int)):=HL.out _ _ (by rw [hle,zbk hm];simp [bv,Nat.mod_eq_of_lt (show m < 256 by omega)])
        have h1:=andNot128 m hm
        have HN:Hid (pre.length+1=(vput n).length):=zz0 (by rw [← he,zbk hm];simp)
        have HV:=zz0 hv
        have ho:=zkR hn (by omega:acc+m * 128 ^ pre.length≤n) ha
        rw [← hv] at ho
        clear hv
        go_wp2_with fail
        · go_ret3
          refine ⟨?_,rfl⟩
          show Ending.returned (.tuple #[.int .u64 (n:Int),.int .i64 ((pre.length:Int)+1),.nilIface])=_
          rw [← HN.out]
          rfl
        · go_ret3
          refine ⟨?_,rfl⟩
          show Ending.returned (.tuple #[.int .u64 (n:Int),.int .i64 ((pre.length:Int)+1),.nilIface])=_
          rw [← HN.out]
          rfl
      · have hr128:128≤m:=by omega
        have hcc:wr.cell? ⟨g,off+pre.length,none⟩=some (.int .u8 ((m % 128+128:Nat):Int)):=HL.out _ _ (by rw [hle,zbD hr128];simp [bv,Nat.mod_eq_of_lt (show m % 128+128 < 256 by omega)])
        have hms:m % 128 < 128:=Nat.mod_lt _ (by decide)
        have h1:=andNot128' (m % 128) hms
        have hp:(m % 128) * 128 ^ pre.length+(m / 128) * 128 ^ (pre.length+1)=m * 128 ^ pre.length:=by
          have hd:=Nat.div_add_mod m 128
          rw [Nat.pow_succ]
          generalize 128 ^ pre.length=z
          conv=>rhs;rw [← hd]
          rw [Nat.add_mul,Nat.add_comm,Nat.mul_comm z 128,← Nat.mul_assoc,Nat.mul_comm 128 (m / 128)]
        have ho:=zkR (m:=m % 128) hn (by omega:acc+m % 128 * 128 ^ pre.length≤n) ha
        have hl9:pre.length < 9:=by omega
        have hnx:acc+m % 128 * 128 ^ pre.length < 128 ^ (pre.length+1):=by
          rw [Nat.pow_succ]
          have:=Nat.mul_le_mul_right (128 ^ pre.length) (show m % 128≤127 by omega)
          omega
        have he2:pre ++ [UInt8.ofNat (m % 128+128)] ++ vput (m / 128)=vput n:=by rw [List.append_assoc,List.singleton_append,← zbD hr128,he]
        have hv2:n=acc+m % 128 * 128 ^ pre.length+m / 128 * 128 ^ (pre.length+1):=by omega
        have hz2:0 < m / 128:=by omega
        have H2:=zz0 (And.intro hnx (And.intro he2 (And.intro hv2 hz2)))
        clear hnx he2 hv2 hz2 hp hv he hle hz
        generalize hw:acc+m % 128 * 128 ^ pre.length=acc2 at ho H2
        generalize hy:m % 128=y at hcc h1 ho hms
        go_wp2_with fail
        obtain ⟨k1,k2,k3,k4⟩:=H2.out
        exact ⟨⟨m / 128,acc2,pre ++ [UInt8.ofNat (y+128)],by simp,by simp,by first | trivial | rfl,by rw [← hy];exact k2,by simpa using k3,by simpa using k1,.inr k4⟩,by simp [intOf];omega⟩
def RdrB (v:Value):Obj:=.cells #[v,.nilIface] 248 (0,0)
def RdAt (F:Nat→Prop) (w:World) (p:Nat) (l:List UInt8):Prop:=∃ v,w.heap[p]? = some (RdrB v)∧Bs w v l∧okc v∧F p∧∀ g,v.ownBlock=some g→g≠p∧F g
section
variable {F S : Nat → Prop} {w w' : World} {p : Nat} {l : List UInt8} {v : Value}
theorem rd0 (h:w.heap[p]? = some (RdrB v)):w.cell? ⟨p,0,none⟩=some v:=by simp [World.cell?,h,RdrB]
theorem rd1 (h:w.heap[p]? = some (RdrB v)):w.cell? ⟨p,1,none⟩=some .nilIface:=by simp [World.cell?,h,RdrB]
theorem rdf (h:w.heap[p]? = some (RdrB v)) (i:Nat):w.frozen? ⟨p,i,none⟩=false:=by simp [World.frozen?,h,RdrB]
theorem RdAt.keep (h:RdAt F w p l) (k:Keep S w w') (hn:∀ g,F g→¬ S g):RdAt F w' p l:=by
  obtain ⟨v,h1,h2,h3,h4,h5⟩:=h
  exact ⟨v,k.at h1 (hn p h4),h2.keep k (fun g e=>hn g (h5 g e).2),h3,h4,h5⟩
theorem RdAt.mono {G:Nat→Prop} (h:RdAt F w p l) (hs:∀ g,F g→G g):RdAt G w p l:=by
  obtain ⟨v,h1,h2,h3,h4,h5⟩:=h
  exact ⟨v,h1,h2,h3,hs p h4,fun g e=>⟨(h5 g e).1,hs g (h5 g e).2⟩⟩
end
theorem zk5 (F:Nat→Prop) (v:Value) (l:List UInt8) (w:World) (h:Bs w v l) (hc:okc v) (hF:∀ g,v.ownBlock=some g→g < w.heap.size∧F g) :
    Calls Tryz.prog 94 #[v] w fun e w'=>e = .returned (.pointer (some ⟨w.heap.size,0,none⟩))∧Keep Non w w'∧RdAt (fun g=>F g∨g=w.heap.size) w' w.heap.size l:=by
  have H:=zz0 h
  have HF:=zz0 hF
  have HC:=zz0 hc
  obtain ⟨a,c,rfl,_⟩:=h
  rw [List.length_map] at H HF HC ⊢
  clear hF hc
  go_enter Tryz.func94,Tryz.ntmps94
  go_wp2_with fail
  go_ret
  have k:Keep Non w (w.alloc (RdrB (.slice a l.length c))):=(Keep.refl _ _).alloc _
  exact ⟨rfl,k,_,zab _ _,H.out.keepNon k,HC.out,.inr rfl,fun g e=>⟨by have:=(HF.out g e).1;omega,.inl (HF.out g e).2⟩⟩
theorem zdt (F:Nat→Prop) (p:Nat) (l:List UInt8) (w:World) (h:RdAt F w p l) :
    Calls Tryz.prog 153 #[.pointer (some ⟨p,0,none⟩)] w fun e w'=>e = .returned (.bool true)∧w'=w:=by
  obtain ⟨v,h1,_⟩:=h
  have c1:=rd1 h1
  clear h1
  go_enter Tryz.func153,Tryz.ntmps153
  go_wp2_with fail
  go_ret
  exact ⟨rfl,rfl⟩
theorem zbR (F:Nat→Prop) (p:Nat) (l:List UInt8) (w:World) (h:RdAt F w p l) :
    Calls Tryz.prog 154 #[.pointer (some ⟨p,0,none⟩)] w fun e w'=>e = .returned .nilIface∧w'=w:=by
  obtain ⟨v,h1,_⟩:=h
  have c1:=rd1 h1
  clear h1
  go_enter Tryz.func154,Tryz.ntmps154
  go_wp2_with fail
  go_ret
  exact ⟨rfl,rfl⟩
theorem zew {w:World} {g off:Nat} {n c:Nat} {t r:List UInt8} (h:Bs w (.slice (some ⟨g,off,none⟩) n c) (t ++ r)):Bs w (.slice (some ⟨g,off+t.length,none⟩) (n - t.length) (c - t.length)) r:=by
  obtain ⟨a,cap,e,hx⟩:=h
  injection e with e1 e2 e3
  subst e2
  refine ⟨_,c - t.length,by congr 1;simp,fun hne=>⟨g,off+t.length,rfl,fun j u hu=>?_⟩⟩
  obtain ⟨g',off',e4,hc⟩:=hx (by intro e;apply hne;simp at e;simp [e.2])
  rw [← e1] at e4
  injection e4 with e4
  injection e4 with e4 e5
  subst e4
  subst e5
  rw [Nat.add_assoc]
  exact hc (t.length+j) u (by rw [List.map_append,List.getElem?_append_right (by simp)];simpa using hu)
theorem zfO {w:World} {g off:Nat} {n c:Nat} (c':Nat) {t r:List UInt8} (h:Bs w (.slice (some ⟨g,off,none⟩) n c) (t ++ r)) (hn:n≤c) (hc:c=t.length):Bs w (.slice (some ⟨g,off,none⟩) (n - t.length) c') r:=by
  obtain ⟨a,cap,e,hx⟩:=h
  injection e with e1 e2 e3
  have hr:r = []:=by
    rw [List.length_map,List.length_append] at e2
    cases r with
    | nil=>rfl
    | cons x r=>simp at e2;omega
  subst hr
  exact ⟨_,c',by congr 1;simp at e2 ⊢;omega,fun hne=>(hne rfl).elim⟩
theorem zih {F:Nat→Prop} {w:World} {p g off n c n' c' off':Nat} {r:List UInt8} (h1:w.heap[p]? = some (RdrB (.slice (some ⟨g,off,none⟩) n c))) (hF:F p∧∀ k,(Value.slice (some ⟨g,off,none⟩) n c).ownBlock=some k→k≠p∧F k)
    (h2:Bs w (.slice (some ⟨g,off',none⟩) n' c') r) (h3:n'≤c'):Keep (One p) w (w.setCell ⟨p,0,none⟩ (.slice (some ⟨g,off',none⟩) n' c'))∧RdAt F (w.setCell ⟨p,0,none⟩ (.slice (some ⟨g,off',none⟩) n' c')) p r:=by
  have k:=(Keep.refl (One p) w).setOne 0 (.slice (some ⟨g,off',none⟩) n' c')
  exact ⟨k,_,zaf h1 0 _,h2.keep k (fun q e e2=>(hF.2 q e).1 e2),⟨h3,fun ad e=>by injection e with e;subst e;exact ⟨_,_,rfl⟩⟩,hF.1,fun q e=>hF.2 q e⟩
theorem zej (F:Nat→Prop) (p n:Nat) (r:List UInt8) (w:World) (h:RdAt F w p (vput n ++ r)) (hn:n < 2 ^ 63) :
    Calls Tryz.prog 97 #[.pointer (some ⟨p,0,none⟩)] w fun e w'=>e = .returned (.int .u64 n)∧Keep (One p) w w'∧RdAt F w' p r:=by
  have H:=zz0 h
  obtain ⟨v,h1,h2,h3,h4,h5⟩:=h
  have HB:=zz0 h2
  have c0:=rd0 h1
  have c1:=rd1 h1
  have f0:=rdf h1 0
  have H1:=zz0 h1
  have H3:=zz0 h3
  have H45:=zz0 (And.intro h4 h5)
  obtain ⟨a,c,rfl,hx⟩:=h2
  obtain ⟨g,off,rfl,_⟩:=hx (by intro e;have h0:=zc0 n;rw [List.map_eq_nil_iff,List.append_eq_nil_iff] at e;rw [e.1] at h0;exact absurd h0 (by simp))
  replace h3:=h3.1
  simp only [List.length_map] at h3
  have hl:(vput n).length≤(vput n ++ r).length:=by simp
  rw [List.length_map] at HB c0 H1 H3 H45
  generalize (vput n ++ r).length=q at hl h3 HB c0 H1 H3 H45
  clear h1 h4 h5 hx
  go_enter Tryz.func97,Tryz.ntmps97
  go_wp2_with (first
    | (go_at_call 153;refine (zdt F p _ _ H.out).mono ?_;rintro e w' ⟨rfl,rfl⟩)
    | (go_at_call 82;refine (zhx _ n r _ HB.out H3.out hn).mono ?_;rintro e w' ⟨rfl,rfl⟩))
  · go_ret
    exact ⟨rfl,zih H1.out H45.out (zfO _ HB.out H3.out.1 ‹_›) (by omega)⟩
  · go_ret
    exact ⟨rfl,zih H1.out H45.out (zew HB.out) (by omega)⟩
theorem zbc (F:Nat→Prop) (p n most:Nat) (r:List UInt8) (w:World) (h:RdAt F w p (vput n ++ r)) (hm:n≤most) (hmost:most < 4611686018427387904) :
    Calls Tryz.prog 95 #[.pointer (some ⟨p,0,none⟩),.int .u64 most] w fun e w'=>e = .returned (.int .i64 n)∧Keep (One p) w w'∧RdAt F w' p r:=by
  have H:=zz0 h
  clear h
  go_enter Tryz.func95,Tryz.ntmps95
  go_wp2_with (go_at_call 97;refine (zej F p n r _ H.out (by omega)).mono ?_;rintro e w1 ⟨rfl,k1,r1⟩;have K1:=zz0 k1;have R1:=zz0 r1;clear k1 r1)
  go_ret
  exact ⟨rfl,K1.out,R1.out⟩
theorem zor (F:Nat→Prop) (p:Nat) (l:List UInt8) (w:World) (h:RdAt F w p l) :
    Calls Tryz.prog 155 #[.pointer (some ⟨p,0,none⟩)] w fun e w'=>e = .returned (.int .i64 l.length)∧w'=w:=by
  have H:=zz0 h
  obtain ⟨v,h1,h2,_⟩:=h
  have c0:=rd0 h1
  obtain ⟨a,c,rfl,_⟩:=h2
  rw [List.length_map] at c0
  clear h1
  go_enter Tryz.func155,Tryz.ntmps155
  go_wp2_with (go_at_call 153;refine (zdt F p _ _ H.out).mono ?_;rintro e w' ⟨rfl,rfl⟩)
  go_ret
  exact ⟨rfl,rfl⟩
theorem znG (F:Nat→Prop) (p:Nat) (w:World) (h:RdAt F w p []) :
    Calls Tryz.prog 100 #[.pointer (some ⟨p,0,none⟩)] w fun e w'=>e = .returned .nilIface∧w'=w:=by
  have H:=zz0 h
  clear h
  go_enter Tryz.func100,Tryz.ntmps100
  go_wp2_with (first
    | (go_at_call 154;refine (zbR F p _ _ H.out).mono ?_;rintro e w' ⟨rfl,rfl⟩)
    | (go_at_call 155;refine (zor F p _ _ H.out).mono ?_;rintro e w' ⟨rfl,rfl⟩))
  go_ret
  exact ⟨rfl,rfl⟩
theorem zkk {w:World} {g off:Nat} {n c:Nat} {t r:List UInt8} (h:Bs w (.slice (some ⟨g,off,none⟩) n c) (t ++ r)):Bs w (.slice (some ⟨g,off,none⟩) t.length c) t:=by
  obtain ⟨a,cap,e,hx⟩:=h
  injection e with e1 e2 e3
  refine ⟨_,c,by congr 1;simp,fun hne=>⟨g,off,rfl,fun j u hu=>?_⟩⟩
  obtain ⟨g',off',e4,hc⟩:=hx (by intro e;apply hne;simp at e;simp [e.1])
  rw [← e1] at e4
  injection e4 with e4
  injection e4 with e4 e5
  subst e4
  subst e5
  have hj:j < t.length:=by
    rcases Nat.lt_or_ge j t.length with h | h
    · exact h
    · rw [List.getElem?_eq_none (by simpa using h)] at hu;cases hu
  exact hc j u (by rw [List.map_append,List.getElem?_append_left (by simpa using hj)];exact hu)
theorem zhX (F:Nat→Prop) (p:Nat) (t r:List UInt8) (w:World) (h:RdAt F w p (t ++ r)) (htl:t.length≤1000000) :
    Calls Tryz.prog 152 #[.pointer (some ⟨p,0,none⟩),.int .i64 t.length] w fun e w'=>∃ v',e = .returned v'∧Keep (One p) w w'∧RdAt F w' p r∧w'.ownsRow w.heap.size 5 1 v' t.length (t.map bv):=by
  have H:=zz0 h
  obtain ⟨v,h1,h2,h3,h4,h5⟩:=h
  have HB:=zz0 h2
  have c0:=rd0 h1
  have c1:=rd1 h1
  have f0:=rdf h1 0
  have hlt:=lt_of_block h1
  have H1:=zz0 h1
  have H3:=zz0 h3
  have H45:=zz0 (And.intro h4 h5)
  obtain ⟨a,c,rfl,hx⟩:=h2
  have h3a:=h3.2
  replace h3:=h3.1
  simp only [List.length_map] at h3
  have hl:t.length≤(t ++ r).length:=by simp
  rw [List.length_map] at HB c0 H1 H3 H45
  generalize (t ++ r).length=q at hl h3 HB c0 H1 H3 H45
  generalize hk:t.length=k at htl hl ⊢
  have HK:=zz0 hk
  clear h1 h4 h5
  cases a with
  | none =>
    have ht0:t ++ r = []:=by
      rcases Classical.em (t ++ r = []) with e | e
      · exact e
      · obtain ⟨g,off,e2,_⟩:=hx (by simpa using e)
        cases e2
    obtain ⟨rfl,rfl⟩:=List.append_eq_nil_iff.1 ht0
    obtain rfl:k=0:=by rw [← hk];rfl
    have hq0:q=0:=by obtain ⟨a,c',e,_⟩:=HB.out;injection e
    subst hq0
    clear hx hk
    go_enter Tryz.func152,Tryz.ntmps152
    go_wp2_with (first
      | (go_at_call 153;refine (zdt F p _ _ H.out).mono ?_;rintro e w' ⟨rfl,rfl⟩)
      | (go_at_call 81;refine (zf6 _ _).mono ?_;rintro e w1 ⟨rfl,rfl⟩))
    go_ret
    have k:=(Keep.refl (One p) w').setOne 0 (.slice none 0 c)
    exact ⟨_,rfl,k,⟨_,zaf H1.out 0 _,⟨none,c,rfl,fun h=>(h rfl).elim⟩,H3.out,H45.out.1,fun g e=>H45.out.2 g e⟩,World.ownsRow_nil _ _ _ _⟩
  | some ad =>
  obtain ⟨g,off,rfl⟩:=h3a ad rfl
  clear hx hk
  go_enter Tryz.func152,Tryz.ntmps152
  go_wp2_with (first
    | (go_at_call 153;refine (zdt F p _ _ H.out).mono ?_;rintro e w' ⟨rfl,rfl⟩)
    | (go_at_call 81;have hb:=zkk HB.out;rw [HK.out] at hb;refine (za1 _ t _ hb (by have:=HK.out;omega)).mono ?_;rintro e w1 ⟨v1,rfl,k1,o1⟩;have hh1:=k1.at H1.out (fun e=>e);have d0:=rd0 hh1;have d1:=rd1 hh1;have e0:=rdf hh1 0;have HH1:=zz0 hh1;have K1:=zz0 k1;have O1:=zz0 o1;clear hb hh1 k1 o1))
  all_goals go_ret
  all_goals
    refine ⟨_,rfl,?_⟩
    have hb1:=HB.out.keepNon K1.out
  · have hs:=zih HH1.out H45.out (zfO (off:=off) (n:=q) 0 hb1 H3.out.1 (by rw [HK.out];assumption)) (by have:=HK.out;omega)
    rw [HK.out] at hs
    have ho:=O1.out
    rw [HK.out] at ho
    exact ⟨(K1.out.ofNon).trans1 hs.1,hs.2,zac ho hs.1 (fun g e=>by have:=(ho.lt g e).1;unfold One;omega)⟩
  · have hs:=zih HH1.out H45.out (zew hb1) (by omega)
    rw [HK.out] at hs
    have ho:=O1.out
    rw [HK.out] at ho
    exact ⟨(K1.out.ofNon).trans1 hs.1,hs.2,zac ho hs.1 (fun g e=>by have:=(ho.lt g e).1;unfold One;omega)⟩
def fI (x:Int):Int:=if bits .and .u32 x 1=1 then bits .xor .u32 (x / 2) 2197175160 else x / 2
def fN:Nat→Int→Int
  | 0,x=>x
  | k+1,x=>fI (fN k x)
def tabI (x:Int):Int:=fN 8 x
theorem wrap32 {n:Nat} (h:n < 2 ^ 32):IntKind.u32.wrap (n:Int)=(n:Int):=by
  have e:(2 ^ IntKind.u32.bits:Int)=4294967296:=rfl
  unfold IntKind.wrap
  simp only [e]
  rw [if_neg (by simp [IntKind.signed])]
  omega
theorem bits32 (op:BinOp) (x y:Int):0≤bits op .u32 x y∧bits op .u32 x y < 4294967296:=by
  have h:=wf_bits op .u32 x y
  simp [Lit.wf,IntKind.min,IntKind.max,IntKind.signed,IntKind.bits] at h
  omega
theorem fI_32 (x:Int) (h:0≤x∧x < 4294967296):0≤fI x∧fI x < 4294967296:=by
  unfold fI
  split
  · exact bits32 _ _ _
  · omega
theorem fN_32 (x:Int) (h:0≤x∧x < 4294967296):∀ k,0≤fN k x∧fN k x < 4294967296
  | 0=>h
  | k+1=>fI_32 _ (fN_32 x h k)
theorem zjN (x:Int) (h:0≤x∧x < 4294967296) (w:World) :
    Calls Tryz.prog 367 #[.int .u32 x] w fun e w'=>e = .returned (.int .u32 (tabI x))∧w'=w:=by
  have h1:=h.1
  have h2:=h.2
  go_enter Tryz.func367,Tryz.ntmps367
  go_wp2_with fail
  go_loopw [0,4] (fun o i wr=>∃ j:Nat,j≤8∧i = .int .i64 j∧o = .int .u32 (fN j x)∧wr=w) (fun _ i _=>8 - (intOf i).toNat)
  case atStart=>exact ⟨0,by omega,rfl,rfl,rfl⟩
  case round =>
    obtain ⟨j,hj,rfl,rfl,rfl⟩:=hrel
    by_cases hlt:j < 8
    · have hy:=fN_32 x h j
      have HS:Hid (fN (j+1) x=fI (fN j x)):=zz0 rfl
      generalize fN j x=y at hy HS
      have hy1:=hy.1
      have hy2:=hy.2
      by_cases hb:bits .and .u32 y 1=1
      · have e:fI y=bits .xor .u32 (y / 2) 2197175160:=by unfold fI;rw [if_pos hb]
        go_wp2_with fail
        exact ⟨⟨j+1,by omega,by go_num,by rw [HS.out,e],by trivial⟩,by simp [intOf];omega⟩
      · have e:fI y=y / 2:=by unfold fI;rw [if_neg hb]
        go_wp2_with fail
        exact ⟨⟨j+1,by omega,by go_num,by rw [HS.out,e],by trivial⟩,by simp [intOf];omega⟩
    · obtain rfl:j=8:=by omega
      go_wp2_with fail
      go_ret
      exact ⟨rfl,rfl⟩
def MkAt (w:World) (b j:Nat) (o:Nat→Option Value):Prop:=∃ cs:Array Value,w.heap[b]? = some (.cells cs 240 (0,0))∧cs.size=260∧(∀ k,k < j→cs[3+k]? = some (.int .u32 (tabI k)))∧(∀ k,k < 3∨258 < k→cs[k]? = o k)
theorem MkAt.keep {S:Nat→Prop} {w w':World} {b j:Nat} {o:Nat→Option Value} (h:MkAt w b j o) (k:Keep S w w') (hn:¬ S b):MkAt w' b j o:=by
  obtain ⟨cs,h1,h2⟩:=h
  exact ⟨cs,k.at h1 hn,h2⟩
theorem MkAt.cell {w:World} {b j:Nat} {o:Nat→Option Value} (h:MkAt w b j o) (k:Nat) (hk:k < j):w.cell? ⟨b,3+k,none⟩=some (.int .u32 (tabI k)):=by
  obtain ⟨cs,h1,_,h3,_⟩:=h
  simp [World.cell?,h1,h3 k hk]
theorem MkAt.other {w:World} {b j:Nat} {o:Nat→Option Value} (h:MkAt w b j o) (k:Nat) (hk:k < 3∨258 < k):w.cell? ⟨b,k,none⟩=o k:=by
  obtain ⟨cs,h1,_,_,h3⟩:=h
  simp [World.cell?,h1,h3 k hk]
theorem MkAt.free {w:World} {b j:Nat} {o:Nat→Option Value} (h:MkAt w b j o) (k:Nat):w.frozen? ⟨b,k,none⟩=false:=by
  obtain ⟨cs,h1,_⟩:=h
  simp [World.frozen?,h1]
theorem MkAt.any {w:World} {b j:Nat} {o:Nat→Option Value} (h:MkAt w b j o) (k:Nat) (hk:k < 260):∃ u,w.cell? ⟨b,k,none⟩=some u:=by
  obtain ⟨cs,h1,h2,_⟩:=h
  exact ⟨cs[k]'(by omega),by simp [World.cell?,h1,h2,hk]⟩
theorem MkAt.put {w:World} {b j:Nat} {o:Nat→Option Value} (h:MkAt w b j o) (hj:j < 256):MkAt (w.setCell ⟨b,3+j,none⟩ (.int .u32 (tabI j))) b (j+1) o:=by
  obtain ⟨cs,h1,h2,h3,h4⟩:=h
  refine ⟨_,zaf h1 _ _,by simpa using h2,fun k hk=>?_,fun k hk=>?_⟩
  · rw [Array.getElem?_setIfInBounds]
    by_cases e:k=j
    · subst e
      rw [if_pos rfl,if_pos (by omega)]
    · rw [if_neg (by omega)]
      exact h3 k (by omega)
  · rw [Array.getElem?_setIfInBounds,if_neg (by omega)]
    exact h4 k hk
theorem MkAt.set {w:World} {b j:Nat} {o:Nat→Option Value} (h:MkAt w b j o) (k:Nat) (hk:k < 3∨k=259) (u:Value) (hj:j≤256):MkAt (w.setCell ⟨b,k,none⟩ u) b j (fun i=>if i=k then some u else o i):=by
  obtain ⟨cs,h1,h2,h3,h4⟩:=h
  refine ⟨_,zaf h1 _ _,by simpa using h2,fun i hi=>?_,fun i hi=>?_⟩
  · rw [Array.getElem?_setIfInBounds,if_neg (by omega)]
    exact h3 i hi
  · show _=(if i=k then some u else o i)
    rw [Array.getElem?_setIfInBounds]
    by_cases e:k=i
    · subst e
      rw [if_pos rfl,if_pos (by omega),if_pos rfl]
    · rw [if_neg e,if_neg (fun e2=>e e2.symm)]
      exact h4 i hi
theorem zmg (b:Nat) (o:Nat→Option Value) (w:World) (h:MkAt w b 0 o) :
    Calls Tryz.prog 337 #[.pointer (some ⟨b,0,none⟩)] w fun e w'=>e = .returned (.tuple #[])∧Keep (One b) w w'∧MkAt w' b 256 o:=by
  have H:=zz0 h
  clear h
  go_enter Tryz.func337,Tryz.ntmps337
  go_wp2_with fail
  go_loopw [3] (fun i wr=>∃ j:Nat,j≤256∧i = .int .i64 j∧Keep (One b) w wr∧MkAt wr b j o) (fun i _=>256 - (intOf i).toNat)
  case atStart=>exact ⟨0,by omega,rfl,Keep.refl _ _,H.out⟩
  case round =>
    obtain ⟨j,hj,rfl,hk,hm⟩:=hrel
    have K:=zz0 hk
    have M:=zz0 hm
    clear hk hm
    by_cases hlt:j < 256
    · obtain ⟨u,hu⟩:=M.out.any (3+j) (by omega)
      have hf:=M.out.free (3+j)
      have hw:=wrap32 (n:=j) (by omega)
      go_wp2_with fail
      go_region_with (go_at_call 367;refine (zjN _ (by omega) _).mono ?_;rintro e w' ⟨rfl,rfl⟩)
      all_goals
        go_wp2_with fail
        exact ⟨⟨j+1,by omega,by go_num,(K.out.drew).setOne _ _,(M.out.keep ((Keep.refl Non _).drew) (fun e=>e)).put hlt⟩,by simp [intOf];omega⟩
    · obtain rfl:j=256:=by omega
      go_wp2_with fail
      go_end0
      exact ⟨rfl,K.out,M.out⟩
theorem zdn (w:World):(callFunc 397 #[]).run Tryz.prog w = .ok (.value (.tuple #[])) w:=run_call_mark0 Tryz.func397 (by kernel_rfl) (by kernel_rfl) (by kernel_rfl) .disable (by kernel_rfl) w
theorem zeu (w:World):(callFunc 399 #[]).run Tryz.prog w = .ok (.value (.tuple #[])) w:=run_call_mark0 Tryz.func399 (by kernel_rfl) (by kernel_rfl) (by kernel_rfl) .enable (by kernel_rfl) w
theorem zgu (a:Addr) (w:World):(callFunc 400 #[.pointer (some a)]).run Tryz.prog w = .ok (.value (.tuple #[])) w:=run_call_marked Tryz.func400 (by kernel_rfl) (by kernel_rfl) (by kernel_rfl) .acquire (by kernel_rfl) a w
theorem zgv (a:Addr) (w:World):(callFunc 402 #[.pointer (some a)]).run Tryz.prog w = .ok (.value (.tuple #[])) w:=run_call_marked Tryz.func402 (by kernel_rfl) (by kernel_rfl) (by kernel_rfl) .releaseMerge (by kernel_rfl) a w
theorem zeP (a:Addr) (x:Value) (u:FrameMode) (w:World) (hc:w.cell? a=some x) (hz:w.frozen? a=false) :
    CallsD Tryz.prog 385 #[.pointer (some a),.bool true] u w fun e u' w'=>u'=u∧(e = .returned (.tuple #[])∧w'=w.drew.setCell a (.int .u32 1)):=by
  have hc':w.drew.cell? a=some x:=by go_simp
  have hz':w.drew.frozen? a=false:=by go_simp
  have hst:=run_call_store (P:=Tryz.prog) Tryz.func393 (by kernel_rfl) (by kernel_rfl) (by kernel_rfl) (by kernel_rfl) (k:=.u32) (y:=1) hc' hz'
  go_enter_d Tryz.func385,Tryz.ntmps385
  go_wp2
  go_region_calls
  all_goals (go_end0;exact ⟨rfl,rfl⟩)
theorem zeH (a:Addr) (u:FrameMode) (w:World) (hc:w.cell? a=some (.int .i32 1)) (hz:w.frozen? a=false) :
    CallsD Tryz.prog 384 #[.pointer (some a)] u w fun e u' w'=>u'=u∧(e = .returned (.tuple #[])∧w'=w.setCell a (.int .i32 0)):=by
  have hd:=zdn
  have he:=zeu
  have hr:=zgv
  have hadd:=run_call_add (P:=Tryz.prog) Tryz.func403 (by kernel_rfl) (by kernel_rfl) (by kernel_rfl) .i32 (by kernel_rfl) (y:=-1) (s:=0) hc hz (by simp [go_sem];rfl)
  have hcv:=run_convert_to_unsafe (P:=Tryz.prog) (src:=467) (dst:=414) Tryz.underlying467 Tryz.underlying414 (by kernel_rfl) hc
  go_enter_d Tryz.func384,Tryz.ntmps384
  go_wp2
  go_end0
  go_wp2
theorem zkz (a:Addr) (w:World) (hc:w.cell? a=some (.int .i32 0)) (hz:w.frozen? a=false) :
    Calls Tryz.prog 383 #[.pointer (some a)] w fun e w'=>e = .returned (.tuple #[])∧w'=w.setCell a (.int .i32 1):=by
  have hd:=zdn
  have he:=zeu
  have ha:=zgu
  have hcas:=run_call_cas_hit (P:=Tryz.prog) Tryz.func398 (by kernel_rfl) (by kernel_rfl) (by kernel_rfl) .i32 (by kernel_rfl) (y:=1) hc hz
  have hc':(w.setCell a (.int .i32 1)).cell? a=some (.int .i32 1):=World.cell?_setCell_same w a _ hc
  have hcv:=run_convert_to_unsafe (P:=Tryz.prog) (src:=467) (dst:=414) Tryz.underlying467 Tryz.underlying414 (by kernel_rfl) hc'
  go_enter Tryz.func383,Tryz.ntmps383
  go_wp2
  first | go_end0 | (simp only [Exit.inBlock,Exit.then];refine bodyPost_ret (results_none rfl _ _ _) rfl ?_) | refine bodyPost_ret (results_none rfl _ _ _) rfl ?_
  go_wp2
theorem zeR (a:Addr) (w:World) (h:w.cell? a=some (.int .u32 0)) :
    Calls Tryz.prog 365 #[.pointer (some a)] w fun e w'=>e = .returned (.bool false)∧w'=w:=by
  have hl:=run_call_load (P:=Tryz.prog) Tryz.func382 (by kernel_rfl) (by kernel_rfl) (by kernel_rfl) .u32 (by kernel_rfl) (w:=w) (a:=a) (x:=0) h
  go_enter Tryz.func365,Tryz.ntmps365
  go_wp2_with fail
  go_ret
  exact ⟨rfl,rfl⟩
theorem MkAt.drew {w:World} {b j:Nat} {o:Nat→Option Value} (h:MkAt w b j o):MkAt w.drew b j o:=h
theorem zln (b:Nat) (o:Nat→Option Value) (w:World) (h:MkAt w b 0 o) (h0:o 0=some (.int .u32 0)) (h1:o 1=some (.int .i32 0)) :
    Calls Tryz.prog 366 #[.pointer (some ⟨b,0,none⟩),.func (.func 337) #[.pointer (some ⟨b,0,none⟩)] #[]] w fun e w'=>e = .returned (.tuple #[])∧Keep (One b) w w'∧∃ o',MkAt w' b 256 o':=by
  have m1:=h.set 1 (by omega) (.int .i32 1) (by omega)
  have l0:(w.setCell ⟨b,1,none⟩ (.int .i32 1)).cell? ⟨b,0,none⟩=some (.int .u32 0):=by rw [m1.other 0 (by omega),if_neg (by omega)];exact h0
  have hnot:∀ (x:Bool) (w:World),(Op.unary .not (.bool x)).run Tryz.prog w = .ok (.bool (!x)) w:=fun _ _=>rfl
  have c1:w.cell? ⟨b,1,none⟩=some (.int .i32 0):=by rw [h.other 1 (by omega)];exact h1
  have f1:=h.free 1
  have M1:=zz0 m1
  have H:=zz0 h
  clear m1 h
  go_enter_defers Tryz.func366,Tryz.ntmps366
  go_wp2_with (first
    | (go_at_call 383;refine (zkz ⟨b,1,none⟩ _ c1 f1).mono ?_;rintro e w' ⟨rfl,rfl⟩)
    | (go_at_call 365;refine (zeR ⟨b,0,none⟩ _ l0).mono ?_;rintro e w' ⟨rfl,rfl⟩)
    | (go_at_call 337;refine (zmg b _ _ M1.out).mono ?_;rintro e w2 ⟨rfl,k2,m2⟩;have K2:=zz0 k2;have M2:=zz0 m2;clear k2 m2))
  -- the two deferred calls,the last laid first
  have m3:=M2.out.drew.set 0 (by omega) (.int .u32 1) (by omega)
  have M3:=zz0 m3
  have m4:=m3.set 1 (by omega) (.int .i32 0) (by omega)
  have M4:=zz0 m4
  clear m3 m4
  refine leaves_cons (f:=385) (args:=#[.pointer (some ⟨b,0,none⟩),.bool true]) (by simp) (by simp [go_sem]) ?_
  refine (zeP ⟨b,0,none⟩ (.int .u32 0) .returning _ (by rw [M2.out.other 0 (by omega),if_neg (by omega)];exact h0) (M2.out.free 0)).mono ?_
  rintro e u' w'' ⟨rfl,rfl,rfl⟩
  refine leaves_cons (f:=384) (args:=#[.pointer (some ⟨b,1,none⟩)]) (by simp [settle]) (by simp [go_sem]) ?_
  refine (zeH ⟨b,1,none⟩ _ _ (by rw [M3.out.other 1 (by omega)];rfl) (M3.out.free 1)).mono ?_
  rintro e u' w'' ⟨rfl,rfl,rfl⟩
  have hk:Keep (One b) w ((w2.drew.setCell ⟨b,0,none⟩ (.int .u32 1)).setCell ⟨b,1,none⟩ (.int .i32 0)):=((((Keep.refl _ w).setOne 1 _).trans1 K2.out).drew.setOne 0 _).setOne 1 _
  have hm:=M4.out
  simp [Leaves,settle,results,Tryz.results366]
  exact ⟨hk,_,hm⟩
end Go.Proofs.YtnboipdpccnedaaGreatDoor
