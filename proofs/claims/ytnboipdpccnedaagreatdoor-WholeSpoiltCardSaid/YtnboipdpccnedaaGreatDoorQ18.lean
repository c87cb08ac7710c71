/- The document's digest: Sum, walked. -/
import Derived.Laws.Tables
import Derived.Test.YtnboipdpccnedaaGreatDoorQ16
import Derived.Test.YtnboipdpccnedaaGreatDoorQ17
set_option linter.unusedVariables false
set_option maxRecDepth 100000
set_option maxHeartbeats 16000000
namespace Go.Proofs.YtnboipdpccnedaaGreatDoor
open Go.RowKit Go.Shelf
def fvs:List Value:=(List.range 8).map fv
def kvs:List Value:=(List.range 64).map kv
def wl (s:W8):List Value:=s.cells.toList
theorem zpR:fvs=wl first8:=rfl
theorem rd_at {w:World} {xs:List Value} {a:Option Addr} {n c:Nat} (h:Rd w (.slice a n c) xs) (hne:xs≠[]):∃ g off,a=some ⟨g,off,none⟩∧n=xs.length∧∀ j u,xs[j]? = some u→w.cell? ⟨g,off+j,none⟩=some u:=by
  obtain ⟨a',c',e,hx⟩:=h
  injection e with e1 e2 e3
  obtain ⟨g,off,e4,hc⟩:=hx hne
  exact ⟨g,off,e1.trans e4,e2,hc⟩
theorem zlV {bk:List UInt8} {t wg wc:Nat} {base:Nat} {x16 x7 y:Int} {wr w':World} {v':Value} {o:Obj} (ht:16≤t∧t < 64) (h16:x16=schedW bk (t - 16)) (h7:x7=schedW bk (t - 7))
    (ho:w'.ownsRow base 167 1 v' (t + [Value.int .u32 y].length) ((List.range t).map (fun t=>Value.int .u32 (schedW bk t)) ++ [Value.int .u32 y]))
    (hp:v'.ownBlock=(Value.slice (some ⟨wg,0,none⟩) t wc).ownBlock∨(v'.ownBlock=some (wr.alloc o).drew.heap.size∧Keep Non (wr.alloc o).drew w'))
    (hs:∀ o:Obj,(wr.alloc o).drew.cell? ⟨wg,t - 16,none⟩=some (.int .u32 x16)∧(wr.alloc o).drew.cell? ⟨wg,t - 7,none⟩=some (.int .u32 x7)) :
    w'.cell? ⟨wg,t - 16,none⟩=some (.int .u32 x16)∧w'.cell? ⟨wg,t - 7,none⟩=some (.int .u32 x7):=by
  rcases hp with e | ⟨_,k⟩
  · rcases ho.2 with ⟨_,h0⟩ | ⟨g,cap,cur,rfl,_⟩
    · simp at h0
    have eg:g=wg:=by simpa [Value.ownBlock] using e
    subst eg
    have key:∀ j,j < t→w'.cell? ⟨g,j,none⟩=some (.int .u32 (schedW bk j)):=fun j hj=>by
      have:=World.ownsRow.cells ho (g:=g) rfl j (.int .u32 (schedW bk j)) (by rw [List.getElem?_append_left (by simpa using hj)];simp [hj])
      rwa [zau,Nat.zero_add] at this
    rw [h16,h7]
    exact ⟨key _ (by omega),key _ (by omega)⟩
  · obtain ⟨h1,h2⟩:=hs o
    have hb:=World.block_lt_of_cell? _ _ h1
    exact ⟨(World.cell?_of_block (k.block wg hb (fun e=>e))).trans h1,(World.cell?_of_block (k.block wg hb (fun e=>e))).trans h2⟩
theorem zl8 (s:W8) (n:Nat) (h:n < 32):(digC s n).setIfInBounds n (.int .u8 (s.byte n))=digC s (n+1):=by
  apply Array.ext_getElem?
  intro j
  by_cases hj:j < 32
  · rw [Array.getElem?_setIfInBounds,zfq _ _ _ hj,zfq _ _ _ hj,zaq]
    by_cases e:n=j
    · subst e
      simp [h]
    · rw [if_neg e]
      by_cases h2:j < n
      · rw [if_pos h2,if_pos (by omega)]
      · rw [if_neg h2,if_neg (by omega)]
  · rw [Array.getElem?_eq_none (by rw [Array.size_setIfInBounds,zaq];omega),Array.getElem?_eq_none (by rw [zaq];omega)]
theorem zqf (s:W8) (i:Nat) (h:i < 8):(wl s)[i]? = some (.int .u32 (s.at i)):=by
  rw [wl,Array.getElem?_toList]
  exact W8.get s i h
section
attribute [local simp high] hA49 hS49
theorem zm5 (l:List UInt8) (a:Option Addr) (cap:Nat) (x y:Option Addr) (c d:Nat) (w:World) (hb:Bs w (.slice a l.length cap) l) (hx:Rd w (.slice x 64 c) kvs) (hy:Rd w (.slice y 8 d) fvs) (ht:l.length≤10000) :
    Calls Tryz.prog 38 #[.slice a l.length cap,.slice x 64 c,.slice y 8 d] w fun e w'=>e = .returned (arrV (digB (shaS l)))∧Keep Non w w':=by
  have HB:=zz0 hb
  have HX:=zz0 hx
  have HY:=zz0 hy
  obtain ⟨i0,hi0,hz0,hz1,hz2⟩:=info_parts shU8
  obtain ⟨j0,hj0,jz0,jz1,jz2⟩:=info_parts infoU32
  clear hb hx hy
  go_enter Tryz.func38,Tryz.ntmps38
  have hz0w:∃ old:Array Value,(w.alloc (.cells #[.int .u8 0,.int .u8 0,.int .u8 0,.int .u8 0,.int .u8 0,.int .u8 0,.int .u8 0,.int .u8 0,.int .u8 0,.int .u8 0,.int .u8 0,.int .u8 0,.int .u8 0,.int .u8 0,.int .u8 0,.int .u8 0,.int .u8 0,.int .u8 0,.int .u8 0,.int .u8 0,.int .u8 0,.int .u8 0,.int .u8 0,.int .u8 0,.int .u8 0,.int .u8 0,.int .u8 0,.int .u8 0,.int .u8 0,.int .u8 0,.int .u8 0,.int .u8 0] 49)).heap[w.heap.size]? = some (.cells old 49 (0,0))∧old.size=32:=⟨_,zab _ _,rfl⟩
  have k1:Keep Non w (w.alloc (.cells #[.int .u8 0,.int .u8 0,.int .u8 0,.int .u8 0,.int .u8 0,.int .u8 0,.int .u8 0,.int .u8 0,.int .u8 0,.int .u8 0,.int .u8 0,.int .u8 0,.int .u8 0,.int .u8 0,.int .u8 0,.int .u8 0,.int .u8 0,.int .u8 0,.int .u8 0,.int .u8 0,.int .u8 0,.int .u8 0,.int .u8 0,.int .u8 0,.int .u8 0,.int .u8 0,.int .u8 0,.int .u8 0,.int .u8 0,.int .u8 0,.int .u8 0,.int .u8 0] 49)):=(Keep.refl _ _).alloc _
  have s1:(w.alloc (.cells #[.int .u8 0,.int .u8 0,.int .u8 0,.int .u8 0,.int .u8 0,.int .u8 0,.int .u8 0,.int .u8 0,.int .u8 0,.int .u8 0,.int .u8 0,.int .u8 0,.int .u8 0,.int .u8 0,.int .u8 0,.int .u8 0,.int .u8 0,.int .u8 0,.int .u8 0,.int .u8 0,.int .u8 0,.int .u8 0,.int .u8 0,.int .u8 0,.int .u8 0,.int .u8 0,.int .u8 0,.int .u8 0,.int .u8 0,.int .u8 0,.int .u8 0,.int .u8 0] 49)).heap.size=w.heap.size+1:=World.size_alloc _ _
  have K0:=zz0 k1
  have S0:=zz0 s1
  have Z0:=zz0 hz0w
  clear hz0w k1 s1
  go_step
  go_step
  go_step
  go_step
  go_step
  generalize w.alloc (.cells #[.int .u8 0,.int .u8 0,.int .u8 0,.int .u8 0,.int .u8 0,.int .u8 0,.int .u8 0,.int .u8 0,.int .u8 0,.int .u8 0,.int .u8 0,.int .u8 0,.int .u8 0,.int .u8 0,.int .u8 0,.int .u8 0,.int .u8 0,.int .u8 0,.int .u8 0,.int .u8 0,.int .u8 0,.int .u8 0,.int .u8 0,.int .u8 0,.int .u8 0,.int .u8 0,.int .u8 0,.int .u8 0,.int .u8 0,.int .u8 0,.int .u8 0,.int .u8 0] 49)=w0 at K0 S0 Z0 ⊢
  obtain ⟨old,hold,hos⟩:=Z0.out
  have OLD:=zz0 hold
  have OS:=zz0 hos
  clear Z0 hold hos
  have own1:Hid ((w0.alloc (.cells #[] 5)).ownsRow w0.heap.size 5 1 (.slice (some ⟨w0.heap.size,0,none⟩) 0 0) 0 []):=zz0 (World.ownsRow_made (base:=w0.heap.size) (e:=5) (size:=1) w0 #[] 0 (Nat.le_refl _) (by decide) rfl)
  have B1:=zz0 ((HB.out.keepNon K0.out).keepNon ((Keep.refl Non w0).alloc (.cells #[] 5)))
  go_wp2_with (first
    | (at_builtin;refine zah rfl (.tmp 30) (.tmp 31) 44 rfl w0.heap.size 5 i0 (.int .u8 0) 1 Tryz.underlying44 hi0 hz0 hz1 hz2 rfl (.slice (some ⟨w0.heap.size,0,none⟩) 0 0) 0 [] rfl own1.out (.slice a l.length cap) rfl (l.map bv) B1.out (zam l) (by unfold maxLen;simp;omega) (by simp;omega) (by simp) ?_;intro v1 w1 ho hg hp;have HO1:=zz0 ho;have HG1:=zz0 hg;clear ho hp hg)
    | (at_builtin;refine zah rfl (.tmp 33) (.tmp 34) 44 rfl w0.heap.size 5 i0 (.int .u8 0) 1 Tryz.underlying44 hi0 hz0 hz1 hz2 rfl v1 _ _ rfl (HO1.out.alloc _) (.slice (some ⟨w1.heap.size,0,none⟩) 1 1) rfl [.int .u8 128] (zaO _ _ _) (by intro u hu;simp at hu;subst hu;rfl) (by unfold maxLen;simp;omega) (by simp;omega) (by have:=HG1.out.size;simp at this;simp;omega) ?_;intro v2 w2 ho hg hp;have HO2:=zz0 ho;have HG2:=zz0 hg;clear ho hp hg))
  have hl0:Hid (padL l=l ++ 128 :: (List.replicate ((119 - l.length % 64) % 64) 0 ++ lensB l.length 8)):=zz0 (by unfold padL;rw [zkT])
  have ho2:=HO2.out
  rw [List.nil_append,show List.map bv l ++ [Value.int .u8 128]=(l ++ 128 :: List.replicate 0 0).map bv by simp [bv],show 0+(List.map bv l).length + [Value.int .u8 128].length=l.length+1+0 by simp] at ho2
  have ho1:=HO1.out
  have kp2:Keep Non w0 w2:=((((Keep.refl Non w0).alloc _).grown HG1.out (fun q e=>.inr (own1.out.lt q e).1)).alloc _).grown HG2.out (fun q e=>.inr (ho1.lt q e).1)
  have OW2:=zz0 ho2
  have KP2:=zz0 kp2
  clear ho1 ho2 kp2 HO1 HO2 HG1 HG2 own1 B1
  go_loopw [7] (fun v wr=>∃ k:Nat,k≤(119 - l.length % 64) % 64∧Keep Non w0 wr∧wr.ownsRow w0.heap.size 5 1 v (l.length+1+k) ((l ++ 128 :: List.replicate k 0).map bv)) (fun v _=>l.length+65 - (lenOfV v))
  case atStart=>exact ⟨0,by omega,KP2.out,OW2.out⟩
  case round =>
    obtain ⟨k,hk,kp,ho⟩:=hrel
    clear OW2 KP2
    obtain ⟨va,vc,rfl,_,_⟩:=zcc ho
    have KP:=zz0 kp
    have HO:=zz0 ho
    clear kp ho
    by_cases hlt:k < (119 - l.length % 64) % 64
    · have hne:(((l.length:Int)+1+(k:Int)) % 64 != 56)=true:=by simp;omega
      go_wp2_with (at_builtin;refine zah rfl _ _ 44 rfl w0.heap.size 5 i0 (.int .u8 0) 1 Tryz.underlying44 hi0 hz0 hz1 hz2 rfl (.slice va (l.length+1+k) vc) (l.length+1+k) _ rfl (HO.out.alloc _) (.slice (some ⟨wr.heap.size,0,none⟩) 1 1) rfl [.int .u8 0] (zaO _ _ _) (by intro u hu;simp at hu;subst hu;rfl) (by unfold maxLen;simp;omega) (by simp;omega) (by have:=KP.out.size;simp;omega) ?_;intro v' w' ho hg hp;have HO2:=zz0 ho;have HG:=zz0 hg;clear ho hp hg)
      have h2:=HO2.out
      rw [show List.map bv (l ++ 128 :: List.replicate k 0) ++ [Value.int .u8 0]=List.map bv (l ++ 128 :: List.replicate (k+1) 0) by simp [List.replicate_succ',bv],show l.length+1+k + [Value.int .u8 0].length=l.length+1+(k+1) from rfl] at h2
      obtain ⟨a2,cap2,rfl,_,_⟩:=zcc h2
      exact ⟨⟨k+1,by omega,(KP.out.alloc _).grown HG.out (fun q e=>.inr (HO.out.lt q e).1),h2⟩,by simp [lenOfV];omega⟩
    · have ek:Hid (k=(119 - l.length % 64) % 64):=zz0 (by omega)
      have hne:(((l.length:Int)+1+(k:Int)) % 64 != 56)=false:=by simp;omega
      go_wp2_with fail
      have hPL:Hid (padL l=(l ++ 128 :: List.replicate k 0) ++ lensB l.length 8):=zz0 (by rw [hl0.out,ek.out];simp)
      have hPN:Hid (l.length+1+k≤10100):=zz0 (by omega)
      generalize l ++ 128 :: List.replicate k 0=PF at HO hPL
      generalize l.length+1+k=n1 at HO hPN ⊢
      clear hne hlt ek hl0 hk
      go_loopw [7,9] (fun v i wq=>∃ j:Nat,j≤8∧i = .int .i64 (7 - (j:Int))∧Keep Non w0 wq∧wq.ownsRow w0.heap.size 5 1 v (n1+j) ((PF ++ lensB l.length j).map bv)) (fun _ i _=>(intOf i+1).toNat)
      case atStart=>exact ⟨0,by omega,rfl,KP.out,by simpa [lensB] using HO.out⟩
      case round =>
        clear KP HO
        obtain ⟨j,hj,rfl,kp,ho⟩:=hrel
        obtain ⟨vb,vd,rfl,_,_⟩:=zcc ho
        have KP:=zz0 kp
        have HO:=zz0 ho
        have hn1:=hPN.out
        clear kp ho
        by_cases h8:j < 8
        · have hsh:(0:Int)≤8 * (7 - (j:Int)):=by omega
          have hsh2:8 * (7 - (j:Int)) < 64:=by omega
          have p5:(8 * (7 - (j:Int))).toNat=56 - 8 * j:=by omega
          go_wp2_with (at_builtin;refine zah rfl _ _ 44 rfl w0.heap.size 5 i0 (.int .u8 0) 1 Tryz.underlying44 hi0 hz0 hz1 hz2 rfl (.slice vb (n1+j) vd) (n1+j) _ rfl (HO.out.alloc _) (.slice (some ⟨wr.heap.size,0,none⟩) 1 1) rfl [.int .u8 ((l.length:Int) * 8 / 2 ^ (56 - 8 * j) % 256)] (zaO _ _ _) (by intro u hu;simp at hu;subst hu;rfl) (by unfold maxLen;simp;omega) (by simp;omega) (by have:=KP.out.size;simp;omega) ?_;intro v' w' ho hg hp;have HO2:=zz0 ho;have HG:=zz0 hg;clear ho hp hg)
          have h2:=HO2.out
          have e8:(UInt8.ofNat (l.length * 8 / 2 ^ (56 - 8 * j))).toNat=l.length * 8 / 2 ^ (56 - 8 * j) % 256:=by simp
          rw [show List.map bv (PF ++ lensB l.length j) ++ [Value.int .u8 ((l.length:Int) * 8 / 2 ^ (56 - 8 * j) % 256)]=List.map bv (PF ++ lensB l.length (j+1)) by simp [lensB,List.range_succ,bv,e8],show n1+j + [Value.int .u8 ((l.length:Int) * 8 / 2 ^ (56 - 8 * j) % 256)].length=n1+(j+1) from rfl] at h2
          exact ⟨⟨j+1,by omega,by congr 1;omega,(KP.out.alloc _).grown HG.out (fun q e=>.inr (HO.out.lt q e).1),h2⟩,by simp [intOf];omega⟩
        · have e:j=8:=by omega
          subst e
          have hs:(7:Int) - ((8:Nat):Int) = -1:=rfl
          rw [hs]
          have BR:=zz0 (Rd.ofOwns HO.out)
          rw [← hPL.out] at BR
          have hlp:n1+8=(padL l).length:=by
            have:=HO.out.1
            rw [← hPL.out] at this
            simp at this
            omega
          rw [hlp] at BR ⊢
          clear HO hPL hPN
          have K1:=zz0 (K0.out.trans1 KP.out)
          have FB:=zz0 ((HY.out.keepNon K1.out).keepNon ((Keep.refl Non wr).alloc (.cells #[] 167)))
          have f1:∀ u ∈ fvs,u.oneCell'=true:=by intro u hu;simp [fvs,fv] at hu;obtain ⟨_,_,rfl⟩:=hu;rfl
          have own2:Hid ((wr.alloc (.cells #[] 167)).ownsRow wr.heap.size 167 1 (.slice (some ⟨wr.heap.size,0,none⟩) 0 0) 0 []):=zz0 (World.ownsRow_made (base:=wr.heap.size) (e:=167) (size:=1) wr #[] 0 (Nat.le_refl _) (by decide) rfl)
          have F1:=zz0 f1
          clear f1
          go_wp2_with (at_builtin;refine zah rfl (.tmp 60) (.tmp 61) 92 rfl wr.heap.size 167 j0 (.int .u32 0) 4 Tryz.underlying92 hj0 jz0 jz1 jz2 rfl (.slice (some ⟨wr.heap.size,0,none⟩) 0 0) 0 [] rfl own2.out (.slice y 8 d) rfl fvs FB.out F1.out (by unfold maxLen;simp [fvs]) (by simp [fvs]) (by simp) ?_;intro v3 w3 ho hg hp;have HO3:=zz0 ho;have HG3:=zz0 hg;clear ho hp hg)
          have ho3:=HO3.out
          rw [List.nil_append,show 0+fvs.length=8 by rfl] at ho3
          obtain ⟨xs,cs,rfl,_,_⟩:=zcc ho3
          have k13:Keep Non wr w3:=((Keep.refl Non wr).alloc _).grown HG3.out (fun q e=>.inr (own2.out.lt q e).1)
          have K3:=zz0 (K1.out.trans1 k13)
          have R3:=zz0 (k13.at (KP.out.at OLD.out (fun e=>e)) (fun e=>e))
          have B3:=zz0 (BR.out.keepNon k13)
          have S3:=zz0 (Rd.ofOwns ho3)
          rw [zpR] at S3
          have X3:=zz0 (HX.out.keepNon K3.out)
          have hN:=zz0 (zdw l)
          have hbl:=zf2 l (by omega)
          have hPos:Hid (0 < blocks l):=zz0 (by have:=zdw l;have h4:(padL l).length=l.length+(padB l.length).length:=List.length_append;have:=zbP l.length;omega)
          clear ho3 k13 HO3 HG3 own2 FB BR F1 K1 KP K0 S0 OLD hn1 hlp
          have HSHA:Hid (shaS l=stTo (padL l) (blocks l)):=zz0 rfl
          generalize padL l=pl at B3 hN HSHA ⊢
          obtain ⟨N,hNN⟩:∃ N,N=pl.length:=⟨_,rfl⟩
          rw [← hNN] at hN ⊢
          have hNN0:=hNN
          have HNN:=zz0 hNN
          clear hNN
          have hN2:=hN.out
          have hNpos:0 < N:=by have:=hPos.out;omega
          obtain ⟨bg,boff,rfl,hbc⟩:∃ g off,vb=some ⟨g,off,none⟩∧∀ j,j < N→w3.cell? ⟨g,off+j,none⟩=some (.int .u8 (byI pl j)):=by
            have h3:=B3.out
            obtain ⟨g,off,e1,e2,hc⟩:=rd_at h3 (by intro e;rw [List.map_eq_nil_iff] at e;rw [e] at hNN0;simp at hNN0;omega)
            refine ⟨g,off,e1,fun j hj=>?_⟩
            rw [hc j (bv (pl.getD j 0)) (by simp [show j < pl.length by omega])]
            rfl
          have BC:=zz0 hbc
          have hbg:=World.block_lt_of_cell? _ _ (hbc 0 hNpos)
          clear hbc B3 hNN0
          go_loopw [10,11] (fun v i wr=>∃ (m q:Nat) (xs:Option Addr) (cs:Nat),m≤blocks l∧q=64 * m∧i = .int .i64 (q:Int)∧v = .slice xs 8 cs∧Keep Non w3 wr∧Rd wr (.slice xs 8 cs) (wl (stTo pl m))) (fun _ i _=>N - (intOf i).toNat)
          case atStart=>exact ⟨0,0,xs,cs,by omega,rfl,rfl,rfl,Keep.refl _ _,S3.out⟩
          case round =>
            clear S3
            obtain ⟨m,q,xs,cs,hm,hq,rfl,rfl,kp,hs⟩:=hrel
            have HQ:=zz0 hq
            have hqN:q≤N:=by omega
            have hN3:N≤134400:=by omega
            have KP:=zz0 kp
            have HS:=zz0 hs
            clear kp hs
            by_cases hlt:m < blocks l
            · have hlt2:(q:Int) < (N:Int):=by omega
              have hq64:q+64≤N:=by omega
              have hqp:Hid (∀ j,j < 64→byI pl (q+j)=byI (blkB pl m) j):=zz0 fun j hj=>by rw [zjH _ _ _ hj,← HQ.out]
              have hst:Hid (stTo pl (m+1)=stepW (stTo pl m) (blkB pl m)):=zz0 rfl
              clear hq hN2
              generalize blkB pl m=bk at hqp hst
              go_wp2_with fail
              obtain ⟨wo,rfl⟩:∃ wo:World,wo=wr:=⟨_,rfl⟩
              go_loopw [12,13] (fun v i wr=>∃ t:Nat,t≤64∧i = .int .i64 t∧Keep Non wo wr∧wr.ownsRow wo.heap.size 167 1 v t ((List.range t).map fun t=>Value.int .u32 (schedW bk t))) (fun _ i _=>64 - (intOf i).toNat)
              case atStart =>
                exact ⟨0,by omega,rfl,(Keep.refl _ _).alloc _,World.ownsRow_made (base:=wo.heap.size) (e:=167) (size:=1) wo #[] 0 (Nat.le_refl _) (by decide) rfl⟩
              case round =>
                obtain ⟨t,ht,rfl,kq,hw⟩:=hrel
                obtain ⟨wa,wc,rfl,_,_⟩:=zcc hw
                have KQ:=zz0 kq
                have HW:=zz0 hw
                clear kq hw
                by_cases h64:t < 64
                · have h64i:(t:Int) < 64:=by omega
                  by_cases h16:t < 16
                  · as_aux_lemma =>
                      have h16i:(t:Int) < 16:=by omega
                      have hby:Hid (∀ j,j < 64→wr.cell? ⟨bg,boff+(q+j),none⟩=some (.int .u8 (byI bk j))):=zz0 fun j hj=>by
                        refine (World.cell?_of_block ((KP.out.trans1 KQ.out).block bg hbg (fun e=>e))).trans ?_
                        rw [BC.out (q+j) (by omega),hqp.out j hj]
                      have b0:=hby.out (4 * t) (by omega)
                      have b1:=hby.out (4 * t+1) (by omega)
                      have b2:=hby.out (4 * t+2) (by omega)
                      have b3:=hby.out (4 * t+3) (by omega)
                      obtain ⟨r,hr⟩:∃ r,r=q+4 * t:=⟨_,rfl⟩
                      rw [show boff+(q+4 * t)=boff+r by omega] at b0
                      rw [show boff+(q+(4 * t+1))=boff+(r+1) by omega] at b1
                      rw [show boff+(q+(4 * t+2))=boff+(r+2) by omega] at b2
                      rw [show boff+(q+(4 * t+3))=boff+(r+3) by omega] at b3
                      have SW:Hid (schedW bk t=byI bk (4 * t) * 16777216+byI bk (4 * t+1) * 65536+byI bk (4 * t+2) * 256+byI bk (4 * t+3)):=zz0 (by rw [zeB h16,znX])
                      obtain ⟨l0,u0⟩:=zdi bk (4 * t)
                      obtain ⟨l1,u1⟩:=zdi bk (4 * t+1)
                      obtain ⟨l2,u2⟩:=zdi bk (4 * t+2)
                      obtain ⟨l3,u3⟩:=zdi bk (4 * t+3)
                      go_wp2_with fail
                      have hrN:r+3 < N:=by omega
                      rw [show (q:Int)+4 * (t:Int)=(r:Int) by omega]
                      have HR:=zz0 hr
                      clear hr
                      generalize byI bk (4 * t)=y0 at b0 SW l0 u0
                      generalize byI bk (4 * t+1)=y1 at b1 SW l1 u1
                      generalize byI bk (4 * t+2)=y2 at b2 SW l2 u2
                      generalize byI bk (4 * t+3)=y3 at b3 SW l3 u3
                      have r1:(0:Int)≤(r:Int)+1∧(r:Int)+1 < (N:Int):=by omega
                      have r2:(0:Int)≤(r:Int)+2∧(r:Int)+2 < (N:Int):=by omega
                      have r3:(0:Int)≤(r:Int)+3∧(r:Int)+3 < (N:Int):=by omega
                      have r0:(0:Int)≤(r:Int)∧(r:Int) < (N:Int):=by omega
                      have t1:((r:Int)+1).toNat=r+1:=by omega
                      have t2:((r:Int)+2).toNat=r+2:=by omega
                      have t3:((r:Int)+3).toNat=r+3:=by omega
                      have m1:IntKind.i64.wrap ((r:Int)+1)=(r:Int)+1:=by rw [IntKind.wrap_i64];omega
                      have m2:IntKind.i64.wrap ((r:Int)+2)=(r:Int)+2:=by rw [IntKind.wrap_i64];omega
                      have m3:IntKind.i64.wrap ((r:Int)+3)=(r:Int)+3:=by rw [IntKind.wrap_i64];omega
                      have c0:IntKind.u32.wrap y0=y0:=by rw [IntKind.wrap_u32'];omega
                      have c1:IntKind.u32.wrap y1=y1:=by rw [IntKind.wrap_u32'];omega
                      have c2:IntKind.u32.wrap y2=y2:=by rw [IntKind.wrap_u32'];omega
                      have c3:IntKind.u32.wrap y3=y3:=by rw [IntKind.wrap_u32'];omega
                      have e0:IntKind.u32.wrap (y0 * 16777216)=y0 * 16777216:=by rw [IntKind.wrap_u32'];omega
                      have e1:IntKind.u32.wrap (y1 * 65536)=y1 * 65536:=by rw [IntKind.wrap_u32'];omega
                      have e2:IntKind.u32.wrap (y2 * 256)=y2 * 256:=by rw [IntKind.wrap_u32'];omega
                      have f1:IntKind.u32.wrap (y0 * 16777216+y1 * 65536)=y0 * 16777216+y1 * 65536:=by rw [IntKind.wrap_u32'];omega
                      have f2:IntKind.u32.wrap (y0 * 16777216+y1 * 65536+y2 * 256)=y0 * 16777216+y1 * 65536+y2 * 256:=by rw [IntKind.wrap_u32'];omega
                      have f3:IntKind.u32.wrap (y0 * 16777216+y1 * 65536+y2 * 256+y3)=y0 * 16777216+y1 * 65536+y2 * 256+y3:=by rw [IntKind.wrap_u32'];omega
                      have BB:Hid (∀ W:World,Keep Non wo W→W.cell? ⟨bg,boff+r,none⟩=some (.int .u8 y0)∧W.cell? ⟨bg,boff+(r+1),none⟩=some (.int .u8 y1)∧W.cell? ⟨bg,boff+(r+2),none⟩=some (.int .u8 y2)∧W.cell? ⟨bg,boff+(r+3),none⟩=some (.int .u8 y3)):=zz0 fun W k=>by
                        have e:=k.block bg (KP.out.lt hbg) (fun e=>e)
                        have e':=KQ.out.block bg (KP.out.lt hbg) (fun e=>e)
                        have e2:=e.trans e'.symm
                        exact ⟨(World.cell?_of_block e2).trans b0,(World.cell?_of_block e2).trans b1,(World.cell?_of_block e2).trans b2,(World.cell?_of_block e2).trans b3⟩
                      have SA:=zz0 (BB.out wr.drew KQ.out.drew)
                      have SB:=zz0 (fun o=>BB.out (wr.alloc o).drew (KQ.out.alloc o).drew)
                      have HWd:=zz0 (HW.out.lt)
                      clear b0 b1 b2 b3 hby
                      go_region_held3 (fun W=>W.cell? ⟨bg,boff+r,none⟩=some (.int .u8 y0)∧W.cell? ⟨bg,boff+(r+1),none⟩=some (.int .u8 y1)∧W.cell? ⟨bg,boff+(r+2),none⟩=some (.int .u8 y2)∧W.cell? ⟨bg,boff+(r+3),none⟩=some (.int .u8 y3))
                        (first | with_reducible exact SA.out | with_reducible exact SB.out _ | with_reducible exact KA.out)
                        (first
                        | (refine zay (by rfl) (.tmp 80) (.tmp 110) 92 (by rfl) wo.heap.size 167 j0 (.int .u32 0) 4 Tryz.underlying92 hj0 jz0 jz1 jz2 rfl (.slice wa t wc) t _ (by rfl) (by first | exact HW.out.alloc _ | exact HW.out.drew.alloc _ | exact (HW.out.alloc _).drew) (.slice (some ⟨wr.heap.size,0,none⟩) 1 1) (by simp [Act.eval]) [.int .u32 (y0 * 16777216+y1 * 65536+y2 * 256+y3)] (by first | exact zaO _ _ _ | exact (zaO _ _ _).keepNon ((Keep.refl _ _).drew)) (by intro u hu;simp at hu;subst hu;rfl) (by unfold maxLen;simp;omega) (by simp;omega) (by have:=KQ.out.size;simp;omega) ?_;intro v' w' ho hg hp;have KW:Hid (Keep Non wo w'):=zz0 (((KQ.out.alloc _).drew:Keep Non wo _).grown hg (fun q e=>.inr (HWd.out q e).1));have KA:=zz0 (BB.out w' KW.out);have HO2:=zz0 ho;clear ho hp hg))
                      go_wp2_with fail
                      have ho2:=HO2.out
                      rw [← SW.out,show (List.range t).map (fun t=>Value.int .u32 (schedW bk t)) ++ [Value.int .u32 (schedW bk t)]=(List.range (t+1)).map (fun t=>Value.int .u32 (schedW bk t)) by rw [List.range_succ,List.map_append];rfl] at ho2
                      exact ⟨⟨t+1,by omega,by go_num,KW.out,ho2⟩,by simp [intOf];omega⟩
                  · as_aux_lemma =>
                      have h16i:¬ (t:Int) < 16:=by omega
                      rcases HW.out.2 with ⟨_,h0⟩ | ⟨wg,wcap,wcur,hwv,hwb,_⟩
                      · first
                        | omega
                        | (simp at h0;omega)
                      simp only [Value.slice.injEq,true_and] at hwv
                      obtain ⟨hwa,hwc⟩:=hwv
                      subst hwa
                      subst hwc
                      have hwj:Hid (∀ j,j < t→wr.cell? ⟨wg,j,none⟩=some (.int .u32 (schedW bk j))):=zz0 fun j hj=>by
                        have:=World.ownsRow.cells HW.out (g:=wg) rfl j (.int .u32 (schedW bk j)) (by simp [hj])
                        rwa [zau,Nat.zero_add] at this
                      have c15:=hwj.out (t - 15) (by omega)
                      have c2:=hwj.out (t - 2) (by omega)
                      have p15:((t:Int) - 15).toNat=t - 15:=by omega
                      have p2:((t:Int) - 2).toNat=t - 2:=by omega
                      have q15:0≤(t:Int) - 15∧(t:Int) - 15 < (t:Int):=by omega
                      have q2:0≤(t:Int) - 2∧(t:Int) - 2 < (t:Int):=by omega
                      have s15:=za0 bk (t - 15)
                      have s2:=za0 bk (t - 2)
                      have ST:Hid (schedW bk t=nextW (schedW bk (t - 16)) (schedW bk (t - 7)) (schedW bk (t - 15)) (schedW bk (t - 2))):=zz0 (zeA h16)
                      generalize schedW bk (t - 15)=x15 at c15 s15 ST
                      generalize schedW bk (t - 2)=x2 at c2 s2 ST
                      have S15:=zz0 s15
                      have S2:=zz0 s2
                      clear s15 s2
                      have c16:=hwj.out (t - 16) (by omega)
                      have c7:=hwj.out (t - 7) (by omega)
                      have p16:((t:Int) - 16).toNat=t - 16:=by omega
                      have p7:((t:Int) - 7).toNat=t - 7:=by omega
                      have q16:0≤(t:Int) - 16∧(t:Int) - 16 < (t:Int):=by omega
                      have q7:0≤(t:Int) - 7∧(t:Int) - 7 < (t:Int):=by omega
                      have r7a:(7:Int)≤(t:Int):=by omega
                      have r16a:(16:Int)≤(t:Int):=by omega
                      have m16:IntKind.i64.wrap ((t:Int) - 16)=(t:Int) - 16:=by rw [IntKind.wrap_i64];omega
                      have m7:IntKind.i64.wrap ((t:Int) - 7)=(t:Int) - 7:=by rw [IntKind.wrap_i64];omega
                      go_wp2_with fail
                      clear c15 c2 p15 p2 q15 q2
                      have s16:=zz0 (za0 bk (t - 16))
                      have s7:=zz0 (za0 bk (t - 7))
                      have hx16:Hid (schedW bk (t - 16)=schedW bk (t - 16)):=zz0 rfl
                      obtain ⟨x16,hx16⟩:∃ x,x=schedW bk (t - 16):=⟨_,rfl⟩
                      obtain ⟨x7,hx7⟩:∃ x,x=schedW bk (t - 7):=⟨_,rfl⟩
                      rw [← hx16] at c16 s16 ST
                      rw [← hx7] at c7 s7 ST
                      have HX16:=zz0 hx16
                      have HX7:=zz0 hx7
                      clear hx16 hx7
                      have SA:Hid (wr.drew.cell? ⟨wg,t - 16,none⟩=some (.int .u32 x16)∧wr.drew.cell? ⟨wg,t - 7,none⟩=some (.int .u32 x7)):=zz0 ⟨c16,c7⟩
                      have hwgl:Hid (wg < wr.heap.size):=zz0 (World.block_lt_of_cell? _ _ c16)
                      have SK:Hid (∀ W,Keep Non wr W→W.cell? ⟨wg,t - 16,none⟩=some (.int .u32 x16)∧W.cell? ⟨wg,t - 7,none⟩=some (.int .u32 x7)):=zz0 fun W k=>⟨(World.cell?_of_block (k.block wg hwgl.out (fun e=>e))).trans c16,(World.cell?_of_block (k.block wg hwgl.out (fun e=>e))).trans c7⟩
                      have SB:=zz0 (fun o=>SK.out (wr.alloc o).drew (((Keep.refl Non wr).alloc o).drew))
                      have HT:Hid (16≤t∧t < 64):=zz0 ⟨by omega,h64⟩
                      have HWd:=zz0 (HW.out.lt)
                      obtain ⟨r7,e7⟩:∃ r,r=rotI x15 7:=⟨_,rfl⟩
                      obtain ⟨r18,e18⟩:∃ r,r=rotI x15 18:=⟨_,rfl⟩
                      obtain ⟨r17,e17⟩:∃ r,r=rotI x2 17:=⟨_,rfl⟩
                      obtain ⟨r19,e19⟩:∃ r,r=rotI x2 19:=⟨_,rfl⟩
                      have E7:=zz0 e7
                      have E18:=zz0 e18
                      have E17:=zz0 e17
                      have E19:=zz0 e19
                      have T7:Hid (∀ w,Calls Tryz.prog 88 #[.int .u32 x15,.int .i64 7] w fun e w'=>e = .returned (.int .u32 r7)∧w'=w):=zz0 (fun w=>by rw [e7];exact (zqd _ S15.out w).mono fun _ _ h=>⟨h.1,h.2.symm⟩)
                      have T18:Hid (∀ w,Calls Tryz.prog 88 #[.int .u32 x15,.int .i64 18] w fun e w'=>e = .returned (.int .u32 r18)∧w'=w):=zz0 (fun w=>by rw [e18];exact (zpp _ S15.out w).mono fun _ _ h=>⟨h.1,h.2.symm⟩)
                      have T17:Hid (∀ w,Calls Tryz.prog 88 #[.int .u32 x2,.int .i64 17] w fun e w'=>e = .returned (.int .u32 r17)∧w'=w):=zz0 (fun w=>by rw [e17];exact (zpo _ S2.out w).mono fun _ _ h=>⟨h.1,h.2.symm⟩)
                      have T19:Hid (∀ w,Calls Tryz.prog 88 #[.int .u32 x2,.int .i64 19] w fun e w'=>e = .returned (.int .u32 r19)∧w'=w):=zz0 (fun w=>by rw [e19];exact (zpq _ S2.out w).mono fun _ _ h=>⟨h.1,h.2.symm⟩)
                      clear e7 e18 e17 e19
                      refine wp_region_noPanic ?_
                      refine wp_region_held_drew (S:=fun W=>W.cell? ⟨wg,t - 16,none⟩=some (.int .u32 x16)∧W.cell? ⟨wg,t - 7,none⟩=some (.int .u32 x7)) (by kernel_rfl) ?_ (fun hHeld=>?_)
                      · exact SA.out
                      refine tq 0 ?_;refine tq 1 ?_;refine tq 2 ?_;refine tq 3 ?_;refine tq 4 ?_;refine tq 5 ?_;refine tq 6 ?_;refine tq 7 ?_;refine tq 8 ?_;refine tq 9 ?_;refine tq 10 ?_;refine tq 11 ?_;refine tq 12 ?_
                      refine tc (i:=13) (v:=?v86) ?hy86 ?rest86
                      case hy86=>intro W hSw;(try dsimp only at hSw);go_simp;exact T7.out _
                      refine tq 14 ?_
                      refine tc (i:=15) (v:=?v88) ?hy88 ?rest88
                      case hy88=>intro W hSw;(try dsimp only at hSw);go_simp;exact T18.out _
                      refine tq 16 ?_;refine tq 17 ?_;refine tq 18 ?_;refine tq 19 ?_;refine tq 20 ?_;refine tq 21 ?_
                      refine tc (i:=22) (v:=?v95) ?hy95 ?rest95
                      case hy95=>intro W hSw;(try dsimp only at hSw);go_simp;exact T17.out _
                      refine tq 23 ?_
                      refine tc (i:=24) (v:=?v97) ?hy97 ?rest97
                      case hy97=>intro W hSw;(try dsimp only at hSw);go_simp;exact T19.out _
                      refine tq 25 ?_;refine tq 26 ?_;refine tq 27 ?_;refine tq 28 ?_;refine tq 29 ?_
                      refine wpAnyH_ready (rs:=[30]) (by kernel_rfl) (by simp) ?_
                      refine AllReadyH.cons (by simp only [List.getElem?_toArray,List.getElem?_cons_succ,List.getElem?_cons_zero];rfl) (fun K hK=>?_) AllReadyH.nil
                      go_simp
                      refine hK.out _ _ ?_ (fun hHeld2=>?_)
                      · exact SB.out _
                      clear hK K
                      try simp only [Act.put,List.setIfInBounds_toArray,List.set_cons_zero,List.set_cons_succ]
                      refine wpAnyH_ready (rs:=[31]) (by kernel_rfl) (by simp) ?_
                      refine AllReadyH.cons (by simp only [List.getElem?_toArray,List.getElem?_cons_succ,List.getElem?_cons_zero];rfl) (fun K hK=>?_) AllReadyH.nil
                      refine zeO (by rfl) (.tmp 122) (.tmp 152) 92 (by rfl) wo.heap.size 167 j0 (.int .u32 0) 4 Tryz.underlying92 hj0 jz0 jz1 jz2 rfl (.slice (some ⟨wg,0,none⟩) t wc) t _ (by rfl) (by first | exact HW.out.alloc _ | exact HW.out.drew.alloc _ | exact (HW.out.alloc _).drew) (.slice (some ⟨wr.heap.size,0,none⟩) 1 1) (by simp [Act.eval]) [.int .u32 _] (by first | exact zaO _ _ _ | exact (zaO _ _ _).keepNon ((Keep.refl _ _).drew)) (by intro u hu;simp at hu;subst hu;rfl) (by have:=HT.out;unfold maxLen;simp;omega) (by have:=HT.out;simp;omega) (by have:=KQ.out.size;simp;omega) ?_
                      intro v' w' ho hg hp
                      have KW:Hid (Keep Non wo w'):=zz0 (((KQ.out.alloc _).drew:Keep Non wo _).grown hg (fun q e=>.inr (HWd.out q e).1))
                      have HO2:=zz0 ho
                      have KA:Hid (w'.cell? ⟨wg,t - 16,none⟩=some (.int .u32 x16)∧w'.cell? ⟨wg,t - 7,none⟩=some (.int .u32 x7)):=zz0 (zlV HT.out HX16.out HX7.out ho hp SB.out)
                      clear ho hp hg
                      refine hK.out _ _ KA.out (fun hHeld3=>?_)
                      clear hK K
                      try simp only [Act.put,List.setIfInBounds_toArray,List.set_cons_zero,List.set_cons_succ]
                      refine tq 32 ?_
                      refine wpAnyH_done (by kernel_rfl) ?_ _
                      refine NoPanic.normal ?_
                      have ho2:=HO2.out
                      have hv:IntKind.u32.wrap (IntKind.u32.wrap (IntKind.u32.wrap (x16+x7)+bits .xor .u32 (bits .xor .u32 r7 r18) (x15 / 8))+bits .xor .u32 (bits .xor .u32 r17 r19) (x2 / 1024))=schedW bk t:=by
                        rw [ST.out,E7.out,E18.out,E17.out,E19.out]
                        first | rfl | simp only [IntKind.wrap_u32',nextW,sg0,sg1,w32,xorI]
                      rw [hv,show (List.range t).map (fun t=>Value.int .u32 (schedW bk t)) ++ [Value.int .u32 (schedW bk t)]=(List.range (t+1)).map (fun t=>Value.int .u32 (schedW bk t)) by rw [List.range_succ,List.map_append];rfl] at ho2
                      clear hv HO2 KA hHeld hHeld2 hHeld3 SA SB SK E7 E17 E18 E19 T7 T17 T18 T19 ST S15 S2
                      have HO2:=zz0 ho2
                      clear ho2
                      go_wp2_with fail
                      exact ⟨⟨t+1,by omega,by go_num,KW.out,HO2.out⟩,by simp [intOf];omega⟩
                · have e:t=64:=by omega
                  subst e
                  rw [show ((64:Nat):Int)=64 from rfl]
                  have KO:=zz0 (KP.out.trans1 KQ.out)
                  rcases HW.out.2 with ⟨_,h0⟩ | ⟨wg,wcap,wcur,hwv,hwb,_⟩
                  · simp at h0
                  simp only [Value.slice.injEq,true_and] at hwv
                  obtain ⟨hwa,hwc⟩:=hwv
                  subst hwa
                  subst hwc
                  have HWJ:Hid (∀ j,j < 64→wr.cell? ⟨wg,j,none⟩=some (.int .u32 (schedW bk j))):=zz0 fun j hj=>by
                    have:=World.ownsRow.cells HW.out (g:=wg) rfl j (.int .u32 (schedW bk j)) (by simp [hj])
                    rwa [zau,Nat.zero_add] at this
                  have hx3:=X3.out.keepNon KO.out
                  obtain ⟨kg,koff,rfl,hn1,hkc⟩:=rd_at hx3 (by simp [kvs])
                  clear hn1
                  have HKC:Hid (∀ j,j < 64→wr.cell? ⟨kg,koff+j,none⟩=some (.int .u32 (kI j))):=zz0 fun j hj=>hkc j _ (by simp [kvs,kv,hj])
                  have hs3:=HS.out.keepNon KQ.out
                  obtain ⟨sg,soff,rfl,hn1,hsc⟩:=rd_at hs3 (by simp [wl,W8.cells])
                  clear hn1
                  have hsu:=zdB pl m
                  generalize stTo pl m=S0 at hsc hst hsu
                  have HSU:=zz0 hsu
                  have s0:wr.cell? ⟨sg,soff,none⟩=some (.int .u32 S0.a):=hsc 0 _ rfl
                  have s1:wr.cell? ⟨sg,soff+1,none⟩=some (.int .u32 S0.b):=hsc 1 _ rfl
                  have s2:wr.cell? ⟨sg,soff+2,none⟩=some (.int .u32 S0.c):=hsc 2 _ rfl
                  have s3:wr.cell? ⟨sg,soff+3,none⟩=some (.int .u32 S0.d):=hsc 3 _ rfl
                  have s4:wr.cell? ⟨sg,soff+4,none⟩=some (.int .u32 S0.e):=hsc 4 _ rfl
                  have s5:wr.cell? ⟨sg,soff+5,none⟩=some (.int .u32 S0.f):=hsc 5 _ rfl
                  have s6:wr.cell? ⟨sg,soff+6,none⟩=some (.int .u32 S0.g):=hsc 6 _ rfl
                  have s7:wr.cell? ⟨sg,soff+7,none⟩=some (.int .u32 S0.h):=hsc 7 _ rfl
                  have hkg:Hid (kg < wr.heap.size):=zz0 (World.block_lt_of_cell? _ _ (HKC.out 0 (by omega)))
                  have hwg:Hid (wg < wr.heap.size):=zz0 (World.block_lt_of_cell? _ _ (HWJ.out 0 (by omega)))
                  have hsg:=World.block_lt_of_cell? _ _ s0
                  have SCK:Hid (∀ W:World,Keep Non wr W→W.cell? ⟨sg,soff,none⟩=some (.int .u32 S0.a)∧W.cell? ⟨sg,soff+1,none⟩=some (.int .u32 S0.b)∧W.cell? ⟨sg,soff+2,none⟩=some (.int .u32 S0.c)∧W.cell? ⟨sg,soff+3,none⟩=some (.int .u32 S0.d)∧W.cell? ⟨sg,soff+4,none⟩=some (.int .u32 S0.e)∧W.cell? ⟨sg,soff+5,none⟩=some (.int .u32 S0.f)∧W.cell? ⟨sg,soff+6,none⟩=some (.int .u32 S0.g)∧W.cell? ⟨sg,soff+7,none⟩=some (.int .u32 S0.h)):=zz0 fun W k=>by
                    have e:=k.block sg hsg (fun e=>e)
                    exact ⟨(World.cell?_of_block e).trans s0,(World.cell?_of_block e).trans s1,(World.cell?_of_block e).trans s2,(World.cell?_of_block e).trans s3,(World.cell?_of_block e).trans s4,(World.cell?_of_block e).trans s5,(World.cell?_of_block e).trans s6,(World.cell?_of_block e).trans s7⟩
                  clear hsc hkc hx3 hs3 hwb hsg hsu HS X3 HW KQ
                  go_wp2_with fail
                  go_quiet (fail)
                  clear s0 s1 s2 s3 s4 s5 s6 s7
                  go_wp2_with fail
                  obtain ⟨wb,rfl⟩:∃ wb:World,wb=wr:=⟨_,rfl⟩
                  go_loopw [17,18,19,20,21,22,23,24,25] (fun va vb vc vd ve vf vg vh i wq=>∃ (t:Nat) (R:W8),t≤64∧i = .int .i64 t∧R=roundsTo S0 bk t∧va = .int .u32 R.a∧vb = .int .u32 R.b∧vc = .int .u32 R.c∧vd = .int .u32 R.d∧ve = .int .u32 R.e∧vf = .int .u32 R.f∧vg = .int .u32 R.g∧vh = .int .u32 R.h∧Keep Non wb wq) (fun _ _ _ _ _ _ _ _ i _=>64 - (intOf i).toNat)
                  case atStart=>exact ⟨0,S0,by omega,rfl,rfl,rfl,rfl,rfl,rfl,rfl,rfl,rfl,rfl,(Keep.refl _ _).drewN _⟩
                  case round =>
                    obtain ⟨t,R,ht,rfl,hR,rfl,rfl,rfl,rfl,rfl,rfl,rfl,rfl,kr⟩:=hrel
                    have hRu:=zca HSU.out bk t
                    rw [← hR] at hRu
                    have KR:=zz0 kr
                    clear kr
                    by_cases h64:t < 64
                    · as_aux_lemma =>
                        have h64i:(t:Int) < 64:=by omega
                        have ck:=(World.cell?_of_block (KR.out.block kg hkg.out (fun e=>e))).trans (HKC.out t h64)
                        have cw:=(World.cell?_of_block (KR.out.block wg hwg.out (fun e=>e))).trans (HWJ.out t h64)
                        have hstep:Hid (roundsTo S0 bk (t+1)=roundW R (kI t) (schedW bk t)):=zz0 (by rw [hR];rfl)
                        generalize kI t=kt at ck hstep
                        generalize schedW bk t=wt at cw hstep
                        clear hR
                        obtain ⟨ra,rb,rc,rd,re,rf,rg,rh⟩:=R
                        obtain ⟨ua,ub,uc,ud,ue,uf,ug,uh⟩:=hRu
                        dsimp only at ua ub uc ud ue uf ug uh ⊢
                        obtain ⟨x6,e6⟩:∃ r,r=rotI re 6:=⟨_,rfl⟩
                        obtain ⟨x11,e11⟩:∃ r,r=rotI re 11:=⟨_,rfl⟩
                        obtain ⟨x25,e25⟩:∃ r,r=rotI re 25:=⟨_,rfl⟩
                        obtain ⟨x2,e2⟩:∃ r,r=rotI ra 2:=⟨_,rfl⟩
                        obtain ⟨x13,e13⟩:∃ r,r=rotI ra 13:=⟨_,rfl⟩
                        obtain ⟨x22,e22⟩:∃ r,r=rotI ra 22:=⟨_,rfl⟩
                        have E6:=zz0 e6
                        have E11:=zz0 e11
                        have E25:=zz0 e25
                        have E2:=zz0 e2
                        have E13:=zz0 e13
                        have E22:=zz0 e22
                        have T6:Hid (∀ w,Calls Tryz.prog 88 #[.int .u32 re,.int .i64 6] w fun e w'=>e = .returned (.int .u32 x6)∧w'=w):=zz0 (fun w=>by rw [e6];exact (zqc _ ue w).mono fun _ _ h=>⟨h.1,h.2.symm⟩)
                        have T11:Hid (∀ w,Calls Tryz.prog 88 #[.int .u32 re,.int .i64 11] w fun e w'=>e = .returned (.int .u32 x11)∧w'=w):=zz0 (fun w=>by rw [e11];exact (zpm _ ue w).mono fun _ _ h=>⟨h.1,h.2.symm⟩)
                        have T25:Hid (∀ w,Calls Tryz.prog 88 #[.int .u32 re,.int .i64 25] w fun e w'=>e = .returned (.int .u32 x25)∧w'=w):=zz0 (fun w=>by rw [e25];exact (zps _ ue w).mono fun _ _ h=>⟨h.1,h.2.symm⟩)
                        have T2:Hid (∀ w,Calls Tryz.prog 88 #[.int .u32 ra,.int .i64 2] w fun e w'=>e = .returned (.int .u32 x2)∧w'=w):=zz0 (fun w=>by rw [e2];exact (zqb _ ua w).mono fun _ _ h=>⟨h.1,h.2.symm⟩)
                        have T13:Hid (∀ w,Calls Tryz.prog 88 #[.int .u32 ra,.int .i64 13] w fun e w'=>e = .returned (.int .u32 x13)∧w'=w):=zz0 (fun w=>by rw [e13];exact (zpn _ ua w).mono fun _ _ h=>⟨h.1,h.2.symm⟩)
                        have T22:Hid (∀ w,Calls Tryz.prog 88 #[.int .u32 ra,.int .i64 22] w fun e w'=>e = .returned (.int .u32 x22)∧w'=w):=zz0 (fun w=>by rw [e22];exact (zpr _ ua w).mono fun _ _ h=>⟨h.1,h.2.symm⟩)
                        have UU:=zz0 (And.intro (And.intro ua (And.intro ub uc)) (And.intro ue (And.intro uf ug)))
                        clear ua ub uc ud ue uf ug uh e6 e11 e25 e2 e13 e22
                        obtain ⟨X,hX⟩:∃ X,X=xW ⟨ra,rb,rc,rd,re,rf,rg,rh⟩ kt wt:=⟨_,rfl⟩
                        have XF:=zz0 ((zqg (ra:=ra) (rb:=rb) (rc:=rc) (rd:=rd) (rh:=rh) (kt:=kt) (wt:=wt) E6.out E11.out E25.out UU.out.2.1 UU.out.2.2.1 UU.out.2.2.2).trans hX.symm)
                        have HX:=zz0 hX
                        clear hX
                        go_wp2_with fail
                        refine wp_region_noPanic ?_
                        refine wp_region_held_drew (S:=fun W=>W.cell? ⟨kg,koff+t,none⟩=some (.int .u32 kt)∧W.cell? ⟨wg,t,none⟩=some (.int .u32 wt)) (by kernel_rfl) ?_ (fun hHeld=>?_)
                        · exact ⟨ck,cw⟩
                        refine tq 0 ?_;refine tq 1 ?_
                        refine tc (i:=2) (v:=?v3) ?hy3 ?rest3
                        case hy3=>intro W hSw;(try dsimp only at hSw);go_simp;exact T6.out _
                        refine tq 3 ?_
                        refine tc (i:=4) (v:=?v5) ?hy5 ?rest5
                        case hy5=>intro W hSw;(try dsimp only at hSw);go_simp;exact T11.out _
                        refine tq 5 ?_;refine tq 6 ?_
                        refine tc (i:=7) (v:=?v8) ?hy8 ?rest8
                        case hy8=>intro W hSw;(try dsimp only at hSw);go_simp;exact T25.out _
                        refine tq 8 ?_;refine tq 9 ?_;refine tq 10 ?_;refine tq 11 ?_;refine tq 12 ?_;refine tq 13 ?_
                        refine zce (i:=14) (v:=(.int .u32 (notI re))) (by simp only [List.getElem?_toArray,List.getElem?_cons_succ,List.getElem?_cons_zero];rfl) (by kernel_rfl) (by kernel_rfl) (by kernel_rfl) (fun _ _ _ h=>h) (Or.inl ⟨by rfl,?hy15⟩) (by assumption) ?rest15
                        case hy15 =>
                          intro W hSw
                          try dsimp only at hSw
                          go_simp
                          first | exact znK UU.out.2.1 | exact congrArg (Value.int IntKind.u32) (znK UU.out.2.1)
                        try simp only [Act.put,List.setIfInBounds_toArray,List.set_cons_zero,List.set_cons_succ]
                        refine tq 15 ?_;refine tq 16 ?_;refine tq 17 ?_;refine tq 18 ?_;refine tq 19 ?_;refine tq 20 ?_;refine tq 21 ?_;refine tq 22 ?_;refine tq 23 ?_;refine tq 24 ?_;refine tq 25 ?_;refine tq 26 ?_;refine tq 27 ?_
                        refine zce (i:=28) (v:=(.int .u32 X)) (by simp only [List.getElem?_toArray,List.getElem?_cons_succ,List.getElem?_cons_zero];rfl) (by kernel_rfl) (by kernel_rfl) (by kernel_rfl) (fun _ _ _ h=>h) (Or.inl ⟨by rfl,?hy29⟩) (by assumption) ?rest29
                        case hy29 =>
                          intro W hSw
                          try dsimp only at hSw
                          go_simp
                          first | exact XF.out | exact congrArg (Value.int IntKind.u32) XF.out
                        try simp only [Act.put,List.setIfInBounds_toArray,List.set_cons_zero,List.set_cons_succ]
                        refine tq 29 ?_
                        refine wpAnyH_done (by kernel_rfl) ?_ _
                        refine NoPanic.normal ?_
                        clear hHeld ck cw XF E6 E11 E25 T6 T11 T25
                        go_wp2_with (first
                          | (go_at_call 88;with_reducible refine (T2.out _).mono ?_;rintro e w' ⟨rfl,rfl⟩)
                          | (go_at_call 88;with_reducible refine (T13.out _).mono ?_;rintro e w' ⟨rfl,rfl⟩)
                          | (go_at_call 88;with_reducible refine (T22.out _).mono ?_;rintro e w' ⟨rfl,rfl⟩))
                        have hy:=zqh (ra:=ra) (rb:=rb) (rc:=rc) (rd:=rd) (re:=re) (rf:=rf) (rg:=rg) (rh:=rh) E2.out E13.out E22.out UU.out.1.1 UU.out.1.2.1 UU.out.1.2.2
                        rw [IntKind.wrap_u32'] at hy
                        refine ⟨⟨t+1,roundW ⟨ra,rb,rc,rd,re,rf,rg,rh⟩ kt wt,by omega,by go_num,hstep.out.symm,?_,rfl,rfl,rfl,?_,rfl,rfl,rfl,KR.out.drew⟩,by simp [intOf];omega⟩
                        · rw [hy,HX.out]
                          rfl
                        · rw [HX.out]
                          rfl
                    · --BEG38
                      have e:t=64:=by omega
                      subst e
                      have hst2:Hid (stTo pl (m+1)=addW R S0):=zz0 (by rw [hst.out,hR];rfl)
                      clear hRu hst hR
                      have SA:=zz0 (SCK.out wr.drew KR.out.drew)
                      have SB:=zz0 (fun o=>SCK.out (wr.alloc o).drew ((KR.out.alloc o).drew))
                      go_wp2_with fail
                      refine wp_region_noPanic ?_
                      refine wp_region_held_drew (S:=fun W=>W.cell? ⟨sg,soff,none⟩=some (.int .u32 S0.a)∧W.cell? ⟨sg,soff+1,none⟩=some (.int .u32 S0.b)∧W.cell? ⟨sg,soff+2,none⟩=some (.int .u32 S0.c)∧W.cell? ⟨sg,soff+3,none⟩=some (.int .u32 S0.d)∧W.cell? ⟨sg,soff+4,none⟩=some (.int .u32 S0.e)∧W.cell? ⟨sg,soff+5,none⟩=some (.int .u32 S0.f)∧W.cell? ⟨sg,soff+6,none⟩=some (.int .u32 S0.g)∧W.cell? ⟨sg,soff+7,none⟩=some (.int .u32 S0.h)) (by kernel_rfl) ?_ (fun hHeld=>?_)
                      · exact SA.out
                      refine tq 0 ?_;refine tq 1 ?_;refine tq 2 ?_;refine tq 3 ?_;refine tq 4 ?_;refine tq 5 ?_;refine tq 6 ?_;refine tq 7 ?_;refine tq 8 ?_;refine tq 9 ?_;refine tq 10 ?_;refine tq 11 ?_;refine tq 12 ?_;refine tq 13 ?_;refine tq 14 ?_;refine tq 15 ?_;refine tq 16 ?_;refine tq 17 ?_;refine tq 18 ?_;refine tq 19 ?_;refine tq 20 ?_;refine tq 21 ?_;refine tq 22 ?_;refine tq 23 ?_;refine tq 24 ?_;refine tq 25 ?_;refine tq 26 ?_;refine tq 27 ?_;refine tq 28 ?_;refine tq 29 ?_;refine tq 30 ?_;refine tq 31 ?_;refine tq 32 ?_;refine tq 33 ?_;refine tq 34 ?_;refine tq 35 ?_;refine tq 36 ?_;refine tq 37 ?_;refine tq 38 ?_;refine tq 39 ?_
                      refine wpAnyH_ready (rs:=[40]) (by kernel_rfl) (by simp) ?_
                      refine AllReadyH.cons (by simp only [List.getElem?_toArray,List.getElem?_cons_succ,List.getElem?_cons_zero];rfl) (fun K hK=>?_) AllReadyH.nil
                      go_simp
                      refine hK.out _ _ ?_ (fun hHeld2=>?_)
                      · exact SB.out _
                      clear hK K
                      try simp only [Act.put,List.setIfInBounds_toArray,List.set_cons_zero,List.set_cons_succ]
                      refine tq 41 ?_
                      refine wpAnyH_done (by kernel_rfl) ?_ _
                      refine NoPanic.normal ?_
                      clear hHeld hHeld2 SA SB SCK
                      go_wp2_with fail
                      refine ⟨⟨m+1,q+64,some ⟨wr.heap.size,0,none⟩,8,by omega,by have:=HQ.out;omega,by go_num,rfl,((KO.out.trans1 KR.out).alloc _).drew,?_⟩,by simp [intOf];omega⟩
                      rw [hst2.out,wl,← zpg]
                      simp only [sums,IntKind.wrap_u32']
                      exact (zmS wr _ _ _ _ _ _ _ _ _).keepNon ((Keep.refl Non _).drew)
            · have e:m=blocks l:=by omega
              subst e
              as_aux_lemma =>
                have hnlt:¬ (q:Int) < (N:Int):=by have:=HQ.out;omega
                obtain ⟨sg,soff,rfl,hn1,hsc⟩:=rd_at HS.out (by simp [wl,W8.cells])
                clear hn1
                have hsu:=zdB pl (blocks l)
                rw [← HSHA.out] at hsc hsu
                obtain ⟨D,hD⟩:∃ D,D=shaS l:=⟨_,rfl⟩
                rw [← hD] at hsc hsu
                have HDE:=zz0 hD
                clear hD
                have hcl:∀ i,i < 8→wr.cell? ⟨sg,soff+i,none⟩=some (.int .u32 (D.at i)):=fun i hi=>hsc i _ (zqf D i hi)
                have hsg:Hid (sg < wr.heap.size):=zz0 (World.block_lt_of_cell? _ _ (hcl 0 (by omega)))
                have HCL:=zz0 hcl
                have HSU:=zz0 hsu
                have r4:=KP.out.at R3.out (fun e=>e)
                have R4:=zz0 r4
                have KW:=zz0 (K3.out.trans1 KP.out)
                have hwl:Hid (w.heap.size < wr.heap.size):=zz0 (lt_of_block r4)
                clear hsc hcl hsu HS HSHA hlt R3 K3 KP BC hbg r4
                go_wp2_with (refine wpList_store_row (P:=Tryz.prog) rfl 49 (.tmp 28) (.tmp 284) rfl wr.heap.size #[.int .u8 0,.int .u8 0,.int .u8 0,.int .u8 0,.int .u8 0,.int .u8 0,.int .u8 0,.int .u8 0,.int .u8 0,.int .u8 0,.int .u8 0,.int .u8 0,.int .u8 0,.int .u8 0,.int .u8 0,.int .u8 0,.int .u8 0,.int .u8 0,.int .u8 0,.int .u8 0,.int .u8 0,.int .u8 0,.int .u8 0,.int .u8 0,.int .u8 0,.int .u8 0,.int .u8 0,.int .u8 0,.int .u8 0,.int .u8 0,.int .u8 0,.int .u8 0] rfl rfl 49 #[.int .u8 0,.int .u8 0,.int .u8 0,.int .u8 0,.int .u8 0,.int .u8 0,.int .u8 0,.int .u8 0,.int .u8 0,.int .u8 0,.int .u8 0,.int .u8 0,.int .u8 0,.int .u8 0,.int .u8 0,.int .u8 0,.int .u8 0,.int .u8 0,.int .u8 0,.int .u8 0,.int .u8 0,.int .u8 0,.int .u8 0,.int .u8 0,.int .u8 0,.int .u8 0,.int .u8 0,.int .u8 0,.int .u8 0,.int .u8 0,.int .u8 0,.int .u8 0] (zab _ _) rfl rfl (zdq first8 0) ?_)
                have kz:Keep Non wr ((wr.alloc (.cells #[.int .u8 0,.int .u8 0,.int .u8 0,.int .u8 0,.int .u8 0,.int .u8 0,.int .u8 0,.int .u8 0,.int .u8 0,.int .u8 0,.int .u8 0,.int .u8 0,.int .u8 0,.int .u8 0,.int .u8 0,.int .u8 0,.int .u8 0,.int .u8 0,.int .u8 0,.int .u8 0,.int .u8 0,.int .u8 0,.int .u8 0,.int .u8 0,.int .u8 0,.int .u8 0,.int .u8 0,.int .u8 0,.int .u8 0,.int .u8 0,.int .u8 0,.int .u8 0] 49)).setRow wr.heap.size #[.int .u8 0,.int .u8 0,.int .u8 0,.int .u8 0,.int .u8 0,.int .u8 0,.int .u8 0,.int .u8 0,.int .u8 0,.int .u8 0,.int .u8 0,.int .u8 0,.int .u8 0,.int .u8 0,.int .u8 0,.int .u8 0,.int .u8 0,.int .u8 0,.int .u8 0,.int .u8 0,.int .u8 0,.int .u8 0,.int .u8 0,.int .u8 0,.int .u8 0,.int .u8 0,.int .u8 0,.int .u8 0,.int .u8 0,.int .u8 0,.int .u8 0,.int .u8 0]):=((Keep.refl _ _).alloc _).setRow (.inr (Nat.le_refl _)) _
                have dz:((wr.alloc (.cells #[.int .u8 0,.int .u8 0,.int .u8 0,.int .u8 0,.int .u8 0,.int .u8 0,.int .u8 0,.int .u8 0,.int .u8 0,.int .u8 0,.int .u8 0,.int .u8 0,.int .u8 0,.int .u8 0,.int .u8 0,.int .u8 0,.int .u8 0,.int .u8 0,.int .u8 0,.int .u8 0,.int .u8 0,.int .u8 0,.int .u8 0,.int .u8 0,.int .u8 0,.int .u8 0,.int .u8 0,.int .u8 0,.int .u8 0,.int .u8 0,.int .u8 0,.int .u8 0] 49)).setRow wr.heap.size #[.int .u8 0,.int .u8 0,.int .u8 0,.int .u8 0,.int .u8 0,.int .u8 0,.int .u8 0,.int .u8 0,.int .u8 0,.int .u8 0,.int .u8 0,.int .u8 0,.int .u8 0,.int .u8 0,.int .u8 0,.int .u8 0,.int .u8 0,.int .u8 0,.int .u8 0,.int .u8 0,.int .u8 0,.int .u8 0,.int .u8 0,.int .u8 0,.int .u8 0,.int .u8 0,.int .u8 0,.int .u8 0,.int .u8 0,.int .u8 0,.int .u8 0,.int .u8 0]).heap[wr.heap.size]? = some (.cells (digC D 0) 49 (0,0)):=setRow_heap _ _ _ (digC D 0) _ _ (zab _ _)
                have KZ:=zz0 kz
                have DZ:=zz0 dz
                clear kz dz
                generalize (wr.alloc (.cells #[.int .u8 0,.int .u8 0,.int .u8 0,.int .u8 0,.int .u8 0,.int .u8 0,.int .u8 0,.int .u8 0,.int .u8 0,.int .u8 0,.int .u8 0,.int .u8 0,.int .u8 0,.int .u8 0,.int .u8 0,.int .u8 0,.int .u8 0,.int .u8 0,.int .u8 0,.int .u8 0,.int .u8 0,.int .u8 0,.int .u8 0,.int .u8 0,.int .u8 0,.int .u8 0,.int .u8 0,.int .u8 0,.int .u8 0,.int .u8 0,.int .u8 0,.int .u8 0] 49)).setRow wr.heap.size #[.int .u8 0,.int .u8 0,.int .u8 0,.int .u8 0,.int .u8 0,.int .u8 0,.int .u8 0,.int .u8 0,.int .u8 0,.int .u8 0,.int .u8 0,.int .u8 0,.int .u8 0,.int .u8 0,.int .u8 0,.int .u8 0,.int .u8 0,.int .u8 0,.int .u8 0,.int .u8 0,.int .u8 0,.int .u8 0,.int .u8 0,.int .u8 0,.int .u8 0,.int .u8 0,.int .u8 0,.int .u8 0,.int .u8 0,.int .u8 0,.int .u8 0,.int .u8 0]=wz at KZ DZ ⊢
                obtain ⟨wb,rfl⟩:∃ wb:World,wb=wr:=⟨_,rfl⟩
                go_wp2_with fail
                go_loopw [29] (fun i wq=>∃ n:Nat,n≤32∧i = .int .i64 n∧Keep Non wb wq∧wq.heap[wb.heap.size]? = some (.cells (digC D n) 49 (0,0))) (fun i _=>32 - (intOf i).toNat)
                case atStart=>exact ⟨0,by omega,rfl,KZ.out,DZ.out⟩
                case round =>
                  clear KZ DZ
                  obtain ⟨n,hn,rfl,kq,dq⟩:=hrel
                  have KQ:=zz0 kq
                  have DQ:=zz0 dq
                  clear kq dq
                  by_cases h32:n < 32
                  · have h32i:(n:Int) < 32:=by omega
                    have hy:=(World.cell?_of_block (KQ.out.block sg hsg.out (fun e=>e))).trans (HCL.out (n / 4) (by omega))
                    have hc:=cell_of_row _ _ n _ _ _ DQ.out
                    rw [zfq _ _ _ h32,if_neg (Nat.lt_irrefl n)] at hc
                    have hf:=frozen_of_row wr wb.heap.size n _ _ DQ.out
                    have DS:Hid (∀ x:Int,x=D.at (n / 4) / 2 ^ (24 - 8 * (n % 4)) % 256→(wr.setCell ⟨wb.heap.size,n,none⟩ (.int .u8 x)).heap[wb.heap.size]? = some (.cells (digC D (n+1)) 49 (0,0))):=zz0 fun x hx=>by
                      subst hx
                      rw [← zl8 D n h32]
                      exact zaf DQ.out _ _
                    have hyu:=W8.at_u32 HSU.out (n / 4)
                    obtain ⟨hy0,hy1⟩:=hyu
                    generalize D.at (n / 4)=y at hy DS hy0 hy1
                    have p4:((n:Int) / 4).toNat=n / 4:=by omega
                    have q4:0≤(n:Int) / 4∧(n:Int) / 4 < 8:=by omega
                    have hsh:(0:Int)≤24 - 8 * ((n:Int) % 4):=by omega
                    have hsh2:24 - 8 * ((n:Int) % 4) < 64:=by omega
                    have p5:(24 - 8 * ((n:Int) % 4)).toNat=24 - 8 * (n % 4):=by omega
                    go_wp2_with fail
                    exact ⟨⟨n+1,by omega,by go_num,KQ.out.setNew (Nat.le_refl _) _ _,DS.out _ rfl⟩,by simp [intOf];omega⟩
                  · have e:n=32:=by omega
                    subst e
                    rw [show ((32:Nat):Int)=32 from rfl]
                    have hold:=KQ.out.at R4.out (fun e=>e)
                    go_wp2_with fail
                    have hl:=zbi (P:=Tryz.prog) wr wb.heap.size 49 _ (0,0) 32 DQ.out (zaq _ _)
                    simp only [oA49,oS49,Result.andThen,↓reduceIte,hl]
                    rw [Oper.upon_value]
                    clear hl
                    go_wp2_with fail
                    have hst:=zbb (P:=Tryz.prog) wr w.heap.size 49 _ (digC D 32) hold (by rw [zaq];rfl) (by rw [zaq];exact OS.out) (zdq _ _)
                    simp only [oS49,Result.andThen,↓reduceIte,hst,zaq]
                    rw [Oper.upon_skip]
                    clear hst
                    go_wp2_with fail
                    refine bodyPost_ret (v:=.agg (digC D 32)) (results_cell_row (P:=Tryz.prog) Tryz.results38 _ _ w.heap.size 49 (digC D 32) (0,0) _ rfl (setRow_heap _ _ _ _ _ _ hold) Tryz.underlying49 rfl (by rw [zaq];rfl)) rfl ?_
                    exact ⟨by rw [zhU,HDE.out],(KW.out.trans1 KQ.out).setRow (.inr (Nat.le_refl _)) _⟩
end
end Go.Proofs.YtnboipdpccnedaaGreatDoor
