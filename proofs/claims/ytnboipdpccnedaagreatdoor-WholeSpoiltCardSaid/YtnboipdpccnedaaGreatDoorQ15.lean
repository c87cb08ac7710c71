/- Sum, Link, Zero: digests of a text, of a text behind a digest; the digest of noughts alone: walked. · The digest of one block, reckoned with natural n -/
import Derived.Stop.BytesEq
import Derived.Lib.SlBytesConst
import Derived.Test.YtnboipdpccnedaaGreatDoorQ11
set_option linter.unusedVariables false
set_option maxRecDepth 100000
set_option maxHeartbeats 16000000
namespace Go.Proofs.YtnboipdpccnedaaGreatDoor
open Go.RowKit Go.Shelf
def digB (s:W8):List UInt8:=(List.range 32).map fun j=>UInt8.ofNat (s.byte j).toNat
def arrV (D:List UInt8):Value:=.agg (D.map bv).toArray
theorem zal (s:W8):(digB s).length=32:=by simp [digB]
theorem zhU (s:W8):Value.agg (digC s 32)=arrV (digB s):=by
  unfold arrV digC digB
  rw [List.map_map]
  congr 2
  apply List.map_congr_left
  intro j hj
  rw [if_pos (List.mem_range.1 hj)]
  unfold bv
  have:0≤s.byte j∧s.byte j < 256:=by unfold W8.byte;omega
  simp only [Function.comp,UInt8.toNat_ofNat']
  congr 1
  omega
theorem zlW {D:List UInt8} (h:D.length=32):((D.map bv).toArray).size=32:=by simp [h]
theorem znH (t e:TypeId) (ht:Tryz.prog.underlying t=some (.array 32 e)) (he:Tryz.prog.underlying e=some (.int .u8)) (hsz:∀ w,(sizeOf e).run Tryz.prog w = .ok 1 w) (D E:List UInt8) (hD:D.length=32) (hE:E.length=32) (w:World) :
    (Op.equalIn 10000 t (arrV D) (arrV E)).run Tryz.prog w = .ok (D == E) w :=
  run_equalIn_bytes w 9998 t e 32 ht he hsz D E hD hE
theorem sizeU8 (w:World):(sizeOf 5).run Tryz.prog w = .ok 1 w:=by kernel_rfl
theorem zj5 (D E:List UInt8) (hD:D.length=32) (hE:E.length=32) (w:World):(Op.equalIn 10000 84 (arrV D) (arrV E)).run Tryz.prog w = .ok (D == E) w :=
  znH 84 5 Tryz.underlying84 Tryz.underlying5 sizeU8 D E hD hE w
def isZ (D:List UInt8):Bool:=D == List.replicate 32 0
section
attribute [local simp high] hA373 hS373 hA84 hS84
theorem zfR (l:List UInt8) (a:Option Addr) (cap:Nat) (w:World) (hb:Bs w (.slice a l.length cap) l) (hk:Kon w) (hf:Frs w) (ht:l.length≤131072) :
    Calls Tryz.prog 160 #[.slice a l.length cap] w fun e w'=>e = .returned (arrV (digB (shaS l)))∧Keep Non w w':=by
  have HB:=zz0 hb
  have HK:=zz0 hk
  have HF:=zz0 hf
  clear hb hk hf
  go_enter Tryz.func160,Tryz.ntmps160
  go_wp2_with fail
  have k1:Keep Non w ((w.alloc (.cells #[.int .u8 0,.int .u8 0,.int .u8 0,.int .u8 0,.int .u8 0,.int .u8 0,.int .u8 0,.int .u8 0,.int .u8 0,.int .u8 0,.int .u8 0,.int .u8 0,.int .u8 0,.int .u8 0,.int .u8 0,.int .u8 0,.int .u8 0,.int .u8 0,.int .u8 0,.int .u8 0,.int .u8 0,.int .u8 0,.int .u8 0,.int .u8 0,.int .u8 0,.int .u8 0,.int .u8 0,.int .u8 0,.int .u8 0,.int .u8 0,.int .u8 0,.int .u8 0] 84)).alloc (.cells #[.slice a l.length cap] 44)):=((Keep.refl _ _).alloc _).alloc _
  have hp:Pts ((w.alloc (.cells #[.int .u8 0,.int .u8 0,.int .u8 0,.int .u8 0,.int .u8 0,.int .u8 0,.int .u8 0,.int .u8 0,.int .u8 0,.int .u8 0,.int .u8 0,.int .u8 0,.int .u8 0,.int .u8 0,.int .u8 0,.int .u8 0,.int .u8 0,.int .u8 0,.int .u8 0,.int .u8 0,.int .u8 0,.int .u8 0,.int .u8 0,.int .u8 0,.int .u8 0,.int .u8 0,.int .u8 0,.int .u8 0,.int .u8 0,.int .u8 0,.int .u8 0,.int .u8 0] 84)).alloc (.cells #[.slice a l.length cap] 44)) (.slice (some ⟨w.heap.size+1,0,none⟩) [l].length 1) [l]:=by
    refine ⟨[.slice a l.length cap],⟨_,1,rfl,fun _=>⟨w.heap.size+1,0,rfl,fun j u hu=>?_⟩⟩,rfl,fun i u m hu hm=>?_⟩
    · cases j with
      | zero =>
        simp at hu
        subst hu
        have:=World.cell?_alloc_new (w.alloc (.cells #[.int .u8 0,.int .u8 0,.int .u8 0,.int .u8 0,.int .u8 0,.int .u8 0,.int .u8 0,.int .u8 0,.int .u8 0,.int .u8 0,.int .u8 0,.int .u8 0,.int .u8 0,.int .u8 0,.int .u8 0,.int .u8 0,.int .u8 0,.int .u8 0,.int .u8 0,.int .u8 0,.int .u8 0,.int .u8 0,.int .u8 0,.int .u8 0,.int .u8 0,.int .u8 0,.int .u8 0,.int .u8 0,.int .u8 0,.int .u8 0,.int .u8 0,.int .u8 0] 84)) #[.slice a l.length cap] 44 0
        rw [World.size_alloc] at this
        exact this
      | succ j=>simp at hu
    · cases i with
      | zero =>
        simp at hu hm
        subst hu hm
        exact HB.out.keepNon k1
      | succ i=>simp at hu
  have r1:((w.alloc (.cells #[.int .u8 0,.int .u8 0,.int .u8 0,.int .u8 0,.int .u8 0,.int .u8 0,.int .u8 0,.int .u8 0,.int .u8 0,.int .u8 0,.int .u8 0,.int .u8 0,.int .u8 0,.int .u8 0,.int .u8 0,.int .u8 0,.int .u8 0,.int .u8 0,.int .u8 0,.int .u8 0,.int .u8 0,.int .u8 0,.int .u8 0,.int .u8 0,.int .u8 0,.int .u8 0,.int .u8 0,.int .u8 0,.int .u8 0,.int .u8 0,.int .u8 0,.int .u8 0] 84)).alloc (.cells #[.slice a l.length cap] 44)).heap[w.heap.size]? = some (.cells #[.int .u8 0,.int .u8 0,.int .u8 0,.int .u8 0,.int .u8 0,.int .u8 0,.int .u8 0,.int .u8 0,.int .u8 0,.int .u8 0,.int .u8 0,.int .u8 0,.int .u8 0,.int .u8 0,.int .u8 0,.int .u8 0,.int .u8 0,.int .u8 0,.int .u8 0,.int .u8 0,.int .u8 0,.int .u8 0,.int .u8 0,.int .u8 0,.int .u8 0,.int .u8 0,.int .u8 0,.int .u8 0,.int .u8 0,.int .u8 0,.int .u8 0,.int .u8 0] 84 (0,0)):=zae (zab _ _) _
  refine (zp0 [l] _ 1 _ hp (HK.out.keep k1) (HF.out.keep k1) (by simp) (by simpa using ht)).mono ?_
  rintro e w2 ⟨rfl,kp⟩
  have r2:=kp.at r1 (fun e=>e)
  have K2:=zz0 (k1.trans1 kp)
  rw [show [l].flatten=l by simp]
  have HS:=zz0 (zhU (shaS l))
  clear hp k1 r1 kp
  go_wp2_with fail
  have hst:=zbb (P:=Tryz.prog) w2 w.heap.size 84 _ (digC (shaS l) 32) r2 (by rw [zaq];rfl) (by rw [zaq];rfl) (zdq _ _)
  simp only [oS84,Result.andThen,↓reduceIte,hst,zaq]
  rw [Oper.upon_skip]
  clear hst
  go_wp2_with fail
  refine bodyPost_ret (v:=.agg (digC (shaS l) 32)) (results_cell_row (P:=Tryz.prog) Tryz.results160 _ _ w.heap.size 84 (digC (shaS l) 32) (0,0) _ rfl (setRow_heap _ _ _ _ _ _ r2) Tryz.underlying84 rfl (by rw [zaq];rfl)) rfl ?_
  exact ⟨by rw [HS.out],K2.out.setRow (.inr (Nat.le_refl _)) _⟩
theorem znC (D:List UInt8) (hD:D.length=32) (w:World) :
    Calls Tryz.prog 157 #[arrV D] w fun e w'=>e = .returned (.bool (isZ D))∧Keep Non w w':=by
  have HD:=zz0 hD
  clear hD
  unfold arrV
  have hq:∀ w:World,(Op.equalIn 10000 84 (.agg (D.map bv).toArray) (.agg #[.int .u8 0,.int .u8 0,.int .u8 0,.int .u8 0,.int .u8 0,.int .u8 0,.int .u8 0,.int .u8 0,.int .u8 0,.int .u8 0,.int .u8 0,.int .u8 0,.int .u8 0,.int .u8 0,.int .u8 0,.int .u8 0,.int .u8 0,.int .u8 0,.int .u8 0,.int .u8 0,.int .u8 0,.int .u8 0,.int .u8 0,.int .u8 0,.int .u8 0,.int .u8 0,.int .u8 0,.int .u8 0,.int .u8 0,.int .u8 0,.int .u8 0,.int .u8 0])).run Tryz.prog w = .ok (isZ D) w:=fun w=>zj5 D (List.replicate 32 0) HD.out rfl w
  go_enter Tryz.func157,Tryz.ntmps157
  go_wp2_with fail
  have hl:=zbi (P:=Tryz.prog) (w.alloc (.cells (D.map bv).toArray 84)) w.heap.size 84 _ (0,0) 32 (zab _ _) (zlW HD.out)
  simp only [oA84,oS84,Result.andThen,↓reduceIte,hl]
  rw [Oper.upon_value]
  clear hl
  go_wp2_with fail
  go_ret
  exact ⟨rfl,(Keep.refl _ _).alloc _⟩
end
end Go.Proofs.YtnboipdpccnedaaGreatDoor
namespace Go.Proofs.YtnboipdpccnedaaGreatDoor
open Go.RowKit
def force {α:Type} (n:Nat) (f:Nat→α):α:=Nat.casesOn (motive:=fun _=>α) n (f 0) (fun k=>f (k+1))
theorem zcl {α:Type} (n:Nat) (f:Nat→α):force n f=f n:=by cases n <;> rfl
abbrev M32:Nat:=4294967296
theorem zct {a b:Nat} (ha:a < M32) (hb:b < M32):xorI (a:Int) (b:Int)=((a ^^^ b:Nat):Int):=u32_xor_nat a b ha hb
theorem zbE {a b:Nat} (ha:a < M32) (hb:b < M32):andI (a:Int) (b:Int)=((a &&& b:Nat):Int):=u32_and_nat a b ha hb
theorem zel {a b:Nat} (ha:a < M32) (hb:b < M32):orI (a:Int) (b:Int)=((a ||| b:Nat):Int):=u32_or_nat a b ha hb
theorem zlN {a b:Nat} (ha:a < M32) (hb:b < M32):a ^^^ b < M32:=Nat.xor_lt_two_pow (n:=32) ha hb
theorem or_lt {a b:Nat} (ha:a < M32) (hb:b < M32):a ||| b < M32:=Nat.or_lt_two_pow (n:=32) ha hb
theorem zcu {a b:Nat} (hb:b < M32):a &&& b < M32:=Nat.and_lt_two_pow (n:=32) _ hb
def kN:List Nat:=kList.map Int.toNat
abbrev wU:Int→Int:=IntKind.u64.wrap
def loT (a b:Int):Int:=wU (a * b)
def midT (a b:Int):Int:=wU (wU (wU ((wU (a % 4294967296 * (b % 4294967296))).tdiv 4294967296)+(wU (wU (a.tdiv 4294967296) * (b % 4294967296))).tmod 4294967296)+(wU (a % 4294967296 * wU (b.tdiv 4294967296))).tmod 4294967296)
def hiT (a b:Int):Int:=wU (wU (wU (wU (wU (a.tdiv 4294967296) * wU (b.tdiv 4294967296))+wU ((wU (wU (a.tdiv 4294967296) * (b % 4294967296))).tdiv 4294967296))+wU ((wU (a % 4294967296 * wU (b.tdiv 4294967296))).tdiv 4294967296))+wU ((midT a b).tdiv 4294967296))
theorem zlt (a b:Int) (ha:0≤a) (hb:0≤b) (w:World):Calls Tryz.prog 149 #[.int .u64 a,.int .u64 b] w fun e w'=>e = .returned (.tuple #[.int .u64 (hiT a b),.int .u64 (loT a b)])∧w=w':=by
  go_enter Tryz.func149,Tryz.ntmps149
  go_wp2
  go_ret2
  exact ⟨rfl,rfl⟩
abbrev M64:Nat:=18446744073709551616
def loN (a b:Nat):Nat:=a * b % M64
def midN (a b:Nat):Nat:=((a % M32 * (b % M32) % M64 / M32 % M64+a / M32 % M64 * (b % M32) % M64 % M32) % M64+a % M32 * (b / M32 % M64) % M64 % M32) % M64
def hiN (a b:Nat):Nat:=(((a / M32 % M64 * (b / M32 % M64) % M64+a / M32 % M64 * (b % M32) % M64 / M32 % M64) % M64+a % M32 * (b / M32 % M64) % M64 / M32 % M64) % M64+midN a b / M32 % M64) % M64
theorem zc1 (n:Nat):wU (n:Int)=((n % M64:Nat):Int):=by
  show IntKind.u64.wrap (n:Int)=_
  rw [IntKind.wrap_u64]
  rfl
theorem znS (n:Nat):((n:Int)).tdiv 4294967296=((n / M32:Nat):Int):=rfl
theorem zp9 (n:Nat):((n:Int)).tmod 4294967296=((n % M32:Nat):Int):=rfl
theorem znF (n:Nat):((n:Int)) % 4294967296=((n % M32:Nat):Int):=rfl
theorem zot (a b:Nat):loT a b=((loN a b:Nat):Int):=by
  unfold loT loN
  rw [← Int.natCast_mul,zc1]
theorem zmx (a b:Nat):midT a b=((midN a b:Nat):Int):=by
  unfold midT midN
  simp only [znS,znF,zc1,zp9,← Int.natCast_mul,← Int.natCast_add]
theorem zoo (a b:Nat):hiT a b=((hiN a b:Nat):Int):=by
  unfold hiT hiN
  rw [zmx]
  simp only [znS,znF,zc1,← Int.natCast_mul,← Int.natCast_add]
theorem zeF (a b:Nat) (x y:Int) (hx:x=a) (hy:y=b) (w:World):Calls Tryz.prog 149 #[.int .u64 x,.int .u64 y] w fun e w'=>e = .returned (.tuple #[.int .u64 ((hiN a b:Nat):Int),.int .u64 ((loN a b:Nat):Int)])∧w=w':=by
  subst hx hy
  refine (zlt _ _ (by omega) (by omega) w).mono ?_
  rintro e w' ⟨rfl,rfl⟩
  exact ⟨by rw [zoo,zot],rfl⟩
def bitN (n k:Nat):Nat:=2 ^ n / 2 ^ k
theorem zf1 (n:Nat):bitN n 0=2 ^ n:=by simp [bitN]
theorem zby (n k:Nat):bitN n (k+1)=bitN n k / 2:=by
  unfold bitN
  rw [Nat.pow_succ,Nat.div_div_eq_div_mul]
theorem zhK {n k:Nat} (h:k≤n):0 < bitN n k:=Nat.div_pos (Nat.pow_le_pow_right (by decide) h) (Nat.pow_pos (by decide))
theorem zhJ (n:Nat):bitN n (n+1)=0:=Nat.div_eq_of_lt (Nat.pow_lt_pow_right (by decide) (by omega))
def testN (hi lo p:Nat):Bool:=decide (hi < p) || (decide (hi=p) && decide (lo=0))
def sqX (p:Nat):Nat→Nat
  | 0=>0
  | k+1=>if testN (hiN (sqX p k+bitN 36 k) (sqX p k+bitN 36 k)) (loN (sqX p k+bitN 36 k) (sqX p k+bitN 36 k)) p=true then sqX p k+bitN 36 k else sqX p k
theorem znQ (p:Nat):∀ k,sqX p k+2 * bitN 36 k≤2 ^ 37
  | 0=>by rw [zf1];simp [sqX]
  | k+1=>by
    have:=znQ p k
    rw [zby]
    unfold sqX
    split <;> omega
def testC (top l2 p:Nat):Bool:=decide (top / 4294967296 < p) || (decide (top / 4294967296=p) && (decide (top % 4294967296=0) && decide (l2=0)))
def topN (y:Nat):Nat:=(hiN y y * y % M64+hiN (loN y y) y) % M64
def cbX (p:Nat):Nat→Nat
  | 0=>0
  | k+1=>if testC (topN (cbX p k+bitN 35 k)) (loN (loN (cbX p k+bitN 35 k) (cbX p k+bitN 35 k)) (cbX p k+bitN 35 k)) p=true then cbX p k+bitN 35 k else cbX p k
theorem znE (p:Nat):∀ k,cbX p k+2 * bitN 35 k≤2 ^ 36
  | 0=>by rw [zf1];simp [cbX]
  | k+1=>by
    have:=znE p k
    rw [zby]
    unfold cbX
    split <;> omega
theorem zjk (p:Nat) (P:Int) (hP:P=p) (w:World):Calls Tryz.prog 87 #[.int .u64 P] w fun e w'=>e = .returned (.int .u32 ((sqX p 37:Nat) % 4294967296:Int))∧w=w':=by
  have HP:=zz0 hP
  clear hP
  go_enter Tryz.func87,Tryz.ntmps87
  go_wp2_with fail
  go_loop [3,4] (fun x b=>∃ k:Nat,k≤37∧x = .int .u64 ((sqX p k:Nat):Int)∧b = .int .u64 ((bitN 36 k:Nat):Int)) (fun _ b=>(intOf b).toNat)
  case atStart=>exact ⟨0,by omega,rfl,rfl⟩
  case round =>
    obtain ⟨k,hk,rfl,rfl⟩:=hrel
    by_cases hlt:k < 37
    · have hpos:=zhK (n:=36) (k:=k) (by omega)
      have hle:=znQ p k
      have hs:Hid (sqX p (k+1)=if testN (hiN (sqX p k+bitN 36 k) (sqX p k+bitN 36 k)) (loN (sqX p k+bitN 36 k) (sqX p k+bitN 36 k)) p=true then sqX p k+bitN 36 k else sqX p k):=zz0 rfl
      have hb2:=zz0 (zby 36 k)
      generalize sqX p k=x at hle hs
      generalize bitN 36 k=b at hle hs hb2 hpos
      have h37:x+2 * b≤137438953472:=hle
      have d1:((b:Int)).tdiv 2=((b / 2:Nat):Int):=rfl
      have hposI:(0:Int) < (b:Int):=by omega
      clear hle
      go_wp2_with fail
      refine (zeF (x+b) (x+b) _ _ (by omega) (by omega) _).mono ?_
      rintro e w' ⟨rfl,rfl⟩
      generalize hiN (x+b) (x+b)=hi at hs ⊢
      generalize loN (x+b) (x+b)=lo at hs ⊢
      have yes:Hid (testN hi lo p=true→∃ k':Nat,k'≤37∧Value.int .u64 ((x:Int)+(b:Int)) = .int .u64 ((sqX p k':Nat):Int)∧Value.int .u64 ((b / 2:Nat):Int) = .int .u64 ((bitN 36 k':Nat):Int)):=zz0 fun h=>⟨k+1,by omega,by rw [hs.out,if_pos h];rfl,by rw [hb2.out]⟩
      have no:Hid (testN hi lo p=false→∃ k':Nat,k'≤37∧Value.int .u64 (x:Int) = .int .u64 ((sqX p k':Nat):Int)∧Value.int .u64 ((b / 2:Nat):Int) = .int .u64 ((bitN 36 k':Nat):Int)):=zz0 fun h=>⟨k+1,by omega,by rw [hs.out,if_neg (by simp [h])],by rw [hb2.out]⟩
      have hI0:(0:Int)≤(hi:Int):=by omega
      have lI0:(0:Int)≤(lo:Int):=by omega
      generalize hHI:((hi:Nat):Int)=hI at hI0 ⊢
      generalize hLI:((lo:Nat):Int)=lI at lI0 ⊢
      have HH:=zz0 hHI
      have LL:=zz0 hLI
      clear hHI hLI
      by_cases h1:hI < P
      · have T:Hid (testN hi lo p=true):=zz0 (by unfold testN;simp [show hi < p by have:=HH.out;have:=HP.out;omega])
        go_wp2_with fail
        go_round
        case rel=>exact yes.out T.out
        case measure=>simp [intOf];omega
      · by_cases h2:hI=P
        · have h2b:(hI == P)=true:=by simp [h2]
          by_cases h3:lI=0
          · have T:Hid (testN hi lo p=true):=zz0 (by unfold testN;simp [show hi=p by have:=HH.out;have:=HP.out;omega,show lo=0 by have:=LL.out;omega])
            have h3b:(lI == 0)=true:=by simp [h3]
            clear h2 h3
            go_wp2_with fail
            go_round
            case rel=>exact yes.out T.out
            case measure=>simp [intOf];omega
          · have T:Hid (testN hi lo p=false):=zz0 (by unfold testN;simp [show ¬ hi < p by have:=HH.out;have:=HP.out;omega,show ¬ lo=0 by have:=LL.out;omega])
            have h3b:(lI == 0)=false:=by simp [h3]
            clear h2 h3
            go_wp2_with fail
            go_round
            case rel=>exact no.out T.out
            case measure=>simp [intOf];omega
        · have h2b:(hI == P)=false:=by simp [h2]
          have T:Hid (testN hi lo p=false):=zz0 (by unfold testN;simp [show ¬ hi < p by have:=HH.out;have:=HP.out;omega,show ¬ hi=p by have:=HH.out;have:=HP.out;omega])
          clear h2
          go_wp2_with fail
          go_round
          case rel=>exact no.out T.out
          case measure=>simp [intOf];omega
    · have e:k=37:=by omega
      subst e
      have e0:bitN 36 37=0:=zhJ 36
      rw [e0]
      go_wp2_with fail
      go_ret
      exact ⟨rfl,rfl⟩
theorem zl6 (p:Nat) (P:Int) (hP:P=p) (w:World):Calls Tryz.prog 85 #[.int .u64 P] w fun e w'=>e = .returned (.int .u32 ((cbX p 36:Nat) % 4294967296:Int))∧w=w':=by
  have HP:=zz0 hP
  clear hP
  go_enter Tryz.func85,Tryz.ntmps85
  go_wp2_with fail
  go_loop [3,4] (fun x b=>∃ k:Nat,k≤36∧x = .int .u64 ((cbX p k:Nat):Int)∧b = .int .u64 ((bitN 35 k:Nat):Int)) (fun _ b=>(intOf b).toNat)
  case atStart=>exact ⟨0,by omega,rfl,rfl⟩
  case round =>
    obtain ⟨k,hk,rfl,rfl⟩:=hrel
    by_cases hlt:k < 36
    · have hpos:=zhK (n:=35) (k:=k) (by omega)
      have hle:=znE p k
      have hs:Hid (cbX p (k+1)=if testC (topN (cbX p k+bitN 35 k)) (loN (loN (cbX p k+bitN 35 k) (cbX p k+bitN 35 k)) (cbX p k+bitN 35 k)) p=true then cbX p k+bitN 35 k else cbX p k):=zz0 rfl
      have hb2:=zz0 (zby 35 k)
      generalize cbX p k=x at hle hs
      generalize bitN 35 k=b at hle hs hb2 hpos
      have h36:x+2 * b≤68719476736:=hle
      have d1:((b:Int)).tdiv 2=((b / 2:Nat):Int):=rfl
      have hposI:(0:Int) < (b:Int):=by omega
      clear hle
      go_wp2_with fail
      refine (zeF (x+b) (x+b) _ _ (by omega) (by omega) _).mono ?_
      rintro e w' ⟨rfl,rfl⟩
      go_wp2_with fail
      refine (zeF (loN (x+b) (x+b)) (x+b) _ _ (by omega) (by omega) _).mono ?_
      rintro e w' ⟨rfl,rfl⟩
      have ht:Hid (wU (wU (((hiN (x+b) (x+b):Nat):Int) * ((x:Int)+(b:Int)))+((hiN (loN (x+b) (x+b)) (x+b):Nat):Int))=((topN (x+b):Nat):Int)):=zz0 (by
        unfold topN
        rw [← Int.natCast_add x b,← Int.natCast_mul,zc1,← Int.natCast_add,zc1])
      generalize loN (loN (x+b) (x+b)) (x+b)=l2 at hs ⊢
      generalize topN (x+b)=tp at hs ht
      generalize hiN (loN (x+b) (x+b)) (x+b)=h2 at ht ⊢
      generalize loN (x+b) (x+b)=lo
      generalize hiN (x+b) (x+b)=hi at ht ⊢
      have yes:Hid (testC tp l2 p=true→∃ k':Nat,k'≤36∧Value.int .u64 ((x:Int)+(b:Int)) = .int .u64 ((cbX p k':Nat):Int)∧Value.int .u64 ((b / 2:Nat):Int) = .int .u64 ((bitN 35 k':Nat):Int)):=zz0 fun h=>⟨k+1,by omega,by rw [hs.out,if_pos h];rfl,by rw [hb2.out]⟩
      have no:Hid (testC tp l2 p=false→∃ k':Nat,k'≤36∧Value.int .u64 (x:Int) = .int .u64 ((cbX p k':Nat):Int)∧Value.int .u64 ((b / 2:Nat):Int) = .int .u64 ((bitN 35 k':Nat):Int)):=zz0 fun h=>⟨k+1,by omega,by rw [hs.out,if_neg (by simp [h])],by rw [hb2.out]⟩
      have tl:Hid (tp / M32 < M64→wU ((tp / M32:Nat):Int)=((tp / M32:Nat):Int)):=zz0 fun h=>by rw [zc1,Nat.mod_eq_of_lt h]
      have htp:Hid (tp < M64):=zz0 (by
        have:((tp:Nat):Int)=wU (wU (((hi:Nat):Int) * ((x:Int)+(b:Int)))+((h2:Nat):Int)):=ht.out.symm
        have e:∃ m:Nat,wU (((hi:Nat):Int) * ((x:Int)+(b:Int)))+((h2:Nat):Int)=(m:Int):=⟨hi * (x+b) % M64+h2,by rw [← Int.natCast_add x b,← Int.natCast_mul,zc1,← Int.natCast_add]⟩
        obtain ⟨m,hm⟩:=e
        rw [hm,zc1] at this
        have:tp=m % M64:=by omega
        rw [this]
        exact Nat.mod_lt _ (by decide))
      have eq1:Hid (wU ((tp / M32:Nat):Int)=((tp / M32:Nat):Int)):=zz0 (tl.out (Nat.lt_of_le_of_lt (Nat.div_le_self _ _) htp.out))
      have ed:Hid (((tp:Nat):Int).tdiv 4294967296=((tp / M32:Nat):Int)∧((tp:Nat):Int) / 4294967296=((tp / M32:Nat):Int)∧((tp:Nat):Int).tmod 4294967296=((tp % M32:Nat):Int)∧((tp:Nat):Int) % 4294967296=((tp % M32:Nat):Int)):=zz0 ⟨rfl,rfl,rfl,rfl⟩
      have hT:Hid (testC tp l2 p=(decide (tp / M32 < p) || (decide (tp / M32=p) && (decide (tp % M32=0) && decide (l2=0))))):=zz0 rfl
      generalize tp / M32=q at eq1 ed hT
      generalize tp % M32=r at ed hT
      have q0:(0:Int)≤(q:Int):=by omega
      have r0:(0:Int)≤(r:Int):=by omega
      have t0:(0:Int)≤(tp:Int):=by omega
      have l0:(0:Int)≤(l2:Int):=by omega
      generalize hqI:((q:Nat):Int)=qI at eq1 ed q0
      generalize hrI:((r:Nat):Int)=rI at ed r0
      generalize htI:((tp:Nat):Int)=tI at ht ed t0
      generalize hlI:((l2:Nat):Int)=lI at l0 ⊢
      have QQ:=zz0 hqI
      have RR:=zz0 hrI
      have LL:=zz0 hlI
      clear hqI hrI htI hlI tl htp
      have a1:IntKind.u64.wrap (IntKind.u64.wrap ((hi:Int) * ((x:Int)+(b:Int)))+(h2:Int))=tI:=ht.out
      have a2:IntKind.u64.wrap qI=qI:=eq1.out
      obtain ⟨a3,a4,a5,a6⟩:=ed.out
      by_cases h1:qI < P
      · have T:Hid (testC tp l2 p=true):=zz0 (by rw [hT.out];simp [show q < p by have:=QQ.out;have:=HP.out;omega])
        go_wp2_with fail
        go_round
        case rel=>exact yes.out T.out
        case measure=>simp [intOf];omega
      · by_cases h2:qI=P
        · have h2b:(qI == P)=true:=by simp [h2]
          by_cases h3:rI=0
          · have h3b:(rI == 0)=true:=by simp [h3]
            by_cases h4:lI=0
            · have T:Hid (testC tp l2 p=true):=zz0 (by rw [hT.out];simp [show q=p by have:=QQ.out;have:=HP.out;omega,show r=0 by have:=RR.out;omega,show l2=0 by have:=LL.out;omega])
              have h4b:(lI == 0)=true:=by simp [h4]
              clear h2 h3 h4
              go_wp2_with fail
              go_round
              case rel=>exact yes.out T.out
              case measure=>simp [intOf];omega
            · have T:Hid (testC tp l2 p=false):=zz0 (by rw [hT.out];simp [show ¬ q < p by have:=QQ.out;have:=HP.out;omega,show ¬ l2=0 by have:=LL.out;omega])
              have h4b:(lI == 0)=false:=by simp [h4]
              clear h2 h3 h4
              go_wp2_with fail
              go_round
              case rel=>exact no.out T.out
              case measure=>simp [intOf];omega
          · have T:Hid (testC tp l2 p=false):=zz0 (by rw [hT.out];simp [show ¬ q < p by have:=QQ.out;have:=HP.out;omega,show ¬ r=0 by have:=RR.out;omega])
            have h3b:(rI == 0)=false:=by simp [h3]
            clear h2 h3
            go_wp2_with fail
            go_round
            case rel=>exact no.out T.out
            case measure=>simp [intOf];omega
        · have h2b:(qI == P)=false:=by simp [h2]
          have T:Hid (testC tp l2 p=false):=zz0 (by rw [hT.out];simp [show ¬ q < p by have:=QQ.out;have:=HP.out;omega,show ¬ q=p by have:=QQ.out;have:=HP.out;omega])
          clear h2
          go_wp2_with fail
          go_round
          case rel=>exact no.out T.out
          case measure=>simp [intOf];omega
    · have e:k=36:=by omega
      subst e
      have e0:bitN 35 36=0:=zhJ 35
      rw [e0]
      go_wp2_with fail
      go_ret
      exact ⟨rfl,rfl⟩
def stP (s:Nat × Nat):Nat × Nat:=if s.1 % s.2=0 then (s.1+1,2) else (s.1,s.2+1)
def primesL:List Nat:=[1,2,3,5,7,11,13,17,19,23,29,31,37,41,43,47,53,59,61,67,71,73,79,83,89,97,101,103,107,109,113,127,131,137,139,149,151,157,163,167,173,179,181,191,193,197,199,211,223,227,229,233,239,241,251,257,263,269,271,277,281,283,293,307,311]
def prN (i:Nat):Nat:=primesL.getD i 0
def trP:Nat→Nat × Nat→List (Nat × Nat)
  | 0,_=>[]
  | f+1,s=>s :: (if s.2 * s.2≤s.1 then trP f (stP s) else [])
def okS (s:Nat × Nat):Bool:=decide (s.1≤400) && (decide (2≤s.2) && decide (s.2≤400))
def chkP:List (Nat × Nat)→Nat→Bool
  | [],_=>false
  | [s],q=>okS s && (!decide (s.2 * s.2≤s.1) && decide (s.1=q))
  | s :: t :: r,q=>okS s && (decide (s.2 * s.2≤s.1) && (decide (t=stP s) && chkP (t :: r) q))
theorem zjI:∀ i,i < 64→chkP (trP 100 (prN i+1,2)) (prN (i+1))=true:=by decide +kernel
theorem zl2 (i:Nat) (h:i < 64):∃ L,chkP ((prN i+1,2) :: L) (prN (i+1))=true:=⟨_,zjI i h⟩
theorem pr_le:∀ i,i < 65→prN i≤311:=by decide +kernel
theorem znM {s:Nat × Nat} (h:okS s=true):s.1≤400∧2≤s.2∧s.2≤400:=by
  unfold okS at h
  simp only [Bool.and_eq_true,decide_eq_true_eq] at h
  exact ⟨h.1,h.2.1,h.2.2⟩
theorem zdO {n d q:Nat} {L:List (Nat × Nat)} (h:chkP ((n,d) :: L) q=true) :
    (n≤400∧2≤d∧d≤400)∧((n < d * d∧n=q)∨(d * d≤n∧∃ L',(n % d=0→chkP ((n+1,2) :: L') q=true)∧(n % d≠0→chkP ((n,d+1) :: L') q=true))):=by
  cases L with
  | nil =>
    simp only [chkP,Bool.and_eq_true,Bool.not_eq_true',decide_eq_false_iff_not,decide_eq_true_eq] at h
    exact ⟨znM h.1,.inl ⟨by omega,h.2.2⟩⟩
  | cons t r =>
    simp only [chkP,Bool.and_eq_true,decide_eq_true_eq] at h
    obtain ⟨h1,h2,rfl,h3⟩:=h
    refine ⟨znM h1,.inr ⟨h2,r,fun e=>?_,fun e=>?_⟩⟩
    · simpa [stP,e] using h3
    · simpa [stP,e] using h3
def ofV (v:Value):Nat:=(intOf v).toNat
theorem zif (k:Nat) (hk:k < 64) (w:World):Calls Tryz.prog 86 #[.int .i64 (k:Int)] w fun e w'=>e = .returned (.int .u64 ((prN (k+1):Nat):Int))∧w=w':=by
  go_enter Tryz.func86,Tryz.ntmps86
  go_wp2_with fail
  go_loop [3,4] (fun n i=>∃ j:Nat,j≤k+1∧i = .int .i64 (j:Int)∧n = .int .u64 ((prN j:Nat):Int)) (fun _ i=>k+1 - ofV i)
  case atStart=>exact ⟨0,by omega,rfl,rfl⟩
  case round =>
    obtain ⟨j,hj,rfl,rfl⟩:=hrel
    by_cases hlt:j≤k
    · obtain ⟨L0,hL0⟩:=zl2 j (by omega)
      have CH:=zz0 hL0
      have hp:=pr_le j (by omega)
      have hq:=zz0 (rfl:prN (j+1)=prN (j+1))
      clear hL0
      generalize prN j=n0 at CH hp
      go_wp2_with fail
      go_loop [3,5] (fun n d=>∃ (a b:Nat) (L:List (Nat × Nat)),n = .int .u64 (a:Int)∧d = .int .u64 (b:Int)∧chkP ((a,b) :: L) (prN (j+1))=true) (fun n d=>(400 - ofV n) * 1000+(400 - ofV d))
      case atStart=>exact ⟨n0+1,2,L0,rfl,rfl,CH.out⟩
      case round =>
        obtain ⟨a,b,L,rfl,rfl,hc⟩:=hrel
        obtain ⟨⟨h1,h2,h3⟩,hcc⟩:=zdO hc
        have hbb:b * b≤160000:=Nat.mul_le_mul h3 h3
        have e1:IntKind.u64.wrap ((b:Int) * (b:Int))=((b * b:Nat):Int):=by
          rw [← Int.natCast_mul]
          have:=zc1 (b * b)
          rw [Nat.mod_eq_of_lt (Nat.lt_of_le_of_lt hbb (by decide))] at this
          exact this
        clear hc CH
        rcases hcc with ⟨h4,h5⟩ | ⟨h4,L',h5,h6⟩
        · have H5:=zz0 h5
          clear h5
          go_wp2_with fail
          exact ⟨⟨j+1,by omega,by go_num,by rw [H5.out]⟩,by simp [ofV,intOf];omega⟩
        · have H5:=zz0 h5
          have H6:=zz0 h6
          clear h5 h6
          by_cases hm:a % b=0
          · go_wp2_with fail
            have h7:=(zdO (H5.out hm)).1.1
            exact ⟨⟨a+1,2,L',by go_num,rfl,H5.out hm⟩,by simp [ofV,intOf];omega⟩
          · go_wp2_with fail
            have h7:=(zdO (H6.out hm)).1.2.2
            exact ⟨⟨a,b+1,L',rfl,by go_num,H6.out hm⟩,by simp [ofV,intOf];omega⟩
    · have e:j=k+1:=by omega
      subst e
      go_wp2_with fail
      go_ret
      exact ⟨rfl,rfl⟩
def sqF (p:Nat):Nat→Nat→Nat→Nat
  | 0,_,x=>x
  | k+1,b,x=>force (x+b) fun y=>force (if testN (hiN y y) (loN y y) p=true then y else x) fun x'=>force (b / 2) fun b'=>sqF p k b' x'
theorem znP (p:Nat):∀ n k,sqF p n (bitN 36 k) (sqX p k)=sqX p (k+n)
  | 0,k=>rfl
  | n+1,k=>by
    rw [sqF,zcl,zcl,zcl,← zby,show k+(n+1)=k+1+n by omega]
    exact znP p n (k+1)
def cbF (p:Nat):Nat→Nat→Nat→Nat
  | 0,_,x=>x
  | k+1,b,x=>force (x+b) fun y=>force (if testC (topN y) (loN (loN y y) y) p=true then y else x) fun x'=>force (b / 2) fun b'=>cbF p k b' x'
theorem znD (p:Nat):∀ n k,cbF p n (bitN 35 k) (cbX p k)=cbX p (k+n)
  | 0,k=>rfl
  | n+1,k=>by
    rw [cbF,zcl,zcl,zcl,← zby,show k+(n+1)=k+1+n by omega]
    exact znD p n (k+1)
def fList':List Int:=[0x6a09e667,0xbb67ae85,0x3c6ef372,0xa54ff53a,0x510e527f,0x9b05688c,0x1f83d9ab,0x5be0cd19]
def fIr (i:Nat):Int:=fList'.getD i 0
theorem zjQ:∀ t,t < 64→((cbF (prN (t+1)) 36 34359738368 0 % 4294967296:Nat):Int)=kI t:=by decide +kernel
theorem zht:∀ t,t < 8→((sqF (prN (t+1)) 37 68719476736 0 % 4294967296:Nat):Int)=fIr t:=by decide +kernel
theorem ziF (t:Nat) (h:t < 64):((cbX (prN (t+1)) 36:Nat) % 4294967296:Int)=kI t:=by
  have h1:=zjQ t h
  have h2:=znD (prN (t+1)) 36 0
  rw [show cbX (prN (t+1)) 0=0 from rfl,show bitN 35 0=34359738368 from rfl,Nat.zero_add] at h2
  rw [h2] at h1
  exact h1
theorem zgL (t:Nat) (h:t < 8):((sqX (prN (t+1)) 37:Nat) % 4294967296:Int)=fIr t:=by
  have h1:=zht t h
  have h2:=znP (prN (t+1)) 37 0
  rw [show sqX (prN (t+1)) 0=0 from rfl,show bitN 36 0=68719476736 from rfl,Nat.zero_add] at h2
  rw [h2] at h1
  exact h1
end Go.Proofs.YtnboipdpccnedaaGreatDoor
namespace Go.Proofs.YtnboipdpccnedaaGreatDoor
open Go.RowKit
theorem zbx (x y:Int):bits .or .u32 x y=bits .or .u32 y x:=by
  show IntKind.u32.wrap ((BitVec.ofInt 32 x ||| BitVec.ofInt 32 y).toNat:Int)=IntKind.u32.wrap ((BitVec.ofInt 32 y ||| BitVec.ofInt 32 x).toNat:Int)
  rw [BitVec.or_comm]
theorem zqb (x:Int) (hx:U32 x) (w:World):Calls Tryz.prog 88 #[.int .u32 x,.int .i64 2] w fun e w'=>e = .returned (.int .u32 (rotI x 2))∧w=w':=by
  have hs:Hid (rotI x 2=bits .or .u32 (x / 4) (x * 1073741824 % 4294967296)):=zz0 (zbx _ _)
  obtain ⟨h0,h1⟩:=hx
  go_enter Tryz.func88,Tryz.ntmps88
  go_wp2
  go_ret
  exact ⟨by rw [hs.out];rfl,rfl⟩
theorem zqc (x:Int) (hx:U32 x) (w:World):Calls Tryz.prog 88 #[.int .u32 x,.int .i64 6] w fun e w'=>e = .returned (.int .u32 (rotI x 6))∧w=w':=by
  have hs:Hid (rotI x 6=bits .or .u32 (x / 64) (x * 67108864 % 4294967296)):=zz0 (zbx _ _)
  obtain ⟨h0,h1⟩:=hx
  go_enter Tryz.func88,Tryz.ntmps88
  go_wp2
  go_ret
  exact ⟨by rw [hs.out];rfl,rfl⟩
theorem zqd (x:Int) (hx:U32 x) (w:World):Calls Tryz.prog 88 #[.int .u32 x,.int .i64 7] w fun e w'=>e = .returned (.int .u32 (rotI x 7))∧w=w':=by
  have hs:Hid (rotI x 7=bits .or .u32 (x / 128) (x * 33554432 % 4294967296)):=zz0 (zbx _ _)
  obtain ⟨h0,h1⟩:=hx
  go_enter Tryz.func88,Tryz.ntmps88
  go_wp2
  go_ret
  exact ⟨by rw [hs.out];rfl,rfl⟩
theorem zpm (x:Int) (hx:U32 x) (w:World):Calls Tryz.prog 88 #[.int .u32 x,.int .i64 11] w fun e w'=>e = .returned (.int .u32 (rotI x 11))∧w=w':=by
  have hs:Hid (rotI x 11=bits .or .u32 (x / 2048) (x * 2097152 % 4294967296)):=zz0 (zbx _ _)
  obtain ⟨h0,h1⟩:=hx
  go_enter Tryz.func88,Tryz.ntmps88
  go_wp2
  go_ret
  exact ⟨by rw [hs.out];rfl,rfl⟩
theorem zpn (x:Int) (hx:U32 x) (w:World):Calls Tryz.prog 88 #[.int .u32 x,.int .i64 13] w fun e w'=>e = .returned (.int .u32 (rotI x 13))∧w=w':=by
  have hs:Hid (rotI x 13=bits .or .u32 (x / 8192) (x * 524288 % 4294967296)):=zz0 (zbx _ _)
  obtain ⟨h0,h1⟩:=hx
  go_enter Tryz.func88,Tryz.ntmps88
  go_wp2
  go_ret
  exact ⟨by rw [hs.out];rfl,rfl⟩
theorem zpo (x:Int) (hx:U32 x) (w:World):Calls Tryz.prog 88 #[.int .u32 x,.int .i64 17] w fun e w'=>e = .returned (.int .u32 (rotI x 17))∧w=w':=by
  have hs:Hid (rotI x 17=bits .or .u32 (x / 131072) (x * 32768 % 4294967296)):=zz0 (zbx _ _)
  obtain ⟨h0,h1⟩:=hx
  go_enter Tryz.func88,Tryz.ntmps88
  go_wp2
  go_ret
  exact ⟨by rw [hs.out];rfl,rfl⟩
theorem zpp (x:Int) (hx:U32 x) (w:World):Calls Tryz.prog 88 #[.int .u32 x,.int .i64 18] w fun e w'=>e = .returned (.int .u32 (rotI x 18))∧w=w':=by
  have hs:Hid (rotI x 18=bits .or .u32 (x / 262144) (x * 16384 % 4294967296)):=zz0 (zbx _ _)
  obtain ⟨h0,h1⟩:=hx
  go_enter Tryz.func88,Tryz.ntmps88
  go_wp2
  go_ret
  exact ⟨by rw [hs.out];rfl,rfl⟩
theorem zpq (x:Int) (hx:U32 x) (w:World):Calls Tryz.prog 88 #[.int .u32 x,.int .i64 19] w fun e w'=>e = .returned (.int .u32 (rotI x 19))∧w=w':=by
  have hs:Hid (rotI x 19=bits .or .u32 (x / 524288) (x * 8192 % 4294967296)):=zz0 (zbx _ _)
  obtain ⟨h0,h1⟩:=hx
  go_enter Tryz.func88,Tryz.ntmps88
  go_wp2
  go_ret
  exact ⟨by rw [hs.out];rfl,rfl⟩
theorem zpr (x:Int) (hx:U32 x) (w:World):Calls Tryz.prog 88 #[.int .u32 x,.int .i64 22] w fun e w'=>e = .returned (.int .u32 (rotI x 22))∧w=w':=by
  have hs:Hid (rotI x 22=bits .or .u32 (x / 4194304) (x * 1024 % 4294967296)):=zz0 (zbx _ _)
  obtain ⟨h0,h1⟩:=hx
  go_enter Tryz.func88,Tryz.ntmps88
  go_wp2
  go_ret
  exact ⟨by rw [hs.out];rfl,rfl⟩
theorem zps (x:Int) (hx:U32 x) (w:World):Calls Tryz.prog 88 #[.int .u32 x,.int .i64 25] w fun e w'=>e = .returned (.int .u32 (rotI x 25))∧w=w':=by
  have hs:Hid (rotI x 25=bits .or .u32 (x / 33554432) (x * 128 % 4294967296)):=zz0 (zbx _ _)
  obtain ⟨h0,h1⟩:=hx
  go_enter Tryz.func88,Tryz.ntmps88
  go_wp2
  go_ret
  exact ⟨by rw [hs.out];rfl,rfl⟩
def kv (t:Nat):Value:=.int .u32 (kI t)
def fv (t:Nat):Value:=.int .u32 (fIr t)
theorem infoU32:(Tryz.prog.info? 167).map (fun i=>(i.zero,i.size,i.bytes))=some (some (.int .u32 0),1,4):=by kernel_rfl
theorem zjo (w:World):Calls Tryz.prog 37 #[] w fun e w'=>∃ x c y d,e = .returned (.tuple #[.slice x 64 c,.slice y 8 d])∧Keep Non w w'∧Rd w' (.slice x 64 c) ((List.range 64).map kv)∧Rd w' (.slice y 8 d) ((List.range 8).map fv):=by
  obtain ⟨i0,hi0,hz0,hz1,hz2⟩:=info_parts infoU32
  go_enter Tryz.func37,Tryz.ntmps37
  go_wp2_with fail
  go_loopw [2,4] (fun v i wr=>∃ k:Nat,k≤64∧i = .int .i64 k∧Keep Non w wr∧wr.ownsRow w.heap.size 167 1 v k ((List.range k).map kv)∧(∀ q,v.ownBlock=some q→q≠w.heap.size+1)∧wr.ownsRow w.heap.size 167 1 (.slice (some ⟨w.heap.size+1,0,none⟩) 0 0) 0 []) (fun _ i _=>64 - (intOf i).toNat)
  case atStart =>
    refine ⟨0,by omega,rfl,((Keep.refl _ _).alloc _).alloc _,?_,fun q e=>?_,?_⟩
    · exact (World.ownsRow_made (base:=w.heap.size) (e:=167) (size:=1) w #[] 0 (Nat.le_refl _) (by decide) rfl).alloc _
    · simp [Value.ownBlock] at e
      omega
    · have:=World.ownsRow_made (base:=w.heap.size) (e:=167) (size:=1) (w.alloc (.cells #[] 167)) #[] 0 (by simp) (by decide) rfl
      rwa [World.size_alloc] at this
  case round =>
    obtain ⟨k,hk,rfl,kp,ho,hne,hof⟩:=hrel
    have KP:=zz0 kp
    have HO:=zz0 ho
    have NE:=zz0 hne
    have HF:=zz0 hof
    clear kp ho hne hof
    by_cases hlt:k < 64
    · have hlt':(k:Int) < 64:=by omega
      have CC:=zz0 (ziF k hlt)
      go_wp2_with fail
      refine (zif k hlt _).mono ?_
      rintro e w' ⟨rfl,rfl⟩
      go_wp2_with fail
      refine (zl6 (prN (k+1)) _ rfl _).mono ?_
      rintro e w' ⟨he,rfl⟩
      rw [CC.out] at he
      subst he
      go_wp2_with (at_builtin;refine zah rfl _ _ 92 rfl w.heap.size 167 i0 (.int .u32 0) 4 Tryz.underlying92 hi0 hz0 hz1 hz2 rfl _ k _ rfl (HO.out.alloc _) (.slice (some ⟨wr.heap.size,0,none⟩) 1 1) rfl [.int .u32 (kI k)] (zaO _ _ _) (by intro u hu;simp at hu;subst hu;rfl) (by unfold maxLen;simp;omega) (by simp;omega) (by have:=KP.out.size;simp;omega) ?_;intro v' w' ho hg hp;have HO2:=zz0 ho;have HG:=zz0 hg;have HP:=zz0 hp;clear ho hp hg)
      have ho2:=HO2.out
      rw [show (List.range k).map kv ++ [Value.int .u32 (kI k)]=(List.range (k+1)).map kv by rw [List.range_succ,List.map_append];rfl] at ho2
      refine ⟨⟨k+1,by omega,by go_num,(KP.out.alloc _).grown HG.out (fun q e=>.inr (HO.out.lt q e).1),ho2,fun q e=>?_,?_⟩,by simp [intOf];omega⟩
      · rcases HP.out with h | h
        · rw [h] at e
          exact NE.out q e
        · rw [h] at e
          have:=(HF.out.lt (w.heap.size+1) rfl).2
          simp at e
          omega
      · refine zlj (S:=fun q=>(_:Value).ownBlock=some q) (HF.out.alloc _) ((Keep.refl _ _).grown HG.out (fun q e=>.inl e)) (fun q e h=>?_)
        have e':w.heap.size+1=q:=by simpa [Value.ownBlock] using e
        exact NE.out q h e'.symm
    · have e:k=64:=by omega
      subst e
      rw [show ((64:Nat):Int)=64 from rfl]
      obtain ⟨w1,rfl⟩:∃ w1:World,w1=wr:=⟨_,rfl⟩
      obtain ⟨x,c,rfl,_,_⟩:=zcc HO.out
      have RC:=zz0 (Rd.ofOwns HO.out)
      have LT:=zz0 HO.out.lt
      go_wp2_with fail
      go_loopw [3,5] (fun v i wr=>∃ k:Nat,k≤8∧i = .int .i64 k∧Keep (One (w.heap.size+1)) w1 wr∧wr.ownsRow w.heap.size 167 1 v k ((List.range k).map fv)∧(∀ q,v.ownBlock=some q→q=w.heap.size+1∨w1.heap.size≤q)) (fun _ i _=>8 - (intOf i).toNat)
      case atStart =>
        exact ⟨0,by omega,rfl,Keep.refl _ _,HF.out,fun q e=>by
          have e':w.heap.size+1=q:=by simpa [Value.ownBlock] using e
          exact .inl e'.symm⟩
      case round =>
        clear HF
        obtain ⟨k,hk,rfl,kp2,ho,hne⟩:=hrel
        have K2:=zz0 kp2
        have HO2:=zz0 ho
        have NE2:=zz0 hne
        clear kp2 ho hne
        by_cases hlt:k < 8
        · have hlt':(k:Int) < 8:=by omega
          have SC:=zz0 (zgL k hlt)
          go_wp2_with fail
          refine (zif k (by omega) _).mono ?_
          rintro e w' ⟨rfl,rfl⟩
          go_wp2_with fail
          refine (zjk (prN (k+1)) _ rfl _).mono ?_
          rintro e w' ⟨he,rfl⟩
          rw [SC.out] at he
          subst he
          go_wp2_with (at_builtin;refine zah rfl _ _ 92 rfl w.heap.size 167 i0 (.int .u32 0) 4 Tryz.underlying92 hi0 hz0 hz1 hz2 rfl _ k _ rfl (HO2.out.alloc _) (.slice (some ⟨wr.heap.size,0,none⟩) 1 1) rfl [.int .u32 (fIr k)] (zaO _ _ _) (by intro u hu;simp at hu;subst hu;rfl) (by unfold maxLen;simp;omega) (by simp;omega) (by have:=KP.out.size;have:=K2.out.size;simp;omega) ?_;intro v' w' ho hg hp;have HO3:=zz0 ho;have HG:=zz0 hg;have HP:=zz0 hp;clear ho hp hg)
          have ho2:=HO3.out
          rw [show (List.range k).map fv ++ [Value.int .u32 (fIr k)]=(List.range (k+1)).map fv by rw [List.range_succ,List.map_append];rfl] at ho2
          refine ⟨⟨k+1,by omega,by go_num,(K2.out.alloc _).grown HG.out (fun q e=>by rcases NE2.out q e with h | h;exact .inl h;exact .inr h),ho2,fun q e=>?_⟩,by simp [intOf];omega⟩
          rcases HP.out with h | h
          · rw [h] at e
            exact NE2.out q e
          · rw [h] at e
            have:=K2.out.size
            simp at e
            omega
        · have e:k=8:=by omega
          subst e
          obtain ⟨y,d,rfl,_,_⟩:=zcc HO2.out
          have RD:=zz0 (Rd.ofOwns HO2.out)
          have RC2:=zz0 (RC.out.keep K2.out (fun q e h=>NE.out q e h))
          have K3:Hid (Keep Non w wr):=zz0 (KP.out.trans K2.out (fun _ _ h=>h) (fun i hi h=>by unfold One at h;show False;omega))
          go_wp2_with fail
          go_ret2
          exact ⟨x,c,y,d,rfl,K3.out,RC2.out,RD.out⟩
end Go.Proofs.YtnboipdpccnedaaGreatDoor
