/- The document's digest: Sum, walked. -/
import Derived.Test.YtcjjhgecmnfmdaaDoorShaForm
import Derived.Test.YtcjjhgecmnfmdaaDoorRdNew
import Derived.Test.YtcjjhgecmnfmdaaDoorTake
import Derived.Laws.Tables
import Derived.Deep.RegionHeld3
import Derived.Deep.RegionLaw
import Derived.Deep.QuietTactic
import Derived.BigQuiet
namespace Go.Proofs.YtcjjhgecmnfmdaaDoor
open Go.RowKit Go.Shelf
set_option linter.unusedVariables false

def fvs : List Value := (List.range 8).map fv
def kvs : List Value := (List.range 64).map kv
/-- A state's words, as a list. -/
def wl (s : W8) : List Value := s.cells.toList
theorem fvs_eq : fvs = wl first8 := rfl
theorem rd_at {w : World} {xs : List Value} {a : Option Addr} {n c : Nat} (h : Rd w (.slice a n c) xs) (hne : xs ≠ []) : ∃ g off, a = some ⟨g, off, none⟩ ∧ n = xs.length ∧ ∀ j u, xs[j]? = some u → w.cell? ⟨g, off + j, none⟩ = some u := by
  obtain ⟨a', c', e, hx⟩ := h
  injection e with e1 e2 e3
  obtain ⟨g, off, e4, hc⟩ := hx hne
  exact ⟨g, off, e1.trans e4, e2, hc⟩

/-- What an append onto the words leaves of the earlier words. -/
theorem app_keep {bk : List UInt8} {t wg wc : Nat} {base : Nat} {x16 x7 y : Int} {wr w' : World} {v' : Value} {o : Obj} (ht : 16 ≤ t ∧ t < 64) (h16 : x16 = schedW bk (t - 16)) (h7 : x7 = schedW bk (t - 7))
    (ho : w'.ownsRow base 40 1 v' (t + [Value.int .u32 y].length) ((List.range t).map (fun t => Value.int .u32 (schedW bk t)) ++ [Value.int .u32 y]))
    (hp : v'.ownBlock = (Value.slice (some ⟨wg, 0, none⟩) t wc).ownBlock ∨ (v'.ownBlock = some (wr.alloc o).drew.heap.size ∧ Keep Non (wr.alloc o).drew w'))
    (hs : ∀ o : Obj, (wr.alloc o).drew.cell? ⟨wg, t - 16, none⟩ = some (.int .u32 x16) ∧ (wr.alloc o).drew.cell? ⟨wg, t - 7, none⟩ = some (.int .u32 x7)) :
    w'.cell? ⟨wg, t - 16, none⟩ = some (.int .u32 x16) ∧ w'.cell? ⟨wg, t - 7, none⟩ = some (.int .u32 x7) := by
  rcases hp with e | ⟨_, k⟩
  · rcases ho.2 with ⟨_, h0⟩ | ⟨g, cap, cur, rfl, _⟩
    · simp at h0
    have eg : g = wg := by simpa [Value.ownBlock] using e
    subst eg
    have key : ∀ j, j < t → w'.cell? ⟨g, j, none⟩ = some (.int .u32 (schedW bk j)) := fun j hj => by
      have := World.ownsRow.cells ho (g := g) rfl j (.int .u32 (schedW bk j)) (by rw [List.getElem?_append_left (by simpa using hj)]; simp [hj])
      rwa [add_off, Nat.zero_add] at this
    rw [h16, h7]
    exact ⟨key _ (by omega), key _ (by omega)⟩
  · obtain ⟨h1, h2⟩ := hs o
    have hb := World.block_lt_of_cell? _ _ h1
    exact ⟨(World.cell?_of_block (k.block wg hb (fun e => e))).trans h1, (World.cell?_of_block (k.block wg hb (fun e => e))).trans h2⟩

theorem digC_set (s : W8) (n : Nat) (h : n < 32) : (digC s n).setIfInBounds n (.int .u8 (s.byte n)) = digC s (n + 1) := by
  apply Array.ext_getElem?
  intro j
  by_cases hj : j < 32
  · rw [Array.getElem?_setIfInBounds, digC_get _ _ _ hj, digC_get _ _ _ hj, digC_size]
    by_cases e : n = j
    · subst e
      simp [h]
    · rw [if_neg e]
      by_cases h2 : j < n
      · rw [if_pos h2, if_pos (by omega)]
      · rw [if_neg h2, if_neg (by omega)]
  · rw [Array.getElem?_eq_none (by rw [Array.size_setIfInBounds, digC_size]; omega), Array.getElem?_eq_none (by rw [digC_size]; omega)]
theorem wl_get (s : W8) (i : Nat) (h : i < 8) : (wl s)[i]? = some (.int .u32 (s.at i)) := by
  rw [wl, Array.getElem?_toList]
  exact W8.get s i h

section
attribute [local simp high] hA34 hS34
set_option maxRecDepth 100000 in
set_option maxHeartbeats 12800000 in
theorem rsum_any (l : List UInt8) (a : Option Addr) (cap : Nat) (x y : Option Addr) (c d : Nat) (w : World) (hb : Bs w (.slice a l.length cap) l) (hx : Rd w (.slice x 64 c) kvs) (hy : Rd w (.slice y 8 d) fvs) (ht : l.length ≤ 2000) :
    Calls Tryd.prog 11 #[.slice a l.length cap, .slice x 64 c, .slice y 8 d] w fun e w' => e = .returned (arrV (digB (shaS l))) ∧ Keep Non w w' := by
  have HB := Lib.hid hb
  have HX := Lib.hid hx
  have HY := Lib.hid hy
  obtain ⟨i0, hi0, hz0, hz1, hz2⟩ := info_parts infoU8
  obtain ⟨j0, hj0, jz0, jz1, jz2⟩ := info_parts infoU32
  clear hb hx hy
  go_enter Tryd.func11, Tryd.ntmps11
  have hz0w : ∃ old : Array Value, (w.alloc (.cells #[.int .u8 0, .int .u8 0, .int .u8 0, .int .u8 0, .int .u8 0, .int .u8 0, .int .u8 0, .int .u8 0, .int .u8 0, .int .u8 0, .int .u8 0, .int .u8 0, .int .u8 0, .int .u8 0, .int .u8 0, .int .u8 0, .int .u8 0, .int .u8 0, .int .u8 0, .int .u8 0, .int .u8 0, .int .u8 0, .int .u8 0, .int .u8 0, .int .u8 0, .int .u8 0, .int .u8 0, .int .u8 0, .int .u8 0, .int .u8 0, .int .u8 0, .int .u8 0] 34)).heap[w.heap.size]? = some (.cells old 34 (0, 0)) ∧ old.size = 32 := ⟨_, blk_new _ _, rfl⟩
  have k1 : Keep Non w (w.alloc (.cells #[.int .u8 0, .int .u8 0, .int .u8 0, .int .u8 0, .int .u8 0, .int .u8 0, .int .u8 0, .int .u8 0, .int .u8 0, .int .u8 0, .int .u8 0, .int .u8 0, .int .u8 0, .int .u8 0, .int .u8 0, .int .u8 0, .int .u8 0, .int .u8 0, .int .u8 0, .int .u8 0, .int .u8 0, .int .u8 0, .int .u8 0, .int .u8 0, .int .u8 0, .int .u8 0, .int .u8 0, .int .u8 0, .int .u8 0, .int .u8 0, .int .u8 0, .int .u8 0] 34)) := (Keep.refl _ _).alloc _
  have s1 : (w.alloc (.cells #[.int .u8 0, .int .u8 0, .int .u8 0, .int .u8 0, .int .u8 0, .int .u8 0, .int .u8 0, .int .u8 0, .int .u8 0, .int .u8 0, .int .u8 0, .int .u8 0, .int .u8 0, .int .u8 0, .int .u8 0, .int .u8 0, .int .u8 0, .int .u8 0, .int .u8 0, .int .u8 0, .int .u8 0, .int .u8 0, .int .u8 0, .int .u8 0, .int .u8 0, .int .u8 0, .int .u8 0, .int .u8 0, .int .u8 0, .int .u8 0, .int .u8 0, .int .u8 0] 34)).heap.size = w.heap.size + 1 := World.size_alloc _ _
  have K0 := Lib.hid k1
  have S0 := Lib.hid s1
  have Z0 := Lib.hid hz0w
  clear hz0w k1 s1
  go_step
  go_step
  go_step
  go_step
  go_step
  generalize w.alloc (.cells #[.int .u8 0, .int .u8 0, .int .u8 0, .int .u8 0, .int .u8 0, .int .u8 0, .int .u8 0, .int .u8 0, .int .u8 0, .int .u8 0, .int .u8 0, .int .u8 0, .int .u8 0, .int .u8 0, .int .u8 0, .int .u8 0, .int .u8 0, .int .u8 0, .int .u8 0, .int .u8 0, .int .u8 0, .int .u8 0, .int .u8 0, .int .u8 0, .int .u8 0, .int .u8 0, .int .u8 0, .int .u8 0, .int .u8 0, .int .u8 0, .int .u8 0, .int .u8 0] 34) = w0 at K0 S0 Z0 ⊢
  obtain ⟨old, hold, hos⟩ := Z0.out
  have OLD := Lib.hid hold
  have OS := Lib.hid hos
  clear Z0 hold hos
  have own1 : Hid ((w0.alloc (.cells #[] 5)).ownsRow w0.heap.size 5 1 (.slice (some ⟨w0.heap.size, 0, none⟩) 0 0) 0 []) := Lib.hid (World.ownsRow_made (base := w0.heap.size) (e := 5) (size := 1) w0 #[] 0 (Nat.le_refl _) (by decide) rfl)
  have B1 := Lib.hid ((HB.out.keepNon K0.out).keepNon ((Keep.refl Non w0).alloc (.cells #[] 5)))
  go_wp2_with (first
    | (at_builtin; refine wpList_append_rd rfl (.tmp 30) (.tmp 31) 22 rfl w0.heap.size 5 i0 (.int .u8 0) 1 Tryd.underlying22 hi0 hz0 hz1 hz2 rfl (.slice (some ⟨w0.heap.size, 0, none⟩) 0 0) 0 [] rfl own1.out (.slice a l.length cap) rfl (l.map bv) B1.out (oneCell_bytes l) (by unfold maxLen; simp; omega) (by simp; omega) (by simp) ?_; intro v1 w1 ho hg hp; have HO1 := Lib.hid ho; have HG1 := Lib.hid hg; clear ho hp hg)
    | (at_builtin; refine wpList_append_rd rfl (.tmp 33) (.tmp 34) 22 rfl w0.heap.size 5 i0 (.int .u8 0) 1 Tryd.underlying22 hi0 hz0 hz1 hz2 rfl v1 _ _ rfl (HO1.out.alloc _) (.slice (some ⟨w1.heap.size, 0, none⟩) 1 1) rfl [.int .u8 128] (rd_one _ _ _) (by intro u hu; simp at hu; subst hu; rfl) (by unfold maxLen; simp; omega) (by simp; omega) (by have := HG1.out.size; simp at this; simp; omega) ?_; intro v2 w2 ho hg hp; have HO2 := Lib.hid ho; have HG2 := Lib.hid hg; clear ho hp hg))
  have hl0 : Hid (padL l = l ++ 128 :: (List.replicate ((119 - l.length % 64) % 64) 0 ++ lensB l.length 8)) := Lib.hid (by unfold padL; rw [padB_eq])
  have ho2 := HO2.out
  rw [List.nil_append, show List.map bv l ++ [Value.int .u8 128] = (l ++ 128 :: List.replicate 0 0).map bv by simp [bv], show 0 + (List.map bv l).length + [Value.int .u8 128].length = l.length + 1 + 0 by simp] at ho2
  have ho1 := HO1.out
  have kp2 : Keep Non w0 w2 := ((((Keep.refl Non w0).alloc _).grown HG1.out (fun q e => .inr (own1.out.lt q e).1)).alloc _).grown HG2.out (fun q e => .inr (ho1.lt q e).1)
  have OW2 := Lib.hid ho2
  have KP2 := Lib.hid kp2
  clear ho1 ho2 kp2 HO1 HO2 HG1 HG2 own1 B1
  go_loopw [7] (fun v wr => ∃ k : Nat, k ≤ (119 - l.length % 64) % 64 ∧ Keep Non w0 wr ∧ wr.ownsRow w0.heap.size 5 1 v (l.length + 1 + k) ((l ++ 128 :: List.replicate k 0).map bv)) (fun v _ => l.length + 65 - (lenOfV v))
  case atStart => exact ⟨0, by omega, KP2.out, OW2.out⟩
  case round =>
    obtain ⟨k, hk, kp, ho⟩ := hrel
    clear OW2 KP2
    obtain ⟨va, vc, rfl, _, _⟩ := ownsRow_form ho
    have KP := Lib.hid kp
    have HO := Lib.hid ho
    clear kp ho
    by_cases hlt : k < (119 - l.length % 64) % 64
    · have hne : (((l.length : Int) + 1 + (k : Int)) % 64 != 56) = true := by simp; omega
      go_wp2_with (at_builtin; refine wpList_append_rd rfl _ _ 22 rfl w0.heap.size 5 i0 (.int .u8 0) 1 Tryd.underlying22 hi0 hz0 hz1 hz2 rfl (.slice va (l.length + 1 + k) vc) (l.length + 1 + k) _ rfl (HO.out.alloc _) (.slice (some ⟨wr.heap.size, 0, none⟩) 1 1) rfl [.int .u8 0] (rd_one _ _ _) (by intro u hu; simp at hu; subst hu; rfl) (by unfold maxLen; simp; omega) (by simp; omega) (by have := KP.out.size; simp; omega) ?_; intro v' w' ho hg hp; have HO2 := Lib.hid ho; have HG := Lib.hid hg; clear ho hp hg)
      have h2 := HO2.out
      rw [show List.map bv (l ++ 128 :: List.replicate k 0) ++ [Value.int .u8 0] = List.map bv (l ++ 128 :: List.replicate (k + 1) 0) by simp [List.replicate_succ', bv], show l.length + 1 + k + [Value.int .u8 0].length = l.length + 1 + (k + 1) from rfl] at h2
      obtain ⟨a2, cap2, rfl, _, _⟩ := ownsRow_form h2
      exact ⟨⟨k + 1, by omega, (KP.out.alloc _).grown HG.out (fun q e => .inr (HO.out.lt q e).1), h2⟩, by simp [lenOfV]; omega⟩
    · have ek : Hid (k = (119 - l.length % 64) % 64) := Lib.hid (by omega)
      have hne : (((l.length : Int) + 1 + (k : Int)) % 64 != 56) = false := by simp; omega
      go_wp2_with fail
      have hPL : Hid (padL l = (l ++ 128 :: List.replicate k 0) ++ lensB l.length 8) := Lib.hid (by rw [hl0.out, ek.out]; simp)
      have hPN : Hid (l.length + 1 + k ≤ 2100) := Lib.hid (by omega)
      generalize l ++ 128 :: List.replicate k 0 = PF at HO hPL
      generalize l.length + 1 + k = n1 at HO hPN ⊢
      clear hne hlt ek hl0 hk
      go_loopw [7, 9] (fun v i wq => ∃ j : Nat, j ≤ 8 ∧ i = .int .i64 (7 - (j : Int)) ∧ Keep Non w0 wq ∧ wq.ownsRow w0.heap.size 5 1 v (n1 + j) ((PF ++ lensB l.length j).map bv)) (fun _ i _ => (intOf i + 1).toNat)
      case atStart => exact ⟨0, by omega, rfl, KP.out, by simpa [lensB] using HO.out⟩
      case round =>
        clear KP HO
        obtain ⟨j, hj, rfl, kp, ho⟩ := hrel
        obtain ⟨vb, vd, rfl, _, _⟩ := ownsRow_form ho
        have KP := Lib.hid kp
        have HO := Lib.hid ho
        have hn1 := hPN.out
        clear kp ho
        by_cases h8 : j < 8
        · have hsh : (0 : Int) ≤ 8 * (7 - (j : Int)) := by omega
          have hsh2 : 8 * (7 - (j : Int)) < 64 := by omega
          have p5 : (8 * (7 - (j : Int))).toNat = 56 - 8 * j := by omega
          go_wp2_with (at_builtin; refine wpList_append_rd rfl _ _ 22 rfl w0.heap.size 5 i0 (.int .u8 0) 1 Tryd.underlying22 hi0 hz0 hz1 hz2 rfl (.slice vb (n1 + j) vd) (n1 + j) _ rfl (HO.out.alloc _) (.slice (some ⟨wr.heap.size, 0, none⟩) 1 1) rfl [.int .u8 ((l.length : Int) * 8 / 2 ^ (56 - 8 * j) % 256)] (rd_one _ _ _) (by intro u hu; simp at hu; subst hu; rfl) (by unfold maxLen; simp; omega) (by simp; omega) (by have := KP.out.size; simp; omega) ?_; intro v' w' ho hg hp; have HO2 := Lib.hid ho; have HG := Lib.hid hg; clear ho hp hg)
          have h2 := HO2.out
          have e8 : (UInt8.ofNat (l.length * 8 / 2 ^ (56 - 8 * j))).toNat = l.length * 8 / 2 ^ (56 - 8 * j) % 256 := by simp
          rw [show List.map bv (PF ++ lensB l.length j) ++ [Value.int .u8 ((l.length : Int) * 8 / 2 ^ (56 - 8 * j) % 256)] = List.map bv (PF ++ lensB l.length (j + 1)) by simp [lensB, List.range_succ, bv, e8], show n1 + j + [Value.int .u8 ((l.length : Int) * 8 / 2 ^ (56 - 8 * j) % 256)].length = n1 + (j + 1) from rfl] at h2
          exact ⟨⟨j + 1, by omega, by congr 1; omega, (KP.out.alloc _).grown HG.out (fun q e => .inr (HO.out.lt q e).1), h2⟩, by simp [intOf]; omega⟩
        · have e : j = 8 := by omega
          subst e
          have hs : (7 : Int) - ((8 : Nat) : Int) = -1 := rfl
          rw [hs]
          have BR := Lib.hid (Rd.ofOwns HO.out)
          rw [← hPL.out] at BR
          have hlp : n1 + 8 = (padL l).length := by
            have := HO.out.1
            rw [← hPL.out] at this
            simp at this
            omega
          rw [hlp] at BR ⊢
          clear HO hPL hPN
          have K1 := Lib.hid (K0.out.trans1 KP.out)
          have FB := Lib.hid ((HY.out.keepNon K1.out).keepNon ((Keep.refl Non wr).alloc (.cells #[] 40)))
          have f1 : ∀ u ∈ fvs, u.oneCell' = true := by intro u hu; simp [fvs, fv] at hu; obtain ⟨_, _, rfl⟩ := hu; rfl
          have own2 : Hid ((wr.alloc (.cells #[] 40)).ownsRow wr.heap.size 40 1 (.slice (some ⟨wr.heap.size, 0, none⟩) 0 0) 0 []) := Lib.hid (World.ownsRow_made (base := wr.heap.size) (e := 40) (size := 1) wr #[] 0 (Nat.le_refl _) (by decide) rfl)
          have F1 := Lib.hid f1
          clear f1
          go_wp2_with (at_builtin; refine wpList_append_rd rfl (.tmp 60) (.tmp 61) 31 rfl wr.heap.size 40 j0 (.int .u32 0) 4 Tryd.underlying31 hj0 jz0 jz1 jz2 rfl (.slice (some ⟨wr.heap.size, 0, none⟩) 0 0) 0 [] rfl own2.out (.slice y 8 d) rfl fvs FB.out F1.out (by unfold maxLen; simp [fvs]) (by simp [fvs]) (by simp) ?_; intro v3 w3 ho hg hp; have HO3 := Lib.hid ho; have HG3 := Lib.hid hg; clear ho hp hg)
          have ho3 := HO3.out
          rw [List.nil_append, show 0 + fvs.length = 8 by rfl] at ho3
          obtain ⟨xs, cs, rfl, _, _⟩ := ownsRow_form ho3
          have k13 : Keep Non wr w3 := ((Keep.refl Non wr).alloc _).grown HG3.out (fun q e => .inr (own2.out.lt q e).1)
          have K3 := Lib.hid (K1.out.trans1 k13)
          have R3 := Lib.hid (k13.at (KP.out.at OLD.out (fun e => e)) (fun e => e))
          have B3 := Lib.hid (BR.out.keepNon k13)
          have S3 := Lib.hid (Rd.ofOwns ho3)
          rw [fvs_eq] at S3
          have X3 := Lib.hid (HX.out.keepNon K3.out)
          have hN := Lib.hid (padL_len l)
          have hbl := blocks_le l ht
          have hPos : Hid (0 < blocks l) := Lib.hid (by have := padL_len l; have h4 : (padL l).length = l.length + (padB l.length).length := List.length_append; have := padB_len l.length; omega)
          clear ho3 k13 HO3 HG3 own2 FB BR F1 K1 KP K0 S0 OLD hn1 hlp
          have HSHA : Hid (shaS l = stTo (padL l) (blocks l)) := Lib.hid rfl
          generalize padL l = pl at B3 hN HSHA ⊢
          obtain ⟨N, hNN⟩ : ∃ N, N = pl.length := ⟨_, rfl⟩
          rw [← hNN] at hN ⊢
          have hNN0 := hNN
          have HNN := Lib.hid hNN
          clear hNN
          have hN2 := hN.out
          have hNpos : 0 < N := by have := hPos.out; omega
          obtain ⟨bg, boff, rfl, hbc⟩ : ∃ g off, vb = some ⟨g, off, none⟩ ∧ ∀ j, j < N → w3.cell? ⟨g, off + j, none⟩ = some (.int .u8 (byI pl j)) := by
            have h3 := B3.out
            obtain ⟨g, off, e1, e2, hc⟩ := rd_at h3 (by intro e; rw [List.map_eq_nil_iff] at e; rw [e] at hNN0; simp at hNN0; omega)
            refine ⟨g, off, e1, fun j hj => ?_⟩
            rw [hc j (bv (pl.getD j 0)) (by simp [show j < pl.length by omega])]
            rfl
          have BC := Lib.hid hbc
          have hbg := World.block_lt_of_cell? _ _ (hbc 0 hNpos)
          clear hbc B3 hNN0
          go_loopw [10, 11] (fun v i wr => ∃ (m q : Nat) (xs : Option Addr) (cs : Nat), m ≤ blocks l ∧ q = 64 * m ∧ i = .int .i64 (q : Int) ∧ v = .slice xs 8 cs ∧ Keep Non w3 wr ∧ Rd wr (.slice xs 8 cs) (wl (stTo pl m))) (fun _ i _ => N - (intOf i).toNat)
          case atStart => exact ⟨0, 0, xs, cs, by omega, rfl, rfl, rfl, Keep.refl _ _, S3.out⟩
          case round =>
            clear S3
            obtain ⟨m, q, xs, cs, hm, hq, rfl, rfl, kp, hs⟩ := hrel
            have HQ := Lib.hid hq
            have hqN : q ≤ N := by omega
            have hN3 : N ≤ 2560 := by omega
            have KP := Lib.hid kp
            have HS := Lib.hid hs
            clear kp hs
            by_cases hlt : m < blocks l
            · have hlt2 : (q : Int) < (N : Int) := by omega
              have hq64 : q + 64 ≤ N := by omega
              have hqp : Hid (∀ j, j < 64 → byI pl (q + j) = byI (blkB pl m) j) := Lib.hid fun j hj => by rw [byI_blk _ _ _ hj, ← HQ.out]
              have hst : Hid (stTo pl (m + 1) = stepW (stTo pl m) (blkB pl m)) := Lib.hid rfl
              clear hq hN2
              generalize blkB pl m = bk at hqp hst
              go_wp2_with fail
              obtain ⟨wo, rfl⟩ : ∃ wo : World, wo = wr := ⟨_, rfl⟩
              go_loopw [12, 13] (fun v i wr => ∃ t : Nat, t ≤ 64 ∧ i = .int .i64 t ∧ Keep Non wo wr ∧ wr.ownsRow wo.heap.size 40 1 v t ((List.range t).map fun t => Value.int .u32 (schedW bk t))) (fun _ i _ => 64 - (intOf i).toNat)
              case atStart =>
                exact ⟨0, by omega, rfl, (Keep.refl _ _).alloc _, World.ownsRow_made (base := wo.heap.size) (e := 40) (size := 1) wo #[] 0 (Nat.le_refl _) (by decide) rfl⟩
              case round =>
                obtain ⟨t, ht, rfl, kq, hw⟩ := hrel
                obtain ⟨wa, wc, rfl, _, _⟩ := ownsRow_form hw
                have KQ := Lib.hid kq
                have HW := Lib.hid hw
                clear kq hw
                by_cases h64 : t < 64
                · have h64i : (t : Int) < 64 := by omega
                  by_cases h16 : t < 16
                  · as_aux_lemma =>
                      have h16i : (t : Int) < 16 := by omega
                      have hby : Hid (∀ j, j < 64 → wr.cell? ⟨bg, boff + (q + j), none⟩ = some (.int .u8 (byI bk j))) := Lib.hid fun j hj => by
                        refine (World.cell?_of_block ((KP.out.trans1 KQ.out).block bg hbg (fun e => e))).trans ?_
                        rw [BC.out (q + j) (by omega), hqp.out j hj]
                      have b0 := hby.out (4 * t) (by omega)
                      have b1 := hby.out (4 * t + 1) (by omega)
                      have b2 := hby.out (4 * t + 2) (by omega)
                      have b3 := hby.out (4 * t + 3) (by omega)
                      obtain ⟨r, hr⟩ : ∃ r, r = q + 4 * t := ⟨_, rfl⟩
                      rw [show boff + (q + 4 * t) = boff + r by omega] at b0
                      rw [show boff + (q + (4 * t + 1)) = boff + (r + 1) by omega] at b1
                      rw [show boff + (q + (4 * t + 2)) = boff + (r + 2) by omega] at b2
                      rw [show boff + (q + (4 * t + 3)) = boff + (r + 3) by omega] at b3
                      have SW : Hid (schedW bk t = byI bk (4 * t) * 16777216 + byI bk (4 * t + 1) * 65536 + byI bk (4 * t + 2) * 256 + byI bk (4 * t + 3)) := Lib.hid (by rw [schedW_lt h16, beI_sum])
                      obtain ⟨l0, u0⟩ := byI_bd bk (4 * t)
                      obtain ⟨l1, u1⟩ := byI_bd bk (4 * t + 1)
                      obtain ⟨l2, u2⟩ := byI_bd bk (4 * t + 2)
                      obtain ⟨l3, u3⟩ := byI_bd bk (4 * t + 3)
                      go_wp2_with fail
                      have hrN : r + 3 < N := by omega
                      rw [show (q : Int) + 4 * (t : Int) = (r : Int) by omega]
                      have HR := Lib.hid hr
                      clear hr
                      generalize byI bk (4 * t) = y0 at b0 SW l0 u0
                      generalize byI bk (4 * t + 1) = y1 at b1 SW l1 u1
                      generalize byI bk (4 * t + 2) = y2 at b2 SW l2 u2
                      generalize byI bk (4 * t + 3) = y3 at b3 SW l3 u3
                      have r1 : (0 : Int) ≤ (r : Int) + 1 ∧ (r : Int) + 1 < (N : Int) := by omega
                      have r2 : (0 : Int) ≤ (r : Int) + 2 ∧ (r : Int) + 2 < (N : Int) := by omega
                      have r3 : (0 : Int) ≤ (r : Int) + 3 ∧ (r : Int) + 3 < (N : Int) := by omega
                      have r0 : (0 : Int) ≤ (r : Int) ∧ (r : Int) < (N : Int) := by omega
                      have t1 : ((r : Int) + 1).toNat = r + 1 := by omega
                      have t2 : ((r : Int) + 2).toNat = r + 2 := by omega
                      have t3 : ((r : Int) + 3).toNat = r + 3 := by omega
                      have m1 : IntKind.i64.wrap ((r : Int) + 1) = (r : Int) + 1 := by rw [IntKind.wrap_i64]; omega
                      have m2 : IntKind.i64.wrap ((r : Int) + 2) = (r : Int) + 2 := by rw [IntKind.wrap_i64]; omega
                      have m3 : IntKind.i64.wrap ((r : Int) + 3) = (r : Int) + 3 := by rw [IntKind.wrap_i64]; omega
                      have c0 : IntKind.u32.wrap y0 = y0 := by rw [IntKind.wrap_u32']; omega
                      have c1 : IntKind.u32.wrap y1 = y1 := by rw [IntKind.wrap_u32']; omega
                      have c2 : IntKind.u32.wrap y2 = y2 := by rw [IntKind.wrap_u32']; omega
                      have c3 : IntKind.u32.wrap y3 = y3 := by rw [IntKind.wrap_u32']; omega
                      have e0 : IntKind.u32.wrap (y0 * 16777216) = y0 * 16777216 := by rw [IntKind.wrap_u32']; omega
                      have e1 : IntKind.u32.wrap (y1 * 65536) = y1 * 65536 := by rw [IntKind.wrap_u32']; omega
                      have e2 : IntKind.u32.wrap (y2 * 256) = y2 * 256 := by rw [IntKind.wrap_u32']; omega
                      have f1 : IntKind.u32.wrap (y0 * 16777216 + y1 * 65536) = y0 * 16777216 + y1 * 65536 := by rw [IntKind.wrap_u32']; omega
                      have f2 : IntKind.u32.wrap (y0 * 16777216 + y1 * 65536 + y2 * 256) = y0 * 16777216 + y1 * 65536 + y2 * 256 := by rw [IntKind.wrap_u32']; omega
                      have f3 : IntKind.u32.wrap (y0 * 16777216 + y1 * 65536 + y2 * 256 + y3) = y0 * 16777216 + y1 * 65536 + y2 * 256 + y3 := by rw [IntKind.wrap_u32']; omega
                      have BB : Hid (∀ W : World, Keep Non wo W → W.cell? ⟨bg, boff + r, none⟩ = some (.int .u8 y0) ∧ W.cell? ⟨bg, boff + (r + 1), none⟩ = some (.int .u8 y1) ∧ W.cell? ⟨bg, boff + (r + 2), none⟩ = some (.int .u8 y2) ∧ W.cell? ⟨bg, boff + (r + 3), none⟩ = some (.int .u8 y3)) := Lib.hid fun W k => by
                        have e := k.block bg (KP.out.lt hbg) (fun e => e)
                        have e' := KQ.out.block bg (KP.out.lt hbg) (fun e => e)
                        have e2 := e.trans e'.symm
                        exact ⟨(World.cell?_of_block e2).trans b0, (World.cell?_of_block e2).trans b1, (World.cell?_of_block e2).trans b2, (World.cell?_of_block e2).trans b3⟩
                      have SA := Lib.hid (BB.out wr.drew KQ.out.drew)
                      have SB := Lib.hid (fun o => BB.out (wr.alloc o).drew (KQ.out.alloc o).drew)
                      have HWd := Lib.hid (HW.out.lt)
                      clear b0 b1 b2 b3 hby
                      go_region_held3 (fun W => W.cell? ⟨bg, boff + r, none⟩ = some (.int .u8 y0) ∧ W.cell? ⟨bg, boff + (r + 1), none⟩ = some (.int .u8 y1) ∧ W.cell? ⟨bg, boff + (r + 2), none⟩ = some (.int .u8 y2) ∧ W.cell? ⟨bg, boff + (r + 3), none⟩ = some (.int .u8 y3))
                        (first | with_reducible exact SA.out | with_reducible exact SB.out _ | with_reducible exact KA.out)
                        (first
                        | (refine step_append_rd (by rfl) (.tmp 80) (.tmp 110) 31 (by rfl) wo.heap.size 40 j0 (.int .u32 0) 4 Tryd.underlying31 hj0 jz0 jz1 jz2 rfl (.slice wa t wc) t _ (by rfl) (by first | exact HW.out.alloc _ | exact HW.out.drew.alloc _ | exact (HW.out.alloc _).drew) (.slice (some ⟨wr.heap.size, 0, none⟩) 1 1) (by simp [Act.eval]) [.int .u32 (y0 * 16777216 + y1 * 65536 + y2 * 256 + y3)] (by first | exact rd_one _ _ _ | exact (rd_one _ _ _).keepNon ((Keep.refl _ _).drew)) (by intro u hu; simp at hu; subst hu; rfl) (by unfold maxLen; simp; omega) (by simp; omega) (by have := KQ.out.size; simp; omega) ?_; intro v' w' ho hg hp; have KW : Hid (Keep Non wo w') := Lib.hid (((KQ.out.alloc _).drew : Keep Non wo _).grown hg (fun q e => .inr (HWd.out q e).1)); have KA := Lib.hid (BB.out w' KW.out); have HO2 := Lib.hid ho; clear ho hp hg))
                      go_wp2_with fail
                      have ho2 := HO2.out
                      rw [← SW.out, show (List.range t).map (fun t => Value.int .u32 (schedW bk t)) ++ [Value.int .u32 (schedW bk t)] = (List.range (t + 1)).map (fun t => Value.int .u32 (schedW bk t)) by rw [List.range_succ, List.map_append]; rfl] at ho2
                      exact ⟨⟨t + 1, by omega, by go_num, KW.out, ho2⟩, by simp [intOf]; omega⟩
                  · as_aux_lemma =>
                      have h16i : ¬ (t : Int) < 16 := by omega
                      rcases HW.out.2 with ⟨_, h0⟩ | ⟨wg, wcap, wcur, hwv, hwb, _⟩
                      · first
                        | omega
                        | (simp at h0; omega)
                      simp only [Value.slice.injEq, true_and] at hwv
                      obtain ⟨hwa, hwc⟩ := hwv
                      subst hwa
                      subst hwc
                      have hwj : Hid (∀ j, j < t → wr.cell? ⟨wg, j, none⟩ = some (.int .u32 (schedW bk j))) := Lib.hid fun j hj => by
                        have := World.ownsRow.cells HW.out (g := wg) rfl j (.int .u32 (schedW bk j)) (by simp [hj])
                        rwa [add_off, Nat.zero_add] at this
                      have c15 := hwj.out (t - 15) (by omega)
                      have c2 := hwj.out (t - 2) (by omega)
                      have p15 : ((t : Int) - 15).toNat = t - 15 := by omega
                      have p2 : ((t : Int) - 2).toNat = t - 2 := by omega
                      have q15 : 0 ≤ (t : Int) - 15 ∧ (t : Int) - 15 < (t : Int) := by omega
                      have q2 : 0 ≤ (t : Int) - 2 ∧ (t : Int) - 2 < (t : Int) := by omega
                      have s15 := schedW_u32 bk (t - 15)
                      have s2 := schedW_u32 bk (t - 2)
                      have ST : Hid (schedW bk t = nextW (schedW bk (t - 16)) (schedW bk (t - 7)) (schedW bk (t - 15)) (schedW bk (t - 2))) := Lib.hid (schedW_ge h16)
                      generalize schedW bk (t - 15) = x15 at c15 s15 ST
                      generalize schedW bk (t - 2) = x2 at c2 s2 ST
                      have S15 := Lib.hid s15
                      have S2 := Lib.hid s2
                      clear s15 s2
                      have c16 := hwj.out (t - 16) (by omega)
                      have c7 := hwj.out (t - 7) (by omega)
                      have p16 : ((t : Int) - 16).toNat = t - 16 := by omega
                      have p7 : ((t : Int) - 7).toNat = t - 7 := by omega
                      have q16 : 0 ≤ (t : Int) - 16 ∧ (t : Int) - 16 < (t : Int) := by omega
                      have q7 : 0 ≤ (t : Int) - 7 ∧ (t : Int) - 7 < (t : Int) := by omega
                      have r7a : (7 : Int) ≤ (t : Int) := by omega
                      have r16a : (16 : Int) ≤ (t : Int) := by omega
                      have m16 : IntKind.i64.wrap ((t : Int) - 16) = (t : Int) - 16 := by rw [IntKind.wrap_i64]; omega
                      have m7 : IntKind.i64.wrap ((t : Int) - 7) = (t : Int) - 7 := by rw [IntKind.wrap_i64]; omega
                      go_wp2_with fail
                      clear c15 c2 p15 p2 q15 q2
                      have s16 := Lib.hid (schedW_u32 bk (t - 16))
                      have s7 := Lib.hid (schedW_u32 bk (t - 7))
                      have hx16 : Hid (schedW bk (t - 16) = schedW bk (t - 16)) := Lib.hid rfl
                      obtain ⟨x16, hx16⟩ : ∃ x, x = schedW bk (t - 16) := ⟨_, rfl⟩
                      obtain ⟨x7, hx7⟩ : ∃ x, x = schedW bk (t - 7) := ⟨_, rfl⟩
                      rw [← hx16] at c16 s16 ST
                      rw [← hx7] at c7 s7 ST
                      have HX16 := Lib.hid hx16
                      have HX7 := Lib.hid hx7
                      clear hx16 hx7
                      have SA : Hid (wr.drew.cell? ⟨wg, t - 16, none⟩ = some (.int .u32 x16) ∧ wr.drew.cell? ⟨wg, t - 7, none⟩ = some (.int .u32 x7)) := Lib.hid ⟨c16, c7⟩
                      have hwgl : Hid (wg < wr.heap.size) := Lib.hid (World.block_lt_of_cell? _ _ c16)
                      have SK : Hid (∀ W, Keep Non wr W → W.cell? ⟨wg, t - 16, none⟩ = some (.int .u32 x16) ∧ W.cell? ⟨wg, t - 7, none⟩ = some (.int .u32 x7)) := Lib.hid fun W k => ⟨(World.cell?_of_block (k.block wg hwgl.out (fun e => e))).trans c16, (World.cell?_of_block (k.block wg hwgl.out (fun e => e))).trans c7⟩
                      have SB := Lib.hid (fun o => SK.out (wr.alloc o).drew (((Keep.refl Non wr).alloc o).drew))
                      have HT : Hid (16 ≤ t ∧ t < 64) := Lib.hid ⟨by omega, h64⟩
                      have HWd := Lib.hid (HW.out.lt)
                      obtain ⟨r7, e7⟩ : ∃ r, r = rotI x15 7 := ⟨_, rfl⟩
                      obtain ⟨r18, e18⟩ : ∃ r, r = rotI x15 18 := ⟨_, rfl⟩
                      obtain ⟨r17, e17⟩ : ∃ r, r = rotI x2 17 := ⟨_, rfl⟩
                      obtain ⟨r19, e19⟩ : ∃ r, r = rotI x2 19 := ⟨_, rfl⟩
                      have E7 := Lib.hid e7
                      have E18 := Lib.hid e18
                      have E17 := Lib.hid e17
                      have E19 := Lib.hid e19
                      have T7 : Hid (∀ w, Calls Tryd.prog 28 #[.int .u32 x15, .int .i64 7] w fun e w' => e = .returned (.int .u32 r7) ∧ w' = w) := Lib.hid (fun w => by rw [e7]; exact (turn_7 _ S15.out w).mono fun _ _ h => ⟨h.1, h.2.symm⟩)
                      have T18 : Hid (∀ w, Calls Tryd.prog 28 #[.int .u32 x15, .int .i64 18] w fun e w' => e = .returned (.int .u32 r18) ∧ w' = w) := Lib.hid (fun w => by rw [e18]; exact (turn_18 _ S15.out w).mono fun _ _ h => ⟨h.1, h.2.symm⟩)
                      have T17 : Hid (∀ w, Calls Tryd.prog 28 #[.int .u32 x2, .int .i64 17] w fun e w' => e = .returned (.int .u32 r17) ∧ w' = w) := Lib.hid (fun w => by rw [e17]; exact (turn_17 _ S2.out w).mono fun _ _ h => ⟨h.1, h.2.symm⟩)
                      have T19 : Hid (∀ w, Calls Tryd.prog 28 #[.int .u32 x2, .int .i64 19] w fun e w' => e = .returned (.int .u32 r19) ∧ w' = w) := Lib.hid (fun w => by rw [e19]; exact (turn_19 _ S2.out w).mono fun _ _ h => ⟨h.1, h.2.symm⟩)
                      clear e7 e18 e17 e19
                      refine wp_region_noPanic ?_
                      refine wp_region_held_drew (S := fun W => W.cell? ⟨wg, t - 16, none⟩ = some (.int .u32 x16) ∧ W.cell? ⟨wg, t - 7, none⟩ = some (.int .u32 x7)) (by kernel_rfl) ?_ (fun hHeld => ?_)
                      · exact SA.out
                      refine take_calm (i := 0) (v := ?v73) (by simp only [List.getElem?_toArray, List.getElem?_cons_zero]; rfl) (by kernel_rfl) (by kernel_rfl) (by kernel_rfl) (fun _ _ _ h => h) (Or.inl ⟨by rfl, ?hy73⟩) (by assumption) ?rest73
                      case hy73 =>
                        intro W hSw
                        try dsimp only at hSw
                        go_simp
                        first | done | with_reducible rfl
                      try simp only [Act.put, List.setIfInBounds_toArray, List.set_cons_zero, List.set_cons_succ]
                      refine take_calm (i := 1) (v := ?v74) (by simp only [List.getElem?_toArray, List.getElem?_cons_succ, List.getElem?_cons_zero]; rfl) (by kernel_rfl) (by kernel_rfl) (by kernel_rfl) (fun _ _ _ h => h) (Or.inl ⟨by rfl, ?hy74⟩) (by assumption) ?rest74
                      case hy74 =>
                        intro W hSw
                        try dsimp only at hSw
                        go_simp
                        first | done | with_reducible rfl
                      try simp only [Act.put, List.setIfInBounds_toArray, List.set_cons_zero, List.set_cons_succ]
                      refine take_calm (i := 2) (v := ?v75) (by simp only [List.getElem?_toArray, List.getElem?_cons_succ, List.getElem?_cons_zero]; rfl) (by kernel_rfl) (by kernel_rfl) (by kernel_rfl) (fun _ _ _ h => h) (Or.inl ⟨by rfl, ?hy75⟩) (by assumption) ?rest75
                      case hy75 =>
                        intro W hSw
                        try dsimp only at hSw
                        go_simp
                        first | done | with_reducible rfl
                      try simp only [Act.put, List.setIfInBounds_toArray, List.set_cons_zero, List.set_cons_succ]
                      refine take_calm (i := 3) (v := ?v76) (by simp only [List.getElem?_toArray, List.getElem?_cons_succ, List.getElem?_cons_zero]; rfl) (by kernel_rfl) (by kernel_rfl) (by kernel_rfl) (fun _ _ _ h => h) (Or.inl ⟨by rfl, ?hy76⟩) (by assumption) ?rest76
                      case hy76 =>
                        intro W hSw
                        try dsimp only at hSw
                        go_simp
                        first | done | with_reducible rfl
                      try simp only [Act.put, List.setIfInBounds_toArray, List.set_cons_zero, List.set_cons_succ]
                      refine take_calm (i := 4) (v := ?v77) (by simp only [List.getElem?_toArray, List.getElem?_cons_succ, List.getElem?_cons_zero]; rfl) (by kernel_rfl) (by kernel_rfl) (by kernel_rfl) (fun _ _ _ h => h) (Or.inl ⟨by rfl, ?hy77⟩) (by assumption) ?rest77
                      case hy77 =>
                        intro W hSw
                        try dsimp only at hSw
                        go_simp
                        first | done | with_reducible rfl
                      try simp only [Act.put, List.setIfInBounds_toArray, List.set_cons_zero, List.set_cons_succ]
                      refine take_calm (i := 5) (v := ?v78) (by simp only [List.getElem?_toArray, List.getElem?_cons_succ, List.getElem?_cons_zero]; rfl) (by kernel_rfl) (by kernel_rfl) (by kernel_rfl) (fun _ _ _ h => h) (Or.inl ⟨by rfl, ?hy78⟩) (by assumption) ?rest78
                      case hy78 =>
                        intro W hSw
                        try dsimp only at hSw
                        go_simp
                        first | done | with_reducible rfl
                      try simp only [Act.put, List.setIfInBounds_toArray, List.set_cons_zero, List.set_cons_succ]
                      refine take_calm (i := 6) (v := ?v79) (by simp only [List.getElem?_toArray, List.getElem?_cons_succ, List.getElem?_cons_zero]; rfl) (by kernel_rfl) (by kernel_rfl) (by kernel_rfl) (fun _ _ _ h => h) (Or.inl ⟨by rfl, ?hy79⟩) (by assumption) ?rest79
                      case hy79 =>
                        intro W hSw
                        try dsimp only at hSw
                        go_simp
                        first | done | with_reducible rfl
                      try simp only [Act.put, List.setIfInBounds_toArray, List.set_cons_zero, List.set_cons_succ]
                      refine take_calm (i := 7) (v := ?v80) (by simp only [List.getElem?_toArray, List.getElem?_cons_succ, List.getElem?_cons_zero]; rfl) (by kernel_rfl) (by kernel_rfl) (by kernel_rfl) (fun _ _ _ h => h) (Or.inl ⟨by rfl, ?hy80⟩) (by assumption) ?rest80
                      case hy80 =>
                        intro W hSw
                        try dsimp only at hSw
                        go_simp
                        first | done | with_reducible rfl
                      try simp only [Act.put, List.setIfInBounds_toArray, List.set_cons_zero, List.set_cons_succ]
                      refine take_calm (i := 8) (v := ?v81) (by simp only [List.getElem?_toArray, List.getElem?_cons_succ, List.getElem?_cons_zero]; rfl) (by kernel_rfl) (by kernel_rfl) (by kernel_rfl) (fun _ _ _ h => h) (Or.inl ⟨by rfl, ?hy81⟩) (by assumption) ?rest81
                      case hy81 =>
                        intro W hSw
                        try dsimp only at hSw
                        go_simp
                        first | done | with_reducible rfl
                      try simp only [Act.put, List.setIfInBounds_toArray, List.set_cons_zero, List.set_cons_succ]
                      refine take_calm (i := 9) (v := ?v82) (by simp only [List.getElem?_toArray, List.getElem?_cons_succ, List.getElem?_cons_zero]; rfl) (by kernel_rfl) (by kernel_rfl) (by kernel_rfl) (fun _ _ _ h => h) (Or.inl ⟨by rfl, ?hy82⟩) (by assumption) ?rest82
                      case hy82 =>
                        intro W hSw
                        try dsimp only at hSw
                        go_simp
                        first | done | with_reducible rfl
                      try simp only [Act.put, List.setIfInBounds_toArray, List.set_cons_zero, List.set_cons_succ]
                      refine take_calm (i := 10) (v := ?v83) (by simp only [List.getElem?_toArray, List.getElem?_cons_succ, List.getElem?_cons_zero]; rfl) (by kernel_rfl) (by kernel_rfl) (by kernel_rfl) (fun _ _ _ h => h) (Or.inl ⟨by rfl, ?hy83⟩) (by assumption) ?rest83
                      case hy83 =>
                        intro W hSw
                        try dsimp only at hSw
                        go_simp
                        first | done | with_reducible rfl
                      try simp only [Act.put, List.setIfInBounds_toArray, List.set_cons_zero, List.set_cons_succ]
                      refine take_calm (i := 11) (v := ?v84) (by simp only [List.getElem?_toArray, List.getElem?_cons_succ, List.getElem?_cons_zero]; rfl) (by kernel_rfl) (by kernel_rfl) (by kernel_rfl) (fun _ _ _ h => h) (Or.inl ⟨by rfl, ?hy84⟩) (by assumption) ?rest84
                      case hy84 =>
                        intro W hSw
                        try dsimp only at hSw
                        go_simp
                        first | done | with_reducible rfl
                      try simp only [Act.put, List.setIfInBounds_toArray, List.set_cons_zero, List.set_cons_succ]
                      refine take_calm (i := 12) (v := ?v85) (by simp only [List.getElem?_toArray, List.getElem?_cons_succ, List.getElem?_cons_zero]; rfl) (by kernel_rfl) (by kernel_rfl) (by kernel_rfl) (fun _ _ _ h => h) (Or.inl ⟨by rfl, ?hy85⟩) (by assumption) ?rest85
                      case hy85 =>
                        intro W hSw
                        try dsimp only at hSw
                        go_simp
                        first | done | with_reducible rfl
                      try simp only [Act.put, List.setIfInBounds_toArray, List.set_cons_zero, List.set_cons_succ]
                      refine take_calm (i := 13) (v := ?v86) (by simp only [List.getElem?_toArray, List.getElem?_cons_succ, List.getElem?_cons_zero]; rfl) (by kernel_rfl) (by kernel_rfl) (by kernel_rfl) (fun _ _ _ h => h) (Or.inl ⟨by rfl, ?hy86⟩) (by assumption) ?rest86
                      case hy86 =>
                        intro W hSw
                        try dsimp only at hSw
                        go_simp
                        exact T7.out _
                      try simp only [Act.put, List.setIfInBounds_toArray, List.set_cons_zero, List.set_cons_succ]
                      refine take_calm (i := 14) (v := ?v87) (by simp only [List.getElem?_toArray, List.getElem?_cons_succ, List.getElem?_cons_zero]; rfl) (by kernel_rfl) (by kernel_rfl) (by kernel_rfl) (fun _ _ _ h => h) (Or.inl ⟨by rfl, ?hy87⟩) (by assumption) ?rest87
                      case hy87 =>
                        intro W hSw
                        try dsimp only at hSw
                        go_simp
                        first | done | with_reducible rfl
                      try simp only [Act.put, List.setIfInBounds_toArray, List.set_cons_zero, List.set_cons_succ]
                      refine take_calm (i := 15) (v := ?v88) (by simp only [List.getElem?_toArray, List.getElem?_cons_succ, List.getElem?_cons_zero]; rfl) (by kernel_rfl) (by kernel_rfl) (by kernel_rfl) (fun _ _ _ h => h) (Or.inl ⟨by rfl, ?hy88⟩) (by assumption) ?rest88
                      case hy88 =>
                        intro W hSw
                        try dsimp only at hSw
                        go_simp
                        exact T18.out _
                      try simp only [Act.put, List.setIfInBounds_toArray, List.set_cons_zero, List.set_cons_succ]
                      refine take_calm (i := 16) (v := ?v89) (by simp only [List.getElem?_toArray, List.getElem?_cons_succ, List.getElem?_cons_zero]; rfl) (by kernel_rfl) (by kernel_rfl) (by kernel_rfl) (fun _ _ _ h => h) (Or.inl ⟨by rfl, ?hy89⟩) (by assumption) ?rest89
                      case hy89 =>
                        intro W hSw
                        try dsimp only at hSw
                        go_simp
                        first | done | with_reducible rfl
                      try simp only [Act.put, List.setIfInBounds_toArray, List.set_cons_zero, List.set_cons_succ]
                      refine take_calm (i := 17) (v := ?v90) (by simp only [List.getElem?_toArray, List.getElem?_cons_succ, List.getElem?_cons_zero]; rfl) (by kernel_rfl) (by kernel_rfl) (by kernel_rfl) (fun _ _ _ h => h) (Or.inl ⟨by rfl, ?hy90⟩) (by assumption) ?rest90
                      case hy90 =>
                        intro W hSw
                        try dsimp only at hSw
                        go_simp
                        first | done | with_reducible rfl
                      try simp only [Act.put, List.setIfInBounds_toArray, List.set_cons_zero, List.set_cons_succ]
                      refine take_calm (i := 18) (v := ?v91) (by simp only [List.getElem?_toArray, List.getElem?_cons_succ, List.getElem?_cons_zero]; rfl) (by kernel_rfl) (by kernel_rfl) (by kernel_rfl) (fun _ _ _ h => h) (Or.inl ⟨by rfl, ?hy91⟩) (by assumption) ?rest91
                      case hy91 =>
                        intro W hSw
                        try dsimp only at hSw
                        go_simp
                        first | done | with_reducible rfl
                      try simp only [Act.put, List.setIfInBounds_toArray, List.set_cons_zero, List.set_cons_succ]
                      refine take_calm (i := 19) (v := ?v92) (by simp only [List.getElem?_toArray, List.getElem?_cons_succ, List.getElem?_cons_zero]; rfl) (by kernel_rfl) (by kernel_rfl) (by kernel_rfl) (fun _ _ _ h => h) (Or.inl ⟨by rfl, ?hy92⟩) (by assumption) ?rest92
                      case hy92 =>
                        intro W hSw
                        try dsimp only at hSw
                        go_simp
                        first | done | with_reducible rfl
                      try simp only [Act.put, List.setIfInBounds_toArray, List.set_cons_zero, List.set_cons_succ]
                      refine take_calm (i := 20) (v := ?v93) (by simp only [List.getElem?_toArray, List.getElem?_cons_succ, List.getElem?_cons_zero]; rfl) (by kernel_rfl) (by kernel_rfl) (by kernel_rfl) (fun _ _ _ h => h) (Or.inl ⟨by rfl, ?hy93⟩) (by assumption) ?rest93
                      case hy93 =>
                        intro W hSw
                        try dsimp only at hSw
                        go_simp
                        first | done | with_reducible rfl
                      try simp only [Act.put, List.setIfInBounds_toArray, List.set_cons_zero, List.set_cons_succ]
                      refine take_calm (i := 21) (v := ?v94) (by simp only [List.getElem?_toArray, List.getElem?_cons_succ, List.getElem?_cons_zero]; rfl) (by kernel_rfl) (by kernel_rfl) (by kernel_rfl) (fun _ _ _ h => h) (Or.inl ⟨by rfl, ?hy94⟩) (by assumption) ?rest94
                      case hy94 =>
                        intro W hSw
                        try dsimp only at hSw
                        go_simp
                        first | done | with_reducible rfl
                      try simp only [Act.put, List.setIfInBounds_toArray, List.set_cons_zero, List.set_cons_succ]
                      refine take_calm (i := 22) (v := ?v95) (by simp only [List.getElem?_toArray, List.getElem?_cons_succ, List.getElem?_cons_zero]; rfl) (by kernel_rfl) (by kernel_rfl) (by kernel_rfl) (fun _ _ _ h => h) (Or.inl ⟨by rfl, ?hy95⟩) (by assumption) ?rest95
                      case hy95 =>
                        intro W hSw
                        try dsimp only at hSw
                        go_simp
                        exact T17.out _
                      try simp only [Act.put, List.setIfInBounds_toArray, List.set_cons_zero, List.set_cons_succ]
                      refine take_calm (i := 23) (v := ?v96) (by simp only [List.getElem?_toArray, List.getElem?_cons_succ, List.getElem?_cons_zero]; rfl) (by kernel_rfl) (by kernel_rfl) (by kernel_rfl) (fun _ _ _ h => h) (Or.inl ⟨by rfl, ?hy96⟩) (by assumption) ?rest96
                      case hy96 =>
                        intro W hSw
                        try dsimp only at hSw
                        go_simp
                        first | done | with_reducible rfl
                      try simp only [Act.put, List.setIfInBounds_toArray, List.set_cons_zero, List.set_cons_succ]
                      refine take_calm (i := 24) (v := ?v97) (by simp only [List.getElem?_toArray, List.getElem?_cons_succ, List.getElem?_cons_zero]; rfl) (by kernel_rfl) (by kernel_rfl) (by kernel_rfl) (fun _ _ _ h => h) (Or.inl ⟨by rfl, ?hy97⟩) (by assumption) ?rest97
                      case hy97 =>
                        intro W hSw
                        try dsimp only at hSw
                        go_simp
                        exact T19.out _
                      try simp only [Act.put, List.setIfInBounds_toArray, List.set_cons_zero, List.set_cons_succ]
                      refine take_calm (i := 25) (v := ?v98) (by simp only [List.getElem?_toArray, List.getElem?_cons_succ, List.getElem?_cons_zero]; rfl) (by kernel_rfl) (by kernel_rfl) (by kernel_rfl) (fun _ _ _ h => h) (Or.inl ⟨by rfl, ?hy98⟩) (by assumption) ?rest98
                      case hy98 =>
                        intro W hSw
                        try dsimp only at hSw
                        go_simp
                        first | done | with_reducible rfl
                      try simp only [Act.put, List.setIfInBounds_toArray, List.set_cons_zero, List.set_cons_succ]
                      refine take_calm (i := 26) (v := ?v99) (by simp only [List.getElem?_toArray, List.getElem?_cons_succ, List.getElem?_cons_zero]; rfl) (by kernel_rfl) (by kernel_rfl) (by kernel_rfl) (fun _ _ _ h => h) (Or.inl ⟨by rfl, ?hy99⟩) (by assumption) ?rest99
                      case hy99 =>
                        intro W hSw
                        try dsimp only at hSw
                        go_simp
                        first | done | with_reducible rfl
                      try simp only [Act.put, List.setIfInBounds_toArray, List.set_cons_zero, List.set_cons_succ]
                      refine take_calm (i := 27) (v := ?v100) (by simp only [List.getElem?_toArray, List.getElem?_cons_succ, List.getElem?_cons_zero]; rfl) (by kernel_rfl) (by kernel_rfl) (by kernel_rfl) (fun _ _ _ h => h) (Or.inl ⟨by rfl, ?hy100⟩) (by assumption) ?rest100
                      case hy100 =>
                        intro W hSw
                        try dsimp only at hSw
                        go_simp
                        first | done | with_reducible rfl
                      try simp only [Act.put, List.setIfInBounds_toArray, List.set_cons_zero, List.set_cons_succ]
                      refine take_calm (i := 28) (v := ?v101) (by simp only [List.getElem?_toArray, List.getElem?_cons_succ, List.getElem?_cons_zero]; rfl) (by kernel_rfl) (by kernel_rfl) (by kernel_rfl) (fun _ _ _ h => h) (Or.inl ⟨by rfl, ?hy101⟩) (by assumption) ?rest101
                      case hy101 =>
                        intro W hSw
                        try dsimp only at hSw
                        go_simp
                        first | done | with_reducible rfl
                      try simp only [Act.put, List.setIfInBounds_toArray, List.set_cons_zero, List.set_cons_succ]
                      refine take_calm (i := 29) (v := ?v102) (by simp only [List.getElem?_toArray, List.getElem?_cons_succ, List.getElem?_cons_zero]; rfl) (by kernel_rfl) (by kernel_rfl) (by kernel_rfl) (fun _ _ _ h => h) (Or.inl ⟨by rfl, ?hy102⟩) (by assumption) ?rest102
                      case hy102 =>
                        intro W hSw
                        try dsimp only at hSw
                        go_simp
                        first | done | with_reducible rfl
                      try simp only [Act.put, List.setIfInBounds_toArray, List.set_cons_zero, List.set_cons_succ]
                      refine wpAnyH_ready (rs := [30]) (by kernel_rfl) (by simp) ?_
                      refine AllReadyH.cons (by simp only [List.getElem?_toArray, List.getElem?_cons_succ, List.getElem?_cons_zero]; rfl) (fun K hK => ?_) AllReadyH.nil
                      go_simp
                      refine hK.out _ _ ?_ (fun hHeld2 => ?_)
                      · exact SB.out _
                      clear hK K
                      try simp only [Act.put, List.setIfInBounds_toArray, List.set_cons_zero, List.set_cons_succ]
                      refine wpAnyH_ready (rs := [31]) (by kernel_rfl) (by simp) ?_
                      refine AllReadyH.cons (by simp only [List.getElem?_toArray, List.getElem?_cons_succ, List.getElem?_cons_zero]; rfl) (fun K hK => ?_) AllReadyH.nil
                      refine step_append_rn (by rfl) (.tmp 122) (.tmp 152) 31 (by rfl) wo.heap.size 40 j0 (.int .u32 0) 4 Tryd.underlying31 hj0 jz0 jz1 jz2 rfl (.slice (some ⟨wg, 0, none⟩) t wc) t _ (by rfl) (by first | exact HW.out.alloc _ | exact HW.out.drew.alloc _ | exact (HW.out.alloc _).drew) (.slice (some ⟨wr.heap.size, 0, none⟩) 1 1) (by simp [Act.eval]) [.int .u32 _] (by first | exact rd_one _ _ _ | exact (rd_one _ _ _).keepNon ((Keep.refl _ _).drew)) (by intro u hu; simp at hu; subst hu; rfl) (by have := HT.out; unfold maxLen; simp; omega) (by have := HT.out; simp; omega) (by have := KQ.out.size; simp; omega) ?_
                      intro v' w' ho hg hp
                      have KW : Hid (Keep Non wo w') := Lib.hid (((KQ.out.alloc _).drew : Keep Non wo _).grown hg (fun q e => .inr (HWd.out q e).1))
                      have HO2 := Lib.hid ho
                      have KA : Hid (w'.cell? ⟨wg, t - 16, none⟩ = some (.int .u32 x16) ∧ w'.cell? ⟨wg, t - 7, none⟩ = some (.int .u32 x7)) := Lib.hid (app_keep HT.out HX16.out HX7.out ho hp SB.out)
                      clear ho hp hg
                      refine hK.out _ _ KA.out (fun hHeld3 => ?_)
                      clear hK K
                      try simp only [Act.put, List.setIfInBounds_toArray, List.set_cons_zero, List.set_cons_succ]
                      refine take_calm (i := 32) (v := ?v72) (by simp only [List.getElem?_toArray, List.getElem?_cons_succ, List.getElem?_cons_zero]; rfl) (by kernel_rfl) (by kernel_rfl) (by kernel_rfl) (fun _ _ _ h => h) (Or.inl ⟨by rfl, ?hy72⟩) (by assumption) ?rest72
                      case hy72 =>
                        intro W hSw
                        try dsimp only at hSw
                        go_simp
                        first | done | with_reducible rfl
                      try simp only [Act.put, List.setIfInBounds_toArray, List.set_cons_zero, List.set_cons_succ]
                      refine wpAnyH_done (by kernel_rfl) ?_ _
                      refine NoPanic.normal ?_
                      have ho2 := HO2.out
                      have hv : IntKind.u32.wrap (IntKind.u32.wrap (IntKind.u32.wrap (x16 + x7) + bits .xor .u32 (bits .xor .u32 r7 r18) (x15 / 8)) + bits .xor .u32 (bits .xor .u32 r17 r19) (x2 / 1024)) = schedW bk t := by
                        rw [ST.out, E7.out, E18.out, E17.out, E19.out]
                        first | rfl | simp only [IntKind.wrap_u32', nextW, sg0, sg1, w32, xorI]
                      rw [hv, show (List.range t).map (fun t => Value.int .u32 (schedW bk t)) ++ [Value.int .u32 (schedW bk t)] = (List.range (t + 1)).map (fun t => Value.int .u32 (schedW bk t)) by rw [List.range_succ, List.map_append]; rfl] at ho2
                      clear hv HO2 KA hHeld hHeld2 hHeld3 SA SB SK E7 E17 E18 E19 T7 T17 T18 T19 ST S15 S2
                      have HO2 := Lib.hid ho2
                      clear ho2
                      go_wp2_with fail
                      exact ⟨⟨t + 1, by omega, by go_num, KW.out, HO2.out⟩, by simp [intOf]; omega⟩
                · have e : t = 64 := by omega
                  subst e
                  rw [show ((64 : Nat) : Int) = 64 from rfl]
                  have KO := Lib.hid (KP.out.trans1 KQ.out)
                  rcases HW.out.2 with ⟨_, h0⟩ | ⟨wg, wcap, wcur, hwv, hwb, _⟩
                  · simp at h0
                  simp only [Value.slice.injEq, true_and] at hwv
                  obtain ⟨hwa, hwc⟩ := hwv
                  subst hwa
                  subst hwc
                  have HWJ : Hid (∀ j, j < 64 → wr.cell? ⟨wg, j, none⟩ = some (.int .u32 (schedW bk j))) := Lib.hid fun j hj => by
                    have := World.ownsRow.cells HW.out (g := wg) rfl j (.int .u32 (schedW bk j)) (by simp [hj])
                    rwa [add_off, Nat.zero_add] at this
                  have hx3 := X3.out.keepNon KO.out
                  obtain ⟨kg, koff, rfl, hn1, hkc⟩ := rd_at hx3 (by simp [kvs])
                  clear hn1
                  have HKC : Hid (∀ j, j < 64 → wr.cell? ⟨kg, koff + j, none⟩ = some (.int .u32 (kI j))) := Lib.hid fun j hj => hkc j _ (by simp [kvs, kv, hj])
                  have hs3 := HS.out.keepNon KQ.out
                  obtain ⟨sg, soff, rfl, hn1, hsc⟩ := rd_at hs3 (by simp [wl, W8.cells])
                  clear hn1
                  have hsu := stTo_u32 pl m
                  generalize stTo pl m = S0 at hsc hst hsu
                  have HSU := Lib.hid hsu
                  have s0 : wr.cell? ⟨sg, soff, none⟩ = some (.int .u32 S0.a) := hsc 0 _ rfl
                  have s1 : wr.cell? ⟨sg, soff + 1, none⟩ = some (.int .u32 S0.b) := hsc 1 _ rfl
                  have s2 : wr.cell? ⟨sg, soff + 2, none⟩ = some (.int .u32 S0.c) := hsc 2 _ rfl
                  have s3 : wr.cell? ⟨sg, soff + 3, none⟩ = some (.int .u32 S0.d) := hsc 3 _ rfl
                  have s4 : wr.cell? ⟨sg, soff + 4, none⟩ = some (.int .u32 S0.e) := hsc 4 _ rfl
                  have s5 : wr.cell? ⟨sg, soff + 5, none⟩ = some (.int .u32 S0.f) := hsc 5 _ rfl
                  have s6 : wr.cell? ⟨sg, soff + 6, none⟩ = some (.int .u32 S0.g) := hsc 6 _ rfl
                  have s7 : wr.cell? ⟨sg, soff + 7, none⟩ = some (.int .u32 S0.h) := hsc 7 _ rfl
                  have hkg : Hid (kg < wr.heap.size) := Lib.hid (World.block_lt_of_cell? _ _ (HKC.out 0 (by omega)))
                  have hwg : Hid (wg < wr.heap.size) := Lib.hid (World.block_lt_of_cell? _ _ (HWJ.out 0 (by omega)))
                  have hsg := World.block_lt_of_cell? _ _ s0
                  have SCK : Hid (∀ W : World, Keep Non wr W → W.cell? ⟨sg, soff, none⟩ = some (.int .u32 S0.a) ∧ W.cell? ⟨sg, soff + 1, none⟩ = some (.int .u32 S0.b) ∧ W.cell? ⟨sg, soff + 2, none⟩ = some (.int .u32 S0.c) ∧ W.cell? ⟨sg, soff + 3, none⟩ = some (.int .u32 S0.d) ∧ W.cell? ⟨sg, soff + 4, none⟩ = some (.int .u32 S0.e) ∧ W.cell? ⟨sg, soff + 5, none⟩ = some (.int .u32 S0.f) ∧ W.cell? ⟨sg, soff + 6, none⟩ = some (.int .u32 S0.g) ∧ W.cell? ⟨sg, soff + 7, none⟩ = some (.int .u32 S0.h)) := Lib.hid fun W k => by
                    have e := k.block sg hsg (fun e => e)
                    exact ⟨(World.cell?_of_block e).trans s0, (World.cell?_of_block e).trans s1, (World.cell?_of_block e).trans s2, (World.cell?_of_block e).trans s3, (World.cell?_of_block e).trans s4, (World.cell?_of_block e).trans s5, (World.cell?_of_block e).trans s6, (World.cell?_of_block e).trans s7⟩
                  clear hsc hkc hx3 hs3 hwb hsg hsu HS X3 HW KQ
                  go_wp2_with fail
                  go_quiet (fail)
                  clear s0 s1 s2 s3 s4 s5 s6 s7
                  go_wp2_with fail
                  obtain ⟨wb, rfl⟩ : ∃ wb : World, wb = wr := ⟨_, rfl⟩
                  go_loopw [17, 18, 19, 20, 21, 22, 23, 24, 25] (fun va vb vc vd ve vf vg vh i wq => ∃ (t : Nat) (R : W8), t ≤ 64 ∧ i = .int .i64 t ∧ R = roundsTo S0 bk t ∧ va = .int .u32 R.a ∧ vb = .int .u32 R.b ∧ vc = .int .u32 R.c ∧ vd = .int .u32 R.d ∧ ve = .int .u32 R.e ∧ vf = .int .u32 R.f ∧ vg = .int .u32 R.g ∧ vh = .int .u32 R.h ∧ Keep Non wb wq) (fun _ _ _ _ _ _ _ _ i _ => 64 - (intOf i).toNat)
                  case atStart => exact ⟨0, S0, by omega, rfl, rfl, rfl, rfl, rfl, rfl, rfl, rfl, rfl, rfl, (Keep.refl _ _).drewN _⟩
                  case round =>
                    obtain ⟨t, R, ht, rfl, hR, rfl, rfl, rfl, rfl, rfl, rfl, rfl, rfl, kr⟩ := hrel
                    have hRu := roundsTo_u32 HSU.out bk t
                    rw [← hR] at hRu
                    have KR := Lib.hid kr
                    clear kr
                    by_cases h64 : t < 64
                    · as_aux_lemma =>
                        have h64i : (t : Int) < 64 := by omega
                        have ck := (World.cell?_of_block (KR.out.block kg hkg.out (fun e => e))).trans (HKC.out t h64)
                        have cw := (World.cell?_of_block (KR.out.block wg hwg.out (fun e => e))).trans (HWJ.out t h64)
                        have hstep : Hid (roundsTo S0 bk (t + 1) = roundW R (kI t) (schedW bk t)) := Lib.hid (by rw [hR]; rfl)
                        generalize kI t = kt at ck hstep
                        generalize schedW bk t = wt at cw hstep
                        clear hR
                        obtain ⟨ra, rb, rc, rd, re, rf, rg, rh⟩ := R
                        obtain ⟨ua, ub, uc, ud, ue, uf, ug, uh⟩ := hRu
                        dsimp only at ua ub uc ud ue uf ug uh ⊢
                        obtain ⟨x6, e6⟩ : ∃ r, r = rotI re 6 := ⟨_, rfl⟩
                        obtain ⟨x11, e11⟩ : ∃ r, r = rotI re 11 := ⟨_, rfl⟩
                        obtain ⟨x25, e25⟩ : ∃ r, r = rotI re 25 := ⟨_, rfl⟩
                        obtain ⟨x2, e2⟩ : ∃ r, r = rotI ra 2 := ⟨_, rfl⟩
                        obtain ⟨x13, e13⟩ : ∃ r, r = rotI ra 13 := ⟨_, rfl⟩
                        obtain ⟨x22, e22⟩ : ∃ r, r = rotI ra 22 := ⟨_, rfl⟩
                        have E6 := Lib.hid e6
                        have E11 := Lib.hid e11
                        have E25 := Lib.hid e25
                        have E2 := Lib.hid e2
                        have E13 := Lib.hid e13
                        have E22 := Lib.hid e22
                        have T6 : Hid (∀ w, Calls Tryd.prog 28 #[.int .u32 re, .int .i64 6] w fun e w' => e = .returned (.int .u32 x6) ∧ w' = w) := Lib.hid (fun w => by rw [e6]; exact (turn_6 _ ue w).mono fun _ _ h => ⟨h.1, h.2.symm⟩)
                        have T11 : Hid (∀ w, Calls Tryd.prog 28 #[.int .u32 re, .int .i64 11] w fun e w' => e = .returned (.int .u32 x11) ∧ w' = w) := Lib.hid (fun w => by rw [e11]; exact (turn_11 _ ue w).mono fun _ _ h => ⟨h.1, h.2.symm⟩)
                        have T25 : Hid (∀ w, Calls Tryd.prog 28 #[.int .u32 re, .int .i64 25] w fun e w' => e = .returned (.int .u32 x25) ∧ w' = w) := Lib.hid (fun w => by rw [e25]; exact (turn_25 _ ue w).mono fun _ _ h => ⟨h.1, h.2.symm⟩)
                        have T2 : Hid (∀ w, Calls Tryd.prog 28 #[.int .u32 ra, .int .i64 2] w fun e w' => e = .returned (.int .u32 x2) ∧ w' = w) := Lib.hid (fun w => by rw [e2]; exact (turn_2 _ ua w).mono fun _ _ h => ⟨h.1, h.2.symm⟩)
                        have T13 : Hid (∀ w, Calls Tryd.prog 28 #[.int .u32 ra, .int .i64 13] w fun e w' => e = .returned (.int .u32 x13) ∧ w' = w) := Lib.hid (fun w => by rw [e13]; exact (turn_13 _ ua w).mono fun _ _ h => ⟨h.1, h.2.symm⟩)
                        have T22 : Hid (∀ w, Calls Tryd.prog 28 #[.int .u32 ra, .int .i64 22] w fun e w' => e = .returned (.int .u32 x22) ∧ w' = w) := Lib.hid (fun w => by rw [e22]; exact (turn_22 _ ua w).mono fun _ _ h => ⟨h.1, h.2.symm⟩)
                        have UU := Lib.hid (And.intro (And.intro ua (And.intro ub uc)) (And.intro ue (And.intro uf ug)))
                        clear ua ub uc ud ue uf ug uh e6 e11 e25 e2 e13 e22
                        obtain ⟨X, hX⟩ : ∃ X, X = xW ⟨ra, rb, rc, rd, re, rf, rg, rh⟩ kt wt := ⟨_, rfl⟩
                        have XF := Lib.hid ((x_form (ra := ra) (rb := rb) (rc := rc) (rd := rd) (rh := rh) (kt := kt) (wt := wt) E6.out E11.out E25.out UU.out.2.1 UU.out.2.2.1 UU.out.2.2.2).trans hX.symm)
                        have HX := Lib.hid hX
                        clear hX
                        go_wp2_with fail
                        refine wp_region_noPanic ?_
                        refine wp_region_held_drew (S := fun W => W.cell? ⟨kg, koff + t, none⟩ = some (.int .u32 kt) ∧ W.cell? ⟨wg, t, none⟩ = some (.int .u32 wt)) (by kernel_rfl) ?_ (fun hHeld => ?_)
                        · exact ⟨ck, cw⟩
                        refine take_calm (i := 0) (v := ?v1) (by simp only [List.getElem?_toArray, List.getElem?_cons_zero]; rfl) (by kernel_rfl) (by kernel_rfl) (by kernel_rfl) (fun _ _ _ h => h) (Or.inl ⟨by rfl, ?hy1⟩) (by assumption) ?rest1
                        case hy1 =>
                          intro W hSw
                          try dsimp only at hSw
                          go_simp
                          first | done | with_reducible rfl
                        try simp only [Act.put, List.setIfInBounds_toArray, List.set_cons_zero, List.set_cons_succ]
                        refine take_calm (i := 1) (v := ?v2) (by simp only [List.getElem?_toArray, List.getElem?_cons_succ, List.getElem?_cons_zero]; rfl) (by kernel_rfl) (by kernel_rfl) (by kernel_rfl) (fun _ _ _ h => h) (Or.inl ⟨by rfl, ?hy2⟩) (by assumption) ?rest2
                        case hy2 =>
                          intro W hSw
                          try dsimp only at hSw
                          go_simp
                          first | done | with_reducible rfl
                        try simp only [Act.put, List.setIfInBounds_toArray, List.set_cons_zero, List.set_cons_succ]
                        refine take_calm (i := 2) (v := ?v3) (by simp only [List.getElem?_toArray, List.getElem?_cons_succ, List.getElem?_cons_zero]; rfl) (by kernel_rfl) (by kernel_rfl) (by kernel_rfl) (fun _ _ _ h => h) (Or.inl ⟨by rfl, ?hy3⟩) (by assumption) ?rest3
                        case hy3 =>
                          intro W hSw
                          try dsimp only at hSw
                          go_simp
                          exact T6.out _
                        try simp only [Act.put, List.setIfInBounds_toArray, List.set_cons_zero, List.set_cons_succ]
                        refine take_calm (i := 3) (v := ?v4) (by simp only [List.getElem?_toArray, List.getElem?_cons_succ, List.getElem?_cons_zero]; rfl) (by kernel_rfl) (by kernel_rfl) (by kernel_rfl) (fun _ _ _ h => h) (Or.inl ⟨by rfl, ?hy4⟩) (by assumption) ?rest4
                        case hy4 =>
                          intro W hSw
                          try dsimp only at hSw
                          go_simp
                          first | done | with_reducible rfl
                        try simp only [Act.put, List.setIfInBounds_toArray, List.set_cons_zero, List.set_cons_succ]
                        refine take_calm (i := 4) (v := ?v5) (by simp only [List.getElem?_toArray, List.getElem?_cons_succ, List.getElem?_cons_zero]; rfl) (by kernel_rfl) (by kernel_rfl) (by kernel_rfl) (fun _ _ _ h => h) (Or.inl ⟨by rfl, ?hy5⟩) (by assumption) ?rest5
                        case hy5 =>
                          intro W hSw
                          try dsimp only at hSw
                          go_simp
                          exact T11.out _
                        try simp only [Act.put, List.setIfInBounds_toArray, List.set_cons_zero, List.set_cons_succ]
                        refine take_calm (i := 5) (v := ?v6) (by simp only [List.getElem?_toArray, List.getElem?_cons_succ, List.getElem?_cons_zero]; rfl) (by kernel_rfl) (by kernel_rfl) (by kernel_rfl) (fun _ _ _ h => h) (Or.inl ⟨by rfl, ?hy6⟩) (by assumption) ?rest6
                        case hy6 =>
                          intro W hSw
                          try dsimp only at hSw
                          go_simp
                          first | done | with_reducible rfl
                        try simp only [Act.put, List.setIfInBounds_toArray, List.set_cons_zero, List.set_cons_succ]
                        refine take_calm (i := 6) (v := ?v7) (by simp only [List.getElem?_toArray, List.getElem?_cons_succ, List.getElem?_cons_zero]; rfl) (by kernel_rfl) (by kernel_rfl) (by kernel_rfl) (fun _ _ _ h => h) (Or.inl ⟨by rfl, ?hy7⟩) (by assumption) ?rest7
                        case hy7 =>
                          intro W hSw
                          try dsimp only at hSw
                          go_simp
                          first | done | with_reducible rfl
                        try simp only [Act.put, List.setIfInBounds_toArray, List.set_cons_zero, List.set_cons_succ]
                        refine take_calm (i := 7) (v := ?v8) (by simp only [List.getElem?_toArray, List.getElem?_cons_succ, List.getElem?_cons_zero]; rfl) (by kernel_rfl) (by kernel_rfl) (by kernel_rfl) (fun _ _ _ h => h) (Or.inl ⟨by rfl, ?hy8⟩) (by assumption) ?rest8
                        case hy8 =>
                          intro W hSw
                          try dsimp only at hSw
                          go_simp
                          exact T25.out _
                        try simp only [Act.put, List.setIfInBounds_toArray, List.set_cons_zero, List.set_cons_succ]
                        refine take_calm (i := 8) (v := ?v9) (by simp only [List.getElem?_toArray, List.getElem?_cons_succ, List.getElem?_cons_zero]; rfl) (by kernel_rfl) (by kernel_rfl) (by kernel_rfl) (fun _ _ _ h => h) (Or.inl ⟨by rfl, ?hy9⟩) (by assumption) ?rest9
                        case hy9 =>
                          intro W hSw
                          try dsimp only at hSw
                          go_simp
                          first | done | with_reducible rfl
                        try simp only [Act.put, List.setIfInBounds_toArray, List.set_cons_zero, List.set_cons_succ]
                        refine take_calm (i := 9) (v := ?v10) (by simp only [List.getElem?_toArray, List.getElem?_cons_succ, List.getElem?_cons_zero]; rfl) (by kernel_rfl) (by kernel_rfl) (by kernel_rfl) (fun _ _ _ h => h) (Or.inl ⟨by rfl, ?hy10⟩) (by assumption) ?rest10
                        case hy10 =>
                          intro W hSw
                          try dsimp only at hSw
                          go_simp
                          first | done | with_reducible rfl
                        try simp only [Act.put, List.setIfInBounds_toArray, List.set_cons_zero, List.set_cons_succ]
                        refine take_calm (i := 10) (v := ?v11) (by simp only [List.getElem?_toArray, List.getElem?_cons_succ, List.getElem?_cons_zero]; rfl) (by kernel_rfl) (by kernel_rfl) (by kernel_rfl) (fun _ _ _ h => h) (Or.inl ⟨by rfl, ?hy11⟩) (by assumption) ?rest11
                        case hy11 =>
                          intro W hSw
                          try dsimp only at hSw
                          go_simp
                          first | done | with_reducible rfl
                        try simp only [Act.put, List.setIfInBounds_toArray, List.set_cons_zero, List.set_cons_succ]
                        refine take_calm (i := 11) (v := ?v12) (by simp only [List.getElem?_toArray, List.getElem?_cons_succ, List.getElem?_cons_zero]; rfl) (by kernel_rfl) (by kernel_rfl) (by kernel_rfl) (fun _ _ _ h => h) (Or.inl ⟨by rfl, ?hy12⟩) (by assumption) ?rest12
                        case hy12 =>
                          intro W hSw
                          try dsimp only at hSw
                          go_simp
                          first | done | with_reducible rfl
                        try simp only [Act.put, List.setIfInBounds_toArray, List.set_cons_zero, List.set_cons_succ]
                        refine take_calm (i := 12) (v := ?v13) (by simp only [List.getElem?_toArray, List.getElem?_cons_succ, List.getElem?_cons_zero]; rfl) (by kernel_rfl) (by kernel_rfl) (by kernel_rfl) (fun _ _ _ h => h) (Or.inl ⟨by rfl, ?hy13⟩) (by assumption) ?rest13
                        case hy13 =>
                          intro W hSw
                          try dsimp only at hSw
                          go_simp
                          first | done | with_reducible rfl
                        try simp only [Act.put, List.setIfInBounds_toArray, List.set_cons_zero, List.set_cons_succ]
                        refine take_calm (i := 13) (v := ?v14) (by simp only [List.getElem?_toArray, List.getElem?_cons_succ, List.getElem?_cons_zero]; rfl) (by kernel_rfl) (by kernel_rfl) (by kernel_rfl) (fun _ _ _ h => h) (Or.inl ⟨by rfl, ?hy14⟩) (by assumption) ?rest14
                        case hy14 =>
                          intro W hSw
                          try dsimp only at hSw
                          go_simp
                          first | done | with_reducible rfl
                        try simp only [Act.put, List.setIfInBounds_toArray, List.set_cons_zero, List.set_cons_succ]
                        refine take_calm (i := 14) (v := (.int .u32 (notI re))) (by simp only [List.getElem?_toArray, List.getElem?_cons_succ, List.getElem?_cons_zero]; rfl) (by kernel_rfl) (by kernel_rfl) (by kernel_rfl) (fun _ _ _ h => h) (Or.inl ⟨by rfl, ?hy15⟩) (by assumption) ?rest15
                        case hy15 =>
                          intro W hSw
                          try dsimp only at hSw
                          go_simp
                          first | exact not_eq UU.out.2.1 | exact congrArg (Value.int IntKind.u32) (not_eq UU.out.2.1)
                        try simp only [Act.put, List.setIfInBounds_toArray, List.set_cons_zero, List.set_cons_succ]
                        refine take_calm (i := 15) (v := ?v16) (by simp only [List.getElem?_toArray, List.getElem?_cons_succ, List.getElem?_cons_zero]; rfl) (by kernel_rfl) (by kernel_rfl) (by kernel_rfl) (fun _ _ _ h => h) (Or.inl ⟨by rfl, ?hy16⟩) (by assumption) ?rest16
                        case hy16 =>
                          intro W hSw
                          try dsimp only at hSw
                          go_simp
                          first | done | with_reducible rfl
                        try simp only [Act.put, List.setIfInBounds_toArray, List.set_cons_zero, List.set_cons_succ]
                        refine take_calm (i := 16) (v := ?v17) (by simp only [List.getElem?_toArray, List.getElem?_cons_succ, List.getElem?_cons_zero]; rfl) (by kernel_rfl) (by kernel_rfl) (by kernel_rfl) (fun _ _ _ h => h) (Or.inl ⟨by rfl, ?hy17⟩) (by assumption) ?rest17
                        case hy17 =>
                          intro W hSw
                          try dsimp only at hSw
                          go_simp
                          first | done | with_reducible rfl
                        try simp only [Act.put, List.setIfInBounds_toArray, List.set_cons_zero, List.set_cons_succ]
                        refine take_calm (i := 17) (v := ?v18) (by simp only [List.getElem?_toArray, List.getElem?_cons_succ, List.getElem?_cons_zero]; rfl) (by kernel_rfl) (by kernel_rfl) (by kernel_rfl) (fun _ _ _ h => h) (Or.inl ⟨by rfl, ?hy18⟩) (by assumption) ?rest18
                        case hy18 =>
                          intro W hSw
                          try dsimp only at hSw
                          go_simp
                          first | done | with_reducible rfl
                        try simp only [Act.put, List.setIfInBounds_toArray, List.set_cons_zero, List.set_cons_succ]
                        refine take_calm (i := 18) (v := ?v19) (by simp only [List.getElem?_toArray, List.getElem?_cons_succ, List.getElem?_cons_zero]; rfl) (by kernel_rfl) (by kernel_rfl) (by kernel_rfl) (fun _ _ _ h => h) (Or.inl ⟨by rfl, ?hy19⟩) (by assumption) ?rest19
                        case hy19 =>
                          intro W hSw
                          try dsimp only at hSw
                          go_simp
                          first | done | with_reducible rfl
                        try simp only [Act.put, List.setIfInBounds_toArray, List.set_cons_zero, List.set_cons_succ]
                        refine take_calm (i := 19) (v := ?v20) (by simp only [List.getElem?_toArray, List.getElem?_cons_succ, List.getElem?_cons_zero]; rfl) (by kernel_rfl) (by kernel_rfl) (by kernel_rfl) (fun _ _ _ h => h) (Or.inl ⟨by rfl, ?hy20⟩) (by assumption) ?rest20
                        case hy20 =>
                          intro W hSw
                          try dsimp only at hSw
                          go_simp
                          first | done | with_reducible rfl
                        try simp only [Act.put, List.setIfInBounds_toArray, List.set_cons_zero, List.set_cons_succ]
                        refine take_calm (i := 20) (v := ?v21) (by simp only [List.getElem?_toArray, List.getElem?_cons_succ, List.getElem?_cons_zero]; rfl) (by kernel_rfl) (by kernel_rfl) (by kernel_rfl) (fun _ _ _ h => h) (Or.inl ⟨by rfl, ?hy21⟩) (by assumption) ?rest21
                        case hy21 =>
                          intro W hSw
                          try dsimp only at hSw
                          go_simp
                          first | done | with_reducible rfl
                        try simp only [Act.put, List.setIfInBounds_toArray, List.set_cons_zero, List.set_cons_succ]
                        refine take_calm (i := 21) (v := ?v22) (by simp only [List.getElem?_toArray, List.getElem?_cons_succ, List.getElem?_cons_zero]; rfl) (by kernel_rfl) (by kernel_rfl) (by kernel_rfl) (fun _ _ _ h => h) (Or.inl ⟨by rfl, ?hy22⟩) (by assumption) ?rest22
                        case hy22 =>
                          intro W hSw
                          try dsimp only at hSw
                          go_simp
                          first | done | with_reducible rfl
                        try simp only [Act.put, List.setIfInBounds_toArray, List.set_cons_zero, List.set_cons_succ]
                        refine take_calm (i := 22) (v := ?v23) (by simp only [List.getElem?_toArray, List.getElem?_cons_succ, List.getElem?_cons_zero]; rfl) (by kernel_rfl) (by kernel_rfl) (by kernel_rfl) (fun _ _ _ h => h) (Or.inl ⟨by rfl, ?hy23⟩) (by assumption) ?rest23
                        case hy23 =>
                          intro W hSw
                          try dsimp only at hSw
                          go_simp
                          first | done | with_reducible rfl
                        try simp only [Act.put, List.setIfInBounds_toArray, List.set_cons_zero, List.set_cons_succ]
                        refine take_calm (i := 23) (v := ?v24) (by simp only [List.getElem?_toArray, List.getElem?_cons_succ, List.getElem?_cons_zero]; rfl) (by kernel_rfl) (by kernel_rfl) (by kernel_rfl) (fun _ _ _ h => h) (Or.inl ⟨by rfl, ?hy24⟩) (by assumption) ?rest24
                        case hy24 =>
                          intro W hSw
                          try dsimp only at hSw
                          go_simp
                          first | done | with_reducible rfl
                        try simp only [Act.put, List.setIfInBounds_toArray, List.set_cons_zero, List.set_cons_succ]
                        refine take_calm (i := 24) (v := ?v25) (by simp only [List.getElem?_toArray, List.getElem?_cons_succ, List.getElem?_cons_zero]; rfl) (by kernel_rfl) (by kernel_rfl) (by kernel_rfl) (fun _ _ _ h => h) (Or.inl ⟨by rfl, ?hy25⟩) (by assumption) ?rest25
                        case hy25 =>
                          intro W hSw
                          try dsimp only at hSw
                          go_simp
                          first | done | with_reducible rfl
                        try simp only [Act.put, List.setIfInBounds_toArray, List.set_cons_zero, List.set_cons_succ]
                        refine take_calm (i := 25) (v := ?v26) (by simp only [List.getElem?_toArray, List.getElem?_cons_succ, List.getElem?_cons_zero]; rfl) (by kernel_rfl) (by kernel_rfl) (by kernel_rfl) (fun _ _ _ h => h) (Or.inl ⟨by rfl, ?hy26⟩) (by assumption) ?rest26
                        case hy26 =>
                          intro W hSw
                          try dsimp only at hSw
                          go_simp
                          first | done | with_reducible rfl
                        try simp only [Act.put, List.setIfInBounds_toArray, List.set_cons_zero, List.set_cons_succ]
                        refine take_calm (i := 26) (v := ?v27) (by simp only [List.getElem?_toArray, List.getElem?_cons_succ, List.getElem?_cons_zero]; rfl) (by kernel_rfl) (by kernel_rfl) (by kernel_rfl) (fun _ _ _ h => h) (Or.inl ⟨by rfl, ?hy27⟩) (by assumption) ?rest27
                        case hy27 =>
                          intro W hSw
                          try dsimp only at hSw
                          go_simp
                          first | done | with_reducible rfl
                        try simp only [Act.put, List.setIfInBounds_toArray, List.set_cons_zero, List.set_cons_succ]
                        refine take_calm (i := 27) (v := ?v28) (by simp only [List.getElem?_toArray, List.getElem?_cons_succ, List.getElem?_cons_zero]; rfl) (by kernel_rfl) (by kernel_rfl) (by kernel_rfl) (fun _ _ _ h => h) (Or.inl ⟨by rfl, ?hy28⟩) (by assumption) ?rest28
                        case hy28 =>
                          intro W hSw
                          try dsimp only at hSw
                          go_simp
                          first | done | with_reducible rfl
                        try simp only [Act.put, List.setIfInBounds_toArray, List.set_cons_zero, List.set_cons_succ]
                        refine take_calm (i := 28) (v := (.int .u32 X)) (by simp only [List.getElem?_toArray, List.getElem?_cons_succ, List.getElem?_cons_zero]; rfl) (by kernel_rfl) (by kernel_rfl) (by kernel_rfl) (fun _ _ _ h => h) (Or.inl ⟨by rfl, ?hy29⟩) (by assumption) ?rest29
                        case hy29 =>
                          intro W hSw
                          try dsimp only at hSw
                          go_simp
                          first | exact XF.out | exact congrArg (Value.int IntKind.u32) XF.out
                        try simp only [Act.put, List.setIfInBounds_toArray, List.set_cons_zero, List.set_cons_succ]
                        refine take_calm (i := 29) (v := ?v30) (by simp only [List.getElem?_toArray, List.getElem?_cons_succ, List.getElem?_cons_zero]; rfl) (by kernel_rfl) (by kernel_rfl) (by kernel_rfl) (fun _ _ _ h => h) (Or.inl ⟨by rfl, ?hy30⟩) (by assumption) ?rest30
                        case hy30 =>
                          intro W hSw
                          try dsimp only at hSw
                          go_simp
                          first | done | with_reducible rfl
                        try simp only [Act.put, List.setIfInBounds_toArray, List.set_cons_zero, List.set_cons_succ]
                        refine wpAnyH_done (by kernel_rfl) ?_ _
                        refine NoPanic.normal ?_
                        clear hHeld ck cw XF E6 E11 E25 T6 T11 T25
                        go_wp2_with (first
                          | (go_at_call 28; with_reducible refine (T2.out _).mono ?_; rintro e w' ⟨rfl, rfl⟩)
                          | (go_at_call 28; with_reducible refine (T13.out _).mono ?_; rintro e w' ⟨rfl, rfl⟩)
                          | (go_at_call 28; with_reducible refine (T22.out _).mono ?_; rintro e w' ⟨rfl, rfl⟩))
                        have hy := y_form (ra := ra) (rb := rb) (rc := rc) (rd := rd) (re := re) (rf := rf) (rg := rg) (rh := rh) E2.out E13.out E22.out UU.out.1.1 UU.out.1.2.1 UU.out.1.2.2
                        rw [IntKind.wrap_u32'] at hy
                        refine ⟨⟨t + 1, roundW ⟨ra, rb, rc, rd, re, rf, rg, rh⟩ kt wt, by omega, by go_num, hstep.out.symm, ?_, rfl, rfl, rfl, ?_, rfl, rfl, rfl, KR.out.drew⟩, by simp [intOf]; omega⟩
                        · rw [hy, HX.out]
                          rfl
                        · rw [HX.out]
                          rfl
                    · --BEG38
                      have e : t = 64 := by omega
                      subst e
                      have hst2 : Hid (stTo pl (m + 1) = addW R S0) := Lib.hid (by rw [hst.out, hR]; rfl)
                      clear hRu hst hR
                      have SA := Lib.hid (SCK.out wr.drew KR.out.drew)
                      have SB := Lib.hid (fun o => SCK.out (wr.alloc o).drew ((KR.out.alloc o).drew))
                      go_wp2_with fail
                      refine wp_region_noPanic ?_
                      refine wp_region_held_drew (S := fun W => W.cell? ⟨sg, soff, none⟩ = some (.int .u32 S0.a) ∧ W.cell? ⟨sg, soff + 1, none⟩ = some (.int .u32 S0.b) ∧ W.cell? ⟨sg, soff + 2, none⟩ = some (.int .u32 S0.c) ∧ W.cell? ⟨sg, soff + 3, none⟩ = some (.int .u32 S0.d) ∧ W.cell? ⟨sg, soff + 4, none⟩ = some (.int .u32 S0.e) ∧ W.cell? ⟨sg, soff + 5, none⟩ = some (.int .u32 S0.f) ∧ W.cell? ⟨sg, soff + 6, none⟩ = some (.int .u32 S0.g) ∧ W.cell? ⟨sg, soff + 7, none⟩ = some (.int .u32 S0.h)) (by kernel_rfl) ?_ (fun hHeld => ?_)
                      · exact SA.out
                      refine take_calm (i := 0) (v := ?v31) (by simp only [List.getElem?_toArray, List.getElem?_cons_zero]; rfl) (by kernel_rfl) (by kernel_rfl) (by kernel_rfl) (fun _ _ _ h => h) (Or.inl ⟨by rfl, ?hy31⟩) (by assumption) ?rest31
                      case hy31 =>
                        intro W hSw
                        try dsimp only at hSw
                        go_simp
                        first | done | with_reducible rfl
                      try simp only [Act.put, List.setIfInBounds_toArray, List.set_cons_zero, List.set_cons_succ]
                      refine take_calm (i := 1) (v := ?v32) (by simp only [List.getElem?_toArray, List.getElem?_cons_succ, List.getElem?_cons_zero]; rfl) (by kernel_rfl) (by kernel_rfl) (by kernel_rfl) (fun _ _ _ h => h) (Or.inl ⟨by rfl, ?hy32⟩) (by assumption) ?rest32
                      case hy32 =>
                        intro W hSw
                        try dsimp only at hSw
                        go_simp
                        first | done | with_reducible rfl
                      try simp only [Act.put, List.setIfInBounds_toArray, List.set_cons_zero, List.set_cons_succ]
                      refine take_calm (i := 2) (v := ?v33) (by simp only [List.getElem?_toArray, List.getElem?_cons_succ, List.getElem?_cons_zero]; rfl) (by kernel_rfl) (by kernel_rfl) (by kernel_rfl) (fun _ _ _ h => h) (Or.inl ⟨by rfl, ?hy33⟩) (by assumption) ?rest33
                      case hy33 =>
                        intro W hSw
                        try dsimp only at hSw
                        go_simp
                        first | done | with_reducible rfl
                      try simp only [Act.put, List.setIfInBounds_toArray, List.set_cons_zero, List.set_cons_succ]
                      refine take_calm (i := 3) (v := ?v34) (by simp only [List.getElem?_toArray, List.getElem?_cons_succ, List.getElem?_cons_zero]; rfl) (by kernel_rfl) (by kernel_rfl) (by kernel_rfl) (fun _ _ _ h => h) (Or.inl ⟨by rfl, ?hy34⟩) (by assumption) ?rest34
                      case hy34 =>
                        intro W hSw
                        try dsimp only at hSw
                        go_simp
                        first | done | with_reducible rfl
                      try simp only [Act.put, List.setIfInBounds_toArray, List.set_cons_zero, List.set_cons_succ]
                      refine take_calm (i := 4) (v := ?v35) (by simp only [List.getElem?_toArray, List.getElem?_cons_succ, List.getElem?_cons_zero]; rfl) (by kernel_rfl) (by kernel_rfl) (by kernel_rfl) (fun _ _ _ h => h) (Or.inl ⟨by rfl, ?hy35⟩) (by assumption) ?rest35
                      case hy35 =>
                        intro W hSw
                        try dsimp only at hSw
                        go_simp
                        first | done | with_reducible rfl
                      try simp only [Act.put, List.setIfInBounds_toArray, List.set_cons_zero, List.set_cons_succ]
                      refine take_calm (i := 5) (v := ?v36) (by simp only [List.getElem?_toArray, List.getElem?_cons_succ, List.getElem?_cons_zero]; rfl) (by kernel_rfl) (by kernel_rfl) (by kernel_rfl) (fun _ _ _ h => h) (Or.inl ⟨by rfl, ?hy36⟩) (by assumption) ?rest36
                      case hy36 =>
                        intro W hSw
                        try dsimp only at hSw
                        go_simp
                        first | done | with_reducible rfl
                      try simp only [Act.put, List.setIfInBounds_toArray, List.set_cons_zero, List.set_cons_succ]
                      refine take_calm (i := 6) (v := ?v37) (by simp only [List.getElem?_toArray, List.getElem?_cons_succ, List.getElem?_cons_zero]; rfl) (by kernel_rfl) (by kernel_rfl) (by kernel_rfl) (fun _ _ _ h => h) (Or.inl ⟨by rfl, ?hy37⟩) (by assumption) ?rest37
                      case hy37 =>
                        intro W hSw
                        try dsimp only at hSw
                        go_simp
                        first | done | with_reducible rfl
                      try simp only [Act.put, List.setIfInBounds_toArray, List.set_cons_zero, List.set_cons_succ]
                      refine take_calm (i := 7) (v := ?v38) (by simp only [List.getElem?_toArray, List.getElem?_cons_succ, List.getElem?_cons_zero]; rfl) (by kernel_rfl) (by kernel_rfl) (by kernel_rfl) (fun _ _ _ h => h) (Or.inl ⟨by rfl, ?hy38⟩) (by assumption) ?rest38
                      case hy38 =>
                        intro W hSw
                        try dsimp only at hSw
                        go_simp
                        first | done | with_reducible rfl
                      try simp only [Act.put, List.setIfInBounds_toArray, List.set_cons_zero, List.set_cons_succ]
                      refine take_calm (i := 8) (v := ?v39) (by simp only [List.getElem?_toArray, List.getElem?_cons_succ, List.getElem?_cons_zero]; rfl) (by kernel_rfl) (by kernel_rfl) (by kernel_rfl) (fun _ _ _ h => h) (Or.inl ⟨by rfl, ?hy39⟩) (by assumption) ?rest39
                      case hy39 =>
                        intro W hSw
                        try dsimp only at hSw
                        go_simp
                        first | done | with_reducible rfl
                      try simp only [Act.put, List.setIfInBounds_toArray, List.set_cons_zero, List.set_cons_succ]
                      refine take_calm (i := 9) (v := ?v40) (by simp only [List.getElem?_toArray, List.getElem?_cons_succ, List.getElem?_cons_zero]; rfl) (by kernel_rfl) (by kernel_rfl) (by kernel_rfl) (fun _ _ _ h => h) (Or.inl ⟨by rfl, ?hy40⟩) (by assumption) ?rest40
                      case hy40 =>
                        intro W hSw
                        try dsimp only at hSw
                        go_simp
                        first | done | with_reducible rfl
                      try simp only [Act.put, List.setIfInBounds_toArray, List.set_cons_zero, List.set_cons_succ]
                      refine take_calm (i := 10) (v := ?v41) (by simp only [List.getElem?_toArray, List.getElem?_cons_succ, List.getElem?_cons_zero]; rfl) (by kernel_rfl) (by kernel_rfl) (by kernel_rfl) (fun _ _ _ h => h) (Or.inl ⟨by rfl, ?hy41⟩) (by assumption) ?rest41
                      case hy41 =>
                        intro W hSw
                        try dsimp only at hSw
                        go_simp
                        first | done | with_reducible rfl
                      try simp only [Act.put, List.setIfInBounds_toArray, List.set_cons_zero, List.set_cons_succ]
                      refine take_calm (i := 11) (v := ?v42) (by simp only [List.getElem?_toArray, List.getElem?_cons_succ, List.getElem?_cons_zero]; rfl) (by kernel_rfl) (by kernel_rfl) (by kernel_rfl) (fun _ _ _ h => h) (Or.inl ⟨by rfl, ?hy42⟩) (by assumption) ?rest42
                      case hy42 =>
                        intro W hSw
                        try dsimp only at hSw
                        go_simp
                        first | done | with_reducible rfl
                      try simp only [Act.put, List.setIfInBounds_toArray, List.set_cons_zero, List.set_cons_succ]
                      refine take_calm (i := 12) (v := ?v43) (by simp only [List.getElem?_toArray, List.getElem?_cons_succ, List.getElem?_cons_zero]; rfl) (by kernel_rfl) (by kernel_rfl) (by kernel_rfl) (fun _ _ _ h => h) (Or.inl ⟨by rfl, ?hy43⟩) (by assumption) ?rest43
                      case hy43 =>
                        intro W hSw
                        try dsimp only at hSw
                        go_simp
                        first | done | with_reducible rfl
                      try simp only [Act.put, List.setIfInBounds_toArray, List.set_cons_zero, List.set_cons_succ]
                      refine take_calm (i := 13) (v := ?v44) (by simp only [List.getElem?_toArray, List.getElem?_cons_succ, List.getElem?_cons_zero]; rfl) (by kernel_rfl) (by kernel_rfl) (by kernel_rfl) (fun _ _ _ h => h) (Or.inl ⟨by rfl, ?hy44⟩) (by assumption) ?rest44
                      case hy44 =>
                        intro W hSw
                        try dsimp only at hSw
                        go_simp
                        first | done | with_reducible rfl
                      try simp only [Act.put, List.setIfInBounds_toArray, List.set_cons_zero, List.set_cons_succ]
                      refine take_calm (i := 14) (v := ?v45) (by simp only [List.getElem?_toArray, List.getElem?_cons_succ, List.getElem?_cons_zero]; rfl) (by kernel_rfl) (by kernel_rfl) (by kernel_rfl) (fun _ _ _ h => h) (Or.inl ⟨by rfl, ?hy45⟩) (by assumption) ?rest45
                      case hy45 =>
                        intro W hSw
                        try dsimp only at hSw
                        go_simp
                        first | done | with_reducible rfl
                      try simp only [Act.put, List.setIfInBounds_toArray, List.set_cons_zero, List.set_cons_succ]
                      refine take_calm (i := 15) (v := ?v46) (by simp only [List.getElem?_toArray, List.getElem?_cons_succ, List.getElem?_cons_zero]; rfl) (by kernel_rfl) (by kernel_rfl) (by kernel_rfl) (fun _ _ _ h => h) (Or.inl ⟨by rfl, ?hy46⟩) (by assumption) ?rest46
                      case hy46 =>
                        intro W hSw
                        try dsimp only at hSw
                        go_simp
                        first | done | with_reducible rfl
                      try simp only [Act.put, List.setIfInBounds_toArray, List.set_cons_zero, List.set_cons_succ]
                      refine take_calm (i := 16) (v := ?v47) (by simp only [List.getElem?_toArray, List.getElem?_cons_succ, List.getElem?_cons_zero]; rfl) (by kernel_rfl) (by kernel_rfl) (by kernel_rfl) (fun _ _ _ h => h) (Or.inl ⟨by rfl, ?hy47⟩) (by assumption) ?rest47
                      case hy47 =>
                        intro W hSw
                        try dsimp only at hSw
                        go_simp
                        first | done | with_reducible rfl
                      try simp only [Act.put, List.setIfInBounds_toArray, List.set_cons_zero, List.set_cons_succ]
                      refine take_calm (i := 17) (v := ?v48) (by simp only [List.getElem?_toArray, List.getElem?_cons_succ, List.getElem?_cons_zero]; rfl) (by kernel_rfl) (by kernel_rfl) (by kernel_rfl) (fun _ _ _ h => h) (Or.inl ⟨by rfl, ?hy48⟩) (by assumption) ?rest48
                      case hy48 =>
                        intro W hSw
                        try dsimp only at hSw
                        go_simp
                        first | done | with_reducible rfl
                      try simp only [Act.put, List.setIfInBounds_toArray, List.set_cons_zero, List.set_cons_succ]
                      refine take_calm (i := 18) (v := ?v49) (by simp only [List.getElem?_toArray, List.getElem?_cons_succ, List.getElem?_cons_zero]; rfl) (by kernel_rfl) (by kernel_rfl) (by kernel_rfl) (fun _ _ _ h => h) (Or.inl ⟨by rfl, ?hy49⟩) (by assumption) ?rest49
                      case hy49 =>
                        intro W hSw
                        try dsimp only at hSw
                        go_simp
                        first | done | with_reducible rfl
                      try simp only [Act.put, List.setIfInBounds_toArray, List.set_cons_zero, List.set_cons_succ]
                      refine take_calm (i := 19) (v := ?v50) (by simp only [List.getElem?_toArray, List.getElem?_cons_succ, List.getElem?_cons_zero]; rfl) (by kernel_rfl) (by kernel_rfl) (by kernel_rfl) (fun _ _ _ h => h) (Or.inl ⟨by rfl, ?hy50⟩) (by assumption) ?rest50
                      case hy50 =>
                        intro W hSw
                        try dsimp only at hSw
                        go_simp
                        first | done | with_reducible rfl
                      try simp only [Act.put, List.setIfInBounds_toArray, List.set_cons_zero, List.set_cons_succ]
                      refine take_calm (i := 20) (v := ?v51) (by simp only [List.getElem?_toArray, List.getElem?_cons_succ, List.getElem?_cons_zero]; rfl) (by kernel_rfl) (by kernel_rfl) (by kernel_rfl) (fun _ _ _ h => h) (Or.inl ⟨by rfl, ?hy51⟩) (by assumption) ?rest51
                      case hy51 =>
                        intro W hSw
                        try dsimp only at hSw
                        go_simp
                        first | done | with_reducible rfl
                      try simp only [Act.put, List.setIfInBounds_toArray, List.set_cons_zero, List.set_cons_succ]
                      refine take_calm (i := 21) (v := ?v52) (by simp only [List.getElem?_toArray, List.getElem?_cons_succ, List.getElem?_cons_zero]; rfl) (by kernel_rfl) (by kernel_rfl) (by kernel_rfl) (fun _ _ _ h => h) (Or.inl ⟨by rfl, ?hy52⟩) (by assumption) ?rest52
                      case hy52 =>
                        intro W hSw
                        try dsimp only at hSw
                        go_simp
                        first | done | with_reducible rfl
                      try simp only [Act.put, List.setIfInBounds_toArray, List.set_cons_zero, List.set_cons_succ]
                      refine take_calm (i := 22) (v := ?v53) (by simp only [List.getElem?_toArray, List.getElem?_cons_succ, List.getElem?_cons_zero]; rfl) (by kernel_rfl) (by kernel_rfl) (by kernel_rfl) (fun _ _ _ h => h) (Or.inl ⟨by rfl, ?hy53⟩) (by assumption) ?rest53
                      case hy53 =>
                        intro W hSw
                        try dsimp only at hSw
                        go_simp
                        first | done | with_reducible rfl
                      try simp only [Act.put, List.setIfInBounds_toArray, List.set_cons_zero, List.set_cons_succ]
                      refine take_calm (i := 23) (v := ?v54) (by simp only [List.getElem?_toArray, List.getElem?_cons_succ, List.getElem?_cons_zero]; rfl) (by kernel_rfl) (by kernel_rfl) (by kernel_rfl) (fun _ _ _ h => h) (Or.inl ⟨by rfl, ?hy54⟩) (by assumption) ?rest54
                      case hy54 =>
                        intro W hSw
                        try dsimp only at hSw
                        go_simp
                        first | done | with_reducible rfl
                      try simp only [Act.put, List.setIfInBounds_toArray, List.set_cons_zero, List.set_cons_succ]
                      refine take_calm (i := 24) (v := ?v55) (by simp only [List.getElem?_toArray, List.getElem?_cons_succ, List.getElem?_cons_zero]; rfl) (by kernel_rfl) (by kernel_rfl) (by kernel_rfl) (fun _ _ _ h => h) (Or.inl ⟨by rfl, ?hy55⟩) (by assumption) ?rest55
                      case hy55 =>
                        intro W hSw
                        try dsimp only at hSw
                        go_simp
                        first | done | with_reducible rfl
                      try simp only [Act.put, List.setIfInBounds_toArray, List.set_cons_zero, List.set_cons_succ]
                      refine take_calm (i := 25) (v := ?v56) (by simp only [List.getElem?_toArray, List.getElem?_cons_succ, List.getElem?_cons_zero]; rfl) (by kernel_rfl) (by kernel_rfl) (by kernel_rfl) (fun _ _ _ h => h) (Or.inl ⟨by rfl, ?hy56⟩) (by assumption) ?rest56
                      case hy56 =>
                        intro W hSw
                        try dsimp only at hSw
                        go_simp
                        first | done | with_reducible rfl
                      try simp only [Act.put, List.setIfInBounds_toArray, List.set_cons_zero, List.set_cons_succ]
                      refine take_calm (i := 26) (v := ?v57) (by simp only [List.getElem?_toArray, List.getElem?_cons_succ, List.getElem?_cons_zero]; rfl) (by kernel_rfl) (by kernel_rfl) (by kernel_rfl) (fun _ _ _ h => h) (Or.inl ⟨by rfl, ?hy57⟩) (by assumption) ?rest57
                      case hy57 =>
                        intro W hSw
                        try dsimp only at hSw
                        go_simp
                        first | done | with_reducible rfl
                      try simp only [Act.put, List.setIfInBounds_toArray, List.set_cons_zero, List.set_cons_succ]
                      refine take_calm (i := 27) (v := ?v58) (by simp only [List.getElem?_toArray, List.getElem?_cons_succ, List.getElem?_cons_zero]; rfl) (by kernel_rfl) (by kernel_rfl) (by kernel_rfl) (fun _ _ _ h => h) (Or.inl ⟨by rfl, ?hy58⟩) (by assumption) ?rest58
                      case hy58 =>
                        intro W hSw
                        try dsimp only at hSw
                        go_simp
                        first | done | with_reducible rfl
                      try simp only [Act.put, List.setIfInBounds_toArray, List.set_cons_zero, List.set_cons_succ]
                      refine take_calm (i := 28) (v := ?v59) (by simp only [List.getElem?_toArray, List.getElem?_cons_succ, List.getElem?_cons_zero]; rfl) (by kernel_rfl) (by kernel_rfl) (by kernel_rfl) (fun _ _ _ h => h) (Or.inl ⟨by rfl, ?hy59⟩) (by assumption) ?rest59
                      case hy59 =>
                        intro W hSw
                        try dsimp only at hSw
                        go_simp
                        first | done | with_reducible rfl
                      try simp only [Act.put, List.setIfInBounds_toArray, List.set_cons_zero, List.set_cons_succ]
                      refine take_calm (i := 29) (v := ?v60) (by simp only [List.getElem?_toArray, List.getElem?_cons_succ, List.getElem?_cons_zero]; rfl) (by kernel_rfl) (by kernel_rfl) (by kernel_rfl) (fun _ _ _ h => h) (Or.inl ⟨by rfl, ?hy60⟩) (by assumption) ?rest60
                      case hy60 =>
                        intro W hSw
                        try dsimp only at hSw
                        go_simp
                        first | done | with_reducible rfl
                      try simp only [Act.put, List.setIfInBounds_toArray, List.set_cons_zero, List.set_cons_succ]
                      refine take_calm (i := 30) (v := ?v61) (by simp only [List.getElem?_toArray, List.getElem?_cons_succ, List.getElem?_cons_zero]; rfl) (by kernel_rfl) (by kernel_rfl) (by kernel_rfl) (fun _ _ _ h => h) (Or.inl ⟨by rfl, ?hy61⟩) (by assumption) ?rest61
                      case hy61 =>
                        intro W hSw
                        try dsimp only at hSw
                        go_simp
                        first | done | with_reducible rfl
                      try simp only [Act.put, List.setIfInBounds_toArray, List.set_cons_zero, List.set_cons_succ]
                      refine take_calm (i := 31) (v := ?v62) (by simp only [List.getElem?_toArray, List.getElem?_cons_succ, List.getElem?_cons_zero]; rfl) (by kernel_rfl) (by kernel_rfl) (by kernel_rfl) (fun _ _ _ h => h) (Or.inl ⟨by rfl, ?hy62⟩) (by assumption) ?rest62
                      case hy62 =>
                        intro W hSw
                        try dsimp only at hSw
                        go_simp
                        first | done | with_reducible rfl
                      try simp only [Act.put, List.setIfInBounds_toArray, List.set_cons_zero, List.set_cons_succ]
                      refine take_calm (i := 32) (v := ?v63) (by simp only [List.getElem?_toArray, List.getElem?_cons_succ, List.getElem?_cons_zero]; rfl) (by kernel_rfl) (by kernel_rfl) (by kernel_rfl) (fun _ _ _ h => h) (Or.inl ⟨by rfl, ?hy63⟩) (by assumption) ?rest63
                      case hy63 =>
                        intro W hSw
                        try dsimp only at hSw
                        go_simp
                        first | done | with_reducible rfl
                      try simp only [Act.put, List.setIfInBounds_toArray, List.set_cons_zero, List.set_cons_succ]
                      refine take_calm (i := 33) (v := ?v64) (by simp only [List.getElem?_toArray, List.getElem?_cons_succ, List.getElem?_cons_zero]; rfl) (by kernel_rfl) (by kernel_rfl) (by kernel_rfl) (fun _ _ _ h => h) (Or.inl ⟨by rfl, ?hy64⟩) (by assumption) ?rest64
                      case hy64 =>
                        intro W hSw
                        try dsimp only at hSw
                        go_simp
                        first | done | with_reducible rfl
                      try simp only [Act.put, List.setIfInBounds_toArray, List.set_cons_zero, List.set_cons_succ]
                      refine take_calm (i := 34) (v := ?v65) (by simp only [List.getElem?_toArray, List.getElem?_cons_succ, List.getElem?_cons_zero]; rfl) (by kernel_rfl) (by kernel_rfl) (by kernel_rfl) (fun _ _ _ h => h) (Or.inl ⟨by rfl, ?hy65⟩) (by assumption) ?rest65
                      case hy65 =>
                        intro W hSw
                        try dsimp only at hSw
                        go_simp
                        first | done | with_reducible rfl
                      try simp only [Act.put, List.setIfInBounds_toArray, List.set_cons_zero, List.set_cons_succ]
                      refine take_calm (i := 35) (v := ?v66) (by simp only [List.getElem?_toArray, List.getElem?_cons_succ, List.getElem?_cons_zero]; rfl) (by kernel_rfl) (by kernel_rfl) (by kernel_rfl) (fun _ _ _ h => h) (Or.inl ⟨by rfl, ?hy66⟩) (by assumption) ?rest66
                      case hy66 =>
                        intro W hSw
                        try dsimp only at hSw
                        go_simp
                        first | done | with_reducible rfl
                      try simp only [Act.put, List.setIfInBounds_toArray, List.set_cons_zero, List.set_cons_succ]
                      refine take_calm (i := 36) (v := ?v67) (by simp only [List.getElem?_toArray, List.getElem?_cons_succ, List.getElem?_cons_zero]; rfl) (by kernel_rfl) (by kernel_rfl) (by kernel_rfl) (fun _ _ _ h => h) (Or.inl ⟨by rfl, ?hy67⟩) (by assumption) ?rest67
                      case hy67 =>
                        intro W hSw
                        try dsimp only at hSw
                        go_simp
                        first | done | with_reducible rfl
                      try simp only [Act.put, List.setIfInBounds_toArray, List.set_cons_zero, List.set_cons_succ]
                      refine take_calm (i := 37) (v := ?v68) (by simp only [List.getElem?_toArray, List.getElem?_cons_succ, List.getElem?_cons_zero]; rfl) (by kernel_rfl) (by kernel_rfl) (by kernel_rfl) (fun _ _ _ h => h) (Or.inl ⟨by rfl, ?hy68⟩) (by assumption) ?rest68
                      case hy68 =>
                        intro W hSw
                        try dsimp only at hSw
                        go_simp
                        first | done | with_reducible rfl
                      try simp only [Act.put, List.setIfInBounds_toArray, List.set_cons_zero, List.set_cons_succ]
                      refine take_calm (i := 38) (v := ?v69) (by simp only [List.getElem?_toArray, List.getElem?_cons_succ, List.getElem?_cons_zero]; rfl) (by kernel_rfl) (by kernel_rfl) (by kernel_rfl) (fun _ _ _ h => h) (Or.inl ⟨by rfl, ?hy69⟩) (by assumption) ?rest69
                      case hy69 =>
                        intro W hSw
                        try dsimp only at hSw
                        go_simp
                        first | done | with_reducible rfl
                      try simp only [Act.put, List.setIfInBounds_toArray, List.set_cons_zero, List.set_cons_succ]
                      refine take_calm (i := 39) (v := ?v70) (by simp only [List.getElem?_toArray, List.getElem?_cons_succ, List.getElem?_cons_zero]; rfl) (by kernel_rfl) (by kernel_rfl) (by kernel_rfl) (fun _ _ _ h => h) (Or.inl ⟨by rfl, ?hy70⟩) (by assumption) ?rest70
                      case hy70 =>
                        intro W hSw
                        try dsimp only at hSw
                        go_simp
                        first | done | with_reducible rfl
                      try simp only [Act.put, List.setIfInBounds_toArray, List.set_cons_zero, List.set_cons_succ]
                      refine wpAnyH_ready (rs := [40]) (by kernel_rfl) (by simp) ?_
                      refine AllReadyH.cons (by simp only [List.getElem?_toArray, List.getElem?_cons_succ, List.getElem?_cons_zero]; rfl) (fun K hK => ?_) AllReadyH.nil
                      go_simp
                      refine hK.out _ _ ?_ (fun hHeld2 => ?_)
                      · exact SB.out _
                      clear hK K
                      try simp only [Act.put, List.setIfInBounds_toArray, List.set_cons_zero, List.set_cons_succ]
                      refine take_calm (i := 41) (v := ?v71) (by simp only [List.getElem?_toArray, List.getElem?_cons_succ, List.getElem?_cons_zero]; rfl) (by kernel_rfl) (by kernel_rfl) (by kernel_rfl) (fun _ _ _ h => h) (Or.inl ⟨by rfl, ?hy71⟩) (by assumption) ?rest71
                      case hy71 =>
                        intro W hSw
                        try dsimp only at hSw
                        go_simp
                        first | done | with_reducible rfl
                      try simp only [Act.put, List.setIfInBounds_toArray, List.set_cons_zero, List.set_cons_succ]
                      refine wpAnyH_done (by kernel_rfl) ?_ _
                      refine NoPanic.normal ?_
                      clear hHeld hHeld2 SA SB SCK
                      go_wp2_with fail
                      refine ⟨⟨m + 1, q + 64, some ⟨wr.heap.size, 0, none⟩, 8, by omega, by have := HQ.out; omega, by go_num, rfl, ((KO.out.trans1 KR.out).alloc _).drew, ?_⟩, by simp [intOf]; omega⟩
                      rw [hst2.out, wl, ← sums_eq]
                      simp only [sums, IntKind.wrap_u32']
                      exact (rd_eight wr _ _ _ _ _ _ _ _ _).keepNon ((Keep.refl Non _).drew)
            · have e : m = blocks l := by omega
              subst e
              as_aux_lemma =>
                have hnlt : ¬ (q : Int) < (N : Int) := by have := HQ.out; omega
                obtain ⟨sg, soff, rfl, hn1, hsc⟩ := rd_at HS.out (by simp [wl, W8.cells])
                clear hn1
                have hsu := stTo_u32 pl (blocks l)
                rw [← HSHA.out] at hsc hsu
                obtain ⟨D, hD⟩ : ∃ D, D = shaS l := ⟨_, rfl⟩
                rw [← hD] at hsc hsu
                have HDE := Lib.hid hD
                clear hD
                have hcl : ∀ i, i < 8 → wr.cell? ⟨sg, soff + i, none⟩ = some (.int .u32 (D.at i)) := fun i hi => hsc i _ (wl_get D i hi)
                have hsg : Hid (sg < wr.heap.size) := Lib.hid (World.block_lt_of_cell? _ _ (hcl 0 (by omega)))
                have HCL := Lib.hid hcl
                have HSU := Lib.hid hsu
                have r4 := KP.out.at R3.out (fun e => e)
                have R4 := Lib.hid r4
                have KW := Lib.hid (K3.out.trans1 KP.out)
                have hwl : Hid (w.heap.size < wr.heap.size) := Lib.hid (lt_of_block r4)
                clear hsc hcl hsu HS HSHA hlt R3 K3 KP BC hbg r4
                go_wp2_with (refine wpList_store_row (P := Tryd.prog) rfl 34 (.tmp 28) (.tmp 284) rfl wr.heap.size #[.int .u8 0, .int .u8 0, .int .u8 0, .int .u8 0, .int .u8 0, .int .u8 0, .int .u8 0, .int .u8 0, .int .u8 0, .int .u8 0, .int .u8 0, .int .u8 0, .int .u8 0, .int .u8 0, .int .u8 0, .int .u8 0, .int .u8 0, .int .u8 0, .int .u8 0, .int .u8 0, .int .u8 0, .int .u8 0, .int .u8 0, .int .u8 0, .int .u8 0, .int .u8 0, .int .u8 0, .int .u8 0, .int .u8 0, .int .u8 0, .int .u8 0, .int .u8 0] rfl rfl 34 #[.int .u8 0, .int .u8 0, .int .u8 0, .int .u8 0, .int .u8 0, .int .u8 0, .int .u8 0, .int .u8 0, .int .u8 0, .int .u8 0, .int .u8 0, .int .u8 0, .int .u8 0, .int .u8 0, .int .u8 0, .int .u8 0, .int .u8 0, .int .u8 0, .int .u8 0, .int .u8 0, .int .u8 0, .int .u8 0, .int .u8 0, .int .u8 0, .int .u8 0, .int .u8 0, .int .u8 0, .int .u8 0, .int .u8 0, .int .u8 0, .int .u8 0, .int .u8 0] (blk_new _ _) rfl rfl (digC_one first8 0) ?_)
                have kz : Keep Non wr ((wr.alloc (.cells #[.int .u8 0, .int .u8 0, .int .u8 0, .int .u8 0, .int .u8 0, .int .u8 0, .int .u8 0, .int .u8 0, .int .u8 0, .int .u8 0, .int .u8 0, .int .u8 0, .int .u8 0, .int .u8 0, .int .u8 0, .int .u8 0, .int .u8 0, .int .u8 0, .int .u8 0, .int .u8 0, .int .u8 0, .int .u8 0, .int .u8 0, .int .u8 0, .int .u8 0, .int .u8 0, .int .u8 0, .int .u8 0, .int .u8 0, .int .u8 0, .int .u8 0, .int .u8 0] 34)).setRow wr.heap.size #[.int .u8 0, .int .u8 0, .int .u8 0, .int .u8 0, .int .u8 0, .int .u8 0, .int .u8 0, .int .u8 0, .int .u8 0, .int .u8 0, .int .u8 0, .int .u8 0, .int .u8 0, .int .u8 0, .int .u8 0, .int .u8 0, .int .u8 0, .int .u8 0, .int .u8 0, .int .u8 0, .int .u8 0, .int .u8 0, .int .u8 0, .int .u8 0, .int .u8 0, .int .u8 0, .int .u8 0, .int .u8 0, .int .u8 0, .int .u8 0, .int .u8 0, .int .u8 0]) := ((Keep.refl _ _).alloc _).setRow (.inr (Nat.le_refl _)) _
                have dz : ((wr.alloc (.cells #[.int .u8 0, .int .u8 0, .int .u8 0, .int .u8 0, .int .u8 0, .int .u8 0, .int .u8 0, .int .u8 0, .int .u8 0, .int .u8 0, .int .u8 0, .int .u8 0, .int .u8 0, .int .u8 0, .int .u8 0, .int .u8 0, .int .u8 0, .int .u8 0, .int .u8 0, .int .u8 0, .int .u8 0, .int .u8 0, .int .u8 0, .int .u8 0, .int .u8 0, .int .u8 0, .int .u8 0, .int .u8 0, .int .u8 0, .int .u8 0, .int .u8 0, .int .u8 0] 34)).setRow wr.heap.size #[.int .u8 0, .int .u8 0, .int .u8 0, .int .u8 0, .int .u8 0, .int .u8 0, .int .u8 0, .int .u8 0, .int .u8 0, .int .u8 0, .int .u8 0, .int .u8 0, .int .u8 0, .int .u8 0, .int .u8 0, .int .u8 0, .int .u8 0, .int .u8 0, .int .u8 0, .int .u8 0, .int .u8 0, .int .u8 0, .int .u8 0, .int .u8 0, .int .u8 0, .int .u8 0, .int .u8 0, .int .u8 0, .int .u8 0, .int .u8 0, .int .u8 0, .int .u8 0]).heap[wr.heap.size]? = some (.cells (digC D 0) 34 (0, 0)) := setRow_heap _ _ _ (digC D 0) _ _ (blk_new _ _)
                have KZ := Lib.hid kz
                have DZ := Lib.hid dz
                clear kz dz
                generalize (wr.alloc (.cells #[.int .u8 0, .int .u8 0, .int .u8 0, .int .u8 0, .int .u8 0, .int .u8 0, .int .u8 0, .int .u8 0, .int .u8 0, .int .u8 0, .int .u8 0, .int .u8 0, .int .u8 0, .int .u8 0, .int .u8 0, .int .u8 0, .int .u8 0, .int .u8 0, .int .u8 0, .int .u8 0, .int .u8 0, .int .u8 0, .int .u8 0, .int .u8 0, .int .u8 0, .int .u8 0, .int .u8 0, .int .u8 0, .int .u8 0, .int .u8 0, .int .u8 0, .int .u8 0] 34)).setRow wr.heap.size #[.int .u8 0, .int .u8 0, .int .u8 0, .int .u8 0, .int .u8 0, .int .u8 0, .int .u8 0, .int .u8 0, .int .u8 0, .int .u8 0, .int .u8 0, .int .u8 0, .int .u8 0, .int .u8 0, .int .u8 0, .int .u8 0, .int .u8 0, .int .u8 0, .int .u8 0, .int .u8 0, .int .u8 0, .int .u8 0, .int .u8 0, .int .u8 0, .int .u8 0, .int .u8 0, .int .u8 0, .int .u8 0, .int .u8 0, .int .u8 0, .int .u8 0, .int .u8 0] = wz at KZ DZ ⊢
                obtain ⟨wb, rfl⟩ : ∃ wb : World, wb = wr := ⟨_, rfl⟩
                go_wp2_with fail
                go_loopw [29] (fun i wq => ∃ n : Nat, n ≤ 32 ∧ i = .int .i64 n ∧ Keep Non wb wq ∧ wq.heap[wb.heap.size]? = some (.cells (digC D n) 34 (0, 0))) (fun i _ => 32 - (intOf i).toNat)
                case atStart => exact ⟨0, by omega, rfl, KZ.out, DZ.out⟩
                case round =>
                  clear KZ DZ
                  obtain ⟨n, hn, rfl, kq, dq⟩ := hrel
                  have KQ := Lib.hid kq
                  have DQ := Lib.hid dq
                  clear kq dq
                  by_cases h32 : n < 32
                  · have h32i : (n : Int) < 32 := by omega
                    have hy := (World.cell?_of_block (KQ.out.block sg hsg.out (fun e => e))).trans (HCL.out (n / 4) (by omega))
                    have hc := cell_of_row _ _ n _ _ _ DQ.out
                    rw [digC_get _ _ _ h32, if_neg (Nat.lt_irrefl n)] at hc
                    have hf := frozen_of_row wr wb.heap.size n _ _ DQ.out
                    have DS : Hid (∀ x : Int, x = D.at (n / 4) / 2 ^ (24 - 8 * (n % 4)) % 256 → (wr.setCell ⟨wb.heap.size, n, none⟩ (.int .u8 x)).heap[wb.heap.size]? = some (.cells (digC D (n + 1)) 34 (0, 0))) := Lib.hid fun x hx => by
                      subst hx
                      rw [← digC_set D n h32]
                      exact blk_set DQ.out _ _
                    have hyu := W8.at_u32 HSU.out (n / 4)
                    obtain ⟨hy0, hy1⟩ := hyu
                    generalize D.at (n / 4) = y at hy DS hy0 hy1
                    have p4 : ((n : Int) / 4).toNat = n / 4 := by omega
                    have q4 : 0 ≤ (n : Int) / 4 ∧ (n : Int) / 4 < 8 := by omega
                    have hsh : (0 : Int) ≤ 24 - 8 * ((n : Int) % 4) := by omega
                    have hsh2 : 24 - 8 * ((n : Int) % 4) < 64 := by omega
                    have p5 : (24 - 8 * ((n : Int) % 4)).toNat = 24 - 8 * (n % 4) := by omega
                    go_wp2_with fail
                    exact ⟨⟨n + 1, by omega, by go_num, KQ.out.setNew (Nat.le_refl _) _ _, DS.out _ rfl⟩, by simp [intOf]; omega⟩
                  · have e : n = 32 := by omega
                    subst e
                    rw [show ((32 : Nat) : Int) = 32 from rfl]
                    have hold := KQ.out.at R4.out (fun e => e)
                    go_wp2_with fail
                    have hl := row_load (P := Tryd.prog) wr wb.heap.size 34 _ (0, 0) 32 DQ.out (digC_size _ _)
                    simp only [oA34, oS34, Result.andThen, ↓reduceIte, hl]
                    rw [Oper.upon_value]
                    clear hl
                    go_wp2_with fail
                    have hst := row_store (P := Tryd.prog) wr w.heap.size 34 _ (digC D 32) hold (by rw [digC_size]; rfl) (by rw [digC_size]; exact OS.out) (digC_one _ _)
                    simp only [oS34, Result.andThen, ↓reduceIte, hst, digC_size]
                    rw [Oper.upon_skip]
                    clear hst
                    go_wp2_with fail
                    refine bodyPost_ret (v := .agg (digC D 32)) (results_cell_row (P := Tryd.prog) Tryd.results11 _ _ w.heap.size 34 (digC D 32) (0, 0) _ rfl (setRow_heap _ _ _ _ _ _ hold) Tryd.underlying34 rfl (by rw [digC_size]; rfl)) rfl ?_
                    exact ⟨by rw [digC_arr, HDE.out], (KW.out.trans1 KQ.out).setRow (.inr (Nat.le_refl _)) _⟩
end

end Go.Proofs.YtcjjhgecmnfmdaaDoor
