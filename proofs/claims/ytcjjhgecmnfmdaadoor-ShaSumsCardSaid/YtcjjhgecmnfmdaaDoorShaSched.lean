/- The words of a block: 'schedule', walked. -/
import Derived.Test.YtcjjhgecmnfmdaaDoorShaOps
import Derived.Test.YtcjjhgecmnfmdaaDoorBase
import Derived.Test.YtcjjhgecmnfmdaaDoorRowAt
import Derived.Deep.RegionHeld3
import Derived.Deep.QuietTactic
import Derived.BigQuiet
namespace Go.Proofs.YtcjjhgecmnfmdaaDoor
open Go.RowKit
set_option linter.unusedVariables false

/-- A byte of a text. -/
def byI (b : List UInt8) (j : Nat) : Int := ((b.getD j 0).toNat : Int)
/-- A word out of four bytes. -/
def beI (b : List UInt8) (t : Nat) : Int := orI (orI (orI (byI b (4 * t) * 16777216) (byI b (4 * t + 1) * 65536)) (byI b (4 * t + 2) * 256)) (byI b (4 * t + 3))
def sg0 (x : Int) : Int := xorI (xorI (rotI x 7) (rotI x 18)) (x / 8)
def sg1 (x : Int) : Int := xorI (xorI (rotI x 17) (rotI x 19)) (x / 1024)
def nextW (a b c d : Int) : Int := w32 (w32 (w32 (a + b) + sg0 c) + sg1 d)
/-- The words, as many as there are by then. -/
def schedTo (b : List UInt8) : Nat → List Int
  | 0 => []
  | t + 1 => schedTo b t ++ [if t < 16 then beI b t else nextW ((schedTo b t).getD (t - 16) 0) ((schedTo b t).getD (t - 7) 0) ((schedTo b t).getD (t - 15) 0) ((schedTo b t).getD (t - 2) 0)]
def schedW (b : List UInt8) (i : Nat) : Int := (schedTo b (i + 1)).getD i 0

theorem sched_len (b : List UInt8) : ∀ t, (schedTo b t).length = t
  | 0 => rfl
  | t + 1 => by simp [schedTo, sched_len b t]
theorem sched_get (b : List UInt8) (i : Nat) : ∀ t, i < t → (schedTo b t).getD i 0 = schedW b i
  | 0, h => by omega
  | t + 1, h => by
    by_cases e : i = t
    · subst e
      rfl
    · have h' : i < t := by omega
      rw [← sched_get b i t h']
      simp only [schedTo, List.getD_eq_getElem?_getD]
      rw [List.getElem?_append_left (by rw [sched_len]; exact h')]
theorem schedW_lt {b : List UInt8} {t : Nat} (h : t < 16) : schedW b t = beI b t := by
  unfold schedW
  simp only [schedTo, if_pos h, List.getD_eq_getElem?_getD]
  rw [List.getElem?_append_right (by rw [sched_len]; omega), sched_len]
  simp
theorem schedW_ge {b : List UInt8} {t : Nat} (h : ¬ t < 16) : schedW b t = nextW (schedW b (t - 16)) (schedW b (t - 7)) (schedW b (t - 15)) (schedW b (t - 2)) := by
  rw [← sched_get b (t - 16) t (by omega), ← sched_get b (t - 7) t (by omega), ← sched_get b (t - 15) t (by omega), ← sched_get b (t - 2) t (by omega)]
  conv => lhs; unfold schedW
  simp only [schedTo, if_neg h, List.getD_eq_getElem?_getD]
  rw [List.getElem?_append_right (by rw [sched_len]; omega), sched_len]
  simp
theorem byI_bd (b : List UInt8) (j : Nat) : 0 ≤ byI b j ∧ byI b j ≤ 255 := by
  unfold byI
  have := (b.getD j 0).toNat_lt
  omega
theorem schedW_u32 (b : List UInt8) (t : Nat) : U32 (schedW b t) := by
  by_cases h : t < 16
  · rw [schedW_lt h]
    exact u32_or _ _
  · rw [schedW_ge h]
    exact u32_w _

/-- The words' array in memory, as far as it is laid. -/
def SchB (w : World) (g : Nat) (b : List UInt8) (t : Nat) : Prop := ∃ cs : Array Value, cs.size = 64 ∧ w.heap[g]? = some (.cells cs 66 (0, 0)) ∧ ∀ i, i < t → cs[i]? = some (.int .u32 (schedW b i))

/-- A text's bytes in memory. -/
def Byt (w : World) (g off n : Nat) (b : List UInt8) : Prop := ∀ j, j < n → w.cell? ⟨g, off + j, none⟩ = some (.int .u8 (byI b j))

/-- A block of 64 words, whatever they are. -/
def Row64 (w : World) (g : Nat) : Prop := ∃ cs : Array Value, cs.size = 64 ∧ w.heap[g]? = some (.cells cs 66 (0, 0))

theorem SchB.cell {w : World} {g : Nat} {b : List UInt8} {t i : Nat} (h : SchB w g b t) (hi : i < t) : w.cell? ⟨g, i, none⟩ = some (.int .u32 (schedW b i)) := by
  obtain ⟨cs, _, h2, h3⟩ := h
  have := h3 i hi
  simp [World.cell?, h2, this]
theorem SchB.frozen {w : World} {g : Nat} {b : List UInt8} {t : Nat} (h : SchB w g b t) (i : Nat) : w.frozen? ⟨g, i, none⟩ = false := by
  obtain ⟨cs, _, h2, h3⟩ := h
  simp [World.frozen?, h2]
theorem SchB.has {w : World} {g : Nat} {b : List UInt8} {t i : Nat} (h : SchB w g b t) (hi : i < 64) : ∃ v, w.cell? ⟨g, i, none⟩ = some v := by
  obtain ⟨cs, h1, h2, h3⟩ := h
  exact ⟨cs[i], by simp [World.cell?, h2, show i < cs.size by omega]⟩
theorem SchB.set {w : World} {g : Nat} {b : List UInt8} {t : Nat} (h : SchB w g b t) (ht : t < 64) {x : Int} (hx : x = schedW b t) : SchB (w.setCell ⟨g, t, none⟩ (.int .u32 x)) g b (t + 1) := by
  obtain ⟨cs, h1, h2, h3⟩ := h
  subst hx
  refine ⟨cs.setIfInBounds t _, by simpa using h1, blk_set h2 t _, fun i hi => ?_⟩
  rw [Array.getElem?_setIfInBounds]
  by_cases e : t = i
  · subst e
    simp [show t < cs.size by omega]
  · rw [if_neg e]
    exact h3 i (by omega)
theorem SchB.keep {S : Nat → Prop} {w w' : World} {g : Nat} {b : List UInt8} {t : Nat} (h : SchB w g b t) (k : Keep S w w') (hn : ¬ S g) : SchB w' g b t := by
  obtain ⟨cs, h1, h2, h3⟩ := h
  exact ⟨cs, h1, k.at h2 hn, h3⟩
theorem Row64.keep {S : Nat → Prop} {w w' : World} {g : Nat} (h : Row64 w g) (k : Keep S w w') (hn : ¬ S g) : Row64 w' g := by
  obtain ⟨cs, h1, h2⟩ := h
  exact ⟨cs, h1, k.at h2 hn⟩

theorem SchB.start {w : World} {g : Nat} {cs : Array Value} (b : List UInt8) (h : w.heap[g]? = some (.cells cs 66 (0, 0))) (hs : cs.size = 64) : SchB w g b 0 := ⟨cs, hs, h, fun i hi => absurd hi (by omega)⟩
theorem Row64.start {w : World} {g : Nat} {cs : Array Value} (h : w.heap[g]? = some (.cells cs 66 (0, 0))) (hs : cs.size = 64) : Row64 w g := ⟨cs, hs, h⟩

section
attribute [local simp high] hA66 hS66
set_option maxRecDepth 100000 in
set_option maxHeartbeats 3200000 in
theorem sched_any (g off cap : Nat) (b : List UInt8) (w : World) (hb : Byt w g off 64 b) (hcap : 64 ≤ cap) (hcm : cap ≤ 9223372036854775807) :
    Calls Tryd.prog 32 #[.slice (some ⟨g, off, none⟩) 64 cap] w fun e w' => ∃ ws : Array Value, e = .returned (.agg ws) ∧ ws.size = 64 ∧ (∀ i, i < 64 → ws[i]? = some (.int .u32 (schedW b i))) ∧ Keep Non w w' := by
  have HB := Lib.hid hb
  have hgl : g < w.heap.size := World.block_lt_of_cell? _ _ (hb 0 (by omega))
  clear hb
  go_enter Tryd.func32, Tryd.ntmps32
  go_wp2_with fail
  go_loopw [7] (fun i wr => ∃ t : Nat, t ≤ 64 ∧ i = .int .i64 t ∧ Keep Non w wr ∧ SchB wr (w.heap.size + 1) b t ∧ Row64 wr w.heap.size) (fun i _ => 64 - (intOf i).toNat)
  case atStart =>
    refine ⟨0, by omega, rfl, ((Keep.refl _ _).alloc _).alloc _, SchB.start b (World.size_alloc w _ ▸ blk_new _ _) rfl, Row64.start (blk_alloc (blk_new _ _) _) rfl⟩
  case round =>
    obtain ⟨t, ht, rfl, kp, hs, hr⟩ := hrel
    have KP := Lib.hid kp
    have HS := Lib.hid hs
    have HR := Lib.hid hr
    clear kp hs hr
    by_cases h64 : t < 64
    · obtain ⟨v0, hv0⟩ := HS.out.has h64
      have f0 := HS.out.frozen t
      by_cases h16 : t < 16
      · have hby : ∀ j, j < 64 → wr.cell? ⟨g, off + j, none⟩ = some (.int .u8 (byI b j)) := fun j hj => (World.cell?_of_block (KP.out.block g hgl (fun e => e))).trans (HB.out j hj)
        have b0 := hby (4 * t) (by omega)
        have b1 := hby (4 * t + 1) (by omega)
        have b2 := hby (4 * t + 2) (by omega)
        have b3 := hby (4 * t + 3) (by omega)
        obtain ⟨l0, u0⟩ := byI_bd b (4 * t)
        obtain ⟨l1, u1⟩ := byI_bd b (4 * t + 1)
        obtain ⟨l2, u2⟩ := byI_bd b (4 * t + 2)
        obtain ⟨l3, u3⟩ := byI_bd b (4 * t + 3)
        have w0 : IntKind.i64.wrap (4 * (t : Int)) = 4 * (t : Int) := by rw [IntKind.wrap_i64]; omega
        have w1 : IntKind.i64.wrap (4 * (t : Int) + 1) = 4 * (t : Int) + 1 := by rw [IntKind.wrap_i64]; omega
        have w2 : IntKind.i64.wrap (4 * (t : Int) + 2) = 4 * (t : Int) + 2 := by rw [IntKind.wrap_i64]; omega
        have w3 : IntKind.i64.wrap (4 * (t : Int) + 3) = 4 * (t : Int) + 3 := by rw [IntKind.wrap_i64]; omega
        have p0 : (4 * (t : Int)).toNat = 4 * t := by omega
        have p1 : (4 * (t : Int) + 1).toNat = 4 * t + 1 := by omega
        have p2 : (4 * (t : Int) + 2).toNat = 4 * t + 2 := by omega
        have p3 : (4 * (t : Int) + 3).toNat = 4 * t + 3 := by omega
        have q0 : 0 ≤ 4 * (t : Int) ∧ 4 * (t : Int) < 64 := by omega
        have q1 : 0 ≤ 4 * (t : Int) + 1 ∧ 4 * (t : Int) + 1 < 64 := by omega
        have q2 : 0 ≤ 4 * (t : Int) + 2 ∧ 4 * (t : Int) + 2 < 64 := by omega
        have q3 : 0 ≤ 4 * (t : Int) + 3 ∧ 4 * (t : Int) + 3 < 64 := by omega
        have ht16 : (t : Int) < 16 := by omega
        have ht64 : (t : Int) < 64 := by omega
        have hgn : g ≠ w.heap.size + 1 := by omega
        clear hby
        go_wp2_with fail
        have HV : Hid (∀ v : Value, (wr.setCell ⟨w.heap.size + 1, t, none⟩ v).drew.cell? ⟨g, off + 4 * t, none⟩ = some (.int .u8 (byI b (4 * t))) ∧ (wr.setCell ⟨w.heap.size + 1, t, none⟩ v).drew.cell? ⟨g, off + (4 * t + 1), none⟩ = some (.int .u8 (byI b (4 * t + 1))) ∧ (wr.setCell ⟨w.heap.size + 1, t, none⟩ v).drew.cell? ⟨g, off + (4 * t + 2), none⟩ = some (.int .u8 (byI b (4 * t + 2))) ∧ (wr.setCell ⟨w.heap.size + 1, t, none⟩ v).drew.cell? ⟨g, off + (4 * t + 3), none⟩ = some (.int .u8 (byI b (4 * t + 3)))) := Lib.hid (fun v => by
          refine ⟨(World.cell?_setCell_other _ _ _ _ ?_).trans b0, (World.cell?_setCell_other _ _ _ _ ?_).trans b1, (World.cell?_setCell_other _ _ _ _ ?_).trans b2, (World.cell?_setCell_other _ _ _ _ ?_).trans b3⟩ <;> (intro e; injection e; omega))
        go_region_held3 (fun W => W.cell? ⟨g, off + 4 * t, none⟩ = some (.int .u8 (byI b (4 * t))) ∧ W.cell? ⟨g, off + (4 * t + 1), none⟩ = some (.int .u8 (byI b (4 * t + 1))) ∧ W.cell? ⟨g, off + (4 * t + 2), none⟩ = some (.int .u8 (byI b (4 * t + 2))) ∧ W.cell? ⟨g, off + (4 * t + 3), none⟩ = some (.int .u8 (byI b (4 * t + 3))))
          (first | with_reducible exact ⟨b0, b1, b2, b3⟩ | with_reducible exact HV.out _ | go_keep)
          (first | fail)
        go_wp2_with fail
        go_roundw
        case rel =>
          refine ⟨t + 1, by omega, by go_num, (KP.out.setNew (by omega) _ _).drewN _, (HS.out.set h64 ?_).keep (Keep.drewN (Keep.refl (fun _ => False) _) _) (fun e => e), HR.out.keep ((Keep.setCell (S := One (w.heap.size + 1)) (Keep.refl _ _) (.inl (one_self _)) _).drewN _) (fun e => by unfold One at e; omega)⟩
          rw [schedW_lt h16]
          rfl
        case measure => simp [intOf]; omega
      · have ht16 : ¬ ((t : Int) < 16) := by omega
        have ht64 : (t : Int) < 64 := by omega
        have hn : Hid (∀ i, i < t → wr.cell? ⟨w.heap.size + 1, i, none⟩ = some (.int .u32 (schedW b i))) := Lib.hid (fun i hi => HS.out.cell hi)
        have c15 := hn.out (t - 15) (by omega)
        have c2 := hn.out (t - 2) (by omega)
        have c16 := hn.out (t - 16) (by omega)
        have c7 := hn.out (t - 7) (by omega)
        have w15 : IntKind.i64.wrap ((t : Int) - 15) = (t : Int) - 15 := by rw [IntKind.wrap_i64]; omega
        have w2 : IntKind.i64.wrap ((t : Int) - 2) = (t : Int) - 2 := by rw [IntKind.wrap_i64]; omega
        have w16 : IntKind.i64.wrap ((t : Int) - 16) = (t : Int) - 16 := by rw [IntKind.wrap_i64]; omega
        have w7 : IntKind.i64.wrap ((t : Int) - 7) = (t : Int) - 7 := by rw [IntKind.wrap_i64]; omega
        have p15 : ((t : Int) - 15).toNat = t - 15 := by omega
        have p2 : ((t : Int) - 2).toNat = t - 2 := by omega
        have p16 : ((t : Int) - 16).toNat = t - 16 := by omega
        have p7 : ((t : Int) - 7).toNat = t - 7 := by omega
        have q15 : 0 ≤ (t : Int) - 15 ∧ (t : Int) - 15 < 64 := by omega
        have q2 : 0 ≤ (t : Int) - 2 ∧ (t : Int) - 2 < 64 := by omega
        have q16 : 0 ≤ (t : Int) - 16 ∧ (t : Int) - 16 < 64 := by omega
        have q7 : 0 ≤ (t : Int) - 7 ∧ (t : Int) - 7 < 64 := by omega
        have r7 : (7 : Int) ≤ (t : Int) := by omega
        have r7' : (t : Int) - 7 < 64 := by omega
        have r16' : (t : Int) - 16 < 64 := by omega
        have s15 := schedW_u32 b (t - 15)
        have s2 := schedW_u32 b (t - 2)
        go_wp2_with fail
        go_quiet (fail)
        have kpq := KP.out.drewN nq
        have hsq : SchB (wr.drewN nq) (w.heap.size + 1) b t := HS.out.keep ((Keep.refl Non _).drewN nq) (fun e => e)
        have hrq : Row64 (wr.drewN nq) w.heap.size := HR.out.keep ((Keep.refl Non _).drewN nq) (fun e => e)
        revert kpq hsq hrq
        clear hn c15 c2 c16 c7 f0 hv0 HR HS KP
        clear v0
        generalize wr.drewN nq = wq
        intro kpq hsq hrq
        have KP := Lib.hid kpq
        have HS := Lib.hid hsq
        have HR := Lib.hid hrq
        clear kpq hsq hrq
        have ST : Hid (schedW b t = nextW (schedW b (t - 16)) (schedW b (t - 7)) (schedW b (t - 15)) (schedW b (t - 2))) := Lib.hid (schedW_ge h16)
        have s16 := schedW_u32 b (t - 16)
        have s7 := schedW_u32 b (t - 7)
        have c16 := HS.out.cell (i := t - 16) (by omega)
        have c7 := HS.out.cell (i := t - 7) (by omega)
        have f0 := HS.out.frozen t
        obtain ⟨v0, hv0⟩ := HS.out.has h64
        have HT : Hid (t < 64 ∧ 16 ≤ t ∧ g < w.heap.size) := Lib.hid ⟨h64, by omega, hgl⟩
        clear w15 w2 p15 p2 q15 q2 h16 hgl hcap hcm HB
        revert ST s16 s7 s15 s2 c16 c7
        generalize schedW b (t - 16) = x16
        generalize schedW b (t - 15) = x15
        generalize schedW b (t - 7) = x7
        generalize schedW b (t - 2) = x2
        intro s15 s2 ST s16 s7 c16 c7
        have SD : Hid (∀ v : Value, (wq.setCell ⟨w.heap.size + 1, t, none⟩ v).drew.cell? ⟨w.heap.size + 1, t - 16, none⟩ = some (.int .u32 x16) ∧ (wq.setCell ⟨w.heap.size + 1, t, none⟩ v).drew.cell? ⟨w.heap.size + 1, t - 7, none⟩ = some (.int .u32 x7)) := Lib.hid (fun v => by
          have := HT.out
          refine ⟨(World.cell?_setCell_other _ _ _ _ ?_).trans c16, (World.cell?_setCell_other _ _ _ _ ?_).trans c7⟩ <;> (intro e; injection e; omega))
        have SA : Hid (wq.drew.cell? ⟨w.heap.size + 1, t - 16, none⟩ = some (.int .u32 x16) ∧ wq.drew.cell? ⟨w.heap.size + 1, t - 7, none⟩ = some (.int .u32 x7)) := Lib.hid ⟨c16, c7⟩
        have S15 : Hid (U32 x15) := Lib.hid s15
        have S2 : Hid (U32 x2) := Lib.hid s2
        clear s16 s7 s15 s2
        go_wp2_with fail
        go_region_held3 (fun W => W.cell? ⟨w.heap.size + 1, t - 16, none⟩ = some (.int .u32 x16) ∧ W.cell? ⟨w.heap.size + 1, t - 7, none⟩ = some (.int .u32 x7))
          (first | with_reducible exact SA.out | with_reducible exact SD.out _ | go_keep)
          (first
          | (go_at_call 33; refine (right_7 _ S15.out _).mono ?_; rintro e w' ⟨he, rfl⟩; obtain ⟨r7, e7⟩ : ∃ r, r = rotI x15 7 := ⟨_, rfl⟩; rw [← e7] at he; subst he; replace e7 := Lib.hid e7)
          | (go_at_call 33; refine (right_18 _ S15.out _).mono ?_; rintro e w' ⟨he, rfl⟩; obtain ⟨r18, e18⟩ : ∃ r, r = rotI x15 18 := ⟨_, rfl⟩; rw [← e18] at he; subst he; replace e18 := Lib.hid e18)
          | (go_at_call 33; refine (right_17 _ S2.out _).mono ?_; rintro e w' ⟨he, rfl⟩; obtain ⟨r17, e17⟩ : ∃ r, r = rotI x2 17 := ⟨_, rfl⟩; rw [← e17] at he; subst he; replace e17 := Lib.hid e17)
          | (go_at_call 33; refine (right_19 _ S2.out _).mono ?_; rintro e w' ⟨he, rfl⟩; obtain ⟨r19, e19⟩ : ∃ r, r = rotI x2 19 := ⟨_, rfl⟩; rw [← e19] at he; subst he; replace e19 := Lib.hid e19))
        go_wp2_with fail
        go_roundw
        case rel =>
          refine ⟨t + 1, by omega, by go_num, (KP.out.setNew (by omega) _ _).drewN _, (HS.out.set h64 ?_).keep (Keep.drewN (Keep.refl (fun _ => False) _) _) (fun e => e), HR.out.keep ((Keep.setCell (S := One (w.heap.size + 1)) (Keep.refl _ _) (.inl (one_self _)) _).drewN _) (fun e => by unfold One at e; omega)⟩
          rw [ST.out, e7.out, e18.out, e17.out, e19.out]
          simp only [nextW, sg0, sg1, w32, xorI]
        case measure => simp [intOf]; omega
    · have e : t = 64 := by omega
      subst e
      go_wp2_with fail
      obtain ⟨cs, hcs, hcb, hcv⟩ := HS.out
      obtain ⟨rs, hrs, hrb⟩ := HR.out
      have hl := row_load (P := Tryd.prog) wr (w.heap.size + 1) 66 cs (0, 0) 64 hcb hcs
      simp only [oA66, oS66, Result.andThen, ↓reduceIte, hl]
      rw [Oper.upon_value]
      go_wp2_with fail
      have hst := row_store (P := Tryd.prog) wr w.heap.size 66 rs cs hrb (by rw [hcs]; rfl) (by omega) (all_one hcs fun i hi => ⟨_, hcv i hi⟩)
      simp only [oS66, Result.andThen, ↓reduceIte, hst]
      rw [Oper.upon_skip]
      go_wp2_with fail
      refine bodyPost_ret (v := .agg cs) (results_cell_row (P := Tryd.prog) Tryd.results32 _ _ w.heap.size 66 cs (0, 0) _ rfl (setRow_heap _ _ _ _ _ _ hrb) Tryd.underlying66 rfl (by rw [hcs]; rfl)) rfl ?_
      exact ⟨cs, rfl, hcs, hcv, KP.out.setRow (.inr (Nat.le_refl _)) _⟩
end

end Go.Proofs.YtcjjhgecmnfmdaaDoor
