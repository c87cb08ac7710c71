/- The state behind a block: 'step', walked. · What stands behind a text: 'pad', walked. -/
import Derived.Test.YtdmckfkhkjkdnaaGreatDoorQ07
set_option linter.unusedVariables false
set_option maxRecDepth 100000
set_option maxHeartbeats 16000000
namespace Go.Proofs.YtdmckfkhkjkdnaaGreatDoor
open Go.RowKit
def kList : List Int := [0x428a2f98, 0x71374491, 0xb5c0fbcf, 0xe9b5dba5, 0x3956c25b, 0x59f111f1, 0x923f82a4, 0xab1c5ed5,
  0xd807aa98, 0x12835b01, 0x243185be, 0x550c7dc3, 0x72be5d74, 0x80deb1fe, 0x9bdc06a7, 0xc19bf174,
  0xe49b69c1, 0xefbe4786, 0x0fc19dc6, 0x240ca1cc, 0x2de92c6f, 0x4a7484aa, 0x5cb0a9dc, 0x76f988da,
  0x983e5152, 0xa831c66d, 0xb00327c8, 0xbf597fc7, 0xc6e00bf3, 0xd5a79147, 0x06ca6351, 0x14292967,
  0x27b70a85, 0x2e1b2138, 0x4d2c6dfc, 0x53380d13, 0x650a7354, 0x766a0abb, 0x81c2c92e, 0x92722c85,
  0xa2bfe8a1, 0xa81a664b, 0xc24b8b70, 0xc76c51a3, 0xd192e819, 0xd6990624, 0xf40e3585, 0x106aa070,
  0x19a4c116, 0x1e376c08, 0x2748774c, 0x34b0bcb5, 0x391c0cb3, 0x4ed8aa4a, 0x5b9cca4f, 0x682e6ff3,
  0x748f82ee, 0x78a5636f, 0x84c87814, 0x8cc70208, 0x90befffa, 0xa4506ceb, 0xbef9a3f7, 0xc67178f2]
def kI (i : Nat) : Int := kList.getD i 0
structure W8 where
  (a b c d e f g h : Int)
deriving DecidableEq
def W8.u32 (s : W8) : Prop := U32 s.a ∧ U32 s.b ∧ U32 s.c ∧ U32 s.d ∧ U32 s.e ∧ U32 s.f ∧ U32 s.g ∧ U32 s.h
def W8.cells (s : W8) : Array Value := #[.int .u32 s.a, .int .u32 s.b, .int .u32 s.c, .int .u32 s.d, .int .u32 s.e, .int .u32 s.f, .int .u32 s.g, .int .u32 s.h]
theorem W8.size (s : W8) : s.cells.size = 8 := rfl
theorem W8.one (s : W8) : s.cells.all (·.oneCell') = true := by simp [W8.cells, Value.oneCell']
def ltS1 (e : Int) : Int := xorI (xorI (rotI e 6) (rotI e 11)) (rotI e 25)
def ltS0 (a : Int) : Int := xorI (xorI (rotI a 2) (rotI a 13)) (rotI a 22)
def chI (e f g : Int) : Int := xorI g (andI e (xorI f g))
def majI (a b c : Int) : Int := orI (andI a b) (andI c (orI a b))
def xW (s : W8) (k w : Int) : Int := w32 (w32 (w32 (w32 (s.h + ltS1 s.e) + chI s.e s.f s.g) + k) + w)
def yW (s : W8) : Int := w32 (ltS0 s.a + majI s.a s.b s.c)
def roundW (s : W8) (k w : Int) : W8 := ⟨w32 (xW s k w + yW s), s.a, s.b, s.c, w32 (s.d + xW s k w), s.e, s.f, s.g⟩
def roundsTo (s : W8) (b : List UInt8) : Nat → W8
  | 0 => s
  | t + 1 => roundW (roundsTo s b t) (kI t) (schedW b t)
def addW (s t : W8) : W8 := ⟨w32 (s.a + t.a), w32 (s.b + t.b), w32 (s.c + t.c), w32 (s.d + t.d), w32 (s.e + t.e), w32 (s.f + t.f), w32 (s.g + t.g), w32 (s.h + t.h)⟩
def stepW (s : W8) (b : List UInt8) : W8 := addW (roundsTo s b 64) s
def Zer8 : Obj := .cells #[.int .u32 0, .int .u32 0, .int .u32 0, .int .u32 0, .int .u32 0, .int .u32 0, .int .u32 0, .int .u32 0] 317
def mixW (s t : W8) (i : Nat) : W8 := ⟨if 0 < i then w32 (s.a + t.a) else s.a, if 1 < i then w32 (s.b + t.b) else s.b, if 2 < i then w32 (s.c + t.c) else s.c, if 3 < i then w32 (s.d + t.d) else s.d, if 4 < i then w32 (s.e + t.e) else s.e, if 5 < i then w32 (s.f + t.f) else s.f, if 6 < i then w32 (s.g + t.g) else s.g, if 7 < i then w32 (s.h + t.h) else s.h⟩
def W8.at (s : W8) : Nat → Int
  | 0 => s.a
  | 1 => s.b
  | 2 => s.c
  | 3 => s.d
  | 4 => s.e
  | 5 => s.f
  | 6 => s.g
  | _ => s.h
theorem W8.get (s : W8) : ∀ n, n < 8 → s.cells[n]? = some (.int .u32 (s.at n))
  | 0, _ => rfl
  | 1, _ => rfl
  | 2, _ => rfl
  | 3, _ => rfl
  | 4, _ => rfl
  | 5, _ => rfl
  | 6, _ => rfl
  | 7, _ => rfl
  | n + 8, h => by omega
theorem mixW_at (s t : W8) : ∀ n, n < 8 → (mixW s t n).at n = s.at n
  | 0, _ => rfl
  | 1, _ => rfl
  | 2, _ => rfl
  | 3, _ => rfl
  | 4, _ => rfl
  | 5, _ => rfl
  | 6, _ => rfl
  | 7, _ => rfl
  | n + 8, h => by omega
theorem mixW_set (s t : W8) : ∀ n, n < 8 → (mixW s t n).cells.setIfInBounds n (.int .u32 (w32 (s.at n + t.at n))) = (mixW s t (n + 1)).cells
  | 0, _ => rfl
  | 1, _ => rfl
  | 2, _ => rfl
  | 3, _ => rfl
  | 4, _ => rfl
  | 5, _ => rfl
  | 6, _ => rfl
  | 7, _ => rfl
  | n + 8, h => by omega
def Kon (w : World) : Prop := ∃ cs : Array Value, cs.size = 64 ∧ (∃ (tt : TypeId) (fr : Nat × Nat), w.heap[1]? = some (.cells cs tt fr)) ∧ 1 + 1 ≤ w.heap.size ∧ ∀ i, i < 64 → cs[i]? = some (.int .u32 (kI i))
theorem ShByt.keep {S : Nat → Prop} {w w' : World} {g off n : Nat} {b : List UInt8} (h : ShByt w g off n b) (k : Keep S w w') (hg : g < w.heap.size) (hn : ¬ S g) : ShByt w' g off n b := fun j hj => (World.cell?_of_block (k.block g hg hn)).trans (h j hj)
theorem roundsTo_u32 {s : W8} (h : s.u32) (b : List UInt8) : ∀ t, (roundsTo s b t).u32
  | 0 => h
  | t + 1 => by
    obtain ⟨h1, h2, h3, h4, h5, h6, h7, h8⟩ := roundsTo_u32 h b t
    exact ⟨u32_w _, h1, h2, h3, u32_w _, h5, h6, h7⟩
theorem index_row (ws : Array Value) (hws : ws.size = 64) (t : Nat) (h : t < 64) (v : Value) (hv : ws[t]? = some v) (w : World) : (Instr.index 379 (.agg ws) (.int .i64 (t : Int))).run Tryz.prog w = .ok v w := by
  have e : ws[t]'(by omega) = v := by
    rw [Array.getElem?_eq_getElem (by omega)] at hv
    exact Option.some.inj hv
  simp [Instr.index, go_sem, hws, h, e]
section
attribute [local simp high] hA379 hS379 hA317 hS317
theorem step_any (s0 : W8) (g off cap : Nat) (b : List UInt8) (w : World) (hu : s0.u32) (hk : Kon w) (hb : ShByt w g off 64 b) (hcap : 64 ≤ cap) (hcm : cap ≤ 9223372036854775807) :
    Calls Tryz.prog 219 #[.agg s0.cells, .slice (some ⟨g, off, none⟩) 64 cap] w fun e w' => e = .returned (.agg (stepW s0 b).cells) ∧ Keep Non w w' := by
  have HB := Lib.hid hb
  have HK := Lib.hid hk
  have hgl : g < w.heap.size := World.block_lt_of_cell? _ _ (hb 0 (by omega))
  clear hb hk
  go_enter Tryz.func219, Tryz.ntmps219
  go_wp2_with fail
  have hl := row_load (P := Tryz.prog) _ w.heap.size 317 s0.cells (0, 0) 8 (blk_alloc (blk_new w (.cells s0.cells 317)) Zer8) rfl
  unfold Zer8 at hl
  simp only [oA317, oS317, Result.andThen, ↓reduceIte, hl]
  rw [Oper.upon_value]
  go_wp2_with fail
  have hz := blk_new ((w.alloc (.cells s0.cells 317)).alloc Zer8) Zer8
  rw [World.size_alloc, World.size_alloc] at hz
  have hst := row_store (P := Tryz.prog) (((w.alloc (.cells s0.cells 317)).alloc Zer8).alloc Zer8) (w.heap.size + 1 + 1) 317 #[.int .u32 0, .int .u32 0, .int .u32 0, .int .u32 0, .int .u32 0, .int .u32 0, .int .u32 0, .int .u32 0] s0.cells hz rfl rfl s0.one
  unfold Zer8 at hst
  simp only [oS317, Result.andThen, ↓reduceIte, hst, W8.size]
  rw [Oper.upon_skip]
  go_wp2_with fail
  have kW : Keep Non w ((((w.alloc (.cells s0.cells 317)).alloc Zer8).alloc Zer8).setRow (w.heap.size + 1 + 1) s0.cells) := ((((Keep.refl _ _).alloc _).alloc _).alloc _).setRow (.inr (by omega)) _
  have gs := setRow_heap _ (w.heap.size + 1 + 1) _ s0.cells _ _ hz
  have gz := (setRow_other (((w.alloc (.cells s0.cells 317)).alloc Zer8).alloc Zer8) (w.heap.size + 1 + 1) w.heap.size s0.cells (by omega)).trans (blk_alloc (blk_alloc (blk_new w (.cells s0.cells 317)) Zer8) Zer8)
  have gr := blk_new (w.alloc (.cells s0.cells 317)) Zer8
  rw [World.size_alloc] at gr
  have gr := (setRow_other (((w.alloc (.cells s0.cells 317)).alloc Zer8).alloc Zer8) (w.heap.size + 1 + 1) (w.heap.size + 1) s0.cells (by omega)).trans (blk_alloc gr Zer8)
  refine (sched_any g off cap b _ (HB.out.keep kW hgl (fun e => e)) hcap hcm).mono ?_
  rintro e w1 ⟨ws, rfl, hws, hwv, kp⟩
  have gs := kp.at gs (fun e => e)
  have gz := kp.at gz (fun e => e)
  have gr := kp.at gr (fun e => e)
  have KP := Lib.hid (kW.trans1 kp)
  have WV := Lib.hid hwv
  clear kW kp hl hz hst hwv
  revert gs gz gr
  intro gs gz gr
  have GS := Lib.hid gs
  have GZ := Lib.hid gz
  have GR := Lib.hid gr
  clear gs gz gr
  go_wp2_with fail
  go_loopw [16] (fun i wr => ∃ t : Nat, t ≤ 64 ∧ i = .int .i64 t ∧ Keep Non w wr ∧ wr.heap[w.heap.size + 1 + 1]? = some (.cells (roundsTo s0 b t).cells 317 (0, 0)) ∧ wr.heap[w.heap.size]? = some (.cells s0.cells 317 (0, 0)) ∧ wr.heap[w.heap.size + 1]? = some Zer8) (fun i _ => 64 - (intOf i).toNat)
  case atStart => exact ⟨0, by omega, rfl, KP.out, GS.out, GZ.out, GR.out⟩
  case round =>
    obtain ⟨t, ht, rfl, kp, gs, gz, gr⟩ := hrel
    clear KP GS GZ GR
    have KP := Lib.hid kp
    have GS := Lib.hid gs
    have GZ := Lib.hid gz
    have GR := Lib.hid gr
    clear kp gs gz gr
    by_cases h64 : t < 64
    · have ht64 : (t : Int) < 64 := by omega
      have hix : (Instr.index 379 (.agg ws) (.int .i64 (t : Int))).run Tryz.prog wr = .ok (.int .u32 (schedW b t)) wr :=
        index_row ws hws t h64 _ (WV.out t h64) wr
      have HU := Lib.hid (roundsTo_u32 hu b t)
      obtain ⟨kcs, hk1, ⟨ktt, kfr, hk2⟩, hk3, hk4⟩ := HK.out
      have kt : wr.cell? ⟨1, t, none⟩ = some (.int .u32 (kI t)) := (World.cell?_of_block (KP.out.block 1 (by omega) (fun e => e))).trans ((cell_of_row w 1 t kcs ktt kfr hk2).trans (hk4 t h64))
      have hrt : Hid (roundsTo s0 b (t + 1) = roundW (roundsTo s0 b t) (kI t) (schedW b t)) := Lib.hid rfl
      generalize roundsTo s0 b t = sr at GS HU hrt
      obtain ⟨sa, sb, sc, sd, se, sf, sg, sh⟩ := sr
      have c0 : wr.cell? ⟨w.heap.size + 1 + 1, 0, none⟩ = some (.int .u32 sa) := (cell_of_row _ _ 0 _ _ _ GS.out)
      have c1 : wr.cell? ⟨w.heap.size + 1 + 1, 1, none⟩ = some (.int .u32 sb) := (cell_of_row _ _ 1 _ _ _ GS.out)
      have c2 : wr.cell? ⟨w.heap.size + 1 + 1, 2, none⟩ = some (.int .u32 sc) := (cell_of_row _ _ 2 _ _ _ GS.out)
      have c3 : wr.cell? ⟨w.heap.size + 1 + 1, 3, none⟩ = some (.int .u32 sd) := (cell_of_row _ _ 3 _ _ _ GS.out)
      have c4 : wr.cell? ⟨w.heap.size + 1 + 1, 4, none⟩ = some (.int .u32 se) := (cell_of_row _ _ 4 _ _ _ GS.out)
      have c5 : wr.cell? ⟨w.heap.size + 1 + 1, 5, none⟩ = some (.int .u32 sf) := (cell_of_row _ _ 5 _ _ _ GS.out)
      have c6 : wr.cell? ⟨w.heap.size + 1 + 1, 6, none⟩ = some (.int .u32 sg) := (cell_of_row _ _ 6 _ _ _ GS.out)
      have c7 : wr.cell? ⟨w.heap.size + 1 + 1, 7, none⟩ = some (.int .u32 sh) := (cell_of_row _ _ 7 _ _ _ GS.out)
      clear hk1 hk2 hk3 hk4 kfr ktt
      have HU2 : Hid (U32 sa ∧ U32 se) := Lib.hid ⟨HU.out.1, HU.out.2.2.2.2.1⟩
      go_wp2_with fail
      go_quiet (fail)
      generalize nq = n1
      go_wp2_with fail
      go_quiet ((first
        | (go_at_call 275; refine (right_6 _ HU2.out.2 _).mono ?_; rintro e w' ⟨rfl, rfl⟩; exact ⟨rfl, _, rfl⟩)
        | (go_at_call 275; refine (right_11 _ HU2.out.2 _).mono ?_; rintro e w' ⟨rfl, rfl⟩; exact ⟨rfl, _, rfl⟩)
        | (go_at_call 275; refine (right_25 _ HU2.out.2 _).mono ?_; rintro e w' ⟨rfl, rfl⟩; exact ⟨rfl, _, rfl⟩)))
      generalize nq = n2
      generalize hx : (((sh + bits BinOp.xor IntKind.u32 (bits BinOp.xor IntKind.u32 (rotI se 6) (rotI se 11)) (rotI se 25) + bits BinOp.xor IntKind.u32 sg (bits BinOp.and IntKind.u32 se (bits BinOp.xor IntKind.u32 sf sg)) + kI t) % 4294967296 + schedW b t) % 4294967296) = x
      have HX := Lib.hid hx
      clear hx
      go_wp2_with fail
      go_quiet ((first
        | (go_at_call 275; refine (right_2 _ HU2.out.1 _).mono ?_; rintro e w' ⟨rfl, rfl⟩; exact ⟨rfl, _, rfl⟩)
        | (go_at_call 275; refine (right_13 _ HU2.out.1 _).mono ?_; rintro e w' ⟨rfl, rfl⟩; exact ⟨rfl, _, rfl⟩)
        | (go_at_call 275; refine (right_22 _ HU2.out.1 _).mono ?_; rintro e w' ⟨rfl, rfl⟩; exact ⟨rfl, _, rfl⟩)))
      generalize nq = n3
      generalize hy : ((bits BinOp.xor IntKind.u32 (bits BinOp.xor IntKind.u32 (rotI sa 2) (rotI sa 13)) (rotI sa 22) + bits BinOp.or IntKind.u32 (bits BinOp.and IntKind.u32 sa sb) (bits BinOp.and IntKind.u32 sc (bits BinOp.or IntKind.u32 sa sb))) % 4294967296) = y
      have HY := Lib.hid hy
      clear hy
      have ER : Hid (roundsTo s0 b (t + 1) = ⟨(x + y) % 4294967296, sa, sb, sc, (sd + x) % 4294967296, se, sf, sg⟩) := Lib.hid (by
        have ex : xW ⟨sa, sb, sc, sd, se, sf, sg, sh⟩ (kI t) (schedW b t) = x := by
          rw [← HX.out]
          simp only [xW, w32, ltS1, chI, xorI, andI]
          omega
        have ey : yW ⟨sa, sb, sc, sd, se, sf, sg, sh⟩ = y := by
          rw [← HY.out]
          simp only [yW, w32, ltS0, majI, xorI, andI, orI]
        rw [hrt.out]
        unfold roundW
        rw [ex, ey]
        rfl)
      go_wp2_with fail
      refine Eq.mpr (congrArg (Oper.upon _ _ _ _ _) (show _ = Result.ok Next.skip (World.setRow (wr.drewN (n1 + n2 + n3)) (w.heap.size + 1 + 1) (W8.cells ⟨(x + y) % 4294967296, sa, sb, sc, (sd + x) % 4294967296, se, sf, sg⟩)) from ?_)) ?_
      · have h := run_storeVar_row (P := Tryz.prog) (wr.drewN (n1 + n2 + n3)) (w.heap.size + 1 + 1) 317 317 _ (W8.cells ⟨(x + y) % 4294967296, sa, sb, sc, (sd + x) % 4294967296, se, sf, sg⟩) GS.out rfl rfl (W8.one _)
        refine Eq.trans ?_ (congrArg (fun r => Result.andThen r (fun _ w' => Result.ok Next.skip w')) h)
        clear h
        have hsz := oS317
        have f0 := frozen_of_row wr (w.heap.size + 1 + 1) 0 _ _ GS.out
        have f1 := frozen_of_row wr (w.heap.size + 1 + 1) 1 _ _ GS.out
        have f2 := frozen_of_row wr (w.heap.size + 1 + 1) 2 _ _ GS.out
        have f3 := frozen_of_row wr (w.heap.size + 1 + 1) 3 _ _ GS.out
        have f4 := frozen_of_row wr (w.heap.size + 1 + 1) 4 _ _ GS.out
        have f5 := frozen_of_row wr (w.heap.size + 1 + 1) 5 _ _ GS.out
        have f6 := frozen_of_row wr (w.heap.size + 1 + 1) 6 _ _ GS.out
        have f7 := frozen_of_row wr (w.heap.size + 1 + 1) 7 _ _ GS.out
        unfold W8.cells
        go_simp
      rw [Oper.upon_skip]
      go_wp2_with fail
      go_roundw
      case rel => exact ⟨t + 1, by omega, by go_num, (KP.out.drewN _).setRow (.inr (by omega)) _, by rw [ER.out]; exact setRow_heap _ _ _ _ _ _ GS.out, (setRow_other _ _ _ _ (by omega)).trans GZ.out, (setRow_other _ _ _ _ (by omega)).trans GR.out⟩
      case measure => simp [intOf]; omega
    · have e : t = 64 := by omega
      subst e
      go_wp2_with fail
      go_loopw [92] (fun i wq => ∃ n : Nat, n ≤ 8 ∧ i = .int .i64 n ∧ Keep Non w wq ∧ wq.heap[w.heap.size + 1 + 1]? = some (.cells (mixW (roundsTo s0 b 64) s0 n).cells 317 (0, 0)) ∧ wq.heap[w.heap.size]? = some (.cells s0.cells 317 (0, 0)) ∧ wq.heap[w.heap.size + 1]? = some Zer8) (fun i _ => 8 - (intOf i).toNat)
      case atStart => exact ⟨0, by omega, rfl, KP.out, GS.out, GZ.out, GR.out⟩
      case round =>
        obtain ⟨n, hn, rfl, kp, gs, gz, gr⟩ := hrel
        clear KP GS GZ GR
        have KP := Lib.hid kp
        have GS := Lib.hid gs
        have GZ := Lib.hid gz
        have GR := Lib.hid gr
        clear kp gs gz gr
        by_cases h8 : n < 8
        · have h8i : (n : Int) < 8 := by omega
          have cs : wr.cell? ⟨w.heap.size + 1 + 1, n, none⟩ = some (.int .u32 ((roundsTo s0 b 64).at n)) := by
            rw [cell_of_row _ _ n _ _ _ GS.out, W8.get _ n h8, mixW_at _ _ n h8]
          have ct : wr.cell? ⟨w.heap.size, n, none⟩ = some (.int .u32 (s0.at n)) := by
            rw [cell_of_row _ _ n _ _ _ GZ.out, W8.get _ n h8]
          have fs := frozen_of_row wr (w.heap.size + 1 + 1) n _ _ GS.out
          have MS := Lib.hid (mixW_set (roundsTo s0 b 64) s0 n h8)
          generalize (roundsTo s0 b 64).at n = x at cs MS
          generalize s0.at n = y at ct MS
          go_wp2_with fail
          go_region
          all_goals go_wp2_with fail
          go_roundw
          case rel => exact ⟨n + 1, by omega, by go_num, (KP.out.setNew (by omega) _ _).drewN _, by rw [← MS.out]; exact blk_drewN (blk_set GS.out n _) _, blk_drewN (blk_skip GZ.out (by omega) _ _) _, blk_drewN (blk_skip GR.out (by omega) _ _) _⟩
          case measure => simp [intOf]; omega
        · have e : n = 8 := by omega
          subst e
          go_wp2_with fail
          have hl := row_load (P := Tryz.prog) wr (w.heap.size + 1 + 1) 317 _ (0, 0) 8 GS.out rfl
          simp only [oA317, oS317, Result.andThen, ↓reduceIte, hl]
          rw [Oper.upon_value]
          go_wp2_with fail
          have hst := row_store (P := Tryz.prog) wr (w.heap.size + 1) 317 _ (mixW (roundsTo s0 b 64) s0 8).cells GR.out rfl rfl (W8.one _)
          simp only [oS317, Result.andThen, ↓reduceIte, hst, W8.size]
          rw [Oper.upon_skip]
          go_wp2_with fail
          refine bodyPost_ret (v := .agg (stepW s0 b).cells) (results_cell_row (P := Tryz.prog) Tryz.results219 _ _ (w.heap.size + 1) 317 (stepW s0 b).cells (0, 0) _ rfl (setRow_heap _ _ _ _ _ _ GR.out) Tryz.underlying317 rfl rfl) rfl ?_
          exact ⟨rfl, KP.out.setRow (.inr (by omega)) _⟩
end
def lensB (n j : Nat) : List UInt8 := (List.range j).map fun i => UInt8.ofNat (n * 8 / 2 ^ (56 - 8 * i))
def padB (n : Nat) : List UInt8 := 128 :: (List.replicate ((119 - n % 64) % 64) 0 ++ lensB n 8)
theorem padB_eq (n : Nat) : padB n = 128 :: (List.replicate ((119 - n % 64) % 64) 0 ++ lensB n 8) := rfl
theorem padB_len (n : Nat) : (padB n).length = 1 + (119 - n % 64) % 64 + 8 := by simp [padB, lensB]; omega
def lenOfV : Value → Nat
  | .slice _ n _ => n
  | _ => 0
theorem sh_rd_one (w : World) (u : Value) (t : TypeId) : Rd (w.alloc (.cells #[u] t)) (.slice (some ⟨w.heap.size, 0, none⟩) 1 1) [u] := by
  refine ⟨_, 1, rfl, fun _ => ⟨w.heap.size, 0, rfl, fun j x hx => ?_⟩⟩
  cases j with
  | zero =>
    simp at hx
    subst hx
    exact World.cell?_alloc_new _ _ _ 0
  | succ j => simp at hx
theorem sh_form {w : World} {base : Nat} {e : TypeId} {size : Nat} {v : Value} {n : Nat} {xs : List Value} (h : w.ownsRow base e size v n xs) : ∃ a cap, v = .slice a n cap ∧ n ≤ cap ∧ cap ≤ maxLen := by
  rcases h.2 with ⟨rfl, rfl⟩ | ⟨g, cap, cur, rfl, _, _, h1, h2, _⟩
  · exact ⟨none, 0, rfl, by omega, by simp [maxLen]⟩
  · exact ⟨_, cap, rfl, h1, h2⟩
theorem shU8 : (Tryz.prog.info? 5).map (fun i => (i.zero, i.size, i.bytes)) = some (some (.int .u8 0), 1, 1) := by kernel_rfl
theorem pad_any (n : Nat) (hn : n ≤ 131072) (w : World) :
    Calls Tryz.prog 218 #[.int .i64 (n : Int)] w fun e w' => ∃ g cap, e = .returned (.slice (some ⟨g, 0, none⟩) (padB n).length cap) ∧ Keep Non w w' ∧ w.heap.size ≤ g ∧ w'.ownsRow w.heap.size 5 1 (.slice (some ⟨g, 0, none⟩) (padB n).length cap) (padB n).length ((padB n).map bv) := by
  obtain ⟨i0, hi0, hz0, hz1, hz2⟩ := info_parts shU8
  go_enter Tryz.func218, Tryz.ntmps218
  go_wp2_with fail
  go_loopw [3] (fun v wr => ∃ k : Nat, k ≤ (119 - n % 64) % 64 ∧ Keep Non w wr ∧ wr.ownsRow w.heap.size 5 1 v (1 + k) ((128 :: List.replicate k 0).map bv)) (fun v _ => 64 - (lenOfV v))
  case atStart =>
    refine ⟨0, by omega, (Keep.refl _ _).alloc _, ?_⟩
    exact World.ownsRow_lit (base := w.heap.size) (e := 5) (size := 1) w #[.int .u8 128] 1 (Nat.le_refl _) (by decide) rfl
  case round =>
    obtain ⟨k, hk, kp, ho⟩ := hrel
    rcases ho.2 with ⟨_, hz⟩ | ⟨g, cap, cur, rfl, hb, hg, hle, hmx, hcs, htk⟩
    · omega
    have KP := Lib.hid kp
    have HO := Lib.hid ho
    clear kp ho
    have w1 : IntKind.i64.wrap ((n : Int) + ((1 + k : Nat) : Int)) = (n : Int) + ((1 + k : Nat) : Int) := by rw [IntKind.wrap_i64]; omega
    have w2 : IntKind.i64.wrap ((n : Int) + ((1 + k : Nat) : Int) + 8) = (n : Int) + ((1 + k : Nat) : Int) + 8 := by rw [IntKind.wrap_i64]; omega
    by_cases hlt : k < (119 - n % 64) % 64
    · have hne : (((n : Int) + (1 + (k : Int)) + 8) % 64 != 0) = true := by simp; omega
      go_wp2_with (at_builtin; refine wpList_append_rd rfl _ _ 48 rfl w.heap.size 5 i0 (.int .u8 0) 1 Tryz.underlying48 hi0 hz0 hz1 hz2 rfl (.slice (some ⟨g, 0, none⟩) (1 + k) cap) (1 + k) _ rfl (HO.out.alloc _) (.slice (some ⟨wr.heap.size, 0, none⟩) 1 1) rfl [.int .u8 0] (sh_rd_one _ _ _) (by intro u hu; simp at hu; subst hu; rfl) (by unfold maxLen; simp; omega) (by simp; omega) (by have := KP.out.size; simp; omega) ?_; intro v' w' ho hg hp; have HO2 := Lib.hid ho; have HG := Lib.hid hg; clear ho hp hg)
      have h2 := HO2.out
      rw [show List.map bv (128 :: List.replicate k 0) ++ [Value.int .u8 0] = List.map bv (128 :: List.replicate (k + 1) 0) by simp [List.replicate_succ', bv], show 1 + k + [Value.int .u8 0].length = 1 + (k + 1) from rfl] at h2
      obtain ⟨a2, cap2, rfl, _, _⟩ := sh_form h2
      exact ⟨⟨k + 1, by omega, (KP.out.alloc _).grown HG.out (fun q e => .inr (by injection e with e; subst e; exact hb)), h2⟩, by simp [lenOfV]; omega⟩
    · have ek : Hid (k = (119 - n % 64) % 64) := Lib.hid (by omega)
      have hne : (((n : Int) + (1 + (k : Int)) + 8) % 64 != 0) = false := by simp; omega
      go_wp2_with fail
      go_loopw [3, 4] (fun v i wq => ∃ j : Nat, j ≤ 8 ∧ i = .int .i64 (56 - 8 * (j : Int)) ∧ Keep Non w wq ∧ wq.ownsRow w.heap.size 5 1 v (1 + k + j) ((128 :: (List.replicate k 0 ++ lensB n j)).map bv)) (fun _ i _ => (intOf i + 8).toNat)
      case atStart => exact ⟨0, by omega, rfl, KP.out, by simpa [lensB] using HO.out⟩
      case round =>
        clear KP HO htk hle hmx hcs hg hb hk hlt hne
        obtain ⟨j, hj, rfl, kp, ho⟩ := hrel
        rcases ho.2 with ⟨_, hz⟩ | ⟨g, cap, cur, rfl, hb, hg, hle, hmx, hcs, htk⟩
        · omega
        have KP := Lib.hid kp
        have HO := Lib.hid ho
        clear kp ho
        by_cases h8 : j < 8
        · have hsh : (0 : Int) ≤ 56 - 8 * (j : Int) := by omega
          have w5 : IntKind.i64.wrap (56 - 8 * (j : Int) - 8) = 56 - 8 * (j : Int) - 8 := by rw [IntKind.wrap_i64]; omega
          have hk : k < 64 := by have := ek.out; omega
          go_wp2_with (at_builtin; refine wpList_append_rd rfl _ _ 48 rfl w.heap.size 5 i0 (.int .u8 0) 1 Tryz.underlying48 hi0 hz0 hz1 hz2 rfl (.slice (some ⟨g, 0, none⟩) (1 + k + j) cap) (1 + k + j) _ rfl (HO.out.alloc _) (.slice (some ⟨wr.heap.size, 0, none⟩) 1 1) rfl [.int .u8 ((n : Int) * 8 / 2 ^ (56 - 8 * j) % 256)] (sh_rd_one _ _ _) (by intro u hu; simp at hu; subst hu; rfl) (by unfold maxLen; simp; omega) (by simp; omega) (by have := KP.out.size; simp; omega) ?_; intro v' w' ho hg hp; have HO2 := Lib.hid ho; have HG := Lib.hid hg; clear ho hp hg)
          have h2 := HO2.out
          have e8 : (UInt8.ofNat (n * 8 / 2 ^ (56 - 8 * j))).toNat = n * 8 / 2 ^ (56 - 8 * j) % 256 := by simp
          rw [show List.map bv (128 :: (List.replicate k 0 ++ lensB n j)) ++ [Value.int .u8 ((n : Int) * 8 / 2 ^ (56 - 8 * j) % 256)] = List.map bv (128 :: (List.replicate k 0 ++ lensB n (j + 1))) by simp [lensB, List.range_succ, bv, e8], show 1 + k + j + [Value.int .u8 ((n : Int) * 8 / 2 ^ (56 - 8 * j) % 256)].length = 1 + k + (j + 1) from rfl] at h2
          exact ⟨⟨j + 1, by omega, by congr 1; omega, (KP.out.alloc _).grown HG.out (fun q e => .inr (by injection e with e; subst e; exact hb)), h2⟩, by simp [intOf]; omega⟩
        · have e : j = 8 := by omega
          subst e
          go_wp2_with fail
          go_ret
          refine ⟨g, cap, ?_, KP.out, hb, ?_⟩
          · rw [padB_len, ← ek.out]
            rfl
          · have := HO.out
            rw [padB_len, ← ek.out, padB_eq, ← ek.out]
            exact this
end Go.Proofs.YtdmckfkhkjkdnaaGreatDoor
