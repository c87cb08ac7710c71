/- Shows, walked: a line shows the document's. -/
import Derived.Test.YtggnkcpnbnpbhaaRange
import Derived.Test.YtggnkcpnbnpbhaaQuietRound
import Derived.Test.YtggnkcpnbnpbhaaDoc
import Derived.Test.YtggnkcpnbnpbhaaBytes
import Derived.Test.YtggnkcpnbnpbhaaEqArr
import Derived.Sort.QuietIn
import Derived.Deep.RegionHeld3
namespace Go.Proofs.Ytggnkcpnbnpbhaa
open Go.RowKit Go.Shelf
set_option linter.unusedVariables false
attribute [local go_sem] Oper.semAt_some

/-- A message as the document has it. -/
def sv (l : List UInt8) : Value := .string ⟨l.toArray⟩

/-- The bytes that a loop has still to come to. -/
def RestB (wr : World) (x : Option Addr) (m : List UInt8) (k : Nat) : Prop :=
  k < m.length → ∃ g cur, x = some ⟨g, 0, none⟩ ∧ wr.heap[g]? = some (.cells cur 5 (0, 0)) ∧ ∀ j, k ≤ j → (hj : j < m.length) → cur[j]? = some (bv m[j])

theorem restB_start {W : World} {base xc : Nat} {x : Option Addr} {m : List UInt8} (h : W.ownsRow base 5 1 (.slice x m.length xc) m.length (m.map bv)) (nq : Nat) : RestB (W.drewN nq) x m 0 := by
  intro hpos
  rcases h.2 with ⟨e, e0⟩ | ⟨g, cap, cur, e, _, hg, hn, hc, hcs, htake⟩
  · injection e with e1 e2
    omega
  · injection e with e1 e2
    refine ⟨g, cur, e1, hg, fun j _ hj => ?_⟩
    have h2 : (m.map bv)[j]? = some (bv m[j]) := by simp [hj]
    rw [← htake, List.getElem?_take, if_pos (by omega)] at h2
    simpa using h2

/-- What holds between two rounds: the blocks that the walk has made. -/
structure SAt (w : World) (p : Nat) (a : Option Addr) (n cap : Nat) (c : Nat → Int) (i : Nat) (W : World) : Prop where
  keep0 : Keep Non w W
  b3 : W.heap[w.heap.size]? = some (DcB (.slice a n cap) c)
  b4 : W.heap[w.heap.size + 1]? = some (.cells #[.bool false] 4 (0, 0))
  b5 : W.heap[w.heap.size + 1 + 1]? = some (.cells #[.int .i64 (i : Int)] 3 (0, 0))
  b6 : W.heap[w.heap.size + 1 + 1 + 1]? = some (.cells #[.pointer (some ⟨p, 0, none⟩)] 24 (0, 0))

theorem SAt.keep {w W W' : World} {p : Nat} {a : Option Addr} {n cap : Nat} {c : Nat → Int} {i B : Nat} (h : SAt w p a n cap c i W) (k : Keep (fun k => B ≤ k) W W') (hB : w.heap.size + 4 ≤ B) : SAt w p a n cap c i W' :=
  ⟨h.keep0.trans k (fun _ _ h => h) (fun i hi h => by show False; omega), k.at h.b3 (by omega), k.at h.b4 (by omega), k.at h.b5 (by omega), k.at h.b6 (by omega)⟩

theorem sat_start (w : World) (p : Nat) (a : Option Addr) (n cap : Nat) (c : Nat → Int) :
    SAt w p a n cap c 0 ((((w.alloc (.cells #[.slice a n cap, .int .i64 (c 0), .int .i64 (c 1), .int .i64 (c 2), .int .i64 (c 3)] 50)).alloc (.cells #[.bool false] 4)).alloc (.cells #[.int .i64 0] 3)).alloc (.cells #[.pointer (some ⟨p, 0, none⟩)] 24)) := by
  refine ⟨((((Keep.refl _ _).alloc _).alloc _).alloc _).alloc _, blk_alloc (blk_alloc (blk_alloc (blk_new _ _) _) _) _, ?_, ?_, ?_⟩
  · have := blk_new (w.alloc (.cells #[.slice a n cap, .int .i64 (c 0), .int .i64 (c 1), .int .i64 (c 2), .int .i64 (c 3)] 50)) (.cells #[.bool false] 4)
    rw [World.size_alloc] at this
    exact blk_alloc (blk_alloc this _) _
  · have := blk_new ((w.alloc (.cells #[.slice a n cap, .int .i64 (c 0), .int .i64 (c 1), .int .i64 (c 2), .int .i64 (c 3)] 50)).alloc (.cells #[.bool false] 4)) (.cells #[.int .i64 0] 3)
    rw [World.size_alloc, World.size_alloc] at this
    exact blk_alloc this _
  · have := blk_new (((w.alloc (.cells #[.slice a n cap, .int .i64 (c 0), .int .i64 (c 1), .int .i64 (c 2), .int .i64 (c 3)] 50)).alloc (.cells #[.bool false] 4)).alloc (.cells #[.int .i64 0] 3)) (.cells #[.pointer (some ⟨p, 0, none⟩)] 24)
    rw [World.size_alloc, World.size_alloc, World.size_alloc] at this
    exact this

set_option maxRecDepth 100000 in
set_option maxHeartbeats 3200000 in
theorem shows_true (F : Nat → Prop) (p : Nat) (c : Nat → Int) (ms : List (List UInt8)) (a : Option Addr) (cap : Nat) (w : World) (h : Line F w p c ms) (hr : Rd w (.slice a ms.length cap) (ms.map sv)) (hlen : ∀ m ∈ ms, m.length ≤ 1000000) (hmn : ms.length ≤ 64) :
    Calls Try.prog 17 #[.pointer (some ⟨p, 0, none⟩), .agg #[.slice a ms.length cap, .int .i64 (c 0), .int .i64 (c 1), .int .i64 (c 2), .int .i64 (c 3)]] w fun e w' => e = .returned (.bool true) ∧ Keep Non w w' := by
  have HL := Lib.hid h.tight
  have HR := Lib.hid hr
  have HN := Lib.hid hlen
  clear h hr hlen
  refine (callsIn_wide (n := 9)).1 (callsIn_of_wp_marks Try.func17 rfl trivial ?_ rfl)
  refine wpIn_wide.2 ?_
  simp only [Try.ntmps17, List.size_toArray, List.length_cons, List.length_nil, Nat.reduceAdd, Nat.reduceSub, Array.replicate_succ, Array.replicate_zero, List.push_toArray, List.append_toArray, List.nil_append, List.cons_append]
  go_wp2_with fail
  refine (all_any _ _).mono ?_
  rintro e w1 ⟨rfl, rfl⟩
  go_wp2_with fail
  refine (wpIn_wide (n := 9)).1 ?_
  refine range_all (B := w.heap.size + 1 + 1 + 1) (w0 := w) (p := p) rfl rfl HL.out HN.out (by omega) (fun i W => SAt w p a ms.length cap c i W) (fun _ _ => False) ?stab (fun _ _ _ h => h.elim) ?k0 ?kb ?start (fun i v => { tmps := #[.pointer (some ⟨p, 0, none⟩), .agg #[.slice a ms.length cap, .int .i64 (c 0), .int .i64 (c 1), .int .i64 (c 2), .int .i64 (c 3)], undef, .pointer (some ⟨w.heap.size, 0, none⟩), .pointer (some ⟨w.heap.size + 1, 0, none⟩), .pointer (some ⟨w.heap.size + 1 + 1, 0, none⟩), .int .i64 (i : Int), v, undef, undef, undef, undef, undef, .pointer (some ⟨p, 0, none⟩), .func (.func 30) #[] #[.pointer (some ⟨w.heap.size + 1 + 1 + 1, 0, none⟩)], .int .i64 (i : Int), v, undef, undef, undef, undef, undef, undef, undef, undef, undef, undef, undef, undef, undef, undef, undef, undef, undef, undef, undef, undef, undef, undef, undef, undef, undef, undef, undef, undef, undef, undef, undef, undef, undef, undef, undef, undef, undef, undef, undef, undef, undef, undef, undef, undef, undef, undef, undef, undef, undef, undef, undef, undef, undef, undef, undef, undef, undef, undef, undef, undef, undef, undef], defers := [] }) ?assign ?body ?done (fun _ _ h => h.elim)
  case stab =>
    intro i W W' h k
    exact h.keep k (by simp <;> omega)
  case k0 => exact fun i W h => h.keep0
  case kb => exact fun i W h => h.b6
  case start => exact sat_start w p a ms.length cap c
  case assign =>
    intro i v W K hK
    gi_wp2
    exact hK
  case body =>
    intro i x xc m base W hm hi hbase hown
    rw [show ((((w.alloc _).alloc _).alloc _).alloc _).heap.size = w.heap.size + 4 by simp] at hbase
    have hil : i < ms.length := (List.getElem?_eq_some_iff.1 hm).1
    have c1 := conv_bs W (.slice x m.length xc) m (Rd.ofOwns hown)
    have c1d := fun nn => conv_bs (W.drewN nn) (.slice x m.length xc) m ((Rd.ofOwns hown).keepNon ((Keep.refl _ _).drewN nn))
    have d0 := dc_0 hi.b3
    have n0 : W.cell? ⟨w.heap.size + 1 + 1, 0, none⟩ = some (.int .i64 (i : Int)) := by simp [World.cell?, hi.b5]
    obtain ⟨g, off, rfl, e0⟩ : ∃ g off, a = some ⟨g, off, none⟩ ∧ W.cell? ⟨g, off + i, none⟩ = some (.string ⟨m.toArray⟩) := by
      obtain ⟨a', cap', e1, hx⟩ := HR.out.keepNon hi.keep0
      obtain ⟨g, off, e2, hc⟩ := hx (by intro e; rw [List.map_eq_nil_iff] at e; rw [e] at hil; simp at hil)
      injection e1 with e1
      exact ⟨g, off, e1.trans e2, hc i _ (by rw [List.getElem?_map, hm]; rfl)⟩
    have hil2 : (i : Int) < (ms.length : Int) := by omega
    have hil3 : (0 : Int) ≤ (i : Int) := by omega
    have hdec : decide (ms.length ≤ i) = false := by simp; omega
    have hdec2 : decide ((ms.length : Int) ≤ (i : Int)) = false := by simp; omega
    have HI := Lib.hid hi
    have HO := Lib.hid hown
    have hmem : m ∈ ms := List.mem_of_getElem? hm
    clear hi hown hm
    gi_wp2_with fail
    refine wpIn_region_quietR (by kernel_rfl) (by kernel_rfl) (by kernel_rfl) ?_
    repeat (gi_big_quiet_step (fail))
    refine wpQuietIn_nil ?_
    intro _ hw'
    obtain ⟨nq, hw''⟩ := hw'
    subst hw''
    gi_wp2_with fail
    have hxo : ∀ k, (Value.slice x m.length xc).ownBlock = some k → w.heap.size + 6 ≤ k := fun k e => by
      have := (HO.out.lt k e).1
      omega
    have HX := Lib.hid hxo
    have hml : m.length ≤ 1000000 := HN.out m hmem
    clear hxo c1 c1d d0 e0
    gi_loopw [39] (fun i wr => ∃ k : Nat, k ≤ m.length ∧ i = .int .i64 k ∧ Keep (fun q => (Value.slice x m.length xc).ownBlock = some q) W wr ∧ RestB wr x m k) (fun i _ => m.length - (intOf i).toNat)
    case atStart =>
      exact ⟨0, Nat.zero_le _, rfl, (Keep.refl _ _).drewN _, restB_start HO.out nq⟩
    case round =>
      obtain ⟨k, hk, rfl, hkp, hrest⟩ := hrel
      have KP := Lib.hid hkp
      have RB := Lib.hid hrest
      clear hkp hrest
      by_cases hlt : k < m.length
      · obtain ⟨g', cur, rfl, hg, hc⟩ := RB.out hlt
        have c2 : wr.cell? ⟨g', k, none⟩ = some (.int .u8 (m[k].toNat : Int)) := by
          have := hc k (Nat.le_refl _) hlt
          simp [World.cell?, hg, this, bv]
        have f2 : wr.frozen? ⟨g', k, none⟩ = false := by simp [World.frozen?, hg]
        have HG := Lib.hid hg
        have HC := Lib.hid hc
        have hlt2 : (k : Int) < (m.length : Int) := by omega
        clear hg hc n0
        gi_wp2_with fail
        go_roundw
        case rel =>
          refine ⟨k + 1, by omega, by go_num, KP.out.setCell (p := ⟨g', k, none⟩) (.inl rfl) _, fun h => ⟨g', _, rfl, blk_set HG.out k _, fun j hj1 hj2 => ?_⟩⟩
          rw [Array.getElem?_setIfInBounds, if_neg (by omega)]
          exact HC.out j (by omega) hj2
        case measure => simp [intOf]; omega
      · have e : k = m.length := by omega
        subst e
        have b5 := KP.out.at HI.out.b5 (fun h => by have := HX.out _ h; omega)
        have n0' : wr.cell? ⟨w.heap.size + 1 + 1, 0, none⟩ = some (.int .i64 (i : Int)) := by simp [World.cell?, b5]
        have n1' : wr.frozen? ⟨w.heap.size + 1 + 1, 0, none⟩ = false := by simp [World.frozen?, b5]
        have HB5 := Lib.hid b5
        clear b5 n0
        gi_wp2_with fail
        have e1 : ((i : Int) + 1) = ((i + 1 : Nat) : Int) := by omega
        rw [e1]
        have hb5 := blk_set HB5.out 0 (.int .i64 ((i + 1 : Nat) : Int))
        have e6 : ∀ q, q < w.heap.size + 4 → ¬ (Value.slice x m.length xc).ownBlock = some q := fun q hq h => by have := HX.out q h; omega
        refine ⟨⟨(HI.out.keep0.trans KP.out (fun _ _ h => h) (fun q hq h => (e6 q (by omega) h).elim)).setCell (p := ⟨w.heap.size + 1 + 1, 0, none⟩) (.inr (by simp <;> omega)) _, blk_skip (KP.out.at HI.out.b3 (e6 _ (by omega))) (by omega) 0 _, blk_skip (KP.out.at HI.out.b4 (e6 _ (by omega))) (by omega) 0 _, hb5, blk_skip (KP.out.at HI.out.b6 (e6 _ (by omega))) (by omega) 0 _⟩, ?_⟩
        exact (KP.out.mono fun q _ h => .inr h).setCell (p := ⟨w.heap.size + 1 + 1, 0, none⟩) (.inl (.inl (by simp <;> omega))) _
  case done =>
    intro W hi hK
    have HI := Lib.hid hi
    have L1 := Lib.hid (HL.out.keep hi.keep0 (fun _ _ e => e))
    have KD : Hid (W.heap[w.heap.size + 4]? = some (.deferred (some []))) := by
      rw [show ((((w.alloc _).alloc _).alloc _).alloc _).heap.size = w.heap.size + 4 by simp] at hK
      exact Lib.hid hK
    clear hi hK
    go_wp2_with fail
    refine (counts_any _ p c ms _ L1.out).mono ?_
    rintro e w6 ⟨rfl, hk6⟩
    have K6 := Lib.hid hk6
    have L6 := Lib.hid (L1.out.keep hk6 (fun _ _ e => e))
    have b3 := hk6.at HI.out.b3 (fun e => e)
    have b4 := hk6.at HI.out.b4 (fun e => e)
    have b5 := hk6.at HI.out.b5 (fun e => e)
    have d0 := dc_0 b3
    have d1 := dc_1 b3
    have d2 := dc_2 b3
    have d3 := dc_3 b3
    have d4 := dc_4 b3
    have n0 : w6.cell? ⟨w.heap.size + 1 + 1, 0, none⟩ = some (.int .i64 (ms.length : Int)) := by simp [World.cell?, b5]
    have r0 : w6.cell? ⟨w.heap.size + 1, 0, none⟩ = some (.bool false) := by simp [World.cell?, b4]
    have r1 : w6.frozen? ⟨w.heap.size + 1, 0, none⟩ = false := by simp [World.frozen?, b4]
    have B4 := Lib.hid b4
    have D6 := Lib.hid (hk6.at KD.out (fun e => e))
    have hq4 := fun (w : World) => eq_arr4 (c 0) (c 1) (c 2) (c 3) w
    clear hk6 b3 b4 b5
    go_wp2_with fail
    go_region_held3 (fun w' => w'.cell? ⟨w.heap.size + 1 + 1, 0, none⟩ = some (.int .i64 (ms.length : Int)) ∧ w'.cell? ⟨w.heap.size, 0, none⟩ = some (.slice a ms.length cap) ∧ w'.cell? ⟨w.heap.size, 1, none⟩ = some (.int .i64 (c 0)) ∧ w'.cell? ⟨w.heap.size, 2, none⟩ = some (.int .i64 (c 1)) ∧ w'.cell? ⟨w.heap.size, 3, none⟩ = some (.int .i64 (c 2)) ∧ w'.cell? ⟨w.heap.size, 4, none⟩ = some (.int .i64 (c 3)))
      (first | exact ⟨n0, d0, d1, d2, d3, d4⟩ | exact ⟨(World.cell?_setCell_other w6 _ _ _ (fun e => by injection e with e; omega)).trans n0, (World.cell?_setCell_other w6 _ _ _ (fun e => by injection e with e; omega)).trans d0, (World.cell?_setCell_other w6 _ _ _ (fun e => by injection e with e; omega)).trans d1, (World.cell?_setCell_other w6 _ _ _ (fun e => by injection e with e; omega)).trans d2, (World.cell?_setCell_other w6 _ _ _ (fun e => by injection e with e; omega)).trans d3, (World.cell?_setCell_other w6 _ _ _ (fun e => by injection e with e; omega)).trans d4⟩)
      (first
      | (go_at_call 12; refine (len_any _ p c ms _ (by exact L6.out.keep (S := Non) (Keep.refl _ _).drew (fun _ _ e => e))).mono ?_; rintro e w' ⟨rfl, rfl⟩))
    go_wp2_with fail
    have hK' : (w6.setCell ⟨w.heap.size + 1, 0, none⟩ (.bool true)).drew.heap[w.heap.size + 4]? = some (.deferred (some [])) := blk_drew (blk_skip D6.out (by omega) 0 _)
    have hr0 : (w6.setCell ⟨w.heap.size + 1, 0, none⟩ (.bool true)).drew.heap[w.heap.size + 1]? = some (.cells #[.bool true] 4 (0, 0)) := blk_drew (blk_set B4.out 0 _)
    refine ⟨by simp, .inl ⟨_, _, rfl, run_takeDeferred (by exact hK'), ?_⟩⟩
    have hK2 : Keep (One (w.heap.size + 4)) (w6.setCell ⟨w.heap.size + 1, 0, none⟩ (.bool true)).drew ((w6.setCell ⟨w.heap.size + 1, 0, none⟩ (.bool true)).drew.putObj (w.heap.size + 4) (.deferred none)) := (Keep.refl (One (w.heap.size + 4)) _).putObj (.inl (one_self _)) _
    have hr2 := hK2.at hr0 (fun h => by unfold One at h; omega)
    have hc5 : ((w6.setCell ⟨w.heap.size + 1, 0, none⟩ (.bool true)).drew.putObj (w.heap.size + 4) (.deferred none)).cell? ⟨w.heap.size + 1, 0, none⟩ = some (.bool true) := by simp [World.cell?, hr2]
    refine ⟨.bool true, by simp [results, Try.results17, go_sem, hc5], rfl, ?_⟩
    exact (((HI.out.keep0.trans1 K6.out).setCell (p := ⟨w.heap.size + 1, 0, none⟩) (.inr (by simp)) _).drew).trans hK2 (fun _ _ h => h) (fun i hi h => by unfold One at h; show False; omega)

end Go.Proofs.Ytggnkcpnbnpbhaa
