/- TransitPlays, walked. -/
import Derived.Test.YtggnkcpnbnpbhaaDo
import Derived.Test.YtggnkcpnbnpbhaaShowsNil
import Derived.Test.YtggnkcpnbnpbhaaAlive24
namespace Go.Proofs.Ytggnkcpnbnpbhaa
open Go.RowKit Go.Shelf
set_option linter.unusedVariables false
attribute [local go_sem] Oper.semAt_some

theorem is_err (n k : Int) (hn : (n != 0) = true) (w : World) : Calls Try.prog 11 #[.iface 34 (.int .i64 n), .int .i64 k] w fun e w' => e = .returned (.bool (n == k)) ∧ w = w' := by
  have := is_any n k w
  rw [errv_of (by simpa using hn)] at this
  exact this

theorem DoAt.keep {F S : Nat → Prop} {w w' : World} {p : Nat} {c : Nat → Int} {ms : List (List UInt8)} {lv : Value} (h : DoAt F w p c ms lv) (k : Keep S w w') (hF : ∀ q, F q → ¬ S q) (hd : Rd w' lv (ms.map sv)) : DoAt F w' p c ms lv :=
  ⟨h.line.keep k hF, fun q e => k.lt (h.tight q e), hd, h.fits, fun g e => ⟨(h.apart g e).1, k.lt (h.apart g e).2⟩, h.len, h.lens⟩

/-- The document's list does not lie in a block of another make. -/
theorem rd_keepM {w w' : World} {m : Nat} {lv : Value} {c : Nat → Int} {ms : List (List UInt8)} {va : Option Addr} {vn vc : Nat} (h : Rd w lv (ms.map sv)) (hm : w.heap[m]? = some (DcB (.slice va vn vc) c)) (k : Keep (One m) w w') : Rd w' lv (ms.map sv) := by
  obtain ⟨a, cap, rfl, hx⟩ := h
  refine ⟨a, cap, rfl, fun hne => ?_⟩
  obtain ⟨g, off, rfl, hc⟩ := hx hne
  refine ⟨g, off, rfl, fun j u hu => ?_⟩
  have h1 := hc j u hu
  have hgm : g ≠ m := by
    intro e
    subst e
    have hu' : ∃ l, u = sv l := by
      have := List.mem_of_getElem? hu
      obtain ⟨l, _, e⟩ := List.mem_map.1 this
      exact ⟨l, e.symm⟩
    obtain ⟨l, rfl⟩ := hu'
    rw [World.cell?, hm] at h1
    simp only [DcB] at h1
    match hj : off + j with
    | 0 => rw [hj] at h1; simp [sv] at h1
    | 1 => rw [hj] at h1; simp [sv] at h1
    | 2 => rw [hj] at h1; simp [sv] at h1
    | 3 => rw [hj] at h1; simp [sv] at h1
    | 4 => rw [hj] at h1; simp [sv] at h1
    | q + 5 => rw [hj] at h1; simp at h1
  exact (World.cell?_of_block (k.block g (World.block_lt_of_cell? _ _ h1) (fun e => hgm e))).trans h1

/-- What holds at the head of each round. -/
def PlaysAt (w wr : World) (p m : Nat) (n : Nat) : Prop :=
  ∃ F c ms a cap, Keep Non w wr ∧ DoAt F wr p c ms (.slice a ms.length cap) ∧ (∀ k, F k → w.heap.size ≤ k ∧ k ≠ m) ∧ wr.heap[m]? = some (DcB (.slice a (ms : List (List UInt8)).length cap) c) ∧ w.heap.size ≤ m ∧ ∀ j, 0 ≤ c j ∧ c j ≤ 64 * (n : Int)

set_option maxRecDepth 100000 in
set_option maxHeartbeats 6400000 in
theorem plays_some (b off len cap : Nat) (K I : Nat → Int) (T : Nat → List UInt8) (w : World) (ha : BActs w b off len K I T) (hl : len ≤ 100) :
    Calls Try.prog 5 #[.slice (some ⟨b, off, none⟩) len cap] w fun e w' => e = .returned (.bool true) ∧ Keep Non w w' := by
  have hlt := ha.lt
  have HA := Lib.hid ha
  clear ha
  refine (callsIn_wide (n := 9)).1 (callsIn_of_wp_marks Try.func5 rfl trivial ?_ rfl)
  refine wpIn_wide.2 ?_
  simp only [Try.ntmps5, List.size_toArray, List.length_cons, List.length_nil, Nat.reduceAdd, Nat.reduceSub, Array.replicate_succ, Array.replicate_zero, List.push_toArray, List.append_toArray, List.nil_append, List.cons_append]
  go_wp2_with fail
  refine (alive_true _).mono ?_
  rintro e w1 ⟨rfl, hk1⟩
  go_wp2_with fail
  refine (clear_nil _).mono ?_
  rintro e w2 ⟨rfl, rfl⟩
  go_wp2_with fail
  refine (deliver_nil 0 _).mono ?_
  rintro e w2 ⟨rfl, rfl⟩
  go_wp2_with fail
  refine (len_nil _).mono ?_
  rintro e w2 ⟨rfl, rfl⟩
  go_wp2_with fail
  refine (is_err 4 4 rfl _).mono ?_
  rintro e w2 ⟨rfl, rfl⟩
  go_wp2_with fail
  refine (send_nil _ _).mono ?_
  rintro e w2 ⟨rfl, rfl⟩
  go_wp2_with fail
  refine (is_err 4 4 rfl _).mono ?_
  rintro e w2 ⟨rfl, rfl⟩
  go_wp2_with fail
  refine (lose_nil 0 _).mono ?_
  rintro e w2 ⟨rfl, rfl⟩
  go_wp2_with fail
  refine (is_err 4 4 rfl _).mono ?_
  rintro e w2 ⟨rfl, rfl⟩
  go_wp2_with fail
  refine (twice_nil 0 _).mono ?_
  rintro e w2 ⟨rfl, rfl⟩
  go_wp2_with fail
  refine (is_err 4 4 rfl _).mono ?_
  rintro e w2 ⟨rfl, rfl⟩
  go_wp2_with fail
  refine (shows_nil _).mono ?_
  rintro e w2 ⟨rfl, hk2⟩
  go_wp2_with fail
  refine (new_line _).mono ?_
  rintro e w3 ⟨p, rfl, hp, hk3, hl3⟩
  have L3 := Lib.hid hl3.tight
  clear hl3
  go_wp2_with fail
  go_loopw [63] (fun i wr => ∃ k : Nat, k ≤ len ∧ i = .int .i64 k ∧ PlaysAt w wr p w3.heap.size k) (fun i _ => len - (intOf i).toNat)
  case atStart =>
    have e1 := hk1.size
    have e2 := hk2.size
    have e3 := hk3.size
    have kn : Keep Non w3 (w3.alloc (.cells #[.slice none 0 0, .int .i64 0, .int .i64 0, .int .i64 0, .int .i64 0] 50)) := (Keep.refl _ _).alloc _
    exact ⟨0, by omega, rfl, _, fun _ => 0, [], none, 0, ((hk1.trans1 hk2).trans1 hk3).trans1 kn, ⟨L3.out.keep kn (fun _ _ e => e), fun k e => by have := e.2; simp; omega, Rd.nil _, ⟨none, 0, 0, rfl, Nat.le_refl _, Nat.zero_le _⟩, fun g e => by simp [Value.ownBlock] at e, by simp, fun m hm => by simp at hm⟩, fun k e => ⟨by have := e.1; omega, by have := e.2; omega⟩, blk_new _ _, by omega, fun j => ⟨Int.le_refl 0, Int.le_refl 0⟩⟩
  case round =>
    obtain ⟨k, hk, rfl, F, c, ms, a, cap', KPo, hdo, hFm, hmb, hm0, hcb⟩ := hrel
    have KP := Lib.hid KPo
    have DO := Lib.hid hdo
    have FM := Lib.hid hFm
    have MB := Lib.hid hmb
    have CB := Lib.hid hcb
    have hbw := KPo.lt hlt
    have hmw := lt_of_block hmb
    clear KPo hdo hFm hmb hcb
    by_cases hlt2 : k < len
    · have ha2 := HA.out.keep KP.out
      have c0 := ha2.kind k hlt2
      have c1 := ha2.ix k hlt2
      obtain ⟨ta, tc, c2, B2⟩ := ha2.by_ k hlt2
      have HB := Lib.hid B2
      have hne : ¬ b = wr.heap.size := by omega
      have nm : ¬ w3.heap.size = wr.heap.size := by omega
      clear ha2 B2
      have d0 := dc_0 MB.out
      have d1 := dc_1 MB.out
      have d2 := dc_2 MB.out
      have d3 := dc_3 MB.out
      have d4 := dc_4 MB.out
      by_cases h66 : 66000 < (T k).length
      · have h300 : 300 < (T k).length := by omega
        have h65 : 65536 < (T k).length := by omega
        go_wp2_with fail
        exact ⟨_, results_tmp rfl _ _ _, rfl, KP.out.alloc _⟩
      by_cases h300 : 300 < (T k).length
      · by_cases h65 : (T k).length ≤ 65536
        · go_wp2_with fail
          exact ⟨_, results_tmp rfl _ _ _, rfl, KP.out.alloc _⟩
        · go_wp2_with fail
          refine (do_any F p c ms a cap' (K k) (I k) ta tc (T k) _ (DO.out.keep (S := Non) ((Keep.refl _ _).alloc _) (fun _ _ e => e) (DO.out.doc.keepNon ((Keep.refl _ _).alloc _))) (HB.out.keepNon ((Keep.refl _ _).alloc _)) (by omega) (fun j => by have := CB.out j; omega)).mono ?_
          rintro e w4 ⟨c2', ms2, a2, cap2, F2, rfl, hk4, hd4, hF4, hc4⟩
          have s4 := hk4.size
          rw [World.size_alloc] at s4
          have b4 : w4.heap[w3.heap.size]? = some (DcB (.slice a ms.length cap') c) := hk4.at (blk_alloc MB.out _) (fun e => (FM.out _ e).2 rfl)
          have D4 := Lib.hid hd4
          have KA : Hid (Keep Non w w4) := Lib.hid ((KP.out.alloc _).trans hk4 (fun _ _ h => h) (fun i hi h => by have := (FM.out i h).1; show False; omega))
          have F4 : Hid (∀ q, F2 q → w.heap.size ≤ q ∧ q ≠ w3.heap.size) := Lib.hid (fun q h => by
            rcases hF4 q h with h | h
            · exact FM.out q h
            · simp at h
              have := KP.out.size
              omega)
          have C4 := Lib.hid hc4
          have B4 := Lib.hid b4
          have hm4 := lt_of_block b4
          have y0 := dc_0 b4
          have y1 := dc_1 b4
          have y2 := dc_2 b4
          have y3 := dc_3 b4
          have y4 := dc_4 b4
          have yf := dc_f b4
          have nm4 : ¬ w3.heap.size = w4.heap.size := by omega
          have nm5 : ¬ w4.heap.size = w3.heap.size := by omega
          clear hk4 hd4 hF4 hc4 b4 d0 d1 d2 d3 d4 c0 c1 c2
          go_wp2_with fail
          have kd := dc_keep w4 w3.heap.size (.slice a2 ms2.length cap2) c2'
          have kda := kd.alloc (.cells #[.slice a2 ms2.length cap2, .int .i64 (c2' 0), .int .i64 (c2' 1), .int .i64 (c2' 2), .int .i64 (c2' 3)] 50)
          go_roundw
          case rel =>
            refine ⟨k + 1, by omega, by go_num, F2, c2', ms2, a2, cap2, KA.out.trans kda (fun _ _ h => h) (fun i hi h => by unfold One at h; show False; omega), D4.out.keep kda (fun q h e => (F4.out q h).2 e) (rd_keepM D4.out.doc B4.out kda), F4.out, blk_alloc (dc_all B4.out _ _) _, hm0, fun j => ⟨(C4.out j).1, by have h1 := (C4.out j).2; have h2 := (CB.out j).2; omega⟩⟩
          case measure => simp [intOf]; omega
      · go_wp2_with fail
        refine (do_any F p c ms a cap' (K k) (I k) ta tc (T k) _ (DO.out.keep (S := Non) ((Keep.refl _ _).alloc _) (fun _ _ e => e) (DO.out.doc.keepNon ((Keep.refl _ _).alloc _))) (HB.out.keepNon ((Keep.refl _ _).alloc _)) (by omega) (fun j => by have := CB.out j; omega)).mono ?_
        rintro e w4 ⟨c2', ms2, a2, cap2, F2, rfl, hk4, hd4, hF4, hc4⟩
        have s4 := hk4.size
        rw [World.size_alloc] at s4
        have b4 : w4.heap[w3.heap.size]? = some (DcB (.slice a ms.length cap') c) := hk4.at (blk_alloc MB.out _) (fun e => (FM.out _ e).2 rfl)
        have D4 := Lib.hid hd4
        have KA : Hid (Keep Non w w4) := Lib.hid ((KP.out.alloc _).trans hk4 (fun _ _ h => h) (fun i hi h => by have := (FM.out i h).1; show False; omega))
        have F4 : Hid (∀ q, F2 q → w.heap.size ≤ q ∧ q ≠ w3.heap.size) := Lib.hid (fun q h => by
          rcases hF4 q h with h | h
          · exact FM.out q h
          · simp at h
            have := KP.out.size
            omega)
        have C4 := Lib.hid hc4
        have B4 := Lib.hid b4
        have hm4 := lt_of_block b4
        have y0 := dc_0 b4
        have y1 := dc_1 b4
        have y2 := dc_2 b4
        have y3 := dc_3 b4
        have y4 := dc_4 b4
        have yf := dc_f b4
        have nm4 : ¬ w3.heap.size = w4.heap.size := by omega
        have nm5 : ¬ w4.heap.size = w3.heap.size := by omega
        clear hk4 hd4 hF4 hc4 b4 d0 d1 d2 d3 d4 c0 c1 c2
        go_wp2_with fail
        have kd := dc_keep w4 w3.heap.size (.slice a2 ms2.length cap2) c2'
        have kda := kd.alloc (.cells #[.slice a2 ms2.length cap2, .int .i64 (c2' 0), .int .i64 (c2' 1), .int .i64 (c2' 2), .int .i64 (c2' 3)] 50)
        go_roundw
        case rel =>
          refine ⟨k + 1, by omega, by go_num, F2, c2', ms2, a2, cap2, KA.out.trans kda (fun _ _ h => h) (fun i hi h => by unfold One at h; show False; omega), D4.out.keep kda (fun q h e => (F4.out q h).2 e) (rd_keepM D4.out.doc B4.out kda), F4.out, blk_alloc (dc_all B4.out _ _) _, hm0, fun j => ⟨(C4.out j).1, by have h1 := (C4.out j).2; have h2 := (CB.out j).2; omega⟩⟩
        case measure => simp [intOf]; omega
    · have e : k = len := by omega
      subst e
      go_wp2_with fail
      refine (all_any _ _).mono ?_
      rintro e w5 ⟨rfl, rfl⟩
      go_wp2_with fail
      refine (wpIn_wide (n := 9)).1 ?_
      refine range_all (B := wr.heap.size) (w0 := wr) (p := p) rfl rfl DO.out.line (fun m hm => by have := DO.out.lens m hm; omega) (by have := DO.out.len; omega) (fun _ W => Keep Non wr W ∧ W.heap[wr.heap.size]? = some (.cells #[.pointer (some ⟨p, 0, none⟩)] 24 (0, 0))) (fun e W => e = .exit 2 ∧ Keep Non wr W)
        (fun i W W' h k => ⟨h.1.trans k (fun _ _ h => h) (fun i hi h => by simp at h; show False; omega), k.at h.2 (by simp)⟩) (fun e W W' h k => ⟨h.1, h.2.trans k (fun _ _ h => h) (fun i hi h => by simp at h; show False; omega)⟩) (fun i W h => h.1) (fun i W h => h.2) ⟨(Keep.refl _ _).alloc _, blk_new _ _⟩ _ (fun i v W K hK => wpIn_skip hK) ?body ?done ?stop
      case body =>
        intro i x xc m base W hm hi hbase hown
        gi_wp2
        exact ⟨⟨rfl, hi.1⟩, Keep.refl _ _⟩
      case done =>
        intro W hi hK
        have KW := Lib.hid (KP.out.trans1 hi.1)
        have HK := Lib.hid hK
        clear hi hK
        go_wp2_with fail
        refine ⟨by simp, .inl ⟨_, _, rfl, run_takeDeferred (by exact HK.out), ?_⟩⟩
        exact ⟨_, results_tmp rfl _ _ _, rfl, KW.out.putObj (.inr (by simp; have := KP.out.size; omega)) _⟩
      case stop =>
        rintro e W ⟨rfl, hk⟩ hK
        have KW := Lib.hid (KP.out.trans1 hk)
        have HK := Lib.hid hK
        clear hk hK
        refine wpIn_wide.2 ?_
        go_wp2_with fail
        refine ⟨by simp, .inl ⟨_, _, rfl, run_takeDeferred (by exact HK.out), ?_⟩⟩
        exact ⟨_, results_tmp rfl _ _ _, rfl, KW.out.putObj (.inr (by simp; have := KP.out.size; omega)) _⟩

set_option maxRecDepth 100000 in
set_option maxHeartbeats 1600000 in
theorem plays_long (a : Option Addr) (len cap : Nat) (w : World) (hl : 100 < len) :
    Calls Try.prog 5 #[.slice a len cap] w fun e w' => e = .returned (.bool true) ∧ Keep Non w w' := by
  refine (callsIn_wide (n := 9)).1 (callsIn_of_wp_marks Try.func5 rfl trivial ?_ rfl)
  refine wpIn_wide.2 ?_
  simp only [Try.ntmps5, List.size_toArray, List.length_cons, List.length_nil, Nat.reduceAdd, Nat.reduceSub, Array.replicate_succ, Array.replicate_zero, List.push_toArray, List.append_toArray, List.nil_append, List.cons_append]
  go_wp2_with fail
  refine (alive_true _).mono ?_
  rintro e w1 ⟨rfl, hk1⟩
  go_wp2_with fail
  exact ⟨_, results_tmp rfl _ _ _, rfl, hk1⟩

set_option maxRecDepth 100000 in
set_option maxHeartbeats 3200000 in
theorem plays_nil (a : Option Addr) (cap : Nat) (w : World) :
    Calls Try.prog 5 #[.slice a 0 cap] w fun e w' => e = .returned (.bool true) ∧ Keep Non w w' := by
  refine (callsIn_wide (n := 9)).1 (callsIn_of_wp_marks Try.func5 rfl trivial ?_ rfl)
  refine wpIn_wide.2 ?_
  simp only [Try.ntmps5, List.size_toArray, List.length_cons, List.length_nil, Nat.reduceAdd, Nat.reduceSub, Array.replicate_succ, Array.replicate_zero, List.push_toArray, List.append_toArray, List.nil_append, List.cons_append]
  go_wp2_with fail
  refine (alive_true _).mono ?_
  rintro e w1 ⟨rfl, hk1⟩
  go_wp2_with fail
  refine (clear_nil _).mono ?_
  rintro e w2 ⟨rfl, rfl⟩
  go_wp2_with fail
  refine (deliver_nil 0 _).mono ?_
  rintro e w2 ⟨rfl, rfl⟩
  go_wp2_with fail
  refine (len_nil _).mono ?_
  rintro e w2 ⟨rfl, rfl⟩
  go_wp2_with fail
  refine (is_err 4 4 rfl _).mono ?_
  rintro e w2 ⟨rfl, rfl⟩
  go_wp2_with fail
  refine (send_nil _ _).mono ?_
  rintro e w2 ⟨rfl, rfl⟩
  go_wp2_with fail
  refine (is_err 4 4 rfl _).mono ?_
  rintro e w2 ⟨rfl, rfl⟩
  go_wp2_with fail
  refine (lose_nil 0 _).mono ?_
  rintro e w2 ⟨rfl, rfl⟩
  go_wp2_with fail
  refine (is_err 4 4 rfl _).mono ?_
  rintro e w2 ⟨rfl, rfl⟩
  go_wp2_with fail
  refine (twice_nil 0 _).mono ?_
  rintro e w2 ⟨rfl, rfl⟩
  go_wp2_with fail
  refine (is_err 4 4 rfl _).mono ?_
  rintro e w2 ⟨rfl, rfl⟩
  go_wp2_with fail
  refine (shows_nil _).mono ?_
  rintro e w2 ⟨rfl, hk2⟩
  go_wp2_with fail
  refine (new_line _).mono ?_
  rintro e w3 ⟨p, rfl, hp, hk3, hl3⟩
  have L3 := Lib.hid hl3.tight
  clear hl3
  go_wp2_with fail
  refine wp_loop_rounds 1 ?_
  rw [rounds_succ]
  go_wp2_with fail
  refine (all_any _ _).mono ?_
  rintro e w5 ⟨rfl, rfl⟩
  go_wp2_with fail
  refine (wpIn_wide (n := 9)).1 ?_
  have KW0 : Keep Non w (w3.alloc (.cells #[.slice none 0 0, .int .i64 0, .int .i64 0, .int .i64 0, .int .i64 0] 50)) := ((hk1.trans1 hk2).trans1 hk3).alloc _
  have sz := KW0.size
  rw [World.size_alloc] at sz
  have b6 := blk_new (w3.alloc (.cells #[.slice none 0 0, .int .i64 0, .int .i64 0, .int .i64 0, .int .i64 0] 50)) (.cells #[.pointer (some ⟨p, 0, none⟩)] 24)
  rw [World.size_alloc] at b6
  refine range_all (B := w3.heap.size + 1) (w0 := w3) (p := p) rfl rfl L3.out (fun m hm => by simp at hm) (by simp) (fun _ W => Keep Non w3 W ∧ W.heap[w3.heap.size + 1]? = some (.cells #[.pointer (some ⟨p, 0, none⟩)] 24 (0, 0))) (fun _ _ => False)
    (fun i W W' h k => ⟨h.1.trans k (fun _ _ h => h) (fun i hi h => by simp at h; show False; omega), k.at h.2 (by simp)⟩) (fun _ _ _ h => h.elim) (fun i W h => h.1) (fun i W h => h.2) ⟨((Keep.refl _ _).alloc _).alloc _, b6⟩ _ (fun i v W K hK => wpIn_skip hK) ?body ?done (fun _ _ h => h.elim)
  case body =>
    intro i x xc m base W hm
    simp at hm
  case done =>
    intro W hi hK
    have KW := Lib.hid (((hk1.trans1 hk2).trans1 hk3).trans1 hi.1)
    have HK := Lib.hid hK
    clear hi hK
    go_wp2_with fail
    refine ⟨by simp, .inl ⟨_, _, rfl, run_takeDeferred (by exact HK.out), ?_⟩⟩
    exact ⟨_, results_tmp rfl _ _ _, rfl, KW.out.putObj (.inr (by simp; omega)) _⟩

end Go.Proofs.Ytggnkcpnbnpbhaa
