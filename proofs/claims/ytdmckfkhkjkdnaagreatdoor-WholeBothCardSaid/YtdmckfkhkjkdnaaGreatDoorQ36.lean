/- A line of messages in memory; a message is added. · 'add' of a line, walked. · Send, Len, has and New of a line, walked. · slices.Delete of one messag -/
import Derived.Deep.RegionWith
import Derived.Deep.QuietTactic
import Derived.BigQuiet
import Derived.Test.YtdmckfkhkjkdnaaGreatDoorQ25
set_option linter.unusedVariables false
set_option maxRecDepth 100000
set_option maxHeartbeats 16000000
namespace Go.Proofs.YtdmckfkhkjkdnaaGreatDoor.Tr
open Go.Proofs.YtdmckfkhkjkdnaaGreatDoor
set_option maxRecDepth 100000
open Go.RowKit
def LnB (c : Nat → Int) (v : Value) : Obj := .cells #[.int .i64 (c 0), .int .i64 (c 1), .int .i64 (c 2), .int .i64 (c 3), v] 145 (0, 0)
def bump (c : Nat → Int) (i : Nat) : Nat → Int := fun j => if j = i then c j + 1 else c j
section
variable {w : World} {p : Nat} {c : Nat → Int} {v : Value}
theorem ln_c (h : w.heap[p]? = some (LnB c v)) (i : Nat) (hi : i < 4) : w.cell? ⟨p, i, none⟩ = some (.int .i64 (c i)) := by
  match i, hi with
  | 0, _ => simp [World.cell?, h, LnB]
  | 1, _ => simp [World.cell?, h, LnB]
  | 2, _ => simp [World.cell?, h, LnB]
  | 3, _ => simp [World.cell?, h, LnB]
theorem ln_v (h : w.heap[p]? = some (LnB c v)) : w.cell? ⟨p, 4, none⟩ = some v := by simp [World.cell?, h, LnB]
theorem ln_f (h : w.heap[p]? = some (LnB c v)) (i : Nat) : w.frozen? ⟨p, i, none⟩ = false := by simp [World.frozen?, h, LnB]
theorem ln_set (h : w.heap[p]? = some (LnB c v)) (u : Value) : (w.setCell ⟨p, 4, none⟩ u).heap[p]? = some (LnB c u) := blk_set h 4 u
theorem ln_bump (h : w.heap[p]? = some (LnB c v)) (i : Nat) (hi : i < 4) : (w.setCell ⟨p, i, none⟩ (.int .i64 (c i + 1))).heap[p]? = some (LnB (bump c i) v) := by
  match i, hi with
  | 0, _ => exact blk_set h 0 _
  | 1, _ => exact blk_set h 1 _
  | 2, _ => exact blk_set h 2 _
  | 3, _ => exact blk_set h 3 _
end
def Msgs (F : Nat → Prop) (w : World) (p : Nat) (v : Value) (vs : List Value) (ms : List (List UInt8)) : Prop :=
  vs.length = ms.length ∧ ∀ (i : Nat) (u : Value) (l : List UInt8), vs[i]? = some u → ms[i]? = some l → Bs w u l ∧ (∀ g, u.ownBlock = some g → F g ∧ g ≠ p ∧ v.ownBlock ≠ some g ∧ g < w.heap.size)
def Line (F : Nat → Prop) (w : World) (p : Nat) (c : Nat → Int) (ms : List (List UInt8)) : Prop :=
  ∃ v vs, w.heap[p]? = some (LnB c v) ∧ w.ownsRow 0 48 1 v vs.length vs ∧ (∀ g, v.ownBlock = some g → F g ∧ g ≠ p) ∧ Msgs F w p v vs ms ∧ F p ∧ (∀ u ∈ vs, u.oneCell' = true)
def Fx (F : Nat → Prop) (w : World) : Nat → Prop := fun k => F k ∨ w.heap.size ≤ k
theorem Line.mono {F G : Nat → Prop} {w : World} {p : Nat} {c : Nat → Int} {ms : List (List UInt8)} (h : Line F w p c ms) (hs : ∀ k, F k → G k) : Line G w p c ms := by
  obtain ⟨v, vs, h1, h2, h3, ⟨h4, h5⟩, h6, h7⟩ := h
  exact ⟨v, vs, h1, h2, fun g e => ⟨hs g (h3 g e).1, (h3 g e).2⟩, ⟨h4, fun i u l hu hl => ⟨(h5 i u l hu hl).1, fun g e => ⟨hs g ((h5 i u l hu hl).2 g e).1, ((h5 i u l hu hl).2 g e).2⟩⟩⟩, hs p h6, h7⟩
theorem ownsRow_keep {S : Nat → Prop} {w w' : World} {base : Nat} {e : TypeId} {size : Nat} {v : Value} {n : Nat} {xs : List Value} (h : w.ownsRow base e size v n xs) (k : Keep S w w') (hn : ∀ g, v.ownBlock = some g → ¬ S g) : w'.ownsRow base e size v n xs := by
  obtain ⟨h1, h2⟩ := h
  refine ⟨h1, ?_⟩
  rcases h2 with h2 | ⟨g, cap, cur, rfl, hb, hg, rest⟩
  · exact .inl h2
  · exact .inr ⟨g, cap, cur, rfl, hb, k.at hg (hn g rfl), rest⟩
theorem Line.keep {F S : Nat → Prop} {w w' : World} {p : Nat} {c : Nat → Int} {ms : List (List UInt8)} (h : Line F w p c ms) (k : Keep S w w') (hn : ∀ g, F g → ¬ S g) : Line F w' p c ms := by
  obtain ⟨v, vs, h1, h2, h3, ⟨h4, h5⟩, h6, h7⟩ := h
  exact ⟨v, vs, k.at h1 (hn p h6), ownsRow_keep h2 k (fun g e => hn g (h3 g e).1), h3, ⟨h4, fun i u l hu hl => ⟨(h5 i u l hu hl).1.keep k (fun g e => hn g ((h5 i u l hu hl).2 g e).1), fun g e => ⟨((h5 i u l hu hl).2 g e).1, ((h5 i u l hu hl).2 g e).2.1, ((h5 i u l hu hl).2 g e).2.2.1, k.lt ((h5 i u l hu hl).2 g e).2.2.2⟩⟩⟩, h6, h7⟩
theorem Line.tight {F : Nat → Prop} {w : World} {p : Nat} {c : Nat → Int} {ms : List (List UInt8)} (h : Line F w p c ms) : Line (fun k => F k ∧ k < w.heap.size) w p c ms := by
  obtain ⟨v, vs, h1, h2, h3, ⟨h4, h5⟩, h6, h7⟩ := h
  exact ⟨v, vs, h1, h2, fun g e => ⟨⟨(h3 g e).1, (h2.lt g e).2⟩, (h3 g e).2⟩, ⟨h4, fun i u l hu hl => ⟨(h5 i u l hu hl).1, fun g e => ⟨⟨((h5 i u l hu hl).2 g e).1, ((h5 i u l hu hl).2 g e).2.2.2⟩, ((h5 i u l hu hl).2 g e).2⟩⟩⟩, ⟨h6, lt_of_block h1⟩, h7⟩
theorem aadd_any (b i : Nat) (v : Int) (w : World) (h : w.cell? ⟨b, i, none⟩ = some (.int .i64 v)) (hf : w.frozen? ⟨b, i, none⟩ = false) (h0 : 0 ≤ v) (h1 : v ≤ 1000000) :
    Calls Tryz.prog 129 #[.pointer (some ⟨b, i, none⟩), .int .i64 1] w fun e w' => e = .returned (.int .i64 (v + 1)) ∧ w' = w.setCell ⟨b, i, none⟩ (.int .i64 (v + 1)) := by
  have hl := run_call_add (P := Tryz.prog) Tryz.func197 (by kernel_rfl) (by kernel_rfl) (by kernel_rfl) .i64 (by kernel_rfl) (y := 1) (s := v + 1) h hf (by simp [go_sem, IntWalk.i64_in _ (show -9223372036854775808 ≤ v + 1 ∧ v + 1 ≤ 9223372036854775807 by omega)])
  go_enter Tryz.func129, Tryz.ntmps129
  go_wp2
  go_ret
  exact ⟨rfl, rfl⟩
set_option maxRecDepth 100000
open Go.RowKit
theorem infoBs : (Tryz.prog.info? 48).map (fun i => (i.zero, i.size, i.bytes)) = some (some (.slice none 0 0), 1, 24) := by kernel_rfl
theorem ownsRow_form {w : World} {base : Nat} {e : TypeId} {size : Nat} {v : Value} {n : Nat} {xs : List Value} (h : w.ownsRow base e size v n xs) : ∃ a cap, v = .slice a n cap ∧ n ≤ cap ∧ cap ≤ maxLen := by
  rcases h.2 with ⟨rfl, rfl⟩ | ⟨g, cap, cur, rfl, _, _, h1, h2, _⟩
  · exact ⟨none, 0, rfl, by omega, by simp [maxLen]⟩
  · exact ⟨_, cap, rfl, h1, h2⟩
theorem add_full (b : Value) (p i : Nat) (c : Nat → Int) (v : Value) (vs : List Value) (w : World) (h1 : w.heap[p]? = some (LnB c v)) (h2 : w.ownsRow 0 48 1 v vs.length vs) (hl : 64 ≤ vs.length) :
    Calls Tryz.prog 62 #[.pointer (some ⟨p, 0, none⟩), b, .pointer (some ⟨p, i, none⟩)] w fun e w' => e = .returned (.iface 84 (.int .i64 5)) ∧ w = w' := by
  have m4 := ln_v h1
  obtain ⟨a, cap, rfl, _, _⟩ := ownsRow_form h2
  clear h1 h2
  go_enter Tryz.func62, Tryz.ntmps62
  go_wp2_with fail
  go_ret
  exact ⟨rfl, rfl⟩
theorem add_ok (F : Nat → Prop) (b : Value) (l : List UInt8) (p i : Nat) (c : Nat → Int) (v : Value) (vs : List Value) (ms : List (List UInt8)) (w : World)
    (h1 : w.heap[p]? = some (LnB c v)) (h2 : w.ownsRow 0 48 1 v vs.length vs) (h3 : ∀ g, v.ownBlock = some g → F g ∧ g ≠ p) (h4 : Msgs F w p v vs ms) (fp : F p) (h7 : ∀ u ∈ vs, u.oneCell' = true)
    (hb : Bs w b l) (hbf : ∀ g, b.ownBlock = some g → F g ∧ g ≠ p ∧ v.ownBlock ≠ some g ∧ g < w.heap.size) (hi : i < 4) (hc0 : 0 ≤ c i) (hc1 : c i ≤ 1000000) (hl : vs.length < 64) :
    Calls Tryz.prog 62 #[.pointer (some ⟨p, 0, none⟩), b, .pointer (some ⟨p, i, none⟩)] w fun e w' => e = .returned .nilIface ∧ Keep F w w' ∧ Line (Fx F w) w' p (bump c i) (ms ++ [l]) := by
  have m4 := ln_v h1
  obtain ⟨i0, hi0, hz0, hz1, hz2⟩ := info_parts infoBs
  have hbs := hb
  obtain ⟨ba, bc, rfl, hbx⟩ := hb
  rw [List.length_map] at hbs hbf ⊢
  obtain ⟨a, cap, rfl, hcap, hcm⟩ := ownsRow_form h2
  have hown : Hid ((w.alloc (.cells #[.slice ba l.length bc] 48)).ownsRow 0 48 1 (.slice a vs.length cap) vs.length vs) := h2.alloc _
  have hpl := lt_of_block h1
  have H1 := Lib.hid h1
  have H3 := Lib.hid h3
  have H4 := Lib.hid h4
  have HB := Lib.hid hbs
  have HF := Lib.hid hbf
  have H7 := Lib.hid h7
  clear h1 h3 h4 hbs hbf hbx h7
  go_enter Tryz.func62, Tryz.ntmps62
  go_wp2_with (at_builtin; refine wpList_append_prov rfl _ _ 143 rfl 0 48 i0 (.slice none 0 0) 1 24 Tryz.underlying143 hi0 hz0 hz1 hz2 rfl (by decide) _ _ _ rfl hown.out ⟨w.heap.size, 0, none⟩ 1 1 [.slice ba l.length bc] rfl rfl ?c1 (by intro u hu; simp at hu; subst hu; rfl) (by unfold maxLen; omega) (by omega) (by omega) ?_; rotate_left; intro v' w' ho hg hp; obtain ⟨a', cap', rfl, _, _⟩ := ownsRow_form ho; have HO := Lib.hid ho; have HP := Lib.hid hp; have HG := Lib.hid hg; have hk : Keep (fun k => (Value.slice a vs.length cap).ownBlock = some k) (w.alloc (.cells #[.slice ba l.length bc] 48)) w' := (Keep.refl _ _).grown hg (fun k e => .inl e); have hpw := hk.at (blk_alloc H1.out _) (fun e => (H3.out p e).2 rfl); have n4 := ln_v hpw; have n5 := ln_f hpw 4; have NP := Lib.hid hpw; clear ho hp hg hpw)
  · refine (aadd_any p i (c i) _ ?_ ?_ hc0 hc1).mono ?_
    · exact ln_c (ln_set NP.out _) i hi
    · exact ln_f (ln_set NP.out _) i
    rintro e w5 ⟨rfl, rfl⟩
    go_wp2_with fail
    go_ret
    have hwk : Keep F w ((w'.setCell ⟨p, 4, none⟩ (.slice a' (vs.length + 1) cap')).setCell ⟨p, i, none⟩ (.int .i64 (c i + 1))) := by
      refine Keep.setCell (p := ⟨p, i, none⟩) (Keep.setCell (p := ⟨p, 4, none⟩) ?_ (.inl fp) _) (.inl fp) _
      exact ((Keep.refl F w).alloc _).trans hk (fun _ _ h => h) (fun k hk' e => (H3.out k e).1)
    have hwkp : Keep (fun k => k = p ∨ (Value.slice a vs.length cap).ownBlock = some k) w ((w'.setCell ⟨p, 4, none⟩ (.slice a' (vs.length + 1) cap')).setCell ⟨p, i, none⟩ (.int .i64 (c i + 1))) := by
      refine Keep.setCell (p := ⟨p, i, none⟩) (Keep.setCell (p := ⟨p, 4, none⟩) ?_ (.inl (.inl rfl)) _) (.inl (.inl rfl)) _
      exact ((Keep.refl (fun k => k = p ∨ (Value.slice a vs.length cap).ownBlock = some k) w).alloc _).trans hk (fun _ _ h => h) (fun k hk' e => .inr e)
    refine ⟨rfl, hwk, .slice a' (vs.length + 1) cap', vs ++ [.slice ba l.length bc], ln_bump (ln_set NP.out _) i hi, ?_, ?_, ?_, .inl fp, ?_⟩
    · have h := HO.out
      rw [show vs.length + 1 = (vs ++ [Value.slice ba l.length bc]).length by simp] at h ⊢
      refine ownsRow_keep h (S := One p) (((Keep.refl _ _).setOne _ _).setOne _ _) (fun g e e2 => ?_)
      unfold One at e2
      subst e2
      rcases HP.out with e3 | e3
      · exact (H3.out g (e3.symm.trans (by rw [List.length_append] at e; exact e))).2 rfl
      · rw [List.length_append] at e
        have := e3.symm.trans e
        simp at this
        omega
    · intro g e
      rcases HP.out with e3 | e3
      · have := H3.out g (e3.symm.trans e)
        exact ⟨.inl this.1, this.2⟩
      · have := e3.symm.trans e
        simp at this
        exact ⟨.inr (by omega), by omega⟩
    · obtain ⟨q1, q2⟩ := H4.out
      refine ⟨by simp [q1], fun j u m hu hm => ?_⟩
      by_cases hj : j < vs.length
      · rw [List.getElem?_append_left hj] at hu
        rw [List.getElem?_append_left (by omega)] at hm
        obtain ⟨r1, r2⟩ := q2 j u m hu hm
        refine ⟨r1.keep hwkp (fun g e e2 => ?_), fun g e => ?_⟩
        · rcases e2 with e2 | e2
          · exact (r2 g e).2.1 e2
          · exact (r2 g e).2.2.1 e2
        · obtain ⟨t1, t2, t3, t4⟩ := r2 g e
          refine ⟨.inl t1, t2, fun e5 => ?_, hwk.lt t4⟩
          rcases HP.out with e3 | e3
          · exact t3 (e3.symm.trans e5)
          · have := e3.symm.trans e5
            simp at this
            omega
      · rw [List.getElem?_append_right (by omega)] at hu
        rw [List.getElem?_append_right (by omega)] at hm
        have hj0 : j - vs.length = 0 := by
          cases hjj : j - vs.length with
          | zero => rfl
          | succ k => rw [hjj] at hu; simp at hu
        have hj1 : j - ms.length = 0 := by omega
        rw [hj0] at hu
        rw [hj1] at hm
        simp at hu hm
        subst hu
        subst hm
        refine ⟨HB.out.keep hwkp (fun g e e2 => ?_), fun g e => ?_⟩
        · rcases e2 with e2 | e2
          · exact (HF.out g e).2.1 e2
          · exact (HF.out g e).2.2.1 e2
        · obtain ⟨t1, t2, t3, t4⟩ := HF.out g e
          refine ⟨.inl t1, t2, fun e5 => ?_, hwk.lt t4⟩
          rcases HP.out with e3 | e3
          · exact t3 (e3.symm.trans e5)
          · have := e3.symm.trans e5
            simp at this
            omega
    · intro u hu
      rcases List.mem_append.1 hu with hu | hu
      · exact H7.out u hu
      · simp at hu
        subst hu
        rfl
  · intro j u hu
    cases j with
    | zero =>
      simp at hu
      subst hu
      exact World.cell?_alloc_new _ _ _ 0
    | succ j => simp at hu
set_option maxRecDepth 100000
open Go.RowKit
theorem new_raw (w : World) :
    Calls Tryz.prog 20 #[] w fun e w' => e = .returned (.pointer (some ⟨w.heap.size, 0, none⟩)) ∧ w' = w.alloc (LnB (fun _ => 0) (.slice none 0 0)) := by
  go_enter Tryz.func20, Tryz.ntmps20
  go_wp2
  go_ret
  exact ⟨rfl, rfl⟩
theorem new_line (w : World) :
    Calls Tryz.prog 20 #[] w fun e w' => ∃ p, e = .returned (.pointer (some ⟨p, 0, none⟩)) ∧ w.heap.size ≤ p ∧ Keep Non w w' ∧ Line (fun k => w.heap.size ≤ k) w' p (fun _ => 0) [] := by
  refine (new_raw w).mono ?_
  rintro e w' ⟨rfl, rfl⟩
  exact ⟨_, rfl, Nat.le_refl _, (Keep.refl _ _).alloc _, .slice none 0 0, [], blk_new _ _, World.ownsRow_nil _ _ _ _, fun g e => by simp [Value.ownBlock] at e, ⟨rfl, fun i u l hu => by simp at hu⟩, Nat.le_refl _, fun u hu => by simp at hu⟩
theorem Line.len {F : Nat → Prop} {w : World} {p : Nat} {c : Nat → Int} {ms : List (List UInt8)} (h : Line F w p c ms) :
    ∃ a cap, w.cell? ⟨p, 4, none⟩ = some (.slice a ms.length cap) := by
  obtain ⟨v, vs, h1, h2, _, ⟨h4, _⟩, _⟩ := h
  obtain ⟨a, cap, rfl, _⟩ := ownsRow_form h2
  exact ⟨a, cap, by rw [← h4]; exact ln_v h1⟩
theorem has_no (F : Nat → Prop) (p : Nat) (c : Nat → Int) (ms : List (List UInt8)) (i : Int) (w : World) (h : Line F w p c ms) (hi : i < 0 ∨ (0 ≤ i ∧ (ms.length : Int) ≤ i)) :
    Calls Tryz.prog 64 #[.pointer (some ⟨p, 0, none⟩), .int .i64 i] w fun e w' => e = .returned (.iface 84 (.int .i64 1)) ∧ w = w' := by
  obtain ⟨a, cap, m4⟩ := h.len
  clear h
  rcases hi with hi | ⟨hi, hi2⟩
  all_goals
    go_enter Tryz.func64, Tryz.ntmps64
    go_wp2
    go_ret
    exact ⟨rfl, rfl⟩
theorem has_yes (F : Nat → Prop) (p : Nat) (c : Nat → Int) (ms : List (List UInt8)) (i : Int) (w : World) (h : Line F w p c ms) (hi : 0 ≤ i) (hi2 : i < (ms.length : Int)) :
    Calls Tryz.prog 64 #[.pointer (some ⟨p, 0, none⟩), .int .i64 i] w fun e w' => e = .returned .nilIface ∧ w = w' := by
  obtain ⟨a, cap, m4⟩ := h.len
  clear h
  go_enter Tryz.func64, Tryz.ntmps64
  go_wp2
  go_ret
  exact ⟨rfl, rfl⟩
theorem add_new (F : Nat → Prop) (b : Value) (l : List UInt8) (p i : Nat) (c : Nat → Int) (ms : List (List UInt8)) (w0 w : World) (h0 : Line F w0 p c ms) (hk0 : Keep Non w0 w)
    (hb : Bs w b l) (hbf : ∀ g, b.ownBlock = some g → w0.heap.size ≤ g ∧ g < w.heap.size) (hi : i < 4) (hc0 : 0 ≤ c i) (hc1 : c i ≤ 1000000) (hl : ms.length < 64) :
    Calls Tryz.prog 62 #[.pointer (some ⟨p, 0, none⟩), b, .pointer (some ⟨p, i, none⟩)] w fun e w' => e = .returned .nilIface ∧ Keep (Fx F w0) w w' ∧ Line (Fx F w0) w' p (bump c i) (ms ++ [l]) := by
  have hsz := hk0.size
  obtain ⟨v, vs, h1, h2, h3, ⟨h4, h5⟩, h6, h7⟩ := h0
  have hp := lt_of_block h1
  have k1 := hk0.at h1 (fun e => e)
  have k2 := ownsRow_keep h2 hk0 (fun _ _ e => e)
  refine (add_ok (Fx F w0) b l p i c v vs ms w k1 k2 (fun g e => ⟨.inl (h3 g e).1, (h3 g e).2⟩) ⟨h4, fun j u m hu hm => ⟨(h5 j u m hu hm).1.keep hk0 (fun _ _ e => e), fun g e => ⟨.inl ((h5 j u m hu hm).2 g e).1, ((h5 j u m hu hm).2 g e).2.1, ((h5 j u m hu hm).2 g e).2.2.1, hk0.lt ((h5 j u m hu hm).2 g e).2.2.2⟩⟩⟩ (.inl h6) h7 hb ?_ hi hc0 hc1 (by omega)).mono ?_
  · intro g e
    have hg := hbf g e
    refine ⟨.inr hg.1, by omega, fun e2 => ?_, hg.2⟩
    have hv := h2.lt g e2
    omega
  · rintro e w' ⟨rfl, hk, hl'⟩
    exact ⟨rfl, hk, hl'.mono (fun k hk' => by rcases hk' with (hk' | hk') | hk'; exact .inl hk'; exact .inr hk'; exact .inr (by omega))⟩
theorem add_newFull (F : Nat → Prop) (b : Value) (p i : Nat) (c : Nat → Int) (ms : List (List UInt8)) (w : World) (h : Line F w p c ms) (hl : 64 ≤ ms.length) :
    Calls Tryz.prog 62 #[.pointer (some ⟨p, 0, none⟩), b, .pointer (some ⟨p, i, none⟩)] w fun e w' => e = .returned (.iface 84 (.int .i64 5)) ∧ w = w' := by
  obtain ⟨v, vs, h1, h2, h3, ⟨h4, h5⟩, h6, h7⟩ := h
  exact add_full b p i c v vs w h1 h2 (by omega)
theorem send_ok (F : Nat → Prop) (p : Nat) (c : Nat → Int) (ms : List (List UInt8)) (b : Value) (l : List UInt8) (w : World) (h : Line F w p c ms) (hb : Bs w b l) (hl : l.length ≤ 65536) (hm : ms.length < 64) (hc0 : 0 ≤ c 0) (hc1 : c 0 ≤ 1000000) :
    Calls Tryz.prog 22 #[.pointer (some ⟨p, 0, none⟩), b] w fun e w' => e = .returned .nilIface ∧ Keep F w w' ∧ Line (Fx F w) w' p (bump c 0) (ms ++ [l]) := by
  have hb0 := hb
  obtain ⟨a, cap, rfl, _⟩ := hb
  rw [List.length_map] at hb0 ⊢
  have H := Lib.hid h
  have HB := Lib.hid hb0
  have HL := Lib.hid hl
  clear h hb0
  go_enter Tryz.func22, Tryz.ntmps22
  go_wp2_with fail
  go_region_with (first
    | (go_at_call 63; refine (clone_any _ l _ (by exact HB.out) (by have := HL.out; omega)).mono ?_; rintro e w1 ⟨v1, rfl, hk1, hb1, hf1⟩; have HK : Hid (Keep Non w w1) := ⟨hk1.os, hk1.tape, hk1.output, hk1.size, hk1.block⟩; have HB1 := Lib.hid hb1; have HF1 := Lib.hid hf1; clear hk1 hb1 hf1)
    | (go_at_call 62; refine (add_new F _ l p 0 c ms _ _ H.out HK.out HB1.out HF1.out (by omega) hc0 hc1 hm).mono ?_; rintro e w2 ⟨rfl, hk2, hl2⟩; have HK2 := Lib.hid hk2; have HL2 := Lib.hid hl2; clear hk2 hl2))
  go_wp2_with fail
  go_ret
  exact ⟨rfl, HK.out.trans HK2.out (fun _ _ h => h.elim) (fun i hi h => by rcases h with h | h; exact h; omega), HL2.out⟩
theorem send_full (F : Nat → Prop) (p : Nat) (c : Nat → Int) (ms : List (List UInt8)) (b : Value) (l : List UInt8) (w : World) (h : Line F w p c ms) (hb : Bs w b l) (hl : l.length ≤ 65536) (hm : 64 ≤ ms.length) :
    Calls Tryz.prog 22 #[.pointer (some ⟨p, 0, none⟩), b] w fun e w' => e = .returned (.iface 84 (.int .i64 5)) ∧ Keep Non w w' := by
  have hb0 := hb
  obtain ⟨a, cap, rfl, _⟩ := hb
  rw [List.length_map] at hb0 ⊢
  have H := Lib.hid h
  have HB := Lib.hid hb0
  have HL := Lib.hid hl
  clear h hb0
  go_enter Tryz.func22, Tryz.ntmps22
  go_wp2_with fail
  go_region_with (first
    | (go_at_call 63; refine (clone_any _ l _ (by exact HB.out) (by have := HL.out; omega)).mono ?_; rintro e w1 ⟨v1, rfl, hk1, hb1, hf1⟩; have HK : Hid (Keep Non w w1) := ⟨hk1.os, hk1.tape, hk1.output, hk1.size, hk1.block⟩; clear hk1 hb1 hf1)
    | (go_at_call 62; refine (add_newFull F _ p 0 c ms _ (H.out.keep HK.out (fun _ _ e => e)) hm).mono ?_; rintro e w2 ⟨rfl, rfl⟩))
  go_wp2_with fail
  go_ret
  exact ⟨rfl, HK.out⟩
set_option maxRecDepth 100000
open Go.RowKit
def over (cs : Array Value) : Nat → List Value → Array Value
  | _, [] => cs
  | o, v :: r => over (cs.setIfInBounds o v) (o + 1) r
theorem over_size : ∀ (vs : List Value) (cs : Array Value) (o : Nat), (over cs o vs).size = cs.size
  | [], _, _ => rfl
  | v :: r, cs, o => by rw [over, over_size r]; simp
theorem over_get : ∀ (vs : List Value) (cs : Array Value) (o k : Nat), o + vs.length ≤ cs.size → (over cs o vs)[k]? = if o ≤ k ∧ k < o + vs.length then vs[k - o]? else cs[k]?
  | [], cs, o, k, _ => by simp [over]; omega
  | v :: r, cs, o, k, h => by
    simp only [List.length_cons] at h
    rw [over, over_get r _ _ _ (by simp; omega)]
    by_cases h1 : k = o
    · subst h1
      rw [if_neg (by omega), if_pos (by simp)]
      simp [show k < cs.size by omega]
    · by_cases h2 : o + 1 ≤ k ∧ k < o + 1 + r.length
      · rw [if_pos h2, if_pos (by simp only [List.length_cons]; omega)]
        rw [show k - o = (k - (o + 1)) + 1 by omega]
        rfl
      · rw [if_neg h2, if_neg (by simp only [List.length_cons]; omega)]
        rw [Array.getElem?_setIfInBounds]
        rw [if_neg (by omega)]
theorem blk_over : ∀ (vs : List Value) (w : World) (g o : Nat) (cs : Array Value) (t : TypeId) (fr : Nat × Nat), w.heap[g]? = some (.cells cs t fr) → (w.setCells g o vs).heap[g]? = some (.cells (over cs o vs) t fr)
  | [], _, _, _, _, _, _, h => h
  | v :: r, _, g, o, _, t, fr, h => blk_over r _ g (o + 1) _ t fr (blk_set h o v)
theorem Keep.setCells {S : Nat → Prop} {a : World} : ∀ (vs : List Value) (w : World) (g o : Nat), Keep S a w → (S g ∨ a.heap.size ≤ g) → Keep S a (w.setCells g o vs)
  | [], _, _, _, h, _ => h
  | v :: r, _, g, o, h, hg => Keep.setCells r _ g (o + 1) (h.setCell (p := ⟨g, o, none⟩) hg v) hg
theorem zeroBs (w : World) : (zeroValue 48).run Tryz.prog w = .ok (.slice none 0 0) w := by kernel_rfl
theorem clear_one (g k c : Nat) (ty : TypeId) (u : Value) (W : World) (hc : W.cell? ⟨g, k, none⟩ = some u) (hf : W.frozen? ⟨g, k, none⟩ = false) :
    (Builtin.clear_ #[143] ty #[.slice (some ⟨g, k, none⟩) 1 c]).run Tryz.prog W = .ok (.tuple #[]) (W.setCell ⟨g, k, none⟩ (.slice none 0 0)) := by
  have hz := zeroBs
  simp [Builtin.clear_, run_underlying Tryz.underlying143, hz, Builtin.zeroCells, storeCells, go_sem, hc, hf]
theorem del_walk (g n cap i : Nat) (cur : Array Value) (w : World) (hg : w.heap[g]? = some (.cells cur 48 (0, 0))) (hs : cur.size = cap) (hi : i < n) (hl : n ≤ cap) (hm : cap ≤ 9223372036854775807) (h1 : ∀ u ∈ cur.toList.take n, u.oneCell' = true) :
    Calls Tryz.prog 130 #[.slice (some ⟨g, 0, none⟩) n cap, .int .i64 i, .int .i64 (i + 1)] w fun e w' => e = .returned (.slice (some ⟨g, 0, none⟩) (n - 1) cap) ∧ w' = (w.drew.setCells g i ((cur.toList.take n).drop (i + 1))).setCell ⟨g, n - 1, none⟩ (.slice none 0 0) := by
  obtain ⟨i0, hi0, hz0, hz1, hz2⟩ := info_parts infoBs
  have hcell : ∀ j, j < cap → w.cell? ⟨g, j, none⟩ = some (cur.getD j undef) ∧ w.frozen? ⟨g, j, none⟩ = false := by
    intro j hj
    simp [World.cell?, World.frozen?, hg, Array.getD, show j < cur.size by omega]
  have hml : ((cur.toList.take n).drop (i + 1)).length = n - (i + 1) := by simp; omega
  obtain ⟨A, hA, hnews⟩ : ∃ A : Addr, (if cap = i + 1 then some (⟨g, 0, none⟩ : Addr) else some ⟨g, i + 1, none⟩) = some A ∧ Hid (∀ j u, ((cur.toList.take n).drop (i + 1))[j]? = some u → w.drew.cell? (A.add j) = some u) := by
    by_cases h : cap = i + 1
    · refine ⟨⟨g, 0, none⟩, by simp [h], fun j u hu => ?_⟩
      have := (List.getElem?_eq_some_iff.1 hu).1
      omega
    · refine ⟨⟨g, i + 1, none⟩, by simp [h], fun j u hu => ?_⟩
      have hj := (List.getElem?_eq_some_iff.1 hu).1
      rw [List.getElem?_drop, List.getElem?_take, if_pos (by omega)] at hu
      rw [add_off]
      show w.cell? _ = _
      rw [(hcell (i + 1 + j) (by omega)).1]
      simp at hu
      simp [Array.getD, show i + 1 + j < cur.size by omega]
      obtain ⟨_, e⟩ := Array.getElem?_eq_some_iff.1 hu
      exact e
  have s1 : Hid (((cur.toList.take n).drop (i + 1)).length = (n - (i + 1)) * 1) := by rw [Nat.mul_one]; exact hml
  have s2 : Hid (∀ u ∈ (cur.toList.take n).drop (i + 1), u.oneCell' = true) := fun u hu => h1 u (List.mem_of_mem_drop hu)
  have s3 : Hid (∀ j, j < ((cur.toList.take n).drop (i + 1)).length → (w.drew.cell? ⟨g, 0 + i * 1 + j, none⟩).isSome = true ∧ w.drew.frozen? ⟨g, 0 + i * 1 + j, none⟩ = false) := by
    intro j hj
    rw [hml] at hj
    have := hcell (0 + i * 1 + j) (by omega)
    exact ⟨by show (w.cell? _).isSome = true; rw [this.1]; rfl, this.2⟩
  have hbk := blk_over ((cur.toList.take n).drop (i + 1)) w.drew g i cur 48 (0, 0) hg
  have z1 : Hid ((w.drew.setCells g i ((cur.toList.take n).drop (i + 1))).cell? ⟨g, n - 1, none⟩ = some ((over cur i ((cur.toList.take n).drop (i + 1))).getD (n - 1) undef)) := by
    show World.cell? _ _ = _
    have hsz := over_size ((cur.toList.take n).drop (i + 1)) cur i
    simp [World.cell?, hbk, Array.getD, show n - 1 < (over cur i ((cur.toList.take n).drop (i + 1))).size by omega]
  have z2 : Hid ((w.drew.setCells g i ((cur.toList.take n).drop (i + 1))).frozen? ⟨g, n - 1, none⟩ = false) := by
    show World.frozen? _ _ = _
    simp [World.frozen?, hbk]
  have hic : i ≤ cap := by omega
  have hwr : IntKind.i64.wrap ((i : Int) + 1) = (i : Int) + 1 := by rw [IntKind.wrap_i64]; omega
  have hp0 : (0 : Int) ≤ (i : Int) + 1 := by omega
  have hp1 : (i : Int) + 1 ≤ (n : Int) := by omega
  have hp2 : ((i : Int) + 1).toNat = i + 1 := by omega
  have hne : ((i : Int) == (i : Int) + 1) = false := by simp; omega
  have hz := zeroBs
  clear hcell hbk hg hs h1
  generalize ((cur.toList.take n).drop (i + 1)) = mv at *
  go_enter Tryz.func130, Tryz.ntmps130
  go_wp2_with fail
  go_region_law (refine step_append_room rfl (.tmp 22) (.tmp 25) 143 rfl 48 i0 1 Tryz.underlying143 hi0 hz1 g 0 i cap (by simp [Act.eval, Act.put]) A (n - (i + 1)) (cap - (i + 1)) mv (by simp [Act.eval, Act.put]) s1.out hnews.out s2.out (by omega) s3.out ?_)
  have e1 : i + (n - (i + 1)) = n - 1 := by omega
  have e2 : n - (n - 1) = 1 := by omega
  have hcl : (Builtin.clear_ #[143] 0 #[.slice (some ⟨g, i + (n - (i + 1)), none⟩) (n - (i + (n - (i + 1)))) (cap - (i + (n - (i + 1))))]).run Tryz.prog (w.drew.setCells g i mv) = .ok (.tuple #[]) ((w.drew.setCells g i mv).setCell ⟨g, n - 1, none⟩ (.slice none 0 0)) := by
    rw [e1, e2]
    exact clear_one g (n - 1) _ 0 _ _ z1.out z2.out
  have E1 := Lib.hid e1
  clear e1 e2
  go_wp2
  go_ret
  exact ⟨congrArg (fun m => Ending.returned (Value.slice (some ⟨g, 0, none⟩) m cap)) E1.out, rfl⟩
set_option maxRecDepth 100000
open Go.RowKit
theorem take_over (vs : List Value) (cur : Array Value) (i n : Nat) (hi : i < n) (hn : n ≤ cur.size) (h : cur.toList.take n = vs) :
    ((over cur i (vs.drop (i + 1))).setIfInBounds (n - 1) (.slice none 0 0)).toList.take (n - 1) = vs.eraseIdx i := by
  have hl : vs.length = n := by rw [← h]; simp; omega
  apply List.ext_getElem?
  intro k
  rw [List.getElem?_take]
  by_cases hk : k < n - 1
  · rw [if_pos hk]
    simp only [Array.getElem?_toList, Array.getElem?_setIfInBounds]
    rw [if_neg (by omega), over_get _ _ _ _ (by simp; omega)]
    rw [List.getElem?_eraseIdx]
    have hc : ∀ j, j < n → cur[j]? = vs[j]? := by
      intro j hj
      rw [← h, List.getElem?_take, if_pos hj]
      simp
    by_cases h2 : i ≤ k
    · rw [if_pos (by simp; omega), if_neg (by omega), List.getElem?_drop]
      congr 1
      omega
    · rw [if_neg (by omega), if_pos (by omega)]
      exact hc k (by omega)
  · rw [if_neg hk, List.getElem?_eq_none]
    rw [List.length_eraseIdx, if_pos (by omega)]
    omega
theorem del_own (v : Value) (vs : List Value) (i : Nat) (w : World) (h : w.ownsRow 0 48 1 v vs.length vs) (hi : i < vs.length) (h7 : ∀ u ∈ vs, u.oneCell' = true) :
    Calls Tryz.prog 130 #[v, .int .i64 i, .int .i64 (i + 1)] w fun e w' => ∃ v', e = .returned v' ∧ w'.ownsRow 0 48 1 v' (vs.eraseIdx i).length (vs.eraseIdx i) ∧ v'.ownBlock = v.ownBlock ∧ Keep (fun k => v.ownBlock = some k) w w' := by
  obtain ⟨hl, h2⟩ := h
  rcases h2 with ⟨rfl, h0⟩ | ⟨g, cap, cur, rfl, hb, hg, hn, hc, hcs, htake⟩
  · omega
  · have ht : cur.toList.take vs.length = vs := by simpa using htake
    have hcs' : cur.size = cap := by omega
    refine (del_walk g vs.length cap i cur w hg hcs' hi hn (by unfold maxLen at hc; omega) (by rw [ht]; exact h7)).mono ?_
    rintro e w' ⟨rfl, rfl⟩
    rw [ht]
    have hlen : (vs.eraseIdx i).length = vs.length - 1 := by rw [List.length_eraseIdx, if_pos hi]
    have hbk := blk_set (blk_over (vs.drop (i + 1)) w.drew g i cur 48 (0, 0) hg) (vs.length - 1) (.slice none 0 0)
    refine ⟨_, rfl, ⟨by omega, .inr ⟨g, cap, _, by rw [hlen], hb, hbk, by omega, hc, by simp [over_size, hcs'], ?_⟩⟩, rfl, ?_⟩
    · rw [hlen, Nat.mul_one]
      exact take_over vs cur i vs.length hi (by omega) ht
    · exact (Keep.setCells (S := fun k => (Value.slice (some ⟨g, 0, none⟩) vs.length cap).ownBlock = some k) _ _ g i (Keep.refl _ w).drew (.inl rfl)).setCell (p := ⟨g, vs.length - 1, none⟩) (.inl rfl) _
def Dropped (F : Nat → Prop) (w : World) (p : Nat) (c : Nat → Int) (ms : List (List UInt8)) (l : List UInt8) (e : Ending) (w' : World) : Prop :=
  ∃ u, e = .returned u ∧ Keep F w w' ∧ Line F w' p c ms ∧ Bs w' u l
theorem drop_any (F : Nat → Prop) (p : Nat) (c : Nat → Int) (ms : List (List UInt8)) (i j : Nat) (l : List UInt8) (w : World) (h : Line F w p c ms) (hi : ms[i]? = some l) (hj : j < 4) (hc0 : 0 ≤ c j) (hc1 : c j ≤ 1000000) (hlen : ms.length ≤ 64) :
    Calls Tryz.prog 65 #[.pointer (some ⟨p, 0, none⟩), .int .i64 i, .pointer (some ⟨p, j, none⟩)] w (Dropped F w p (bump c j) (ms.eraseIdx i) l) := by
  have him := (List.getElem?_eq_some_iff.1 hi).1
  obtain ⟨v, vs, h1, h2, h3, ⟨h4, h5⟩, h6, h7⟩ := h
  have hiv : i < vs.length := by omega
  obtain ⟨u, hu⟩ : ∃ u, vs[i]? = some u := ⟨vs[i], by simp [hiv]⟩
  obtain ⟨r1, r2⟩ := h5 i u l hu hi
  have hdel := del_own v vs i
  obtain ⟨a, cap, rfl, hcap, hcm⟩ := ownsRow_form h2
  obtain ⟨g, rfl⟩ : ∃ g, a = some ⟨g, 0, none⟩ := by
    rcases h2.2 with ⟨e, e0⟩ | ⟨g, cap', cur, e, _⟩
    · omega
    · injection e with e
      exact ⟨g, e⟩
  have hcell : w.cell? ⟨g, i, none⟩ = some u := by
    have := h2.cells (g := g) rfl i u hu
    rw [add_off, Nat.zero_add] at this
    exact this
  have hsh : ∃ ua un uc, u = .slice ua un uc := by
    obtain ⟨ua, uc, e, _⟩ := r1
    exact ⟨ua, _, uc, e⟩
  obtain ⟨ua, un, uc, rfl⟩ := hsh
  have m4 := ln_v h1
  have H1 := Lib.hid h1
  have H2 := Lib.hid h2
  have H3 := Lib.hid h3
  have H5 := Lib.hid h5
  have H7 := Lib.hid h7
  have R1 := Lib.hid r1
  have R2 := Lib.hid r2
  have HI := Lib.hid hi
  have HV := Lib.hid hu
  have HD := Lib.hid hdel
  have hiv2 : (i : Int) < (vs.length : Int) := by omega
  have H4 := Lib.hid h4
  have hvl : vs.length ≤ 64 := by omega
  clear h1 h2 h3 h4 h5 h7 r1 r2 hi hu hdel
  go_enter Tryz.func65, Tryz.ntmps65
  go_wp2_with fail
  refine (HD.out _ H2.out hiv H7.out).mono ?_
  rintro e w1 ⟨v', rfl, ho, hp, hk⟩
  obtain ⟨a', cap', rfl, _, _⟩ := ownsRow_form ho
  have hpw := hk.at H1.out (fun e => (H3.out p e).2 rfl)
  have n4 := ln_v hpw
  have n5 := ln_f hpw 4
  have NP := Lib.hid hpw
  have HO := Lib.hid ho
  have HP := Lib.hid hp
  clear hpw ho hp hcell m4
  go_wp2_with fail
  refine (aadd_any p j (c j) _ (ln_c (ln_set NP.out _) j hj) (ln_f (ln_set NP.out _) j) hc0 hc1).mono ?_
  rintro e w5 ⟨rfl, rfl⟩
  go_wp2_with fail
  go_ret
  have hkp : Keep (fun k => k = p ∨ (Value.slice (some ⟨g, 0, none⟩) vs.length cap).ownBlock = some k) w ((w1.setCell ⟨p, 4, none⟩ (.slice a' (vs.eraseIdx i).length cap')).setCell ⟨p, j, none⟩ (.int .i64 (c j + 1))) := by
    refine Keep.setCell (p := ⟨p, j, none⟩) (Keep.setCell (p := ⟨p, 4, none⟩) ?_ (.inl (.inl rfl)) _) (.inl (.inl rfl)) _
    exact hk.mono (fun k _ e => .inr e)
  have hkf := hkp.mono (T := F) (fun k _ e => by rcases e with e | e; subst e; exact h6; exact (H3.out k e).1)
  refine ⟨_, rfl, hkf, ⟨_, vs.eraseIdx i, ln_bump (ln_set NP.out _) j hj, ?_, ?_, ⟨?_, ?_⟩, h6, ?_⟩, R1.out.keep hkp ?_⟩
  · refine ownsRow_keep HO.out (S := One p) (((Keep.refl _ _).setOne _ _).setOne _ _) (fun q e e2 => ?_)
    unfold One at e2
    subst e2
    exact (H3.out q (HP.out.symm.trans e)).2 rfl
  · intro q e
    exact H3.out q (HP.out.symm.trans e)
  · rw [List.length_eraseIdx, List.length_eraseIdx, if_pos hiv, if_pos him, H4.out]
  · intro k u m hu hm
    rw [List.getElem?_eraseIdx] at hu hm
    have key : ∃ k' : Nat, vs[k']? = some u ∧ ms[k']? = some m := by
      by_cases hki : k < i
      · rw [if_pos hki] at hu hm
        exact ⟨k, hu, hm⟩
      · rw [if_neg hki] at hu hm
        exact ⟨k + 1, hu, hm⟩
    obtain ⟨k', hu', hm'⟩ := key
    obtain ⟨t1, t2⟩ := H5.out k' u m hu' hm'
    refine ⟨t1.keep hkp (fun q e e2 => ?_), fun q e => ⟨(t2 q e).1, (t2 q e).2.1, fun e3 => (t2 q e).2.2.1 (HP.out.symm.trans e3), hkf.lt (t2 q e).2.2.2⟩⟩
    rcases e2 with e2 | e2
    · exact (t2 q e).2.1 e2
    · exact (t2 q e).2.2.1 e2
  · intro u hu
    exact H7.out u (List.mem_of_mem_eraseIdx hu)
  · intro q e e2
    rcases e2 with e2 | e2
    · exact (R2.out q e).2.1 e2
    · exact (R2.out q e).2.2.1 e2
set_option maxRecDepth 100000
open Go.RowKit
theorem deliver_no (F : Nat → Prop) (p : Nat) (c : Nat → Int) (ms : List (List UInt8)) (i : Int) (w : World) (h : Line F w p c ms) (hi : i < 0 ∨ (0 ≤ i ∧ (ms.length : Int) ≤ i)) :
    Calls Tryz.prog 24 #[.pointer (some ⟨p, 0, none⟩), .int .i64 i] w fun e w' => e = .returned (.tuple #[.slice none 0 0, .iface 84 (.int .i64 1)]) ∧ w = w' := by
  have H := Lib.hid h
  have HI := Lib.hid hi
  clear h hi
  go_enter Tryz.func24, Tryz.ntmps24
  go_wp2_with (go_at_call 64; go_must (refine (has_no F p c ms i _ H.out HI.out).mono ?_); rintro e w1 ⟨rfl, rfl⟩)
  go_ret2
  exact ⟨rfl, rfl⟩
def Delivered (F : Nat → Prop) (w : World) (p : Nat) (c : Nat → Int) (ms : List (List UInt8)) (l : List UInt8) (e : Ending) (w' : World) : Prop :=
  ∃ v, e = .returned (.tuple #[v, .nilIface]) ∧ Keep F w w' ∧ Line F w' p c ms ∧ ∃ C, w.heap.size ≤ C ∧ w'.ownsRow C 5 1 v l.length (l.map bv)
theorem deliver_yes (F : Nat → Prop) (p : Nat) (c : Nat → Int) (ms : List (List UInt8)) (i : Nat) (l : List UInt8) (w : World) (h : Line F w p c ms) (hi : ms[i]? = some l) (hl : l.length ≤ 65536) (hc0 : 0 ≤ c 1) (hc1 : c 1 ≤ 1000000) (hlen : ms.length ≤ 64) :
    Calls Tryz.prog 24 #[.pointer (some ⟨p, 0, none⟩), .int .i64 i] w (Delivered F w p (bump c 1) (ms.eraseIdx i) l) := by
  have him := (List.getElem?_eq_some_iff.1 hi).1
  have hi0 : (0 : Int) ≤ (i : Int) := by omega
  have hi1 : (i : Int) < (ms.length : Int) := by omega
  have H := Lib.hid h
  have HI := Lib.hid hi
  have HL := Lib.hid hl
  clear h hi hl
  go_enter Tryz.func24, Tryz.ntmps24
  go_wp2_with fail
  refine (has_yes F p c ms i _ H.out hi0 hi1).mono ?_
  rintro e w1 ⟨rfl, rfl⟩
  go_wp2_with fail
  refine (drop_any F p c ms i 1 l _ H.out HI.out (by omega) hc0 hc1 hlen).mono ?_
  rintro e w1 ⟨u, rfl, hk1, hl1, hb1⟩
  have HK := Lib.hid hk1
  have HL1 := Lib.hid hl1
  have HB := Lib.hid hb1
  clear hk1 hl1 hb1
  go_wp2_with fail
  refine (clone_new _ l _ HB.out (by have := HL.out; omega)).mono ?_
  rintro e w2 ⟨v, rfl, hk2, hb2⟩
  have HK2 := Lib.hid hk2
  have HB2 := Lib.hid hb2
  clear hk2 hb2
  go_wp2_with fail
  go_ret2
  have := HK.out.size
  exact ⟨v, rfl, HK.out.trans HK2.out (fun _ _ h => h) (fun _ _ h => h.elim), HL1.out.keep HK2.out (fun _ _ e => e), _, HK.out.size, HB2.out⟩
set_option maxRecDepth 100000
open Go.RowKit
theorem twice_no (F : Nat → Prop) (p : Nat) (c : Nat → Int) (ms : List (List UInt8)) (i : Int) (w : World) (h : Line F w p c ms) (hi : i < 0 ∨ (0 ≤ i ∧ (ms.length : Int) ≤ i)) :
    Calls Tryz.prog 23 #[.pointer (some ⟨p, 0, none⟩), .int .i64 i] w fun e w' => e = .returned (.iface 84 (.int .i64 1)) ∧ w = w' := by
  have H := Lib.hid h
  have HI := Lib.hid hi
  clear h hi
  go_enter Tryz.func23, Tryz.ntmps23
  go_wp2_with (go_at_call 64; go_must (refine (has_no F p c ms i _ H.out HI.out).mono ?_); rintro e w1 ⟨rfl, rfl⟩)
  go_ret
  exact ⟨rfl, rfl⟩
theorem twice_ok (F : Nat → Prop) (p : Nat) (c : Nat → Int) (ms : List (List UInt8)) (i : Nat) (l : List UInt8) (w : World) (h : Line F w p c ms) (hi : ms[i]? = some l) (hc0 : 0 ≤ c 3) (hc1 : c 3 ≤ 1000000) (hlen : ms.length < 64) :
    Calls Tryz.prog 23 #[.pointer (some ⟨p, 0, none⟩), .int .i64 i] w fun e w' => e = .returned .nilIface ∧ Keep F w w' ∧ Line (Fx F w) w' p (bump c 3) (ms ++ [l]) := by
  have him := (List.getElem?_eq_some_iff.1 hi).1
  have hi0 : (0 : Int) ≤ (i : Int) := by omega
  have hi1 : (i : Int) < (ms.length : Int) := by omega
  have H := Lib.hid h
  obtain ⟨v, vs, h1, h2, h3, ⟨h4, h5⟩, h6, h7⟩ := h
  have hiv : (i : Int) < (vs.length : Int) := by omega
  obtain ⟨u, hu⟩ : ∃ u, vs[i]? = some u := ⟨vs[i]'(by omega), by simp [show i < vs.length by omega]⟩
  obtain ⟨r1, r2⟩ := h5 i u l hu hi
  have hadd := add_ok F u l p 3 c v vs ms
  obtain ⟨a, cap, rfl, hcap, hcm⟩ := ownsRow_form h2
  obtain ⟨g, rfl⟩ : ∃ g, a = some ⟨g, 0, none⟩ := by
    rcases h2.2 with ⟨e, e0⟩ | ⟨g, cap', cur, e, _⟩
    · omega
    · injection e with e
      exact ⟨g, e⟩
  have hcell : w.cell? ⟨g, i, none⟩ = some u := by
    have := h2.cells (g := g) rfl i u hu
    rw [add_off, Nat.zero_add] at this
    exact this
  have hsh : ∃ ua un uc, u = .slice ua un uc := by
    obtain ⟨ua, uc, e, _⟩ := r1
    exact ⟨ua, _, uc, e⟩
  obtain ⟨ua, un, uc, rfl⟩ := hsh
  have m4 := ln_v h1
  have H1 := Lib.hid h1
  have H2 := Lib.hid h2
  have H3 := Lib.hid h3
  have H5 := Lib.hid h5
  have H7 := Lib.hid h7
  have R1 := Lib.hid r1
  have R2 := Lib.hid r2
  have HD := Lib.hid hadd
  have H4 := Lib.hid h4
  have hvl : vs.length < 64 := by omega
  clear h1 h2 h3 h4 h5 h7 r1 r2 hi hu hadd
  go_enter Tryz.func23, Tryz.ntmps23
  go_wp2_with fail
  refine (has_yes F p c ms i _ H.out hi0 hi1).mono ?_
  rintro e w1 ⟨rfl, rfl⟩
  go_wp2_with fail
  go_region_with (go_at_call 62; refine (HD.out _ (by exact H1.out) (by exact H2.out) H3.out (by exact ⟨H4.out, H5.out⟩) h6 H7.out (by exact R1.out) (by exact R2.out) (by omega) hc0 hc1 hvl).mono ?_; rintro e w2 ⟨rfl, hk2, hl2⟩; have HK2 := Lib.hid hk2; have HL2 := Lib.hid hl2; clear hk2 hl2)
  go_wp2_with fail
  go_ret
  exact ⟨rfl, ⟨HK2.out.os, HK2.out.tape, HK2.out.output, HK2.out.size, HK2.out.block⟩, HL2.out⟩
theorem twice_full (F : Nat → Prop) (p : Nat) (c : Nat → Int) (ms : List (List UInt8)) (i : Nat) (w : World) (h : Line F w p c ms) (hi : i < ms.length) (hlen : 64 ≤ ms.length) :
    Calls Tryz.prog 23 #[.pointer (some ⟨p, 0, none⟩), .int .i64 i] w fun e w' => e = .returned (.iface 84 (.int .i64 5)) ∧ Keep Non w w' := by
  have hi0 : (0 : Int) ≤ (i : Int) := by omega
  have hi1 : (i : Int) < (ms.length : Int) := by omega
  have H := Lib.hid h
  obtain ⟨v, vs, h1, h2, h3, ⟨h4, h5⟩, h6, h7⟩ := h
  have hiv : (i : Int) < (vs.length : Int) := by omega
  obtain ⟨u, hu⟩ : ∃ u, vs[i]? = some u := ⟨vs[i]'(by omega), by simp [show i < vs.length by omega]⟩
  obtain ⟨a, cap, rfl, hcap, hcm⟩ := ownsRow_form h2
  obtain ⟨g, rfl⟩ : ∃ g, a = some ⟨g, 0, none⟩ := by
    rcases h2.2 with ⟨e, e0⟩ | ⟨g, cap', cur, e, _⟩
    · omega
    · injection e with e
      exact ⟨g, e⟩
  have hcell : w.cell? ⟨g, i, none⟩ = some u := by
    have := h2.cells (g := g) rfl i u hu
    rw [add_off, Nat.zero_add] at this
    exact this
  obtain ⟨l, hl⟩ : ∃ l, ms[i]? = some l := ⟨ms[i], by simp [hi]⟩
  obtain ⟨⟨ua, uc, rfl, _⟩, _⟩ := h5 i u l hu hl
  have m4 := ln_v h1
  clear h1 h2 h3 h4 h5 h7 hu hl
  go_enter Tryz.func23, Tryz.ntmps23
  go_wp2_with fail
  refine (has_yes F p c ms i _ H.out hi0 hi1).mono ?_
  rintro e w1 ⟨rfl, rfl⟩
  go_wp2_with fail
  go_region_with (go_at_call 62; refine (add_newFull F _ p 3 c ms _ (H.out.keep (S := Non) (by exact ⟨rfl, rfl, rfl, Nat.le_refl _, fun _ _ _ => rfl⟩) (fun _ _ e => e)) hlen).mono ?_; rintro e w2 ⟨rfl, rfl⟩)
  go_wp2_with fail
  go_ret
  exact ⟨rfl, ⟨rfl, rfl, rfl, Nat.le_refl _, fun _ _ _ => rfl⟩⟩
theorem aload_any (b i : Nat) (v : Int) (w : World) (h : w.cell? ⟨b, i, none⟩ = some (.int .i64 v)) :
    Calls Tryz.prog 71 #[.pointer (some ⟨b, i, none⟩)] w fun e w' => e = .returned (.int .i64 v) ∧ w = w' := by
  have hl := run_call_load (P := Tryz.prog) Tryz.func139 (by kernel_rfl) (by kernel_rfl) (by kernel_rfl) .i64 (by kernel_rfl) h
  go_enter Tryz.func71, Tryz.ntmps71
  go_wp2
  go_ret
  exact ⟨rfl, rfl⟩
end Go.Proofs.YtdmckfkhkjkdnaaGreatDoor.Tr
