/- A store's objects: names, puts, deletes, gets: walked. · A store's puts, deletes and gets: walked. · A disk's files' names: walked. · A disk that star -/
import Derived.Test.YtdmckfkhkjkdnaaGreatDoorQ08
import Derived.Test.YtdmckfkhkjkdnaaGreatDoorQ12
set_option linter.unusedVariables false
set_option maxRecDepth 100000
set_option maxHeartbeats 16000000
namespace Go.Proofs.YtdmckfkhkjkdnaaGreatDoor
open Go.RowKit Go.Maps
def okObj (n : Byt) : Prop := okName n ∧ n.length ≤ 20 ∧ 126 ∉ n
theorem okObj.tilde {n : Byt} (h : okObj n) : okName (tilde n) := by
  obtain ⟨⟨h1, h2, h3⟩, h4, h5⟩ := h
  refine ⟨by simp [Go.Proofs.YtdmckfkhkjkdnaaGreatDoor.tilde], by simp [Go.Proofs.YtdmckfkhkjkdnaaGreatDoor.tilde]; omega, ?_⟩
  intro c hc
  simp only [Go.Proofs.YtdmckfkhkjkdnaaGreatDoor.tilde, List.mem_cons] at hc
  rcases hc with rfl | hc
  · decide
  · exact h3 c hc
theorem indexByte_neg : ∀ (l : List UInt8) (c : UInt8), c ∉ l → Lib.indexByte l c = -1 := by
  intro l c h
  have h2 := Lib.contains_iff_indexByte l c
  have h3 : l.contains c = false := by simpa using h
  rw [h3] at h2
  have h4 : ¬ 0 ≤ Lib.indexByte l c := by
    intro h5
    rw [decide_eq_true h5] at h2
    cases h2
  have := Lib.indexByte_ge l c
  omega
theorem indexByte_pos : ∀ (l : List UInt8) (c : UInt8), c ∈ l → 0 ≤ Lib.indexByte l c := by
  intro l c h
  have h2 := Lib.contains_iff_indexByte l c
  have h3 : l.contains c = true := by simpa using h
  rw [h3] at h2
  exact of_decide_eq_true h2.symm
theorem snamed_any (n : Byt) (w : World) (h : okName n) :
    Calls Tryz.prog 172 #[sv n] w fun e w' => e = .returned (.bool (decide (n.length ≤ 20 ∧ 126 ∉ n))) ∧ Keep Non w w' := by
  have NM := Lib.hid (named_ok n w h)
  have hs : (⟨n.toArray⟩ : ByteArray).size = n.length := by show n.toArray.size = _; simp
  have hct := fun w => Tryz.strings_Contains_one ⟨n.toArray⟩ 126 w
  unfold sv at NM ⊢
  by_cases h1 : n.length ≤ 20
  · by_cases h2 : 126 ∈ n
    · have e : decide (n.length ≤ 20 ∧ 126 ∉ n) = false := decide_eq_false (fun k => k.2 h2)
      have e2 : decide (0 ≤ Lib.indexByte (⟨n.toArray⟩ : ByteArray).data.toList 126) = true := decide_eq_true (indexByte_pos _ _ (by simpa using h2))
      simp only [e2] at hct
      have CT := Lib.hid hct
      rw [e]
      clear e e2 hct
      go_enter Tryz.func172, Tryz.ntmps172
      go_wp2_with (first
        | (go_at_call 170; refine NM.out.mono ?_; rintro e w1 ⟨rfl, k1⟩; have K1 := Lib.hid k1; clear k1)
        | (go_at_call 252; refine (CT.out _).mono ?_; rintro e w2 ⟨rfl, e2⟩; subst e2))
      go_ret
      exact ⟨rfl, K1.out⟩
    · have e : decide (n.length ≤ 20 ∧ 126 ∉ n) = true := decide_eq_true ⟨h1, h2⟩
      have e2 : decide (0 ≤ Lib.indexByte (⟨n.toArray⟩ : ByteArray).data.toList 126) = false := decide_eq_false (by rw [indexByte_neg _ _ (by simpa using h2)]; omega)
      simp only [e2] at hct
      have CT := Lib.hid hct
      rw [e]
      clear e e2 hct
      go_enter Tryz.func172, Tryz.ntmps172
      go_wp2_with (first
        | (go_at_call 170; refine NM.out.mono ?_; rintro e w1 ⟨rfl, k1⟩; have K1 := Lib.hid k1; clear k1)
        | (go_at_call 252; refine (CT.out _).mono ?_; rintro e w2 ⟨rfl, e2⟩; subst e2))
      go_ret
      exact ⟨rfl, K1.out⟩
  · have e : decide (n.length ≤ 20 ∧ 126 ∉ n) = false := decide_eq_false (fun k => h1 k.1)
    rw [e]
    clear e hct
    go_enter Tryz.func172, Tryz.ntmps172
    go_wp2_with fail
    go_ret
    exact ⟨rfl, Keep.refl _ _⟩
theorem sasks_ok (q : Nat) (n : Byt) (w : World) (h : okObj n) :
    Calls Tryz.prog 103 #[.pointer (some ⟨q, 0, none⟩), sv n] w fun e w' => e = .returned .nilIface ∧ Keep Non w w' := by
  have NM := snamed_any n w h.1
  rw [decide_eq_true h.2] at NM
  have NM2 := Lib.hid NM
  clear NM
  unfold sv at NM2 ⊢
  go_enter Tryz.func103, Tryz.ntmps103
  go_wp2_with (go_at_call 172; refine NM2.out.mono ?_; rintro e w1 ⟨rfl, k1⟩; have K1 := Lib.hid k1; clear k1)
  go_ret
  exact ⟨rfl, K1.out⟩
def StB (p : Nat) : Obj := .cells #[.pointer (some ⟨p, 0, none⟩)] 211 (0, 0)
theorem st_0 {w : World} {q p : Nat} (e : w.heap[q]? = some (StB p)) : w.cell? ⟨q, 0, none⟩ = some (.pointer (some ⟨p, 0, none⟩)) := by simp [World.cell?, e, StB]
structure StoreAt (F : Nat → Prop) (w : World) (q p : Nat) (X : Dk) : Prop where
  blk : w.heap[q]? = some (StB p)
  inF : F q
  dk : ∃ G, DiskAt G w p X ∧ ∀ g, G g → F g ∧ g ≠ q
def StoreTo (F : Nat → Prop) (w : World) (q p : Nat) (X : Dk) (w' : World) : Prop := Keep F w w' ∧ ∃ F', Sub F' F w ∧ StoreAt F' w' q p X
theorem lt_of_blk {w : World} {q : Nat} {o : Obj} (h : w.heap[q]? = some o) : q < w.heap.size := by
  rcases Nat.lt_or_ge q w.heap.size with h2 | h2
  · exact h2
  · rw [Array.getElem?_eq_none h2] at h; cases h
theorem StoreAt.keep {F S : Nat → Prop} {w w' : World} {q p : Nat} {X : Dk} (d : StoreAt F w q p X) (k : Keep S w w') (hn : ∀ g, F g → ¬ S g) : StoreAt F w' q p X := by
  obtain ⟨b, i, G, dg, hg⟩ := d
  exact ⟨k.at b (hn _ i), i, G, dg.keep k (fun g e => hn g (hg g e).1), hg⟩
theorem StoreTo.of {F G : Nat → Prop} {w w' : World} {q p : Nat} {X : Dk} (d : DiskTo G w p X w') (b : w.heap[q]? = some (StB p)) (i : F q) (hg : ∀ g, G g → F g ∧ g ≠ q) : StoreTo F w q p X w' := by
  obtain ⟨k, G', s, dg⟩ := d
  have hlt := lt_of_blk b
  refine ⟨k.mono (fun i _ e => (hg i e).1), fun g => g = q ∨ G' g, ?_, k.at b (fun e => (hg q e).2 rfl), .inl rfl, G', dg, ?_⟩
  · rintro g (rfl | e)
    · exact .inl i
    · rcases s g e with e | e
      · exact .inl (hg g e).1
      · exact .inr e
  · intro g e
    refine ⟨.inr e, ?_⟩
    rcases s g e with e | e
    · exact (hg g e).2
    · omega
theorem StoreTo.refl {F : Nat → Prop} {w w' : World} {q p : Nat} {X : Dk} (d : StoreAt F w q p X) (k : Keep Non w w') : StoreTo F w q p X w' :=
  ⟨k.mono (fun _ _ e => e.elim), F, Sub.refl _ _, d.keep k (fun _ _ e => e)⟩
theorem StoreTo.trans {F F' : Nat → Prop} {w w' w'' : World} {q p : Nat} {X : Dk} (s : Sub F' F w) (k : Keep F w w') (d : StoreTo F' w' q p X w'') : StoreTo F w q p X w'' := by
  obtain ⟨k2, F'', s2, d2⟩ := d
  exact ⟨keep_sub k s k2, F'', s.trans s2 k.size, d2⟩
structure Dk.lim (X : Dk) (a k f : Nat) : Prop where
  files : size X.shown ≤ a
  pend : X.pend.length ≤ k
  used : fused X.shown ≤ f
  fuse : X.fuse ≤ 1000000000
  map : IsMap X.shown
theorem Dk.lim.mild {X : Dk} {a k f : Nat} (h : X.lim a k f) (ha : a ≤ 511) (hk : k ≤ 1000) (hf : f ≤ 500000000) : X.mild :=
  ⟨by have := h.files; omega, by have := h.pend; omega, by have := h.used; omega, h.fuse⟩
theorem Dk.lim.mono {X : Dk} {a k f a' k' f' : Nat} (h : X.lim a k f) (ha : a ≤ a') (hk : k ≤ k') (hf : f ≤ f') : X.lim a' k' f' :=
  ⟨by have := h.files; omega, by have := h.pend; omega, by have := h.used; omega, h.fuse, h.map⟩
theorem works_fuse (X : Dk) : X.works.2.fuse ≤ X.fuse := by
  unfold Dk.works
  split
  · exact Int.le_refl _
  · split
    · exact Int.le_refl _
    · show (if 0 < X.fuse then X.fuse - 1 else X.fuse) ≤ X.fuse
      split <;> omega
theorem Dk.lim.works {X : Dk} {a k f : Nat} (h : X.lim a k f) : X.works.2.lim a k f := by
  obtain ⟨r1, r2, r3, r4⟩ := works_room X
  exact ⟨by rw [r2]; exact h.files, by rw [r3]; exact h.pend, by rw [r2]; exact h.used, by have := works_fuse X; have := h.fuse; omega, by rw [r2]; exact h.map⟩
theorem Dk.lim.write {X : Dk} {a k f : Nat} (h : X.lim a k f) (n b : Byt) : (X.write n b).2.lim (a + 1) (k + 1) (f + b.length) := by
  have hw := h.works
  unfold Dk.write
  split
  · exact hw.mono (by omega) (by omega) (by omega)
  · split
    · exact hw.mono (by omega) (by omega) (by omega)
    · split
      · exact hw.mono (by omega) (by omega) (by omega)
      · refine ⟨?_, ?_, ?_, hw.fuse, isMap_put hw.map⟩
        · exact Nat.le_trans (size_put_le hw.map) (by have := hw.files; omega)
        · show (X.works.2.pend ++ [_]).length ≤ _
          have := hw.pend
          simp; omega
        · exact Nat.le_trans (fused_put_le hw.map) (by have := hw.used; omega)
theorem Dk.lim.sync {X : Dk} {a k f : Nat} (h : X.lim a k f) : X.sync.2.lim a k f := by
  have hw := h.works
  unfold Dk.sync
  split
  · exact hw
  · exact ⟨hw.files, by simp, hw.used, hw.fuse, hw.map⟩
theorem Dk.lim.rename {X : Dk} {a k f : Nat} (h : X.lim a k f) (n m : Byt) : (X.rename n m).2.lim (a + 1) (k + 1) (f + (fget X.shown n).length) := by
  have hw := h.works
  obtain ⟨r1, r2, r3, r4⟩ := works_room X
  unfold Dk.rename
  split
  · exact hw.mono (by omega) (by omega) (by omega)
  · split
    · rename_i h1 h2
      have e : Chg.on (.rename n m) X.works.2.shown = fput (fdel X.works.2.shown n) m (fget X.works.2.shown n) := by show (if _ then _ else _) = _; rw [if_pos h2]
      refine ⟨?_, ?_, ?_, hw.fuse, ?_⟩
      · show size (Chg.on (.rename n m) X.works.2.shown) ≤ _
        rw [e]
        have := size_put_le (n := m) (b := fget X.works.2.shown n) (isMap_del (n := n) hw.map)
        have := size_del_le (n := n) hw.map
        have := hw.files
        omega
      · show (X.works.2.pend ++ [_]).length ≤ _
        have := hw.pend
        simp; omega
      · show fused (Chg.on (.rename n m) X.works.2.shown) ≤ _
        rw [e]
        have := fused_put_le (n := m) (b := fget X.works.2.shown n) (isMap_del (n := n) hw.map)
        have := fused_del_le (n := n) hw.map
        have := hw.used
        rw [r2] at *
        omega
      · show IsMap (Chg.on (.rename n m) X.works.2.shown)
        rw [e]
        exact isMap_put (isMap_del hw.map)
    · exact hw.mono (by omega) (by omega) (by omega)
theorem Dk.lim.remove {X : Dk} {a k f : Nat} (h : X.lim a k f) (n : Byt) : (X.remove n).2.lim a (k + 1) f := by
  have hw := h.works
  unfold Dk.remove
  split
  · exact hw.mono (by omega) (by omega) (by omega)
  · split
    · rename_i h1 h2
      have e : Chg.on (.remove n) X.works.2.shown = fdel X.works.2.shown n := by show (if _ then _ else _) = _; rw [if_pos h2]
      refine ⟨?_, ?_, ?_, hw.fuse, ?_⟩
      · show size (Chg.on (.remove n) X.works.2.shown) ≤ _
        rw [e]
        exact Nat.le_trans (size_del_le hw.map) hw.files
      · show (X.works.2.pend ++ [_]).length ≤ _
        have := hw.pend
        simp; omega
      · show fused (Chg.on (.remove n) X.works.2.shown) ≤ _
        rw [e]
        exact Nat.le_trans (fused_del_le hw.map) hw.used
      · show IsMap (Chg.on (.remove n) X.works.2.shown)
        rw [e]
        exact isMap_del hw.map
    · exact hw.mono (by omega) (by omega) (by omega)
theorem add_tilde (n : Byt) (hn : n.length ≤ 1000) (w : World) : (Op.stringOp .add ⟨#[126]⟩ ⟨n.toArray⟩).run Tryz.prog w = .ok (.string ⟨(tilde n).toArray⟩) w :=
  run_string_add_lists (P := Tryz.prog) w [126] n (by decide) (by omega)
theorem Dk.lim.sput {X : Dk} {a k f : Nat} (h : X.lim a k f) (n b : Byt) : (X.sput n b).2.lim (a + 2) (k + 2) (f + 2 * b.length) := by
  have h1 := h.write (tilde n) b
  have h2 := h1.sync
  unfold Dk.sput
  split
  · exact h1.mono (by omega) (by omega) (by omega)
  · rename_i hc1
    split
    · exact h2.mono (by omega) (by omega) (by omega)
    · have hg : (fget (X.write (tilde n) b).2.sync.2.shown (tilde n)).length ≤ b.length := by
        have e1 : (X.write (tilde n) b).2.sync.2.shown = (X.write (tilde n) b).2.shown := by
          obtain ⟨r1, r2, r3, r4⟩ := works_room (X.write (tilde n) b).2
          unfold Dk.sync
          split
          · exact r2
          · exact r2
        rw [e1]
        have e2 : (X.write (tilde n) b).2.shown = fput X.works.2.shown (tilde n) b := by
          unfold Dk.write at hc1 ⊢
          split at hc1
          · exact absurd ‹_› hc1
          · split at hc1
            · exact absurd (show (3 : Int) ≠ 0 by decide) hc1
            · split at hc1
              · exact absurd (show (5 : Int) ≠ 0 by decide) hc1
              · rename_i g1 g2 g3
                rw [if_neg g1, if_neg g2, if_neg g3]
                rfl
        rw [e2, fget_put_same h.works.map]
        exact Nat.le_refl _
      have h3 := h2.rename (tilde n) n
      split
      · exact h3.mono (by omega) (by omega) (by omega)
      · exact h3.sync.mono (by omega) (by omega) (by omega)
theorem sput_any (F : Nat → Prop) (q p : Nat) (v : Value) (n b : Byt) (X : Dk) (a k f : Nat) (w : World) (d : StoreAt F w q p X) (hl : X.lim a k f) (ha : a ≤ 505) (hk : k ≤ 990) (hf : f ≤ 400000000)
    (hn : okObj n) (hv : Bs w v b) (hb : b.length ≤ 65536) (hnp : ∀ g, v.ownBlock = some g → ¬ F g) :
    Calls Tryz.prog 142 #[.pointer (some ⟨q, 0, none⟩), sv n, v] w fun e w' => e = .returned (errv (X.sput n b).1) ∧ StoreTo F w q p (X.sput n b).2 w' := by
  have hadd := add_tilde n (by have := hn.2.1; omega)
  have SA := Lib.hid (sasks_ok q n w hn)
  obtain ⟨blk, inF, G, dg, hg⟩ := d
  have c0 := st_0 blk
  have B := Lib.hid blk
  have IF := Lib.hid inF
  have HG := Lib.hid hg
  have H1 := Lib.hid (hl.write (tilde n) b)
  have F1 := Lib.hid H1.out.fuse
  have H2 := Lib.hid H1.out.sync
  have M1 := Lib.hid (hl.mild (by omega) (by omega) (by omega))
  have M3 := Lib.hid (H2.out.mild (by omega) (by omega) (by omega))
  have H3 := Lib.hid (H2.out.rename (tilde n) n)
  have hq : q < w.heap.size := lt_of_blk blk
  -- the worlds, one after another
  have W1 : Hid (∀ w1, Keep Non w w1 → Calls Tryz.prog 210 #[.pointer (some ⟨p, 0, none⟩), .string ⟨(tilde n).toArray⟩, v] w1 fun e w2 => e = .returned (errv (X.write (tilde n) b).1) ∧ DiskTo G w p (X.write (tilde n) b).2 w2) := Lib.hid (by
    intro w1 k1
    refine (dwrite_u G p v (tilde n) b X w1 (dg.keep k1 (fun _ _ e => e)) M1.out hn.tilde (hv.keep k1 (fun _ _ e => e)) hb (fun g e e2 => hnp g e (hg g e2).1)).mono ?_
    rintro e w2 ⟨r, kk, G', s, dd⟩
    exact ⟨r, keep_sub (k1.mono (fun _ _ e => e.elim)) (Sub.refl _ _) kk, G', fun g e => by rcases s g e with e | e; exact .inl e; exact .inr (by have := k1.size; omega), dd⟩)
  have W2 : Hid (∀ w1 (Y : Dk), Y.fuse ≤ 1000000000 → DiskTo G w p Y w1 → Calls Tryz.prog 102 #[.pointer (some ⟨p, 0, none⟩)] w1 fun e w2 => e = .returned (errv Y.sync.1) ∧ DiskTo G w p Y.sync.2 w2) := Lib.hid (by
    rintro w1 Y hy ⟨k1, G', s, dd⟩
    refine (dsync_u G' p Y w1 dd hy).mono ?_
    rintro e w2 ⟨r, kk, G2, s2, dd2⟩
    exact ⟨r, keep_sub k1 s kk, G2, s.trans s2 k1.size, dd2⟩)
  have W3 : Hid (∀ w1 (Y : Dk), Y.mild → DiskTo G w p Y w1 → Calls Tryz.prog 211 #[.pointer (some ⟨p, 0, none⟩), .string ⟨(tilde n).toArray⟩, .string ⟨n.toArray⟩] w1 fun e w2 => e = .returned (errv (Y.rename (tilde n) n).1) ∧ DiskTo G w p (Y.rename (tilde n) n).2 w2) := Lib.hid (by
    rintro w1 Y hy ⟨k1, G', s, dd⟩
    refine (drename_u G' p (tilde n) n Y w1 dd hy hn.tilde hn.1).mono ?_
    rintro e w2 ⟨r, kk, G2, s2, dd2⟩
    exact ⟨r, keep_sub k1 s kk, G2, s.trans s2 k1.size, dd2⟩)
  have CC : Hid (∀ w1 (Y : Dk), DiskTo G w p Y w1 → w1.cell? ⟨q, 0, none⟩ = some (.pointer (some ⟨p, 0, none⟩))) := Lib.hid (fun w1 Y dd => st_0 (dd.1.at B.out (fun e => (HG.out q e).2 rfl)))
  have FIN : Hid (∀ w1 (Y : Dk), DiskTo G w p Y w1 → StoreTo F w q p Y w1) := Lib.hid (fun w1 Y dd => StoreTo.of dd B.out IF.out HG.out)
  clear blk inF dg hg hl hn hv hnp H1 M1
  unfold Dk.sput
  generalize hX1 : X.write (tilde n) b = X1 at W1 M3 H3 H2 F1 ⊢
  by_cases h1 : X1.1 = 0
  · skip
    generalize hX2 : X1.2.sync = X2 at M3 H3 H2 ⊢
    by_cases h2 : X2.1 = 0
    · generalize hX3 : X2.2.rename (tilde n) n = X3 at H3 ⊢
      have F3 : Hid (X3.2.fuse ≤ 1000000000) := Lib.hid H3.out.fuse
      by_cases h3 : X3.1 = 0
      · rw [if_neg (fun e => e h1), if_neg (fun e => e h2), if_neg (fun e => e h3)]
        unfold sv at SA ⊢
        go_enter Tryz.func142, Tryz.ntmps142
        go_wp2_with (first
          | (go_at_call 103; refine SA.out.mono ?_; rintro e w1 ⟨rfl, k1⟩; have c1 := st_0 (k1.at B.out (fun e => e)); have K1 := Lib.hid k1; clear k1)
          | (go_at_call 210; refine (W1.out _ K1.out).mono ?_; rw [errv_ok h1]; rintro e w2 ⟨rfl, d2⟩; have c2 := CC.out _ _ d2; have D2 := Lib.hid d2; clear d2)
          | (go_at_call 211; refine (W3.out _ _ M3.out D3.out).mono ?_; rw [hX3, errv_ok h3]; rintro e w4 ⟨rfl, d4⟩; have c4 := CC.out _ _ d4; have D4 := Lib.hid d4; clear d4)
          | (go_at_call 102; with_reducible refine (W2.out _ _ F3.out D4.out).mono ?_; rintro e w5 ⟨rfl, d5⟩; have D5 := Lib.hid d5; clear d5)
          | (go_at_call 102; with_reducible refine (W2.out _ _ F1.out D2.out).mono ?_; rw [hX2, errv_ok h2]; rintro e w3 ⟨rfl, d3⟩; have c3 := CC.out _ _ d3; have D3 := Lib.hid d3; clear d3))
        go_ret
        exact ⟨rfl, FIN.out _ _ D5.out⟩
      · rw [if_neg (fun e => e h1), if_neg (fun e => e h2), if_pos h3]
        rw [errv_no h3]
        unfold sv at SA ⊢
        go_enter Tryz.func142, Tryz.ntmps142
        go_wp2_with (first
          | (go_at_call 103; refine SA.out.mono ?_; rintro e w1 ⟨rfl, k1⟩; have c1 := st_0 (k1.at B.out (fun e => e)); have K1 := Lib.hid k1; clear k1)
          | (go_at_call 210; refine (W1.out _ K1.out).mono ?_; rw [errv_ok h1]; rintro e w2 ⟨rfl, d2⟩; have c2 := CC.out _ _ d2; have D2 := Lib.hid d2; clear d2)
          | (go_at_call 211; refine (W3.out _ _ M3.out D3.out).mono ?_; rw [hX3, errv_no h3]; rintro e w4 ⟨rfl, d4⟩; have D4 := Lib.hid d4; clear d4)
          | (go_at_call 102; with_reducible refine (W2.out _ _ F1.out D2.out).mono ?_; rw [hX2, errv_ok h2]; rintro e w3 ⟨rfl, d3⟩; have c3 := CC.out _ _ d3; have D3 := Lib.hid d3; clear d3))
        go_ret
        exact ⟨rfl, FIN.out _ _ D4.out⟩
    · rw [if_neg (fun e => e h1), if_pos h2]
      rw [errv_no h2]
      unfold sv at SA ⊢
      go_enter Tryz.func142, Tryz.ntmps142
      go_wp2_with (first
        | (go_at_call 103; refine SA.out.mono ?_; rintro e w1 ⟨rfl, k1⟩; have c1 := st_0 (k1.at B.out (fun e => e)); have K1 := Lib.hid k1; clear k1)
        | (go_at_call 210; refine (W1.out _ K1.out).mono ?_; rw [errv_ok h1]; rintro e w2 ⟨rfl, d2⟩; have c2 := CC.out _ _ d2; have D2 := Lib.hid d2; clear d2)
        | (go_at_call 102; with_reducible refine (W2.out _ _ F1.out D2.out).mono ?_; rw [hX2, errv_no h2]; rintro e w3 ⟨rfl, d3⟩; have D3 := Lib.hid d3; clear d3))
      go_ret
      exact ⟨rfl, FIN.out _ _ D3.out⟩
  · rw [if_pos h1]
    rw [errv_no h1]
    unfold sv at SA ⊢
    go_enter Tryz.func142, Tryz.ntmps142
    go_wp2_with (first
      | (go_at_call 103; refine SA.out.mono ?_; rintro e w1 ⟨rfl, k1⟩; have c1 := st_0 (k1.at B.out (fun e => e)); have K1 := Lib.hid k1; clear k1)
      | (go_at_call 210; refine (W1.out _ K1.out).mono ?_; rw [errv_no h1]; rintro e w2 ⟨rfl, d2⟩; have D2 := Lib.hid d2; clear d2))
    go_ret
    exact ⟨rfl, FIN.out _ _ D2.out⟩
theorem StoreAt.disk {F : Nat → Prop} {w : World} {q p : Nat} {X : Dk} (d : StoreAt F w q p X) : ∃ G, DiskAt G w p X ∧ ∀ g, G g → F g ∧ g ≠ q := d.dk
theorem sget_none (F : Nat → Prop) (q p : Nat) (n : Byt) (X : Dk) (w : World) (d : StoreAt F w q p X) (hn : okObj n) (hd : X.down = false) (hh : fhas X.shown n = false) :
    Calls Tryz.prog 51 #[.pointer (some ⟨q, 0, none⟩), sv n] w fun e w' => e = .returned (.tuple #[.slice none 0 0, .iface 84 (.int .i64 4)]) ∧ Keep Non w w' := by
  have SA := Lib.hid (sasks_ok q n w hn)
  obtain ⟨blk, inF, G, dg, hg⟩ := d
  have B := Lib.hid blk
  have R := Lib.hid (fun w1 (k : Keep Non w w1) => dread_none G p X n w1 (dg.keep k (fun _ _ e => e)) hd (by have := hn.2.1; omega) hh)
  clear blk dg hg hd
  unfold sv at SA R ⊢
  go_enter Tryz.func51, Tryz.ntmps51
  go_wp2_with (first
    | (go_at_call 103; refine SA.out.mono ?_; rintro e w1 ⟨rfl, k1⟩; have c1 := st_0 (k1.at B.out (fun e => e)); have K1 := Lib.hid k1; clear k1)
    | (go_at_call 104; refine (R.out _ K1.out).mono ?_; rintro e w2 ⟨rfl, e2⟩; subst e2))
  go_ret2
  exact ⟨rfl, K1.out⟩
theorem sget_ok (F : Nat → Prop) (q p : Nat) (n : Byt) (X : Dk) (w : World) (d : StoreAt F w q p X) (hn : okObj n) (hd : X.down = false) (hh : fhas X.shown n = true) (hl : (fget X.shown n).length ≤ 1000000000) :
    Calls Tryz.prog 51 #[.pointer (some ⟨q, 0, none⟩), sv n] w fun e w' => ∃ v', e = .returned (.tuple #[v', .nilIface]) ∧ Keep Non w w' ∧ w'.ownsRow w.heap.size 5 1 v' (fget X.shown n).length ((fget X.shown n).map bv) := by
  have SA := Lib.hid (sasks_ok q n w hn)
  obtain ⟨blk, inF, G, dg, hg⟩ := d
  have B := Lib.hid blk
  have R := Lib.hid (fun w1 (k : Keep Non w w1) => dread_ok G p X n w1 (dg.keep k (fun _ _ e => e)) hd (by have := hn.2.1; omega) hh hl)
  clear blk dg hg hd hl
  generalize fget X.shown n = D at R ⊢
  unfold sv at SA R ⊢
  go_enter Tryz.func51, Tryz.ntmps51
  go_wp2_with (first
    | (go_at_call 103; refine SA.out.mono ?_; rintro e w1 ⟨rfl, k1⟩; have c1 := st_0 (k1.at B.out (fun e => e)); have K1 := Lib.hid k1; clear k1)
    | (go_at_call 104; refine (R.out _ K1.out).mono ?_; rintro e w2 ⟨v2, rfl, k2, o2⟩; have K2 := Lib.hid k2; have O2 := Lib.hid o2; clear k2 o2))
  go_ret2
  exact ⟨_, rfl, K1.out.trans1 K2.out, ownsRow_low O2.out K1.out.size⟩
theorem sdel_any (F : Nat → Prop) (q p : Nat) (n : Byt) (X : Dk) (w : World) (d : StoreAt F w q p X) (hm : X.mild) (hmap : IsMap X.shown) (hn : okObj n) :
    Calls Tryz.prog 147 #[.pointer (some ⟨q, 0, none⟩), sv n] w fun e w' => e = .returned (errv (X.sdel n).1) ∧ StoreTo F w q p (X.sdel n).2 w' := by
  have SA := Lib.hid (sasks_ok q n w hn)
  have F1 := Lib.hid ((Dk.lim.mk (Nat.le_refl _) (Nat.le_refl _) (Nat.le_refl _) hm.2.2.2 hmap).remove n).fuse
  obtain ⟨blk, inF, G, dg, hg⟩ := d
  have B := Lib.hid blk
  have IF := Lib.hid inF
  have HG := Lib.hid hg
  have W1 : Hid (∀ w1, Keep Non w w1 → Calls Tryz.prog 101 #[.pointer (some ⟨p, 0, none⟩), .string ⟨n.toArray⟩] w1 fun e w2 => e = .returned (errv (X.remove n).1) ∧ DiskTo G w p (X.remove n).2 w2) := Lib.hid (by
    intro w1 k1
    refine (dremove_u G p n X w1 (dg.keep k1 (fun _ _ e => e)) hm hn.1).mono ?_
    rintro e w2 ⟨r, kk, G', s, dd⟩
    exact ⟨r, keep_sub (k1.mono (fun _ _ e => e.elim)) (Sub.refl _ _) kk, G', fun g e => by rcases s g e with e | e; exact .inl e; exact .inr (by have := k1.size; omega), dd⟩)
  have W2 : Hid (∀ w1 (Y : Dk), Y.fuse ≤ 1000000000 → DiskTo G w p Y w1 → Calls Tryz.prog 102 #[.pointer (some ⟨p, 0, none⟩)] w1 fun e w2 => e = .returned (errv Y.sync.1) ∧ DiskTo G w p Y.sync.2 w2) := Lib.hid (by
    rintro w1 Y hy ⟨k1, G', s, dd⟩
    refine (dsync_u G' p Y w1 dd hy).mono ?_
    rintro e w2 ⟨r, kk, G2, s2, dd2⟩
    exact ⟨r, keep_sub k1 s kk, G2, s.trans s2 k1.size, dd2⟩)
  have CC : Hid (∀ w1 (Y : Dk), DiskTo G w p Y w1 → w1.cell? ⟨q, 0, none⟩ = some (.pointer (some ⟨p, 0, none⟩))) := Lib.hid (fun w1 Y dd => st_0 (dd.1.at B.out (fun e => (HG.out q e).2 rfl)))
  have FIN : Hid (∀ w1 (Y : Dk), DiskTo G w p Y w1 → StoreTo F w q p Y w1) := Lib.hid (fun w1 Y dd => StoreTo.of dd B.out IF.out HG.out)
  clear blk inF dg hg hm hn
  unfold Dk.sdel
  generalize hX1 : X.remove n = X1 at W1 F1 ⊢
  unfold sv at SA ⊢
  by_cases h1 : X1.1 = 0
  · rw [if_neg (fun e => e h1)]
    go_enter Tryz.func147, Tryz.ntmps147
    go_wp2_with (first
      | (go_at_call 103; refine SA.out.mono ?_; rintro e w1 ⟨rfl, k1⟩; have c1 := st_0 (k1.at B.out (fun e => e)); have K1 := Lib.hid k1; clear k1)
      | (go_at_call 101; refine (W1.out _ K1.out).mono ?_; rw [errv_ok h1]; rintro e w2 ⟨rfl, d2⟩; have c2 := CC.out _ _ d2; have D2 := Lib.hid d2; clear d2)
      | (go_at_call 102; refine (W2.out _ _ F1.out D2.out).mono ?_; rintro e w3 ⟨rfl, d3⟩; have D3 := Lib.hid d3; clear d3))
    go_ret
    exact ⟨rfl, FIN.out _ _ D3.out⟩
  · rw [if_pos h1]
    rw [errv_no h1]
    go_enter Tryz.func147, Tryz.ntmps147
    go_wp2_with (first
      | (go_at_call 103; refine SA.out.mono ?_; rintro e w1 ⟨rfl, k1⟩; have c1 := st_0 (k1.at B.out (fun e => e)); have K1 := Lib.hid k1; clear k1)
      | (go_at_call 101; refine (W1.out _ K1.out).mono ?_; rw [errv_no h1]; rintro e w2 ⟨rfl, d2⟩; have D2 := Lib.hid d2; clear d2))
    go_ret
    exact ⟨rfl, FIN.out _ _ D2.out⟩
theorem keys_plain (mb : Option Nat) (W : World) : Calls Tryz.prog 167 #[.map mb] W fun e w' => e = .returned (.func (.func 250) #[] #[.pointer (some ⟨W.heap.size, 0, none⟩)]) ∧ w' = W.alloc (.cells #[.map mb] 118) :=
  (callsIn_wide (n := 5)).1 (Tryz.maps_Keys_167 mb W)
theorem sorted_plain {T : Nat → Prop} {w : World} {b : Nat} {D : Fl} (h : FlAt w T b D) (hs : size D ≤ 1000) :
    Calls Tryz.prog 166 #[.func (.func 250) #[] #[.pointer (some ⟨w.heap.size, 0, none⟩)]] (w.alloc (.cells #[.map (some b)] 118)) fun e w' => ∃ v, ∃ ns : List Byt, e = .returned v ∧ ns.Perm (Go.strKeys D) ∧ Keep Non w w' ∧ w'.ownsRow w.heap.size 9 1 v ns.length (ns.map sv) := by
  refine ((callsIn_wide (n := 5)).1 (Tryz.slices_Sorted_keys_166_167 b (size D) D _ w h (by simp only [maxLen]; omega) (by omega))).mono ?_
  rintro e w' ⟨v, ss, rfl, hp, ho, hn, hb⟩
  refine ⟨v, ss.mergeSort (fun x y => decide (x ≤ y)), rfl, (List.mergeSort_perm ss _).trans hp, ((Keep.refl Non w).alloc _).trans1 (Keep.ofBelow hb), ?_⟩
  rw [List.length_mergeSort]
  exact ownsRow_low ho (by simp)
theorem dlist_ok (F : Nat → Prop) (p : Nat) (X : Dk) (w : World) (d : DiskAt F w p X) (hd : X.down = false) (hs : size X.shown ≤ 1000) :
    Calls Tryz.prog 99 #[.pointer (some ⟨p, 0, none⟩)] w fun e w' => ∃ v, ∃ ns : List Byt, e = .returned (.tuple #[v, .nilIface]) ∧ ns.Perm (Go.strKeys X.shown) ∧ Keep Non w w' ∧ w'.ownsRow w.heap.size 9 1 v ns.length (ns.map sv) := by
  have L := Lib.hid (looks_ok d hd)
  obtain ⟨T, s, h, pv, d⟩ := d
  have c2 := dk_2 d.blk
  have S := Lib.hid (sorted_plain d.shown hs)
  clear d
  go_enter Tryz.func99, Tryz.ntmps99
  go_wp2_with (first
    | (go_at_call 165; refine L.out.mono ?_; rintro e w1 ⟨rfl, e1⟩; subst e1)
    | (go_at_call 167; refine (keys_plain _ _).mono ?_; rintro e w1 ⟨rfl, e1⟩; subst e1)
    | (go_at_call 166; refine S.out.mono ?_; rintro e w2 ⟨v, ns, rfl, p2, k2, o2⟩; have P2 := Lib.hid p2; have K2 := Lib.hid k2; have O2 := Lib.hid o2; clear p2 k2 o2))
  go_ret2
  exact ⟨v, ns, rfl, P2.out, K2.out, O2.out⟩
theorem dstart_up (F : Nat → Prop) (p : Nat) (X : Dk) (w : World) (d : DiskAt F w p X) (hd : X.down = false) :
    Calls Tryz.prog 32 #[.pointer (some ⟨p, 0, none⟩)] w fun e w' => e = .returned (.tuple #[]) ∧ DiskTo F w p { X with fuse := -1 } w' := by
  obtain ⟨T, s, h, pv, d⟩ := d
  have D := Lib.hid d
  have c5 := dk_5 d.blk
  have c4 := dk_4 d.blk
  have f5 := dk_f d.blk 5
  have f4 := dk_f d.blk 4
  have B := Lib.hid d.blk
  clear d
  rw [hd] at c5
  obtain ⟨room, sure, shown, pend, fuse, down⟩ := X
  simp only at hd
  subst hd
  have D1 := D.out.turn (i := 5) (u := .bool false) (Y := Dk.mk room sure shown pend fuse false) (dk_set5 B.out false) rfl rfl rfl rfl
  have D2 := Lib.hid (D1.2.turn (i := 4) (u := .int .i64 (-1)) (Y := Dk.mk room sure shown pend (-1) false) (dk_set4 D1.2.blk (-1)) rfl rfl rfl rfl)
  have D3 := Lib.hid D1
  clear D1
  go_enter Tryz.func32, Tryz.ntmps32
  go_wp2_with fail
  go_end0
  exact ⟨rfl, one_sub D.out (D3.out.1.trans1 D2.out.1), F, Sub.refl _ _, T, s, h, pv, D2.out.2⟩
theorem ddown_any (F : Nat → Prop) (p : Nat) (X : Dk) (w : World) (d : DiskAt F w p X) :
    Calls Tryz.prog 33 #[.pointer (some ⟨p, 0, none⟩)] w fun e w' => e = .returned (.bool X.down) ∧ w' = w := by
  obtain ⟨T, s, h, pv, d⟩ := d
  have c5 := dk_5 d.blk
  clear d
  go_enter Tryz.func33, Tryz.ntmps33
  go_wp2_with fail
  go_ret
  exact ⟨rfl, rfl⟩
theorem FlAt.empty (w : World) (T : Nat → Prop) : FlAt (w.alloc (.map #[] 0)) T w.heap.size (.map []) := MapAt.new w _ _
theorem dnew_any (room : Nat) (w : World) (h : room ≤ 1073741824) :
    Calls Tryz.prog 15 #[.int .i64 room] w fun e w' => ∃ p, e = .returned (.tuple #[.pointer (some ⟨p, 0, none⟩), .nilIface]) ∧ Keep Non w w' ∧ DiskAt (fun g => w.heap.size ≤ g ∧ g < w'.heap.size) w' p (dk0 room) := by
  have hmm := @run_makeMap Tryz.prog
  go_enter Tryz.func15, Tryz.ntmps15
  go_wp2_with fail
  go_ret2
  have m1 := FlAt.empty w (fun _ => False)
  have m2 := FlAt.empty (w.alloc (.map #[] 0)) (fun _ => False)
  have e1 : (w.alloc (.map #[] 0)).heap.size = w.heap.size + 1 := by simp
  rw [e1] at m2
  have ka : ∀ (w : World) o, Keep Non w (w.alloc o) := fun w o => (Keep.refl _ _).alloc _
  have e2 : ((w.alloc (.map #[] 0)).alloc (.map #[] 0)).heap.size = w.heap.size + 1 + 1 := by simp
  have m1' := ((m1.keep (ka _ (.map #[] 0)) (fun e => e) (fun _ _ e => e) (fun _ e => e)).keep (ka _ (DkB room w.heap.size (w.heap.size + 1) (.slice none 0 0) (-1) false)) (fun e => e) (fun _ _ e => e) (fun _ e => e))
  have m2' := m2.keep (ka _ (DkB room w.heap.size (w.heap.size + 1) (.slice none 0 0) (-1) false)) (fun e => e) (fun _ _ e => e) (fun _ e => e)
  have b3 := blk_new ((w.alloc (.map #[] 0)).alloc (.map #[] 0)) (DkB room w.heap.size (w.heap.size + 1) (.slice none 0 0) (-1) false)
  rw [e2] at b3
  refine ⟨w.heap.size + 1 + 1, rfl, (((Keep.refl _ _).alloc _).alloc _).alloc _, fun _ => False, w.heap.size, w.heap.size + 1, .slice none 0 0, b3, m1', m2', ⟨[], World.ownsRow_nil _ _ _ _, rfl, fun i c l hc => by simp [dk0] at hc⟩, ?_, ?_, ?_, h⟩
  · exact ⟨⟨by omega, by simp <;> omega⟩, ⟨by omega, by simp <;> omega⟩, ⟨by omega, by simp <;> omega⟩, fun g e => (by cases e), fun g e => False.elim e⟩
  · exact ⟨by omega, by omega, by omega, fun g e => by cases e⟩
  · exact ⟨fun e => e, fun e => e, fun e => e, fun g e => (by cases e), fun g e => False.elim e⟩
def begun (n : Byt) : Bool := Lib.hasPrefix n [126]
def sweep1 (X : Dk) (n : Byt) : Dk := if begun n then (X.remove n).2 else X
def sweepD (ns : List Byt) (X : Dk) : Dk := ns.foldl sweep1 X
def openD (ns : List Byt) (X : Dk) : Dk := if ns.any begun then (sweepD ns X).sync.2 else sweepD ns X
theorem fl_str {w : World} {T : Nat → Prop} {b : Nat} {D : Fl} (h : FlAt w T b D) : ∃ es, D = .map es ∧ es.Pairwise (fun p q => p.1 ≠ q.1) ∧ ∀ p ∈ es, ∃ x, p.1 = .string x := by
  have K := string_keyed Tryz.underlying9
  obtain ⟨es, hD, hpw, _⟩ := World.ownsMap.entries h K
  obtain ⟨es', hD', hko⟩ := World.ownsMap.keysOf h
  obtain rfl : es = es' := by rw [hD] at hD'; simpa using hD'
  exact ⟨es, hD, hpw, fun p hp => by obtain ⟨v, hv⟩ := hko p hp; obtain ⟨x, _, hx, _⟩ := Maps.keyOf_str Tryz.underlying9 hv; exact ⟨x, hx⟩⟩
theorem names_of {D : Fl} (h : ∃ es, D = .map es ∧ es.Pairwise (fun p q => p.1 ≠ q.1) ∧ ∀ p ∈ es, ∃ x, p.1 = .string x) {ns : List Byt} (hp : ns.Perm (Go.strKeys D)) : ns.Nodup ∧ ∀ n, n ∈ ns ↔ fhas D n = true := by
  obtain ⟨es, rfl, hpw, hk⟩ := h
  constructor
  · refine hp.nodup_iff.2 ?_
    show (es.map fun p => strOf p.1).Nodup
    refine List.pairwise_map.2 (hpw.imp_of_mem fun {p q} hp' hq' hne e => hne ?_)
    obtain ⟨a, ha⟩ := hk p hp'
    obtain ⟨b, hb⟩ := hk q hq'
    rw [ha, hb] at e ⊢
    exact congrArg _ e
  · intro x
    rw [hp.mem_iff]
    unfold fhas
    rw [has_eq, List.any_eq_true]
    show x ∈ es.map (fun p => strOf p.1) ↔ _
    rw [List.mem_map]
    constructor
    · rintro ⟨p, hp', rfl⟩
      obtain ⟨a, ha⟩ := hk p hp'
      exact ⟨p, hp', by rw [ha]; simp [Lit.sameKey, strOf]⟩
    · rintro ⟨p, hp', hs⟩
      obtain ⟨a, ha⟩ := hk p hp'
      rw [ha] at hs
      exact ⟨p, hp', by rw [ha]; simpa [Lit.sameKey, strOf] using hs⟩
theorem DiskAt.low {F : Nat → Prop} {w : World} {p : Nat} {X : Dk} (d : DiskAt F w p X) : DiskAt (fun g => F g ∧ g < w.heap.size) w p X := by
  obtain ⟨T, s, h, pv, d⟩ := d
  obtain ⟨i1, i2, i3, i4, i5⟩ := d.inF
  have hpv : ∀ g, pv.ownBlock = some g → g < w.heap.size := by
    obtain ⟨xs, h1, _⟩ := d.pend
    exact fun g e => (World.ownsRow.lt h1 g e).2
  exact ⟨T, s, h, pv, d.blk, d.sure, d.shown, d.pend, ⟨⟨i1, lt_of_blk d.blk⟩, ⟨i2, d.sure.lt⟩, ⟨i3, d.shown.lt⟩, fun g e => ⟨i4 g e, hpv g e⟩, fun g e => ⟨i5 g e, d.outT.2.2.2.2 g e⟩⟩, d.apart, d.outT, d.room⟩
theorem DiskAt.str {F : Nat → Prop} {w : World} {p : Nat} {X : Dk} (d : DiskAt F w p X) : ∃ es, X.shown = .map es ∧ es.Pairwise (fun p q => p.1 ≠ q.1) ∧ ∀ p ∈ es, ∃ x, p.1 = .string x := by
  obtain ⟨T, s, h, pv, d⟩ := d
  exact fl_str d.shown
def Dk.free (X : Dk) : Prop := X.down = false ∧ X.fuse < 0
theorem Dk.free.works {X : Dk} (h : X.free) : X.works = (0, X) := by
  unfold Dk.works
  rw [if_neg (by rw [h.1]; decide), if_neg (by have := h.2; omega), if_neg (by have := h.2; omega)]
theorem Dk.free.remove {X : Dk} (h : X.free) {n : Byt} (hn : fhas X.shown n = true) : X.remove n = (0, X.add (.remove n)) := by
  unfold Dk.remove
  rw [h.works, if_neg (fun e => e rfl), if_pos hn]
theorem Dk.free.sync {X : Dk} (h : X.free) : X.sync = (0, { X with sure := X.shown, pend := [] }) := by
  unfold Dk.sync
  rw [h.works, if_neg (fun e => e rfl)]
theorem sweep1_free {X : Dk} (h : X.free) {n : Byt} (hn : fhas X.shown n = true) : (sweep1 X n).free := by
  unfold sweep1
  split
  · rw [h.remove hn]; exact h
  · exact h
theorem sweep1_has {X : Dk} (h : X.free) {n m : Byt} (hn : fhas X.shown n = true) (hm : m ≠ n) : fhas (sweep1 X n).shown m = fhas X.shown m := by
  unfold sweep1
  split
  · rw [h.remove hn]
    show fhas (Chg.on (.remove n) X.shown) m = _
    unfold Chg.on
    simp only [hn, if_true]
    exact fhas_del_other hm
  · rfl
theorem sopen_up (F0 : Nat → Prop) (p : Nat) (X : Dk) (a k f : Nat) (w : World) (d0 : DiskAt F0 w p X) (hd : X.free) (hl : X.lim a k f) (ha : a ≤ 505) (hk : k + a ≤ 990) (hf : f ≤ 400000000) (hok : ∀ n, fhas X.shown n = true → okName n) :
    Calls Tryz.prog 50 #[.pointer (some ⟨p, 0, none⟩)] w fun e w' => ∃ (q : Nat) (ns : List Byt), e = .returned (.tuple #[.pointer (some ⟨q, 0, none⟩), .nilIface]) ∧ w.heap.size ≤ q ∧ ns.Perm (Go.strKeys X.shown) ∧ StoreTo F0 w q p (openD ns X) w' := by
  have d := d0.low
  clear d0
  have hF : ∀ g, (F0 g ∧ g < w.heap.size) → g < w.heap.size := fun g e => e.2
  have hF0 : ∀ g, (F0 g ∧ g < w.heap.size) → (F0 g ∧ g < w.heap.size) := fun g e => e
  generalize hFF : (fun g => F0 g ∧ g < w.heap.size) = F at d
  have hF : ∀ g, F g → g < w.heap.size := fun g e => by rw [← hFF] at e; exact e.2
  have hF1 : ∀ g, F g → F0 g := fun g e => by rw [← hFF] at e; exact e.1
  have L := Lib.hid (dlist_ok F p X w d hd.1 (by have := hl.files; omega))
  have D := Lib.hid d
  have HF := Lib.hid hF
  have HL := Lib.hid hl
  have HD := Lib.hid hd
  have ST := Lib.hid d.str
  clear d hF hF0 hl hd
  go_enter Tryz.func50, Tryz.ntmps50
  go_wp2_with (go_at_call 99; refine L.out.mono ?_; rintro e w1 ⟨v, ns, rfl, p1, k1, o1⟩; obtain ⟨a1, c1, rfl, _, _⟩ := ownsRow_form o1; have K1 := Lib.hid k1; have P1 := Lib.hid p1; have O1 := Lib.hid o1; clear p1 k1 o1)
  obtain ⟨nd, hmem⟩ := names_of ST.out P1.out
  have ND := Lib.hid nd
  have HM := Lib.hid hmem
  clear nd hmem
  have hnl : ns.length ≤ a := by
    have h1 := P1.out.length_eq
    obtain ⟨es, e, _⟩ := ST.out
    have h2 := HL.out.files
    rw [e] at h1 h2
    rw [h1]
    show (es.map _).length ≤ _
    rw [List.length_map]
    have h3 : size (DataW.map es : Fl) = es.length := rfl
    omega
  obtain ⟨wl, hwl⟩ : ∃ wl, wl = w1 := ⟨_, rfl⟩
  go_loopw [6, 24] (fun sw i wr => ∃ (j : Nat) (Y : Dk) (F' : Nat → Prop), j ≤ ns.length ∧ i = .int .i64 j ∧ sw = .bool ((ns.take j).any begun) ∧ Y = sweepD (ns.take j) X ∧ Y.free ∧ Y.lim a (k + j) f ∧ (∀ n ∈ ns.drop j, fhas Y.shown n = true) ∧ Keep F wl wr ∧ Sub F' F wl ∧ DiskAt F' wr p Y) (fun _ i _ => ns.length - (intOf i).toNat)
  case atStart =>
    subst hwl
    exact ⟨0, X, F, by omega, rfl, rfl, rfl, HD.out, HL.out, fun n hn => (HM.out n).1 (by simpa using hn), Keep.refl _ _, Sub.refl _ _, D.out.keep K1.out (fun _ _ e => e)⟩
  case round =>
    obtain ⟨j, Y, F', hj, rfl, rfl, hY, hfr, hlim, hrest, kw, hs, dY⟩ := hrel
    have KW := Lib.hid kw
    have HS := Lib.hid hs
    have DY := Lib.hid dY
    clear kw hs dY
    by_cases hlt : j < ns.length
    · have O2 := Rd.ofOwns (ownsRow_keep (hwl ▸ O1.out) KW.out (fun g e e2 => by have h1 := (O1.out.lt g e).1; have h2 := HF.out g e2; omega))
      obtain ⟨g, off, hc⟩ : ∃ g off, a1 = some (⟨g, off, none⟩ : Addr) ∧ ∀ j u, (ns.map sv)[j]? = some u → wr.cell? ⟨g, off + j, none⟩ = some u := by
        obtain ⟨a', c', e, hx⟩ := O2
        injection e with e1 e2 e3
        obtain ⟨g, off, e4, hc⟩ := hx (by intro e; rw [List.map_eq_nil_iff] at e; rw [e] at hlt; exact absurd hlt (by simp))
        exact ⟨g, off, e1.trans e4, hc⟩
      obtain ⟨rfl, hc⟩ := hc
      have hcell := hc j (sv ns[j]) (by rw [List.getElem?_map, List.getElem?_eq_getElem hlt]; rfl)
      have hin : ns[j] ∈ ns := List.getElem_mem hlt
      have hdr : ns.drop j = ns[j] :: ns.drop (j + 1) := List.drop_eq_getElem_cons hlt
      have hnj : fhas Y.shown ns[j] = true := hrest _ (by rw [hdr]; exact List.mem_cons_self)
      have hnok := hok _ ((HM.out _).1 hin)
      have hY1 : sweepD (ns.take (j + 1)) X = sweep1 Y ns[j] := by rw [List.take_succ_eq_append_getElem hlt, hY]; unfold sweepD; rw [List.foldl_append]; rfl
      have hany : (ns.take (j + 1)).any begun = ((ns.take j).any begun || begun ns[j]) := by rw [List.take_succ_eq_append_getElem hlt, List.any_append]; simp
      have hrest1 : ∀ n ∈ ns.drop (j + 1), fhas (sweep1 Y ns[j]).shown n = true := by
        intro n hn
        have hne : n ≠ ns[j] := by
          have h1 := ND.out
          rw [← List.take_append_drop j ns, hdr, List.nodup_append] at h1
          have h2 := (List.nodup_cons.1 h1.2.1).1
          intro e
          exact h2 (e ▸ hn)
        rw [sweep1_has hfr hnj hne]
        exact hrest n (by rw [hdr]; exact List.mem_cons_of_mem _ hn)
      have H1 := Lib.hid (And.intro hY1 (And.intro hany (And.intro hrest1 (sweep1_free hfr hnj))))
      have hhp := Tryz.strings_HasPrefix ⟨ns[j].toArray⟩ ⟨#[126]⟩
      clear hY1 hany hrest1 hdr hrest hin hc O2
      have hb0 : Lib.hasPrefix (⟨ns[j].toArray⟩ : ByteArray).data.toList (⟨#[126]⟩ : ByteArray).data.toList = begun ns[j] := rfl
      rw [hb0] at hhp
      have HP := Lib.hid hhp
      clear hhp hb0
      unfold sv at hcell
      have RM := Lib.hid (dremove_u F' p ns[j] Y wr DY.out (hlim.mild (by omega) (by omega) (by omega)) hnok)
      have hrm := hfr.remove hnj
      unfold sv at RM
      cases hb : begun ns[j] with
      | false =>
        rw [hb] at HP
        go_wp2_with (go_at_call 100; refine (HP.out _).mono ?_; rintro e w3 ⟨rfl, e3⟩; subst e3)
        have hY2 : sweep1 Y ns[j] = Y := by unfold sweep1; rw [hb]; rfl
        refine ⟨⟨j + 1, Y, F', by omega, by go_num, by rw [H1.out.2.1, hb, Bool.or_false], by rw [H1.out.1, hY2], hfr, hlim.mono (by omega) (by omega) (by omega), by have := H1.out.2.2.1; rw [hY2] at this; exact this, KW.out, HS.out, DY.out⟩, by simp [intOf]; omega⟩
      | true =>
        rw [hb] at HP
        rw [hrm] at RM
        have e0 : errv ((0 : Int), Y.add (.remove ns[j])).1 = .nilIface := rfl
        rw [e0] at RM
        have RM2 := Lib.hid RM.out
        have hY2 : sweep1 Y ns[j] = Y.add (.remove ns[j]) := by unfold sweep1; rw [hb, if_pos rfl, hrm]
        have hl2 := hlim.remove ns[j]
        rw [hrm] at hl2
        have HL2 := Lib.hid hl2
        clear hl2 hrm RM
        go_wp2_with (first
          | (go_at_call 100; refine (HP.out _).mono ?_; rintro e w3 ⟨rfl, e3⟩; subst e3)
          | (go_at_call 101; refine RM2.out.mono ?_; rintro e w3 ⟨rfl, k3, F3, s3, d3⟩; have K3 := Lib.hid k3; have S3 := Lib.hid s3; have D3 := Lib.hid d3; clear k3 s3 d3))
        refine ⟨⟨j + 1, Y.add (.remove ns[j]), F3, by omega, by go_num, by rw [H1.out.2.1, hb, Bool.or_true], by rw [H1.out.1, hY2], by have := H1.out.2.2.2; rw [hY2] at this; exact this, HL2.out.mono (by omega) (by omega) (by omega), by have := H1.out.2.2.1; rw [hY2] at this; exact this, keep_sub KW.out HS.out K3.out, HS.out.trans S3.out KW.out.size, D3.out⟩, by simp [intOf]; omega⟩
    · obtain rfl : j = ns.length := by omega
      rw [List.take_length] at hY ⊢
      have FIN : Hid (∀ w3 Z, DiskTo F' wr p Z w3 → StoreTo F0 w w3.heap.size p Z (w3.alloc (StB p))) := Lib.hid (by
        intro w3 Z dz
        obtain ⟨k3, F3, s3, d3⟩ := dz
        subst hwl
        have kk : Keep F w w3 := keep_sub (K1.out.ofNon.trans1 KW.out) (fun g e => by rcases HS.out g e with e | e; exact .inl e; exact .inr (by have := K1.out.size; omega)) k3
        refine ⟨(kk.mono (fun i _ e => hF1 i e)).alloc _, fun g => g = w3.heap.size ∨ (F3 g ∧ g < w3.heap.size), ?_, blk_new _ _, .inl rfl, _, d3.low.keep ((Keep.refl Non _).alloc _) (fun _ _ e => e), fun g e => ⟨.inr e, by have := e.2; omega⟩⟩
        have z1 := kk.size
        rintro g (rfl | ⟨e, _⟩)
        · exact .inr z1
        · rcases s3 g e with e | e
          · rcases HS.out g e with e | e
            · exact .inl (hF1 g e)
            · exact .inr (by have := K1.out.size; omega)
          · exact .inr (by have := K1.out.size; have := KW.out.size; omega))
      have SY := Lib.hid (dsync_u F' p Y wr DY.out hlim.fuse)
      have hsy := hfr.sync
      cases hb : ns.any begun with
      | true =>
        rw [hsy] at SY
        have e0 : errv ((0 : Int), ({ Y with sure := Y.shown, pend := [] } : Dk)).1 = .nilIface := rfl
        rw [e0] at SY
        have SY2 := Lib.hid SY.out
        clear SY
        go_wp2_with (go_at_call 102; refine SY2.out.mono ?_; rintro e w3 ⟨rfl, d3⟩; have D3 := Lib.hid d3; clear d3)
        go_ret2
        refine ⟨_, ns, rfl, ?_, P1.out, ?_⟩
        · have h1 := K1.out.size
          have h2 := KW.out.size
          have h3 := D3.out.1.size
          subst hwl
          omega
        · have e : openD ns X = { Y with sure := Y.shown, pend := [] } := by unfold openD; rw [hb, if_pos rfl, ← hY, hsy]
          rw [e]
          exact FIN.out _ _ D3.out
      | false =>
        go_wp2_with fail
        go_ret2
        refine ⟨_, ns, rfl, ?_, P1.out, ?_⟩
        · have h1 := K1.out.size
          have h2 := KW.out.size
          subst hwl
          omega
        · have e : openD ns X = Y := by unfold openD; rw [hb, ← hY]; rfl
          rw [e]
          exact FIN.out _ _ ⟨Keep.refl _ _, F', Sub.refl _ _, DY.out⟩
end Go.Proofs.YtdmckfkhkjkdnaaGreatDoor
