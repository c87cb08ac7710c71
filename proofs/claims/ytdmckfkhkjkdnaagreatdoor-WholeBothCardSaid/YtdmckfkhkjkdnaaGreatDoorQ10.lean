/- A file gets another name; a file is removed: walked. -/
import Derived.Test.YtdmckfkhkjkdnaaGreatDoorQ09
set_option linter.unusedVariables false
set_option maxRecDepth 100000
set_option maxHeartbeats 16000000
namespace Go.Proofs.YtdmckfkhkjkdnaaGreatDoor
open Go.RowKit Go.Maps
theorem drename_ok (F T : Nat → Prop) (p s h : Nat) (pv : Value) (n m : Byt) (X : Dk) (w : World) (d : DiskIn F T w p s h pv X) (hw : X.works.1 = 0) (hfu : X.fuse ≤ 1000000000) (hn : okName n) (hm : okName m) (hs : size X.shown ≤ 100000) (hp : X.pend.length ≤ 1000000) (hh : fhas X.shown n = true) :
    Calls Tryz.prog 211 #[.pointer (some ⟨p, 0, none⟩), sv n, sv m] w fun e w' => e = .returned .nilIface ∧ Keep F w w' ∧ ∃ F', (∀ g, F' g → F g ∨ w.heap.size ≤ g) ∧ DiskAt F' w' p (X.works.2.add (.rename n m)) := by
  have W := dworks_any F T p s h pv X w d hfu
  rw [hw] at W
  have W2 : Hid (Calls Tryz.prog 169 #[.pointer (some ⟨p, 0, none⟩)] w fun e w' => e = .returned .nilIface ∧ Keep (One p) w w' ∧ DiskIn F T w' p s h pv X.works.2) := W
  have D := Lib.hid d
  obtain ⟨r1, r2, r3, r4⟩ := works_room X
  have hX2 : size X.works.2.shown ≤ 100000 := by rw [r2]; exact hs
  have hP2 : X.works.2.pend.length ≤ 1000000 := by rw [r3]; exact hp
  have hH2 : fhas X.works.2.shown n = true := by rw [r2]; exact hh
  have law := string_keyed Tryz.underlying9
  have hkey := key_sv n (by unfold maxLen; have := hn.2.1; omega)
  have hz := fun w => Tryz.zeroValue48 w
  have hnl : n.length ≤ 1000 := by have := hn.2.1; omega
  have hml : m.length ≤ 1000 := by have := hm.2.1; omega
  have NM := Lib.hid (fun w => named_ok n w hn)
  have NM2 := Lib.hid (fun w => named_ok m w hm)
  clear W d
  generalize X.works.2 = Y at W2 hX2 hP2 hH2 ⊢
  have hhas : has Y.shown (.string n) = true := hH2
  unfold sv at hkey NM NM2 ⊢
  go_enter Tryz.func211, Tryz.ntmps211
  go_wp2_with (first
    | (go_at_call 169; refine W2.out.mono ?_; rintro e w1 ⟨rfl, k1, d1⟩; have K1 := Lib.hid k1; have D1 := Lib.hid d1; clear k1 d1)
    | (go_at_call 170; first
        | (with_reducible refine (NM.out _).mono ?_; rintro e w2 ⟨rfl, k2⟩; have K2 := Lib.hid k2; clear k2)
        | (with_reducible refine (NM2.out _).mono ?_; rintro e w3 ⟨rfl, k3⟩; have K3 := Lib.hid (K2.out.trans1 k3); clear k3; have B3 := K3.out.at D1.out.blk (fun e => e); have c2 := dk_2 B3; have M3 := Lib.hid (FlAt.keep D1.out.shown K3.out (fun e => e) (fun _ _ e => e) (fun _ e => e)); clear B3))
    | (at_lookup; refine wpList_look_ok rfl _ _ 118 rfl 48 law Tryz.underlying118 (hz _) [] (BsIn.fun1 _ T) (bsin_nil _ _) rfl M3.out _ _ rfl hkey ?_; rw [hhas]; intro lv ly hlv hat; obtain ⟨⟨la, lc, rfl, _⟩, _⟩ := hlv; clear hat)
    | (go_at_call 171; refine (dadd_rename F T p s h pv n m Y _ (D1.out.keep K3.out (fun _ _ e => e)) (by omega) hP2 hnl hml hH2).mono ?_; rintro e w5 ⟨rfl, k5, hex⟩; have K5 := Lib.hid k5; have EX := Lib.hid hex; clear k5 hex))
  go_ret
  obtain ⟨pv', hpv, dd⟩ := EX.out
  exact ⟨rfl, ((K1.out.mono (fun i _ e => by have e' : i = p := e; rw [e']; exact D.out.inF.1)).trans1 K3.out.ofNon).trans1 K5.out, _, fun g e => by rcases e with e | e; exact .inl e; rcases hpv g e with q | q; exact .inl q; exact .inr (Nat.le_trans (Nat.le_trans K1.out.size K3.out.size) q), ⟨_, s, h, pv', dd⟩⟩
theorem drename_none (F T : Nat → Prop) (p s h : Nat) (pv : Value) (n m : Byt) (X : Dk) (w : World) (d : DiskIn F T w p s h pv X) (hw : X.works.1 = 0) (hfu : X.fuse ≤ 1000000000) (hn : okName n) (hm : okName m) (hs : size X.shown ≤ 100000) (hp : X.pend.length ≤ 1000000) (hh : fhas X.shown n = false) :
    Calls Tryz.prog 211 #[.pointer (some ⟨p, 0, none⟩), sv n, sv m] w fun e w' => e = .returned (.iface 84 (.int .i64 4)) ∧ Keep (One p) w w' ∧ DiskIn F T w' p s h pv X.works.2 := by
  have W := dworks_any F T p s h pv X w d hfu
  rw [hw] at W
  have W2 : Hid (Calls Tryz.prog 169 #[.pointer (some ⟨p, 0, none⟩)] w fun e w' => e = .returned .nilIface ∧ Keep (One p) w w' ∧ DiskIn F T w' p s h pv X.works.2) := W
  have D := Lib.hid d
  obtain ⟨r1, r2, r3, r4⟩ := works_room X
  have hX2 : size X.works.2.shown ≤ 100000 := by rw [r2]; exact hs
  have hP2 : X.works.2.pend.length ≤ 1000000 := by rw [r3]; exact hp
  have hH2 : fhas X.works.2.shown n = false := by rw [r2]; exact hh
  have law := string_keyed Tryz.underlying9
  have hkey := key_sv n (by unfold maxLen; have := hn.2.1; omega)
  have hz := fun w => Tryz.zeroValue48 w
  have hnl : n.length ≤ 1000 := by have := hn.2.1; omega
  have hml : m.length ≤ 1000 := by have := hm.2.1; omega
  have NM := Lib.hid (fun w => named_ok n w hn)
  have NM2 := Lib.hid (fun w => named_ok m w hm)
  clear W d
  generalize X.works.2 = Y at W2 hX2 hP2 hH2 ⊢
  have hhas : has Y.shown (.string n) = false := hH2
  unfold sv at hkey NM NM2 ⊢
  go_enter Tryz.func211, Tryz.ntmps211
  go_wp2_with (first
    | (go_at_call 169; refine W2.out.mono ?_; rintro e w1 ⟨rfl, k1, d1⟩; have K1 := Lib.hid k1; have D1 := Lib.hid d1; clear k1 d1)
    | (go_at_call 170; first
        | (with_reducible refine (NM.out _).mono ?_; rintro e w2 ⟨rfl, k2⟩; have K2 := Lib.hid k2; clear k2)
        | (with_reducible refine (NM2.out _).mono ?_; rintro e w3 ⟨rfl, k3⟩; have K3 := Lib.hid (K2.out.trans1 k3); clear k3; have B3 := K3.out.at D1.out.blk (fun e => e); have c2 := dk_2 B3; have M3 := Lib.hid (FlAt.keep D1.out.shown K3.out (fun e => e) (fun _ _ e => e) (fun _ e => e)); clear B3))
    | (at_lookup; refine wpList_look_ok rfl _ _ 118 rfl 48 law Tryz.underlying118 (hz _) [] (BsIn.fun1 _ T) (bsin_nil _ _) rfl M3.out _ _ rfl hkey ?_; rw [hhas]; intro lv ly hlv hat; obtain ⟨⟨la, lc, rfl, _⟩, _⟩ := hlv; clear hat))
  go_ret
  exact ⟨rfl, K1.out.trans1 K3.out.ofNon, D1.out.keep K3.out (fun _ _ e => e)⟩
theorem dremove_ok (F T : Nat → Prop) (p s h : Nat) (pv : Value) (n : Byt) (X : Dk) (w : World) (d : DiskIn F T w p s h pv X) (hw : X.works.1 = 0) (hfu : X.fuse ≤ 1000000000) (hn : okName n) (hs : size X.shown ≤ 100000) (hp : X.pend.length ≤ 1000000) (hh : fhas X.shown n = true) :
    Calls Tryz.prog 101 #[.pointer (some ⟨p, 0, none⟩), sv n] w fun e w' => e = .returned .nilIface ∧ Keep F w w' ∧ ∃ F', (∀ g, F' g → F g ∨ w.heap.size ≤ g) ∧ DiskAt F' w' p (X.works.2.add (.remove n)) := by
  have W := dworks_any F T p s h pv X w d hfu
  rw [hw] at W
  have W2 : Hid (Calls Tryz.prog 169 #[.pointer (some ⟨p, 0, none⟩)] w fun e w' => e = .returned .nilIface ∧ Keep (One p) w w' ∧ DiskIn F T w' p s h pv X.works.2) := W
  have D := Lib.hid d
  obtain ⟨r1, r2, r3, r4⟩ := works_room X
  have hX2 : size X.works.2.shown ≤ 100000 := by rw [r2]; exact hs
  have hP2 : X.works.2.pend.length ≤ 1000000 := by rw [r3]; exact hp
  have hH2 : fhas X.works.2.shown n = true := by rw [r2]; exact hh
  have law := string_keyed Tryz.underlying9
  have hkey := key_sv n (by unfold maxLen; have := hn.2.1; omega)
  have hz := fun w => Tryz.zeroValue48 w
  have hnl : n.length ≤ 1000 := by have := hn.2.1; omega
  have NM := Lib.hid (fun w => named_ok n w hn)
  clear W d
  generalize X.works.2 = Y at W2 hX2 hP2 hH2 ⊢
  have hhas : has Y.shown (.string n) = true := hH2
  unfold sv at hkey NM ⊢
  go_enter Tryz.func101, Tryz.ntmps101
  go_wp2_with (first
    | (go_at_call 169; refine W2.out.mono ?_; rintro e w1 ⟨rfl, k1, d1⟩; have K1 := Lib.hid k1; have D1 := Lib.hid d1; clear k1 d1)
    | (go_at_call 170; refine (NM.out _).mono ?_; rintro e w3 ⟨rfl, k3⟩; have K3 := Lib.hid k3; clear k3; have B3 := K3.out.at D1.out.blk (fun e => e); have c2 := dk_2 B3; have M3 := Lib.hid (FlAt.keep D1.out.shown K3.out (fun e => e) (fun _ _ e => e) (fun _ e => e)); clear B3)
    | (at_lookup; refine wpList_look_ok rfl _ _ 118 rfl 48 law Tryz.underlying118 (hz _) [] (BsIn.fun1 _ T) (bsin_nil _ _) rfl M3.out _ _ rfl hkey ?_; rw [hhas]; intro lv ly hlv hat; obtain ⟨⟨la, lc, rfl, _⟩, _⟩ := hlv; clear hat)
    | (go_at_call 171; refine (dadd_remove F T p s h pv n Y _ (D1.out.keep K3.out (fun _ _ e => e)) (by omega) hP2 hnl hH2).mono ?_; rintro e w5 ⟨rfl, k5, hex⟩; have K5 := Lib.hid k5; have EX := Lib.hid hex; clear k5 hex))
  go_ret
  obtain ⟨pv', hpv, dd⟩ := EX.out
  exact ⟨rfl, ((K1.out.mono (fun i _ e => by have e' : i = p := e; rw [e']; exact D.out.inF.1)).trans1 K3.out.ofNon).trans1 K5.out, _, fun g e => by rcases e with e | e; exact .inl e; rcases hpv g e with q | q; exact .inl q; exact .inr (Nat.le_trans (Nat.le_trans K1.out.size K3.out.size) q), ⟨_, s, h, pv', dd⟩⟩
theorem dremove_none (F T : Nat → Prop) (p s h : Nat) (pv : Value) (n : Byt) (X : Dk) (w : World) (d : DiskIn F T w p s h pv X) (hw : X.works.1 = 0) (hfu : X.fuse ≤ 1000000000) (hn : okName n) (hs : size X.shown ≤ 100000) (hp : X.pend.length ≤ 1000000) (hh : fhas X.shown n = false) :
    Calls Tryz.prog 101 #[.pointer (some ⟨p, 0, none⟩), sv n] w fun e w' => e = .returned (.iface 84 (.int .i64 4)) ∧ Keep (One p) w w' ∧ DiskIn F T w' p s h pv X.works.2 := by
  have W := dworks_any F T p s h pv X w d hfu
  rw [hw] at W
  have W2 : Hid (Calls Tryz.prog 169 #[.pointer (some ⟨p, 0, none⟩)] w fun e w' => e = .returned .nilIface ∧ Keep (One p) w w' ∧ DiskIn F T w' p s h pv X.works.2) := W
  have D := Lib.hid d
  obtain ⟨r1, r2, r3, r4⟩ := works_room X
  have hX2 : size X.works.2.shown ≤ 100000 := by rw [r2]; exact hs
  have hP2 : X.works.2.pend.length ≤ 1000000 := by rw [r3]; exact hp
  have hH2 : fhas X.works.2.shown n = false := by rw [r2]; exact hh
  have law := string_keyed Tryz.underlying9
  have hkey := key_sv n (by unfold maxLen; have := hn.2.1; omega)
  have hz := fun w => Tryz.zeroValue48 w
  have hnl : n.length ≤ 1000 := by have := hn.2.1; omega
  have NM := Lib.hid (fun w => named_ok n w hn)
  clear W d
  generalize X.works.2 = Y at W2 hX2 hP2 hH2 ⊢
  have hhas : has Y.shown (.string n) = false := hH2
  unfold sv at hkey NM ⊢
  go_enter Tryz.func101, Tryz.ntmps101
  go_wp2_with (first
    | (go_at_call 169; refine W2.out.mono ?_; rintro e w1 ⟨rfl, k1, d1⟩; have K1 := Lib.hid k1; have D1 := Lib.hid d1; clear k1 d1)
    | (go_at_call 170; refine (NM.out _).mono ?_; rintro e w3 ⟨rfl, k3⟩; have K3 := Lib.hid k3; clear k3; have B3 := K3.out.at D1.out.blk (fun e => e); have c2 := dk_2 B3; have M3 := Lib.hid (FlAt.keep D1.out.shown K3.out (fun e => e) (fun _ _ e => e) (fun _ e => e)); clear B3)
    | (at_lookup; refine wpList_look_ok rfl _ _ 118 rfl 48 law Tryz.underlying118 (hz _) [] (BsIn.fun1 _ T) (bsin_nil _ _) rfl M3.out _ _ rfl hkey ?_; rw [hhas]; intro lv ly hlv hat; obtain ⟨⟨la, lc, rfl, _⟩, _⟩ := hlv; clear hat))
  go_ret
  exact ⟨rfl, K1.out.trans1 K3.out.ofNon, D1.out.keep K3.out (fun _ _ e => e)⟩
end Go.Proofs.YtdmckfkhkjkdnaaGreatDoor
