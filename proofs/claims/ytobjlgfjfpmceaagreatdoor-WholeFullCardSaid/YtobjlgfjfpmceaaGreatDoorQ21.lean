/- unit.Fill: walked. · unit.Write: walked. · unit.tail, Seal: walked. · maps.DeleteFunc at a unit's cells; unit.Trim, Cut: walked. · unit.Trim, Cut: wal -/
import Derived.Lib.SlMapFilter
import Derived.Test.YtobjlgfjfpmceaaGreatDoorQ07
import Derived.Test.YtobjlgfjfpmceaaGreatDoorQ20
set_option linter.unusedVariables false
set_option maxRecDepth 100000
set_option maxHeartbeats 16000000
namespace Go.Proofs.YtobjlgfjfpmceaaGreatDoor
open Go.RowKit Go.Maps
def UnTo (F : Nat → Prop) (w : World) (b e l : Nat) (D : Un) (w' : World) : Prop := Keep F w w' ∧ ∃ F', Sub F' F w ∧ UnAt F' w' b e l D
theorem cs_turned {w w' : World} {T : Nat → Prop} {b : Nat} {D : Un} (h : MapAt w' 3 (ClIn w T) b D) (k : Keep (One b) w w') (hT : ¬ T b) : CsMap w' T b D :=
  MapAt.keep h (Keep.refl Non w') (fun e => e) (ClIn.fun1 _ _) (fun v x hx => hx.keep k (fun g hg e => hT (by have e' : g = b := e; rw [← e']; exact hg)) (fun _ e => e))
theorem UnIn.turned {F T : Nat → Prop} {w w' : World} {b m e l : Nat} {D D' : Un} (h : UnIn F T w b m e l D) (k : Keep (One m) w w') (hc : MapAt w' 3 (ClIn w T) m D') (hk : keysOk D') : UnIn F T w' b m e l D' :=
  ⟨k.at h.blk h.apart, cs_turned hc k h.outT.2.1, h.inF, h.apart, ⟨h.outT.1, h.outT.2.1, fun g e => k.lt (h.outT.2.2 g e)⟩, h.ep, h.lo, hk⟩
theorem cell_fd0 (k : Int) (u : Value) (w : World) : (Instr.field 55 (.agg #[.int .i64 k, u]) 0).run Tryz.prog w = .ok (.int .i64 k) w := by kernel_rfl
theorem unfill_yes (F : Nat → Prop) (b e l a : Nat) (D : Un) (w : World) (h : UnAt F w b e l D) (ha : a ≤ 1048575) (hs : size D ≤ 1000000) (h3 : (uat l D a).1 ≠ 3) (h1 : (uat l D a).1 ≠ 1) :
    Calls Tryz.prog 234 #[.pointer (some ⟨b, 0, none⟩), .int .i64 e, .int .i64 a] w fun r w' => r = .returned .nilIface ∧ UnTo F w b e l (uput D a (2, [])) w' := by
  have AS := Lib.hid (unasks_ok F b e l D w h)
  have AT := Lib.hid (unat_ok F b e l a D w h (by omega))
  obtain ⟨T, m, h⟩ := h
  have H := Lib.hid h
  have hkey := ulit_of a (by omega)
  have B := Lib.hid h.blk
  have fd := cell_fd0
  clear h
  generalize (uat l D a) = x at AT h3 h1
  obtain ⟨kx, lx⟩ := x
  dsimp only at h3 h1
  go_enter Tryz.func234, Tryz.ntmps234
  go_wp2_with (first
    | (go_at_call 211; refine (unin_yes _ _ _ (by omega) (by omega)).mono ?_; rintro r w1 ⟨rfl, e1⟩; subst e1)
    | (go_at_call 210; refine AS.out.mono ?_; rintro r w1 ⟨rfl, e1⟩; subst e1)
    | (go_at_call 213; refine AT.out.mono ?_; rintro r w1 ⟨v, rfl, ⟨u, rfl, _⟩, k1⟩; have K1 := Lib.hid k1; have c2 := un_2 (k1.at B.out (fun e => e)); have H1 := Lib.hid (H.out.keep k1 (fun _ _ e => e)); clear k1)
    | (at_mapUpdate; refine wpList_stored rfl _ _ _ 217 rfl 55 int_law Tryz.underlying217 (ClIn.fun1 _ T) rfl H1.out.cells (by unfold maxLen; omega) _ _ _ rfl rfl hkey ((2, []) : Cl) (ClIn.nil _ _ 2) ?_; intro w2 hm2 ht2; have M2 := Lib.hid hm2; have K2 := Lib.hid (keep_turned ht2); clear hm2 ht2))
  go_ret
  exact ⟨rfl, K1.out.trans K2.out (fun _ _ e => e.elim) (fun g _ e => by have e' : g = m := e; rw [e']; exact H.out.inF.2.1), F, Sub.refl _ _, T, m, H1.out.turned K2.out M2.out (H.out.keys.put (by omega) _)⟩
theorem ustore_run {F T : Nat → Prop} {w : World} {b m e l a : Nat} {D : Un} {val : Value} {y : Cl} (h : UnIn F T w b m e l D) (hs : size D ≤ 1000000) (ha : a < 1048576) (hv : ClIn w T val y) :
    ∃ w', (Instr.mapUpdate 217 (.map (some m)) (.int .i64 a) val).run Tryz.prog w = .ok () w' ∧ Keep (One m) w w' ∧ UnIn F T w' b m e l (uput D a y) := by
  obtain ⟨w', hrun, hm, ht⟩ := World.ownsMap.store h.cells int_law Tryz.underlying217 (by unfold maxLen; omega) (ulit_of a (by omega)) (readAs_mk (ClIn.fun1 w T) hv)
  exact ⟨w', hrun, keep_turned ht, h.turned (keep_turned ht) (MapAt.of hm) (h.keys.put ha _)⟩
theorem UnIn.more {F T : Nat → Prop} {w : World} {b m e l : Nat} {D : Un} (h : UnIn F T w b m e l D) (T2 : Nat → Prop) (h2 : ∀ g, T2 g → g ≠ b ∧ g ≠ m ∧ g < w.heap.size) : UnIn (fun g => F g ∨ T2 g) (fun g => T g ∨ T2 g) w b m e l D :=
  ⟨h.blk, h.cells.keep (Keep.refl Non w) (fun x => x) (fun _ _ x => x) (fun _ x => .inl x), ⟨.inl h.inF.1, .inl h.inF.2.1, fun g x => by rcases x with x | x; exact .inl (h.inF.2.2 g x); exact .inr x⟩, h.apart, ⟨fun x => by rcases x with x | x; exact h.outT.1 x; exact (h2 _ x).1 rfl, fun x => by rcases x with x | x; exact h.outT.2.1 x; exact (h2 _ x).2.1 rfl, fun g x => by rcases x with x | x; exact h.outT.2.2 g x; exact (h2 g x).2.2⟩, h.ep, h.lo, h.keys⟩
theorem unwrite_yes (F : Nat → Prop) (b e l a : Nat) (D : Un) (d : List UInt8) (dv : Value) (w : World) (h : UnAt F w b e l D) (ha : a ≤ 1048575) (hs : size D ≤ 1000000) (hd : Bs w dv d) (hl : d.length ≤ 64) (h0 : (uat l D a).1 = 0) :
    Calls Tryz.prog 233 #[.pointer (some ⟨b, 0, none⟩), .int .i64 e, .int .i64 a, dv] w fun r w' => r = .returned .nilIface ∧ UnTo F w b e l (uput D a (1, d)) w' := by
  have CU := Lib.hid (uncurrent_ok F b e l D w h)
  have AT := Lib.hid (unat_ok F b e l a D w h (by omega))
  obtain ⟨T, m, h⟩ := h
  have H := Lib.hid h
  have hkey := ulit_of a (by omega)
  have B := Lib.hid h.blk
  have fd := cell_fd0
  have CL := Lib.hid (fun W (k : Keep Non w W) => clone_new dv d W (hd.keepNon k) (by omega))
  obtain ⟨da, dc, rfl, _⟩ := hd
  rw [List.length_map] at CL ⊢
  clear h
  generalize (uat l D a) = x at AT h0
  obtain ⟨kx, lx⟩ := x
  dsimp only at h0
  subst h0
  go_enter Tryz.func233, Tryz.ntmps233
  go_wp2_with (first
    | (go_at_call 211; refine (unin_yes _ _ _ (by omega) (by omega)).mono ?_; rintro r w1 ⟨rfl, rfl⟩)
    | (go_at_call 268; refine CU.out.mono ?_; rintro r w1 ⟨rfl, rfl⟩)
    | (go_at_call 213; refine AT.out.mono ?_; rintro r w1 ⟨v, rfl, ⟨u, rfl, _⟩, k1⟩; have K1 := Lib.hid k1; have c2 := un_2 (k1.at B.out (fun e => e)); have H1 := Lib.hid (H.out.keep k1 (fun _ _ e => e)); clear k1))
  have hb1 := H1.out.blk
  have LT := Lib.hid (And.intro (lt_of_block H1.out.blk) (MapAt.lt H1.out.cells))
  have CW := Lib.hid (CL.out w1.drew (K1.out.trans1 (Keep.refl Non w1).drew))
  have c2d : w1.drew.cell? ⟨b, 2, none⟩ = some (.map (some m)) := c2
  go_region_law (go_simp; go_at_call 120; refine CW.out.mono ?_; rintro r w2 ⟨v2, rfl, k2', o2⟩; have k2 := (Keep.refl Non w1).drew.trans1 k2'; obtain ⟨a2, c2', rfl, _, _⟩ := ownsRow_form o2; have H2 := H1.out.keep k2 (fun _ _ x => x); have e2 := un_2 H2.blk; have HX := H2.more (fun g => (Value.slice a2 d.length c2').ownBlock = some g) (fun g x => by have y : w1.heap.size ≤ g ∧ g < w2.heap.size := o2.lt g x; have z := LT.out; omega); obtain ⟨w3, hrun, k3, h3⟩ := ustore_run (a := a) (val := .agg #[.int .i64 1, .slice a2 d.length c2']) (y := (1, d)) HX hs (by omega) ⟨_, rfl, Rd.ofOwns o2, fun g x => .inr x⟩; have K3 := Lib.hid k3; have H3 := Lib.hid h3; have K2 := Lib.hid (K1.out.trans1 k2); have OB : Hid (∀ g, (Value.slice a2 d.length c2').ownBlock = some g → w1.heap.size ≤ g) := Lib.hid (fun g x => (o2.lt g x).1); clear k2 k2' o2 H2 HX k3 h3)
  all_goals go_wp2_with fail
  all_goals
    go_ret
    refine ⟨rfl, K2.out.trans K3.out (fun _ _ x => x.elim) (fun g _ x => by have x' : g = m := x; rw [x']; exact H.out.inF.2.1), _, ?_, _, m, H3.out⟩
    intro g x
    rcases x with x | x
    · exact .inl x
    · exact .inr (Nat.le_trans K1.out.size (OB.out g x))
theorem key_int {key : Value} {kl : Lit} (h : keyOf Tryz.prog 3 key = some kl) : ∃ x : Int, key = .int .i64 x := by
  obtain ⟨x, e, _⟩ := Maps.keyOf_int_inv Tryz.underlying3 h
  exact ⟨x, e⟩
theorem key_int_lit {x : Int} {kl : Lit} (h : keyOf Tryz.prog 3 (.int .i64 x) = some kl) : kl = .int .i64 x := by
  obtain ⟨y, e, rfl, _⟩ := Maps.keyOf_int_inv Tryz.underlying3 h
  injection e with _ e
  rw [e]
theorem el_cell {w : World} {T : Nat → Prop} {v : Value} {y : DataW Cl × List MemPlace} (h : readAs (ClIn w T) v = some y) : ∃ c : Int × Option Addr × Nat × Nat, v = .agg #[.int .i64 c.1, .slice c.2.1 c.2.2.1 c.2.2.2] := by
  obtain ⟨y1, y2⟩ := y
  obtain ⟨_, l, _, u, rfl, hb, _⟩ := readAs_inv h
  obtain ⟨a, c, rfl, _⟩ := hb
  exact ⟨(l.1, a, _, c), rfl⟩
theorem untail_any (F : Nat → Prop) (b e l : Nat) (D : Un) (w : World) (h : UnAt F w b e l D) :
    Calls Tryz.prog 284 #[.pointer (some ⟨b, 0, none⟩)] w fun r w' => ∃ n : Nat, r = .returned (.int .i64 n) ∧ n ≤ 1048576 ∧ Keep Non w w' := by
  obtain ⟨T, m, h⟩ := h
  have c1 := un_1 h.blk
  have c2 := un_2 h.blk
  have M := Lib.hid h.cells
  have KO := Lib.hid h.keys
  have hlo := h.lo
  clear h
  go_enter Tryz.func284, Tryz.ntmps284
  go_wp2_with (at_range; refine wpList_range_own _ rfl _ 217 rfl 3 55 int_law Tryz.underlying217 _ m _ _ rfl M.out ?_; intro w0 hrg0 hg0 hs0)
  go_frame
  have HR := Lib.hid hrg0
  have K0 := Lib.hid ((Keep.refl Non w).grown hg0 (row := none) (fun k e => by cases e))
  clear hrg0 hg0
  go_loopw [3] (fun o wr => ∃ left cnt, ∃ n : Nat, wr.ranges Tryz.prog 3 (readAs (ClIn w T)) m w.heap.size (size D) D left cnt ∧ o = .int .i64 n ∧ n ≤ 1048576 ∧ Keep Non w wr) (fun _ wr => wr.rangeLeft m w.heap.size)
  case atStart => exact ⟨_, _, l, HR.out, rfl, hlo, K0.out⟩
  case round =>
    obtain ⟨left, cnt, n, hrg, rfl, hn, hk⟩ := hrel
    have RG := Lib.hid hrg
    have K := Lib.hid hk
    clear hrg hk
    go_wp2_with (at_next; refine wpList_next_ranges (α := Int) (β := Int × Option Addr × Nat × Nat) _ rfl _ rfl 3 int_law (readAs (ClIn w T)) (fun x => .int .i64 x) (fun c => .agg #[.int .i64 c.1, .slice c.2.1 c.2.2.1 c.2.2.2]) (fun _ _ h => key_int h) (fun _ _ h => el_cell h) m w.heap.size _ _ _ _ rfl RG.out ?_ ?_)
    · intro hc0 hl0
      go_wp2_with fail
      go_ret
      exact ⟨n, rfl, hn, K.out⟩
    · intro x c1 c2 c3 c4 kl y1 y2 w1 cnt1 hkx hlx hR hat hrg1 hlt hg1 hs1 hen
      obtain rfl := key_int_lit hkx
      obtain ⟨a, ea, ha⟩ := KO.out _ (has_true_of_atKey hat)
      obtain rfl : x = (a : Int) := by unfold ulit at ea; injection ea
      have hmx : max (n : Int) ((a : Int) + 1) = ((max n (a + 1) : Nat) : Int) := by omega
      have K1 := Lib.hid (K.out.grown hg1 (fun k e => by injection e with e; subst e; exact .inr (Nat.le_refl _)))
      have RG1 := Lib.hid hrg1
      have HLT : Hid (w1.rangeLeft m w.heap.size < wr.rangeLeft m w.heap.size) := Lib.hid (by rw [hrg1.left_eq, RG.out.left_eq]; exact hlt)
      clear hkx hlx hR hat hrg1 hlt hg1 hs1 RG K ea
      go_wp2_with fail
      exact ⟨⟨_, _, max n (a + 1), RG1.out, by first | rfl | (rw [hmx]) | go_num, by omega, K1.out⟩, HLT.out⟩
theorem unseal_ok (F : Nat → Prop) (b e e' l : Nat) (D : Un) (w : World) (h : UnAt F w b e l D) (he : e < e') (he' : e' ≤ 1099511627776) :
    Calls Tryz.prog 232 #[.pointer (some ⟨b, 0, none⟩), .int .i64 e'] w fun r w' => (∃ n : Nat, r = .returned (.tuple #[.int .i64 n, .nilIface])) ∧ UnTo F w b e' l D w' := by
  have H := Lib.hid h
  obtain ⟨T, m, h⟩ := h
  have c0 := un_0 h.blk
  have f0 := un_f h.blk 0
  have kS : Keep (One b) w (w.setCell ⟨b, 0, none⟩ (.int .i64 e')) := (Keep.refl _ _).setOne 0 _
  have hU : UnIn F T (w.setCell ⟨b, 0, none⟩ (.int .i64 e')) b m e' l D := ⟨un_set0 h.blk e', h.cells.keep kS (fun x => h.apart x.symm) (fun g hg x => h.outT.1 (by have x' : g = b := x; rw [← x']; exact hg)) (fun _ x => x), h.inF, h.apart, ⟨h.outT.1, h.outT.2.1, fun g x => kS.lt (h.outT.2.2 g x)⟩, he', h.lo, h.keys⟩
  have TL := Lib.hid (untail_any F b e' l D _ ⟨T, m, hU⟩)
  have HU := Lib.hid hU
  have hFb := h.inF.1
  clear h hU
  go_enter Tryz.func232, Tryz.ntmps232
  go_wp2_with (first
    | (go_at_call 211; refine (unin_yes _ _ _ (by omega) (by omega)).mono ?_; rintro r w1 ⟨rfl, e1⟩; subst e1)
    | (go_at_call 284; refine TL.out.mono ?_; rintro r w1 ⟨n, rfl, _, k1⟩; have K1 := Lib.hid k1; clear k1))
  go_ret2
  exact ⟨⟨n, rfl⟩, (kS.mono (fun g _ x => by have x' : g = b := x; rw [x']; exact hFb)).trans1 K1.out.ofNon, F, Sub.refl _ _, T, m, HU.out.keep K1.out (fun _ _ x => x)⟩
theorem Keep.grownNon {w w' : World} (k : Keep Non w w') : w.grownBy w' none := ⟨k.os, k.tape, k.output, k.size, fun i hi _ => k.block i hi (fun e => e)⟩
theorem udel_any (g m : Nat) (cv : Value) (T : Nat → Prop) (D : Un) (pd : Lit → Bool) (w : World) (eg : ∀ args w, (callFunc g args).run Tryz.prog w = .ok (.enter g args) w) (hm : CsMap w T m D) (hT : ¬ T m)
    (hdel : ∀ (W : World) (x : Int) (k : Int) (a : Option Addr) (n c : Nat), Keep (One m) w W → Calls Tryz.prog g #[.int .i64 x, .agg #[.int .i64 k, .slice a n c], cv] W fun e w' => e = .returned (.bool (pd (.int .i64 x))) ∧ Keep Non W w') :
    Calls Tryz.prog 285 #[.map (some m), .func (.func g) #[] #[cv]] w fun e w' => e = .returned (.tuple #[]) ∧ Keep (One m) w w' ∧ CsMap w' T m (Lib.deleteFuncD (fun kl _ => pd kl) D) := by
  have M := Lib.hid hm
  have HD := Lib.hid hdel
  obtain ⟨es0, rfl, hap, hkeys⟩ := World.ownsMap.entries hm int_law
  have AP := Lib.hid hap
  have HK := Lib.hid hkeys
  clear hdel hm hap hkeys
  go_enter Tryz.func285, Tryz.ntmps285
  go_wp2_with (at_range; refine wpList_range_own _ rfl _ 217 rfl 3 55 int_law Tryz.underlying217 _ m _ _ rfl M.out ?_; intro w0 hrg0 hg0 hs0)
  go_frame
  have HR := Lib.hid hrg0
  have K0 := Lib.hid ((Keep.refl (One m) w).grown hg0 (row := none) (fun k e => by cases e))
  clear hrg0 hg0
  go_loopw [8] (fun _ wr => ∃ (left : Lit → Bool) (cnt : Nat), wr.ranges Tryz.prog 3 (readAs (ClIn w T)) m w.heap.size (size (DataW.map es0)) (Fk (fun kl _ => pd kl) es0 left) left cnt ∧ Keep (One m) w wr) (fun _ wr => wr.rangeLeft m w.heap.size)
  case atStart => exact ⟨_, _, by rw [Fk_start HK.out]; exact HR.out, K0.out⟩
  case round =>
    obtain ⟨left, cnt, hrg, hk⟩ := hrel
    have RG := Lib.hid hrg
    have K := Lib.hid hk
    clear hrg hk
    go_wp2_with (at_next; refine wpList_next_ranges (α := Int) (β := Int × Option Addr × Nat × Nat) _ rfl _ rfl 3 int_law (readAs (ClIn w T)) (fun x => .int .i64 x) (fun c => .agg #[.int .i64 c.1, .slice c.2.1 c.2.2.1 c.2.2.2]) (fun _ _ h => key_int h) (fun _ _ h => el_cell h) m w.heap.size _ _ _ _ rfl RG.out ?_ ?_)
    · intro _ hl0
      have LL := Lib.hid hl0
      clear hl0
      go_wp2_with fail
      go_end0
      have h1 := RG.out.owns
      rw [Fk_end LL.out] at h1
      exact ⟨rfl, K.out, cs_turned (MapAt.of h1) K.out hT⟩
    · intro x c1 c2 c3 c4 kl yd y2 w1 cnt1 hkx hlx hR hat hrg1 hlt hg1 hs1 hen
      obtain rfl := key_int_lit hkx
      have K1 := Lib.hid (K.out.grown hg1 (fun k e => by injection e with e; subst e; exact .inr (Nat.le_refl _)))
      have RG1 := Lib.hid hrg1
      have HLT : Hid (w1.rangeLeft m w.heap.size < wr.rangeLeft m w.heap.size) := Lib.hid (by rw [hrg1.left_eq, RG.out.left_eq]; exact hlt)
      have HX := Lib.hid (And.intro hlx (And.intro hkx hat))
      have kA : Keep Non w1 (w1.alloc (ClB c1 (.slice c2 c3 c4))) := (Keep.refl _ _).alloc _
      have RA := Lib.hid (hrg1.kept kA.grownNon (by simp) (by simp))
      have CD := Lib.hid (HD.out (w1.alloc (ClB c1 (.slice c2 c3 c4))) x c1 c2 c3 c4 (K1.out.trans kA (fun _ _ e => e) (fun _ _ e => e.elim)))
      have KA := Lib.hid kA
      dsimp only [ClB] at CD
      have hen2 := hen
      clear hkx hlx hR hat hrg1 hlt hg1 hs1 RG K kA
      cases hp : pd (.int .i64 x) <;> rw [hp] at CD
      · go_wp2_with fail
        refine CD.out.mono ?_
        rintro e w2 ⟨rfl, k2⟩
        have RG2 := Lib.hid (RA.out.kept k2.grownNon (by simp) (by simp))
        have K2 := Lib.hid ((K1.out.trans KA.out (fun _ _ e => e) (fun _ _ e => e.elim)).trans k2 (fun _ _ e => e) (fun _ _ e => e.elim) : Keep (One m) w w2)
        clear k2 CD
        go_wp2_with fail
        refine ⟨⟨fun z => left z && !z.sameKey (.int .i64 x), cnt1, ?_, K2.out⟩, by rw [RG2.out.left_eq]; have := HLT.out; rw [RG1.out.left_eq] at this; exact this⟩
        rw [← Fk_stays AP.out (int_law.key HX.out.2.1) HX.out.1 hp HX.out.2.2]
        exact RG2.out
      · go_wp2_with fail
        refine CD.out.mono ?_
        rintro e w2 ⟨rfl, k2⟩
        have RG2 := Lib.hid (RA.out.kept k2.grownNon (by simp) (by simp))
        have K2 := Lib.hid ((K1.out.trans KA.out (fun _ _ e => e) (fun _ _ e => e.elim)).trans k2 (fun _ _ e => e) (fun _ _ e => e.elim) : Keep (One m) w w2)
        have hkx := HX.out.2.1
        clear k2 CD
        go_wp2_with (at_delete; refine wpList_delete_ranges _ rfl _ _ 217 3 rfl 55 int_law Tryz.underlying217 _ m w.heap.size _ _ _ _ rfl RG2.out _ _ rfl hkx ?_; intro w3 cnt3 hrg3 hle hturn; go_frame; have RG3 := Lib.hid hrg3; have LE3 := Lib.hid hle; have K3 := Lib.hid (keep_turned hturn); clear hrg3 hle hturn)
        have hrg3 := RG3.out
        rw [strike_twice] at hrg3
        refine ⟨⟨fun z => left z && !z.sameKey (.int .i64 x), cnt3, ?_, K2.out.trans1 K3.out⟩, by rw [hrg3.left_eq]; have := HLT.out; rw [RG1.out.left_eq] at this; have := LE3.out; omega⟩
        rw [← Fk_struck AP.out (int_law.key HX.out.2.1) HX.out.1 hp HX.out.2.2]
        exact hrg3
def ltL (n : Nat) : Lit → Bool
  | .int _ x => decide (x < (n : Int))
  | _ => false
def geL (n : Nat) : Lit → Bool
  | .int _ x => decide ((n : Int) ≤ x)
  | _ => false
def cutLo (n : Nat) (D : Un) : Un := Lib.deleteFuncD (fun kl _ => ltL n kl) D
def cutHi (n : Nat) (D : Un) : Un := Lib.deleteFuncD (fun kl _ => geL n kl) D
theorem untrim_fn (p b l : Nat) (x k : Int) (a : Option Addr) (n c : Nat) (W : World) (h1 : W.cell? ⟨p, 0, none⟩ = some (.pointer (some ⟨b, 0, none⟩))) (h2 : W.cell? ⟨b, 1, none⟩ = some (.int .i64 l)) :
    Calls Tryz.prog 286 #[.int .i64 x, .agg #[.int .i64 k, .slice a n c], .pointer (some ⟨p, 0, none⟩)] W fun e w' => e = .returned (.bool (ltL l (.int .i64 x))) ∧ Keep Non W w' := by
  have kA : Keep Non W (W.alloc (ClB k (.slice a n c))) := (Keep.refl _ _).alloc _
  have c1 := (World.cell?_of_block (kA.block p (World.block_lt_of_cell? _ _ h1) (fun e => e))).trans h1
  have c2 := (World.cell?_of_block (kA.block b (World.block_lt_of_cell? _ _ h2) (fun e => e))).trans h2
  have KA := Lib.hid kA
  unfold ClB at c1 c2
  clear h1 h2 kA
  go_enter Tryz.func286, Tryz.ntmps286
  go_wp2_with fail
  go_ret
  exact ⟨rfl, KA.out⟩
theorem uncut_fn (p l : Nat) (x k : Int) (a : Option Addr) (n c : Nat) (W : World) (h1 : W.cell? ⟨p, 0, none⟩ = some (.int .i64 l)) :
    Calls Tryz.prog 287 #[.int .i64 x, .agg #[.int .i64 k, .slice a n c], .pointer (some ⟨p, 0, none⟩)] W fun e w' => e = .returned (.bool (geL l (.int .i64 x))) ∧ Keep Non W w' := by
  have kA : Keep Non W (W.alloc (ClB k (.slice a n c))) := (Keep.refl _ _).alloc _
  have c1 := (World.cell?_of_block (kA.block p (World.block_lt_of_cell? _ _ h1) (fun e => e))).trans h1
  have KA := Lib.hid kA
  unfold ClB at c1
  clear h1 kA
  go_enter Tryz.func287, Tryz.ntmps287
  go_wp2_with fail
  go_ret
  exact ⟨rfl, KA.out⟩
theorem has_filter (D : Un) (pd : Lit → DataW Cl → Bool) (hD : IsMap D) (kl : Lit) (h : has (Lib.deleteFuncD pd D) kl = true) : has D kl = true := by
  obtain ⟨es, rfl⟩ := hD
  obtain ⟨p, hp, hk⟩ := List.any_eq_true.1 h
  exact List.any_eq_true.2 ⟨p, (List.mem_filter.1 hp).1, hk⟩
theorem keysOk.cut {D : Un} (h : keysOk D) (hD : IsMap D) (pd : Lit → DataW Cl → Bool) : keysOk (Lib.deleteFuncD pd D) := fun kl hk => h kl (has_filter D pd hD kl hk)
theorem enter_of {f : FuncId} {fn : Func} {c : Code} (hf : Tryz.prog.funcs[f]? = some fn) (hname : (fn.name == "runtime.NumGoroutine") = false) (hb : fn.body = some c) (args : Array Value) (w : World) : (callFunc f args).run Tryz.prog w = .ok (.enter f args) w := by
  have h1 : fn.name ≠ "runtime.NumGoroutine" := by simpa using hname
  simp [callFunc, hf, h1, hb]
theorem unlow_set {F T : Nat → Prop} {w : World} {b m e l l' : Nat} {D : Un} (h : UnIn F T w b m e l D) (hl : l' ≤ 1048576) : UnIn F T (w.setCell ⟨b, 1, none⟩ (.int .i64 l')) b m e l' D := by
  have kS : Keep (One b) w (w.setCell ⟨b, 1, none⟩ (.int .i64 l')) := (Keep.refl _ _).setOne 1 _
  exact ⟨un_set1 h.blk l', h.cells.keep kS (fun x => h.apart x.symm) (fun g hg x => h.outT.1 (by have x' : g = b := x; rw [← x']; exact hg)) (fun _ x => x), h.inF, h.apart, ⟨h.outT.1, h.outT.2.1, fun g x => kS.lt (h.outT.2.2 g x)⟩, h.ep, hl, h.keys⟩
theorem trim_enter (args : Array Value) (w : World) : (callFunc 286 args).run Tryz.prog w = .ok (.enter 286 args) w := enter_of Tryz.func286 (by kernel_rfl) rfl args w
theorem cut_enter (args : Array Value) (w : World) : (callFunc 287 args).run Tryz.prog w = .ok (.enter 287 args) w := enter_of Tryz.func287 (by kernel_rfl) rfl args w
theorem trim_del {F T : Nat → Prop} {W : World} {b m e l p : Nat} {D : Un} (h : UnIn F T W b m e l D) (hp : W.cell? ⟨p, 0, none⟩ = some (.pointer (some ⟨b, 0, none⟩))) (hpm : p ≠ m) :
    Calls Tryz.prog 285 #[.map (some m), .func (.func 286) #[] #[.pointer (some ⟨p, 0, none⟩)]] W fun r w' => r = .returned (.tuple #[]) ∧ Keep (One m) W w' ∧ UnIn F T w' b m e l (cutLo l D) := by
  refine (udel_any _ m _ T D (ltL l) W trim_enter h.cells h.outT.2.1 (fun W' x k a n c kk => ?_)).mono ?_
  · exact untrim_fn p b l x k a n c W' ((World.cell?_of_block (kk.block p (World.block_lt_of_cell? _ _ hp) (fun x => hpm x))).trans hp) (un_1 (kk.at h.blk h.apart))
  · rintro r w' ⟨rfl, k1, m1⟩
    exact ⟨rfl, k1, k1.at h.blk h.apart, m1, h.inF, h.apart, ⟨h.outT.1, h.outT.2.1, fun g x => k1.lt (h.outT.2.2 g x)⟩, h.ep, h.lo, h.keys.cut (MapAt.isMap h.cells) _⟩
theorem cut_del {F T : Nat → Prop} {W : World} {b m e l a p : Nat} {D : Un} (h : UnIn F T W b m e l D) (hp : W.cell? ⟨p, 0, none⟩ = some (.int .i64 a)) (hpm : p ≠ m) :
    Calls Tryz.prog 285 #[.map (some m), .func (.func 287) #[] #[.pointer (some ⟨p, 0, none⟩)]] W fun r w' => r = .returned (.tuple #[]) ∧ Keep (One m) W w' ∧ UnIn F T w' b m e l (cutHi a D) := by
  refine (udel_any _ m _ T D (geL a) W cut_enter h.cells h.outT.2.1 (fun W' x k pa n c kk => ?_)).mono ?_
  · exact uncut_fn p a x k pa n c W' ((World.cell?_of_block (kk.block p (World.block_lt_of_cell? _ _ hp) (fun x => hpm x))).trans hp)
  · rintro r w' ⟨rfl, k1, m1⟩
    exact ⟨rfl, k1, k1.at h.blk h.apart, m1, h.inF, h.apart, ⟨h.outT.1, h.outT.2.1, fun g x => k1.lt (h.outT.2.2 g x)⟩, h.ep, h.lo, h.keys.cut (MapAt.isMap h.cells) _⟩
theorem untrim_ok (F : Nat → Prop) (b e l a : Nat) (D : Un) (w : World) (h : UnAt F w b e l D) (ha : a ≤ 1048576) :
    Calls Tryz.prog 235 #[.pointer (some ⟨b, 0, none⟩), .int .i64 e, .int .i64 a] w fun r w' => r = .returned .nilIface ∧ UnTo F w b e (max l a) (cutLo (max l a) D) w' := by
  obtain ⟨T, m, h⟩ := h
  have H := Lib.hid h
  have AS := Lib.hid (fun W (k : Keep Non w W) => unasks_ok F b e l D W ⟨T, m, h.keep k (fun _ _ x => x)⟩)
  clear h
  go_enter Tryz.func235, Tryz.ntmps235
  go_wp2_with fail
  have kA : Keep Non w (w.alloc (.cells #[.pointer (some ⟨b, 0, none⟩)] 151)) := (Keep.refl _ _).alloc _
  have bA := blk_new w (.cells #[.pointer (some ⟨b, 0, none⟩)] 151 (0, 0))
  obtain ⟨wA, hwA⟩ : ∃ wA, wA = w.alloc (.cells #[.pointer (some ⟨b, 0, none⟩)] 151) := ⟨_, rfl⟩
  rw [← hwA] at kA bA ⊢
  clear hwA
  have cA : wA.cell? ⟨w.heap.size, 0, none⟩ = some (.pointer (some ⟨b, 0, none⟩)) := by simp [World.cell?, bA]
  have cAd : wA.drew.cell? ⟨w.heap.size, 0, none⟩ = some (.pointer (some ⟨b, 0, none⟩)) := cA
  have hA := H.out.keep kA (fun _ _ x => x)
  have c1 := un_1 hA.blk
  have c2 := un_2 hA.blk
  have f1 := un_f hA.blk 1
  have AA := Lib.hid (AS.out wA.drew (kA.trans1 (Keep.refl Non wA).drew))
  have HA := Lib.hid hA
  have KA := Lib.hid kA
  have BA := Lib.hid bA
  clear hA kA bA AS
  go_region_law (go_simp; first
    | (go_at_call 211; refine (unin_yes _ _ _ (by omega) (by omega)).mono ?_; rintro r w1 ⟨rfl, e1⟩; subst e1)
    | (go_at_call 210; refine AA.out.mono ?_; rintro r w1 ⟨rfl, e1⟩; subst e1))
  all_goals
    have hmx : max (l : Int) (a : Int) = ((max l a : Nat) : Int) := by omega
    have hlo := HA.out.lo
    have hS := unlow_set (l' := max l a) HA.out (by omega)
    have kS : Keep (One b) wA (wA.setCell ⟨b, 1, none⟩ (.int .i64 (max l a : Nat))) := (Keep.refl _ _).setOne 1 _
    have bS := kS.at BA.out (fun x => by have x' : w.heap.size = b := x; have := lt_of_block H.out.blk; omega)
    have cS : (wA.setCell ⟨b, 1, none⟩ (.int .i64 (max l a : Nat))).cell? ⟨w.heap.size, 0, none⟩ = some (.pointer (some ⟨b, 0, none⟩)) := by simp [World.cell?, bS]
    have d2 := un_2 hS.blk
    have HS := Lib.hid hS
    have KS := Lib.hid kS
    clear hS kS bS
    go_wp2_with fail
  all_goals go_region_law fail
  all_goals
    have hif : (if l < a then (a : Int) else (l : Int)) = ((max l a : Nat) : Int) := by split <;> omega
    try rw [hif]
    clear hif hmx
    generalize hn : max l a = n at HS KS cS d2 ⊢
    have DL := Lib.hid (trim_del (p := w.heap.size) (HS.out.keep ((Keep.refl Non _).drew.drew) (fun _ _ x => x)) cS (fun x => by have := MapAt.lt H.out.cells; omega))
    go_wp2_with (go_at_call 285; refine DL.out.mono ?_; rintro r w2 ⟨rfl, k2, h2⟩; have K2 := Lib.hid k2; have H2 := Lib.hid h2; clear k2 h2)
    go_ret
    have k02 : Keep F wA w2 := (((KS.out.mono (fun g _ x => by have x' : g = b := x; rw [x']; exact H.out.inF.1)).drew).drew).trans K2.out (fun _ _ x => x) (fun g _ x => by have x' : g = m := x; rw [x']; exact H.out.inF.2.1)
    rw [hn]
    exact ⟨rfl, KA.out.ofNon.trans1 k02, F, Sub.refl _ _, T, m, H2.out⟩
theorem uncut_ok (F : Nat → Prop) (b e l a : Nat) (D : Un) (w : World) (h : UnAt F w b e l D) (ha : a ≤ 1048576) (hl : l ≤ a) :
    Calls Tryz.prog 236 #[.pointer (some ⟨b, 0, none⟩), .int .i64 e, .int .i64 a] w fun r w' => (∃ n : Int, r = .returned (.tuple #[.int .i64 n, .nilIface])) ∧ UnTo F w b e l (cutHi a D) w' := by
  obtain ⟨T, m, h⟩ := h
  have H := Lib.hid h
  have AS := Lib.hid (fun W (k : Keep Non w W) => unasks_ok F b e l D W ⟨T, m, h.keep k (fun _ _ x => x)⟩)
  clear h
  go_enter Tryz.func236, Tryz.ntmps236
  have kA : Keep Non w (w.alloc (.cells #[.int .i64 a] 3)) := (Keep.refl _ _).alloc _
  have bA := blk_new w (.cells #[.int .i64 a] 3 (0, 0))
  go_wp2_with fail
  obtain ⟨wA, hwA⟩ : ∃ wA, wA = w.alloc (.cells #[.int .i64 a] 3) := ⟨_, rfl⟩
  rw [← hwA] at kA bA ⊢
  clear hwA
  have cA : wA.cell? ⟨w.heap.size, 0, none⟩ = some (.int .i64 a) := by simp [World.cell?, bA]
  have hA := H.out.keep kA (fun _ _ x => x)
  have c1 := un_1 hA.blk
  have c2 := un_2 hA.blk
  have AA := Lib.hid (AS.out wA kA)
  have HA := Lib.hid hA
  have KA := Lib.hid kA
  have hll : ¬ (a : Int) < l := by omega
  have DL := Lib.hid (cut_del (W := wA.drew) (p := w.heap.size) (hA.keep (Keep.refl Non wA).drew (fun _ _ x => x)) cA (fun x => by have := MapAt.lt H.out.cells; omega))
  clear hA kA bA AS
  refine (unin_yes _ _ _ (by omega) (by omega)).mono ?_
  rintro r w1 ⟨rfl, e1⟩
  subst e1
  go_wp2_with (go_at_call 210; refine AA.out.mono ?_; rintro r w1 ⟨rfl, e1⟩; subst e1)
  have hln := World.ownsMap.len (HA.out.keep (Keep.refl Non _).drew (fun _ _ x => x)).cells (t := 217) (e := 55) Tryz.underlying217
  go_region_law fail
  all_goals go_wp2_with (go_at_call 285; refine DL.out.mono ?_; rintro r w2 ⟨rfl, k2, h2⟩; have K2 := Lib.hid k2; have H2 := Lib.hid h2; have d2 := un_2 h2.blk; have hln2 := World.ownsMap.len h2.cells (t := 217) (e := 55) Tryz.underlying217; clear k2 h2)
  all_goals
    go_ret2
    have k2 : Keep F w w2 := (KA.out.ofNon.trans1 (Keep.refl F _).drew).trans K2.out (fun _ _ x => x) (fun g _ x => by have x' : g = m := x; rw [x']; exact H.out.inF.2.1)
    exact ⟨⟨_, rfl⟩, k2, F, Sub.refl _ _, T, m, H2.out⟩
theorem unread_ok (F : Nat → Prop) (b e l a : Nat) (D : Un) (w : World) (h : UnAt F w b e l D) (ha : a ≤ 1048575) (hx : (uat l D a).2.length ≤ 100000000) :
    Calls Tryz.prog 155 #[.pointer (some ⟨b, 0, none⟩), .int .i64 e, .int .i64 a] w fun r w' => ∃ v, r = .returned (.tuple #[.agg #[.int .i64 (uat l D a).1, v], .nilIface]) ∧ Keep Non w w' ∧ w'.ownsRow w.heap.size 5 1 v (uat l D a).2.length ((uat l D a).2.map bv) := by
  have AS := Lib.hid (fun W (k : Keep Non w W) => unasks_ok F b e l D W (h.keepNon k))
  have AT := Lib.hid (fun W (k : Keep Non w W) => unat_ok F b e l a D W (h.keepNon k) (by omega))
  clear h
  generalize (uat l D a) = x at AT hx ⊢
  obtain ⟨kx, lx⟩ := x
  dsimp only at hx ⊢
  go_enter Tryz.func155, Tryz.ntmps155
  have kA : Keep Non w (w.alloc (ClB 0 (.slice none 0 0))) := (Keep.refl _ _).alloc _
  have ASA := Lib.hid (AS.out _ kA)
  have ATA := Lib.hid (AT.out _ kA)
  have KA := Lib.hid kA
  have B0 := Lib.hid (blk_new w (ClB 0 (.slice none 0 0)))
  have CP := Lib.hid (fun W v (h : Bs W v lx) => ccopy_any kx v lx W h hx)
  dsimp only [ClB] at ASA ATA
  clear kA AS AT
  go_wp2_with (first
    | (go_at_call 211; refine (unin_yes _ _ _ (by omega) (by omega)).mono ?_; rintro r w1 ⟨rfl, rfl⟩)
    | (go_at_call 210; refine ASA.out.mono ?_; rintro r w1 ⟨rfl, rfl⟩)
    | (go_at_call 213; refine ATA.out.mono ?_; rintro r w1 ⟨v, rfl, ⟨u, rfl, hu, _⟩, k1⟩; have K1 := Lib.hid (KA.out.trans1 k1); have CPW := Lib.hid (CP.out w1 u hu); have B1 := Lib.hid (k1.at B0.out (fun e => e)); clear k1 hu)
    | (go_at_call 212; refine CPW.out.mono ?_; rintro r w2 ⟨v2, rfl, k2, o2⟩; obtain ⟨a2, c2, rfl, _, _⟩ := ownsRow_form o2; have K2 := Lib.hid (K1.out.trans1 k2); have O2 := Lib.hid (ownsRow_low o2 K1.out.size); have b2 := k2.at B1.out (fun e => e); have S2 : Hid (w.heap.size < w1.heap.size) := Lib.hid (lt_of_block B1.out); have OG : Hid (∀ g, (Value.slice a2 lx.length c2).ownBlock = some g → w1.heap.size ≤ g) := Lib.hid (fun g e => (o2.lt g e).1); have d0 := cl0 b2; have d1 := cl1 b2; have f0 := clf b2 0; have f1 := clf b2 1; have k0' := cl0 (cl_set0 b2 kx); have q0 := cl0 (cl_set1 (cl_set0 b2 kx) (.slice a2 lx.length c2)); have q1 := cl1 (cl_set1 (cl_set0 b2 kx) (.slice a2 lx.length c2)); clear k2 o2 b2))
  refine bodyPost_ret (v := .tuple #[.agg #[.int .i64 kx, .slice a2 lx.length c2], .nilIface]) (by simp [results, Tryz.results155, go_sem, q0, q1]) rfl ?_
  have s2 := S2.out
  have k3 : Keep (One w.heap.size) w2 ((w2.setCell ⟨w.heap.size, 0, none⟩ (.int .i64 kx)).setCell ⟨w.heap.size, 1, none⟩ (.slice a2 lx.length c2)) := ((Keep.refl _ _).setOne _ _).setOne _ _
  exact ⟨_, rfl, K2.out.trans k3 (fun _ _ e => e) (fun g hg e => by have e' : g = w.heap.size := e; omega), ownsRow_keep O2.out k3 (fun g hg e => by have e' : g = w.heap.size := e; have := OG.out g hg; omega)⟩
theorem uncopy_ok (F : Nat → Prop) (b e l : Nat) (D : Un) (w : World) (h : UnAt F w b e l D) (hF : ∀ g, F g → g < w.heap.size) :
    Calls Tryz.prog 165 #[.pointer (some ⟨b, 0, none⟩)] w fun r w' => ∃ b', r = .returned (.pointer (some ⟨b', 0, none⟩)) ∧ Keep Non w w' ∧ w.heap.size ≤ b' ∧ UnAt (fun g => F g ∨ (w.heap.size ≤ g ∧ g < w'.heap.size)) w' b' e l D := by
  obtain ⟨T, m, h⟩ := h
  have c0 := un_0 h.blk
  have c1 := un_1 h.blk
  have c2 := un_2 h.blk
  obtain ⟨es, clock, hm, hma, hmb⟩ := mclone_map h.cells
  have H := Lib.hid h
  clear h
  go_enter Tryz.func165, Tryz.ntmps165
  have MC := Lib.hid (mclone_cells m es clock w.drew hm)
  have d0 : w.drew.cell? ⟨b, 0, none⟩ = some (.int .i64 e) := c0
  have d1 : w.drew.cell? ⟨b, 1, none⟩ = some (.int .i64 l) := c1
  have d2 : w.drew.cell? ⟨b, 2, none⟩ = some (.map (some m)) := c2
  have kd : Keep Non w (w.alloc (.map es clock)) := (Keep.refl _ _).alloc _
  have hd := H.out.keep kd (fun _ _ e => e)
  have e0 := un_0 hd.blk
  have e1 := un_1 hd.blk
  go_wp2_with fail
  go_region_law (go_simp; go_at_call 230; refine MC.out.mono ?_; rintro r w1 ⟨rfl, rfl⟩)
  all_goals go_wp2_with fail
  all_goals
    go_ret
    have k2 : Keep Non (w.alloc (.map es clock)) ((w.alloc (.map es clock)).alloc (UnB e l w.heap.size)).drew := ((Keep.refl _ _).alloc _).drew
    have hb : ((w.alloc (.map es clock)).alloc (UnB e l w.heap.size)).drew.heap[w.heap.size + 1]? = some (UnB e l w.heap.size) := alloc2_at' w (.map es clock) (UnB e l w.heap.size)
    have kk : Keep Non w ((w.alloc (.map es clock)).alloc (UnB e l w.heap.size)).drew := kd.trans1 k2
    have hT := H.out.outT.2.2
    exact ⟨w.heap.size + 1, rfl, kk, by omega, T, w.heap.size, hb, MapAt.keep hma k2 (fun x => x) (ClIn.fun1 _ _) (fun v x hx => hx.keep kk (fun _ _ x => x) (fun _ x => x)), ⟨.inr (by first | (simp; done) | (simp; omega)), .inr (by first | (simp; done) | (simp; omega)), fun g x => .inl (H.out.inF.2.2 g x)⟩, by omega, ⟨fun x => by have := hT _ x; omega, fun x => by have := hT _ x; omega, fun g x => kk.lt (hT g x)⟩, H.out.ep, H.out.lo, H.out.keys⟩
end Go.Proofs.YtobjlgfjfpmceaaGreatDoor
