/- plan.Of at one manifest of one cell: walked. · slog.add: walked. · vault.Get, at a part of the one manifest: walked. · slog: trim, Trim: walked. · (*R -/
import Derived.Test.YtobjlgfjfpmceaaGreatDoorQ37
set_option linter.unusedVariables false
set_option maxRecDepth 100000
set_option maxHeartbeats 16000000
namespace Go.Proofs.YtobjlgfjfpmceaaGreatDoor
open Go.RowKit Go.Maps
def PlZ : Obj := .cells #[.int .i64 0, .int .i64 0, .int .i64 0, .slice none 0 0] 166 (0, 0)
def Pl1 : Obj := .cells #[.int .i64 1, .int .i64 0, .int .i64 0, .slice none 0 0] 166 (0, 0)
theorem infoItem : (Tryz.prog.info? 235).map (fun i => (i.zero, i.size, i.bytes)) = some (some (.agg #[.int .i64 0, .int .i64 0, .int .i64 0, .int .i64 0]), 4, 32) := by kernel_rfl
theorem four_set {w : World} {b : Nat} {T : TypeId} {x0 x1 x2 x3 : Value} (h : w.heap[b]? = some (.cells #[x0, x1, x2, x3] T (0, 0))) (y0 y1 y2 y3 : Value) :
    w.cell? ⟨b, 0, none⟩ = some x0 ∧ w.cell? ⟨b, 1, none⟩ = some x1 ∧ w.cell? ⟨b, 2, none⟩ = some x2 ∧ w.cell? ⟨b, 3, none⟩ = some x3 ∧
    w.frozen? ⟨b, 0, none⟩ = false ∧ w.frozen? ⟨b, 1, none⟩ = false ∧ w.frozen? ⟨b, 2, none⟩ = false ∧ w.frozen? ⟨b, 3, none⟩ = false ∧
    ((((w.setCell ⟨b, 0, none⟩ y0).setCell ⟨b, 1, none⟩ y1).setCell ⟨b, 2, none⟩ y2).setCell ⟨b, 3, none⟩ y3).heap[b]? = some (.cells #[y0, y1, y2, y3] T (0, 0)) ∧
    Keep (One b) w ((((w.setCell ⟨b, 0, none⟩ y0).setCell ⟨b, 1, none⟩ y1).setCell ⟨b, 2, none⟩ y2).setCell ⟨b, 3, none⟩ y3) := by
  refine ⟨by simp [World.cell?, h], by simp [World.cell?, h], by simp [World.cell?, h], by simp [World.cell?, h], by simp [World.frozen?, h], by simp [World.frozen?, h], by simp [World.frozen?, h], by simp [World.frozen?, h], blk_set (blk_set (blk_set (blk_set h 0 y0) 1 y1) 2 y2) 3 y3, ((((Keep.refl _ _).setOne _ _).setOne _ _).setOne _ _).setOne _ _⟩
theorem four_cells {w : World} {b : Nat} {T : TypeId} {x0 x1 x2 x3 : Value} (h : w.heap[b]? = some (.cells #[x0, x1, x2, x3] T (0, 0))) : w.cell? ⟨b, 0, none⟩ = some x0 ∧ w.cell? ⟨b, 1, none⟩ = some x1 ∧ w.cell? ⟨b, 2, none⟩ = some x2 ∧ w.cell? ⟨b, 3, none⟩ = some x3 ∧ ∀ (j : Nat) u, [x0, x1, x2, x3][j]? = some u → w.cell? ((⟨b, 0, none⟩ : Addr).add j) = some u := by
  refine ⟨by simp [World.cell?, h], by simp [World.cell?, h], by simp [World.cell?, h], by simp [World.cell?, h], fun j u hu => ?_⟩
  rw [add_off, Nat.zero_add]
  simp only [World.cell?, h]
  simpa using hu
theorem grow_four (WB : World) (o1 o2 o3 : Obj) (zs : Array Value) (b n p x y : Nat) (v0 v1 v2 v3 u : Value) (T TI : TypeId) (PB : WB.heap[b]? = some (.cells #[v0, v1, v2, v3] T (0, 0))) (V : World)
    (hV : V = (((((WB.alloc o1).alloc o2).alloc o3).alloc (.cells (#[.int .i64 n, .int .i64 p, .int .i64 x, .int .i64 y] ++ zs) TI)).setCell ⟨b, 3, none⟩ u).drew) :
    V.heap[b]? = some (.cells #[v0, v1, v2, u] T (0, 0)) ∧ ItAt V ⟨WB.heap.size + 1 + 1 + 1, 0, none⟩ n p x y ∧ V.heap.size = WB.heap.size + 4 ∧ (∀ w, Keep Non w WB → w.heap.size ≤ b → Keep Non w V) ∧ ∀ b' o, b' ≠ b → WB.heap[b']? = some o → V.heap[b']? = some o := by
  have k4 : Keep Non WB ((((WB.alloc o1).alloc o2).alloc o3).alloc (.cells (#[.int .i64 n, .int .i64 p, .int .i64 x, .int .i64 y] ++ zs) TI)) := ((((Keep.refl _ _).alloc _).alloc _).alloc _).alloc _
  have hb : b < WB.heap.size := by
    rcases Nat.lt_or_ge b WB.heap.size with h | h
    · exact h
    · rw [Array.getElem?_eq_none h] at PB; cases PB
  have s3 : (((WB.alloc o1).alloc o2).alloc o3).heap.size = WB.heap.size + 1 + 1 + 1 := by show (((WB.heap.push o1).push o2).push o3).size = _; simp
  have nw := blk_new (((WB.alloc o1).alloc o2).alloc o3) (.cells (#[.int .i64 n, .int .i64 p, .int .i64 x, .int .i64 y] ++ zs) TI)
  rw [s3] at nw
  have nw2 := blk_set_ne nw (p := ⟨b, 3, none⟩) (by show b ≠ _; omega) u
  have hs : V.heap.size = WB.heap.size + 4 := by rw [hV]; show ((((((WB.alloc o1).alloc o2).alloc o3).alloc _).setCell _ _)).heap.size = _; rw [show ∀ (W : World) p u, (W.setCell p u).heap.size = W.heap.size from fun W p u => by simp [World.setCell]]; show ((((WB.heap.push o1).push o2).push o3).push _).size = _; simp
  refine ⟨?_, ⟨WB.heap.size + 1 + 1 + 1, 0, rfl, ?_, ?_, ?_, ?_⟩, hs, ?_, ?_⟩
  · rw [hV]; exact blk_set (nonAt k4 PB) 3 u
  · rw [hV]; show World.cell? ((((((WB.alloc o1).alloc o2).alloc o3).alloc _).setCell _ _)) _ = _; simp only [World.cell?, nw2]; rw [Array.getElem?_append_left (by simp)]; rfl
  · rw [hV]; show World.cell? ((((((WB.alloc o1).alloc o2).alloc o3).alloc _).setCell _ _)) _ = _; simp only [World.cell?, nw2]; rw [Array.getElem?_append_left (by simp)]; rfl
  · rw [hV]; show World.cell? ((((((WB.alloc o1).alloc o2).alloc o3).alloc _).setCell _ _)) _ = _; simp only [World.cell?, nw2]; rw [Array.getElem?_append_left (by simp)]; rfl
  · rw [hV]; show World.cell? ((((((WB.alloc o1).alloc o2).alloc o3).alloc _).setCell _ _)) _ = _; simp only [World.cell?, nw2]; rw [Array.getElem?_append_left (by simp)]; rfl
  · intro w k hw; rw [hV]; exact ((k.trans1 k4).setNew hw 3 u).drew
  · intro b' o ne h; rw [hV]; exact blk_set_ne (nonAt k4 h) (by show b ≠ b'; exact fun e => ne e.symm) u
section
attribute [local go_sem ↓] hV81 hV101 hV83 hW81 hW101 hW83 hB101 hB83
theorem plof_one (T : Nat → Prop) (v : Value) (m : Mf) (pt : Pt) (w : World) (hm : MsAt T w v [m]) (ok : okMf m) (hnum : m.num = 0) (hl : m.lo = 0) (hh : m.hi = 1) (htr : m.trim = 0) (hps : m.parts = [pt]) (hf : pt.first = 0) (hma : pt.many = 1) :
    Calls Tryz.prog 91 #[v, .int .i64 1] w fun e w' => ∃ a c, e = .returned (.tuple #[.agg #[.int .i64 1, .int .i64 0, .int .i64 0, .slice (some a) 1 c], .nilIface]) ∧ Keep Non w w' ∧ w.heap.size ≤ a.block ∧ a.block < w'.heap.size ∧ ItAt w' a 0 0 0 1 := by
  have p5 : pt.sum.length = 32 := by
    have := (ok.parts)
    rw [hps] at this
    exact this.2.1.2.2.2.2
  have K0 : Hid (Keep Non w (w.alloc PlZ)) := Lib.hid ((Keep.refl _ _).alloc _)
  have CK := Lib.hid (chcheck_one T v m (w.alloc PlZ) (hm.keepNon K0.out) ok hnum)
  have BE : Hid (∀ W, Keep Non w W → Calls Tryz.prog 149 #[v] W fun e w' => e = .returned (.int .i64 0) ∧ w' = W) := Lib.hid (fun W k => by
    have := cbegin_any T v [m] W (hm.keepNon k)
    have e : beginM [m] = 0 := hl
    rw [e] at this
    exact this)
  have EN : Hid (∀ W, Keep Non w W → Calls Tryz.prog 13 #[v] W fun e w' => e = .returned (.int .i64 1) ∧ Keep Non W w') := Lib.hid (fun W k => by
    have := cend_any T v [m] W (hm.keepNon k) (by simp)
    have e : (lastM [m]).hi = 1 := hh
    rw [e] at this
    exact this)
  have MK := Lib.hid (fun W (k : Keep Non w W) => pmark_one T v m W (hm.keepNon k) hh htr)
  obtain ⟨a, c, rfl, hc, ha, hx⟩ := hm
  obtain ⟨h32, g1, off, pa, pc, rfl, hp, hT, hcell⟩ := hx 0 m rfl
  have LDM : Hid (∀ W, Keep Non w W → (holdV 83 ⟨g1, off, none⟩).run Tryz.prog W = .ok (mfV m (.slice pa 1 pc)) W) := Lib.hid (fun W k => by
    have := load83 W g1 off m (.slice pa m.parts.length pc) h32 (fun i u hu => by have := hcell i u hu; exact cell_keepS k (fun e => e) (by simpa using this))
    rw [hps] at this
    exact this)
  obtain ⟨pa', pc', e1, _, _, hy⟩ := hp
  rw [hps] at hy e1
  injection e1 with e1 e3 e4
  subst e1
  subst e4
  obtain ⟨g2, off2, rfl, hc2⟩ := hy 0 pt rfl
  have LDP : Hid (∀ W, Keep Non w W → (holdV 101 ⟨g2, off2, none⟩).run Tryz.prog W = .ok (ptV pt) W) := Lib.hid (fun W k => load101 W g2 off2 pt p5 (fun i u hu => cell_keepS k (fun e => e) (by have := hc2 i u hu; simpa using this)))
  have PM : Hid (pt.first = 0 ∧ pt.many = 1 ∧ m.num = 0) := Lib.hid ⟨hf, hma, hnum⟩
  obtain ⟨i0, hi0, hz0, hz1, hz2⟩ := info_parts infoItem
  have I0 := Lib.hid (And.intro hi0 (And.intro hz0 (And.intro hz1 hz2)))
  have R0 : Hid ((w.alloc PlZ).heap[w.heap.size]? = some PlZ) := Lib.hid (blk_new w PlZ)
  have M32 := Lib.hid h32
  clear hx hcell hT ha hy hc2 e3 hps hf hma hnum hh htr hl ok hi0 hz0 hz1 hz2 h32
  simp only [List.length_singleton] at CK BE EN MK ⊢
  dsimp only [PlZ] at CK
  go_enter Tryz.func91, Tryz.ntmps91
  go_wp2_with (first
    | (go_at_call 27; ((with_reducible refine CK.out.mono ?_); rintro e w1 ⟨rfl, k1⟩); have K1 := Lib.hid (K0.out.trans1 k1); have R1 := Lib.hid (nonAt (w := w.alloc PlZ) k1 R0.out); have BE1 := Lib.hid (BE.out w1 K1.out); have EN1 := Lib.hid (EN.out w1 K1.out); clear k1)
    | (go_at_call 149; first | ((with_reducible refine BE1.out.mono ?_); rintro e w2 ⟨rfl, rfl⟩) | ((with_reducible refine BE3.out.mono ?_); rintro e w4 ⟨rfl, rfl⟩))
    | (go_at_call 13; ((with_reducible refine EN1.out.mono ?_); rintro e w3 ⟨rfl, k3⟩); have K3 := Lib.hid (K1.out.trans1 k3); have R3 := Lib.hid (nonAt k3 R1.out); have BE3 := Lib.hid (BE.out w3 K3.out); have MK3 := Lib.hid (MK.out w3 K3.out); clear k3)
    | (go_at_call 150; ((with_reducible refine MK3.out.mono ?_); rintro e w5 ⟨rfl, k5⟩); have K5 := Lib.hid (K3.out.trans1 k5); have R5 := Lib.hid (nonAt k5 R3.out); clear k5))
  have KA : Hid (Keep Non w (w5.alloc Pl1)) := Lib.hid (K5.out.alloc _)
  have PA : Hid ((w5.alloc Pl1).heap[w5.heap.size]? = some Pl1) := Lib.hid (blk_new w5 Pl1)
  have RA : Hid ((w5.alloc Pl1).heap[w.heap.size]? = some PlZ) := Lib.hid (nonAt ((Keep.refl Non w5).alloc Pl1) R5.out)
  obtain ⟨WA, hWA⟩ : ∃ WA, WA = w5.alloc Pl1 := ⟨_, rfl⟩
  rw [← hWA] at KA PA RA
  unfold Pl1 at hWA
  rw [← hWA]
  clear hWA
  have lA := LDM.out WA KA.out
  have sA := store_mf0 WA m (some ⟨g2, off2, none⟩) 1 pc M32.out
  have mA := mf_36 (blk_new WA (MfB m (.slice (some ⟨g2, off2, none⟩) 1 pc))) M32.out
  dsimp only [zMf, MfB] at sA
  dsimp only [MfB] at mA
  refine wp_loop_rounds 2 ?_
  rw [rounds_succ]
  go_wp2_with fail
  clear lA sA mA
  have KB : Hid (Keep Non w (WA.alloc (MfB m (.slice (some ⟨g2, off2, none⟩) 1 pc)))) := Lib.hid (KA.out.alloc _)
  have PB : Hid ((WA.alloc (MfB m (.slice (some ⟨g2, off2, none⟩) 1 pc))).heap[w5.heap.size]? = some Pl1) := Lib.hid (nonAt ((Keep.refl Non WA).alloc _) PA.out)
  have RB : Hid ((WA.alloc (MfB m (.slice (some ⟨g2, off2, none⟩) 1 pc))).heap[w.heap.size]? = some PlZ) := Lib.hid (nonAt ((Keep.refl Non WA).alloc _) RA.out)
  have MB : Hid ((WA.alloc (MfB m (.slice (some ⟨g2, off2, none⟩) 1 pc))).heap[WA.heap.size]? = some (MfB m (.slice (some ⟨g2, off2, none⟩) 1 pc))) := Lib.hid (blk_new WA _)
  obtain ⟨WB, hWB⟩ : ∃ WB, WB = WA.alloc (MfB m (.slice (some ⟨g2, off2, none⟩) 1 pc)) := ⟨_, rfl⟩
  rw [← hWB] at KB PB RB MB
  unfold MfB at hWB
  try rw [← hWB]
  clear hWB
  have lB := LDP.out WB KB.out
  have sB := store_pt0 WB pt p5
  have kC : Keep Non WB (WB.alloc (PtB pt)) := (Keep.refl _ _).alloc _
  have m0 := mf_0 (nonAt kC MB.out)
  have p0 := pt_0 (blk_new WB (PtB pt))
  have p1 := pt_1 (blk_new WB (PtB pt))
  rw [PM.out.1] at p0
  rw [PM.out.2.1] at p1
  rw [PM.out.2.2] at m0
  have pb := nonAt kC PB.out
  have b2 : (WB.alloc (PtB pt)).cell? ⟨w5.heap.size, 2, none⟩ = some (.int .i64 0) := by simp only [World.cell?, pb, Pl1]; rfl
  rw [show ((0 : Nat) : Int) = 0 from rfl] at p0 m0
  rw [show ((1 : Nat) : Int) = 1 from rfl] at p1
  have KC : Hid (Keep Non w (WB.alloc (PtB pt))) := Lib.hid (KB.out.trans1 kC)
  have PC : Hid ((WB.alloc (PtB pt)).heap[w5.heap.size]? = some Pl1) := Lib.hid pb
  have RC : Hid ((WB.alloc (PtB pt)).heap[w.heap.size]? = some PlZ) := Lib.hid (nonAt kC RB.out)
  clear kC pb
  dsimp only [zPt, PtB] at sB
  dsimp only [PtB] at p0 p1 m0 b2
  refine wp_loop_rounds 2 ?_
  rw [rounds_succ]
  have kD : Keep Non (WB.alloc (PtB pt)) ((WB.alloc (PtB pt)).alloc (.cells #[.int .i64 0, .int .i64 0, .int .i64 0, .int .i64 1] 235)) := (Keep.refl _ _).alloc _
  have kE : Keep Non (WB.alloc (PtB pt)) (((WB.alloc (PtB pt)).alloc (.cells #[.int .i64 0, .int .i64 0, .int .i64 0, .int .i64 1] 235)).alloc (.cells #[.int .i64 0, .int .i64 0, .int .i64 0, .int .i64 1] 235)) := kD.alloc _
  have b3 := (four_cells (nonAt kD PC.out)).2.2.2.1
  have ND : Hid ((((WB.alloc (PtB pt)).alloc (.cells #[.int .i64 0, .int .i64 0, .int .i64 0, .int .i64 1] 235)).alloc (.cells #[.int .i64 0, .int .i64 0, .int .i64 0, .int .i64 1] 235)).heap[WB.heap.size + 2]? = some (.cells #[.int .i64 0, .int .i64 0, .int .i64 0, .int .i64 1] 235 (0, 0))) := Lib.hid (by
    have := blk_new ((WB.alloc (PtB pt)).alloc (.cells #[.int .i64 0, .int .i64 0, .int .i64 0, .int .i64 1] 235)) (.cells #[.int .i64 0, .int .i64 0, .int .i64 0, .int .i64 1] 235 (0, 0))
    simpa using this)
  have KE := Lib.hid kE
  clear kD
  dsimp only [PtB] at b3
  have kF : Keep Non (WB.alloc (PtB pt)) ((((WB.alloc (PtB pt)).alloc (.cells #[.int .i64 0, .int .i64 0, .int .i64 0, .int .i64 1] 235)).alloc (.cells #[.int .i64 0, .int .i64 0, .int .i64 0, .int .i64 1] 235)).alloc (.cells (#[.int .i64 0, .int .i64 0, .int .i64 0, .int .i64 1] ++ Builtin.zeroCells #[.int .i64 0, .int .i64 0, .int .i64 0, .int .i64 0] ((Question.appendCap 1 0 235).cut (WB.tape WB.drawn (Question.appendCap 1 0 235)) - 1)) 235)).drew := (fun k => ⟨k.os, k.tape, k.output, k.size, k.block⟩ : ∀ {Z : Obj} (k : Keep Non (WB.alloc (PtB pt)) (((((WB.alloc (PtB pt)).alloc (.cells #[.int .i64 0, .int .i64 0, .int .i64 0, .int .i64 1] 235)).alloc (.cells #[.int .i64 0, .int .i64 0, .int .i64 0, .int .i64 1] 235)).alloc Z))), Keep Non (WB.alloc (PtB pt)) (((((WB.alloc (PtB pt)).alloc (.cells #[.int .i64 0, .int .i64 0, .int .i64 0, .int .i64 1] 235)).alloc (.cells #[.int .i64 0, .int .i64 0, .int .i64 0, .int .i64 1] 235)).alloc Z).drew)) (kE.alloc _)
  have f4 := (four_cells (nonAt kF PC.out)).2.2.2.1
  have g4 : (((((WB.alloc (PtB pt)).alloc (.cells #[.int .i64 0, .int .i64 0, .int .i64 0, .int .i64 1] 235)).alloc (.cells #[.int .i64 0, .int .i64 0, .int .i64 0, .int .i64 1] 235)).alloc (.cells (#[.int .i64 0, .int .i64 0, .int .i64 0, .int .i64 1] ++ Builtin.zeroCells #[.int .i64 0, .int .i64 0, .int .i64 0, .int .i64 0] ((Question.appendCap 1 0 235).cut (WB.tape WB.drawn (Question.appendCap 1 0 235)) - 1)) 235)).drew).frozen? ⟨w5.heap.size, 3, none⟩ = false := by simp [World.frozen?, nonAt kF PC.out, Pl1]
  dsimp only [PtB] at f4 g4
  go_wp2_with fail
  obtain ⟨WV, hWV⟩ : ∃ WV, WV = (((((WB.alloc (.cells (ptC pt).toArray 101)).alloc (.cells #[.int .i64 0, .int .i64 0, .int .i64 0, .int .i64 1] 235)).alloc (.cells #[.int .i64 0, .int .i64 0, .int .i64 0, .int .i64 1] 235)).alloc (.cells (#[.int .i64 0, .int .i64 0, .int .i64 0, .int .i64 1] ++ Builtin.zeroCells #[.int .i64 0, .int .i64 0, .int .i64 0, .int .i64 0] (((Question.appendCap 1 0 235).cut (WB.tape WB.drawn (Question.appendCap 1 0 235))) - 1)) 235)).setCell ⟨w5.heap.size, 3, none⟩ (.slice (some ⟨WB.heap.size + 1 + 1 + 1, 0, none⟩) 1 ((Question.appendCap 1 0 235).cut (WB.tape WB.drawn (Question.appendCap 1 0 235))))).drew := ⟨_, rfl⟩
  rw [← hWV]
  obtain ⟨PV, IV, SV, KV, OV⟩ := grow_four WB _ _ _ _ w5.heap.size 0 0 0 1 _ _ _ _ _ _ _ PB.out WV hWV
  generalize ((Question.appendCap 1 0 235).cut (WB.tape WB.drawn (Question.appendCap 1 0 235))) = cp at PV hWV ⊢
  clear hWV f4 g4 b3 kE kF
  have KW : Hid (Keep Non w WV) := Lib.hid (KV w KB.out K5.out.size)
  have RW : WV.heap[w.heap.size]? = some PlZ := OV _ _ (by have := R5.out; intro e; rw [e, Array.getElem?_eq_none (Nat.le_refl _)] at this; cases this) RB.out
  have IW := Lib.hid IV
  have SW : Hid (w.heap.size ≤ WB.heap.size + 1 + 1 + 1 ∧ WB.heap.size + 1 + 1 + 1 < WV.heap.size) := Lib.hid ⟨by have := KB.out.size; omega, by omega⟩
  clear KV OV IV SV
  have c4 := four_cells PV
  have s4 := four_set RW (.int .i64 1) (.int .i64 0) (.int .i64 0) (.slice (some ⟨WB.heap.size + 1 + 1 + 1, 0, none⟩) 1 cp)
  rw [rounds_succ]
  go_wp2_with fail
  rw [rounds_succ]
  go_wp2_with fail
  obtain ⟨_, _, _, _, _, _, _, _, t4, kt⟩ := s4
  obtain ⟨r0, r1, r2, r3, _⟩ := four_cells t4
  refine bodyPost_ret (v := .tuple #[.agg #[.int .i64 1, .int .i64 0, .int .i64 0, .slice (some ⟨WB.heap.size + 1 + 1 + 1, 0, none⟩) 1 cp], .nilIface]) (by simp [results, Tryz.results91, go_sem, r0, r1, r2, r3]) rfl ?_
  exact ⟨_, _, rfl, setNon4 KW.out kt, SW.out.1, Nat.lt_of_lt_of_le SW.out.2 kt.size, IW.out.keep kt (fun e => by have e' : WB.heap.size + 1 + 1 + 1 = w.heap.size := e; have := KB.out.size; omega)⟩
end
set_option linter.unusedSimpArgs false
theorem lgadd_ok {F : Nat → Prop} {b n : Nat} {L : Lg} (w : World) (h : LgAt F w b n L) (hl : L.shs.length < 2) (hlay : Lay w) :
    Calls Tryz.prog 56 #[.pointer (some ⟨b, 0, none⟩), .int .i64 16777216] w fun r w' => r = .returned .nilIface ∧ LgTo F w b n { L with shs := L.shs ++ [sh1 16777216] } w' := by
  obtain ⟨A, dps, sps, dv, sv, cv, q, h, hF⟩ := h
  obtain ⟨da, dc, rfl, _, _⟩ := ownsRow_form h.disks
  obtain ⟨sa, sc, rfl, _, _⟩ := ownsRow_form h.shelves
  have h10 : 10 ≤ w.heap.size := by have := h.low 0 b h.mem.1; omega
  have DN := Lib.hid (dnew_any 16777216 w (by omega))
  have SO : Hid (∀ w1 p, Keep Non w w1 → DiskAt (fun g => w.heap.size ≤ g ∧ g < w1.heap.size) w1 p (dk0 16777216) → Calls Tryz.prog 103 #[.pointer (some ⟨p, 0, none⟩)] w1 fun e w' => ∃ sp, e = .returned (.tuple #[.pointer (some ⟨sp, 0, none⟩), .nilIface]) ∧ ∃ FU, (∀ g, FU g → w.heap.size ≤ g) ∧ ShAt FU w' sp p (sh0 16777216) ∧ Keep Non w w') := Lib.hid (by
    intro w1 p k1 d1
    refine (shopen_ok w1 d1 (hlay.keepNon k1) (fun g x => ⟨by omega, x.2⟩)).mono ?_
    rintro e w' ⟨sp, e1, k2, FU, s2, u2⟩
    exact ⟨sp, e1, FU, fun g x => by rcases s2 g x with y | y; exact y.1; have := k1.size; omega, u2, k1.trans k2 (fun _ _ e => e) (fun g hg x => by omega)⟩)
  have H := Lib.hid h
  have HFF := Lib.hid hF
  have HL := Lib.hid hl
  have HLAY := Lib.hid hlay
  have hn2 : dps.length < 2 := by rw [h.len.1]; exact hl
  have hn3 : sps.length < 2 := by rw [h.len.2]; exact hl
  obtain ⟨i1, hi1, hz1, hz2, hz3⟩ := info_parts infoD
  have I1 := Lib.hid (And.intro hi1 (And.intro hz1 (And.intro hz2 hz3)))
  obtain ⟨i2, hi2, hy1, hy2, hy3⟩ := info_parts infoS
  have I2 := Lib.hid (And.intro hi2 (And.intro hy1 (And.intro hy2 hy3)))
  clear h hF hl hlay hi1 hz1 hz2 hz3 hi2 hy1 hy2 hy3
  have DN' : Hid (Calls Tryz.prog 7 #[.int .i64 16777216] w fun e w' => ∃ p, e = .returned (.tuple #[.pointer (some ⟨p, 0, none⟩), .nilIface]) ∧ Keep Non w w' ∧ DiskAt (fun g => w.heap.size ≤ g ∧ g < w'.heap.size) w' p (dk0 16777216)) := DN
  clear DN
  go_enter Tryz.func56, Tryz.ntmps56
  go_wp2_with (first
    | (go_at_call 7; refine DN'.out.mono ?_; rintro r w1 ⟨p, rfl, k1, d1⟩; have SOW := Lib.hid (SO.out w1 p k1 d1); clear k1 d1)
    | (go_at_call 103; refine SOW.out.mono ?_; rintro r w2 ⟨sp, rfl, FU, hFU, hsh, k2⟩; have K2 := Lib.hid k2; have HFU := Lib.hid hFU; have HSH := Lib.hid hsh; clear k2 hFU hsh))
  have h2 := H.out.keep K2.out (fun _ _ _ e => e)
  have H2 := Lib.hid h2
  have kd : Keep Non w2 w2.drew := (Keep.refl _ _).drew
  have kD0 : Keep Non w2 (w2.alloc (oD p)) := (Keep.refl _ _).alloc _
  have kS0 : Keep Non w2 (w2.alloc (oS sp)) := (Keep.refl _ _).alloc _
  have kDS0 : Keep Non w2 ((w2.alloc (oD p)).alloc (oS sp)) := kD0.alloc _
  have kSD0 : Keep Non w2 ((w2.alloc (oS sp)).alloc (oD p)) := kS0.alloc _
  have kD := kD0.drew
  have kDS := kDS0.drew
  have kSD := kSD0.drew
  have KD := Lib.hid kD
  have KDS := Lib.hid kDS
  have KSD := Lib.hid kSD
  have bD : (w2.alloc (oD p)).drew.heap[w2.heap.size]? = some (oD p) := blk_new w2 (oD p)
  have bDS : ((w2.alloc (oD p)).alloc (oS sp)).drew.heap[w2.heap.size]? = some (oD p) := blk_alloc (blk_new w2 (oD p)) _
  have cDS : ((w2.alloc (oD p)).alloc (oS sp)).drew.heap[w2.heap.size + 1]? = some (oS sp) := alloc2_at' w2 (oD p) (oS sp)
  have bSD : ((w2.alloc (oS sp)).alloc (oD p)).drew.heap[w2.heap.size + 1]? = some (oD p) := alloc2_at' w2 (oS sp) (oD p)
  have cSD : ((w2.alloc (oS sp)).alloc (oD p)).drew.heap[w2.heap.size]? = some (oS sp) := blk_alloc (blk_new w2 (oS sp)) _
  have BD := Lib.hid bD
  have BDS := Lib.hid bDS
  have BSD := Lib.hid bSD
  have CDS := Lib.hid cDS
  have CSD := Lib.hid cSD
  have rD := Lib.hid (ownsRow_keep h2.disks kD (fun _ _ e => e))
  have rDS := Lib.hid (ownsRow_keep h2.disks kDS (fun _ _ e => e))
  have rSD := Lib.hid (ownsRow_keep h2.disks kSD (fun _ _ e => e))
  have x00 := lg_0 h2.blk
  have x10 := lg_1 h2.blk
  have x0D := lg_0 (kD0.at h2.blk (fun e => e))
  have x1D := lg_1 (kD0.at h2.blk (fun e => e))
  have x0S := lg_0 (kS0.at h2.blk (fun e => e))
  have x1S := lg_1 (kS0.at h2.blk (fun e => e))
  have x0DS := lg_0 (kDS0.at h2.blk (fun e => e))
  have x1DS := lg_1 (kDS0.at h2.blk (fun e => e))
  have x0SD := lg_0 (kSD0.at h2.blk (fun e => e))
  have x1SD := lg_1 (kSD0.at h2.blk (fun e => e))
  clear h2 kd kD kDS kSD kD0 kS0 kDS0 kSD0 bD bDS cDS bSD cSD
  dsimp only [oD, oS] at x00 x10 x0D x1D x0S x1S x0DS x1DS x0SD x1SD
  go_region_law (first
    | (refine step_append_prov (by rfl) (.tmp 29) (.tmp 31) 121 (by rfl) 0 27 i1 (.pointer none) 1 8 Tryz.underlying121 I1.out.1 I1.out.2.1 I1.out.2.2.1 I1.out.2.2.2 rfl (by decide) (.slice da dps.length dc) dps.length (dps.map ptrV) (by first | rfl | simp [Act.eval, Act.put]) (by exact rD.out) ⟨w2.heap.size, 0, none⟩ 1 1 [.pointer (some ⟨p, 0, none⟩)] (by first | rfl | simp [Act.eval, Act.put]) (by rfl) (by exact oD_cells BD.out) (by simp [Value.oneCell']) (by unfold maxLen; omega) (by omega) (Nat.zero_le _) ?_; intro v3 w3 ho hg hpp; obtain ⟨a8, tr⟩ := A8.of (p := p) H2.out KD.out ho hg hpp; obtain ⟨a3, c3, rfl, _, _⟩ := ownsRow_form a8.row; have y1 := lg_1 a8.blk; have y2 := lg_1 (a8.alloc (oS sp)).blk; have A8h := Lib.hid a8; clear ho hg hpp a8 tr; dsimp only [oS] at y1 y2)
    | (refine step_append_prov (by rfl) (.tmp 29) (.tmp 31) 121 (by rfl) 0 27 i1 (.pointer none) 1 8 Tryz.underlying121 I1.out.1 I1.out.2.1 I1.out.2.2.1 I1.out.2.2.2 rfl (by decide) (.slice da dps.length dc) dps.length (dps.map ptrV) (by first | rfl | simp [Act.eval, Act.put]) (by exact rDS.out) ⟨w2.heap.size, 0, none⟩ 1 1 [.pointer (some ⟨p, 0, none⟩)] (by first | rfl | simp [Act.eval, Act.put]) (by rfl) (by exact oD_cells BDS.out) (by simp [Value.oneCell']) (by unfold maxLen; omega) (by omega) (Nat.zero_le _) ?_; intro v3 w3 ho hg hpp; obtain ⟨a8, tr⟩ := A8.of (p := p) H2.out KDS.out ho hg hpp; obtain ⟨a3, c3, rfl, _, _⟩ := ownsRow_form a8.row; have y1 := lg_1 a8.blk; have y2 := lg_1 (a8.alloc (oS sp)).blk; have A8h := Lib.hid a8; have TS := Lib.hid (tr _ _ (Nat.le_succ _) CDS.out); clear ho hg hpp a8 tr; dsimp only [oS] at y1 y2)
    | (refine step_append_prov (by rfl) (.tmp 29) (.tmp 31) 121 (by rfl) 0 27 i1 (.pointer none) 1 8 Tryz.underlying121 I1.out.1 I1.out.2.1 I1.out.2.2.1 I1.out.2.2.2 rfl (by decide) (.slice da dps.length dc) dps.length (dps.map ptrV) (by first | rfl | simp [Act.eval, Act.put]) (by exact rSD.out) ⟨w2.heap.size + 1, 0, none⟩ 1 1 [.pointer (some ⟨p, 0, none⟩)] (by first | rfl | simp [Act.eval, Act.put]) (by rfl) (by exact oD_cells BSD.out) (by simp [Value.oneCell']) (by unfold maxLen; omega) (by omega) (Nat.zero_le _) ?_; intro v3 w3 ho hg hpp; obtain ⟨a8, tr⟩ := A8.of (p := p) H2.out KSD.out ho hg hpp; obtain ⟨a3, c3, rfl, _, _⟩ := ownsRow_form a8.row; have y1 := lg_1 a8.blk; have y2 := lg_1 (a8.alloc (oS sp)).blk; have A8h := Lib.hid a8; have TS := Lib.hid (tr _ _ (Nat.le_refl _) CSD.out); clear ho hg hpp a8 tr; dsimp only [oS] at y1 y2)
    | (refine step_append_prov (by rfl) (.tmp 36) (.tmp 38) 122 (by rfl) 0 171 i2 (.pointer none) 1 8 Tryz.underlying122 I2.out.1 I2.out.2.1 I2.out.2.2.1 I2.out.2.2.2 rfl (by decide) (.slice sa sps.length sc) sps.length (sps.map ptrV) (by first | rfl | simp [Act.eval, Act.put]) (by exact A8h.out.shelves) ⟨w2.heap.size + 1, 0, none⟩ 1 1 [.pointer (some ⟨sp, 0, none⟩)] (by first | rfl | simp [Act.eval, Act.put]) (by rfl) (by exact oS_cells TS.out) (by simp [Value.oneCell']) (by unfold maxLen; omega) (by omega) (Nat.zero_le _) ?_; intro v5 w5 ho hg hpp; have a15 := A15.of (sp := sp) H2.out A8h.out ho hg hpp; obtain ⟨a5, c5, rfl, _, _⟩ := ownsRow_form a15.row5; have z0 := lg_0 a15.blk; have z1 := lg_1 (lg_set0 a15.blk (.slice a3 (dps.length + 1) c3)); have f0 := lg_f a15.blk 0; have f1 := lg_f (lg_set0 a15.blk (.slice a3 (dps.length + 1) c3)) 1; have CLO := Lib.hid (add_close H.out HFF.out HL.out HLAY.out K2.out HFU.out HSH.out a15); clear ho hg hpp a15)
    | (refine step_append_prov (by rfl) (.tmp 36) (.tmp 38) 122 (by rfl) 0 171 i2 (.pointer none) 1 8 Tryz.underlying122 I2.out.1 I2.out.2.1 I2.out.2.2.1 I2.out.2.2.2 rfl (by decide) (.slice sa sps.length sc) sps.length (sps.map ptrV) (by first | rfl | simp [Act.eval, Act.put]) (by exact A8h.out.shelves) ⟨w2.heap.size, 0, none⟩ 1 1 [.pointer (some ⟨sp, 0, none⟩)] (by first | rfl | simp [Act.eval, Act.put]) (by rfl) (by exact oS_cells TS.out) (by simp [Value.oneCell']) (by unfold maxLen; omega) (by omega) (Nat.zero_le _) ?_; intro v5 w5 ho hg hpp; have a15 := A15.of (sp := sp) H2.out A8h.out ho hg hpp; obtain ⟨a5, c5, rfl, _, _⟩ := ownsRow_form a15.row5; have z0 := lg_0 a15.blk; have z1 := lg_1 (lg_set0 a15.blk (.slice a3 (dps.length + 1) c3)); have f0 := lg_f a15.blk 0; have f1 := lg_f (lg_set0 a15.blk (.slice a3 (dps.length + 1) c3)) 1; have CLO := Lib.hid (add_close H.out HFF.out HL.out HLAY.out K2.out HFU.out HSH.out a15); clear ho hg hpp a15)
    | (refine step_append_prov (by rfl) (.tmp 36) (.tmp 38) 122 (by rfl) 0 171 i2 (.pointer none) 1 8 Tryz.underlying122 I2.out.1 I2.out.2.1 I2.out.2.2.1 I2.out.2.2.2 rfl (by decide) (.slice sa sps.length sc) sps.length (sps.map ptrV) (by first | rfl | simp [Act.eval, Act.put]) (by exact (A8h.out.alloc (oS sp)).shelves) ⟨w3.heap.size, 0, none⟩ 1 1 [.pointer (some ⟨sp, 0, none⟩)] (by first | rfl | simp [Act.eval, Act.put]) (by rfl) (by exact oS_cells (blk_new w3 (oS sp))) (by simp [Value.oneCell']) (by unfold maxLen; omega) (by omega) (Nat.zero_le _) ?_; intro v5 w5 ho hg hpp; have a15 := A15.of (sp := sp) H2.out (A8h.out.alloc (oS sp)) ho hg hpp; obtain ⟨a5, c5, rfl, _, _⟩ := ownsRow_form a15.row5; have z0 := lg_0 a15.blk; have z1 := lg_1 (lg_set0 a15.blk (.slice a3 (dps.length + 1) c3)); have f0 := lg_f a15.blk 0; have f1 := lg_f (lg_set0 a15.blk (.slice a3 (dps.length + 1) c3)) 1; have CLO := Lib.hid (add_close H.out HFF.out HL.out HLAY.out K2.out HFU.out HSH.out a15); clear ho hg hpp a15))
  all_goals go_wp2_with (go_at_call 104; refine CLO.out.mono ?_; rintro r w6 ⟨⟨nn, rfl⟩, t⟩; have T := Lib.hid t; clear t)
  all_goals
    go_ret
    exact ⟨rfl, T.out⟩
def SgZ0 : Obj := .cells #[.int .i64 0, .slice none 0 0] 225 (0, 0)
section
attribute [local go_sem ↓] hV81 hV101 hV83 hW81 hW101 hW83 hB101 hB83
theorem vget_ok (F T : Nat → Prop) (b q p place f : Nat) (lv : Value) (m : Mf) (cl : List Cl) (X : Dk) (w : World) (hb : w.heap[b]? = some (VtB q lv)) (d : StoreAt F w q p X) (hdn : X.down = false) (hlay : Lay w) (hm : MsAt T w lv [m]) (hp : m.parts[place]? = some (ptOf f cl)) (h64 : m.parts.length ≤ 10000) (hpl : place < 64)
    (f1 : fhas X.shown (labelN 0 place) = true) (f2 : fget X.shown (labelN 0 place) = segB f cl) (hcl : cl.length ≤ 64) (hokc : ∀ x ∈ cl, okCl x) (hfl : f + cl.length ≤ 1048576) :
    Calls Tryz.prog 205 #[.pointer (some ⟨b, 0, none⟩), .int .i64 0, .int .i64 place] w fun e w' => ∃ v', e = .returned (.tuple #[.agg #[.int .i64 f, v'], .nilIface]) ∧ Keep Non w w' ∧ ∃ xs, w'.ownsRow w.heap.size 55 2 v' cl.length xs ∧ CellsOf w.heap.size Non w' xs cl := by
  have hsl := seg_len hokc hcl (show f ≤ 1048576 by omega)
  have hrl := run_len hokc hcl (show f ≤ 1048576 by omega)
  have p5 : (ptOf f cl).sum.length = 32 := digB_len _
  have VP := Lib.hid (fun W (k : Keep Non w W) => vpart_ok T b q place lv m (ptOf f cl) W (nonAt k hb) (hm.keepNon k) hp p5 h64)
  have LB := Lib.hid (fun W => vlabel_ok 0 place W (by omega) (by omega))
  have GT := Lib.hid (fun W (k : Keep Non w W) => by
    have := sget_ok F q p (labelN 0 place) X W (d.keep k (fun _ _ e => e)) (label_ok 0 place (by omega) (by omega)) hdn f1 (by rw [f2]; omega)
    rw [f2] at this
    exact this)
  have MH := Lib.hid (fun W v (k : Keep Non w W) (hb : Bs W v (segB f cl)) (ho : okc v) (hv : ∀ g, v.ownBlock = some g → g < W.heap.size) => mholds_ok f v cl W hb ho hv hcl hokc hfl (by omega) (by omega) (hlay.keepNon k).kon (hlay.keepNon k).frs)
  have BB : Hid (∀ W, Keep Non w W → W.cell? ⟨b, 0, none⟩ = some (.pointer (some ⟨q, 0, none⟩))) := Lib.hid (fun W k => vt_0 (nonAt k hb))
  have NC : ((0 : Nat) : Int) = 0 := rfl
  have K0 : Hid (Keep Non w (w.alloc SgZ0)) := Lib.hid ((Keep.refl _ _).alloc _)
  have R0 : Hid ((w.alloc SgZ0).heap[w.heap.size]? = some (SgB 0 (.slice none 0 0))) := Lib.hid (blk_new w SgZ0)
  have VPW := Lib.hid (VP.out _ K0.out)
  rw [NC] at LB
  clear hb d hlay hm hp f1 f2
  unfold sv at LB GT
  dsimp only [SgZ0] at VPW
  generalize hpt : ptOf f cl = pt at VPW MH p5 VP
  generalize hsb : segB f cl = sb at GT MH
  go_enter Tryz.func205, Tryz.ntmps205
  go_wp2_with (go_at_call 263; ((with_reducible refine VPW.out.mono ?_); rintro e w1 ⟨rfl, k1⟩); have K1 := Lib.hid (K0.out.trans1 k1); have hsp := store_pt0 w1 pt p5; have R1 := Lib.hid (nonAt (w := w.alloc SgZ0) k1 R0.out); dsimp only [zPt, PtB] at hsp; clear k1)
  have kp : Keep Non w1 (w1.alloc (PtB pt)).drew := ((Keep.refl _ _).alloc _).drew
  have KP := Lib.hid kp
  have PL : Hid (∀ W, Keep Non (w1.alloc (PtB pt)).drew W → (holdV 101 ⟨w1.heap.size, 0, none⟩).run Tryz.prog W = .ok (ptV pt) W) := Lib.hid (fun W k => load_pt (nonAt k (by exact blk_new w1 (PtB pt))) p5)
  have KW := Lib.hid (K1.out.trans1 kp)
  have v0 := BB.out _ KW.out
  have LBW := Lib.hid (LB.out (w1.alloc (PtB pt)).drew)
  dsimp only [PtB] at v0 LBW
  clear kp hsp
  go_region_law (go_simp; first
    | (go_at_call 197; ((with_reducible refine LBW.out.mono ?_); rintro r w2 ⟨rfl, k2⟩); have k2' := KW.out.trans1 k2; have v2 := BB.out _ k2'; have GTW := Lib.hid (GT.out w2 k2'); have K2 := Lib.hid k2'; have KP2 := Lib.hid (show Keep Non (w1.alloc (PtB pt)).drew w2 from k2); clear k2 k2')
    | (go_at_call 24; ((with_reducible refine GTW.out.mono ?_); rintro r w3 ⟨v3, rfl, k3, o3⟩); obtain ⟨a3, c3, rfl, _, _⟩ := ownsRow_form o3; have hl3 := PL.out _ (KP2.out.trans1 k3); have MHW := Lib.hid (MH.out w3 _ (K2.out.trans1 k3) (Rd.ofOwns o3) (okc_own o3) (fun g e => (o3.lt g e).2)); have K3 := Lib.hid (K2.out.trans1 k3); have R3 := Lib.hid (nonAt k3 (nonAt KP2.out (nonAt KP.out R1.out))); clear k3 o3))
  all_goals go_wp2_with (go_at_call 261; refine MHW.out.mono ?_; rintro r w4 ⟨v4, rfl, k4, xs, o4, q4⟩; obtain ⟨a4, c4, rfl, _, _⟩ := ownsRow_form o4; have r4 := nonAt k4 R3.out; have R4 := Lib.hid r4; have K4 := Lib.hid (K3.out.trans1 k4); have O4 := Lib.hid o4; have Q4 := Lib.hid q4; have rf0 := sg_f r4 0; have rf1 := sg_f r4 1; have rc0 := sg_0 r4; have rc1 := sg_1 r4; have rx0 := sg_0 (sg_set0 r4 f); clear k4 o4 q4 r4)
  all_goals
    have s0 := sg_0 (sg_set1 (sg_set0 R4.out f) (.slice a4 cl.length c4))
    have s1 := sg_1 (sg_set1 (sg_set0 R4.out f) (.slice a4 cl.length c4))
    refine bodyPost_ret (v := .tuple #[.agg #[.int .i64 f, .slice a4 cl.length c4], .nilIface]) (by simp [results, Tryz.results205, go_sem, s0, s1]) rfl ?_
    have kf : Keep (One w.heap.size) w4 ((w4.setCell ⟨w.heap.size, 0, none⟩ (.int .i64 f)).setCell ⟨w.heap.size, 1, none⟩ (.slice a4 cl.length c4)) := ((Keep.refl _ _).setOne _ _).setOne _ _
    have h3 := K3.out.size
    have hz : w.heap.size < w3.heap.size := lt_of_block R3.out
    refine ⟨_, rfl, K4.out.trans kf (fun _ _ e => e) (fun g hg e => by have e' : g = w.heap.size := e; omega), xs, ownsRow_low (ownsRow_keep O4.out kf (fun g e e2 => by have e' : g = w.heap.size := e2; have := (O4.out.lt g e).1; omega)) (by omega), (Q4.out.keep (S' := Non) kf (fun g hg e => by have e' : g = w.heap.size := e; omega) (fun _ _ e => e.elim)).low (by omega) (fun _ e => e)⟩
end
def mixL {α : Type} (f : α → α) (l : List α) (j : Nat) : List α := (l.take j).map f ++ l.drop j
theorem mixL_zero {α : Type} (f : α → α) (l : List α) : mixL f l 0 = l := by simp [mixL]
theorem mixL_all {α : Type} (f : α → α) (l : List α) : mixL f l l.length = l.map f := by simp [mixL]
theorem mixL_len {α : Type} (f : α → α) (l : List α) (j : Nat) : (mixL f l j).length = l.length := by simp [mixL]; omega
theorem mixL_at {α : Type} (f : α → α) (l : List α) (j : Nat) (x : α) (h : l[j]? = some x) : (mixL f l j)[j]? = some x := by
  have hl := lt_of_some h
  unfold mixL
  rw [List.getElem?_append_right (by simp; omega)]
  simp only [List.length_map, List.length_take, List.getElem?_drop]
  rw [show j + (j - min j l.length) = j by omega]
  exact h
theorem mixL_set {α : Type} (f : α → α) (l : List α) (j : Nat) (x : α) (h : l[j]? = some x) : (mixL f l j).set j (f x) = mixL f l (j + 1) := by
  have hl := lt_of_some h
  apply List.ext_getElem?
  intro i
  by_cases e : i = j
  · subst e
    rw [List.getElem?_set_self (by rw [mixL_len]; exact hl)]
    unfold mixL
    rw [List.getElem?_append_left (by simp; omega)]
    simp [h]
  · rw [List.getElem?_set_ne (fun x => e x.symm)]
    unfold mixL
    rcases Nat.lt_or_ge i j with y | y
    · rw [List.getElem?_append_left (by simp; omega), List.getElem?_append_left (by simp; omega)]
      simp [y, show i < j + 1 by omega]
    · rw [List.getElem?_append_right (by simp; omega), List.getElem?_append_right (by simp; omega)]
      simp only [List.length_map, List.length_take, List.getElem?_drop]
      congr 1
      omega
def trimS (a : Nat) (s : Sh) : Sh := s.did (actBy 4 s.e a []) s.e (max s.l a) (cutLo (max s.l a) s.D)
theorem trim_enter' (args : Array Value) (w : World) : (callFunc 315 args).run Tryz.prog w = .ok (.enter 315 args) w := enter_of Tryz.func315 (by kernel_rfl) rfl args w
theorem lgtrim1_ok (u g h j b a e : Nat) (w : World) (Q : World → Prop) (g0 : w.cell? ⟨g, 0, none⟩ = some (.pointer (some ⟨b, 0, none⟩))) (h0 : w.cell? ⟨h, 0, none⟩ = some (.int .i64 e)) (j0 : w.cell? ⟨j, 0, none⟩ = some (.int .i64 a))
    (hp : Calls Tryz.prog 171 #[.pointer (some ⟨b, 0, none⟩), .int .i64 u, .agg #[.int .i64 4, .int .i64 e, .int .i64 a, .slice none 0 0]] w fun r w' => (∃ n : Int, r = .returned (.tuple #[.int .i64 n, .nilIface])) ∧ Q w') :
    Calls Tryz.prog 315 #[.int .i64 u, .pointer (some ⟨g, 0, none⟩), .pointer (some ⟨h, 0, none⟩), .pointer (some ⟨j, 0, none⟩)] w fun r w' => r = .returned .nilIface ∧ Q w' := by
  have HP := Lib.hid hp
  clear hp
  go_enter Tryz.func315, Tryz.ntmps315
  go_wp2_with (go_at_call 171; refine HP.out.mono ?_; rintro r w2 ⟨⟨nn, rfl⟩, hq⟩; have HQ := Lib.hid hq; clear hq)
  go_ret
  exact ⟨rfl, HQ.out⟩
theorem LgAt.low10 {F : Nat → Prop} {w : World} {b n : Nat} {L : Lg} (h : LgAt F w b n L) : ∃ F', LgAt F' w b n L ∧ ∀ g, F' g → F g ∧ 10 ≤ g ∧ g < w.heap.size := by
  obtain ⟨A, dps, sps, dv, sv, cv, q, h, hF⟩ := h
  exact ⟨fun g => ∃ i, A i g, ⟨A, dps, sps, dv, sv, cv, q, h, fun i g e => ⟨i, e⟩⟩, fun g ⟨i, e⟩ => ⟨hF i g e, h.low i g e⟩⟩
theorem LgTo.mono {F F' : Nat → Prop} {w w' : World} {b n : Nat} {L : Lg} (h : LgTo F' w b n L w') (hs : ∀ g, F' g → F g) : LgTo F w b n L w' := by
  obtain ⟨k, G, s, h⟩ := h
  exact ⟨k.mono (fun g _ x => hs g x), G, fun g x => by rcases s g x with y | y; exact .inl (hs g y); exact .inr y, h⟩
theorem LgAt.small {F : Nat → Prop} {w : World} {b n : Nat} {L : Lg} (h : LgAt F w b n L) : n ≤ 2 ∧ L.shs.length ≤ 2 := by
  obtain ⟨A, dps, sps, dv, sv, cv, q, h', hF⟩ := h
  exact h'.small
theorem lgtrim_ok {F0 : Nat → Prop} {b n a c : Nat} {pa : Option Addr} {L : Lg} (w : World) (h0 : LgAt F0 w b n L) (hlay : Lay w) (hl : L.shs.length = n) (hu : Is w (.slice pa n c) (List.range n)) (hu2 : ∀ g, (Value.slice pa n c).ownBlock = some g → ¬ F0 g) (ha : a ≤ 1048576) (hs : ∀ s ∈ L.shs, s.ok ∧ s.next < 240 ∧ s.e = L.ep ∧ s.e ≤ 1099511627776) :
    Calls Tryz.prog 264 #[.pointer (some ⟨b, 0, none⟩), .slice pa n c, .int .i64 L.ep, .int .i64 a] w fun r w' => r = .returned .nilIface ∧ LgTo F0 w b n { L with shs := L.shs.map (trimS a) } w' := by
  have hsm := h0.small
  obtain ⟨F, h, hFF⟩ := h0.low10
  have kA : Keep Non w (((w.alloc (PbB b)).alloc (InB L.ep)).alloc (InB a)) := (((Keep.refl _ _).alloc _).alloc _).alloc _
  have b0 : (((w.alloc (PbB b)).alloc (InB L.ep)).alloc (InB a)).heap[w.heap.size]? = some (PbB b) := blk_alloc (blk_alloc (blk_new _ _) _) _
  have b1 : (((w.alloc (PbB b)).alloc (InB L.ep)).alloc (InB a)).heap[w.heap.size + 1]? = some (InB L.ep) := blk_alloc (alloc2_at' _ _ _) _
  have b2 : (((w.alloc (PbB b)).alloc (InB L.ep)).alloc (InB a)).heap[w.heap.size + 1 + 1]? = some (InB a) := by
    have := alloc2_at' (w.alloc (PbB b)) (InB L.ep) (InB a)
    rwa [World.size_alloc] at this
  generalize hwA : ((w.alloc (PbB b)).alloc (InB L.ep)).alloc (InB a) = wA at kA b0 b1 b2
  have hA := h.keepNon kA
  have AFT : ∀ W (j : Nat), LgTo F wA b n { L with shs := mixL (trimS a) L.shs j } W → Lay W ∧ Is W (.slice pa n c) (List.range n) ∧ W.heap[w.heap.size]? = some (PbB b) ∧ W.heap[w.heap.size + 1]? = some (InB L.ep) ∧ W.heap[w.heap.size + 1 + 1]? = some (InB a) := by
    rintro W j ⟨k, F', s, hL⟩
    exact ⟨(hlay.keepNon kA).keep k (fun g hg x => by have := (hFF g x).2; omega), (hu.keepNon kA).keep k (fun g e x => hu2 g e (hFF g x).1), k.at b0 (fun x => by have := (hFF _ x).2; omega), k.at b1 (fun x => by have := (hFF _ x).2; omega), k.at b2 (fun x => by have := (hFF _ x).2; omega)⟩
  have ALL := all_at 315 (.pointer (some ⟨w.heap.size, 0, none⟩)) (.pointer (some ⟨w.heap.size + 1, 0, none⟩)) (.pointer (some ⟨w.heap.size + 1 + 1, 0, none⟩)) pa c (List.range n)
    (fun j W => LgTo F wA b n { L with shs := mixL (trimS a) L.shs j } W) wA trim_enter' (fun j W hj hI => by rw [List.length_range]; exact (AFT W j hI).2.1) (by rw [mixL_zero]; exact LgTo.refl hA (Keep.refl _ _)) (by simp; omega) (fun j u' W hj hI => by
      have hjn : j < n := by have := lt_of_some hj; simpa using this
      obtain rfl : j = u' := by rw [List.getElem?_range hjn] at hj; injection hj
      obtain ⟨lay, _, p0, p1, p2⟩ := AFT W j hI
      obtain ⟨k, F', s, hL⟩ := hI
      have hx : L.shs[j]? = some L.shs[j] := List.getElem?_eq_getElem (by omega)
      obtain ⟨q1, q2, q3, q4⟩ := hs _ (List.getElem_mem (show j < L.shs.length by omega))
      have ac := acts_trim q1 q2 a (by omega) ha
      rw [q3] at ac
      have D := lgdo_ok 4 L.ep a 0 0 none Any W hL (mixL_at (trimS a) L.shs j _ hx) lay ac (fun _ _ _ _ => trivial)
      refine (lgtrim1_ok j w.heap.size (w.heap.size + 1) (w.heap.size + 1 + 1) b a L.ep W _ (pb_0 p0) (in_0 p1) (in_0 p2) D).mono ?_
      rintro r w' ⟨e, t⟩
      refine ⟨e, LgTo.trans s k ?_⟩
      have e2 := mixL_set (trimS a) L.shs j _ hx
      have e3 : trimS a L.shs[j] = L.shs[j].did (actBy 4 L.ep a []) L.shs[j].e (max L.shs[j].l a) (cutLo (max L.shs[j].l a) L.shs[j].D) := by unfold trimS; rw [q3]
      simp only at t
      rw [q3] at e3
      rw [← e3, e2] at t
      exact t)
  rw [List.length_range, ← hl, mixL_all, hl] at ALL
  have ALL' : Hid (Calls Tryz.prog 108 #[.slice pa n c, .func (.func 315) #[] #[.pointer (some ⟨w.heap.size, 0, none⟩), .pointer (some ⟨w.heap.size + 1, 0, none⟩), .pointer (some ⟨w.heap.size + 1 + 1, 0, none⟩)]] wA fun e w' => e = .returned .nilIface ∧ LgTo F0 w b n { L with shs := L.shs.map (trimS a) } w') := Lib.hid (ALL.mono (fun r w' ⟨x, y⟩ => ⟨x, (LgTo.pre kA y).mono (fun g x => (hFF g x).1)⟩))
  clear h0 h hA ALL AFT b0 b1 b2 hs hu hlay
  subst hwA
  dsimp only [PbB, InB] at ALL'
  go_enter Tryz.func264, Tryz.ntmps264
  go_wp2_with (go_at_call 108; refine ALL'.out.mono ?_; rintro r w2 ⟨rfl, t⟩; have T := Lib.hid t; clear t)
  go_ret
  exact ⟨rfl, T.out⟩
end Go.Proofs.YtobjlgfjfpmceaaGreatDoor
namespace Go.Proofs.YtobjlgfjfpmceaaGreatDoor
open Go.RowKit
def rname : List UInt8 := [99, 45, 114, 101, 115, 116, 111, 114, 101]
theorem rsave_ok (x b lb q N B M t u : Nat) (ia : Option Addr) (il ic : Nat) (Q : World → Prop) (w : World) (hx : w.heap[x]? = some (RsB b lb q N B M (.slice ia il ic) t false)) (hQ : ∀ w', Q w' → w'.heap[x]? = some (RsB b lb q N B M (.slice ia il ic) t false))
    (hs : ∀ W, Keep Non w W → Calls Tryz.prog 32 #[.pointer (some ⟨q, 0, none⟩), .string ⟨rname.toArray⟩, .agg #[.int .i64 u, .int .i64 u, .int .i64 N, .int .i64 M, .slice none 0 0]] W fun e w' => e = .returned .nilIface ∧ Q w') :
    Calls Tryz.prog 92 #[.pointer (some ⟨x, 0, none⟩), .int .i64 u] w fun e w' => e = .returned .nilIface ∧ ∃ w1, Q w1 ∧ w' = w1.setCell ⟨x, 7, none⟩ (.int .i64 u) := by
  have c2 := rs_2 hx
  have c3 := rs_3 hx
  have c5 := rs_5 hx
  have HS := Lib.hid (hs w.drew (Keep.refl Non w).drew)
  have HQ := Lib.hid hQ
  clear hx hQ hs
  unfold rname at HS
  go_enter Tryz.func92, Tryz.ntmps92
  go_wp2_with fail
  go_region_law (go_simp; go_at_call 32; refine HS.out.mono ?_; rintro e w1 ⟨rfl, q1⟩; have h1 := HQ.out w1 q1; have c7 := rs_7 h1; have f7 := rs_f h1 7)
  all_goals go_wp2_with fail
  all_goals
    go_ret
    exact ⟨rfl, w1, q1, rfl⟩
theorem rend_ok (x b lb q N B M t : Nat) (ia : Option Addr) (il ic : Nat) (Q1 Q2 Q3 : World → Prop) (w : World) (hx : w.heap[x]? = some (RsB b lb q N B M (.slice ia il ic) t false))
    (hQ1 : ∀ w', Q1 w' → w'.heap[x]? = some (RsB b lb q N B M (.slice ia il ic) t false)) (hQ2 : ∀ w', Q2 w' → w'.heap[x]? = some (RsB b lb q N B M (.slice ia il ic) t false))
    (h1 : ∀ W, Keep Non w W → Calls Tryz.prog 207 #[.pointer (some ⟨lb, 0, none⟩), .int .i64 (if M < B then (B : Int) else M)] W fun e w' => e = .returned .nilIface ∧ Q1 w')
    (h2 : ∀ w1 W, Q1 w1 → Keep Non w1 W → Calls Tryz.prog 208 #[.pointer (some ⟨lb, 0, none⟩), .int .i64 N] W fun e w' => e = .returned .nilIface ∧ Q2 w')
    (h3 : ∀ w2, Q2 w2 → Calls Tryz.prog 39 #[.pointer (some ⟨q, 0, none⟩), .string ⟨rname.toArray⟩] (w2.setCell ⟨x, 8, none⟩ (.bool true)) fun e w' => e = .returned .nilIface ∧ Q3 w') :
    Calls Tryz.prog 153 #[.pointer (some ⟨x, 0, none⟩)] w fun e w' => e = .returned .nilIface ∧ Q3 w' := by
  have c1 := rs_1 hx
  have c4 := rs_4 hx
  have c5 := rs_5 hx
  have H1 := Lib.hid (h1 w.drew (Keep.refl Non w).drew)
  have H1M : Hid (Calls Tryz.prog 207 #[.pointer (some ⟨lb, 0, none⟩), .int .i64 (max (M : Int) (B : Int))] w.drew fun e w' => e = .returned .nilIface ∧ Q1 w') := Lib.hid (by
    have e : max (M : Int) (B : Int) = (if M < B then (B : Int) else M) := by split <;> omega
    rw [e]
    exact h1 w.drew (Keep.refl Non w).drew)
  have HQ1 := Lib.hid hQ1
  have HQ2 := Lib.hid hQ2
  have H2 := Lib.hid h2
  have H3 := Lib.hid h3
  clear hx hQ1 hQ2 h1 h2 h3
  unfold rname at H3
  go_enter Tryz.func153, Tryz.ntmps153
  go_wp2_with fail
  go_region_law (go_simp; go_at_call 207; ((first | with_reducible refine H1.out.mono ?_ | with_reducible refine H1M.out.mono ?_); rintro e w1 ⟨rfl, q1⟩); have y := HQ1.out w1 q1; have d1 := rs_1 y; have d3 := rs_3 y; have H2W := Lib.hid (H2.out w1 w1.drew q1 (Keep.refl Non w1).drew); clear y)
  all_goals go_wp2_with fail
  all_goals go_region_law (go_simp; go_at_call 208; ((with_reducible refine H2W.out.mono ?_); rintro e w2 ⟨rfl, q2⟩); have y := HQ2.out w2 q2; have d8 := rs_8 y; have f8 := rs_f y 8; have d2 := rs_2 (rs_set8 y true); have H3W := Lib.hid (H3.out w2 q2); clear y)
  all_goals go_wp2_with (go_at_call 39; ((with_reducible refine H3W.out.mono ?_); rintro e w3 ⟨rfl, q3⟩))
  all_goals
    go_ret
    exact ⟨rfl, q3⟩
end Go.Proofs.YtobjlgfjfpmceaaGreatDoor
