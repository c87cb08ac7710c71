/- slog.add: walked. · slog.Projection, export.low: walked. · Exports: their blocks, what they read, what a step makes of them (plain). · (*Export).read: -/
import Derived.Test.YtobjlgfjfpmceaaGreatDoorQ31
import Derived.Test.YtobjlgfjfpmceaaGreatDoorQ32
set_option linter.unusedVariables false
set_option maxRecDepth 100000
set_option maxHeartbeats 16000000
namespace Go.Proofs.YtobjlgfjfpmceaaGreatDoor
open Go.RowKit Go.Maps
def oD (p : Nat) : Obj := .cells #[.pointer (some ⟨p, 0, none⟩)] 27 (0, 0)
def oS (p : Nat) : Obj := .cells #[.pointer (some ⟨p, 0, none⟩)] 171 (0, 0)
theorem oD_cells {w : World} {g p : Nat} (h : w.heap[g]? = some (oD p)) : ∀ (j : Nat) u, [Value.pointer (some ⟨p, 0, none⟩)][j]? = some u → w.cell? ((⟨g, 0, none⟩ : Addr).add j) = some u := by
  intro j u hu
  unfold oD at h
  rw [add_off, Nat.zero_add, cell_of_row _ _ j _ _ _ h]
  simpa using hu
theorem oS_cells {w : World} {g p : Nat} (h : w.heap[g]? = some (oS p)) : ∀ (j : Nat) u, [Value.pointer (some ⟨p, 0, none⟩)][j]? = some u → w.cell? ((⟨g, 0, none⟩ : Addr).add j) = some u := by
  intro j u hu
  unfold oS at h
  rw [add_off, Nat.zero_add, cell_of_row _ _ j _ _ _ h]
  simpa using hu
theorem infoD : (Tryz.prog.info? 27).map (fun i => (i.zero, i.size, i.bytes)) = some (some (.pointer none), 1, 8) := by kernel_rfl
theorem infoS : (Tryz.prog.info? 171).map (fun i => (i.zero, i.size, i.bytes)) = some (some (.pointer none), 1, 8) := by kernel_rfl
section
variable {A : Nat → Nat → Prop} {w2 W w3 : World} {b : Nat} {dps sps : List Nat} {dv sv cv v3 : Value} {q n p m : Nat} {L : Lg}
structure A8 (A : Nat → Nat → Prop) (w2 w3 : World) (b : Nat) (dps sps : List Nat) (dv sv cv v3 : Value) (q p : Nat) (L : Lg) : Prop where
  keep : Keep (fun g => dv.ownBlock = some g) w2 w3
  own : v3.ownBlock = dv.ownBlock ∨ ∃ g, w2.heap.size ≤ g ∧ v3.ownBlock = some g
  row : w3.ownsRow 0 27 1 v3 (dps.length + 1) (dps.map ptrV ++ [ptrV p])
  blk : w3.heap[b]? = some (LgB dv sv L.ep cv q)
  shelves : w3.ownsRow 0 171 1 sv sps.length (sps.map ptrV)
theorem A8.of (h : LgIn A w2 b dps sps dv sv cv q n L) (k : Keep Non w2 W) (ho : w3.ownsRow 0 27 1 v3 (dps.length + 1) (dps.map ptrV ++ [ptrV p])) (hg : W.grownBy w3 dv.ownBlock) (hpp : v3.ownBlock = dv.ownBlock ∨ v3.ownBlock = some W.heap.size) :
    A8 A w2 w3 b dps sps dv sv cv v3 q p L ∧ ∀ g o, w2.heap.size ≤ g → W.heap[g]? = some o → w3.heap[g]? = some o := by
  obtain ⟨k3, p3⟩ := app_after k hg hpp
  have k3' : Keep (fun g => dv.ownBlock = some g) w2 w3 := k3.mono (fun g _ x => x.resolve_left (fun y => y))
  refine ⟨⟨k3', ?_, ho, k3'.at h.blk (fun x => ?_), ownsRow_keep h.shelves k3' (fun g x y => ?_)⟩, fun g o hgs hgo => ?_⟩
  · rcases p3 with x | ⟨g, x, _, _, y⟩
    · exact .inl x
    · exact .inr ⟨g, x, y⟩
  · have := h.apart _ _ _ h.mem.1 (h.mem.2.2.1 _ x); omega
  · have := h.apart _ _ _ (h.mem.2.2.2 _ x) (h.mem.2.2.1 _ y); omega
  · have kg : Keep (fun k => dv.ownBlock = some k) W w3 := (Keep.refl _ _).grown hg (fun k e => .inl e)
    exact kg.at hgo (fun x => by have := (h.low _ _ (h.mem.2.2.1 _ x)).2; omega)
theorem A8.alloc (h : A8 A w2 w3 b dps sps dv sv cv v3 q p L) (o : Obj) : A8 A w2 (w3.alloc o) b dps sps dv sv cv v3 q p L :=
  ⟨h.keep.trans1 ((Keep.refl _ _).alloc o), h.own, ownsRow_keep h.row ((Keep.refl Non w3).alloc o) (fun _ _ e => e), blk_alloc h.blk o, ownsRow_keep h.shelves ((Keep.refl Non w3).alloc o) (fun _ _ e => e)⟩
structure A15 (A : Nat → Nat → Prop) (w2 w5 : World) (b : Nat) (dps sps : List Nat) (dv sv cv v3 v5 : Value) (q p sp : Nat) (L : Lg) : Prop where
  keep : Keep (fun g => dv.ownBlock = some g ∨ sv.ownBlock = some g) w2 w5
  blk : w5.heap[b]? = some (LgB dv sv L.ep cv q)
  own3 : v3.ownBlock = dv.ownBlock ∨ ∃ g, w2.heap.size ≤ g ∧ v3.ownBlock = some g
  own5 : v5.ownBlock = sv.ownBlock ∨ ∃ g, w2.heap.size ≤ g ∧ v5.ownBlock = some g
  ne : ∀ g, v3.ownBlock = some g → v5.ownBlock ≠ some g
  row3 : w5.ownsRow 0 27 1 v3 (dps.length + 1) (dps.map ptrV ++ [ptrV p])
  row5 : w5.ownsRow 0 171 1 v5 (sps.length + 1) (sps.map ptrV ++ [ptrV sp])
theorem A15.of {w5 : World} {v5 : Value} {sp : Nat} (h : LgIn A w2 b dps sps dv sv cv q n L) (h8 : A8 A w2 W b dps sps dv sv cv v3 q p L) (ho : w5.ownsRow 0 171 1 v5 (sps.length + 1) (sps.map ptrV ++ [ptrV sp])) (hg : W.grownBy w5 sv.ownBlock) (hpp : v5.ownBlock = sv.ownBlock ∨ v5.ownBlock = some W.heap.size) :
    A15 A w2 w5 b dps sps dv sv cv v3 v5 q p sp L := by
  have kg : Keep (fun k => sv.ownBlock = some k) W w5 := (Keep.refl _ _).grown hg (fun k e => .inl e)
  obtain ⟨k5, p5⟩ := app_after h8.keep hg hpp
  have n3 : ∀ g, v3.ownBlock = some g → sv.ownBlock ≠ some g := fun g x y => by
    rcases h8.own with e | ⟨g', e1, e2⟩
    · rw [e] at x
      have := h.apart _ _ _ (h.mem.2.2.1 _ x) (h.mem.2.2.2 _ y); omega
    · rw [e2] at x; injection x with x
      have := (h.low _ _ (h.mem.2.2.2 _ y)).2; omega
  refine ⟨k5, kg.at h8.blk (fun x => ?_), h8.own, ?_, fun g x y => ?_, ownsRow_keep h8.row kg (fun g x y => n3 g x y), ho⟩
  · have := h.apart _ _ _ h.mem.1 (h.mem.2.2.2 _ x); omega
  · rcases p5 with x | ⟨g, x, _, _, y⟩
    · exact .inl x
    · exact .inr ⟨g, x, y⟩
  · rcases hpp with e | e
    · exact n3 g x (e ▸ y)
    · rw [e] at y; injection y with y
      have := (h8.row.lt g x).2; omega
theorem A15.put {w5 : World} {v5 : Value} {sp : Nat} (h : A15 A w2 w5 b dps sps dv sv cv v3 v5 q p sp L) (hA : LgIn A w2 b dps sps dv sv cv q n L) :
    Keep (fun g => g = b ∨ dv.ownBlock = some g ∨ sv.ownBlock = some g) w2 ((w5.setCell ⟨b, 0, none⟩ v3).setCell ⟨b, 1, none⟩ v5) ∧ ((w5.setCell ⟨b, 0, none⟩ v3).setCell ⟨b, 1, none⟩ v5).heap[b]? = some (LgB v3 v5 L.ep cv q) ∧
    ((w5.setCell ⟨b, 0, none⟩ v3).setCell ⟨b, 1, none⟩ v5).ownsRow 0 27 1 v3 (dps.length + 1) (dps.map ptrV ++ [ptrV p]) ∧ ((w5.setCell ⟨b, 0, none⟩ v3).setCell ⟨b, 1, none⟩ v5).ownsRow 0 171 1 v5 (sps.length + 1) (sps.map ptrV ++ [ptrV sp]) := by
  have kb : Keep (One b) w5 ((w5.setCell ⟨b, 0, none⟩ v3).setCell ⟨b, 1, none⟩ v5) := ((Keep.refl _ _).setOne _ _).setOne _ _
  have hbl := (hA.low _ _ hA.mem.1).2
  refine ⟨h.keep.trans kb (fun g _ x => .inr x) (fun g _ x => .inl x), lg_set1 (lg_set0 h.blk v3) v5, ownsRow_keep h.row3 kb (fun g x y => ?_), ownsRow_keep h.row5 kb (fun g x y => ?_)⟩
  · have y' : g = b := y
    rcases h.own3 with e | ⟨g', e1, e2⟩
    · rw [e] at x; have := hA.apart _ _ _ (hA.mem.2.2.1 _ x) (y' ▸ hA.mem.1); omega
    · rw [e2] at x; injection x with x; omega
  · have y' : g = b := y
    rcases h.own5 with e | ⟨g', e1, e2⟩
    · rw [e] at x; have := hA.apart _ _ _ (hA.mem.2.2.2 _ x) (y' ▸ hA.mem.1); omega
    · rw [e2] at x; injection x with x; omega
end
def sh0 (room : Nat) : Sh := ⟨dk0 room, 0, 0, .map [], 0⟩
def sh1 (room : Nat) : Sh := (sh0 room).did (actBy 1 1 0 []) 1 0 (.map [])
theorem sh0_ok : (sh0 16777216).ok := ⟨⟨rfl, by decide⟩, ⟨by decide, by decide, by decide, by decide, ⟨[], rfl⟩⟩, rfl, by decide⟩
theorem add_close {A : Nat → Nat → Prop} {F FU : Nat → Prop} {w w2 w5 : World} {b : Nat} {dps sps : List Nat} {dv sv cv v3 v5 : Value} {q n p sp : Nat} {L : Lg} (h : LgIn A w b dps sps dv sv cv q n L) (hF : ∀ i g, A i g → F g) (hl : L.shs.length < 2) (hlay : Lay w)
    (k2 : Keep Non w w2) (hFU : ∀ g, FU g → w.heap.size ≤ g) (hsh : ShAt FU w2 sp p (sh0 16777216)) (a15 : A15 A w2 w5 b dps sps dv sv cv v3 v5 q p sp L) :
    Calls Tryz.prog 104 #[.pointer (some ⟨sp, 0, none⟩), .agg #[.int .i64 1, .int .i64 1, .int .i64 0, .slice none 0 0]] ((w5.setCell ⟨b, 0, none⟩ v3).setCell ⟨b, 1, none⟩ v5) fun r w' => (∃ n : Int, r = .returned (.tuple #[.int .i64 n, .nilIface])) ∧ LgTo F w b n { L with shs := L.shs ++ [sh1 16777216] } w' := by
  have h2 := h.keep k2 (fun _ _ _ e => e)
  have h10 : 10 ≤ w.heap.size := by have := h.low 0 b h.mem.1; omega
  obtain ⟨kW, bW, o3, o5⟩ := a15.put h2
  obtain ⟨hN, hNF⟩ := LgIn.add (F := F) (w := w) h2 hF (fun i g x => (h.low i g x).2) k2.size h10 hsh hFU hl kW bW o3 o5 a15.own3 a15.own5 a15.ne
  have hs : (L.shs ++ [sh0 16777216])[L.shs.length]? = some (sh0 16777216) := by simp
  have hp : (sps ++ [sp])[L.shs.length]? = some sp := by rw [← h.len.2]; simp
  have hd : (dps ++ [p])[L.shs.length]? = some p := by rw [← h.len.1]; simp
  have kall : Keep F w ((w5.setCell ⟨b, 0, none⟩ v3).setCell ⟨b, 1, none⟩ v5) := k2.ofNon.trans kW (fun _ _ x => x) (fun g hg x => by
    rcases x with rfl | x | x
    · exact hF _ _ h.mem.1
    · exact hF _ _ (h.mem.2.2.1 _ x)
    · exact hF _ _ (h.mem.2.2.2 _ x))
  have hmem5 := hN.sh L.shs.length _ sp p hs hp hd
  have lay2 : Lay ((w5.setCell ⟨b, 0, none⟩ v3).setCell ⟨b, 1, none⟩ v5) := (hlay.keepNon k2).keep kW (fun g hg x => by
    rcases x with rfl | x | x
    · have := (h.low _ _ h.mem.1).1; omega
    · have := (h.low _ _ (h.mem.2.2.1 _ x)).1; omega
    · have := (h.low _ _ (h.mem.2.2.2 _ x)).1; omega)
  have AC := acts_seal sh0_ok (by decide) 1 (by decide) (by decide) _ _ sp p trivial lay2 (fun g x => (hN.low _ g x).1) hmem5
  refine AC.mono ?_
  rintro r w' ⟨e, t⟩
  refine ⟨e, ?_⟩
  have T := hN.unitTo (F := fun g => F g ∨ w.heap.size ≤ g) hNF hs hp hd t
  have e2 : (L.shs ++ [sh0 16777216]).set L.shs.length (sh1 16777216) = L.shs ++ [sh1 16777216] := by simp
  obtain ⟨k', F', s', t'⟩ := T
  refine ⟨kall.trans k' (fun _ _ x => x) (fun g hg x => x.resolve_right (by omega)), F', fun g x => ?_, ?_⟩
  · rcases s' g x with (y | y) | y
    · exact .inl y
    · exact .inr y
    · exact .inr (Nat.le_trans (Nat.le_trans k2.size kW.size) y)
  · have e3 : (sh0 16777216).did (actBy 1 1 0 []) 1 (sh0 16777216).l (sh0 16777216).D = sh1 16777216 := rfl
    simp only at t'
    rw [e3] at t'
    rw [e2] at t'
    exact t'
theorem lgProj_ok {F : Nat → Prop} {b n : Nat} {L : Lg} (w : World) (h : LgAt F w b n L) (h1 : 1 ≤ n) :
    Calls Tryz.prog 79 #[.pointer (some ⟨b, 0, none⟩)] w fun r w' => ∃ cv', r = .returned (.agg #[.int .i64 L.ep, cv']) ∧ Keep Non w w' ∧ PrAt (fun g => w.heap.size ≤ g ∧ g < w'.heap.size) w' cv' n := by
  obtain ⟨A, dps, sps, dv, sv, cv, q, h, hF⟩ := h
  have kA : Keep Non w (w.alloc (PrB 0 (.slice none 0 0))) := (Keep.refl _ _).alloc _
  have hA := h.keep kA (fun _ _ _ e => e)
  have CP := Lib.hid (pcopy_ok (A 4) L.ep n cv _ hA.proj h1 h.small.1)
  have c2 := lg_2 hA.blk
  have c3 := lg_3 hA.blk
  have RB := Lib.hid (blk_new w (PrB 0 (.slice none 0 0)))
  have KA := Lib.hid kA
  obtain ⟨g0, vs0, c0, rfl, _⟩ := id h.proj
  clear h hA kA
  dsimp only [PrB] at c2 c3 CP
  rw [show ((0 : Nat) : Int) = 0 from rfl] at c2 c3 CP
  go_enter Tryz.func79, Tryz.ntmps79
  go_wp2_with (go_at_call 54; refine CP.out.mono ?_; rintro r w3 ⟨cv', rfl, k3, p3⟩; obtain ⟨g3, vs3, c3', rfl, _⟩ := id p3; have rb3 := k3.at RB.out (fun e => e); have r0 := pr_0 rb3; have r1 := pr_1 rb3; have r0f := pr_f rb3 0; have r1f := pr_f rb3 1; have q0 := pr_0 (pr_set1 (pr_set0 rb3 L.ep) (.slice (some ⟨g3, 0, none⟩) n c3')); have q1 := pr_1 (pr_set1 (pr_set0 rb3 L.ep) (.slice (some ⟨g3, 0, none⟩) n c3')); have K3 := Lib.hid k3; have P3 := Lib.hid p3; clear k3 p3 rb3)
  refine bodyPost_ret (v := .agg #[.int .i64 L.ep, .slice (some ⟨g3, 0, none⟩) n c3']) (by simp [results, Tryz.results79, go_sem, q0, q1]) rfl ?_
  have k5 : Keep (One w.heap.size) w3 ((w3.setCell ⟨w.heap.size, 0, none⟩ (.int .i64 L.ep)).setCell ⟨w.heap.size, 1, none⟩ (.slice (some ⟨g3, 0, none⟩) n c3')) := ((Keep.refl _ _).setOne _ _).setOne _ _
  have hP := P3.out.keep k5 (fun g x e => by have e' : g = w.heap.size := e; have := x.1; simp at this; omega)
  obtain ⟨g, vs, c, e1, e2, e3, e4, e5, e6⟩ := hP
  have ks := k5.size
  exact ⟨_, rfl, setNew (setNew (KA.out.trans1 K3.out) _ _ _ (Nat.le_refl _)) _ _ _ (Nat.le_refl _), g, vs, c, e1, e2, e3, e4, ⟨by have := e5.1; simp at this; omega, by omega⟩, fun v hv k e => ⟨by have := (e6 v hv k e).1; simp at this; omega, by have := (e6 v hv k e).2; omega⟩⟩
theorem low_ok {F : Nat → Prop} {b n : Nat} {L : Lg} (w : World) (h : LgAt F w b n L) (h1 : 1 ≤ n) (h2 : n ≤ 2) (hl : L.shs.length = n) (h0 : ∀ s ∈ L.shs, s.l = 0) :
    Calls Tryz.prog 30 #[.pointer (some ⟨b, 0, none⟩)] w fun r w' => r = .returned (.int .i64 0) ∧ Keep Non w w' := by
  have PJ := Lib.hid (lgProj_ok w h h1)
  have UN := Lib.hid (fun W e cv (k : Keep Non w W) T (hp : PrAt T W cv n) => punits_ok T e n cv W hp h1 h2)
  have UI : Hid (∀ W u, Keep Non w W → u < n → Calls Tryz.prog 80 #[.pointer (some ⟨b, 0, none⟩), .int .i64 u] W fun r w' => ∃ b' F' e D, r = .returned (.pointer (some ⟨b', 0, none⟩)) ∧ Keep Non W w' ∧ UnAt F' w' b' e 0 D) := Lib.hid (fun W u k hu => by
    have hs : L.shs[u]? = some L.shs[u] := List.getElem?_eq_getElem (by omega)
    refine (lgUnit_ok W (h.keepNon k) hs).mono ?_
    rintro r w' ⟨b', F', e1, e2, e3⟩
    rw [h0 _ (List.getElem_mem _)] at e3
    exact ⟨b', F', _, _, e1, e2, e3⟩)
  clear h h0 hl
  go_enter Tryz.func30, Tryz.ntmps30
  go_wp2_with (first
    | (go_at_call 79; refine PJ.out.mono ?_; rintro r w1 ⟨cv', rfl, k1, p1⟩; obtain ⟨g3, vs3, c3', rfl, _⟩ := id p1; have K1 := Lib.hid k1; have UNW := Lib.hid (UN.out _ L.ep _ k1 _ p1); clear k1 p1)
    | (go_at_call 53; refine UNW.out.mono ?_; rintro r w2 ⟨ug, uc, rfl, k2, hug, u2⟩; have K2 := Lib.hid (K1.out.trans1 k2); have U2 := Lib.hid u2; clear k2 u2))
  go_loopw [3, 10] (fun m i wr => ∃ j : Nat, j ≤ n ∧ i = .int .i64 j ∧ m = .int .i64 (if j = 0 then 1048576 else 0) ∧ Keep Non w2 wr) (fun _ i _ => n - (intOf i).toNat)
  case atStart => exact ⟨0, by omega, rfl, rfl, Keep.refl _ _⟩
  case round =>
    obtain ⟨j, hj, rfl, rfl, hk⟩ := hrel
    have HK := Lib.hid hk
    have u3 := U2.out.keepNon hk
    clear hk
    by_cases hlt : j < n
    · have hlj : (j : Int) < (n : Int) := by omega
      have hcell : wr.cell? ⟨ug, j, none⟩ = some (.int .i64 (j : Int)) := by
        obtain ⟨a', c', e, hx⟩ := u3
        injection e with e1 e2 e3
        obtain ⟨g', off, e4, hc⟩ := hx (by intro e; have e' := List.map_eq_nil_iff.1 e; have e2 := congrArg List.length e'; simp at e2; omega)
        rw [← e1] at e4
        injection e4 with e4
        injection e4 with e4 e5
        subst e4
        subst e5
        have := hc j (iv j) (by rw [List.getElem?_map, List.getElem?_range hlt]; rfl)
        rwa [Nat.zero_add] at this
      have UIW := Lib.hid (UI.out wr j (K2.out.trans1 HK.out) hlt)
      have hmin : ∀ x : Int, x = (if j = 0 then 1048576 else 0) → 0 ≤ x := fun x e => by split at e <;> omega
      generalize hm : (if j = 0 then (1048576 : Int) else 0) = m
      have hm0 := hmin m hm.symm
      clear u3 hmin
      go_wp2_with (first
        | (go_at_call 80; refine UIW.out.mono ?_; rintro r w3 ⟨b', F', e, D, rfl, k3, u3⟩; have K3 := Lib.hid k3; have LW := Lib.hid (unlow_ok F' b' e 0 D w3 u3); clear k3 u3)
        | (go_at_call 81; refine LW.out.mono ?_; rintro r w4 ⟨rfl, rfl⟩))
      refine ⟨⟨j + 1, by omega, by first | rfl | go_num, ?_, HK.out.trans1 K3.out⟩, by simp [intOf]; omega⟩
      rw [if_neg (by omega)]
      first
        | rfl
        | (congr 1; omega)
        | (congr 1; simp; omega)
    · obtain rfl : j = n := by omega
      have e0 : (if j = 0 then (1048576 : Int) else 0) = 0 := if_neg (by omega)
      rw [e0]
      clear u3
      go_wp2_with fail
      go_ret
      exact ⟨rfl, K2.out.trans1 HK.out⟩
def lgS (L : Lg) : Sh := L.shs.headD (sh0 0)
structure Log1 (L : Lg) : Prop where
  shs : L.shs = [lgS L]
  ep : (lgS L).e = L.ep
  se : L.se = L.ep
  up : (lgS L).X.down = false
  next : L.next ≤ 200
  cells : ∀ a, okCl (uat (lgS L).l (lgS L).D a)
def cellL (L : Lg) (a : Nat) : Cl := uat (lgS L).l (lgS L).D a
def slabL (L : Lg) (hi f : Nat) : List Cl := (List.range (min 64 (hi - f))).map (fun j => cellL L (f + j))
theorem slab_len (L : Lg) (hi f : Nat) : (slabL L hi f).length = min 64 (hi - f) := by simp [slabL]
theorem slab_get {L : Lg} {hi f j : Nat} (h : j < min 64 (hi - f)) : (slabL L hi f)[j]? = some (cellL L (f + j)) := by
  unfold slabL
  rw [List.getElem?_map, List.getElem?_range h]
  rfl
theorem slab_ok {L : Lg} (h : Log1 L) {hi f : Nat} : ∀ x ∈ slabL L hi f, okCl x := by
  intro x hx
  unfold slabL at hx
  obtain ⟨j, _, rfl⟩ := List.mem_map.1 hx
  exact h.cells _
theorem slab_ne {L : Lg} {hi f : Nat} (h : f < hi) : slabL L hi f ≠ [] := by
  intro e
  have := slab_len L hi f
  rw [e] at this
  simp at this
  omega
def trimC : Nat → Nat → List Cl → Nat
  | t, _, [] => t
  | t, f, x :: r => trimC (if x.1 = 3 then max t (f + 1) else t) (f + 1) r
theorem trimC_le : ∀ (l : List Cl) (t f m : Nat), t ≤ m → f + l.length ≤ m → trimC t f l ≤ m
  | [], t, f, m, h, _ => h
  | x :: r, t, f, m, h, h2 => by
    simp at h2
    refine trimC_le r _ (f + 1) m ?_ (by omega)
    split
    · omega
    · exact h
theorem trimC_none : ∀ (l : List Cl) (t f : Nat), (∀ x ∈ l, x.1 ≠ 3) → trimC t f l = t
  | [], t, f, _ => rfl
  | x :: r, t, f, h => by
    show trimC _ (f + 1) r = t
    rw [if_neg (h x (by simp))]
    exact trimC_none r t (f + 1) (fun y hy => h y (by simp [hy]))
def partCu (L : Lg) (c : Cu) : Cu := ⟨c.lo, c.next + (slabL L c.hi c.next).length, c.hi, trimC c.trim c.next (slabL L c.hi c.next), c.parts ++ [ptOf c.next (slabL L c.hi c.next)]⟩
theorem partCu_ok {L : Lg} {c : Cu} (h : okCu c) (hl : Log1 L) (hlt : c.next < c.hi) (hm : c.parts.length < 64) : okCu (partCu L c) := by
  have hn := slab_len L c.hi c.next
  have h1 := cuStep_ok (cl := slabL L c.hi c.next) h (slab_ne hlt) (slab_ok hl) (by omega) (by omega) hm
  exact ⟨h1.parts, h1.stop, h1.le, h1.hi, trimC_le _ _ _ _ h.trim (by have := h.hi; omega), h1.many⟩
def cname : Byt := [99, 45, 101, 120, 112, 111, 114, 116]
theorem cname_ok : okObj cname := by
  refine ⟨?_, by decide, by decide⟩
  unfold okName
  decide
def ExB (b lb : Nat) (c : Cu) (pv : Value) (ov : Bool) : Obj := .cells #[.pointer (some ⟨b, 0, none⟩), .pointer (some ⟨lb, 0, none⟩), .int .i64 c.lo, .int .i64 c.next, .int .i64 c.hi, .int .i64 c.trim, pv, .bool ov] 93 (0, 0)
section
variable {w : World} {x b lb : Nat} {c : Cu} {pv : Value} {ov : Bool}
theorem ex_0 (h : w.heap[x]? = some (ExB b lb c pv ov)) : w.cell? ⟨x, 0, none⟩ = some (.pointer (some ⟨b, 0, none⟩)) := by simp [World.cell?, h, ExB]
theorem ex_1 (h : w.heap[x]? = some (ExB b lb c pv ov)) : w.cell? ⟨x, 1, none⟩ = some (.pointer (some ⟨lb, 0, none⟩)) := by simp [World.cell?, h, ExB]
theorem ex_2 (h : w.heap[x]? = some (ExB b lb c pv ov)) : w.cell? ⟨x, 2, none⟩ = some (.int .i64 c.lo) := by simp [World.cell?, h, ExB]
theorem ex_3 (h : w.heap[x]? = some (ExB b lb c pv ov)) : w.cell? ⟨x, 3, none⟩ = some (.int .i64 c.next) := by simp [World.cell?, h, ExB]
theorem ex_4 (h : w.heap[x]? = some (ExB b lb c pv ov)) : w.cell? ⟨x, 4, none⟩ = some (.int .i64 c.hi) := by simp [World.cell?, h, ExB]
theorem ex_5 (h : w.heap[x]? = some (ExB b lb c pv ov)) : w.cell? ⟨x, 5, none⟩ = some (.int .i64 c.trim) := by simp [World.cell?, h, ExB]
theorem ex_6 (h : w.heap[x]? = some (ExB b lb c pv ov)) : w.cell? ⟨x, 6, none⟩ = some pv := by simp [World.cell?, h, ExB]
theorem ex_7 (h : w.heap[x]? = some (ExB b lb c pv ov)) : w.cell? ⟨x, 7, none⟩ = some (.bool ov) := by simp [World.cell?, h, ExB]
theorem ex_f (h : w.heap[x]? = some (ExB b lb c pv ov)) (i : Nat) : w.frozen? ⟨x, i, none⟩ = false := by simp [World.frozen?, h, ExB]
theorem ex_set2 (h : w.heap[x]? = some (ExB b lb c pv ov)) (n : Nat) : (w.setCell ⟨x, 2, none⟩ (.int .i64 n)).heap[x]? = some (ExB b lb { c with lo := n } pv ov) := blk_set h 2 _
theorem ex_set3 (h : w.heap[x]? = some (ExB b lb c pv ov)) (n : Nat) : (w.setCell ⟨x, 3, none⟩ (.int .i64 n)).heap[x]? = some (ExB b lb { c with next := n } pv ov) := blk_set h 3 _
theorem ex_set4 (h : w.heap[x]? = some (ExB b lb c pv ov)) (n : Nat) : (w.setCell ⟨x, 4, none⟩ (.int .i64 n)).heap[x]? = some (ExB b lb { c with hi := n } pv ov) := blk_set h 4 _
theorem ex_set5 (h : w.heap[x]? = some (ExB b lb c pv ov)) (n : Nat) : (w.setCell ⟨x, 5, none⟩ (.int .i64 n)).heap[x]? = some (ExB b lb { c with trim := n } pv ov) := blk_set h 5 _
theorem ex_set6 (h : w.heap[x]? = some (ExB b lb c pv ov)) (v : Value) : (w.setCell ⟨x, 6, none⟩ v).heap[x]? = some (ExB b lb c v ov) := blk_set h 6 _
theorem ex_set7 (h : w.heap[x]? = some (ExB b lb c pv ov)) (k : Bool) : (w.setCell ⟨x, 7, none⟩ (.bool k)).heap[x]? = some (ExB b lb c pv k) := blk_set h 7 _
end
structure ExSt (F FL : Nat → Prop) (w : World) (x b lb q p : Nat) (lv : Value) (c : Cu) (pv : Value) (ov : Bool) (X : Dk) (L : Lg) : Prop where
  ex : w.heap[x]? = some (ExB b lb c pv ov)
  row : w.ownsRow 0 101 35 pv c.parts.length (ptsC c.parts)
  vt : w.heap[b]? = some (VtB q lv)
  st : StoreAt F w q p X
  lg : LgAt FL w lb 1 L
  lay : Lay w
  out : ¬ F x ∧ ¬ F b ∧ x ≠ b ∧ ¬ FL x ∧ ¬ FL b ∧ 10 ≤ x ∧ 10 ≤ b
  apart : ∀ g, F g → ¬ FL g
  low : ∀ g, F g → 10 ≤ g ∧ g < w.heap.size
  lowL : ∀ g, FL g → g < w.heap.size
  pvo : ∀ g, pv.ownBlock = some g → ¬ F g ∧ g ≠ x ∧ g ≠ b ∧ ¬ FL g
theorem ExSt.keep {F FL S : Nat → Prop} {w w' : World} {x b lb q p : Nat} {lv pv : Value} {c : Cu} {ov : Bool} {X : Dk} {L : Lg} (h : ExSt F FL w x b lb q p lv c pv ov X L) (k : Keep S w w') (hn : ∀ g, g < w.heap.size → ¬ S g) : ExSt F FL w' x b lb q p lv c pv ov X L := by
  have k' : Keep Non w w' := k.mono (fun g hg e => hn g hg e)
  exact ⟨nonAt k' h.ex, ownsRow_keep h.row k' (fun _ _ e => e), nonAt k' h.vt, h.st.keep k' (fun _ _ e => e), h.lg.keepNon k', h.lay.keepNon k', h.out, h.apart, fun g x => ⟨(h.low g x).1, Nat.lt_of_lt_of_le (h.low g x).2 k'.size⟩, fun g x => Nat.lt_of_lt_of_le (h.lowL g x) k'.size, h.pvo⟩
theorem ExSt.turn {F FL F' : Nat → Prop} {w w' : World} {x b lb q p : Nat} {lv pv pv' : Value} {c c' : Cu} {ov ov' : Bool} {X X' : Dk} {L : Lg} (h : ExSt F FL w x b lb q p lv c pv ov X L) (k : Keep (fun g => F g ∨ g = x) w w') (sub : Sub F' F w) (hlow : ∀ g, F' g → g < w'.heap.size) (st : StoreAt F' w' q p X') (ex : w'.heap[x]? = some (ExB b lb c' pv' ov'))
    (row : w'.ownsRow 0 101 35 pv' c'.parts.length (ptsC c'.parts)) (hpv : ∀ g, pv'.ownBlock = some g → ¬ F' g ∧ g ≠ x ∧ g ≠ b ∧ ¬ FL g) : ExSt F' FL w' x b lb q p lv c' pv' ov' X' L := by
  have hb : b < w.heap.size := lt_of_block h.vt
  have hx : x < w.heap.size := lt_of_block h.ex
  refine ⟨ex, row, k.at h.vt (fun e => ?_), st, h.lg.keep k (fun g e s => ?_), h.lay.keep k (fun g e s => ?_), ⟨fun e => ?_, fun e => ?_, h.out.2.2.1, h.out.2.2.2.1, h.out.2.2.2.2.1, h.out.2.2.2.2.2.1, h.out.2.2.2.2.2.2⟩, fun g e e2 => ?_, fun g e => ⟨?_, hlow g e⟩, fun g e => Nat.lt_of_lt_of_le (h.lowL g e) k.size, hpv⟩
  · rcases e with e | e
    · exact h.out.2.1 e
    · exact h.out.2.2.1 e.symm
  · rcases s with s | s
    · exact h.apart g s e
    · subst s; exact h.out.2.2.2.1 e
  · rcases s with s | s
    · have := (h.low g s).1; omega
    · have := h.out.2.2.2.2.2.1; omega
  · rcases sub x e with y | y
    · exact h.out.1 y
    · omega
  · rcases sub b e with y | y
    · exact h.out.2.1 y
    · omega
  · rcases sub g e with y | y
    · exact h.apart g y e2
    · have := h.lowL g e2; omega
  · rcases sub g e with y | y
    · exact (h.low g y).1
    · have := (lt_of_block h.st.blk); have := (h.low q h.st.inF).1; omega
def SgZ : Obj := .cells #[.int .i64 0, .slice none 0 0] 225 (0, 0)
structure RdLp (W0 : World) (sb f : Nat) (cl : List Cl) (j : Nat) (ov : Value) (W : World) : Prop where
  bx : W.heap[sb]? = some (SgB f ov)
  row : ∃ xs, W.ownsRow W0.heap.size 55 2 ov j xs ∧ CellsOf W0.heap.size (fun g => g = sb ∨ ov.ownBlock = some g) W xs (cl.take j)
  kp : Keep (One sb) W0 W
theorem read_next {W0 wr w2 w5 : World} {sb f j n oc c2 : Nat} {oa a2 : Option Addr} {cl : List Cl} {x : Cl} {v5 : Value} {xs : List Value} {o1 o2 : Obj} (hb : wr.heap[sb]? = some (SgB f (.slice oa j oc))) (hrow : wr.ownsRow W0.heap.size 55 2 (.slice oa j oc) j xs) (hcs : CellsOf W0.heap.size (fun g => g = sb ∨ (Value.slice oa j oc).ownBlock = some g) wr xs (cl.take j)) (kp : Keep (One sb) W0 wr) (hsb : sb < W0.heap.size) (hx : cl[j]? = some x)
    (k2 : Keep Non wr w2) (r2 : w2.ownsRow wr.heap.size 5 1 (.slice a2 n c2) x.2.length (x.2.map bv)) (ho : w5.ownsRow W0.heap.size 55 2 v5 (j + 1) (xs ++ [.int .i64 x.1, .slice a2 n c2])) (hg : ((w2.alloc o1).alloc o2).grownBy w5 (Value.slice oa j oc).ownBlock) (hpp : v5.ownBlock = (Value.slice oa j oc).ownBlock ∨ v5.ownBlock = some ((w2.alloc o1).alloc o2).heap.size) :
    RdLp W0 sb f cl (j + 1) v5 (w5.setCell ⟨sb, 1, none⟩ v5) ∧ w5.heap[sb]? = some (SgB f (.slice oa j oc)) := by
  have ka : Keep Non w2 ((w2.alloc o1).alloc o2) := ((Keep.refl _ _).alloc _).alloc _
  have kg : Keep (fun g => (Value.slice oa j oc).ownBlock = some g) ((w2.alloc o1).alloc o2) w5 := (Keep.refl _ _).grown hg (fun k e => .inl e)
  have kb : Keep (One sb) w5 (w5.setCell ⟨sb, 1, none⟩ v5) := (Keep.refl _ _).setOne _ _
  have k4 := k2.trans1 ka
  have lo : ∀ g, (Value.slice oa j oc).ownBlock = some g → W0.heap.size ≤ g ∧ g < wr.heap.size := fun g e => hrow.lt g e
  have s0 := kp.size
  have s2 := k2.size
  have s4 := k4.size
  have sa : ((w2.alloc o1).alloc o2).heap.size = w2.heap.size + 2 := by simp
  have b5 : w5.heap[sb]? = some (SgB f (.slice oa j oc)) := kg.at (nonAt k4 hb) (fun e => by have := (lo sb e).1; omega)
  have vlo : ∀ g, v5.ownBlock = some g → W0.heap.size ≤ g := fun g e => (ho.lt g e).1
  refine ⟨⟨sg_set1 b5 v5, ⟨_, ownsRow_keep ho kb (fun g e e2 => by have e' : g = sb := e2; have := vlo g e; omega), ?_⟩, (kp.trans1 k4.ofNon).trans (kg.trans kb (U := fun g => (Value.slice oa j oc).ownBlock = some g ∨ g = sb) (fun _ _ x => .inl x) (fun _ _ x => .inr x)) (fun _ _ x => x) (fun g hg' x => by
    rcases x with x | x
    · have := (lo g x).1; omega
    · exact x)⟩, b5⟩
  have et : cl.take (j + 1) = cl.take j ++ [x] := by rw [List.take_add_one, hx]; rfl
  rw [et]
  refine CellsOf.keep (S := fun g => g = sb ∨ v5.ownBlock = some g) ?_ kb (fun g _ e => .inl e) (fun g _ e => e)
  refine CellsOf.append ?_ ?_
  · refine ((hcs.keep (S' := fun g => g = sb ∨ (Value.slice oa j oc).ownBlock = some g) k4 (fun _ _ e => e.elim) (fun _ _ e => e)).keep kg (fun g _ e => .inr e) ?_)
    rintro g hg' (e | e)
    · exact .inl e
    · rcases hpp with e3 | e3
      · exact .inr (by rw [← e3, e])
      · rw [e3] at e; injection e with e; omega
  · refine ⟨rfl, fun i y hy => ?_⟩
    cases i with
    | succ i => simp at hy
    | zero =>
      simp at hy
      subst hy
      have own2 : ∀ g, (Value.slice a2 n c2).ownBlock = some g → wr.heap.size ≤ g ∧ g < w2.heap.size := fun g e => r2.lt g e
      have nk : ∀ g, (Value.slice a2 n c2).ownBlock = some g → ¬ ((Value.slice oa j oc).ownBlock = some g) := fun g e e2 => by have := own2 g e; have := lo g e2; omega
      refine ⟨.slice a2 n c2, rfl, rfl, ((Rd.ofOwns r2).keepNon ka).keep kg (fun g e => nk g e), okc_own r2, fun g e => ?_⟩
      have h1 := own2 g e
      have h5 : g < w5.heap.size := kg.lt (ka.lt h1.2)
      refine ⟨by omega, h5, ?_⟩
      rintro (e2 | e2)
      · omega
      · rcases hpp with e3 | e3
        · rw [e3] at e2; exact nk g e e2
        · rw [e3] at e2; injection e2 with e2; omega
theorem two_cells {w : World} {g : Nat} {k : Int} {v : Value} {t : TypeId} (h : w.heap[g]? = some (.cells #[.int .i64 k, v] t (0, 0))) : ∀ (j : Nat) u, [Value.int .i64 k, v][j]? = some u → w.cell? ((⟨g, 0, none⟩ : Addr).add j) = some u := by
  intro j u hu
  rw [add_off, Nat.zero_add]
  simp only [World.cell?, h]
  simpa using hu
theorem xread_ok {FL : Nat → Prop} {x b lb : Nat} {c : Cu} {pv : Value} {ov : Bool} {L : Lg} (w : World) (hx : w.heap[x]? = some (ExB b lb c pv ov)) (hl : LgAt FL w lb 1 L) (h1 : Log1 L) (hlt : c.next < c.hi) (hhi : c.hi ≤ 1048576) :
    Calls Tryz.prog 143 #[.pointer (some ⟨x, 0, none⟩)] w fun e w' => ∃ v', e = .returned (.tuple #[.agg #[.int .i64 c.next, v'], .nilIface]) ∧ Keep Non w w' ∧ ∃ xs, w'.ownsRow w.heap.size 55 2 v' (slabL L c.hi c.next).length xs ∧ CellsOf w.heap.size Non w' xs (slabL L c.hi c.next) := by
  have RD : Hid (∀ W (a : Nat), Keep Non w W → a ≤ 1048575 → Calls Tryz.prog 20 #[.pointer (some ⟨lb, 0, none⟩), .int .i64 a] W fun r w' => ∃ v, r = .returned (.tuple #[.agg #[.int .i64 (cellL L a).1, v], .nilIface]) ∧ Keep Non W w' ∧ w'.ownsRow W.heap.size 5 1 v (cellL L a).2.length ((cellL L a).2.map bv)) := Lib.hid (fun W a k ha => by
    have hs : L.shs[a % 1]? = some (lgS L) := by rw [Nat.mod_one, h1.shs]; rfl
    exact lgRead_ok W (hl.keepNon k) (by omega) hs h1.ep h1.up ha (by have := (h1.cells a).2.2.1; unfold cellL at *; omega))
  have XB : Hid (∀ W, Keep Non w W → W.heap[x]? = some (ExB b lb c pv ov)) := Lib.hid (fun W k => nonAt k hx)
  have hn := slab_len L c.hi c.next
  have hwb : x < w.heap.size := lt_of_block hx
  generalize hcl : slabL L c.hi c.next = cl at hn ⊢
  have GT : Hid (∀ j, j < cl.length → cl[j]? = some (cellL L (c.next + j))) := Lib.hid (fun j hj => by rw [← hcl]; exact slab_get (by omega))
  obtain ⟨i0, hi0, hz0, hz1, hz2⟩ := info_parts infoCell
  have I0 := Lib.hid (And.intro hi0 (And.intro hz0 (And.intro hz1 hz2)))
  have K2 : Hid (Keep Non w (w.alloc SgZ)) := Lib.hid ((Keep.refl _ _).alloc _)
  have e1 := ex_0 (XB.out _ K2.out)
  have e3 := ex_3 (XB.out _ K2.out)
  have K3 : Hid (Keep Non w ((w.alloc SgZ).alloc (SgB c.next (.slice none 0 0)))) := Lib.hid (((Keep.refl _ _).alloc _).alloc _)
  have e3' := ex_3 (XB.out _ K3.out)
  have S3 := Lib.hid (alloc2_at w SgZ (SgB c.next (.slice none 0 0)))
  have R3 := Lib.hid (nonAt ((Keep.refl Non _).alloc (SgB c.next (.slice none 0 0))) (blk_new w SgZ))
  have Z3 : Hid (((w.alloc SgZ).alloc (SgB c.next (.slice none 0 0))).heap.size = w.heap.size + 2) := Lib.hid (by simp)
  dsimp only [SgB, SgZ] at e1 e3 e3'
  clear hx hl h1 hi0 hz0 hz1 hz2 hcl
  go_enter Tryz.func143, Tryz.ntmps143
  go_wp2_with fail
  clear e1 e3 e3'
  obtain ⟨W0, hW0⟩ : ∃ W0, W0 = (w.alloc SgZ).alloc (SgB c.next (.slice none 0 0)) := ⟨_, rfl⟩
  rw [← hW0] at K3 S3 R3 Z3
  unfold SgZ SgB at hW0
  rw [← hW0]
  clear hW0
  go_loopw [5] (fun i wr => ∃ j : Nat, j ≤ cl.length ∧ i = .int .i64 (c.next + j : Nat) ∧ ∃ ov, RdLp W0 (w.heap.size + 1) c.next cl j ov wr) (fun i _ => c.next + cl.length - (intOf i).toNat)
  case atStart => exact ⟨0, by omega, rfl, _, S3.out, ⟨[], World.ownsRow_nil _ _ _ _, by simpa using CellsOf.nil _ _ _⟩, Keep.refl _ _⟩
  case round =>
    obtain ⟨j, hj, rfl, ov, lp⟩ := hrel
    obtain ⟨bx, ⟨xs, row, cs⟩, kp⟩ := lp
    obtain ⟨oa, oc, rfl, _, _⟩ := ownsRow_form row
    have kw : Keep Non w wr := K3.out.trans kp (fun _ _ e => e) (fun g hg e => by have e' : g = w.heap.size + 1 := e; omega)
    have x1 := ex_1 (XB.out _ kw)
    have x3 := ex_3 (XB.out _ kw)
    have x4 := ex_4 (XB.out _ kw)
    have KW := Lib.hid kw
    have BX := Lib.hid bx
    have ROW := Lib.hid row
    have CS := Lib.hid cs
    have KP := Lib.hid kp
    clear kw bx row cs kp
    have hwr : IntKind.wrap .i64 ((c.next : Int) + 64) = (c.next : Int) + 64 := IntWalk.i64_in _ (by omega)
    have kd : Keep Non wr wr.drew := (Keep.refl _ _).drew
    have BD : Hid (wr.drew.heap[w.heap.size + 1]? = some (SgB c.next (.slice oa j oc))) := Lib.hid BX.out
    have RWD : Hid (wr.drew.ownsRow W0.heap.size 55 2 (.slice oa j oc) j xs) := Lib.hid (ownsRow_keep ROW.out kd (fun _ _ e => e))
    have CSD : Hid (CellsOf W0.heap.size (fun g => g = w.heap.size + 1 ∨ (Value.slice oa j oc).ownBlock = some g) wr.drew xs (cl.take j)) := Lib.hid (CS.out.keep kd (fun _ _ e => e.elim) (fun _ _ e => e))
    have KPD : Hid (Keep (One (w.heap.size + 1)) W0 wr.drew) := Lib.hid KP.out.drew
    have KWD : Hid (Keep Non w wr.drew) := Lib.hid KW.out.drew
    have y1 := ex_1 (XB.out _ KWD.out)
    clear kd
    by_cases hlt2 : j < cl.length
    · have hj2 : (c.next : Int) + j < c.hi := by omega
      have hj3 : (c.next : Int) + j < min ((c.next : Int) + 64) c.hi := by omega
      have RDJ := Lib.hid (RD.out wr.drew (c.next + j) KWD.out (by omega))
      have hcj := Lib.hid (GT.out j hlt2)
      generalize cellL L (c.next + j) = y at RDJ hcj
      rw [Int.natCast_add] at RDJ
      go_wp2_with fail
      go_region_law (fail)
      all_goals
        obtain ⟨wd, hwd⟩ : ∃ wd, wd = wr.drew := ⟨_, rfl⟩
        rw [← hwd] at BD RWD CSD KPD KWD y1 RDJ ⊢
        clear hwd x1 x3 x4 BX ROW CS KP KW
        go_wp2_with (first
          | (go_at_call 20; ((with_reducible refine RDJ.out.mono ?_); rintro e w2 ⟨v2, rfl, k2, o2⟩); obtain ⟨a2, c2, rfl, _, _⟩ := ownsRow_form o2; have b4 := nonAt (((Keep.refl Non w2).alloc (.cells #[.int .i64 y.1, .slice a2 y.2.length c2] 55)).alloc (.cells #[.int .i64 y.1, .slice a2 y.2.length c2] 55)) (nonAt k2 BD.out); have b3 := nonAt ((Keep.refl Non w2).alloc (.cells #[.int .i64 y.1, .slice a2 y.2.length c2] 55)) (nonAt k2 BD.out); have d1 := sg_1 b4; have d1' := sg_1 b3; have K2 := Lib.hid k2; have O2 := Lib.hid o2; have N4 := Lib.hid (alloc2_at w2 (.cells #[.int .i64 y.1, .slice a2 y.2.length c2] 55 (0, 0)) (.cells #[.int .i64 y.1, .slice a2 y.2.length c2] 55 (0, 0))); clear k2 o2 b4 b3)
          | (at_builtin; refine wpList_append_prov rfl _ _ 22 rfl W0.heap.size 55 i0 _ 2 32 Tryz.underlying22 I0.out.1 I0.out.2.1 I0.out.2.2.1 I0.out.2.2.2 rfl (by decide) (.slice oa j oc) j xs rfl (ownsRow_keep RWD.out (K2.out.trans1 (((Keep.refl Non w2).alloc _).alloc _)) (fun _ _ e => e)) ⟨w2.heap.size + 1, 0, none⟩ 1 1 [.int .i64 y.1, .slice a2 y.2.length c2] rfl rfl (by exact two_cells N4.out) (by intro u hu; simp at hu; rcases hu with rfl | rfl <;> rfl) (by unfold maxLen; omega) (by omega) (by have := KPD.out.size; have := K2.out.size; simp; omega) ?_; intro v5 w5 ho hg hpp; obtain ⟨a5, c5, rfl, _, _⟩ := ownsRow_form ho; obtain ⟨nx, b5⟩ := read_next BD.out RWD.out CSD.out KPD.out (by have := Z3.out; omega) hcj.out K2.out O2.out ho hg hpp; have f5 := sg_f b5 1; have g5 := sg_1 b5; have NX := Lib.hid nx; clear ho hg hpp nx b5))
      all_goals exact ⟨⟨j + 1, by omega, by first | rfl | go_num | (congr 1; omega), _, NX.out⟩, by simp [intOf]; omega⟩
    · obtain rfl : j = cl.length := by omega
      have hj3 : ¬ (c.next : Int) + (cl.length : Int) < min ((c.next : Int) + 64) c.hi := by omega
      have HN := Lib.hid hn
      clear hn hlt2
      have r3 : wr.drew.heap[w.heap.size]? = some (SgB 0 (.slice none 0 0)) := KPD.out.at R3.out (fun e => by have e' : w.heap.size = w.heap.size + 1 := e; omega)
      have RB := Lib.hid r3
      have rf0 := sg_f r3 0
      have rf1 := sg_f r3 1
      have rc0 := sg_0 r3
      have rc1 := sg_1 r3
      have rx0 := sg_0 (sg_set0 r3 c.next)
      have d0 := sg_0 BD.out
      have d1 := sg_1 BD.out
      clear r3
      go_wp2_with fail
      go_region_law (fail)
      all_goals
        obtain ⟨wd, hwd⟩ : ∃ wd, wd = wr.drew := ⟨_, rfl⟩
        rw [← hwd] at BD RWD CSD KPD KWD rf0 rf1 rc0 rc1 rx0 d0 d1 RB ⊢
        clear hwd x1 x3 x4 BX ROW CS KP KW
        go_wp2_with fail
      all_goals
        have s0 := sg_0 (sg_set1 (sg_set0 RB.out c.next) (.slice oa cl.length oc))
        have s1 := sg_1 (sg_set1 (sg_set0 RB.out c.next) (.slice oa cl.length oc))
        refine bodyPost_ret (v := .tuple #[.agg #[.int .i64 c.next, .slice oa cl.length oc], .nilIface]) (by simp [results, Tryz.results143, go_sem, s0, s1]) rfl ?_
        have kf : Keep (One w.heap.size) wd ((wd.setCell ⟨w.heap.size, 0, none⟩ (.int .i64 c.next)).setCell ⟨w.heap.size, 1, none⟩ (.slice oa cl.length oc)) := ((Keep.refl _ _).setOne _ _).setOne _ _
        have z3 := Z3.out
        have cs := CSD.out
        rw [List.take_length] at cs
        refine ⟨_, rfl, KWD.out.trans kf (fun _ _ e => e) (fun g hg e => by have e' : g = w.heap.size := e; omega), xs, ownsRow_low (ownsRow_keep RWD.out kf (fun g e e2 => by have e' : g = w.heap.size := e2; have := (RWD.out.lt g e).1; omega)) (by omega), (cs.keep (S' := Non) kf (fun g hg e => by have e' : g = w.heap.size := e; omega) (fun _ _ e => e.elim)).low (by omega) (fun _ e => e)⟩
end Go.Proofs.YtobjlgfjfpmceaaGreatDoor
