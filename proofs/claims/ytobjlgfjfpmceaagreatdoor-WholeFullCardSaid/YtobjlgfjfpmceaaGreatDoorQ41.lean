/- (*Restore).save in the world at hand; (*Restore).item over its callees: walked. · slog: Trim, Able, later: walked. · slog.Cut: walked. · Restoring's l -/
import Derived.Test.YtobjlgfjfpmceaaGreatDoorQ40
set_option linter.unusedVariables false
set_option maxRecDepth 100000
set_option maxHeartbeats 16000000
namespace Go.Proofs.YtobjlgfjfpmceaaGreatDoor
open Go.RowKit Go.Maps
def cuAt (u N M : Nat) : Cu := ⟨u, u, N, M, []⟩
theorem rsave_st (F : Nat → Prop) (x b lb q p N B M t u : Nat) (ia : Option Addr) (il ic : Nat) (X Z : Dk) (w : World) (hx : w.heap[x]? = some (RsB b lb q N B M (.slice ia il ic) t false)) (hxF : ¬ F x)
    (d : StoreAt F w q p X) (hF : ∀ g, F g → g < w.heap.size) (hlim : X.lim 2 2 20000) (okc : okCu (cuAt u N M)) (hsv : X.sput rname (cuBy (cuAt u N M)) = (0, Z)) :
    Calls Tryz.prog 92 #[.pointer (some ⟨x, 0, none⟩), .int .i64 u] w fun e w' => e = .returned .nilIface ∧ ∃ F', Keep (fun g => F g ∨ g = x) w w' ∧ Sub F' F w ∧ (∀ g, F' g → g < w'.heap.size ∧ g ≠ x) ∧ StoreAt F' w' q p Z ∧ w'.heap[x]? = some (RsB b lb q N B M (.slice ia il ic) u false) := by
  have hxl : x < w.heap.size := by
    rcases Nat.lt_or_ge x w.heap.size with h | h
    · exact h
    · rw [Array.getElem?_eq_none h] at hx; cases hx
  refine (rsave_ok x b lb q N B M t u ia il ic (StoreTo F w q p Z) w hx ?_ ?_).mono ?_
  · rintro w' ⟨kk, _⟩
    exact kk.at hx hxF
  · intro W kW
    have hp : PtsAt W (.slice none 0 0) (cuAt u N M).parts := PtsAt.of (B := 0) (World.ownsRow_nil _ _ _ _) (fun p hp => by cases hp)
    have := cusave_any F q p (cuAt u N M) (.slice none 0 0) rname X _ _ _ W (d.keep kW (fun _ _ e => e)) hlim (by omega) (by omega) (by omega) (fun g y => kW.lt (hF g y)) rname_ok okc hp (by have := cu_len' okc; omega)
    rw [hsv] at this
    refine this.mono ?_
    rintro e w' ⟨rfl, kk, F', s', d'⟩
    refine ⟨rfl, (kW.ofNon.trans kk (fun _ _ y => y) (fun _ _ y => y)), F', fun g y => ?_, d'⟩
    rcases s' g y with u | u
    · exact .inl u
    · exact .inr (Nat.le_trans kW.size u)
  · rintro e w' ⟨rfl, w1, ⟨kk, F', s', d'⟩, rfl⟩
    have hn : ∀ g, F' g → g ≠ x := fun g y e => by
      rcases s' g y with u | u
      · exact hxF (e ▸ u)
      · omega
    have b1 := kk.at hx hxF
    have k6 : Keep (One x) w1 (w1.setCell ⟨x, 7, none⟩ (.int .i64 u)) := (Keep.refl _ _).setOne _ _
    refine ⟨rfl, fun g => F' g ∧ g < w1.heap.size, kk.trans k6 (fun _ _ e => .inl e) (fun _ _ e => .inr e), fun g y => s' g y.1, fun g y => ⟨k6.lt y.2, hn g y.1⟩, d'.low.keep k6 (fun g y e => hn g y.1 e), rs_set7 b1 u⟩
def ItL : Obj := .cells #[.int .i64 0, .int .i64 0, .int .i64 0, .int .i64 1] 235 (0, 0)
def SgL (a : Option Addr) (c : Nat) : Obj := .cells #[.int .i64 0, .slice a 1 c] 225 (0, 0)
def GtE (WX W : World) (sb : Nat) (a : Option Addr) (c : Nat) : Prop := W.heap[sb]? = some (SgL a c) ∧ Keep Non WX W ∧ ∀ W2, Keep Non W W2 → Calls Tryz.prog 206 #[.agg #[.int .i64 0, .slice a 1 c], .int .i64 0] W2 fun e w2 => ∃ xa xc, e = .returned (.tuple #[.agg #[.int .i64 2, .slice xa 0 xc], .bool true]) ∧ Keep Non W2 w2
theorem gt_endA {WX w1 : World} {B c : Nat} {a : Option Addr} (k : Keep Non WX w1) (h : ∀ W2, Keep (fun g => g < B) w1 W2 → Calls Tryz.prog 206 #[.agg #[.int .i64 0, .slice a 1 c], .int .i64 0] W2 fun e w2 => ∃ xa xc, e = .returned (.tuple #[.agg #[.int .i64 2, .slice xa 0 xc], .bool true]) ∧ Keep Non W2 w2) : GtE WX (w1.alloc (SgL a c)) w1.heap.size a c :=
  ⟨blk_new w1 _, k.alloc _, fun W2 k2 => h W2 ((((Keep.refl Non w1).alloc _).trans1 k2).ofNon)⟩
theorem gt_endR {WX w1 : World} {B c sb : Nat} {a : Option Addr} (k : Keep Non WX w1) (z : w1.heap[sb]? = some (SgB 0 (.slice none 0 0))) (y : WX.heap.size ≤ sb) (l : sb < B) (h : ∀ W2, Keep (fun g => g < B) w1 W2 → Calls Tryz.prog 206 #[.agg #[.int .i64 0, .slice a 1 c], .int .i64 0] W2 fun e w2 => ∃ xa xc, e = .returned (.tuple #[.agg #[.int .i64 2, .slice xa 0 xc], .bool true]) ∧ Keep Non W2 w2) : GtE WX ((w1.setCell ⟨sb, 0, none⟩ (.int .i64 0)).setCell ⟨sb, 1, none⟩ (.slice a 1 c)) sb a c := by
  have kf : Keep (One sb) w1 ((w1.setCell ⟨sb, 0, none⟩ (.int .i64 0)).setCell ⟨sb, 1, none⟩ (.slice a 1 c)) := ((Keep.refl _ _).setOne _ _).setOne _ _
  refine ⟨blk_set (blk_set z 0 _) 1 _, k.trans kf (fun _ _ e => e) (fun g hg e => by have e' : g = sb := e; omega), fun W2 k2 => h W2 (kf.trans k2 (fun g _ e => by have e' : g = sb := e; show g < B; omega) (fun _ _ e => e.elim))⟩
theorem sgz_sets {w1 : World} {sb : Nat} (z : w1.heap[sb]? = some (SgB 0 (.slice none 0 0))) : w1.cell? ⟨sb, 0, none⟩ = some (.int .i64 0) ∧ w1.cell? ⟨sb, 1, none⟩ = some (.slice none 0 0) ∧ w1.frozen? ⟨sb, 0, none⟩ = false ∧ w1.frozen? ⟨sb, 1, none⟩ = false := ⟨sg_0 z, sg_1 z, sg_f z 0, sg_f z 1⟩
theorem sgl_0 {w : World} {p c : Nat} {a : Option Addr} (h : w.heap[p]? = some (SgL a c)) : w.cell? ⟨p, 0, none⟩ = some (.int .i64 0) ∧ w.cell? ⟨p, 1, none⟩ = some (.slice a 1 c) := ⟨by simp [World.cell?, h, SgL], by simp [World.cell?, h, SgL]⟩
theorem ritem_ok (x b lb q : Nat) (iv : Value) (Q1 : World → World → Prop) (Q2 : World → Prop) (w : World) (hx : w.heap[x]? = some (RsB b lb q 1 0 0 iv 0 false))
    (hget : ∀ W, Keep Non w W → Calls Tryz.prog 205 #[.pointer (some ⟨b, 0, none⟩), .int .i64 0, .int .i64 0] W fun e w' => ∃ a c, e = .returned (.tuple #[.agg #[.int .i64 0, .slice a 1 c], .nilIface]) ∧ Keep Non W w' ∧ ∀ W2, Keep (fun g => g < W.heap.size) w' W2 → Calls Tryz.prog 206 #[.agg #[.int .i64 0, .slice a 1 c], .int .i64 0] W2 fun e w2 => ∃ xa xc, e = .returned (.tuple #[.agg #[.int .i64 2, .slice xa 0 xc], .bool true]) ∧ Keep Non W2 w2)
    (hput : ∀ W xa xc, Keep Non w W → Calls Tryz.prog 22 #[.pointer (some ⟨lb, 0, none⟩), .int .i64 0, .agg #[.int .i64 2, .slice xa 0 xc]] W fun e w' => e = .returned .nilIface ∧ Q1 W w')
    (hQ : ∀ W w', Keep Non w W → Q1 W w' → ∀ g o, w.heap.size ≤ g → W.heap[g]? = some o → w'.heap[g]? = some o)
    (hsave : ∀ W w1, Keep Non w W → Q1 W w1 → Calls Tryz.prog 92 #[.pointer (some ⟨x, 0, none⟩), .int .i64 1] w1 fun e w' => e = .returned .nilIface ∧ Q2 w') :
    Calls Tryz.prog 152 #[.pointer (some ⟨x, 0, none⟩), .agg #[.int .i64 0, .int .i64 0, .int .i64 0, .int .i64 1]] w fun e w' => e = .returned .nilIface ∧ Q2 w' := by
  obtain ⟨WX, hWX⟩ : ∃ WX, WX = (w.alloc ItL).drew := ⟨_, rfl⟩
  have KX : Hid (Keep Non w WX) := Lib.hid (by rw [hWX]; exact ((Keep.refl _ _).alloc _).drew)
  have IX : Hid (WX.heap[w.heap.size]? = some ItL) := Lib.hid (by rw [hWX]; exact blk_new w ItL)
  have HX := Lib.hid hx
  have LS : Hid (∀ W, Keep Non WX W → W.cell? ⟨x, 0, none⟩ = some (.pointer (some ⟨b, 0, none⟩)) ∧ W.cell? ⟨w.heap.size, 0, none⟩ = some (.int .i64 0) ∧ W.cell? ⟨w.heap.size, 1, none⟩ = some (.int .i64 0)) := Lib.hid (fun W k => by
    obtain ⟨i0, i1, _, _, _⟩ := four_cells (nonAt k IX.out)
    exact ⟨rs_0 (nonAt (KX.out.trans1 k) HX.out), i0, i1⟩)
  have GT := Lib.hid (fun W (k : Keep Non WX W) => hget W (KX.out.trans1 k))
  have HW : Hid ((w.alloc (.cells #[.int .i64 0, .int .i64 0, .int .i64 0, .int .i64 1] 235)).drew = WX) := Lib.hid hWX.symm
  have LS0 := LS.out WX (Keep.refl _ _)
  rw [← HW.out] at LS0
  have LS1 := Lib.hid LS0
  have PU := Lib.hid hput
  have HQ := Lib.hid hQ
  have SV := Lib.hid hsave
  clear hx hget hput hQ hsave hWX LS0
  go_enter Tryz.func152, Tryz.ntmps152
  go_wp2_with fail
  refine (fun (FIN2 : Hid ?T2) => ?main2) (Lib.hid ?fin2)
  case' main2 => refine wp_region_noPanic ?_
  refine wp_region_held_drew (S := fun W => W.cell? ⟨x, 0, none⟩ = some (.pointer (some ⟨b, 0, none⟩)) ∧ W.cell? ⟨w.heap.size, 0, none⟩ = some (.int .i64 0) ∧ W.cell? ⟨w.heap.size, 1, none⟩ = some (.int .i64 0)) (by as_aux_lemma => kernel_rfl) LS1.out (fun hHeld => ?_)
  refine tc (i := 0) (v := ?v1) ?hy1 ?rest1
  case hy1 => intro W ⟨s0, s1, s2⟩; go_simp; first | done | with_reducible rfl
  refine tc (i := 1) (v := ?v2) ?hy2 ?rest2
  case hy2 => intro W ⟨s0, s1, s2⟩; go_simp; first | done | with_reducible rfl
  refine tc (i := 2) (v := ?v3) ?hy3 ?rest3
  case hy3 => intro W ⟨s0, s1, s2⟩; go_simp; first | done | with_reducible rfl
  refine tc (i := 3) (v := ?v4) ?hy4 ?rest4
  case hy4 => intro W ⟨s0, s1, s2⟩; go_simp; first | done | with_reducible rfl
  refine tc (i := 4) (v := ?v5) ?hy5 ?rest5
  case hy5 => intro W ⟨s0, s1, s2⟩; go_simp; first | done | with_reducible rfl
  refine tc (i := 5) (v := ?v6) ?hy6 ?rest6
  case hy6 => intro W ⟨s0, s1, s2⟩; go_simp; first | done | with_reducible rfl
  refine tc (i := 6) (v := ?v7) ?hy7 ?rest7
  case hy7 => intro W ⟨s0, s1, s2⟩; go_simp; first | done | with_reducible rfl
  refine tc (i := 7) (v := ?v8) ?hy8 ?rest8
  case hy8 => intro W ⟨s0, s1, s2⟩; go_simp; first | done | with_reducible rfl
  rw [HW.out]
  clear hHeld
  have hHeld := LS.out WX (Keep.refl _ _)
  refine wpAnyH_ready (rs := [8, 12]) (by as_aux_lemma => kernel_rfl) (by simp) ?_
  refine AllReadyH.cons (by simp only [List.getElem?_toArray, List.getElem?_cons_succ, List.getElem?_cons_zero]; rfl) (fun K hK => ?arm9_8) (AllReadyH.cons (by simp only [List.getElem?_toArray, List.getElem?_cons_succ, List.getElem?_cons_zero]; rfl) (fun K hK => ?arm9_12) AllReadyH.nil)
  case' arm9_8 =>
    go_simp
    refine (GT.out WX (Keep.refl Non WX)).mono ?_
    rintro e w10 ⟨a, c, rfl, t10, h10⟩
    have k10 := Lib.hid (((Keep.refl Non WX)).trans1 t10)
    have h10' := Lib.hid h10
    clear t10 h10
    go_wp2_with fail
    refine hK.out _ _ (LS.out w10 k10.out) (fun hHeld10 => ?_)
    clear hK K
    try simp only [Act.put, List.setIfInBounds_toArray, List.set_cons_zero, List.set_cons_succ]
    refine tc (i := 9) (v := ?v11) ?hy11 ?rest11
    case hy11 => intro W ⟨s0, s1, s2⟩; go_simp; first | done | with_reducible rfl
    refine tc (i := 10) (v := ?v12) ?hy12 ?rest12
    case hy12 => intro W ⟨s0, s1, s2⟩; go_simp; first | done | with_reducible rfl
    refine tc (i := 11) (v := ?v13) ?hy13 ?rest13
    case hy13 => intro W ⟨s0, s1, s2⟩; go_simp; first | done | with_reducible rfl
    refine rc (i := 12) (fun K hK => ?_)
    go_simp
    have E := Lib.hid (gt_endA k10.out h10'.out)
    refine hK.out _ _ (LS.out _ ((k10.out).alloc _)) (fun hHeld14 => ?_)
    clear hK K
    try simp only [Act.put, List.setIfInBounds_toArray, List.set_cons_zero, List.set_cons_succ]
    refine rc (i := 13) (fun K hK => ?_)
    go_simp
    refine hK.out _ _ (LS.out _ ((k10.out).alloc _)) (fun hHeld15 => ?_)
    clear hK K
    try simp only [Act.put, List.setIfInBounds_toArray, List.set_cons_zero, List.set_cons_succ]
    refine tc (i := 14) (v := ?v16) ?hy16 ?rest16
    case hy16 => intro W ⟨s0, s1, s2⟩; go_simp; first | done | with_reducible rfl
    refine wpAnyH_done (by as_aux_lemma => kernel_rfl) ?_ _
    refine NoPanic.normal ?_
    have e0 := E.out
    dsimp only [SgL] at e0
    generalize (w10.alloc _) = W5 at e0 ⊢
    generalize w10.heap.size = nb at e0 ⊢
    have E6 := Lib.hid e0
    clear e0 E
    clear h10'
    try clear hHeld10
    try clear hHeld14
    try clear hHeld15
    revert a c W5 nb
    exact FIN2.out
  case' arm9_12 =>
    go_simp
    have k17 : Hid (Keep Non WX (WX.alloc (.cells #[.int .i64 0, .slice none 0 0] 225))) := Lib.hid (((Keep.refl Non WX)).alloc _)
    have z17 : Hid ((WX.alloc (.cells #[.int .i64 0, .slice none 0 0] 225)).heap[WX.heap.size]? = some (SgB 0 (.slice none 0 0))) := Lib.hid (blk_new WX _)
    have y17 : Hid (WX.heap.size ≤ WX.heap.size) := Lib.hid (((Keep.refl Non WX)).size)
    have l17 : Hid (WX.heap.size < (WX.alloc (.cells #[.int .i64 0, .slice none 0 0] 225)).heap.size) := Lib.hid (lt_of_block z17.out)
    obtain ⟨v17, hv17⟩ : ∃ v17, v17 = WX.alloc (.cells #[.int .i64 0, .slice none 0 0] 225) := ⟨_, rfl⟩
    rw [← hv17] at k17 z17 l17
    try rw [← hv17]
    clear hv17
    refine hK.out _ _ (LS.out v17 k17.out) (fun hHeld17 => ?_)
    clear hK K
    try simp only [Act.put, List.setIfInBounds_toArray, List.set_cons_zero, List.set_cons_succ]
    refine rc (i := 8) (fun K hK => ?_)
    go_simp
    refine (GT.out v17 k17.out).mono ?_
    rintro e w18 ⟨a, c, rfl, t18, h18⟩
    have k18 := Lib.hid ((k17.out).trans1 t18)
    have h18' := Lib.hid h18
    have z18 := Lib.hid (nonAt t18 z17.out)
    clear t18 h18
    go_wp2_with fail
    refine hK.out _ _ (LS.out w18 k18.out) (fun hHeld18 => ?_)
    clear hK K
    try simp only [Act.put, List.setIfInBounds_toArray, List.set_cons_zero, List.set_cons_succ]
    refine tc (i := 9) (v := ?v19) ?hy19 ?rest19
    case hy19 => intro W ⟨s0, s1, s2⟩; go_simp; first | done | with_reducible rfl
    refine tc (i := 10) (v := ?v20) ?hy20 ?rest20
    case hy20 => intro W ⟨s0, s1, s2⟩; go_simp; first | done | with_reducible rfl
    refine tc (i := 11) (v := ?v21) ?hy21 ?rest21
    case hy21 => intro W ⟨s0, s1, s2⟩; go_simp; first | done | with_reducible rfl
    refine rc (i := 13) (fun K hK => ?_)
    obtain ⟨y0, y1, z0, z1⟩ := sgz_sets z18.out
    have E := Lib.hid (gt_endR k18.out z18.out y17.out l17.out h18'.out)
    go_simp
    refine hK.out _ _ (LS.out _ E.out.2.1) (fun hHeld22 => ?_)
    clear hK K
    try simp only [Act.put, List.setIfInBounds_toArray, List.set_cons_zero, List.set_cons_succ]
    refine tc (i := 14) (v := ?v23) ?hy23 ?rest23
    case hy23 => intro W ⟨s0, s1, s2⟩; go_simp; first | done | with_reducible rfl
    refine wpAnyH_done (by as_aux_lemma => kernel_rfl) ?_ _
    refine NoPanic.normal ?_
    have e0 := E.out
    clear y0 y1 z0 z1
    generalize (World.setCell (World.setCell w18 _ _) _ _) = W5 at e0 ⊢
    generalize WX.heap.size = nb at e0 ⊢
    have E6 := Lib.hid e0
    clear e0 E
    clear h18'
    try clear hHeld17
    try clear hHeld18
    try clear hHeld22
    revert a c W5 nb
    exact FIN2.out
  intro a c W5 nb E6
  have KZ : Hid (Keep Non w W5) := Lib.hid (KX.out.trans1 E6.out.2.1)
  have c7 : W5.cell? ⟨x, 7, none⟩ = some (.int .i64 0) := rs_7 (nonAt KZ.out HX.out)
  obtain ⟨_, _, i2, i3, _⟩ := four_cells (nonAt E6.out.2.1 IX.out)
  obtain ⟨g0, g1⟩ := sgl_0 E6.out.1
  have AT5 := Lib.hid (E6.out.2.2 W5.drew (Keep.refl Non W5).drew)
  go_wp2_with fail
  refine (fun (FIN3 : Hid ?T3) => ?main3) (Lib.hid ?fin3)
  case' main3 =>
    go_region_law go_simp
    all_goals exact FIN3.out
  go_wp2_with fail
  refine wp_loop_rounds 2 ?_
  rw [rounds_succ]
  go_wp2_with (go_at_call 206; go_loud (((with_reducible refine AT5.out.mono ?_); rintro e w6 ⟨xa, xc, rfl, k6⟩); have K6 := Lib.hid k6; clear k6; have kw := (K6.out.alloc (.cells #[.int .i64 2, .slice xa 0 xc] 55 (0, 0))); have K7 := Lib.hid (KZ.out.drew.trans1 kw); have I7 := Lib.hid (nonAt kw (nonAt E6.out.2.1.drew IX.out)); have C7 := Lib.hid (blk_new w6 (.cells #[.int .i64 2, .slice xa 0 xc] 55 (0, 0))); have d0 : (w6.alloc (.cells #[.int .i64 2, .slice xa 0 xc] 55 (0, 0))).cell? ⟨w6.heap.size, 0, none⟩ = some (.int .i64 2) := cl0 (k := 2) C7.out; have d1 : (w6.alloc (.cells #[.int .i64 2, .slice xa 0 xc] 55 (0, 0))).cell? ⟨w6.heap.size, 1, none⟩ = some (.slice xa 0 xc) := cl1 (k := 2) C7.out; have x1 := rs_1 (nonAt K7.out HX.out); clear kw))
  go_region_law (go_simp; go_at_call 22; refine (PU.out _ xa xc K7.out.drew).mono ?_; rintro e w8 ⟨rfl, q8⟩; have Q8 := Lib.hid q8; have I8 := Lib.hid (HQ.out _ w8 K7.out.drew q8 w.heap.size ItL (Nat.le_refl _) (by exact I7.out)); have SV8 := Lib.hid (SV.out _ w8 K7.out.drew q8); clear q8)
  all_goals
    obtain ⟨_, _, _, l3, _⟩ := four_cells I8.out
    go_wp2_with fail
    rw [rounds_succ]
    go_wp2_with (go_at_call 92; ((with_reducible refine SV8.out.mono ?_); rintro e w9 ⟨rfl, q9⟩))
    go_ret
    exact ⟨rfl, q9⟩
theorem lgTrim_ok {F0 : Nat → Prop} {b n a : Nat} {L : Lg} (w : World) (h0 : LgAt F0 w b n L) (hlay : Lay w) (h1 : 1 ≤ n) (hl : L.shs.length = n) (ha : a ≤ 1048576) (hse : L.se = L.ep) (hs : ∀ s ∈ L.shs, s.ok ∧ s.next < 240 ∧ s.e = L.ep ∧ s.e ≤ 1099511627776) :
    Calls Tryz.prog 207 #[.pointer (some ⟨b, 0, none⟩), .int .i64 a] w fun r w' => r = .returned .nilIface ∧ LgTo F0 w b n { L with shs := L.shs.map (trimS a), next := max L.next a } w' := by
  have hsm := h0.small
  obtain ⟨F, h, hFF⟩ := h0.low10
  have IN := Lib.hid (lgin_yes a 1048576 w (by omega) (by omega))
  have AK := Lib.hid (lgask_ok b w)
  obtain ⟨A, dps, sps, dv, sv, cv, q, hA, hAF⟩ := id h
  have c2 := lg_2 hA.blk
  have c3 := lg_3 hA.blk
  have CE : Hid (∀ W, Keep Non w W → W.cell? ⟨b, 2, none⟩ = some (.int .i64 L.ep)) := Lib.hid (fun W k => lg_2 (k.at hA.blk (fun e => e)))
  have UN := Lib.hid (punits_ok (A 4) L.ep n cv w.drew (hA.proj.keepNon (Keep.refl _ _).drew) h1 hsm.1)
  obtain ⟨g0, vs0, c0, rfl, _⟩ := id hA.proj
  have TR := Lib.hid (fun W pa c (k : Keep Non w W) (hu : Is W (.slice pa n c) (List.range n)) (hu2 : ∀ g, (Value.slice pa n c).ownBlock = some g → w.heap.size ≤ g) => lgtrim_ok W (h.keepNon k) (hlay.keepNon k) hl hu (fun g e x => by have := hu2 g e; have := (hFF g x).2; omega) ha hs)
  have RS := Lib.hid (fun W F' (hL : LgAt F' W b n { L with shs := L.shs.map (trimS a) }) => lgraise_ok (x := a) W hL hse ha)
  have HFF := Lib.hid hFF
  have c2d : w.drew.cell? ⟨b, 2, none⟩ = some (.int .i64 L.ep) := c2
  have c3d : w.drew.cell? ⟨b, 3, none⟩ = some (.slice (some ⟨g0, 0, none⟩) n c0) := c3
  clear h0 h hs hFF hA
  go_enter Tryz.func207, Tryz.ntmps207
  go_wp2_with (first
    | (go_at_call 49; refine IN.out.mono ?_; rintro r w1 ⟨rfl, rfl⟩)
    | (go_at_call 48; refine AK.out.mono ?_; rintro r w1 ⟨rfl, rfl⟩))
  go_region_law (first
    | (go_simp; go_at_call 53; refine UN.out.mono ?_; rintro r w2 ⟨ug, uc, rfl, k2, hug, u2⟩; have k02 := (Keep.refl Non w1).drew.trans1 k2; have e2 := CE.out _ k02; have TRW := Lib.hid (TR.out w2 (some ⟨ug, 0, none⟩) uc k02 u2 (fun g e => by injection e with e; subst e; exact hug)); have K02 := Lib.hid k02; clear k2 u2 k02)
    | (go_simp; go_at_call 264; refine TRW.out.mono ?_; rintro r w3 ⟨rfl, k3, F', s3, hL3⟩; have RSW := Lib.hid (RS.out w3 F' hL3); have K3 := Lib.hid k3; have S3 := Lib.hid s3; clear k3 s3 hL3))
  all_goals go_wp2_with (go_at_call 111; refine RSW.out.mono ?_; rintro r w4 ⟨rfl, t⟩; have T := Lib.hid t; clear t)
  all_goals
    go_ret
    exact ⟨rfl, (LgTo.pre K02.out (LgTo.trans S3.out K3.out T.out)).mono (fun g x => (HFF.out g x).1)⟩
theorem lgAble_ok {F : Nat → Prop} {b n u : Nat} {L : Lg} {s : Sh} (w : World) (h : LgAt F w b n L) (hs : L.shs[u]? = some s) (hd : s.X.down = false) :
    Calls Tryz.prog 265 #[.pointer (some ⟨b, 0, none⟩), .int .i64 u] w fun r w' => r = .returned (.bool true) ∧ w' = w := by
  have HS := Lib.hid (lghas_ok w h (lt_of_some hs))
  obtain ⟨A, dps, sps, dv, sv, cv, q, h, hF⟩ := h
  obtain ⟨p, dp, sg, sc, dg, dc, rfl, rfl, hp, hd', hu, hcs, hcd, hsh⟩ := h.at hs
  have c0 := lg_0 h.blk
  have c1 := lg_1 h.blk
  unfold ptrV at hcs hcd
  have BR := Lib.hid (shbroken_ok w hsh)
  have DW : Hid (Calls Tryz.prog 43 #[.pointer (some ⟨dp, 0, none⟩)] w fun e w' => e = .returned (.bool false) ∧ w' = w) := Lib.hid (by
    obtain ⟨FS, FU, q', u', hi⟩ := hsh
    obtain ⟨G, dg', _⟩ := hi.store.dk
    have := ddown_any G dp s.X w dg'
    rw [hd] at this
    exact this)
  have hlt : (u : Int) < L.shs.length := by omega
  clear h hsh hp hd' hs
  go_enter Tryz.func265, Tryz.ntmps265
  go_wp2_with (first
    | (go_at_call 136; refine HS.out.mono ?_; rintro r w1 ⟨rfl, rfl⟩)
    | (go_at_call 316; refine BR.out.mono ?_; rintro r w1 ⟨rfl, rfl⟩)
    | (go_at_call 43; refine DW.out.mono ?_; rintro r w1 ⟨rfl, rfl⟩))
  go_ret
  exact ⟨rfl, rfl⟩
theorem lglater_ok {F : Nat → Prop} {b n c : Nat} {pa : Option Addr} {L : Lg} (w : World) (h : LgAt F w b n L) (hl : L.shs.length = n) (hu : Is w (.slice pa n c) (List.range n)) (he : ∀ s ∈ L.shs, s.e = L.ep) (hep : L.ep ≤ 1099511627776) :
    Calls Tryz.prog 266 #[.pointer (some ⟨b, 0, none⟩), .slice pa n c] w fun r w' => r = .returned (.int .i64 ((L.ep : Int) + 1)) ∧ w' = w := by
  have hsm := h.small
  obtain ⟨A, dps, sps, dv, sv, cv, q, h, hF⟩ := h
  have c1 := lg_1 h.blk
  have c2 := lg_2 h.blk
  obtain ⟨sa, sc, rfl, _, _⟩ := ownsRow_form h.shelves
  rw [h.len.2] at c1
  have H := Lib.hid h
  have U := Lib.hid hu
  have HE := Lib.hid he
  clear h hu he
  go_enter Tryz.func266, Tryz.ntmps266
  go_wp2_with fail
  go_loopw [5, 15] (fun m i wr => ∃ j : Nat, j ≤ n ∧ i = .int .i64 j ∧ m = .int .i64 L.ep ∧ wr = w) (fun _ i _ => n - (intOf i).toNat)
  case atStart => exact ⟨0, by omega, rfl, rfl, rfl⟩
  case round =>
    obtain ⟨j, hj, rfl, rfl, rfl⟩ := hrel
    by_cases hlt : j < n
    · have hlj : (j : Int) < (n : Int) := by omega
      obtain ⟨xg, xo, rfl, hcell⟩ : ∃ g o, pa = some ⟨g, o, none⟩ ∧ wr.cell? ⟨g, o + j, none⟩ = some (.int .i64 (j : Int)) := by
        obtain ⟨a', c', e, hx⟩ := U.out
        injection e with e1 e2 e3
        obtain ⟨g', off, e4, hc⟩ := hx (by intro e; have e' := List.map_eq_nil_iff.1 e; have e2 := congrArg List.length e'; simp at e2; omega)
        exact ⟨g', off, e1.trans e4, hc j (iv j) (by rw [List.getElem?_map, List.getElem?_range hlt]; rfl)⟩
      have hs : L.shs[j]? = some L.shs[j] := List.getElem?_eq_getElem (by omega)
      obtain ⟨p, dp, sg, sc', dg, dc, es, ed, hp, hd', hu', hcs, hcd, hsh⟩ := H.out.at hs
      injection es with es1 es2 es3
      subst es1
      unfold ptrV at hcs
      have EP := shepoch_ok wr hsh
      rw [HE.out _ (List.getElem_mem _)] at EP
      have EP' := Lib.hid EP
      have hlL : (j : Int) < L.shs.length := by omega
      clear hsh hcd EP ed
      go_wp2_with (go_at_call 317; refine EP'.out.mono ?_; rintro r w1 ⟨rfl, rfl⟩)
      refine ⟨⟨j + 1, by omega, by first | rfl | go_num, ?_⟩, by simp [intOf]; omega⟩
      first
        | exact ⟨rfl, rfl⟩
        | simp
    · obtain rfl : j = n := by omega
      go_wp2_with fail
      go_ret
      exact ⟨rfl, rfl⟩
def sealS (e : Nat) (s : Sh) : Sh := s.did (actBy 1 e 0 []) e s.l s.D
def cutS (e a : Nat) (s : Sh) : Sh := (sealS e s).did (actBy 5 e a []) e s.l (cutHi a s.D)
theorem cut_enter' (args : Array Value) (w : World) : (callFunc 267 args).run Tryz.prog w = .ok (.enter 267 args) w := enter_of Tryz.func267 (by kernel_rfl) rfl args w
theorem lgcut1_ok (u g h j b a e : Nat) (w : World) (Q : World → Prop) (g0 : w.cell? ⟨g, 0, none⟩ = some (.pointer (some ⟨b, 0, none⟩))) (h0 : w.cell? ⟨h, 0, none⟩ = some (.int .i64 e)) (j0 : w.cell? ⟨j, 0, none⟩ = some (.int .i64 a))
    (hp : Calls Tryz.prog 171 #[.pointer (some ⟨b, 0, none⟩), .int .i64 u, .agg #[.int .i64 1, .int .i64 e, .int .i64 0, .slice none 0 0]] w fun r w1 => (∃ n : Int, r = .returned (.tuple #[.int .i64 n, .nilIface])) ∧ w1.cell? ⟨g, 0, none⟩ = some (.pointer (some ⟨b, 0, none⟩)) ∧ w1.cell? ⟨h, 0, none⟩ = some (.int .i64 e) ∧ w1.cell? ⟨j, 0, none⟩ = some (.int .i64 a) ∧
      Calls Tryz.prog 171 #[.pointer (some ⟨b, 0, none⟩), .int .i64 u, .agg #[.int .i64 5, .int .i64 e, .int .i64 a, .slice none 0 0]] w1 fun r w' => (∃ n : Int, r = .returned (.tuple #[.int .i64 n, .nilIface])) ∧ Q w') :
    Calls Tryz.prog 267 #[.int .i64 u, .pointer (some ⟨g, 0, none⟩), .pointer (some ⟨h, 0, none⟩), .pointer (some ⟨j, 0, none⟩)] w fun r w' => r = .returned .nilIface ∧ Q w' := by
  have HP := Lib.hid hp
  clear hp
  go_enter Tryz.func267, Tryz.ntmps267
  go_wp2_with (go_at_call 171; first
    | ((with_reducible refine HP.out.mono ?_); rintro r w2 ⟨⟨nn, rfl⟩, g1, h1, j1, hq⟩; have HQ := Lib.hid hq; clear hq)
    | ((with_reducible refine HQ.out.mono ?_); rintro r w3 ⟨⟨mm, rfl⟩, hq⟩; have HQ2 := Lib.hid hq; clear hq))
  go_ret
  exact ⟨rfl, HQ2.out⟩
theorem sealS_ok {e : Nat} {s : Sh} (h : s.ok) (hn : s.next < 240) (he : e ≤ 1099511627776) : (sealS e s).ok := h.did hn (actBy_len 1 e 0 [] (by omega) he (by omega) (by simp)) (Nat.le_succ _)
theorem cut_all {F : Nat → Prop} {b n a e c gb gh gj : Nat} {pa : Option Addr} {L : Lg} (w : World) (h : LgAt F w b n L) (hlay : Lay w) (hF : ∀ g, F g → 10 ≤ g) (hl : L.shs.length = n) (hu : Is w (.slice pa n c) (List.range n)) (hu2 : ∀ g, (Value.slice pa n c).ownBlock = some g → ¬ F g) (ha : a ≤ 1048576) (he : e ≤ 1099511627776)
    (hs : ∀ s ∈ L.shs, s.ok ∧ s.next < 238 ∧ s.e < e ∧ s.l ≤ a) (b0 : w.heap[gb]? = some (PbB b)) (b1 : w.heap[gh]? = some (InB e)) (b2 : w.heap[gj]? = some (InB a)) (hb : ¬ F gb ∧ ¬ F gh ∧ ¬ F gj) :
    Calls Tryz.prog 108 #[.slice pa n c, .func (.func 267) #[] #[.pointer (some ⟨gb, 0, none⟩), .pointer (some ⟨gh, 0, none⟩), .pointer (some ⟨gj, 0, none⟩)]] w fun r w' => r = .returned .nilIface ∧ LgTo F w b n { L with shs := L.shs.map (cutS e a) } w' := by
  have hsm := h.small
  have AFT : ∀ W, Keep F w W → Lay W ∧ Is W (.slice pa n c) (List.range n) ∧ W.heap[gb]? = some (PbB b) ∧ W.heap[gh]? = some (InB e) ∧ W.heap[gj]? = some (InB a) := by
    intro W k
    exact ⟨hlay.keep k (fun g hg x => by have := hF g x; omega), hu.keep k (fun g e x => hu2 g e x), k.at b0 hb.1, k.at b1 hb.2.1, k.at b2 hb.2.2⟩
  have ALL := all_at 267 (.pointer (some ⟨gb, 0, none⟩)) (.pointer (some ⟨gh, 0, none⟩)) (.pointer (some ⟨gj, 0, none⟩)) pa c (List.range n)
    (fun j W => LgTo F w b n { L with shs := mixL (cutS e a) L.shs j } W) w cut_enter' (fun j W hj hI => by rw [List.length_range]; exact (AFT W hI.1).2.1) (by rw [mixL_zero]; exact LgTo.refl h (Keep.refl _ _)) (by simp; omega) (fun j u' W hj hI => by
      have hjn : j < n := by have := lt_of_some hj; simpa using this
      obtain rfl : j = u' := by rw [List.getElem?_range hjn] at hj; injection hj
      obtain ⟨k, F', s, hL⟩ := hI
      obtain ⟨lay, _, p0, p1, p2⟩ := AFT W k
      have hx : L.shs[j]? = some L.shs[j] := List.getElem?_eq_getElem (by omega)
      obtain ⟨q1, q2, q3, q4⟩ := hs _ (List.getElem_mem (show j < L.shs.length by omega))
      generalize L.shs[j] = x at hx q1 q2 q3 q4
      have ac1 := acts_seal q1 (by omega) e q3 he
      have hm := mixL_at (cutS e a) L.shs j _ hx
      have D1 := lgdo_ok 1 e 0 0 0 none Any W hL hm lay ac1 (fun _ _ _ _ => trivial)
      have ok1 := sealS_ok q1 (by omega) he
      have ac2 := acts_cut (s := sealS e x) ok1 (by show x.next + 1 < 240; omega) a he ha (by show x.l ≤ a; exact q4)
      refine (lgcut1_ok j gb gh gj b a e W (fun w' => LgTo F w b n { L with shs := mixL (cutS e a) L.shs (j + 1) } w') (pb_0 p0) (in_0 p1) (in_0 p2) (D1.mono ?_)).mono (fun r w' x => x)
      rintro r w1 ⟨e1, t1⟩
      obtain ⟨k1, F1, s1, hL1⟩ := t1
      have kk := keep_sub k s k1
      obtain ⟨lay1, _, r0, r1, r2⟩ := AFT w1 kk
      refine ⟨e1, pb_0 r0, in_0 r1, in_0 r2, ?_⟩
      have hset : (({ L with shs := mixL (cutS e a) L.shs j } : Lg).shs.set j (sealS e x))[j]? = some (sealS e x) := List.getElem?_set_self (by rw [mixL_len]; omega)
      have D2 := lgdo_ok 5 e a 0 0 none Any w1 hL1 hset lay1 ac2 (fun _ _ _ _ => trivial)
      refine D2.mono ?_
      rintro r2 w2 ⟨e2, t2⟩
      refine ⟨e2, LgTo.trans (s.trans s1 k.size) kk ?_⟩
      have e3 := mixL_set (cutS e a) L.shs j _ hx
      simp only [List.set_set] at t2
      have e4 : cutS e a x = (sealS e x).did (actBy 5 (sealS e x).e a []) (sealS e x).e (sealS e x).l (cutHi a (sealS e x).D) := rfl
      rw [← e4, e3] at t2
      exact t2)
  rw [List.length_range, ← hl, mixL_all, hl] at ALL
  exact ALL
theorem cut_fin {F : Nat → Prop} {wB w5 : World} {b n a E : Nat} {L : Lg} (h : LgTo F wB b n L w5) (hs : L.se < E) (hE : E ≤ 1099511627776) (ha : a ≤ 1048576) :
    ∃ q5, w5.cell? ⟨b, 2, none⟩ = some (.int .i64 L.ep) ∧ w5.frozen? ⟨b, 2, none⟩ = false ∧ (w5.setCell ⟨b, 2, none⟩ (.int .i64 E)).cell? ⟨b, 4, none⟩ = some (.pointer (some ⟨q5, 0, none⟩)) ∧
      Calls Tryz.prog 57 #[.pointer (some ⟨q5, 0, none⟩), .int .i64 E, .int .i64 a] (w5.setCell ⟨b, 2, none⟩ (.int .i64 E)).drew fun r w' => r = .returned .nilIface ∧ LgTo F wB b n ⟨L.shs, E, a, E⟩ w' := by
  obtain ⟨k5, F5, s5, hL5⟩ := h
  obtain ⟨A, dps, sps, dv, sv, cv, q, hA, hAF⟩ := id hL5
  have hbq : q ≠ b := fun e => by have := hA.apart 0 1 b hA.mem.1 (e ▸ hA.mem.2.1); omega
  have kb : Keep (One b) w5 (w5.setCell ⟨b, 2, none⟩ (.int .i64 E)).drew := ((Keep.refl _ _).setOne _ _).drew
  have blk6 : (w5.setCell ⟨b, 2, none⟩ (.int .i64 E)).drew.heap[b]? = some (LgB dv sv E cv q) := lg_set2 hA.blk E
  have sq6 := kb.at hA.sq (fun e => hbq e)
  have SET := set_any q L.se L.next E a _ sq6 hA.sqin
  have e1 : setE L.se E a = 0 := by
    unfold setE fitB
    rw [if_pos (by simp; omega), if_neg (by omega)]
  have e2 : setP L.se E a = E := by unfold setP; rw [if_pos e1]
  have e3 : setN L.se L.next E a = a := by unfold setN; rw [if_pos e1]
  rw [e1, e2, e3, errv_zero] at SET
  refine ⟨q, lg_2 hA.blk, lg_f hA.blk 2, lg_4 (lg_set2 hA.blk E), SET.mono ?_⟩
  rintro r w' ⟨x, kq, hq⟩
  refine ⟨x, LgTo.trans s5 k5 (hA.own hAF ((kb.mono (fun g _ y => .inl y)).trans kq (fun _ _ y => y) (fun g _ y => .inr y)) (kq.at blk6 (fun e => hbq e.symm)) hq ⟨by omega, by omega, by omega, by omega⟩)⟩
theorem lgCut_ok {F0 : Nat → Prop} {b n a E : Nat} {L : Lg} (w : World) (h0 : LgAt F0 w b n L) (hlay : Lay w) (h1 : 1 ≤ n) (hl : L.shs.length = n) (ha : a ≤ 1048576) (hse : L.se = L.ep) (hE0 : E = L.ep + 1) (hep : E ≤ 1099511627776) (hs : ∀ s ∈ L.shs, s.ok ∧ s.next < 238 ∧ s.e = L.ep ∧ s.l ≤ a) :
    Calls Tryz.prog 208 #[.pointer (some ⟨b, 0, none⟩), .int .i64 a] w fun r w' => r = .returned .nilIface ∧ LgTo F0 w b n ⟨L.shs.map (cutS E a), E, a, E⟩ w' := by
  have hE := Lib.hid hE0
  have hep64 : (E : Int) ≤ 1099511627776 := by omega
  clear hE0
  have hsm := h0.small
  obtain ⟨F, h, hFF⟩ := h0.low10
  obtain ⟨A, dps, sps, dv, sv, cv, q, hA, hAF⟩ := id h
  obtain ⟨g0, vs0, c0, rfl, _⟩ := id hA.proj
  obtain ⟨sa, sc, rfl, _, _⟩ := ownsRow_form hA.shelves
  have kA : Keep Non w ((w.alloc (PbB b)).alloc (InB a)) := ((Keep.refl _ _).alloc _).alloc _
  have b0 : ((w.alloc (PbB b)).alloc (InB a)).heap[w.heap.size]? = some (PbB b) := blk_alloc (blk_new _ _) _
  have b1 : ((w.alloc (PbB b)).alloc (InB a)).heap[w.heap.size + 1]? = some (InB a) := alloc2_at' _ _ _
  generalize hwA : (w.alloc (PbB b)).alloc (InB a) = wA at kA b0 b1
  have IN := Lib.hid (lgin_yes a 1048576 wA.drew (by omega) (by omega))
  have AK := Lib.hid (lgask_ok b wA.drew)
  have p0 := pb_0 b0
  have p1 := in_0 b1
  have p0d : wA.drew.cell? ⟨w.heap.size, 0, none⟩ = some (.pointer (some ⟨b, 0, none⟩)) := p0
  have p1d : wA.drew.cell? ⟨w.heap.size + 1, 0, none⟩ = some (.int .i64 a) := p1
  have H := Lib.hid h
  have HFF := Lib.hid hFF
  have HA := Lib.hid hA
  have HS := Lib.hid hs
  have LY := Lib.hid hlay
  have KA := Lib.hid kA
  have B0 := Lib.hid b0
  have B1 := Lib.hid b1
  clear h0 h hFF hA hs hlay kA b0 b1
  dsimp only [PbB, InB] at hwA
  go_enter Tryz.func208, Tryz.ntmps208
  go_wp2_with fail
  have c2 := lg_2 ((KA.out.drew).at HA.out.blk (fun e => e))
  have c3 := lg_3 ((KA.out.drew).at HA.out.blk (fun e => e))
  have UN := Lib.hid (punits_ok (A 4) L.ep n _ wA.drew (HA.out.proj.keepNon KA.out.drew) h1 hsm.1)
  go_region_law (go_simp; first
    | (go_at_call 49; refine IN.out.mono ?_; rintro r w1 ⟨rfl, e1⟩; subst e1)
    | (go_at_call 48; refine AK.out.mono ?_; rintro r w1 ⟨rfl, e1⟩; subst e1))
  all_goals go_wp2_with (go_at_call 53; refine UN.out.mono ?_; rintro r w2 ⟨ug, uc, rfl, k2, hug, u2⟩; have K2 := Lib.hid (KA.out.drew.trans1 k2); have KX := Lib.hid k2; have U2 := Lib.hid u2; clear k2 u2)
  all_goals
    go_loopw [27] (fun i wr => ∃ j : Nat, j ≤ n ∧ i = .int .i64 j ∧ wr = w2) (fun i _ => n - (intOf i).toNat)
    case atStart => exact ⟨0, by omega, rfl, rfl⟩
    case round =>
      obtain ⟨j, hj, rfl, rfl⟩ := hrel
      have p2 := pb_0 ((KX.out).at (show wA.drew.heap[w.heap.size]? = some (PbB b) from B0.out) (fun e => e))
      by_cases hlt : j < n
      · have hlj : (j : Int) < (n : Int) := by omega
        have hcell : wr.cell? ⟨ug, j, none⟩ = some (.int .i64 (j : Int)) := by
          obtain ⟨a', c', e, hx⟩ := U2.out
          injection e with e1 e2 e3
          obtain ⟨g', off, e4, hc⟩ := hx (by intro e; have e' := List.map_eq_nil_iff.1 e; have e2 := congrArg List.length e'; simp at e2; omega)
          rw [← e1] at e4
          injection e4 with e4
          injection e4 with e4 e5
          subst e4
          subst e5
          have := hc j (iv j) (by rw [List.getElem?_map, List.getElem?_range hlt]; rfl)
          rwa [Nat.zero_add] at this
        have hx : L.shs[j]? = some L.shs[j] := List.getElem?_eq_getElem (by omega)
        have AB := Lib.hid (lgAble_ok wr (H.out.keepNon K2.out) hx (HS.out _ (List.getElem_mem _)).1.free.1)
        go_wp2_with (go_at_call 265; refine AB.out.mono ?_; rintro r w3 ⟨rfl, rfl⟩)
        exact ⟨⟨j + 1, by omega, by first | exact ⟨rfl, trivial⟩ | rfl | go_num⟩, by simp [intOf]; omega⟩
      · obtain rfl : j = n := by omega
        go_wp2_with fail
        obtain ⟨wl, hwl⟩ : ∃ wl, wl = wr := ⟨_, rfl⟩
        have K2' : Hid (Keep Non w wl) := Lib.hid (by rw [hwl]; exact K2.out)
        have U2' : Hid (Is wl (.slice (some ⟨ug, 0, none⟩) j uc) (List.range j)) := Lib.hid (by rw [hwl]; exact U2.out)
        have P2 : Hid (wl.heap[w.heap.size]? = some (PbB b) ∧ wl.heap[w.heap.size + 1]? = some (InB a)) := Lib.hid (by rw [hwl]; exact ⟨(KX.out).at (show wA.drew.heap[w.heap.size]? = some (PbB b) from B0.out) (fun e => e), (KX.out).at (show wA.drew.heap[w.heap.size + 1]? = some (InB a) from B1.out) (fun e => e)⟩)
        rw [← hwl]
        clear hwl p2 U2 K2 KX
        go_loopw [39] (fun i wr => ∃ k : Nat, k ≤ j ∧ i = .int .i64 k ∧ Keep Non wl wr) (fun i _ => j - (intOf i).toNat)
        case atStart => exact ⟨0, by omega, rfl, Keep.refl _ _⟩
        case round =>
          obtain ⟨k, hk, rfl, kw⟩ := hrel
          have KW := Lib.hid kw
          obtain ⟨q0, q1⟩ := P2.out
          have r0 := pb_0 (kw.at q0 (fun e => e))
          have r1 := in_0 (kw.at q1 (fun e => e))
          clear kw q0 q1
          by_cases hlk : k < j
          · have hlk' : (k : Int) < (j : Int) := by omega
            have hcell : wr.cell? ⟨ug, k, none⟩ = some (.int .i64 (k : Int)) := by
              obtain ⟨a', c', e, hx⟩ := U2'.out.keepNon KW.out
              injection e with e1 e2 e3
              obtain ⟨g', off, e4, hc⟩ := hx (by intro e; have e' := List.map_eq_nil_iff.1 e; have e2 := congrArg List.length e'; simp at e2; omega)
              rw [← e1] at e4
              injection e4 with e4
              injection e4 with e4 e5
              subst e4
              subst e5
              have := hc k (iv k) (by rw [List.getElem?_map, List.getElem?_range hlk]; rfl)
              rwa [Nat.zero_add] at this
            have hx : L.shs[k]? = some L.shs[k] := List.getElem?_eq_getElem (by omega)
            have hle := (HS.out _ (List.getElem_mem (show k < L.shs.length by omega))).2.2.2
            have hAr := HA.out.keep (K2'.out.trans1 KW.out) (fun _ _ _ e => e)
            generalize L.shs[k] = x at hx hle
            obtain ⟨p, dp, sg, sc', dg, dc, es, ed, hp, hd', hu', hcs, hcd, hsh⟩ := hAr.at hx
            injection es with es1 es2 es3
            subst es1
            have c1 := lg_1 hAr.blk
            rw [es2] at c1
            unfold ptrV at hcs
            have hlL : (k : Int) < L.shs.length := by omega
            have UNI := Lib.hid (shunit_ok wr.drew (hsh.keepNon (Keep.refl Non wr).drew))
            have c1d : wr.drew.cell? ⟨b, 1, none⟩ = some (.slice (some ⟨sg, 0, none⟩) L.shs.length sc) := c1
            have hcsd : wr.drew.cell? ⟨sg, k, none⟩ = some (.pointer (some ⟨p, 0, none⟩)) := hcs
            have r0d : wr.drew.cell? ⟨w.heap.size, 0, none⟩ = some (.pointer (some ⟨b, 0, none⟩)) := r0
            have r1d : wr.drew.cell? ⟨w.heap.size + 1, 0, none⟩ = some (.int .i64 a) := r1
            have R1 : Hid (∀ W, Keep Non wr.drew W → W.cell? ⟨w.heap.size + 1, 0, none⟩ = some (.int .i64 a)) := Lib.hid (fun W kk => in_0 (kk.at (show wr.drew.heap[w.heap.size + 1]? = some (InB a) from KW.out.at P2.out.2 (fun e => e)) (fun e => e)))
            have hno : ¬ (a : Int) < (x.l : Int) := by omega
            clear hAr hsh hcd hcs c1 ed es2 es3
            go_wp2_with fail
            go_region_law (go_simp; first
              | (go_at_call 137; refine UNI.out.mono ?_; rintro r w3 ⟨b', rfl, k3, u3⟩; have r1' := R1.out _ k3; have LW := Lib.hid (unlow_ok _ b' x.e x.l x.D w3 u3); have K3 := Lib.hid k3; clear k3 u3)
              | (go_at_call 81; refine LW.out.mono ?_; rintro r w4 ⟨rfl, e4⟩; subst e4))
            all_goals go_wp2_with fail
            all_goals exact ⟨⟨k + 1, by omega, by first | rfl | go_num, KW.out.trans1 ((Keep.refl _ _).drew.trans1 K3.out)⟩, by simp [intOf]; omega⟩
          · obtain rfl : k = j := by omega
            have hLr := H.out.keepNon (K2'.out.trans1 KW.out)
            have hug' : wA.heap.size ≤ ug := hug
            have hwAs : w.heap.size + 2 ≤ wA.heap.size := by have := lt_of_block B1.out; omega
            have kwB : Keep Non w (wr.alloc (InB (E : Int))) := (K2'.out.trans1 KW.out).alloc _
            have LT0 := lglater_ok wr hLr hl (U2'.out.keepNon KW.out) (fun s hs => (HS.out s hs).2.2.1) (by have := hE.out; omega)
            have e0 : (L.ep : Int) + 1 = (E : Int) := by have := hE.out; omega
            rw [e0] at LT0
            have LT := Lib.hid LT0
            obtain ⟨q0, q1⟩ := P2.out
            have kwl : Keep Non wl (wr.alloc (InB (E : Int))) := KW.out.trans1 ((Keep.refl _ _).alloc _)
            have hlr : w.heap.size + 2 ≤ wr.heap.size := by have := lt_of_block q1; have := KW.out.size; omega
            have CA := Lib.hid (cut_all (gb := w.heap.size) (gh := wr.heap.size) (gj := w.heap.size + 1) (pa := some ⟨ug, 0, none⟩) (c := uc) (n := k) (e := E) (a := a) _ (H.out.keepNon kwB) (LY.out.keepNon kwB) (fun g x => (HFF.out g x).2.1) hl (U2'.out.keepNon kwl) (fun g e x => by injection e with e; change ug = g at e; have := (HFF.out _ x).2.2; omega) ha hep (fun s hs => by obtain ⟨z1, z2, z3, z4⟩ := HS.out s hs; exact ⟨z1, z2, by have := hE.out; omega, z4⟩) (kwl.at q0 (fun e => e)) (blk_new _ _) (kwl.at q1 (fun e => e)) ⟨fun x => by have := (HFF.out _ x).2.2; omega, fun x => by have := (HFF.out _ x).2.2; omega, fun x => by have := (HFF.out _ x).2.2; omega⟩)
            have KWB := Lib.hid kwB
            have BX : Hid (∀ W, Keep F (wr.alloc (InB (E : Int))) W → W.heap[w.heap.size]? = some (PbB b) ∧ W.heap[w.heap.size + 1]? = some (InB a) ∧ W.heap[wr.heap.size]? = some (InB (E : Int))) := Lib.hid (fun W kk => ⟨kk.at (kwl.at q0 (fun e => e)) (fun x => by have := (HFF.out _ x).2.2; omega), kk.at (kwl.at q1 (fun e => e)) (fun x => by have := (HFF.out _ x).2.2; omega), kk.at (blk_new _ _) (fun x => by have := (HFF.out _ x).2.2; omega)⟩)
            have hno : ¬ (1099511627776 : Int) < (E : Int) := by omega
            have HLR := Lib.hid hlr
            clear hLr q0 q1 kwl kwB hlr
            have x1 := in_0 (blk_new wr (InB (E : Int)))
            unfold InB at CA x1
            clear e0 LT0
            go_wp2_with (first
              | (go_at_call 266; refine LT.out.mono ?_; rintro r w4 ⟨rfl, e4⟩; subst e4)
              | (go_at_call 108; refine CA.out.mono ?_; rintro r w5 ⟨rfl, t⟩; obtain ⟨x0, x1', x2⟩ := BX.out _ t.1; have hbl : b < w.heap.size := (HFF.out _ (hAF _ _ HA.out.mem.1)).2.2; have y0 := pb_0 x0; have y1 := in_0 x1'; have y2 := in_0 x2; have kb : Keep (One b) w5 (w5.setCell ⟨b, 2, none⟩ (.int .i64 E)) := (Keep.refl _ _).setOne _ _; have v0 := pb_0 (kb.at x0 (fun e => by have e' : w.heap.size = b := e; omega)); have v1 := in_0 (kb.at x1' (fun e => by have e' : w.heap.size + 1 = b := e; omega)); have v2 := in_0 (kb.at x2 (fun e => by have e' : _ = b := e; have := HLR.out; omega)); obtain ⟨q5, z2, z2f, z4, hset⟩ := cut_fin t (by show L.se < E; rw [hse]; have := hE.out; omega) hep ha; have SETT := Lib.hid hset; clear t x0 x1' x2 kb hset))
            go_region_law (go_simp; go_at_call 57; refine SETT.out.mono ?_; rintro r w7 ⟨rfl, t⟩; have T7 := Lib.hid t; clear t)
            all_goals go_wp2_with fail
            all_goals
              go_ret
              exact ⟨rfl, (LgTo.pre KWB.out T7.out).mono (fun g x => (HFF.out g x).1)⟩
def lA : Lg := ⟨List.replicate 2 (sh1 16777216), 1, 0, 1⟩
def sHo : Sh := (sh1 16777216).did (actBy 3 1 0 []) 1 0 (uput (.map []) 0 (2, []))
def lB : Lg := ⟨[sHo, sh1 16777216], 1, 1, 1⟩
def lC : Lg := ⟨[trimS 0 sHo, trimS 0 (sh1 16777216)], 1, 1, 1⟩
def lD : Lg := ⟨[cutS 2 1 (trimS 0 sHo), cutS 2 1 (trimS 0 (sh1 16777216))], 2, 1, 2⟩
theorem sh1_ok : (sh1 16777216).ok := sh0_ok.did (by decide) (actBy_len 1 1 0 [] (by omega) (by omega) (by omega) (by simp)) (Nat.le_succ _)
theorem sHo_ok : sHo.ok := sh1_ok.did (by decide) (actBy_len 3 1 0 [] (by omega) (by omega) (by omega) (by simp)) (by decide)
theorem tr1_ok : (trimS 0 (sh1 16777216)).ok := sh1_ok.did (by decide) (actBy_len 4 1 0 [] (by omega) (by omega) (by omega) (by simp)) (by decide)
theorem trH_ok : (trimS 0 sHo).ok := sHo_ok.did (by decide) (actBy_len 4 1 0 [] (by omega) (by omega) (by omega) (by simp)) (by decide)
theorem put_lA {F : Nat → Prop} {b xc : Nat} {xa : Option Addr} (w : World) (h : LgAt F w b 2 lA) (hlay : Lay w) :
    Calls Tryz.prog 22 #[.pointer (some ⟨b, 0, none⟩), .int .i64 0, .agg #[.int .i64 2, .slice xa 0 xc]] w fun r w' => r = .returned .nilIface ∧ LgTo F w b 2 lB w' := by
  refine (lgPut_ok (a := 0) (m := 0) (k := 2) (L2 := ⟨[sHo, sh1 16777216], 1, 0, 1⟩) w h rfl rfl (by omega) (by omega) (by decide) (.inr rfl) ?_).mono ?_
  · intro W F' kk hF' hW
    have ac := acts_fill (s := sh1 16777216) sh1_ok (by decide) 0 (by decide) (by omega) (by decide) (by decide)
    exact lgput_hole (u := 0) (e := 1) (a := 0) (pa := xa) (m := 0) (c := xc) (L := lA) (s := sh1 16777216) (s2 := sHo) Any W hW rfl (hlay.keepNon kk) ac (fun _ _ _ _ => trivial)
  · rintro r w' ⟨rfl, t⟩
    exact ⟨rfl, t⟩
theorem trim_lB {F : Nat → Prop} {b : Nat} (w : World) (h : LgAt F w b 2 lB) (hlay : Lay w) :
    Calls Tryz.prog 207 #[.pointer (some ⟨b, 0, none⟩), .int .i64 0] w fun r w' => r = .returned .nilIface ∧ LgTo F w b 2 lC w' := by
  refine (lgTrim_ok (a := 0) (L := lB) w h hlay (by omega) rfl (by omega) rfl ?_).mono ?_
  · intro s hs
    rcases List.mem_cons.1 hs with rfl | hs
    · exact ⟨sHo_ok, by decide, rfl, by decide⟩
    · rcases List.mem_cons.1 hs with rfl | hs
      · exact ⟨sh1_ok, by decide, rfl, by decide⟩
      · cases hs
  · rintro r w' ⟨rfl, t⟩
    exact ⟨rfl, t⟩
theorem cut_lC {F : Nat → Prop} {b : Nat} (w : World) (h : LgAt F w b 2 lC) (hlay : Lay w) :
    Calls Tryz.prog 208 #[.pointer (some ⟨b, 0, none⟩), .int .i64 1] w fun r w' => r = .returned .nilIface ∧ LgTo F w b 2 lD w' := by
  refine (lgCut_ok (a := 1) (E := 2) (L := lC) w h hlay (by omega) rfl (by omega) rfl rfl (by omega) ?_).mono ?_
  · intro s hs
    rcases List.mem_cons.1 hs with rfl | hs
    · exact ⟨trH_ok, by decide, rfl, by decide⟩
    · rcases List.mem_cons.1 hs with rfl | hs
      · exact ⟨tr1_ok, by decide, rfl, by decide⟩
      · cases hs
  · rintro r w' ⟨rfl, t⟩
    exact ⟨rfl, t⟩
theorem lD_at : uat (cutS 2 1 (trimS 0 sHo)).l (cutS 2 1 (trimS 0 sHo)).D 0 = (2, []) := by decide
end Go.Proofs.YtobjlgfjfpmceaaGreatDoor
