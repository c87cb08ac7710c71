/- export.Resume: walked. · The law's walk, over its fixed fact: what is known ahead (plain). · A manifest's digest, the head of a chain of one manifest: -/
import Derived.Test.YtdmckfkhkjkdnaaGreatDoorQ44
import Derived.Test.YtdmckfkhkjkdnaaGreatDoorQ45
set_option linter.unusedVariables false
set_option maxRecDepth 100000
set_option maxHeartbeats 16000000
namespace Go.Proofs.YtdmckfkhkjkdnaaGreatDoor
open Go.RowKit Go.Maps
theorem VtSt.second {F FL F5 : Nat → Prop} {w3 w4 w5 : World} {b lb q p b2 q2 p2 : Nat} {X : Dk} {L : Lg} {room : Nat} (h : VtSt F FL w3 b lb q p X L) (k4 : Keep Non w3 w4) (vb : w5.heap[b2]? = some (VtB q2 (.slice none 0 0))) (k5 : Keep (fun g => w3.heap.size ≤ g ∧ g < w4.heap.size) w4 w5) (hb2 : w4.heap.size ≤ b2) (s5 : Sub F5 (fun g => w3.heap.size ≤ g ∧ g < w4.heap.size) w4) (nb : ¬ F5 b2) (l5 : ∀ g, F5 g → g < w5.heap.size) (st : StoreAt F5 w5 q2 p2 (dk0 room)) :
    VtSt F5 FL w5 b2 lb q2 p2 (dk0 room) L ∧ Keep Non w3 w5 ∧ ∀ g, F5 g → w3.heap.size ≤ g := by
  have k35 : Keep Non w3 w5 := k4.trans k5 (fun _ _ e => e) (fun g hg e => by have := e.1; omega)
  have h3 : 10 ≤ w3.heap.size := by have := h.out.2.2; have := lt_of_block h.vt; omega
  have hs4 := k4.size
  have hF : ∀ g, F5 g → w3.heap.size ≤ g := fun g y => by
    rcases s5 g y with u | u
    · exact u.1
    · omega
  refine ⟨⟨vb, st, h.lg.keepNon k35, h.lay.keepNon k35, ⟨nb, fun y => ?_, by omega⟩, fun g y z => ?_, fun g y => ⟨by have := hF g y; omega, l5 g y⟩, fun g y => k35.lt (h.lowL g y)⟩, k35, hF⟩
  · have := h.lowL b2 y; omega
  · have := h.lowL g z; have := hF g y; omega
theorem ex_first {F F' FL : Nat → Prop} {w w' : World} {x b lb q p n : Nat} {X Y : Dk} {L : Lg} (h : VtSt F FL w b lb q p X L) (k : Keep F w w') (s : Sub F' F w) (l : ∀ g, F' g → g < w'.heap.size) (st : StoreAt F' w' q p Y) (hx : w.heap.size ≤ x) (nx : ¬ F' x) (xb : w'.heap[x]? = some (ExB b lb (cu00 n) (.slice none 0 0) false)) :
    ExSt F' FL w' x b lb q p (.slice none 0 0) (cu00 n) (.slice none 0 0) false Y L := by
  have hbw : b < w.heap.size := lt_of_block h.vt
  have hb10 := h.out.2.2
  refine ⟨xb, World.ownsRow_nil _ _ _ _, k.at h.vt h.out.1, st, h.lg.keep k (fun g y z => h.apart g z y), h.lay.keep k (fun g y z => by have := (h.low g z).1; omega), ⟨nx, fun y => ?_, by omega, fun y => by have := h.lowL x y; omega, h.out.2.1, by omega, hb10⟩, fun g y z => ?_, fun g y => ⟨?_, l g y⟩, fun g y => Nat.lt_of_lt_of_le (h.lowL g y) k.size, fun g e => by cases e⟩
  · rcases s b y with u | u
    · exact h.out.1 u
    · omega
  · rcases s g y with u | u
    · exact h.apart g u z
    · have := h.lowL g z; omega
  · rcases s g y with u | u
    · exact (h.low g u).1
    · omega
end Go.Proofs.YtdmckfkhkjkdnaaGreatDoor
namespace Go.Proofs.YtdmckfkhkjkdnaaGreatDoor
open Go.RowKit
def digM (m : Mf) : List UInt8 := digB (shaS (mfBy m))
theorem digB_one (D : List UInt8) : (D.map bv).toArray.all (·.oneCell') = true := by
  rw [List.all_toArray, List.all_eq_true]
  intro x hx
  obtain ⟨y, _, rfl⟩ := List.mem_map.1 hx
  rfl
theorem store_dig (w : World) (g : Nat) (D : List UInt8) (old : Array Value) (h : D.length = 32) (ho : old.size = 32) (hg : w.heap[g]? = some (.cells old 41 (0, 0))) :
    (holdW 41 ⟨g, 0, none⟩ (arrV D)).run Tryz.prog w = .ok () (w.setRow g (D.map bv).toArray) :=
  run_storeVar_row (P := Tryz.prog) w g 41 41 old (D.map bv).toArray hg (by rw [List.size_toArray, List.length_map, h]; exact sz81) (ho.trans (by rw [List.size_toArray, List.length_map, h])) (digB_one D)
theorem load_dig {w : World} {g : Nat} {D : List UInt8} (hg : w.heap[g]? = some (.cells (D.map bv).toArray 41 (0, 0))) (h : D.length = 32) : (holdV 41 ⟨g, 0, none⟩).run Tryz.prog w = .ok (arrV D) w :=
  load81 w g 0 D h (fun j v hv => by rw [Nat.zero_add, cell_of_row _ _ j _ _ _ hg]; simpa using hv)
theorem digM_len (m : Mf) : (digM m).length = 32 := digB_len _
section
attribute [local go_sem ↓] hV41 hV190 hV102 hW41 hW190 hW102 hB190 hB102
theorem mdigest_ok (m : Mf) (a : Option Addr) (n c : Nat) (w : World) (h : okMf m) (hn : n = m.parts.length) (hp : PtsAt w (.slice a n c) m.parts) (h64 : m.parts.length ≤ 64) (hb : (mfBy m).length ≤ 131072) (hK : Kon w) (hF : Frs w) :
    Calls Tryz.prog 37 #[mfV m (.slice a n c)] w fun e w' => e = .returned (.tuple #[arrV (digM m), .nilIface]) ∧ Keep Non w w' := by
  subst hn
  have PU := Lib.hid (fun W (k : Keep Non w W) => mput_ok m (.slice a m.parts.length c) W h (hp.keepNon k) h64)
  have HKF := Lib.hid (And.intro hK hF)
  have b0 := blk_alloc (blk_new w (MfB m (.slice a m.parts.length c))) (.cells z32 41)
  have z0 : ((w.alloc (MfB m (.slice a m.parts.length c))).alloc (.cells z32 41)).heap[w.heap.size + 1]? = some (.cells z32 41 (0, 0)) := alloc2_at _ _ _
  have hl := load_mf b0 h.prev
  have kA : Keep Non w ((w.alloc (MfB m (.slice a m.parts.length c))).alloc (.cells z32 41)) := ((Keep.refl _ _).alloc _).alloc _
  have Z0 := Lib.hid z0
  have KA := Lib.hid kA
  unfold mfV at PU hl ⊢
  dsimp only [z32, MfB] at hl
  clear hp hK hF b0 z0 kA
  go_enter Tryz.func37, Tryz.ntmps37
  go_wp2_with (first
    | (go_at_call 83; refine (PU.out _ (by exact KA.out)).mono ?_; rintro e w1 ⟨v1, rfl, k1, o1⟩; obtain ⟨a1, c1, rfl, _, _⟩ := ownsRow_form o1; have K1 := Lib.hid (KA.out.trans1 k1); have O1 := Lib.hid o1; have Z1 := Lib.hid (nonAt k1 Z0.out); clear k1 o1)
    | (go_at_call 84; refine (sum_any (mfBy m) a1 c1 _ (Rd.ofOwns O1.out) (HKF.out.1.keep K1.out) (HKF.out.2.keep K1.out) hb).mono ?_; rintro e w2 ⟨rfl, k2⟩; have K2 := Lib.hid k2; have hst := store_dig w2 (w.heap.size + 1) (digB (shaS (mfBy m))) z32 (digB_len _) rfl (nonAt k2 Z1.out); clear k2))
  have hlv := load_dig (w := w2.setRow (w.heap.size + 1) (List.map bv (digB (shaS (mfBy m)))).toArray) (setRow_heap _ _ _ _ _ _ (nonAt K2.out Z1.out)) (digB_len _)
  unfold holdV at hlv
  refine bodyPost_ret (v := .tuple #[arrV (digM m), .nilIface]) (by simp [results, Tryz.results37, asAddr, hlv, digM]) rfl ?_
  exact ⟨rfl, (K1.out.trans1 K2.out).setRow (.inr (by omega)) _⟩
theorem chhead_one (T : Nat → Prop) (v : Value) (m : Mf) (w : World) (h : MsAt T w v [m]) (hm : okMf m) (h64 : m.parts.length ≤ 64) (hb : (mfBy m).length ≤ 131072) (hK : Kon w) (hF : Frs w) :
    Calls Tryz.prog 10 #[v] w fun e w' => e = .returned (.tuple #[arrV (digM m), .nilIface]) ∧ Keep Non w w' := by
  have LA := Lib.hid (fun W (k : Keep Non w W) => clast_any T v [m] W (h.keepNon k) (by simp))
  have HKF := Lib.hid (And.intro hK hF)
  obtain ⟨a, c, rfl, hc, ha, hx⟩ := h
  have hlm : lastM [m] = m := rfl
  rw [hlm] at LA
  simp only [List.length_singleton] at LA ⊢
  clear hx ha hK hF hc
  go_enter Tryz.func10, Tryz.ntmps10
  go_wp2_with (first
    | (go_at_call 38; refine (LA.out _ (by first | exact Keep.refl _ _ | exact (Keep.refl _ _).alloc _ | exact ((Keep.refl _ _).alloc _).alloc _)).mono ?_; rintro e w1 ⟨pa, pc, rfl, k1, p1, _⟩; have K1 := Lib.hid k1; have P1 := Lib.hid p1; clear k1 p1)
    | (go_at_call 37; refine (mdigest_ok m pa _ pc _ hm rfl P1.out h64 hb (HKF.out.1.keep (((Keep.refl Non w).alloc _).trans1 K1.out)) (HKF.out.2.keep (((Keep.refl Non w).alloc _).trans1 K1.out))).mono ?_; rintro e w2 ⟨rfl, k2⟩; have K2 := Lib.hid k2; have z2 : w2.heap[w.heap.size]? = some (.cells z32 41 (0, 0)) := nonAt k2 (nonAt K1.out (by exact blk_new w (.cells z32 41))); have hst := store_dig w2 w.heap.size (digM m) z32 (digM_len m) rfl z2; have Z2 := Lib.hid z2; clear k2 z2))
  have hlv := load_dig (w := w2.setRow w.heap.size (List.map bv (digM m)).toArray) (setRow_heap _ _ _ _ _ _ Z2.out) (digM_len m)
  unfold holdV at hlv
  refine bodyPost_ret (v := .tuple #[arrV (digM m), .nilIface]) (by simp [results, Tryz.results10, asAddr, hlv]) rfl ?_
  exact ⟨rfl, ((((Keep.refl Non w).alloc _).trans1 K1.out).trans1 K2.out).setRow (.inr (Nat.le_refl _)) _⟩
end
end Go.Proofs.YtdmckfkhkjkdnaaGreatDoor
namespace Go.Proofs.YtdmckfkhkjkdnaaGreatDoor
open Go.RowKit Go.Maps
def XpTo (w : World) (F : Nat → Prop) (b q : Nat) (L : Lg) (n : Nat) (w' : World) : Prop :=
  Keep (fun g => F g ∨ g = b) w w' ∧ ∃ T v3 Z c, w'.heap[b]? = some (VtB q v3) ∧ MsAt T w' v3 [exM c] ∧ c.hi = n ∧ PEnd L Z c ∧ ∀ g, T g → w.heap.size ≤ g
theorem begin_put {n : Nat} (h : n ≤ 200) : (dk0 16777216).sput cname (cuBy (cu00 n)) = (0, putX (dk0 16777216) cname (cuBy (cu00 n))) := by
  rcases begin_cases (dk0_ok 16777216) h with ⟨_, h⟩ | h
  · have hr : (dk0 16777216).room = 16777216 := rfl
    rw [hr] at h
    omega
  · exact h
theorem xpo_close {F F6 FL : Nat → Prop} {w w6 w7 : World} {x b lb q p n : Nat} {c : Cu} {pv : Value} {Z : Dk} {L : Lg} (k6 : Keep F w w6) (s6 : Sub F6 F w) (hxx : w.heap.size ≤ x) (hc : c.hi = n) (o : CmOut F6 FL w6 x b lb q p c pv Z L w7) (pe : PEnd L Z c) :
    Calls Tryz.prog 32 #[.pointer (some ⟨p, 0, none⟩)] w7 fun e w' => e = .returned (.tuple #[]) ∧ XpTo w F b q L n w' := by
  obtain ⟨F7, v3, T, s7, k7, e7, ms7, hT7⟩ := o
  obtain ⟨G, dG, hG⟩ := e7.st.dk
  refine (dstart_up G p Z w7 dG pe.free.1).mono ?_
  rintro e w8 ⟨rfl, t⟩
  have t8 := StoreTo.of t e7.st.blk e7.st.inF hG
  obtain ⟨k8, F8, s8, d8⟩ := t8
  have k67 := k6.size
  have k77 := k7.size
  refine ⟨rfl, ?_, T, v3, Z, c, k8.at e7.vt e7.out.2.1, ms7.keep k8 (fun g y => (hT7 g y).1), hc, pe, fun g y => Nat.le_trans k6.size (hT7 g y).2.2.2⟩
  refine (k6.trans k7 (fun _ _ y => .inl y) (fun g hg y => ?_)).trans k8 (fun _ _ y => y) (fun g hg y => ?_)
  · rcases y with y | y | y
    · rcases s6 g y with u | u
      · exact .inl u
      · omega
    · omega
    · exact .inr y
  · rcases s7 g y with u | u
    · rcases s6 g u with u | u
      · exact .inl u
      · omega
    · omega
theorem xported_ok {F FL : Nat → Prop} {b lb q p n : Nat} {L : Lg} (w : World) (h : VtSt F FL w b lb q p (dk0 16777216) L) (hl : Log1 L) (h3 : ∀ a, (cellL L a).1 ≠ 3) (hlow : ∀ s ∈ L.shs, s.l = 0) (h0 : 0 < n) (hn : n ≤ L.next) :
    Calls Tryz.prog 9 #[.pointer (some ⟨b, 0, none⟩), .pointer (some ⟨lb, 0, none⟩), .pointer (some ⟨p, 0, none⟩), .int .i64 n, .slice none 0 0] w fun e w' => e = .returned (.tuple #[.pointer (some ⟨b, 0, none⟩), .bool true]) ∧ XpTo w F b q L n w' := by
  have hn2 : n ≤ 200 := by have := hl.next; omega
  have hbp := begin_put hn2
  have PI := begin_inv (L := L) (dk0_ok 16777216) (n := n) hn2 h0 hbp
  have hcd1 : ((dk0 16777216).sput cname (cuBy (cu00 n))).1 = 0 := by rw [hbp]
  have hcd2 : ((dk0 16777216).sput cname (cuBy (cu00 n))).2 = putX (dk0 16777216) cname (cuBy (cu00 n)) := by rw [hbp]
  have BG := Lib.hid (xbegin_ok w h (dk0_ok _) hl hlow n h0 hn 0 hcd1)
  have AL := Lib.hid (fun F' x W (e : ExSt F' FL W x b lb q p (.slice none 0 0) (cu00 n) (.slice none 0 0) false (putX (dk0 16777216) cname (cuBy (cu00 n))) L) => xall_ok W e PI hl h3)
  have H := Lib.hid h
  have HC := Lib.hid hcd2
  clear h PI hcd1 hcd2 hbp h3 hlow
  go_enter Tryz.func9, Tryz.ntmps9
  go_wp2_with (go_at_call 29; refine BG.out.mono ?_; rintro e w6 ⟨x, he, -, k6, F6, s6, l6, st6, hx6⟩; obtain rfl := he rfl; obtain ⟨hxx, nx, xb⟩ := hx6 rfl; rw [HC.out] at st6; have ALW := Lib.hid (AL.out F6 x w6 (ex_first H.out k6 s6 l6 st6 hxx nx xb)); have K6 := Lib.hid k6; have S6 := Lib.hid s6; have XX := Lib.hid hxx; clear he k6 s6 l6 st6 hx6 hxx nx xb)
  refine wp_loop_rounds 1 ?_
  rw [rounds_succ]
  go_wp2_with (first
    | (go_at_call 31; refine ALW.out.mono ?_; rintro e w7 ⟨k, v, rfl, o⟩; obtain ⟨rfl, c, pv, Z, hi, o, pe⟩ := o.resolve_right (fun o => by have := o.2.1; exact absurd (show (16777216 : Nat) < 1000000 from this) (by omega)); have DS := Lib.hid (xpo_close K6.out S6.out XX.out hi o pe); clear hi o pe)
    | (go_at_call 32; refine DS.out.mono ?_; rintro e w8 ⟨rfl, o8⟩; have O8 := Lib.hid o8; clear o8))
  go_ret2
  exact ⟨rfl, O8.out⟩
theorem xported_no {F FL : Nat → Prop} {b lb q p : Nat} {L : Lg} (n : Int) (w : World) (h : VtSt F FL w b lb q p (dk0 16777216) L) (hl : Log1 L) (hn : ¬ (0 < n ∧ n ≤ L.next)) :
    Calls Tryz.prog 9 #[.pointer (some ⟨b, 0, none⟩), .pointer (some ⟨lb, 0, none⟩), .pointer (some ⟨p, 0, none⟩), .int .i64 n, .slice none 0 0] w fun e w' => e = .returned (.tuple #[.pointer (some ⟨b, 0, none⟩), .bool true]) ∧ Keep Non w w' := by
  have BG := Lib.hid (xbegin_no w h (dk0_ok _) hl n hn)
  clear h
  go_enter Tryz.func9, Tryz.ntmps9
  go_wp2_with (go_at_call 29; refine BG.out.mono ?_; rintro e w6 ⟨rfl, k6⟩; have K6 := Lib.hid k6; clear k6)
  go_ret2
  exact ⟨rfl, K6.out⟩
theorem Filled.log1 {L : Lg} {i : Nat} (h : Filled L i) (hi : i ≤ 200) : Log1 L ∧ (∀ s ∈ L.shs, s.l = 0) ∧ ∀ a, (cellL L a).1 ≠ 3 := ⟨h.log hi, h.low, h.not3⟩
theorem FilledM.rest {M : Lg} {i : Nat} {g : Nat → Cl} (h : FilledM M i g) (a : Nat) (ha : i ≤ a) : cellL M a = (0, []) := by
  obtain ⟨s0, s1, s2, e⟩ := three_of h.len
  have u0 : UnitM s0 i := h.un s0 (by rw [e]; simp)
  have u2 : UnitM s2 i := h.un s2 (by rw [e]; simp)
  rw [cell_three e]
  split
  · rw [u0.l, uat0, u0.rest a ha]
  · rw [u2.l, uat0, u2.rest a ha]
theorem FilledM.no3 {M : Lg} {i : Nat} {g : Nat → Cl} (h : FilledM M i g) (hg : ∀ a, (g a).1 ≠ 3) (a : Nat) : (cellL M a).1 ≠ 3 := by
  by_cases ha : a < i
  · rw [h.got a ha]; exact hg a
  · rw [h.rest a (by omega)]; show (0 : Int) ≠ 3; omega
theorem FilledM.slab {M L : Lg} {n t : Nat} (h : FilledM M n (cellL L)) (ht : t ≤ n) (f : Nat) : slabL M t f = slabL L t f := by
  unfold slabL
  refine List.map_congr_left (fun j hj => ?_)
  have := List.mem_range.1 hj
  exact h.got _ (by omega)
def clH1 : List Cl := [(2, [])]
def oH : Obj := .cells #[.int .i64 2, .slice none 0 0] 50 (0, 0)
theorem cellsH (w : World) : CellsIn (w.alloc oH) (.slice (some ⟨w.heap.size, 0, none⟩) 1 1) clH1 := by
  refine ⟨some ⟨w.heap.size, 0, none⟩, 1, rfl, fun j hj => ?_⟩
  have h0 : j = 0 := by have : j < 1 := hj; omega
  subst h0
  refine ⟨w.heap.size, 0, none, 0, rfl, lt_of_block (blk_new w oH), cl0 (k := 2) (blk_new w oH), cl1 (k := 2) (blk_new w oH), ?_, .inr (fun k e => by cases e)⟩
  exact Rd.ofOwns (World.ownsRow_nil (w.alloc oH) 0 5 1)
theorem bagH : (bagL clH1).next = 1 ∧ cellL (bagL clH1) 0 = (2, []) := by
  constructor <;> decide
theorem mirrors_ok (w : World) (hlay : Lay w) (h10 : 10 ≤ w.heap.size) :
    Calls Tryz.prog 4 #[] w fun e w' => e = .returned (.bool true) ∧ Keep Non w w' := by
  have kA : Keep Non w (w.alloc oH) := (Keep.refl _ _).alloc _
  have BG := Lib.hid (tbegin_low (.slice (some ⟨w.heap.size, 0, none⟩) 1 1) clH1 (w.alloc oH) (cellsH w) (by decide) (hlay.keepNon kA) (Nat.le_trans h10 kA.size))
  have hfl := (bagL_filled clH1 (by decide)).log1 (by decide)
  have MR := Lib.hid (fun F FL b lb q p (W : World) (k : Keep Non w W) (h : VtSt F FL W b lb q p (dk0 16777216) (bagL clH1)) => mirrored_ok (.slice none 0 0) W (PicksIn.nil W) (by omega) h.lg hfl.1 hfl.2.1 hfl.2.2 h.lay (Nat.le_trans h10 k.size))
  have RD : Hid (∀ W W' mb, MirEnd W (bagL clH1) W' mb → Calls Tryz.prog 13 #[.pointer (some ⟨mb, 0, none⟩), .int .i64 (0 : Nat)] W' fun r w' => ∃ v, r = .returned (.tuple #[.agg #[.int .i64 2, v], .nilIface]) ∧ Keep Non W' w' ∧ w'.ownsRow W'.heap.size 5 1 v 0 []) := Lib.hid (fun W W' mb h => by
    obtain ⟨_, FM, M, n, l, f, an, nw, _⟩ := h
    have hn1 : n ≠ 0 := fun e => by
      subst e
      have := news_stop (L := bagL clH1) (f := 0) (by rw [nw, bagH.1]; decide)
      rw [nw] at this
      have e2 : cellL (bagL clH1) (0 + ([] : List Cl).length) = (2, []) := bagH.2
      rw [e2] at this
      exact absurd this (by decide)
    have hM : Log1 M := f.log (by have := an.1; have := bagH.1; omega) hfl.1.cells
    have := lgReadL_ok W' (by rw [f.len]; exact l) hM 0 (by omega)
    rw [f.got 0 (by omega), bagH.2] at this
    exact this)
  have KA := Lib.hid kA
  clear kA hlay h10 hfl
  unfold oH at BG
  go_enter Tryz.func4, Tryz.ntmps4
  go_wp2_with (first
    | (go_at_call 6; refine BG.out.mono ?_; rintro e w1 ⟨lb, b, p, q, F, FL, rfl, k1, v1, lo1⟩; have K1 := Lib.hid (KA.out.trans1 k1); have MW := Lib.hid (MR.out F FL b lb q p w1 (KA.out.trans1 k1) v1); clear k1 v1 lo1)
    | (go_at_call 7; refine MW.out.mono ?_; rintro e w2 ⟨mb, rfl, m2⟩; have K2 := Lib.hid (K1.out.trans1 m2.1); have RW := Lib.hid (RD.out _ _ _ m2); clear m2)
    | (go_at_call 13; refine RW.out.mono ?_; rintro e w4 ⟨v4, rfl, k4, o4⟩; obtain ⟨a4, c4, rfl, _, _⟩ := ownsRow_form o4; have K4 := Lib.hid (K2.out.trans1 k4); clear k4 o4))
  go_ret
  exact ⟨rfl, K4.out.alloc _⟩
def VEnd (w : World) (b N E : Nat) (D : List UInt8) : Prop := ∀ W, Keep Non w W → Calls Tryz.prog 11 #[.pointer (some ⟨b, 0, none⟩)] W fun r W1 => ∃ a c, r = .returned (.slice a N c) ∧ Keep Non W W1 ∧
  (∀ W2, Keep Non W1 W2 → Calls Tryz.prog 10 #[.slice a N c] W2 fun r W3 => r = .returned (.tuple #[arrV D, .nilIface]) ∧ Keep Non W2 W3) ∧
  (∀ W2, Keep Non W1 W2 → Calls Tryz.prog 12 #[.slice a N c] W2 fun r W3 => r = .returned (.int .i64 E) ∧ Keep Non W2 W3)
theorem VEnd.nil {w : World} {b q : Nat} (h : w.heap[b]? = some (VtB q (.slice none 0 0))) : VEnd w b 0 0 (List.replicate 32 0) := fun W k => by
  refine (vchain_nil b q none 0 W (nonAt k h)).mono ?_
  rintro r W1 ⟨rfl, k1⟩
  refine ⟨none, 0, rfl, k1, fun W2 k2 => chhead_nil none 0 W2, fun W2 k2 => ?_⟩
  exact cend_any Non (.slice none 0 0) [] W2 (MsAt.nil _ _) (by simp)
theorem VEnd.one {T : Nat → Prop} {w : World} {b q : Nat} {v3 : Value} {m : Mf} (h : w.heap[b]? = some (VtB q v3)) (hm : MsAt T w v3 [m]) (ok : okMf m) (h32 : pts32 m.parts) (h64 : m.parts.length ≤ 64) (hb : (mfBy m).length ≤ 131072) (hlay : Lay w) : VEnd w b 1 m.hi (digM m) := fun W k => by
  refine (vchain_one T b q v3 m W (nonAt k h) (hm.keepNon k) h32 (by omega)).mono ?_
  rintro r W1 ⟨v', rfl, k1, m1⟩
  obtain ⟨a, c, rfl, hx⟩ := id m1
  refine ⟨a, c, rfl, k1, fun W2 k2 => ?_, fun W2 k2 => ?_⟩
  · have l2 := hlay.keepNon ((k.trans1 k1).trans1 k2)
    exact chhead_one _ _ m W2 (m1.keepNon k2) ok h64 hb l2.kon l2.frs
  · exact cend_any _ _ [m] W2 (m1.keepNon k2) (by simp)
theorem PEnd.p32 {L : Lg} {X : Dk} {c : Cu} (h : PEnd L X c) : pts32 c.parts := fun p hp => by
  rw [h.parts] at hp
  obtain ⟨i, _, rfl⟩ := List.mem_map.1 hp
  exact digB_len _
theorem PEnd.one {L : Lg} {X : Dk} {c : Cu} (h : PEnd L X c) {T : Nat → Prop} {w : World} {b q : Nat} {v3 : Value} (hv : w.heap[b]? = some (VtB q v3)) (hm : MsAt T w v3 [exM c]) (hlay : Lay w) : VEnd w b 1 (exM c).hi (digM (exM c)) := by
  have h1 := h.hi
  have h2 := h.few
  refine VEnd.one hv hm h.okm h.p32 (show c.parts.length ≤ 64 by omega) (Nat.le_trans (mf_len h.okm (show c.parts.length ≤ 64 by omega) (show 0 ≤ 1048576 by omega) (show 0 ≤ 1048576 by omega) (show c.hi ≤ 1048576 by omega) (show 0 ≤ 1048576 by omega) (fun p hp => ?_)) (by omega)) hlay
  exact okPt_nums (okPts_all _ _ h.okm.parts p hp)
theorem VtSt.keepS {F FL S : Nat → Prop} {w w' : World} {b lb q p : Nat} {X : Dk} {L : Lg} (h : VtSt F FL w b lb q p X L) (k : Keep S w w') (hn : ∀ g, S g → 10 ≤ g ∧ ¬ F g ∧ ¬ FL g ∧ g ≠ b) : VtSt F FL w' b lb q p X L :=
  ⟨k.at h.vt (fun e => (hn b e).2.2.2 rfl), h.st.keep k (fun g y e => (hn g e).2.1 y), h.lg.keep k (fun g y e => (hn g e).2.2.1 y), h.lay.keep k (fun g hg e => by have := (hn g e).1; omega), h.out, h.apart, fun g y => ⟨(h.low g y).1, k.lt (h.low g y).2⟩, fun g y => k.lt (h.lowL g y)⟩
theorem both_exp {F FL F2 FM : Nat → Prop} {b lb q p b2 mb q2 p2 n t : Nat} {L M : Lg} (w : World) (h : VtSt F FL w b lb q p (dk0 16777216) L) (h2 : VtSt F2 FM w b2 mb q2 p2 (dk0 16777216) M) (hd : ∀ g, (F g ∨ g = b) → ¬ F2 g ∧ ¬ FM g ∧ g ≠ b2)
    (hL : Log1 L ∧ (∀ s ∈ L.shs, s.l = 0) ∧ ∀ a, (cellL L a).1 ≠ 3) (hM : Log1 M ∧ (∀ s ∈ M.shs, s.l = 0) ∧ ∀ a, (cellL M a).1 ≠ 3) (hn : n ≤ L.next) (hm : M.next = n) (hs : ∀ t, t ≤ n → ∀ f, slabL M t f = slabL L t f) (ht : t ≤ n) :
    Calls Tryz.prog 9 #[.pointer (some ⟨b, 0, none⟩), .pointer (some ⟨lb, 0, none⟩), .pointer (some ⟨p, 0, none⟩), .int .i64 t, .slice none 0 0] w fun e w6 => e = .returned (.tuple #[.pointer (some ⟨b, 0, none⟩), .bool true]) ∧ Keep (fun g => F g ∨ g = b) w w6 ∧ ∃ N E D, D.length = 32 ∧ (t = 0 ∨ E = t) ∧
      Calls Tryz.prog 9 #[.pointer (some ⟨b2, 0, none⟩), .pointer (some ⟨mb, 0, none⟩), .pointer (some ⟨p2, 0, none⟩), .int .i64 t, .slice none 0 0] w6 fun e w7 => e = .returned (.tuple #[.pointer (some ⟨b2, 0, none⟩), .bool true]) ∧ Keep (fun g => F2 g ∨ g = b2) w6 w7 ∧ VEnd w7 b N E D ∧ VEnd w7 b2 N E D := by
  have hb10 := h.out.2.2
  have hb2 := h2.out.2.2
  have hd2 : ∀ g, (F2 g ∨ g = b2) → ¬ F g ∧ g ≠ b := fun g y => by
    rcases y with y | y
    · exact ⟨fun z => (hd g (.inl z)).1 y, fun e => (hd g (.inr e)).1 y⟩
    · exact ⟨fun z => (hd g (.inl z)).2.2 y, fun e => (hd g (.inr e)).2.2 y⟩
  by_cases t0 : t = 0
  · subst t0
    refine (xported_no ((0 : Nat) : Int) w h hL.1 (by omega)).mono ?_
    rintro e w6 ⟨rfl, k6⟩
    refine ⟨rfl, k6.ofNon, 0, 0, List.replicate 32 0, by simp, .inl rfl, ?_⟩
    have h6 := h2.keepS (S := Non) k6 (fun _ e => e.elim)
    refine (xported_no ((0 : Nat) : Int) w6 h6 hM.1 (by omega)).mono ?_
    rintro e w7 ⟨rfl, k7⟩
    exact ⟨rfl, k7.ofNon, VEnd.nil (nonAt (k6.trans1 k7) h.vt), VEnd.nil (nonAt (k6.trans1 k7) h2.vt)⟩
  · refine (xported_ok w h hL.1 hL.2.2 hL.2.1 (by omega) (by omega : t ≤ L.next)).mono ?_
    rintro e w6 ⟨rfl, k6, T, v3, Z, c, vb, ms, hc, pe, hT⟩
    refine ⟨rfl, k6, 1, (exM c).hi, digM (exM c), digM_len _, .inr hc, ?_⟩
    have h6 := h2.keepS k6 (fun g y => ⟨by rcases y with y | y; exact (h.low g y).1; omega, hd g y⟩)
    refine (xported_ok w6 h6 hM.1 hM.2.2 hM.2.1 (by omega) (by omega : t ≤ M.next)).mono ?_
    rintro e w7 ⟨rfl, k7, T', v3', Z', c', vb', ms', hc', pe', hT'⟩
    have ec : exM c' = exM c := PEnd.same pe pe' (by omega) (fun i => hs _ (by omega) _)
    have l7 : Lay w7 := h6.lay.keep k7 (fun g hg y => by rcases y with y | y; have := (h6.low g y).1; omega; omega)
    refine ⟨rfl, k7, pe.one (k7.at vb (fun y => (hd2 b y).2 rfl)) (ms.keep k7 (fun g y z => ?_)) l7, by rw [← ec]; exact pe'.one vb' ms' l7⟩
    have := hT g y
    rcases z with z | z
    · have := (h2.low g z).2; omega
    · have := lt_of_block h2.vt; omega
theorem both_long (v pv : Value) (cl : List Cl) (m : Nat) (un : Int) (w : World) (hc : CellsIn w v cl) (hm : cl.length ≤ 9223372036854775807) (hp : PicksIn w pv m) (hlay : Lay w) (h10 : 10 ≤ w.heap.size) (hlong : longL cl = true ∨ 60 < m) :
    Calls Tryz.prog 3 #[v, pv, .int .i64 un] w fun e w' => e = .returned (.bool true) ∧ Keep Non w w' := by
  have MI := Lib.hid (mirrors_ok w hlay h10)
  have LG := Lib.hid (fun W (k : Keep Non w W) => tlong_ok v cl W (hc.keep k (fun _ _ e => e)) hm)
  obtain ⟨xa, xc, rfl, hx⟩ := hc
  obtain ⟨ya, yc, rfl, hy⟩ := hp
  clear hx hy hlay h10
  by_cases hl : longL cl = true
  · rw [hl] at LG
    clear hlong
    go_enter Tryz.func3, Tryz.ntmps3
    go_wp2_with (first
      | (go_at_call 4; refine MI.out.mono ?_; rintro e w1 ⟨rfl, k1⟩; have K1 := Lib.hid k1; clear k1)
      | (go_at_call 5; refine (LG.out _ K1.out).mono ?_; rintro e w2 ⟨rfl, k2⟩; have K2 := Lib.hid (K1.out.trans1 k2); clear k2))
    go_ret
    exact ⟨rfl, K2.out⟩
  · have hl' : longL cl = false := by simpa using hl
    rw [hl'] at LG
    have h60 : (60 : Int) < (m : Int) := by have := hlong.resolve_left hl; omega
    clear hlong hl hl'
    go_enter Tryz.func3, Tryz.ntmps3
    go_wp2_with (first
      | (go_at_call 4; refine MI.out.mono ?_; rintro e w1 ⟨rfl, k1⟩; have K1 := Lib.hid k1; clear k1)
      | (go_at_call 5; refine (LG.out _ K1.out).mono ?_; rintro e w2 ⟨rfl, k2⟩; have K2 := Lib.hid (K1.out.trans1 k2); clear k2))
    go_ret
    exact ⟨rfl, K2.out⟩
theorem cellsIn_nil (w : World) : CellsIn w (.slice none 0 0) [] := ⟨none, 0, rfl, fun j hj => absurd hj (Nat.not_lt_zero _)⟩
theorem long_len {cl : List Cl} (h : longL cl = false) : cl.length ≤ 200 := by
  unfold longL at h
  rw [Bool.or_eq_false_iff] at h
  have := of_decide_eq_false h.2
  omega
theorem both_first {F FL F2 FL2 FM : Nat → Prop} {b lb q p b2 lb2 q2 p2 mb n t : Nat} {cl : List Cl} {M : Lg} {w3 w4 w5 w6 : World} (v1 : VtSt F FL w3 b lb q p (dk0 16777216) (bagL cl)) (v2 : VtSt F2 FL2 w4 b2 lb2 q2 p2 (dk0 16777216) (bagL [])) (lo2 : ∀ g, (F2 g ∨ g = b2) → w3.heap.size ≤ g)
    (k4 : Keep Non w3 w4) (k5 : Keep Non w4 w5) (k6 : Keep Non w5 w6) (l5 : LgAt FM w5 mb 3 M) (f5 : FilledM M n (cellL (bagL cl))) (an : allNon (bagL cl) n) (low5 : ∀ g, FM g → w4.heap.size ≤ g ∧ g < w5.heap.size) (hcl : cl.length ≤ 200) (ht : t ≤ n) :
    Calls Tryz.prog 9 #[.pointer (some ⟨b, 0, none⟩), .pointer (some ⟨lb, 0, none⟩), .pointer (some ⟨p, 0, none⟩), .int .i64 t, .slice none 0 0] w6 fun e w7 => e = .returned (.tuple #[.pointer (some ⟨b, 0, none⟩), .bool true]) ∧ Keep (fun g => F g ∨ g = b) w6 w7 ∧ ∃ N E D, D.length = 32 ∧ (t = 0 ∨ E = t) ∧
      Calls Tryz.prog 9 #[.pointer (some ⟨b2, 0, none⟩), .pointer (some ⟨mb, 0, none⟩), .pointer (some ⟨p2, 0, none⟩), .int .i64 t, .slice none 0 0] w7 fun e w8 => e = .returned (.tuple #[.pointer (some ⟨b2, 0, none⟩), .bool true]) ∧ Keep (fun g => F2 g ∨ g = b2) w7 w8 ∧ VEnd w8 b N E D ∧ VEnd w8 b2 N E D := by
  have hfl := (bagL_filled cl hcl).log1 hcl
  have hnx := hfl.1.next
  have hn := an.1
  have v1' := v1.keepS (S := Non) ((k4.trans1 k5).trans1 k6) (fun _ e => e.elim)
  have v2' := v2.keepS (S := Non) (k5.trans1 k6) (fun _ e => e.elim)
  have z4 := k4.size
  have z5 := k5.size
  have z6 := k6.size
  have hb := lt_of_block v1.vt
  have hb2 := lt_of_block v2.vt
  have v3 : VtSt F2 FM w6 b2 mb q2 p2 (dk0 16777216) M := ⟨v2'.vt, v2'.st, by rw [f5.len]; exact l5.keepNon k6, v2'.lay, ⟨v2.out.1, fun y => by have := (low5 _ y).1; omega, v2.out.2.2⟩, fun g y z => by have := (v2.low g y).2; have := (low5 g z).1; omega, v2'.low, fun g y => by have := (low5 g y).2; omega⟩
  refine both_exp w6 v1' v3 (fun g y => ?_) hfl ⟨f5.log (by omega) hfl.1.cells, f5.low, f5.no3 hfl.2.2⟩ hn f5.next (fun t ht f => f5.slab ht f) ht
  have hg : g < w3.heap.size := by
    rcases y with y | y
    · exact (v1.low g y).2
    · omega
  exact ⟨fun z => by have := lo2 g (.inl z); omega, fun z => by have := (low5 g z).1; omega, fun e => by have := lo2 g (.inr e); omega⟩
theorem tmod_le (un : Int) (n : Nat) : ∃ t : Nat, t ≤ n ∧ (IntKind.wrap .u64 un).tmod ((n : Int) + 1) = t := by
  have h0 : 0 ≤ IntKind.wrap .u64 un := by
    have e : (2 ^ IntKind.u64.bits : Int) = 18446744073709551616 := rfl
    unfold IntKind.wrap
    simp only [e]
    rw [if_neg (by simp [IntKind.signed])]
    omega
  have h1 := Int.tmod_nonneg ((n : Int) + 1) h0
  have h2 := Int.tmod_lt_of_pos (IntKind.wrap .u64 un) (show (0 : Int) < (n : Int) + 1 by omega)
  exact ⟨((IntKind.wrap .u64 un).tmod ((n : Int) + 1)).toNat, by omega, by omega⟩
theorem wrap_succ {n : Nat} (h : n ≤ 200) : IntKind.wrap .u64 ((n : Int) + 1) = (n : Int) + 1 := by
  have e := wrap64 (n := n + 1) (by omega)
  rw [show ((n + 1 : Nat) : Int) = (n : Int) + 1 by omega] at e
  exact e
section
attribute [local go_sem ↓] hV41 hW41
theorem both_go (v pv : Value) (cl : List Cl) (m : Nat) (un : Int) (w : World) (hc : CellsIn w v cl) (hm : cl.length ≤ 9223372036854775807) (hp : PicksIn w pv m) (hlay : Lay w) (h10 : 10 ≤ w.heap.size) (hlong : longL cl = false) (h60 : m ≤ 60) :
    Calls Tryz.prog 3 #[v, pv, .int .i64 un] w fun e w' => e = .returned (.bool true) ∧ Keep Non w w' := by
  have hcl := long_len hlong
  have hfl := (bagL_filled cl hcl).log1 hcl
  have hnx : (bagL cl).next ≤ 200 := hfl.1.next
  have MI := Lib.hid (mirrors_ok w hlay h10)
  have LG := Lib.hid (fun W (k : Keep Non w W) => tlong_ok v cl W (hc.keep k (fun _ _ e => e)) hm)
  have BG := Lib.hid (fun W (k : Keep Non w W) => tbegin_low v cl W (hc.keep k (fun _ _ e => e)) hcl (hlay.keepNon k) (Nat.le_trans h10 k.size))
  have BN := Lib.hid (fun W (k : Keep Non w W) => tbegin_low (.slice none 0 0) [] W (cellsIn_nil W) (by decide) (hlay.keepNon k) (Nat.le_trans h10 k.size))
  have MR := Lib.hid (fun F FL b lb q p (W : World) (k : Keep Non w W) (h : VtSt F FL W b lb q p (dk0 16777216) (bagL cl)) => mirrored_ok pv W (hp.keepNon k) h60 h.lg hfl.1 hfl.2.1 hfl.2.2 h.lay (Nat.le_trans h10 k.size))
  rw [hlong] at LG
  obtain ⟨xa, xc, rfl, hx⟩ := hc
  obtain ⟨ya, yc, rfl, hy⟩ := hp
  have h60' : ¬ (60 : Int) < (m : Int) := by omega
  clear hx hy hlay h10 hlong
  go_enter Tryz.func3, Tryz.ntmps3
  go_wp2_with (first
    | (go_at_call 4; refine MI.out.mono ?_; rintro e w1 ⟨rfl, k1⟩; have K1 := Lib.hid k1; clear k1)
    | (go_at_call 5; refine (LG.out _ K1.out).mono ?_; rintro e w2 ⟨rfl, k2⟩; have K2 := Lib.hid (K1.out.trans1 k2); clear k2)
    | (go_at_call 6; first
        | ((with_reducible refine (BG.out _ K2.out).mono ?_); rintro e w3 ⟨lb, b, p, q, F, FL, rfl, k3, v1, lo1⟩; have K3 := Lib.hid (K2.out.trans1 k3); have V1 := Lib.hid v1; have LO1 := Lib.hid (fun g y => Nat.le_trans K2.out.size (lo1 g y)); clear k3 v1 lo1)
        | ((with_reducible refine (BN.out _ K3.out).mono ?_); rintro e w4 ⟨lb2, b2, p2, q2, F2, FL2, rfl, k4, v2, lo2⟩; have K34 := Lib.hid k4; have K4 := Lib.hid (K3.out.trans1 k4); have V2 := Lib.hid v2; have LO2 := Lib.hid lo2; have V14 := Lib.hid (V1.out.keepS (S := Non) k4 (fun _ e => e.elim)); have MRW := Lib.hid (MR.out F FL b lb q p w4 (K3.out.trans1 k4) (V1.out.keepS (S := Non) k4 (fun _ e => e.elim))); clear k4 v2 lo2))
    | (go_at_call 7; go_loud (refine MRW.out.mono ?_; rintro e w5 ⟨mb, rfl, k5, FM, M, n, l5, f5, an, nw, low5⟩; have K5 := Lib.hid k5; have TL := Lib.hid (lgtail_ok w5 l5 (by rw [f5.se, f5.ep])); have L5 := Lib.hid l5; have F5 := Lib.hid f5; have AN := Lib.hid an; have LOW5 := Lib.hid low5; have hMn : M.next = n := f5.next; have hn2 : n ≤ 200 := (by have := an.1; omega); obtain ⟨t, ht, et⟩ := tmod_le un n; have hw1 : IntKind.wrap .i64 ((n : Int) + 1) = (n : Int) + 1 := IntWalk.i64_in _ (by omega); have hw2 : IntKind.wrap .u64 ((n : Int) + 1) = (n : Int) + 1 := wrap_succ hn2; have hw3 : IntKind.wrap .i64 (t : Int) = (t : Int) := IntWalk.i64_in _ (by omega); have hne : ¬ ((n : Int) + 1 = 0) := (by omega); clear k5 l5 f5 an nw low5))
    | (go_at_call 8; refine TL.out.mono ?_; rintro e w6 ⟨rfl, k6⟩; rw [hMn]; have FIRST := Lib.hid (both_first V1.out V2.out LO2.out K34.out K5.out k6 L5.out F5.out AN.out LOW5.out hcl ht); have KW := Lib.hid ((K4.out.trans1 K5.out).trans1 k6); clear k6)
    | (go_at_call 9; first
        | ((with_reducible refine SECOND.out.mono ?_); rintro e w8 ⟨rfl, k8, ve1, ve2⟩; have K8 := Lib.hid (K7.out.trans k8 (fun _ _ e => e) (fun x hx e => by have := LOB.out x e; omega)); have VE1 := Lib.hid ve1; have VE2 := Lib.hid ve2; have VA := Lib.hid (ve1 w8 (Keep.refl _ _)); clear k8 ve1 ve2)
        | ((with_reducible refine FIRST.out.mono ?_); rintro e w7 ⟨rfl, k7, N, E, D, hD, hE, sec⟩; have K7 := Lib.hid (KW.out.trans k7 (fun _ _ e => e) (fun x hx e => by have := LO1.out x e; omega)); have LOB : Hid (∀ g, (F2 g ∨ g = b2) → w.heap.size ≤ g) := Lib.hid (fun g y => Nat.le_trans K3.out.size (LO2.out g y)); have SECOND := Lib.hid sec; have HDD := Lib.hid (And.intro hD hE); clear k7 sec hD hE))
    | (go_at_call 11; ((with_reducible refine VA.out.mono ?_); rintro r wa ⟨a1, c1, rfl, ka, hh, he⟩; have KA := Lib.hid ka; have HH := Lib.hid (hh wa (Keep.refl _ _)); clear ka hh he))
    | (go_at_call 10; ((with_reducible refine HH.out.mono ?_); rintro r wb ⟨rfl, kb⟩; have KB := Lib.hid (KA.out.trans1 kb); have hst := store_dig (wb.alloc (.cells z32 41)) wb.heap.size D z32 HDD.out.1 rfl (blk_new _ _); obtain ⟨wc, hwc⟩ : ∃ wc, wc = (wb.alloc (.cells z32 41)).setRow wb.heap.size (D.map bv).toArray := ⟨_, rfl⟩; have Kwc : Hid (Keep Non w8 wc) := Lib.hid (by rw [hwc]; exact ((KB.out).alloc _).setRow (.inr (KB.out).size) _); have G1 : Hid (wc.heap[wb.heap.size]? = some (.cells (D.map bv).toArray 41 (0, 0))) := Lib.hid (by rw [hwc]; exact setRow_heap _ _ _ _ _ _ (blk_new _ _)); rw [← hwc] at hst; dsimp only [z32] at hst; have VB := Lib.hid (VE2.out wc Kwc.out); clear kb hwc)))
  have hgd := guard_dig
  have heq := eql_dig D D HDD.out.1 HDD.out.1
  rw [beq_self_eq_true] at heq
  clear MI LG BG BN MR
  by_cases htz : (t : Int) = 0
  all_goals
    go_wp2_with (first
      | (go_at_call 11; first
          | ((with_reducible refine VB.out.mono ?_); rintro r wd ⟨a2, c2, rfl, kd, hh2, he2⟩; have KD := Lib.hid kd; have HH2 := Lib.hid (hh2 wd (Keep.refl _ _)); clear kd hh2 he2)
          | ((with_reducible refine VA2.out.mono ?_); rintro r wg ⟨a3, c3, rfl, kg, hh3, he3⟩; have KG := Lib.hid (Kwf.out.trans1 kg); have VB3 := Lib.hid (VE2.out wg (Kwf.out.trans1 kg)); clear kg hh3 he3)
          | ((with_reducible refine VB3.out.mono ?_); rintro r wh ⟨a4, c4, rfl, kh, hh4, he4⟩; have KH := Lib.hid (KG.out.trans1 kh); have VA4 := Lib.hid (VE1.out wh (KG.out.trans1 kh)); clear kh hh4 he4)
          | ((with_reducible refine VA4.out.mono ?_); rintro r wi ⟨a5, c5, rfl, ki, hh5, he5⟩; have KI := Lib.hid (KH.out.trans1 ki); have EN := Lib.hid (he5 wi (Keep.refl _ _)); clear ki hh5 he5))
      | (go_at_call 10; ((with_reducible refine HH2.out.mono ?_); rintro r we ⟨rfl, ke⟩; clear hst; have KE := Lib.hid ((Kwc.out.trans1 KD.out).trans1 ke); have hst := store_dig (we.alloc (.cells z32 41)) we.heap.size D z32 HDD.out.1 rfl (blk_new _ _); obtain ⟨wf, hwf⟩ : ∃ wf, wf = (we.alloc (.cells z32 41)).setRow we.heap.size (D.map bv).toArray := ⟨_, rfl⟩; have Kwf : Hid (Keep Non w8 wf) := Lib.hid (by rw [hwf]; exact ((KE.out).alloc _).setRow (.inr (KE.out).size) _); have G2 : Hid (wf.heap[we.heap.size]? = some (.cells (D.map bv).toArray 41 (0, 0))) := Lib.hid (by rw [hwf]; exact setRow_heap _ _ _ _ _ _ (blk_new _ _)); rw [← hwf] at hst; dsimp only [z32] at hst; have kcf : Keep Non wc wf := (by rw [hwf]; exact (((KD.out.trans1 ke).alloc _).setRow (.inr (KD.out.trans1 ke).size) _)); have hl1 := load_dig (nonAt kcf G1.out) HDD.out.1; have hl2 := load_dig G2.out HDD.out.1; have VA2 := Lib.hid (VE1.out wf Kwf.out); clear ke hwf kcf))
      | (go_at_call 12; ((with_reducible refine EN.out.mono ?_); rintro r wj ⟨rfl, kj⟩; have KJ := Lib.hid (KI.out.trans1 kj); clear kj; have hEt : E = t := HDD.out.2.resolve_left (by omega); subst hEt)))
    go_ret
    exact ⟨rfl, K8.out.trans1 (by first | exact KJ.out | exact KH.out)⟩
end
theorem whole_both (v pv : Value) (cl : List Cl) (m : Nat) (un : Int) (w : World) (hc : CellsIn w v cl) (hm : cl.length ≤ 9223372036854775807) (hp : PicksIn w pv m) (hlay : Lay w) (h10 : 10 ≤ w.heap.size) :
    Calls Tryz.prog 3 #[v, pv, .int .i64 un] w fun e w' => e = .returned (.bool true) ∧ Keep Non w w' := by
  by_cases h : longL cl = true ∨ 60 < m
  · exact both_long v pv cl m un w hc hm hp hlay h10 h
  · exact both_go v pv cl m un w hc hm hp hlay h10 (by simpa using fun e => h (.inl e)) (by omega)
end Go.Proofs.YtdmckfkhkjkdnaaGreatDoor
