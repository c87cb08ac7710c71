/- A restoring's state; its item in that state. · A restoring's end and the whole of it, in its state. · The law's begin: walked. · The law's walk, over  -/
import Derived.Test.YtobjlgfjfpmceaaGreatDoorQ41
set_option linter.unusedVariables false
set_option maxRecDepth 100000
set_option maxHeartbeats 16000000
namespace Go.Proofs.YtobjlgfjfpmceaaGreatDoor
open Go.RowKit Go.Maps
structure RsIn (F FL : Nat → Prop) (w0 W : World) (b lb x q p c t : Nat) (ad : Addr) (Z : Dk) (L : Lg) : Prop where
  keep : Keep Non w0 W
  lo : ∀ g, F g → w0.heap.size ≤ g ∧ g < W.heap.size
  loL : ∀ g, FL g → w0.heap.size ≤ g ∧ g < W.heap.size
  apart : ∀ g, F g → ¬ FL g
  xn : w0.heap.size ≤ x ∧ ¬ F x ∧ ¬ FL x
  an : w0.heap.size ≤ ad.block ∧ ad.block < W.heap.size ∧ ¬ F ad.block ∧ ¬ FL ad.block ∧ ad.block ≠ x
  st : StoreAt F W q p Z
  lg : LgAt FL W lb 2 L
  rs : W.heap[x]? = some (RsB b lb q 1 0 0 (.slice (some ad) 1 c) t false)
  it : ItAt W ad 0 0 0 1
section
variable {F FL : Nat → Prop} {w0 W w' : World} {b lb x q p c t : Nat} {ad : Addr} {Z : Dk} {L : Lg}
theorem RsIn.non (h : RsIn F FL w0 W b lb x q p c t ad Z L) (k : Keep Non W w') : RsIn F FL w0 w' b lb x q p c t ad Z L :=
  ⟨h.keep.trans1 k, fun g y => ⟨(h.lo g y).1, k.lt (h.lo g y).2⟩, fun g y => ⟨(h.loL g y).1, k.lt (h.loL g y).2⟩, h.apart, h.xn, ⟨h.an.1, k.lt h.an.2.1, h.an.2.2⟩, h.st.keep k (fun _ _ e => e), h.lg.keepNon k, nonAt k h.rs, h.it.keep k (fun e => e)⟩
theorem RsIn.log (h : RsIn F FL w0 W b lb x q p c t ad Z L) {L' : Lg} (k : LgTo FL W lb 2 L' w') : ∃ FL', RsIn F FL' w0 w' b lb x q p c t ad Z L' := by
  obtain ⟨k, F', s, l⟩ := k
  have hxl : x < W.heap.size := lt_of_block h.rs
  refine ⟨fun g => F' g ∧ g < w'.heap.size, h.keep.trans k (fun _ _ e => e) (fun g hg y => by have := (h.loL g y).1; omega), fun g y => ⟨(h.lo g y).1, k.lt (h.lo g y).2⟩, fun g y => ⟨?_, y.2⟩, fun g y z => ?_, ⟨h.xn.1, h.xn.2.1, fun y => ?_⟩, ⟨h.an.1, k.lt h.an.2.1, h.an.2.2.1, fun y => ?_, h.an.2.2.2.2⟩, h.st.keep k (fun g y => h.apart g y), l.low, k.at h.rs h.xn.2.2, h.it.keep k h.an.2.2.2.1⟩
  · rcases s g y.1 with u | u
    · exact (h.loL g u).1
    · have := h.keep.size; omega
  · rcases s g z.1 with u | u
    · exact h.apart g y u
    · have := (h.lo g y).2; omega
  · rcases s x y.1 with u | u
    · exact h.xn.2.2 u
    · omega
  · rcases s _ y.1 with u | u
    · exact h.an.2.2.2.1 u
    · have := h.an.2.1; omega
theorem RsIn.saved (h : RsIn F FL w0 W b lb x q p c t ad Z L) {F' : Nat → Prop} {u : Nat} {Z' : Dk} (k : Keep (fun g => F g ∨ g = x) W w') (s : Sub F' F W) (f : ∀ g, F' g → g < w'.heap.size ∧ g ≠ x) (d : StoreAt F' w' q p Z') (r : w'.heap[x]? = some (RsB b lb q 1 0 0 (.slice (some ad) 1 c) u false)) : RsIn F' FL w0 w' b lb x q p c u ad Z' L := by
  refine ⟨h.keep.trans k (fun _ _ e => e) (fun g hg y => ?_), fun g y => ⟨?_, (f g y).1⟩, fun g y => ⟨(h.loL g y).1, k.lt (h.loL g y).2⟩, fun g y z => ?_, ⟨h.xn.1, fun y => (f x y).2 rfl, h.xn.2.2⟩, ⟨h.an.1, k.lt h.an.2.1, fun y => ?_, h.an.2.2.2⟩, d, h.lg.keep k (fun g y z => ?_), r, h.it.keep k (fun z => ?_)⟩
  · rcases y with y | y
    · have := (h.lo g y).1; omega
    · have := h.xn.1; omega
  · rcases s g y with u | u
    · exact (h.lo g u).1
    · have := h.keep.size; omega
  · rcases s g y with u | u
    · exact h.apart g u z
    · have := (h.loL g z).2; omega
  · rcases s _ y with u | u
    · exact h.an.2.2.1 u
    · have := h.an.2.1; omega
  · rcases z with z | z
    · exact h.apart g z y
    · exact h.xn.2.2 (z ▸ y)
  · rcases z with z | z
    · exact h.an.2.2.1 z
    · exact h.an.2.2.2.2 z
end
structure RvIn (F0 T : Nat → Prop) (w0 : World) (b q0 p0 : Nat) (lv : Value) (m : Mf) (X0 : Dk) : Prop where
  hb : w0.heap[b]? = some (VtB q0 lv)
  st : StoreAt F0 w0 q0 p0 X0
  up : X0.down = false
  lay : Lay w0
  ms : MsAt T w0 lv [m]
  ok : okMf m
  num : m.num = 0
  lo : m.lo = 0
  hi : m.hi = 1
  trim : m.trim = 0
  parts : m.parts = [ptOf 0 [(2, [])]]
  has : fhas X0.shown (labelN 0 0) = true
  get : fget X0.shown (labelN 0 0) = segB 0 [(2, [])]
theorem hole_ok : okCl ((2 : Int), ([] : Byt)) := ⟨by show (0 : Int) ≤ 2; omega, by show (2 : Int) ≤ 3; omega, by show 0 ≤ 64; omega, fun _ => rfl⟩
theorem rit_ok {F0 T F FL : Nat → Prop} {w0 W : World} {b q0 p0 lb x q p c : Nat} {lv : Value} {m : Mf} {ad : Addr} {X0 Z Z2 : Dk} (v : RvIn F0 T w0 b q0 p0 lv m X0) (h : RsIn F FL w0 W b lb x q p c 0 ad Z lA) (hlim : Z.lim 2 2 20000) (hsv : Z.sput rname (cuBy (cuAt 1 1 0)) = (0, Z2)) :
    Calls Tryz.prog 152 #[.pointer (some ⟨x, 0, none⟩), itV 0 0 0 1] W fun e w' => e = .returned .nilIface ∧ ∃ F' FL', RsIn F' FL' w0 w' b lb x q p c 1 ad Z2 lB := by
  have okc : okCu (cuAt 1 1 0) := ⟨trivial, rfl, Nat.le_refl _, by show 1 ≤ 1048576; omega, by show 0 ≤ 1048576; omega, by show 0 ≤ 64; omega⟩
  refine ritem_ok x b lb q (.slice (some ad) 1 c) (fun W1 w1 => LgTo FL W1 lb 2 lB w1) (fun w' => ∃ F' FL', RsIn F' FL' w0 w' b lb x q p c 1 ad Z2 lB) W h.rs ?_ ?_ ?_ ?_
  · intro W1 k1
    have k := h.keep.trans1 k1
    refine (vget_ok F0 T b q0 p0 0 0 lv m [(2, [])] X0 W1 (nonAt k v.hb) (v.st.keep k (fun _ _ e => e)) v.up (v.lay.keepNon k) (v.ms.keepNon k) (by rw [v.parts]; rfl) (by rw [v.parts]; decide) (by omega) v.has v.get (by decide) (fun y hy => by rcases List.mem_cons.1 hy with rfl | hy; exact hole_ok; cases hy) (by decide)).mono ?_
    rintro e w' ⟨v', rfl, k2, xs, o, qs⟩
    obtain ⟨a, cc, rfl, _, _⟩ := ownsRow_form o
    refine ⟨a, cc, rfl, k2, fun W2 k3 => ?_⟩
    have cs : CsAt W2 (.slice a 1 cc) [(2, [])] := CsAt.of (ownsRow_keep o k3 (fun g e y => by have := (o.lt g e).1; have y' : g < W1.heap.size := y; omega)) (qs.keep (S' := Non) k3 (fun g hg y => by have y' : g < W1.heap.size := y; omega) (fun _ _ e => e))
    refine (sgat_ok 0 0 (.slice a 1 cc) [(2, [])] W2 cs (by decide) (fun y hy => by rcases List.mem_cons.1 hy with rfl | hy; exact hole_ok; cases hy) (by omega) (by decide) (by decide)).mono ?_
    rintro e w2 ⟨v2, rfl, k4, o4⟩
    obtain ⟨xa, xc, rfl, _, _⟩ := ownsRow_form o4
    exact ⟨xa, xc, rfl, k4⟩
  · intro W1 xa xc k1
    exact put_lA W1 (h.lg.keepNon k1) (v.lay.keepNon (h.keep.trans1 k1))
  · intro W1 w1 k1 t g o hg ho
    exact t.1.at ho (fun y => by have := (h.loL g y).2; omega)
  · intro W1 w1 k1 t
    obtain ⟨FL', h2⟩ := (h.non k1).log t
    refine (rsave_st F x b lb q p 1 0 0 0 1 (some ad) 1 c Z Z2 w1 h2.rs h2.xn.2.1 h2.st (fun g y => (h2.lo g y).2) hlim okc hsv).mono ?_
    rintro e w' ⟨rfl, F', kk, s', f', d', r'⟩
    exact ⟨rfl, F', FL', h2.saved kk s' f' d' r'⟩
def RsOut (w0 : World) (b lb x q c : Nat) (ad : Addr) (w' : World) : Prop :=
  Keep Non w0 w' ∧ (∃ FL', LgAt FL' w' lb 2 lD) ∧ w'.heap[x]? = some (RsB b lb q 1 0 0 (.slice (some ad) 1 c) 1 true)
theorem rend_st {F FL : Nat → Prop} {w0 W : World} {b lb x q p c : Nat} {ad : Addr} {Z : Dk} (hlay : Lay w0) (h : RsIn F FL w0 W b lb x q p c 1 ad Z lB) (hm : Z.mild) (hmap : IsMap Z.shown) (hdel : (Z.sdel rname).1 = 0) :
    Calls Tryz.prog 153 #[.pointer (some ⟨x, 0, none⟩)] W fun e w' => e = .returned .nilIface ∧ RsOut w0 b lb x q c ad w' := by
  refine rend_ok x b lb q 1 0 0 1 (some ad) 1 c (fun w' => ∃ FL', RsIn F FL' w0 w' b lb x q p c 1 ad Z lC) (fun w' => ∃ FL', RsIn F FL' w0 w' b lb x q p c 1 ad Z lD) (RsOut w0 b lb x q c ad) W h.rs ?_ ?_ ?_ ?_ ?_
  · rintro w' ⟨_, h'⟩
    exact h'.rs
  · rintro w' ⟨_, h'⟩
    exact h'.rs
  · intro W1 k1
    have h1 := h.non k1
    refine (trim_lB W1 h1.lg (hlay.keepNon h1.keep)).mono ?_
    rintro e w' ⟨rfl, t⟩
    exact ⟨rfl, h1.log t⟩
  · rintro w1 W1 ⟨FL', h1⟩ k1
    have h2 := h1.non k1
    refine (cut_lC W1 h2.lg (hlay.keepNon h2.keep)).mono ?_
    rintro e w' ⟨rfl, t⟩
    exact ⟨rfl, h2.log t⟩
  · rintro w2 ⟨FL', h2⟩
    have k8 : Keep (One x) w2 (w2.setCell ⟨x, 8, none⟩ (.bool true)) := (Keep.refl _ _).setOne _ _
    have d8 : StoreAt F (w2.setCell ⟨x, 8, none⟩ (.bool true)) q p Z := h2.st.keep k8 (fun g y e => by have e' : g = x := e; exact h2.xn.2.1 (e' ▸ y))
    have l8 : LgAt FL' (w2.setCell ⟨x, 8, none⟩ (.bool true)) lb 2 lD := h2.lg.keep k8 (fun g y e => by have e' : g = x := e; exact h2.xn.2.2 (e' ▸ y))
    have x8 := rs_set8 h2.rs true
    refine (cuclear_any F q p rname Z _ d8 hm hmap rname_ok).mono ?_
    rintro e w' ⟨rfl, k, F', s, d⟩
    rw [hdel]
    refine ⟨rfl, ?_, ⟨FL', l8.keep k (fun g y z => h2.apart g z y)⟩, k.at x8 h2.xn.2.1⟩
    have kk := h2.keep.trans k8 (fun _ _ e => e) (fun g hg e => by have e' : g = x := e; have := h2.xn.1; omega)
    exact kk.trans k (fun _ _ e => e) (fun g hg y => by have := (h2.lo g y).1; omega)
theorem rall_st {F0 T F FL : Nat → Prop} {w0 W : World} {b q0 p0 lb x q p c : Nat} {lv : Value} {m : Mf} {ad : Addr} {X0 Z Z2 : Dk} (v : RvIn F0 T w0 b q0 p0 lv m X0) (h : RsIn F FL w0 W b lb x q p c 0 ad Z lA) (hlim : Z.lim 2 2 20000) (hsv : Z.sput rname (cuBy (cuAt 1 1 0)) = (0, Z2))
    (hm : Z2.mild) (hmap : IsMap Z2.shown) (hdel : (Z2.sdel rname).1 = 0) :
    Calls Tryz.prog 46 #[.pointer (some ⟨x, 0, none⟩)] W fun e w' => ∃ n : Nat, e = .returned (.tuple #[.int .i64 n, .nilIface]) ∧ RsOut w0 b lb x q c ad w' := by
  refine (rall_any x W 2 (by omega) (fun j W => (j = 2 ∧ RsIn F FL w0 W b lb x q p c 0 ad Z lA) ∨ (j = 1 ∧ ∃ F' FL', RsIn F' FL' w0 W b lb x q p c 1 ad Z2 lB)) (fun u w' => u = .nilIface ∧ RsOut w0 b lb x q c ad w') (.inl ⟨rfl, h⟩) ?_).mono ?_
  · rintro j W1 (⟨rfl, h1⟩ | ⟨rfl, F', FL', h1⟩)
    · refine (rstep_item x b lb q 1 0 0 0 0 0 0 1 c ad (fun u w' => u = .nilIface ∧ ∃ F' FL', RsIn F' FL' w0 w' b lb x q p c 1 ad Z2 lB) W1 h1.rs h1.it (by omega) (fun W2 k => ?_)).mono ?_
      · refine (rit_ok v (h1.non k) hlim hsv).mono ?_
        rintro e w' ⟨rfl, t⟩
        exact ⟨_, rfl, rfl, t⟩
      · rintro e w' ⟨u, rfl, rfl, t⟩
        exact .inl ⟨1, by omega, rfl, .inr ⟨rfl, t⟩⟩
    · refine (rstep_end x b lb q 1 0 0 1 0 0 0 1 c ad (fun u w' => u = .nilIface ∧ RsOut w0 b lb x q c ad w') W1 h1.rs h1.it (by omega) (fun W2 k => ?_)).mono ?_
      · refine (rend_st v.lay (h1.non k) hm hmap hdel).mono ?_
        rintro e w' ⟨rfl, t⟩
        exact ⟨rfl, rfl, t⟩
      · rintro e w' ⟨rfl, t⟩
        exact .inr (.inl ⟨rfl, t⟩)
  · rintro e w' ⟨n, u, rfl, rfl, t⟩
    exact ⟨n, rfl, t⟩
def bagL (cl : List Cl) : Lg := putN ⟨[sh1 16777216], 1, 0, 1⟩ 0 cl
theorem bagL_filled (cl : List Cl) (h : cl.length ≤ 200) : Filled (bagL cl) cl.length := by
  have := putN_filled cl ⟨[sh1 16777216], 1, 0, 1⟩ 0 filled0 (by omega)
  rwa [Nat.zero_add] at this
theorem prat_one (w : World) : PrAt (fun g => w.heap.size ≤ g) ((w.alloc (.cells #[.int .i64 0] 3)).alloc (.cells #[.slice (some ⟨w.heap.size, 0, none⟩) 1 1] 64)) (.slice (some ⟨w.heap.size + 1, 0, none⟩) 1 1) 1 := by
  have h1 : Rd (w.alloc (.cells #[.int .i64 0] 3)) (.slice (some ⟨w.heap.size, 0, none⟩) 1 1) [.int .i64 0] := row_rd w 3 [.int .i64 0]
  have h2 := row_rd (w.alloc (.cells #[.int .i64 0] 3)) 64 [.slice (some ⟨w.heap.size, 0, none⟩) 1 1]
  have e : (w.alloc (.cells #[.int .i64 0] 3)).heap.size = w.heap.size + 1 := by simp
  rw [e] at h2
  refine ⟨_, _, _, rfl, rfl, h2, ⟨rfl, fun i u l hu hl => ?_⟩, by omega, fun v hv k hk => ?_⟩
  · cases i with
    | succ i => simp at hu
    | zero =>
      simp at hu
      subst hu
      have hl' : l = [0] := by simpa [chainsN] using hl.symm
      subst hl'
      exact h1.keepNon ((Keep.refl _ _).alloc _)
  · simp at hv
    subst hv
    simp [Value.ownBlock] at hk
    omega
theorem tbegin_ok (v : Value) (cl : List Cl) (w : World) (hc : CellsIn w v cl) (hn : cl.length ≤ 200) (hlay : Lay w) (h10 : 10 ≤ w.heap.size) :
    Calls Tryz.prog 6 #[v] w fun e w' => ∃ lb b p q F FL, e = .returned (.tuple #[.pointer (some ⟨lb, 0, none⟩), .pointer (some ⟨b, 0, none⟩), .pointer (some ⟨p, 0, none⟩), .bool true]) ∧ Keep Non w w' ∧ VtSt F FL w' b lb q p (dk0 16777216) (bagL cl) := by
  have H := Lib.hid hc
  have HL := Lib.hid hlay
  have NW := Lib.hid (lgNew_ok _ 1 _ _ (hlay.keepNon (((Keep.refl Non w).alloc _).alloc _)) (prat_one w) (by omega) (by omega) (by simp; omega))
  obtain ⟨a, c, rfl, hx⟩ := hc
  clear hx hlay
  go_enter Tryz.func6, Tryz.ntmps6
  go_wp2_with (first
    | (go_at_call 21; refine NW.out.mono ?_; rintro e w1 ⟨lb, rfl, k1, l1⟩; have K1 := Lib.hid ((((Keep.refl Non w).alloc _).alloc _).trans1 k1); have Z1 : Hid (w.heap.size + 2 ≤ w1.heap.size) := Lib.hid (by have := k1.size; simpa using this); have LG1 := Lib.hid l1; clear k1 l1)
    | (go_at_call 7; refine (dnew_any 16777216 w1 (by omega)).mono ?_; rintro e w2 ⟨p, rfl, k2, d2⟩; have K2 := Lib.hid k2; have D2 := Lib.hid d2; clear k2 d2)
    | (go_at_call 8; refine (vopen_ok _ p (dk0 16777216) 0 0 0 w2 D2.out (dk0_free _) (dk0_lim _) (by omega) (by omega) (by omega) (dk0_ok _).tidy (dk0_has _ _)).mono ?_; rintro e w3 ⟨b, q, rfl, vb, k3, hb, F3, s3, nb, l3, st3⟩; have K3 := Lib.hid k3; have VB := Lib.hid vb; have S3 := Lib.hid (And.intro s3 (And.intro nb (And.intro l3 hb))); have ST3 := Lib.hid st3; clear vb k3 hb s3 nb l3 st3))
  have K23 : Hid (Keep Non w1 w3) := Lib.hid (K2.out.trans K3.out (fun _ _ e => e) (fun g hg e => by have := e.1; omega))
  have L3 : Hid (LgAt (fun g => w.heap.size + 2 ≤ g ∧ g < w1.heap.size) w3 lb 1 (bagL [])) := Lib.hid ((LG1.out.keepNon K23.out).mono (fun g y _ => ⟨by have := y.1; simp at this; omega, y.2⟩))
  have KW3 := Lib.hid (K1.out.trans1 K23.out)
  go_loopw [49] (fun i wr => ∃ j : Nat, j ≤ cl.length ∧ i = .int .i64 j ∧ LgTo (fun g => w.heap.size + 2 ≤ g ∧ g < w1.heap.size) w3 lb 1 (bagL (cl.take j)) wr) (fun i _ => cl.length - (intOf i).toNat)
  case atStart => exact ⟨0, by omega, rfl, LgTo.refl L3.out (Keep.refl _ _)⟩
  case round =>
    obtain ⟨j, hj, rfl, tj⟩ := hrel
    have TJ := Lib.hid tj
    obtain ⟨kj, FJ, sj, lj⟩ := tj
    have hz3 := K23.out.size
    have CJ := H.out.keep (S := fun g => w.heap.size ≤ g) ((KW3.out.mono (S := Non) (T := fun g => w.heap.size ≤ g) (fun _ _ e => e.elim)).trans kj (fun _ _ e => e) (fun g hg e => by have := e.1; omega)) (fun g hg e => by omega)
    have CJH := Lib.hid CJ
    clear kj sj lj CJ
    by_cases hlt : j < cl.length
    · have hlj : (j : Int) < (cl.length : Int) := by omega
      obtain ⟨a1, c1, e1, hx⟩ := CJH.out
      injection e1 with e1 e3 e4
      subst e1
      subst e4
      obtain ⟨g, off, sa, sc, rfl, h2, h3, h4, h5, h6⟩ := hx j hlt
      obtain ⟨kj, FJ, sj, lj⟩ := TJ.out
      have hFJ : ∀ g, FJ g → w.heap.size ≤ g := fun g y => by
        rcases sj g y with u | u
        · omega
        · have := KW3.out.size; omega
      have hst : bagL (cl.take (j + 1)) = putL (bagL (cl.take j)) j cl[j] := by
        rw [List.take_add_one, List.getElem?_eq_getElem hlt]
        show putN _ 0 (cl.take j ++ [cl[j]]) = _
        rw [putN_snoc, List.length_take, Nat.zero_add, Nat.min_eq_left (by omega)]
        rfl
      have hfl : Filled (bagL (cl.take j)) j := by
        have := bagL_filled (cl.take j) (by rw [List.length_take]; omega)
        rwa [List.length_take, Nat.min_eq_left (by omega)] at this
      have PU : Hid (∀ W, Keep Non wr W → Calls Tryz.prog 22 #[.pointer (some ⟨lb, 0, none⟩), .int .i64 j, .agg #[.int .i64 cl[j].1, .slice sa cl[j].2.length sc]] W fun r w' => (∃ e, r = .returned (errv e)) ∧ LgTo FJ W lb 1 (putL (bagL (cl.take j)) j cl[j]) w') := Lib.hid (fun W k => by
        refine lput_any W (lj.keepNon k) hfl (by omega) (HL.out.keep (S := fun g => w.heap.size ≤ g) ((KW3.out.mono (T := fun g => w.heap.size ≤ g) (fun _ _ e => e.elim)).trans (kj.trans1 k.ofNon) (fun _ _ e => e) (fun g hg e => by have := e.1; omega)) (fun g hg e => by omega)) (Rd.keepNon h5 k) (by
          rcases h6 with h6 | h6
          · exact .inl h6
          by_cases hne : cl[j].2 = []
          · exact .inl hne
          refine .inr (fun g e => ⟨fun y => ?_, k.lt (h6 g e)⟩)
          have hown : g < w.heap.size := by
            obtain ⟨_, _, e1, hx0⟩ := H.out
            injection e1 with e1 _ _
            obtain ⟨g1, off1, sa1, sc1, q1, q2, q3, q4, q5, q6⟩ := hx0 j hlt
            rw [← e1] at q1
            injection q1 with q1
            injection q1 with q1 q1'
            subst q1
            subst q1'
            have kk : Keep (fun g => w.heap.size ≤ g) w wr := (KW3.out.mono (T := fun g => w.heap.size ≤ g) (fun _ _ e => e.elim)).trans kj (fun _ _ e => e) (fun g hg e => by have := e.1; omega)
            have h4' := cell_keepS kk (by omega) q4
            rw [h4] at h4'
            injection h4' with h4'
            rw [h4'] at e
            exact (q6.resolve_left hne) g e
          have := hFJ g y
          omega))
      have HJ := Lib.hid (And.intro kj sj)
      have HST := Lib.hid hst
      clear h5 h6 hx lj hfl kj sj hst
      generalize cl[j] = y at h3 h4 PU HST
      go_wp2_with (go_at_call 22; refine (PU.out _ ((Keep.refl _ _).alloc _)).mono ?_; rintro e w5 ⟨⟨ee, rfl⟩, t5⟩; have T5 := Lib.hid t5; clear t5)
      refine ⟨⟨j + 1, by omega, by first | rfl | go_num, ?_⟩, by simp [intOf]; omega⟩
      rw [HST.out]
      exact LgTo.trans HJ.out.2 HJ.out.1 (LgTo.pre ((Keep.refl _ _).alloc _) T5.out)
    · obtain rfl : j = cl.length := by omega
      rw [List.take_length] at TJ
      go_wp2_with fail
      refine bodyPost_ret (v := .tuple #[.pointer (some ⟨lb, 0, none⟩), .pointer (some ⟨b, 0, none⟩), .pointer (some ⟨p, 0, none⟩), .bool true]) (by simp [results, Tryz.results6, go_sem]) rfl ?_
      obtain ⟨kj, FJ, sj, lj⟩ := TJ.out
      have h1 := K1.out.size
      have h2 := K2.out.size
      have h3 := K3.out.size
      have hw : w.heap.size ≤ w3.heap.size := KW3.out.size
      have hz := Z1.out
      have hF : ∀ g, F3 g → w1.heap.size ≤ g ∧ g < w3.heap.size := fun g y => by
        have := S3.out.2.2.1 g y
        rcases S3.out.1 g y with u | u
        · exact ⟨u.1, this⟩
        · exact ⟨by omega, this⟩
      have hbb := S3.out.2.2.2
      have kw : Keep Non w wr := KW3.out.trans kj (fun _ _ e => e) (fun g hg e => by have := e.1; omega)
      refine ⟨lb, b, p, q, F3, fun g => FJ g ∧ g < wr.heap.size, rfl, kw, ⟨kj.at VB.out (fun e => by have := e.2; omega), ST3.out.keep kj (fun g y e => by have := hF g y; have := e.2; omega), lj.low, HL.out.keepNon kw, ⟨S3.out.2.1, fun y => ?_, by omega⟩, fun g y z => ?_, fun g y => ⟨by have := hF g y; omega, by have := hF g y; have := kj.size; omega⟩, fun g y => y.2⟩⟩
      · have hb3 : b < w3.heap.size := lt_of_block VB.out
        rcases sj b y.1 with u | u
        · have := u.2; omega
        · omega
      · have := hF g y
        rcases sj g z.1 with u | u
        · have := u.2; omega
        · omega
theorem VtSt.second {F FL F5 : Nat → Prop} {w3 w4 w5 : World} {b lb q p b2 q2 p2 : Nat} {X : Dk} {L : Lg} {room : Nat} (h : VtSt F FL w3 b lb q p X L) (k4 : Keep Non w3 w4) (vb : w5.heap[b2]? = some (VtB q2 (.slice none 0 0))) (k5 : Keep (fun g => w3.heap.size ≤ g ∧ g < w4.heap.size) w4 w5) (hb2 : w4.heap.size ≤ b2) (s5 : Sub F5 (fun g => w3.heap.size ≤ g ∧ g < w4.heap.size) w4) (nb : ¬ F5 b2) (l5 : ∀ g, F5 g → g < w5.heap.size) (st : StoreAt F5 w5 q2 p2 (dk0 room)) :
    VtSt F5 FL w5 b2 lb q2 p2 (dk0 room) L ∧ Keep Non w3 w5 ∧ ∀ g, F5 g → w3.heap.size ≤ g := by
  have k35 : Keep Non w3 w5 := k4.trans k5 (fun _ _ e => e) (fun g hg e => by have := e.1; omega)
  have h3 : 10 ≤ w3.heap.size := by have := h.out.2.2; have := lt_of_block h.vt; omega
  have hs4 := k4.size
  have hF : ∀ g, F5 g → w3.heap.size ≤ g := fun g y => by
    rcases s5 g y with u | u
    · exact u.1
    · omega
  refine ⟨⟨vb, st, h.lg.keepNon k35, h.lay.keepNon k35, ⟨nb, fun y => ?_, by omega⟩, fun g y z => ?_, fun g y => ⟨by have := hF g y; omega, l5 g y⟩, fun g y => k35.lt (h.lowL g y)⟩, k35, hF⟩
  · have := h.lowL b2 y; omega
  · have := h.lowL g z; have := hF g y; omega
theorem ex_first {F F' FL : Nat → Prop} {w w' : World} {x b lb q p n : Nat} {X Y : Dk} {L : Lg} (h : VtSt F FL w b lb q p X L) (k : Keep F w w') (s : Sub F' F w) (l : ∀ g, F' g → g < w'.heap.size) (st : StoreAt F' w' q p Y) (hx : w.heap.size ≤ x) (nx : ¬ F' x) (xb : w'.heap[x]? = some (ExB b lb (cu00 n) (.slice none 0 0) false)) :
    ExSt F' FL w' x b lb q p (.slice none 0 0) (cu00 n) (.slice none 0 0) false Y L := by
  have hbw : b < w.heap.size := lt_of_block h.vt
  have hb10 := h.out.2.2
  refine ⟨xb, World.ownsRow_nil _ _ _ _, k.at h.vt h.out.1, st, h.lg.keep k (fun g y z => h.apart g z y), h.lay.keep k (fun g y z => by have := (h.low g z).1; omega), ⟨nx, fun y => ?_, by omega, fun y => by have := h.lowL x y; omega, h.out.2.1, by omega, hb10⟩, fun g y z => ?_, fun g y => ⟨?_, l g y⟩, fun g y => Nat.lt_of_lt_of_le (h.lowL g y) k.size, fun g e => by cases e⟩
  · rcases s b y with u | u
    · exact h.out.1 u
    · omega
  · rcases s g y with u | u
    · exact h.apart g u z
    · have := h.lowL g z; omega
  · rcases s g y with u | u
    · exact (h.low g u).1
    · omega
def zd1 : Dk := putX (dk0 1048576) rname (cuBy (cu00 1))
def zd2 : Dk := putX zd1 rname (cuBy (cuAt 1 1 0))
theorem cuAt1_ok : okCu (cuAt 1 1 0) := ⟨trivial, rfl, Nat.le_refl _, by show 1 ≤ 1048576; omega, by show 0 ≤ 1048576; omega, by show 0 ≤ 64; omega⟩
theorem zd1_put : (dk0 1048576).sput rname (cuBy (cu00 1)) = (0, zd1) := by
  have hl := cu_len' (cu00_ok (n := 1) (by omega))
  rcases put_cases (dk0_free _) (dk0_lim 1048576) (by omega) rname (cuBy (cu00 1)) (by omega) with ⟨e, h1⟩ | e
  · have hr : (dk0 1048576).room = 1048576 := rfl
    rw [hr] at h1
    omega
  · exact e
theorem zd1_lim : zd1.lim 2 2 6600 := (putX_lim (dk0_lim 1048576) zd1_put).mono (by omega) (by omega) (by have hl := cu_len' (cu00_ok (n := 1) (by omega)); omega)
theorem zd2_put : zd1.sput rname (cuBy (cuAt 1 1 0)) = (0, zd2) := by
  have hl := cu_len' cuAt1_ok
  rcases put_cases (X := zd1) (putX_free (dk0_free _) _ _) zd1_lim (by omega) rname (cuBy (cuAt 1 1 0)) (by omega) with ⟨e, h1⟩ | e
  · have hr : zd1.room = 1048576 := rfl
    rw [hr] at h1
    omega
  · exact e
theorem zd2_lim : zd2.lim 4 4 13200 := (putX_lim zd1_lim zd2_put).mono (by omega) (by omega) (by have hl := cu_len' cuAt1_ok; omega)
theorem zd2_mild : zd2.mild := zd2_lim.mild (by omega) (by omega) (by omega)
theorem zd2_del : (zd2.sdel rname).1 = 0 := by
  have hh : fhas zd2.shown rname = true := putX_has_same zd1_lim.map
  rw [sdel_free (X := zd2) (putX_free (putX_free (dk0_free _) _ _) _ _), if_pos hh]
theorem rover_ok {x b lb q N B M t : Nat} {iv : Value} {ov : Bool} (w : World) (hx : w.heap[x]? = some (RsB b lb q N B M iv t ov)) :
    Calls Tryz.prog 47 #[.pointer (some ⟨x, 0, none⟩)] w fun e w' => e = .returned (.bool ov) ∧ w' = w := by
  have c8 := rs_8 hx
  go_enter Tryz.func47, Tryz.ntmps47
  go_wp2_with fail
  go_ret
  exact ⟨rfl, rfl⟩
theorem sopen_dk0 (F0 : Nat → Prop) (p room : Nat) (w : World) (d0 : DiskAt F0 w p (dk0 room)) :
    Calls Tryz.prog 23 #[.pointer (some ⟨p, 0, none⟩)] w fun e w' => ∃ q, e = .returned (.tuple #[.pointer (some ⟨q, 0, none⟩), .nilIface]) ∧ w.heap.size ≤ q ∧ StoreTo F0 w q p (dk0 room) w' := by
  refine (sopen_up F0 p (dk0 room) 0 0 0 w d0 (dk0_free _) (dk0_lim _) (by omega) (by omega) (by omega) (fun n h => ((dk0_ok room).tidy n h).1)).mono ?_
  rintro e w' ⟨q, ns, rfl, hq, hp, t⟩
  rw [openD_tidy (dk0_ok room).tidy ns hp d0.str] at t
  exact ⟨q, rfl, hq, t⟩
def o0 : Obj := .cells #[.int .i64 0] 3 (0, 0)
def o1 : Obj := .cells #[.int .i64 1] 3 (0, 0)
def o2 (n : Nat) : Obj := .cells #[.slice (some ⟨n, 0, none⟩) 1 1, .slice (some ⟨n + 1, 0, none⟩) 1 1] 64 (0, 0)
theorem prat_two (w : World) : PrAt (fun g => w.heap.size ≤ g) (((w.alloc o0).alloc o1).alloc (o2 w.heap.size)) (.slice (some ⟨w.heap.size + 1 + 1, 0, none⟩) 2 2) 2 := by
  have h1 : Rd (w.alloc o0) (.slice (some ⟨w.heap.size, 0, none⟩) 1 1) [.int .i64 0] := row_rd w 3 [.int .i64 0]
  have e1 : (w.alloc o0).heap.size = w.heap.size + 1 := by show (w.heap.push _).size = _; simp
  have e2 : ((w.alloc o0).alloc o1).heap.size = w.heap.size + 1 + 1 := by show ((w.heap.push _).push _).size = _; simp
  have h2 : Rd ((w.alloc o0).alloc o1) (.slice (some ⟨w.heap.size + 1, 0, none⟩) 1 1) [.int .i64 1] := by have := row_rd (w.alloc o0) 3 [.int .i64 1]; rw [e1] at this; exact this
  have h3 : Rd (((w.alloc o0).alloc o1).alloc (o2 w.heap.size)) (.slice (some ⟨w.heap.size + 1 + 1, 0, none⟩) 2 2) [.slice (some ⟨w.heap.size, 0, none⟩) 1 1, .slice (some ⟨w.heap.size + 1, 0, none⟩) 1 1] := by have := row_rd ((w.alloc o0).alloc o1) 64 [.slice (some ⟨w.heap.size, 0, none⟩) 1 1, .slice (some ⟨w.heap.size + 1, 0, none⟩) 1 1]; rw [e2] at this; exact this
  refine ⟨_, _, _, rfl, rfl, h3, ⟨rfl, fun i u l hu hl => ?_⟩, by omega, fun v hv k hk => ?_⟩
  · match i, hu, hl with
    | 0, hu, hl =>
      simp at hu
      subst hu
      have hl' : l = [0] := by simpa [chainsN] using hl.symm
      subst hl'
      exact h1.keepNon (((Keep.refl _ _).alloc _).alloc _)
    | 1, hu, hl =>
      simp at hu
      subst hu
      have hl' : l = [1] := by simpa [chainsN] using hl.symm
      subst hl'
      exact h2.keepNon ((Keep.refl _ _).alloc _)
    | i + 2, hu, hl => simp at hu
  · simp at hv
    rcases hv with rfl | rfl
    · have : w.heap.size = k := by simpa [Value.ownBlock] using hk
      omega
    · have : w.heap.size + 1 = k := by simpa [Value.ownBlock] using hk
      omega
theorem full_long (hbk : ∀ W, Lay W → 10 ≤ W.heap.size → Calls Tryz.prog 4 #[] W fun e w' => e = .returned (.bool true) ∧ Keep Non W w')
    (v : Value) (cl : List Cl) (room n : Int) (w : World) (hc : CellsIn w v cl) (hm : cl.length ≤ 9223372036854775807) (hlay : Lay w) (h10 : 10 ≤ w.heap.size) (hlong : longL cl = true ∨ room < 0 ∨ 16777216 < room) :
    Calls Tryz.prog 3 #[v, .int .i64 room, .int .i64 n] w fun e w' => e = .returned (.bool true) ∧ Keep Non w w' := by
  have BK := Lib.hid (hbk w hlay h10)
  have HC := Lib.hid hc
  have LO := Lib.hid (fun W (k : Keep Non w W) => tlong_ok v cl W (hc.keep k (fun _ _ e => e)) hm)
  obtain ⟨a, c, rfl, hx⟩ := hc
  clear hx hlay hbk
  by_cases hl : longL cl = true
  · rw [hl] at LO
    go_enter Tryz.func3, Tryz.ntmps3
    go_wp2_with (first
      | (go_at_call 4; refine BK.out.mono ?_; rintro e w1 ⟨rfl, k1⟩; have K1 := Lib.hid k1; clear k1)
      | (go_at_call 5; refine (LO.out _ K1.out).mono ?_; rintro e w2 ⟨rfl, k2⟩; have K2 := Lib.hid (K1.out.trans1 k2); clear k2))
    go_ret
    exact ⟨rfl, K2.out⟩
  · have hl' : longL cl = false := by simpa using hl
    rw [hl'] at LO
    by_cases h0 : room < 0
    · go_enter Tryz.func3, Tryz.ntmps3
      go_wp2_with (first
        | (go_at_call 4; refine BK.out.mono ?_; rintro e w1 ⟨rfl, k1⟩; have K1 := Lib.hid k1; clear k1)
        | (go_at_call 5; refine (LO.out _ K1.out).mono ?_; rintro e w2 ⟨rfl, k2⟩; have K2 := Lib.hid (K1.out.trans1 k2); clear k2))
      go_ret
      exact ⟨rfl, K2.out⟩
    · have h1 : 16777216 < room := by rcases hlong with h | h | h; exact absurd h hl; exact absurd h h0; exact h
      go_enter Tryz.func3, Tryz.ntmps3
      go_wp2_with (first
        | (go_at_call 4; refine BK.out.mono ?_; rintro e w1 ⟨rfl, k1⟩; have K1 := Lib.hid k1; clear k1)
        | (go_at_call 5; refine (LO.out _ K1.out).mono ?_; rintro e w2 ⟨rfl, k2⟩; have K2 := Lib.hid (K1.out.trans1 k2); clear k2))
      go_ret
      exact ⟨rfl, K2.out⟩
theorem full_range (hbk : ∀ W, Lay W → 10 ≤ W.heap.size → Calls Tryz.prog 4 #[] W fun e w' => e = .returned (.bool true) ∧ Keep Non W w')
    (v : Value) (cl : List Cl) (room n : Int) (w : World) (hc : CellsIn w v cl) (hm : cl.length ≤ 9223372036854775807) (hlay : Lay w) (h10 : 10 ≤ w.heap.size) (hlong : longL cl = false) (hn : cl.length ≤ 200) (hr0 : 0 ≤ room) (hr : room ≤ 16777216) (hno : ¬ (0 < n ∧ n ≤ (bagL cl).next)) :
    Calls Tryz.prog 3 #[v, .int .i64 room, .int .i64 n] w fun e w' => e = .returned (.bool true) ∧ Keep Non w w' := by
  have BK := Lib.hid (hbk w hlay h10)
  have HC := Lib.hid hc
  have LO := Lib.hid (fun W (k : Keep Non w W) => tlong_ok v cl W (hc.keep k (fun _ _ e => e)) hm)
  have BG := Lib.hid (fun W (k : Keep Non w W) => tbegin_ok v cl W (hc.keep k (fun _ _ e => e)) hn (hlay.keepNon k) (Nat.le_trans h10 k.size))
  obtain ⟨room, rfl⟩ : ∃ r : Nat, room = r := ⟨room.toNat, by omega⟩
  have hr1 : ¬ (room : Int) < 0 := by omega
  have hr2 : ¬ (16777216 : Int) < (room : Int) := by omega
  have FL0 := bagL_filled cl hn
  have L1 := Lib.hid (FL0.log hn)
  have H3 := Lib.hid FL0.not3
  have HL0 : Hid ((lgS (bagL cl)).l = 0) := Lib.hid FL0.l
  rw [hlong] at LO
  obtain ⟨a, c, rfl, hx⟩ := hc
  clear hx hlay hbk FL0
  go_enter Tryz.func3, Tryz.ntmps3
  go_wp2_with (first
    | (go_at_call 4; refine BK.out.mono ?_; rintro e w1 ⟨rfl, k1⟩; have K1 := Lib.hid k1; clear k1)
    | (go_at_call 5; refine (LO.out _ K1.out).mono ?_; rintro e w2 ⟨rfl, k2⟩; have K2 := Lib.hid (K1.out.trans1 k2); clear k2)
    | (go_at_call 6; refine (BG.out _ K2.out).mono ?_; rintro e w3 ⟨lb, b, p, q, F, FL, rfl, k3, v3⟩; have K3 := Lib.hid (K2.out.trans1 k3); have V3 := Lib.hid v3; clear k3 v3)
    | (go_at_call 7; refine (dnew_any room w3 (by omega)).mono ?_; rintro e w4 ⟨p2, rfl, k4, d4⟩; have K4 := Lib.hid k4; have D4 := Lib.hid d4; clear k4 d4)
    | (go_at_call 8; refine (vopen_ok _ p2 (dk0 room) 0 0 0 w4 D4.out (dk0_free _) (dk0_lim _) (by omega) (by omega) (by omega) (dk0_ok _).tidy (dk0_has _ _)).mono ?_; rintro e w5 ⟨b2, q2, rfl, vb, k5, hb, F5, s5, nb, l5, st5⟩; obtain ⟨v5, k35, f5⟩ := V3.out.second K4.out vb k5 hb s5 nb l5 st5; have V5 := Lib.hid v5; have K5 := Lib.hid (K3.out.trans1 k35); have F5L := Lib.hid f5; have K35 := Lib.hid k35; clear vb k5 hb s5 nb l5 st5 v5 k35 f5)
    | (go_at_call 9; refine (xbegin_no w5 V5.out (dk0_ok _) L1.out n hno).mono ?_; rintro e w6 ⟨rfl, k6⟩; have K6 := Lib.hid (K5.out.trans1 k6); have VB6 := Lib.hid (nonAt k6 V5.out.vt); clear k6)
    | (go_at_call 10; refine (vchain_nil b2 q2 none 0 w6 VB6.out).mono ?_; rintro e w7 ⟨rfl, k7⟩))
  go_ret
  exact ⟨rfl, K6.out.trans1 k7⟩
theorem full_nosave (hbk : ∀ W, Lay W → 10 ≤ W.heap.size → Calls Tryz.prog 4 #[] W fun e w' => e = .returned (.bool true) ∧ Keep Non W w')
    (v : Value) (cl : List Cl) (room n : Int) (w : World) (hc : CellsIn w v cl) (hm : cl.length ≤ 9223372036854775807) (hlay : Lay w) (h10 : 10 ≤ w.heap.size) (hlong : longL cl = false) (hn : cl.length ≤ 200) (hr0 : 0 ≤ room) (hr : room ≤ 16777216) (n' : Nat) (hnn : n = n') (h0 : 0 < n') (hn' : n' ≤ (bagL cl).next) (hcd : ((dk0 room.toNat).sput cname (cuBy (cu00 n'))).1 = 5) :
    Calls Tryz.prog 3 #[v, .int .i64 room, .int .i64 n] w fun e w' => e = .returned (.bool true) ∧ Keep Non w w' := by
  have BK := Lib.hid (hbk w hlay h10)
  have HC := Lib.hid hc
  have LO := Lib.hid (fun W (k : Keep Non w W) => tlong_ok v cl W (hc.keep k (fun _ _ e => e)) hm)
  have BG := Lib.hid (fun W (k : Keep Non w W) => tbegin_ok v cl W (hc.keep k (fun _ _ e => e)) hn (hlay.keepNon k) (Nat.le_trans h10 k.size))
  obtain ⟨room, rfl⟩ : ∃ r : Nat, room = r := ⟨room.toNat, by omega⟩
  have hr1 : ¬ (room : Int) < 0 := by omega
  have hr2 : ¬ (16777216 : Int) < (room : Int) := by omega
  have FL0 := bagL_filled cl hn
  have L1 := Lib.hid (FL0.log hn)
  have H3 := Lib.hid FL0.not3
  have HL0 : Hid ((lgS (bagL cl)).l = 0) := Lib.hid FL0.l
  rw [hlong] at LO
  obtain ⟨a, c, rfl, hx⟩ := hc
  clear hx hlay hbk FL0
  go_enter Tryz.func3, Tryz.ntmps3
  subst hnn
  rw [Int.toNat_natCast] at hcd
  go_wp2_with (first
    | (go_at_call 4; refine BK.out.mono ?_; rintro e w1 ⟨rfl, k1⟩; have K1 := Lib.hid k1; clear k1)
    | (go_at_call 5; refine (LO.out _ K1.out).mono ?_; rintro e w2 ⟨rfl, k2⟩; have K2 := Lib.hid (K1.out.trans1 k2); clear k2)
    | (go_at_call 6; refine (BG.out _ K2.out).mono ?_; rintro e w3 ⟨lb, b, p, q, F, FL, rfl, k3, v3⟩; have K3 := Lib.hid (K2.out.trans1 k3); have V3 := Lib.hid v3; clear k3 v3)
    | (go_at_call 7; refine (dnew_any room w3 (by omega)).mono ?_; rintro e w4 ⟨p2, rfl, k4, d4⟩; have K4 := Lib.hid k4; have D4 := Lib.hid d4; clear k4 d4)
    | (go_at_call 8; refine (vopen_ok _ p2 (dk0 room) 0 0 0 w4 D4.out (dk0_free _) (dk0_lim _) (by omega) (by omega) (by omega) (dk0_ok _).tidy (dk0_has _ _)).mono ?_; rintro e w5 ⟨b2, q2, rfl, vb, k5, hb, F5, s5, nb, l5, st5⟩; obtain ⟨v5, k35, f5⟩ := V3.out.second K4.out vb k5 hb s5 nb l5 st5; have V5 := Lib.hid v5; have K5 := Lib.hid (K3.out.trans1 k35); have F5L := Lib.hid f5; have K35 := Lib.hid k35; clear vb k5 hb s5 nb l5 st5 v5 k35 f5)
    | (go_at_call 9; refine (xbegin_ok w5 V5.out (dk0_ok _) L1.out HL0.out n' h0 hn' 5 hcd).mono ?_; rintro e w6 ⟨x, -, he, k6, F6, s6, l6, st6, -⟩; obtain rfl := he (by decide); have K6 := Lib.hid (K5.out.trans k6 (fun _ _ y => y) (fun g hg y => by have := F5L.out g y; have := K3.out.size; omega)); have VB6 := Lib.hid (k6.at V5.out.vt V5.out.out.1); clear he k6 s6 l6 st6)
    | (go_at_call 10; refine (vchain_nil b2 q2 none 0 w6 VB6.out).mono ?_; rintro e w7 ⟨rfl, k7⟩))
  go_ret
  exact ⟨rfl, K6.out.trans1 k7⟩
end Go.Proofs.YtobjlgfjfpmceaaGreatDoor
