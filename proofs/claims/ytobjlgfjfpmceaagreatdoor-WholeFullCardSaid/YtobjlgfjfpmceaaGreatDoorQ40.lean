/- (*Export).Step, All, Over, Cursor: walked. · export.Begin: walked. · restore.load (no cursor there), restore.Begin: walked. · The law's long and begin -/
import Derived.Test.YtobjlgfjfpmceaaGreatDoorQ36
import Derived.Test.YtobjlgfjfpmceaaGreatDoorQ39
set_option linter.unusedVariables false
set_option maxRecDepth 100000
set_option maxHeartbeats 16000000
namespace Go.Proofs.YtobjlgfjfpmceaaGreatDoor
open Go.RowKit Go.Maps
theorem xstep_part {x b lb : Nat} {c : Cu} {pa : Option Addr} {pn pc : Nat} (v : Value) (Q : World → Prop) (w : World) (hx : w.heap[x]? = some (ExB b lb c (.slice pa pn pc) false)) (hne : c.next ≠ c.hi)
    (hp : ∀ W, Keep Non w W → Calls Tryz.prog 85 #[.pointer (some ⟨x, 0, none⟩)] W fun e w' => e = .returned v ∧ Q w') :
    Calls Tryz.prog 35 #[.pointer (some ⟨x, 0, none⟩)] w fun e w' => e = .returned (.tuple #[.bool false, v]) ∧ Q w' := by
  have c2 := ex_2 hx
  have c3 := ex_3 hx
  have c4 := ex_4 hx
  have c5 := ex_5 hx
  have c6 := ex_6 hx
  have c7 := ex_7 hx
  have DN := Lib.hid (cudone_any c pa pn pc w)
  rw [decide_eq_false hne] at DN
  have HP := Lib.hid hp
  clear hx hp
  unfold cuV at DN
  go_enter Tryz.func35, Tryz.ntmps35
  go_wp2_with (first
    | (go_at_call 84; ((with_reducible refine DN.out.mono ?_); rintro e w1 ⟨rfl, k1⟩))
    | (go_at_call 85; refine (HP.out _ k1).mono ?_; rintro e w2 ⟨rfl, q2⟩))
  go_ret2
  exact ⟨rfl, q2⟩
theorem xstep_commit {x b lb : Nat} {c : Cu} {pa : Option Addr} {pn pc : Nat} (Q : World → Prop) (w : World) (hx : w.heap[x]? = some (ExB b lb c (.slice pa pn pc) false)) (hne : c.next = c.hi)
    (hp : ∀ W, Keep Non w W → Calls Tryz.prog 86 #[.pointer (some ⟨x, 0, none⟩)] W fun e w' => e = .returned .nilIface ∧ Q w') :
    Calls Tryz.prog 35 #[.pointer (some ⟨x, 0, none⟩)] w fun e w' => e = .returned (.tuple #[.bool true, .nilIface]) ∧ Q w' := by
  have c2 := ex_2 hx
  have c3 := ex_3 hx
  have c4 := ex_4 hx
  have c5 := ex_5 hx
  have c6 := ex_6 hx
  have c7 := ex_7 hx
  have DN := Lib.hid (cudone_any c pa pn pc w)
  rw [decide_eq_true hne] at DN
  have HP := Lib.hid hp
  clear hx hp hne
  unfold cuV at DN
  go_enter Tryz.func35, Tryz.ntmps35
  go_wp2_with (first
    | (go_at_call 84; ((with_reducible refine DN.out.mono ?_); rintro e w1 ⟨rfl, k1⟩))
    | (go_at_call 86; refine (HP.out _ k1).mono ?_; rintro e w2 ⟨rfl, q2⟩))
  go_ret2
  exact ⟨rfl, q2⟩
theorem xstep_commit_no {x b lb : Nat} {c : Cu} {pa : Option Addr} {pn pc : Nat} (k : Int) (Q : World → Prop) (w : World) (hx : w.heap[x]? = some (ExB b lb c (.slice pa pn pc) false)) (hne : c.next = c.hi)
    (hp : ∀ W, Keep Non w W → Calls Tryz.prog 86 #[.pointer (some ⟨x, 0, none⟩)] W fun e w' => e = .returned (.iface 45 (.int .i64 k)) ∧ Q w') :
    Calls Tryz.prog 35 #[.pointer (some ⟨x, 0, none⟩)] w fun e w' => e = .returned (.tuple #[.bool false, .iface 45 (.int .i64 k)]) ∧ Q w' := by
  have c2 := ex_2 hx
  have c3 := ex_3 hx
  have c4 := ex_4 hx
  have c5 := ex_5 hx
  have c6 := ex_6 hx
  have c7 := ex_7 hx
  have DN := Lib.hid (cudone_any c pa pn pc w)
  rw [decide_eq_true hne] at DN
  have HP := Lib.hid hp
  clear hx hp hne
  unfold cuV at DN
  go_enter Tryz.func35, Tryz.ntmps35
  go_wp2_with (first
    | (go_at_call 84; ((with_reducible refine DN.out.mono ?_); rintro e w1 ⟨rfl, k1⟩))
    | (go_at_call 86; refine (HP.out _ k1).mono ?_; rintro e w2 ⟨rfl, q2⟩))
  go_ret2
  exact ⟨rfl, q2⟩
theorem xover_ok {x b lb : Nat} {c : Cu} {pv : Value} {ov : Bool} (w : World) (hx : w.heap[x]? = some (ExB b lb c pv ov)) :
    Calls Tryz.prog 12 #[.pointer (some ⟨x, 0, none⟩)] w fun e w' => e = .returned (.bool ov) ∧ w' = w := by
  have c7 := ex_7 hx
  go_enter Tryz.func12, Tryz.ntmps12
  go_wp2_with fail
  go_ret
  exact ⟨rfl, rfl⟩
theorem ExOut.trans {F F1 FL : Nat → Prop} {w w1 w2 : World} {x b lb q p : Nat} {lv : Value} {c : Cu} {ov : Bool} {X : Dk} {L : Lg} (s : Sub F1 F w) (k : Keep (fun g => F g ∨ g = x) w w1) (h : ExOut F1 FL w1 x b lb q p lv c ov X L w2) : ExOut F FL w x b lb q p lv c ov X L w2 := by
  obtain ⟨F2, pv, s2, k2, e⟩ := h
  refine ⟨F2, pv, s.trans s2 k.size, k.trans k2 (fun _ _ y => y) (fun g hg y => ?_), e⟩
  rcases y with y | y
  · rcases s g y with z | z
    · exact .inl z
    · omega
  · exact .inr y
theorem CmOut.trans {F F1 FL : Nat → Prop} {w w1 w2 : World} {x b lb q p : Nat} {c : Cu} {pv : Value} {Z : Dk} {L : Lg} (s : Sub F1 F w) (k : Keep (fun g => F g ∨ g = x) w w1) (h : CmOut F1 FL w1 x b lb q p c pv Z L w2) : CmOut F FL w x b lb q p c pv Z L w2 := by
  obtain ⟨F2, v3, T, s2, k2, e⟩ := h
  refine ⟨F2, v3, T, s.trans s2 k.size, k.trans k2 (fun g _ y => ?_) (fun g hg y => ?_), e⟩
  · rcases y with y | y
    · exact .inl y
    · exact .inr (.inl y)
  · rcases y with y | y
    · rcases s g y with z | z
      · exact .inl z
      · omega
    · exact .inr y
def AllOut (F FL : Nat → Prop) (w : World) (x b lb q p hi room : Nat) (L : Lg) (v : Value) (w' : World) : Prop :=
  (v = .nilIface ∧ ∃ c pv Z, c.hi = hi ∧ CmOut F FL w x b lb q p c pv Z L w' ∧ PEnd L Z c) ∨
  (v = .iface 45 (.int .i64 5) ∧ room < 1000000 ∧ ∃ c Z, ExOut F FL w x b lb q p (.slice none 0 0) c false Z L w' ∧ PErr Z c)
theorem xall_ok {F FL : Nat → Prop} {x b lb q p : Nat} {c : Cu} {pv : Value} {X : Dk} {L : Lg} (w : World) (h : ExSt F FL w x b lb q p (.slice none 0 0) c pv false X L) (hi : PInv L X c) (hl : Log1 L) (h3 : ∀ a, (cellL L a).1 ≠ 3) :
    Calls Tryz.prog 11 #[.pointer (some ⟨x, 0, none⟩)] w fun e w' => ∃ (n : Nat) (v : Value), e = .returned (.tuple #[.int .i64 n, v]) ∧ AllOut F FL w x b lb q p c.hi X.room L v w' := by
  refine xall_any x w (c.hi - c.next) (by have := hi.hi; omega) (fun j W => ∃ F' c' pv' X', j = c'.hi - c'.next ∧ Sub F' F w ∧ Keep (fun g => F g ∨ g = x) w W ∧ ExSt F' FL W x b lb q p (.slice none 0 0) c' pv' false X' L ∧ PInv L X' c' ∧ c'.hi = c.hi ∧ X'.room = X.room) (AllOut F FL w x b lb q p c.hi X.room L) ⟨F, c, pv, X, rfl, Sub.refl _ _, Keep.refl _ _, h, hi, rfl, rfl⟩ ?_
  rintro j W ⟨F', c', pv', X', rfl, s, k, h', hi', e1, e2⟩
  obtain ⟨pa, pc, rfl, _, _⟩ := ownsRow_form h'.row
  have ks : ∀ W', Keep Non W W' → ExSt F' FL W' x b lb q p (.slice none 0 0) c' (.slice pa c'.parts.length pc) false X' L ∧ Keep (fun g => F g ∨ g = x) w W' ∧ Sub F' F w := fun W' kk => ⟨h'.keep kk (fun _ _ e => e), k.trans1 kk.ofNon, s⟩
  by_cases hd : c'.next = c'.hi
  · rcases hi'.three hd with ⟨ep, hr⟩ | ⟨ep, hm, hmap, hdel, hend⟩
    · refine (xstep_commit_no 5 (fun w' => AllOut F FL w x b lb q p c.hi X.room L (.iface 45 (.int .i64 5)) w') W h'.ex hd (fun W' kk => (xcommit_no W' (ks W' kk).1 hi' hd ep).mono ?_)).mono ?_
      · rintro e w' ⟨rfl, o⟩
        exact ⟨rfl, .inr ⟨rfl, by omega, c', X', ExOut.trans s (ks W' kk).2.1 o, hi'.err⟩⟩
      · rintro e w' ⟨rfl, o⟩
        exact .inr (.inr ⟨5, rfl, o⟩)
    · refine (xstep_commit (fun w' => AllOut F FL w x b lb q p c.hi X.room L .nilIface w') W h'.ex hd (fun W' kk => (xcommit_ok W' (ks W' kk).1 hi' hd _ ep hm hmap hdel).mono ?_)).mono ?_
      · rintro e w' ⟨rfl, o⟩
        exact ⟨rfl, .inl ⟨rfl, c', _, _, e1, CmOut.trans s (ks W' kk).2.1 o, hend⟩⟩
      · rintro e w' ⟨rfl, o⟩
        exact .inr (.inl ⟨rfl, o⟩)
  · have hlt : c'.next < c'.hi := by have := hi'.ok.le; omega
    rcases hi'.one hl with ⟨ep, hr⟩ | ep
    · refine (xstep_part (.iface 45 (.int .i64 5)) (fun w' => AllOut F FL w x b lb q p c.hi X.room L (.iface 45 (.int .i64 5)) w') W h'.ex hd (fun W' kk => (xpart_no1 W' (ks W' kk).1 hi' hl hlt 5 (by rw [ep]) (by decide)).mono ?_)).mono ?_
      · rintro e w' ⟨rfl, F2, s2, k2, st2⟩
        rw [ep] at st2
        exact ⟨rfl, .inr ⟨rfl, by omega, c', X', ExOut.trans s (ks W' kk).2.1 ⟨F2, _, s2, k2, st2⟩, hi'.err⟩⟩
      · rintro e w' ⟨rfl, o⟩
        exact .inr (.inr ⟨5, rfl, o⟩)
    · have hcd : (X'.sput (labelN 0 c'.parts.length) (segB c'.next (slabL L c'.hi c'.next))).1 = 0 := by rw [ep]
      have hsp := putX_of ep
      rcases hi'.two hl h3 hlt ep with ⟨ep2, hr⟩ | ⟨ep2, hi2⟩
      · refine (xstep_part (.iface 45 (.int .i64 5)) (fun w' => AllOut F FL w x b lb q p c.hi X.room L (.iface 45 (.int .i64 5)) w') W h'.ex hd (fun W' kk => (xpart_any W' (ks W' kk).1 hi' hl h3 hlt hcd 5 (by rw [hsp, ep2])).mono ?_)).mono ?_
        · rintro e w' ⟨rfl, o⟩
          rw [if_neg (by decide), hsp, ep2] at o
          exact ⟨rfl, .inr ⟨rfl, by omega, c', _, ExOut.trans s (ks W' kk).2.1 o, (hi'.mid hl ep).2⟩⟩
        · rintro e w' ⟨rfl, o⟩
          exact .inr (.inr ⟨5, rfl, o⟩)
      · refine (xstep_part .nilIface (fun w' => ExOut F FL w x b lb q p (.slice none 0 0) (partCu L c') false (putX (putX X' (labelN 0 c'.parts.length) (segB c'.next (slabL L c'.hi c'.next))) cname (cuBy (partCu L c'))) L w') W h'.ex hd (fun W' kk => (xpart_any W' (ks W' kk).1 hi' hl h3 hlt hcd 0 (by rw [hsp, ep2])).mono ?_)).mono ?_
        · rintro e w' ⟨rfl, o⟩
          rw [if_pos rfl, hsp, ep2] at o
          exact ⟨rfl, ExOut.trans s (ks W' kk).2.1 o⟩
        · rintro e w' ⟨rfl, F2, pv2, s2, k2, st2⟩
          refine .inl ⟨(partCu L c').hi - (partCu L c').next, ?_, rfl, F2, _, pv2, _, rfl, s2, k2, st2, hi2, by rw [← e1]; rfl, by rw [← e2]; rfl⟩
          show c'.hi - (c'.next + (slabL L c'.hi c'.next).length) < c'.hi - c'.next
          rw [slab_len]
          omega
structure VtSt (F FL : Nat → Prop) (w : World) (b lb q p : Nat) (X : Dk) (L : Lg) : Prop where
  vt : w.heap[b]? = some (VtB q (.slice none 0 0))
  st : StoreAt F w q p X
  lg : LgAt FL w lb 1 L
  lay : Lay w
  out : ¬ F b ∧ ¬ FL b ∧ 10 ≤ b
  apart : ∀ g, F g → ¬ FL g
  low : ∀ g, F g → 10 ≤ g ∧ g < w.heap.size
  lowL : ∀ g, FL g → g < w.heap.size
structure VtOk (X : Dk) : Prop where
  free : X.free
  tidy : X.tidy
  lim : X.lim 2 2 20000
  cur : fhas X.shown cname = false
  title : fhas X.shown (titleN 0) = false
def cu00 (n : Nat) : Cu := ⟨0, 0, n, 0, []⟩
theorem cu00_ok {n : Nat} (h : n ≤ 200) : okCu (cu00 n) := ⟨trivial, rfl, Nat.zero_le _, by show n ≤ 1048576; omega, by show 0 ≤ 1048576; omega, by show 0 ≤ 64; omega⟩
theorem begin_cases {X : Dk} (h : VtOk X) {n : Nat} (hn : n ≤ 200) : (X.sput cname (cuBy (cu00 n)) = (5, X) ∧ X.room < 1000000) ∨ X.sput cname (cuBy (cu00 n)) = (0, putX X cname (cuBy (cu00 n))) := by
  have hl := cu_len' (cu00_ok hn)
  rcases put_cases h.free h.lim (by omega) cname (cuBy (cu00 n)) (by omega) with ⟨e, h1⟩ | e
  · exact .inl ⟨e, by omega⟩
  · exact .inr e
theorem begin_inv {X : Dk} {L : Lg} (h : VtOk X) {n : Nat} (hn : n ≤ 200) (h0 : 0 < n) (e : X.sput cname (cuBy (cu00 n)) = (0, putX X cname (cuBy (cu00 n)))) : PInv L (putX X cname (cuBy (cu00 n))) (cu00 n) := by
  have hl := cu_len' (cu00_ok hn)
  refine ⟨cu00_ok hn, rfl, hn, h0, by show 0 = min n (64 * 0); omega, by show 64 * 0 < n + 64; omega, rfl, h.free, ?_, putX_tidy h.tidy h.free h.lim.map cname_ok (by omega) e, fun i pt hi => by simp [cu00] at hi, ⟨putX_has_same h.lim.map, putX_get_same h.lim.map⟩, ?_, rfl⟩
  · exact (putX_lim h.lim e).mono (by show 2 + 2 ≤ 4 * 0 + 4; omega) (by show 2 + 2 ≤ 4 * 0 + 4; omega) (by show 20000 + 2 * _ ≤ 30000 * 0 + 30000; omega)
  · rw [putX_has (title_ok 0 (by omega)) (cur_tit 0).symm]
    exact h.title
theorem xbegin_no {F FL : Nat → Prop} {b lb q p : Nat} {X : Dk} {L : Lg} (w : World) (h : VtSt F FL w b lb q p X L) (hv : VtOk X) (hl : Log1 L) (n : Int) (hn : ¬ (0 < n ∧ n ≤ L.next)) :
    Calls Tryz.prog 9 #[.pointer (some ⟨b, 0, none⟩), .pointer (some ⟨lb, 0, none⟩), .int .i64 n] w fun e w' => e = .returned (.tuple #[.pointer none, .iface 45 (.int .i64 1)]) ∧ Keep Non w w' := by
  have LD := Lib.hid (xload_none F b lb q p (.slice none 0 0) X w h.vt h.st hv.free.1 hv.cur)
  have TL := Lib.hid (fun W (k : Keep Non w W) => lgtail_ok W (h.lg.keepNon k) hl.se)
  have CH := Lib.hid (fun W (k : Keep Non w W) => vchain_nil b q none 0 W (nonAt k h.vt))
  have EN : Hid (∀ W, Calls Tryz.prog 13 #[.slice none 0 0] W fun e w' => e = .returned (.int .i64 0) ∧ Keep Non W w') := Lib.hid (fun W => cend_any Non (.slice none 0 0) [] W (MsAt.nil Non W) (by simp))
  clear h hv hl
  go_enter Tryz.func9, Tryz.ntmps9
  go_wp2_with (first
    | (go_at_call 28; ((with_reducible refine LD.out.mono ?_); rintro e w1 ⟨rfl, k1⟩); have K1 := Lib.hid (k1.alloc CuZ); clear k1)
    | (go_at_call 29; refine (TL.out _ K1.out).mono ?_; rintro e w2 ⟨rfl, k2⟩; have K2 := Lib.hid (K1.out.trans1 k2); clear k2)
    | (go_at_call 10; refine (CH.out _ K2.out).mono ?_; rintro e w3 ⟨rfl, k3⟩; have K3 := Lib.hid (K2.out.trans1 k3); clear k3)
    | (go_at_call 13; refine (EN.out _).mono ?_; rintro e w4 ⟨rfl, k4⟩; have K4 := Lib.hid (K3.out.trans1 k4); clear k4))
  all_goals
    go_ret2
    exact ⟨rfl, K4.out⟩
theorem xbegin_ok {F FL : Nat → Prop} {b lb q p : Nat} {X : Dk} {L : Lg} (w : World) (h : VtSt F FL w b lb q p X L) (hv : VtOk X) (hl : Log1 L) (hlow : (lgS L).l = 0) (n : Nat) (h0 : 0 < n) (hn : n ≤ L.next) (code : Int) (hcd : (X.sput cname (cuBy (cu00 n))).1 = code) :
    Calls Tryz.prog 9 #[.pointer (some ⟨b, 0, none⟩), .pointer (some ⟨lb, 0, none⟩), .int .i64 n] w fun e w' => ∃ x, (code = 0 → e = .returned (.tuple #[.pointer (some ⟨x, 0, none⟩), .nilIface])) ∧ (code ≠ 0 → e = .returned (.tuple #[.pointer none, .iface 45 (.int .i64 code)])) ∧ Keep F w w' ∧ ∃ F', Sub F' F w ∧ (∀ g, F' g → g < w'.heap.size) ∧ StoreAt F' w' q p (X.sput cname (cuBy (cu00 n))).2 ∧ (code = 0 → w.heap.size ≤ x ∧ ¬ F' x ∧ w'.heap[x]? = some (ExB b lb (cu00 n) (.slice none 0 0) false)) := by
  have LD := Lib.hid (xload_none F b lb q p (.slice none 0 0) X w h.vt h.st hv.free.1 hv.cur)
  have TL := Lib.hid (fun W (k : Keep Non w W) => lgtail_ok W (h.lg.keepNon k) hl.se)
  have CH := Lib.hid (fun W (k : Keep Non w W) => vchain_nil b q none 0 W (nonAt k h.vt))
  have EN : Hid (∀ W, Calls Tryz.prog 13 #[.slice none 0 0] W fun e w' => e = .returned (.int .i64 0) ∧ Keep Non W w') := Lib.hid (fun W => cend_any Non (.slice none 0 0) [] W (MsAt.nil Non W) (by simp))
  have MK : Hid (∀ W, Calls Tryz.prog 31 #[.slice none 0 0] W fun e w' => e = .returned (.int .i64 0) ∧ Keep Non W w') := Lib.hid (fun W => cmark_any Non (.slice none 0 0) [] W (MsAt.nil Non W) (by simp))
  have LO : Hid (∀ W, Keep Non w W → Calls Tryz.prog 30 #[.pointer (some ⟨lb, 0, none⟩)] W fun e w' => e = .returned (.int .i64 0) ∧ Keep Non W w') := Lib.hid (fun W k => low_ok W (h.lg.keepNon k) (by omega) (by omega) (by rw [hl.shs]; rfl) (fun s hs => by rw [hl.shs] at hs; simp at hs; rw [hs]; exact hlow))
  have ST := Lib.hid (fun W (k : Keep Non w W) => vstore_ok b q (.slice none 0 0) W (nonAt k h.vt))
  have hn200 : n ≤ 200 := by have := hl.next; omega
  obtain ⟨Z, hZ⟩ : ∃ Z, Z = (X.sput cname (cuBy (cu00 n))).2 := ⟨_, rfl⟩
  have SV : Hid (∀ W, Keep Non w W → Calls Tryz.prog 32 #[.pointer (some ⟨q, 0, none⟩), .string ⟨cname.toArray⟩, cuV (cu00 n) (.slice none 0 0)] W fun e w' => e = .returned (errv code) ∧ StoreTo F W q p Z w') := Lib.hid (fun W k => by
    rw [← hcd, hZ]
    have hp : PtsAt W (.slice none 0 0) (cu00 n).parts := PtsAt.of (B := 0) (World.ownsRow_nil _ _ _ _) (fun p hp => by cases hp)
    exact cusave_any F q p (cu00 n) (.slice none 0 0) cname X _ _ _ W (h.st.keep k (fun _ _ e => e)) hv.lim (by omega) (by omega) (by omega) (fun g y => k.lt (h.low g y).2) cname_ok (cu00_ok hn200) hp (by have := cu_len' (cu00_ok hn200); omega))
  rw [← hZ]
  have HF : Hid (∀ g, F g → g < w.heap.size) := Lib.hid (fun g y => (h.low g y).2)
  clear h hv hl hcd hZ hlow
  unfold cuV cu00 cname at SV
  unfold cu00
  dsimp only at SV
  rw [show ((0 : Nat) : Int) = 0 from rfl] at SV
  have ha : ¬ (n : Int) ≤ 0 := by omega
  have hb : ¬ (L.next : Int) < (n : Int) := by omega
  have hc : ¬ (65536 : Int) < (n : Int) := by omega
  have hwr : IntKind.wrap .i64 ((n : Int) - 0) = (n : Int) := IntWalk.i64_in _ (by omega)
  go_enter Tryz.func9, Tryz.ntmps9
  go_wp2_with (first
    | (go_at_call 28; ((with_reducible refine LD.out.mono ?_); rintro e w1 ⟨rfl, k1⟩); have K1 := Lib.hid (k1.alloc CuZ); clear k1)
    | (go_at_call 29; refine (TL.out _ K1.out).mono ?_; rintro e w2 ⟨rfl, k2⟩; have K2 := Lib.hid (K1.out.trans1 k2); clear k2)
    | (go_at_call 10; refine (CH.out _ K2.out).mono ?_; rintro e w3 ⟨rfl, k3⟩; have K3 := Lib.hid (K2.out.trans1 k3); clear k3)
    | (go_at_call 13; refine (EN.out _).mono ?_; rintro e w4 ⟨rfl, k4⟩; have K4 := Lib.hid (K3.out.trans1 k4); clear k4)
    | (go_at_call 30; refine (LO.out _ K4.out).mono ?_; rintro e w5 ⟨rfl, k5⟩; have K5 := Lib.hid (K4.out.trans1 k5); clear k5)
    | (go_at_call 31; refine (MK.out _).mono ?_; rintro e w6 ⟨rfl, k6⟩; have K6 := Lib.hid (K5.out.trans1 k6); clear k6))
  have K7 : Hid (Keep Non w (w6.alloc (.cells #[.int .i64 0, .int .i64 0, .int .i64 n, .int .i64 0, .slice none 0 0] 48)).drew) := Lib.hid (K6.out.alloc _).drew
  have B7 : Hid ((w6.alloc (.cells #[.int .i64 0, .int .i64 0, .int .i64 n, .int .i64 0, .slice none 0 0] 48)).drew.heap[w6.heap.size]? = some (.cells #[.int .i64 0, .int .i64 0, .int .i64 n, .int .i64 0, .slice none 0 0] 48 (0, 0))) := Lib.hid (blk_new w6 _)
  have STW := Lib.hid (ST.out _ K7.out)
  have SVW := Lib.hid (SV.out _ K7.out)
  go_region_law (go_simp; first
    | (go_at_call 33; ((with_reducible refine STW.out.mono ?_); rintro e w8 ⟨rfl, rfl⟩))
    | (go_at_call 32; ((with_reducible refine SVW.out.mono ?_); rintro e w9 ⟨rfl, t9⟩)))
  all_goals
    obtain ⟨k9, F', s9, d9⟩ := t9
    have b9 := k9.at B7.out (fun y => by have := HF.out _ y; have := K6.out.size; omega)
    have y0 : w9.cell? ⟨w6.heap.size, 0, none⟩ = some (.int .i64 0) := by simp [World.cell?, b9]
    have y1 : w9.cell? ⟨w6.heap.size, 1, none⟩ = some (.int .i64 0) := by simp [World.cell?, b9]
    have y2 : w9.cell? ⟨w6.heap.size, 2, none⟩ = some (.int .i64 n) := by simp [World.cell?, b9]
    have y3 : w9.cell? ⟨w6.heap.size, 3, none⟩ = some (.int .i64 0) := by simp [World.cell?, b9]
    have y4 : w9.cell? ⟨w6.heap.size, 4, none⟩ = some (.slice none 0 0) := by simp [World.cell?, b9]
    have KF : Hid (Keep F w w9) := Lib.hid (K7.out.ofNon.trans k9 (fun _ _ y => y) (fun _ _ y => y))
    have S9 : Hid (Sub F' F w) := Lib.hid (fun g y => by
      rcases s9 g y with u | u
      · exact .inl u
      · exact .inr (Nat.le_trans K7.out.size u))
    have D9 := Lib.hid d9
    clear k9 s9 d9 b9
    by_cases h0c : code = 0
    · rw [errv_ok h0c]
      go_wp2_with fail
      go_ret2
      have ka : Keep Non w9 (w9.alloc (ExB b lb ⟨0, 0, n, 0, []⟩ (.slice none 0 0) false)) := (Keep.refl _ _).alloc _
      exact ⟨w9.heap.size, fun _ => rfl, fun e => absurd h0c e, KF.out.trans1 ka.ofNon, fun g => F' g ∧ g < w9.heap.size, fun g y => S9.out g y.1, fun g y => ka.lt y.2, D9.out.low.keep ka (fun _ _ e => e), fun _ => ⟨KF.out.size, fun y => by have := y.2; omega, blk_new w9 _⟩⟩
    · rw [errv_no h0c]
      go_wp2_with fail
      go_ret2
      exact ⟨0, fun e => absurd e h0c, fun _ => rfl, KF.out, fun g => F' g ∧ g < w9.heap.size, fun g y => S9.out g y.1, fun g y => y.2, D9.out.low, fun e => absurd e h0c⟩
theorem rname_ok : okObj rname := by
  refine ⟨?_, by decide, by decide⟩
  unfold okName
  decide
theorem rload_none (F : Nat → Prop) (b lb q p : Nat) (X : Dk) (w : World) (d : StoreAt F w q p X) (hd : X.down = false) (hh : fhas X.shown rname = false) :
    Calls Tryz.prog 90 #[.pointer (some ⟨b, 0, none⟩), .pointer (some ⟨lb, 0, none⟩), .pointer (some ⟨q, 0, none⟩)] w fun e w' => e = .returned (.tuple #[.agg #[.int .i64 0, .int .i64 0, .int .i64 0, .int .i64 0, .slice none 0 0], .bool false, .nilIface]) ∧ Keep Non w w' := by
  have kA : Keep Non w (w.alloc CuZ) := (Keep.refl _ _).alloc _
  have LD := Lib.hid (cuload_none F q p rname X (w.alloc CuZ) (d.keep kA (fun _ _ e => e)) rname_ok hd hh)
  have KA := Lib.hid kA
  have BA := Lib.hid (cuz_new w)
  clear d kA
  unfold sv rname at LD
  dsimp only [CuZ] at LD
  go_enter Tryz.func90, Tryz.ntmps90
  go_wp2_with (go_at_call 77; ((with_reducible refine LD.out.mono ?_); rintro e w2 ⟨rfl, k2⟩); have b2 := nonAt (w := w.alloc CuZ) k2 BA.out; have B2 := Lib.hid b2; have K2 := Lib.hid (KA.out.trans1 k2); have i0' := cu_0 b2; have i1' := cu_1 b2; have i2' := cu_2 b2; have i3' := cu_3 b2; have i4' := cu_4 b2; have j0' := cu_f b2 0; have j1' := cu_f b2 1; have j2' := cu_f b2 2; have j3' := cu_f b2 3; have j4' := cu_f b2 4; clear k2 b2)
  obtain ⟨r0, r1, r2, r3, r4, kf⟩ := cu_five B2.out (.int .i64 0) (.int .i64 0) (.int .i64 0) (.int .i64 0) (.slice none 0 0) _ rfl
  refine bodyPost_ret (v := .tuple #[.agg #[.int .i64 0, .int .i64 0, .int .i64 0, .int .i64 0, .slice none 0 0], .bool false, .nilIface]) (by simp [results, Tryz.results90, go_sem, r0, r1, r2, r3, r4]) rfl ?_
  exact ⟨rfl, K2.out.trans kf (fun _ _ e => e) (fun g hg e => by have e' : g = w.heap.size := e; omega)⟩
def RbEnd (F : Nat → Prop) (w : World) (b lb q p : Nat) (Z : Dk) (x : Nat) (w' : World) : Prop :=
  ∃ ad c F', Keep F w w' ∧ Sub F' F w ∧ (∀ g, F' g → g < w'.heap.size) ∧ StoreAt F' w' q p Z ∧ w.heap.size ≤ x ∧ x < w'.heap.size ∧ ¬ F' x ∧ w'.heap[x]? = some (RsB b lb q 1 0 0 (.slice (some ad) 1 c) 0 false) ∧ ItAt w' ad 0 0 0 1 ∧ w.heap.size ≤ ad.block ∧ ad.block < w'.heap.size ∧ ¬ F' ad.block ∧ ad.block ≠ x
def RbSv (F : Nat → Prop) (w w4 : World) (b lb q p c : Nat) (ad : Addr) (Z : Dk) (w' : World) : Prop :=
  ∃ F', Keep F w w' ∧ Keep (fun g => F g ∨ g = w4.heap.size) w4 w' ∧ Sub F' F w4 ∧ (∀ g, F' g → g < w'.heap.size ∧ g ≠ w4.heap.size) ∧ StoreAt F' w' q p Z ∧ w'.heap[w4.heap.size]? = some (RsB b lb q 1 0 0 (.slice (some ad) 1 c) 0 false)
theorem rb_save (F : Nat → Prop) (b lb q p c : Nat) (ad : Addr) (Z : Dk) (w w4 : World) (k : Keep Non w w4)
    (sv : ∀ W, Keep Non w W → Calls Tryz.prog 32 #[.pointer (some ⟨q, 0, none⟩), .string ⟨rname.toArray⟩, .agg #[.int .i64 0, .int .i64 0, .int .i64 1, .int .i64 0, .slice none 0 0]] W fun e w' => e = .returned .nilIface ∧ StoreTo F W q p Z w') (hF : ∀ g, F g → g < w.heap.size) :
    Calls Tryz.prog 92 #[.pointer (some ⟨w4.heap.size, 0, none⟩), .int .i64 0] (w4.alloc (.cells #[.pointer (some ⟨b, 0, none⟩), .pointer (some ⟨lb, 0, none⟩), .pointer (some ⟨q, 0, none⟩), .int .i64 1, .int .i64 0, .int .i64 0, .slice (some ad) 1 c, .int .i64 0, .bool false] 170 (0, 0))) fun e w' => e = .returned .nilIface ∧ RbSv F w w4 b lb q p c ad Z w' := by
  have hx : (w4.alloc (.cells #[.pointer (some ⟨b, 0, none⟩), .pointer (some ⟨lb, 0, none⟩), .pointer (some ⟨q, 0, none⟩), .int .i64 1, .int .i64 0, .int .i64 0, .slice (some ad) 1 c, .int .i64 0, .bool false] 170 (0, 0))).heap[w4.heap.size]? = some (RsB b lb q 1 0 0 (.slice (some ad) 1 c) 0 false) := blk_new w4 _
  have hxlt : w4.heap.size < (w4.alloc (.cells #[.pointer (some ⟨b, 0, none⟩), .pointer (some ⟨lb, 0, none⟩), .pointer (some ⟨q, 0, none⟩), .int .i64 1, .int .i64 0, .int .i64 0, .slice (some ad) 1 c, .int .i64 0, .bool false] 170 (0, 0))).heap.size := by show _ < (w4.heap.push _).size; simp
  have k5 : Keep Non w4 (w4.alloc (.cells #[.pointer (some ⟨b, 0, none⟩), .pointer (some ⟨lb, 0, none⟩), .pointer (some ⟨q, 0, none⟩), .int .i64 1, .int .i64 0, .int .i64 0, .slice (some ad) 1 c, .int .i64 0, .bool false] 170 (0, 0))) := (Keep.refl _ _).alloc _
  generalize hW : w4.alloc (.cells #[.pointer (some ⟨b, 0, none⟩), .pointer (some ⟨lb, 0, none⟩), .pointer (some ⟨q, 0, none⟩), .int .i64 1, .int .i64 0, .int .i64 0, .slice (some ad) 1 c, .int .i64 0, .bool false] 170 (0, 0)) = W5 at hx hxlt k5 ⊢
  refine (rsave_ok w4.heap.size b lb q 1 0 0 0 0 (some ad) 1 c (fun w' => Keep F W5 w' ∧ ∃ F', Sub F' F W5 ∧ StoreAt F' w' q p Z) W5 hx ?_ ?_).mono ?_
  · rintro w' ⟨kk, _⟩
    exact kk.at hx (fun y => by have := hF _ y; have := k.size; omega)
  · intro W kW
    refine (sv W ((k.trans1 k5).trans1 kW)).mono ?_
    rintro e w' ⟨rfl, kk, F', s', d'⟩
    refine ⟨rfl, (kW.ofNon.trans kk (fun _ _ y => y) (fun _ _ y => y)), F', fun g y => ?_, d'⟩
    rcases s' g y with u | u
    · exact .inl u
    · exact .inr (Nat.le_trans kW.size u)
  · rintro e w' ⟨rfl, w1, ⟨kk, F', s', d'⟩, rfl⟩
    have hn : ∀ g, F' g → g ≠ w4.heap.size := fun g y e => by
      rcases s' g y with u | u
      · have := hF _ u; have := k.size; omega
      · omega
    have b1 := kk.at hx (fun y => by have := hF _ y; have := k.size; omega)
    have k6 : Keep (One w4.heap.size) w1 (w1.setCell ⟨w4.heap.size, 7, none⟩ (.int .i64 0)) := (Keep.refl _ _).setOne _ _
    have K7 : Keep (fun g => F g ∨ g = w4.heap.size) w4 (w1.setCell ⟨w4.heap.size, 7, none⟩ (.int .i64 0)) := (k5.trans kk (fun _ _ e => e.elim) (fun _ _ e => .inl e)).trans k6 (fun _ _ e => e) (fun _ _ e => .inr e)
    refine ⟨rfl, fun g => F' g ∧ g < w1.heap.size, ?_, K7, ?_, ?_, ?_, ?_⟩
    · exact k.trans K7 (fun _ _ e => e.elim) (fun g hg e => e.elim id (fun u => by have := k.size; omega))
    · intro g y
      rcases s' g y.1 with u | u
      · exact .inl u
      · exact .inr (by omega)
    · intro g y
      exact ⟨k6.lt y.2, hn g y.1⟩
    · exact d'.low.keep k6 (fun g y e => hn g y.1 e)
    · exact rs_set7 b1 0
theorem rbegin_ok (F FL T : Nat → Prop) (b lb q0 q p : Nat) (lv : Value) (m : Mf) (pt : Pt) (X Z : Dk) (L : Lg) (w : World) (hb : w.heap[b]? = some (VtB q0 lv)) (hm : MsAt T w lv [m]) (h32 : pts32 m.parts) (hlen : m.parts.length ≤ 10000)
    (ok : okMf m) (hnum : m.num = 0) (hl : m.lo = 0) (hh : m.hi = 1) (htr : m.trim = 0) (hps : m.parts = [pt]) (hf : pt.first = 0) (hma : pt.many = 1)
    (d : StoreAt F w q p X) (hF : ∀ g, F g → g < w.heap.size) (lg : LgAt FL w lb 2 L) (hse : L.se = L.ep) (hnx : L.next = 0) (hup : X.down = false) (hcur : fhas X.shown rname = false) (hlim : X.lim 2 2 20000) (hsv : X.sput rname (cuBy (cu00 1)) = (0, Z)) :
    Calls Tryz.prog 45 #[.pointer (some ⟨b, 0, none⟩), .pointer (some ⟨lb, 0, none⟩), .pointer (some ⟨q, 0, none⟩), .int .i64 1] w fun e w' => ∃ x, e = .returned (.tuple #[.pointer (some ⟨x, 0, none⟩), .nilIface]) ∧ RbEnd F w b lb q p Z x w' := by
  have LD := Lib.hid (rload_none F b lb q p X w d hup hcur)
  have TL : Hid (∀ W, Keep Non w W → Calls Tryz.prog 29 #[.pointer (some ⟨lb, 0, none⟩)] W fun r w' => r = .returned (.tuple #[.int .i64 0, .nilIface]) ∧ Keep Non W w') := Lib.hid (fun W k => by have := lgtail_ok W (lg.keepNon k) hse; rw [hnx] at this; exact this)
  have CH := Lib.hid (fun W (k : Keep Non w W) => vchain_one T b q0 lv m W (nonAt k hb) (hm.keepNon k) h32 hlen)
  have PO := Lib.hid (fun T v W (h : MsAt T W v [m]) => plof_one T v m pt W h ok hnum hl hh htr hps hf hma)
  have SV : Hid (∀ W, Keep Non w W → Calls Tryz.prog 32 #[.pointer (some ⟨q, 0, none⟩), .string ⟨rname.toArray⟩, .agg #[.int .i64 0, .int .i64 0, .int .i64 1, .int .i64 0, .slice none 0 0]] W fun e w' => e = .returned .nilIface ∧ StoreTo F W q p Z w') := Lib.hid (fun W k => by
    have hp : PtsAt W (.slice none 0 0) (cu00 1).parts := PtsAt.of (B := 0) (World.ownsRow_nil _ _ _ _) (fun p hp => by cases hp)
    have := cusave_any F q p (cu00 1) (.slice none 0 0) rname X _ _ _ W (d.keep k (fun _ _ e => e)) hlim (by omega) (by omega) (by omega) (fun g y => k.lt (hF g y)) rname_ok (cu00_ok (by omega)) hp (by have := cu_len' (cu00_ok (n := 1) (by omega)); omega)
    rw [hsv] at this
    exact this)
  have HF := Lib.hid hF
  clear hb hm h32 hlen ok hnum hl hh htr hps hf hma d lg hse hnx hup hcur hlim hsv hF
  go_enter Tryz.func45, Tryz.ntmps45
  go_wp2_with (first
    | (go_at_call 90; ((with_reducible refine LD.out.mono ?_); rintro e w1 ⟨rfl, k1⟩); have K1 := Lib.hid (k1.alloc CuZ); clear k1)
    | (go_at_call 10; refine (CH.out _ K1.out).mono ?_; rintro e w2 ⟨v2, rfl, k2, m2⟩; have K2 := Lib.hid (K1.out.trans1 k2); have PO2 := Lib.hid (PO.out _ v2 w2 m2); clear k2 m2)
    | (go_at_call 91; ((with_reducible refine PO2.out.mono ?_); rintro e w3 ⟨ad, c, rfl, k3, a1, a2, i3⟩); have K3 := Lib.hid (K2.out.trans1 k3); have E3 := Lib.hid (And.intro (Nat.le_trans K2.out.size a1) (And.intro a2 i3)); have P3 := Lib.hid (blk_new w3 (.cells #[.int .i64 1, .int .i64 0, .int .i64 0, .slice (some ad) 1 c] 166 (0, 0))); have K3' : Hid (Keep Non w3 (w3.alloc (.cells #[.int .i64 1, .int .i64 0, .int .i64 0, .slice (some ad) 1 c] 166 (0, 0)))) := Lib.hid ((Keep.refl _ _).alloc _); clear k3 a1 a2 i3)
    | (go_at_call 29; refine (TL.out _ (K3.out.trans1 K3'.out)).mono ?_; rintro e w4 ⟨rfl, k4⟩; have K4' := Lib.hid k4; have p4 := nonAt k4 P3.out; have P4 := Lib.hid p4; obtain ⟨c0, c1, c2, c3, _⟩ := four_cells p4; have kx : Keep Non w4 (w4.alloc (.cells #[.pointer (some ⟨b, 0, none⟩), .pointer (some ⟨lb, 0, none⟩), .pointer (some ⟨q, 0, none⟩), .int .i64 1, .int .i64 0, .int .i64 0, .slice (some ad) 1 c, .int .i64 0, .bool false] 170 (0, 0))) := (Keep.refl _ _).alloc _; have c1' := (four_cells (nonAt kx p4)).2.1; have SW := Lib.hid (rb_save F b lb q p c ad Z w w4 ((K3.out.trans1 K3'.out).trans1 k4) SV.out HF.out); clear k4 p4 kx)
    | (go_at_call 92; ((with_reducible refine SW.out.mono ?_); rintro e w5 ⟨rfl, r5⟩); have R5 := Lib.hid r5; clear r5))
  go_ret2
  obtain ⟨F', kA, kB, s', f', d', x'⟩ := R5.out
  have hw4 : w.heap.size ≤ w4.heap.size := Nat.le_trans (K3.out.trans1 K3'.out).size K4'.out.size
  have had : ad.block < w4.heap.size := Nat.lt_of_lt_of_le E3.out.2.1 (Nat.le_trans K3'.out.size K4'.out.size)
  have i4 : ItAt w4 ad 0 0 0 1 := (E3.out.2.2.keep K3'.out (fun e => e)).keep K4'.out (fun e => e)
  have hxl : w4.heap.size < w5.heap.size := by
    rcases Nat.lt_or_ge w4.heap.size w5.heap.size with h | h
    · exact h
    · rw [Array.getElem?_eq_none h] at x'; cases x'
  have nad : ¬ F' ad.block := fun y => by
    rcases s' _ y with u | u
    · have := HF.out _ u; have := E3.out.1; omega
    · omega
  refine ⟨w4.heap.size, rfl, ad, c, F', kA, fun g y => ?_, fun g y => (f' g y).1, d', hw4, hxl, fun y => (f' _ y).2 rfl, x', i4.keep kB (fun e => ?_), E3.out.1, by omega, nad, by omega⟩
  · rcases s' g y with u | u
    · exact .inl u
    · exact .inr (by omega)
  · rcases e with u | u
    · have := HF.out _ u; have := E3.out.1; omega
    · omega
def CellsIn (w : World) (v : Value) (cl : List Cl) : Prop := ∃ a c, v = .slice a cl.length c ∧ ∀ j (hj : j < cl.length), ∃ g off sa sc, a = some ⟨g, off, none⟩ ∧ g < w.heap.size ∧ w.cell? ⟨g, off + j * 2, none⟩ = some (.int .i64 cl[j].1) ∧ w.cell? ⟨g, off + j * 2 + 1, none⟩ = some (.slice sa cl[j].2.length sc) ∧ Bs w (.slice sa cl[j].2.length sc) cl[j].2 ∧ (cl[j].2 = [] ∨ ∀ k, (Value.slice sa cl[j].2.length sc).ownBlock = some k → k < w.heap.size)
theorem CellsIn.keep {S : Nat → Prop} {w w' : World} {v : Value} {cl : List Cl} (h : CellsIn w v cl) (k : Keep S w w') (hn : ∀ g, g < w.heap.size → ¬ S g) : CellsIn w' v cl := by
  obtain ⟨a, c, rfl, hx⟩ := h
  refine ⟨a, c, rfl, fun j hj => ?_⟩
  obtain ⟨g, off, sa, sc, h1, h2, h3, h4, h5, h6⟩ := hx j hj
  have hc : ∀ i v, w.cell? ⟨g, i, none⟩ = some v → w'.cell? ⟨g, i, none⟩ = some v := fun i v e => by
    have := k.block g h2 (hn g h2)
    unfold World.cell? at *
    rw [this]
    exact e
  exact ⟨g, off, sa, sc, h1, k.lt h2, hc _ _ h3, hc _ _ h4, bs_keepO h5 k (h6.imp id (fun h6 g e => hn g (h6 g e))), h6.imp id (fun h6 k' e => k.lt (h6 k' e))⟩
def longL (cl : List Cl) : Bool := cl.any (fun x => decide (64 < x.2.length)) || decide (200 < cl.length)
theorem tlong_ok (v : Value) (cl : List Cl) (w : World) (h : CellsIn w v cl) (hm : cl.length ≤ 9223372036854775807) :
    Calls Tryz.prog 5 #[v, .int .i64 200] w fun e w' => e = .returned (.bool (longL cl)) ∧ Keep Non w w' := by
  have H := Lib.hid h
  obtain ⟨a, c, rfl, hx⟩ := h
  clear hx
  go_enter Tryz.func5, Tryz.ntmps5
  go_wp2_with fail
  go_loopw [9] (fun i wr => ∃ j : Nat, j ≤ cl.length ∧ i = .int .i64 j ∧ Keep Non w wr ∧ (cl.take j).any (fun x => decide (64 < x.2.length)) = false) (fun i _ => cl.length - (intOf i).toNat)
  case atStart => exact ⟨0, by omega, rfl, Keep.refl _ _, rfl⟩
  case round =>
    obtain ⟨j, hj, rfl, hk, hl⟩ := hrel
    by_cases hlt : j < cl.length
    · have hlj : (j : Int) < (cl.length : Int) := by omega
      obtain ⟨a1, c1, e1, hx⟩ := H.out.keep hk (fun _ _ e => e)
      injection e1 with e1 e3 e4
      subst e1
      subst e4
      obtain ⟨g, off, sa, sc, rfl, h2, h3, h4, h5, h6⟩ := hx j hlt
      have hst : (cl.take (j + 1)).any (fun x => decide (64 < x.2.length)) = ((cl.take j).any (fun x => decide (64 < x.2.length)) || decide (64 < cl[j].2.length)) := by
        rw [List.take_add_one, List.getElem?_eq_getElem hlt, List.any_append]
        simp only [Option.toList_some, List.any_cons, List.any_nil, Bool.or_false]
      rw [hl, Bool.false_or] at hst
      have hany : 64 < cl[j].2.length → longL cl = true := fun e => by
        unfold longL
        rw [List.any_eq_true.2 ⟨cl[j], List.getElem_mem _, by simpa using e⟩]
        rfl
      generalize cl[j] = y at h3 h4 hst hany
      clear hx h5 h6
      by_cases h64 : 64 < y.2.length
      · have h64' : (64 : Int) < (y.2.length : Int) := by omega
        have hL := hany h64
        go_wp2_with fail
        go_ret
        exact ⟨by first | rfl | rw [hL], hk.alloc _⟩
      · have h64' : ¬ (64 : Int) < (y.2.length : Int) := by omega
        rw [decide_eq_false h64] at hst
        go_wp2_with fail
        exact ⟨⟨j + 1, by omega, by first | rfl | go_num, hk.alloc _, hst⟩, by simp [intOf]; omega⟩
    · obtain rfl : j = cl.length := by omega
      rw [List.take_length] at hl
      have hb : (decide ((200 : Int) < (cl.length : Int))) = longL cl := by
        unfold longL
        rw [hl, Bool.false_or]
        by_cases h2 : 200 < cl.length
        · rw [decide_eq_true h2, decide_eq_true (by omega)]
        · rw [decide_eq_false h2, decide_eq_false (by omega)]
      go_wp2_with fail
      go_ret
      exact ⟨by first | (rw [← hb]; rfl) | (rw [← hb]; simp), hk⟩
def putN (L : Lg) : Nat → List Cl → Lg
  | _, [] => L
  | i, x :: r => putN (putL L i x) (i + 1) r
theorem putN_snoc : ∀ (l : List Cl) (L : Lg) (i : Nat) (x : Cl), putN L i (l ++ [x]) = putL (putN L i l) (i + l.length) x
  | [], L, i, x => rfl
  | y :: r, L, i, x => by
    show putN (putL L i y) (i + 1) (r ++ [x]) = _
    rw [putN_snoc r]
    have e : i + 1 + r.length = i + (y :: r).length := by simp; omega
    rw [e]
    rfl
theorem putN_filled : ∀ (l : List Cl) (L : Lg) (i : Nat), Filled L i → i + l.length ≤ 200 → Filled (putN L i l) (i + l.length)
  | [], L, i, h, _ => h
  | y :: r, L, i, h, hl => by
    simp at hl
    have := putN_filled r (putL L i y) (i + 1) (h.put (by omega) y) (by omega)
    have e : i + 1 + r.length = i + (y :: r).length := by simp; omega
    rw [e] at this
    exact this
theorem dk0_free (room : Nat) : (dk0 room).free := ⟨rfl, by show (-1 : Int) < 0; decide⟩
theorem dk0_has (room : Nat) (n : Byt) : fhas (dk0 room).shown n = false := rfl
theorem dk0_lim (room : Nat) : (dk0 room).lim 0 0 0 := ⟨Nat.le_refl _, Nat.le_refl _, Nat.le_refl _, by show (-1 : Int) ≤ 1000000000; decide, ⟨[], rfl⟩⟩
theorem dk0_ok (room : Nat) : VtOk (dk0 room) := ⟨dk0_free room, (fun n h => by rw [dk0_has] at h; cases h), (dk0_lim room).mono (by omega) (by omega) (by omega), dk0_has _ _, dk0_has _ _⟩
end Go.Proofs.YtobjlgfjfpmceaaGreatDoor
