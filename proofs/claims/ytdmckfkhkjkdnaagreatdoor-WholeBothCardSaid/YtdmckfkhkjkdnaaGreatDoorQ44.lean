/- (*Export).All, (*Restore).All: steps till one is the last, or fails: walked. · (*Export).Step, All, Over, Cursor: walked. · export.Begin: walked. · pl -/
import Derived.Test.YtdmckfkhkjkdnaaGreatDoorQ37
import Derived.Test.YtdmckfkhkjkdnaaGreatDoorQ39
import Derived.Test.YtdmckfkhkjkdnaaGreatDoorQ43
set_option linter.unusedVariables false
set_option maxRecDepth 100000
set_option maxHeartbeats 16000000
namespace Go.Proofs.YtdmckfkhkjkdnaaGreatDoor
open Go.RowKit
theorem least_of {p : Nat → Prop} : ∀ n, p n → ∃ j, p j ∧ ∀ k, p k → j ≤ k := by
  intro n
  induction n using Nat.strongRecOn with
  | _ n ih =>
    intro h
    by_cases hk : ∃ k, k < n ∧ p k
    · obtain ⟨k, h1, h2⟩ := hk
      exact ih k h1 h2
    · exact ⟨n, h, fun k hp => by
        rcases Nat.lt_or_ge k n with h1 | h1
        · exact absurd ⟨k, h1, hp⟩ hk
        · exact h1⟩
open Classical in
/-- The least number of which something is true. -/
noncomputable def leastN (p : Nat → Prop) : Nat := if h : ∃ j, p j ∧ ∀ k, p k → j ≤ k then Classical.choose h else 0
theorem leastN_spec {p : Nat → Prop} {n : Nat} (h : p n) : p (leastN p) ∧ ∀ k, p k → leastN p ≤ k := by
  have h' := least_of n h
  unfold leastN
  rw [dif_pos h']
  exact Classical.choose_spec h'
theorem xall_any (x : Nat) (w : World) (N : Nat) (hN : N ≤ 1000000) (I : Nat → World → Prop) (Q : Value → World → Prop) (h0 : I N w)
    (hs : ∀ j W, I j W → Calls Tryz.prog 78 #[.pointer (some ⟨x, 0, none⟩)] W fun e w' => (∃ k, k < j ∧ e = .returned (.tuple #[.bool false, .nilIface]) ∧ I k w') ∨ (e = .returned (.tuple #[.bool true, .nilIface]) ∧ Q .nilIface w') ∨ (∃ c : Int, e = .returned (.tuple #[.bool false, .iface 84 (.int .i64 c)]) ∧ Q (.iface 84 (.int .i64 c)) w')) :
    Calls Tryz.prog 31 #[.pointer (some ⟨x, 0, none⟩)] w fun e w' => ∃ (n : Nat) (v : Value), e = .returned (.tuple #[.int .i64 n, v]) ∧ Q v w' := by
  have HS := Lib.hid hs
  have H0 := Lib.hid h0
  clear hs h0
  go_enter Tryz.func31, Tryz.ntmps31
  go_wp2_with fail
  go_loopw [4] (fun i wr => ∃ (n j : Nat), i = .int .i64 n ∧ n + j ≤ N ∧ j = leastN (fun j => I j wr) ∧ I j wr) (fun _ wr => leastN (fun j => I j wr))
  case atStart =>
    have := leastN_spec (p := fun j => I j w) H0.out
    exact ⟨0, _, rfl, by have := this.2 N H0.out; omega, rfl, this.1⟩
  case round =>
    obtain ⟨n, j, rfl, hnj, hj, hI⟩ := hrel
    have ST := Lib.hid (HS.out j wr hI)
    have HJ := Lib.hid hj
    clear hj hI
    go_wp2_with (go_at_call 78; refine ST.out.mono ?_; rintro e w1 (⟨k, hk, rfl, hI⟩ | ⟨rfl, hQ⟩ | ⟨c, rfl, hQ⟩))
    · have hl := leastN_spec (p := fun j => I j w1) hI
      have hk2 := hl.2 k hI
      have hj2 := HJ.out
      refine ⟨⟨n + 1, leastN (fun j => I j w1), by first | rfl | (congr 1; omega), by omega, rfl, hl.1⟩, by omega⟩
    · go_ret2
      exact ⟨n + 1, _, rfl, hQ⟩
    · go_ret2
      exact ⟨n, _, rfl, hQ⟩
end Go.Proofs.YtdmckfkhkjkdnaaGreatDoor
namespace Go.Proofs.YtdmckfkhkjkdnaaGreatDoor
open Go.RowKit Go.Maps
theorem xstep_part {x b lb : Nat} {c : Cu} {pa : Option Addr} {pn pc : Nat} (v : Value) (Q : World → Prop) (w : World) (hx : w.heap[x]? = some (ExB b lb c (.slice pa pn pc) false)) (hne : c.next ≠ c.hi)
    (hp : ∀ W, Keep Non w W → Calls Tryz.prog 144 #[.pointer (some ⟨x, 0, none⟩)] W fun e w' => e = .returned v ∧ Q w') :
    Calls Tryz.prog 78 #[.pointer (some ⟨x, 0, none⟩)] w fun e w' => e = .returned (.tuple #[.bool false, v]) ∧ Q w' := by
  have c2 := ex_2 hx
  have c3 := ex_3 hx
  have c4 := ex_4 hx
  have c5 := ex_5 hx
  have c6 := ex_6 hx
  have c7 := ex_7 hx
  have DN := Lib.hid (cudone_any c pa pn pc w)
  rw [decide_eq_false hne] at DN
  have HP := Lib.hid hp
  clear hx hp
  unfold cuV at DN
  go_enter Tryz.func78, Tryz.ntmps78
  go_wp2_with (first
    | (go_at_call 143; ((with_reducible refine DN.out.mono ?_); rintro e w1 ⟨rfl, k1⟩))
    | (go_at_call 144; refine (HP.out _ k1).mono ?_; rintro e w2 ⟨rfl, q2⟩))
  go_ret2
  exact ⟨rfl, q2⟩
theorem xstep_commit {x b lb : Nat} {c : Cu} {pa : Option Addr} {pn pc : Nat} (Q : World → Prop) (w : World) (hx : w.heap[x]? = some (ExB b lb c (.slice pa pn pc) false)) (hne : c.next = c.hi)
    (hp : ∀ W, Keep Non w W → Calls Tryz.prog 145 #[.pointer (some ⟨x, 0, none⟩)] W fun e w' => e = .returned .nilIface ∧ Q w') :
    Calls Tryz.prog 78 #[.pointer (some ⟨x, 0, none⟩)] w fun e w' => e = .returned (.tuple #[.bool true, .nilIface]) ∧ Q w' := by
  have c2 := ex_2 hx
  have c3 := ex_3 hx
  have c4 := ex_4 hx
  have c5 := ex_5 hx
  have c6 := ex_6 hx
  have c7 := ex_7 hx
  have DN := Lib.hid (cudone_any c pa pn pc w)
  rw [decide_eq_true hne] at DN
  have HP := Lib.hid hp
  clear hx hp hne
  unfold cuV at DN
  go_enter Tryz.func78, Tryz.ntmps78
  go_wp2_with (first
    | (go_at_call 143; ((with_reducible refine DN.out.mono ?_); rintro e w1 ⟨rfl, k1⟩))
    | (go_at_call 145; refine (HP.out _ k1).mono ?_; rintro e w2 ⟨rfl, q2⟩))
  go_ret2
  exact ⟨rfl, q2⟩
theorem xstep_commit_no {x b lb : Nat} {c : Cu} {pa : Option Addr} {pn pc : Nat} (k : Int) (Q : World → Prop) (w : World) (hx : w.heap[x]? = some (ExB b lb c (.slice pa pn pc) false)) (hne : c.next = c.hi)
    (hp : ∀ W, Keep Non w W → Calls Tryz.prog 145 #[.pointer (some ⟨x, 0, none⟩)] W fun e w' => e = .returned (.iface 84 (.int .i64 k)) ∧ Q w') :
    Calls Tryz.prog 78 #[.pointer (some ⟨x, 0, none⟩)] w fun e w' => e = .returned (.tuple #[.bool false, .iface 84 (.int .i64 k)]) ∧ Q w' := by
  have c2 := ex_2 hx
  have c3 := ex_3 hx
  have c4 := ex_4 hx
  have c5 := ex_5 hx
  have c6 := ex_6 hx
  have c7 := ex_7 hx
  have DN := Lib.hid (cudone_any c pa pn pc w)
  rw [decide_eq_true hne] at DN
  have HP := Lib.hid hp
  clear hx hp hne
  unfold cuV at DN
  go_enter Tryz.func78, Tryz.ntmps78
  go_wp2_with (first
    | (go_at_call 143; ((with_reducible refine DN.out.mono ?_); rintro e w1 ⟨rfl, k1⟩))
    | (go_at_call 145; refine (HP.out _ k1).mono ?_; rintro e w2 ⟨rfl, q2⟩))
  go_ret2
  exact ⟨rfl, q2⟩
theorem ExOut.trans {F F1 FL : Nat → Prop} {w w1 w2 : World} {x b lb q p : Nat} {lv : Value} {c : Cu} {ov : Bool} {X : Dk} {L : Lg} (s : Sub F1 F w) (k : Keep (fun g => F g ∨ g = x) w w1) (h : ExOut F1 FL w1 x b lb q p lv c ov X L w2) : ExOut F FL w x b lb q p lv c ov X L w2 := by
  obtain ⟨F2, pv, s2, k2, e⟩ := h
  refine ⟨F2, pv, s.trans s2 k.size, k.trans k2 (fun _ _ y => y) (fun g hg y => ?_), e⟩
  rcases y with y | y
  · rcases s g y with z | z
    · exact .inl z
    · omega
  · exact .inr y
theorem CmOut.trans {F F1 FL : Nat → Prop} {w w1 w2 : World} {x b lb q p : Nat} {c : Cu} {pv : Value} {Z : Dk} {L : Lg} (s : Sub F1 F w) (k : Keep (fun g => F g ∨ g = x) w w1) (h : CmOut F1 FL w1 x b lb q p c pv Z L w2) : CmOut F FL w x b lb q p c pv Z L w2 := by
  obtain ⟨F2, v3, T, s2, k2, e1, e2, e3⟩ := h
  refine ⟨F2, v3, T, s.trans s2 k.size, k.trans k2 (fun g _ y => ?_) (fun g hg y => ?_), e1, e2, fun g y => ⟨(e3 g y).1, (e3 g y).2.1, (e3 g y).2.2.1, Nat.le_trans k.size (e3 g y).2.2.2⟩⟩
  · rcases y with y | y
    · exact .inl y
    · exact .inr (.inl y)
  · rcases y with y | y
    · rcases s g y with z | z
      · exact .inl z
      · omega
    · exact .inr y
def AllOut (F FL : Nat → Prop) (w : World) (x b lb q p hi room : Nat) (L : Lg) (v : Value) (w' : World) : Prop :=
  (v = .nilIface ∧ ∃ c pv Z, c.hi = hi ∧ CmOut F FL w x b lb q p c pv Z L w' ∧ PEnd L Z c) ∨
  (v = .iface 84 (.int .i64 5) ∧ room < 1000000 ∧ ∃ c Z, ExOut F FL w x b lb q p (.slice none 0 0) c false Z L w' ∧ PErr Z c)
theorem xall_ok {F FL : Nat → Prop} {x b lb q p : Nat} {c : Cu} {pv : Value} {X : Dk} {L : Lg} (w : World) (h : ExSt F FL w x b lb q p (.slice none 0 0) c pv false X L) (hi : PInv L X c) (hl : Log1 L) (h3 : ∀ a, (cellL L a).1 ≠ 3) :
    Calls Tryz.prog 31 #[.pointer (some ⟨x, 0, none⟩)] w fun e w' => ∃ (n : Nat) (v : Value), e = .returned (.tuple #[.int .i64 n, v]) ∧ AllOut F FL w x b lb q p c.hi X.room L v w' := by
  refine xall_any x w (c.hi - c.next) (by have := hi.hi; omega) (fun j W => ∃ F' c' pv' X', j = c'.hi - c'.next ∧ Sub F' F w ∧ Keep (fun g => F g ∨ g = x) w W ∧ ExSt F' FL W x b lb q p (.slice none 0 0) c' pv' false X' L ∧ PInv L X' c' ∧ c'.hi = c.hi ∧ X'.room = X.room) (AllOut F FL w x b lb q p c.hi X.room L) ⟨F, c, pv, X, rfl, Sub.refl _ _, Keep.refl _ _, h, hi, rfl, rfl⟩ ?_
  rintro j W ⟨F', c', pv', X', rfl, s, k, h', hi', e1, e2⟩
  obtain ⟨pa, pc, rfl, _, _⟩ := ownsRow_form h'.row
  have ks : ∀ W', Keep Non W W' → ExSt F' FL W' x b lb q p (.slice none 0 0) c' (.slice pa c'.parts.length pc) false X' L ∧ Keep (fun g => F g ∨ g = x) w W' ∧ Sub F' F w := fun W' kk => ⟨h'.keep kk (fun _ _ e => e), k.trans1 kk.ofNon, s⟩
  by_cases hd : c'.next = c'.hi
  · rcases hi'.three hd with ⟨ep, hr⟩ | ⟨ep, hm, hmap, hdel, hend⟩
    · refine (xstep_commit_no 5 (fun w' => AllOut F FL w x b lb q p c.hi X.room L (.iface 84 (.int .i64 5)) w') W h'.ex hd (fun W' kk => (xcommit_no W' (ks W' kk).1 hi' hd ep).mono ?_)).mono ?_
      · rintro e w' ⟨rfl, o⟩
        exact ⟨rfl, .inr ⟨rfl, by omega, c', X', ExOut.trans s (ks W' kk).2.1 o, hi'.err⟩⟩
      · rintro e w' ⟨rfl, o⟩
        exact .inr (.inr ⟨5, rfl, o⟩)
    · refine (xstep_commit (fun w' => AllOut F FL w x b lb q p c.hi X.room L .nilIface w') W h'.ex hd (fun W' kk => (xcommit_ok W' (ks W' kk).1 hi' hd _ ep hm hmap hdel).mono ?_)).mono ?_
      · rintro e w' ⟨rfl, o⟩
        exact ⟨rfl, .inl ⟨rfl, c', _, _, e1, CmOut.trans s (ks W' kk).2.1 o, hend⟩⟩
      · rintro e w' ⟨rfl, o⟩
        exact .inr (.inl ⟨rfl, o⟩)
  · have hlt : c'.next < c'.hi := by have := hi'.ok.le; omega
    rcases hi'.one hl with ⟨ep, hr⟩ | ep
    · refine (xstep_part (.iface 84 (.int .i64 5)) (fun w' => AllOut F FL w x b lb q p c.hi X.room L (.iface 84 (.int .i64 5)) w') W h'.ex hd (fun W' kk => (xpart_no1 W' (ks W' kk).1 hi' hl hlt 5 (by rw [ep]) (by decide)).mono ?_)).mono ?_
      · rintro e w' ⟨rfl, F2, s2, k2, st2⟩
        rw [ep] at st2
        exact ⟨rfl, .inr ⟨rfl, by omega, c', X', ExOut.trans s (ks W' kk).2.1 ⟨F2, _, s2, k2, st2⟩, hi'.err⟩⟩
      · rintro e w' ⟨rfl, o⟩
        exact .inr (.inr ⟨5, rfl, o⟩)
    · have hcd : (X'.sput (labelN 0 c'.parts.length) (segB c'.next (slabL L c'.hi c'.next))).1 = 0 := by rw [ep]
      have hsp := putX_of ep
      rcases hi'.two hl h3 hlt ep with ⟨ep2, hr⟩ | ⟨ep2, hi2⟩
      · refine (xstep_part (.iface 84 (.int .i64 5)) (fun w' => AllOut F FL w x b lb q p c.hi X.room L (.iface 84 (.int .i64 5)) w') W h'.ex hd (fun W' kk => (xpart_any W' (ks W' kk).1 hi' hl h3 hlt hcd 5 (by rw [hsp, ep2])).mono ?_)).mono ?_
        · rintro e w' ⟨rfl, o⟩
          rw [if_neg (by decide), hsp, ep2] at o
          exact ⟨rfl, .inr ⟨rfl, by omega, c', _, ExOut.trans s (ks W' kk).2.1 o, (hi'.mid hl ep).2⟩⟩
        · rintro e w' ⟨rfl, o⟩
          exact .inr (.inr ⟨5, rfl, o⟩)
      · refine (xstep_part .nilIface (fun w' => ExOut F FL w x b lb q p (.slice none 0 0) (partCu L c') false (putX (putX X' (labelN 0 c'.parts.length) (segB c'.next (slabL L c'.hi c'.next))) cname (cuBy (partCu L c'))) L w') W h'.ex hd (fun W' kk => (xpart_any W' (ks W' kk).1 hi' hl h3 hlt hcd 0 (by rw [hsp, ep2])).mono ?_)).mono ?_
        · rintro e w' ⟨rfl, o⟩
          rw [if_pos rfl, hsp, ep2] at o
          exact ⟨rfl, ExOut.trans s (ks W' kk).2.1 o⟩
        · rintro e w' ⟨rfl, F2, pv2, s2, k2, st2⟩
          refine .inl ⟨(partCu L c').hi - (partCu L c').next, ?_, rfl, F2, _, pv2, _, rfl, s2, k2, st2, hi2, by rw [← e1]; rfl, by rw [← e2]; rfl⟩
          show c'.hi - (c'.next + (slabL L c'.hi c'.next).length) < c'.hi - c'.next
          rw [slab_len]
          omega
structure VtSt (F FL : Nat → Prop) (w : World) (b lb q p : Nat) (X : Dk) (L : Lg) : Prop where
  vt : w.heap[b]? = some (VtB q (.slice none 0 0))
  st : StoreAt F w q p X
  lg : LgAt FL w lb L.shs.length L
  lay : Lay w
  out : ¬ F b ∧ ¬ FL b ∧ 10 ≤ b
  apart : ∀ g, F g → ¬ FL g
  low : ∀ g, F g → 10 ≤ g ∧ g < w.heap.size
  lowL : ∀ g, FL g → g < w.heap.size
structure VtOk (X : Dk) : Prop where
  free : X.free
  tidy : X.tidy
  lim : X.lim 2 2 20000
  cur : fhas X.shown cname = false
  title : fhas X.shown (titleN 0) = false
def cu00 (n : Nat) : Cu := ⟨0, 0, n, 0, []⟩
theorem cu00_ok {n : Nat} (h : n ≤ 200) : okCu (cu00 n) := ⟨trivial, rfl, Nat.zero_le _, by show n ≤ 1048576; omega, by show 0 ≤ 1048576; omega, by show 0 ≤ 64; omega⟩
theorem begin_cases {X : Dk} (h : VtOk X) {n : Nat} (hn : n ≤ 200) : (X.sput cname (cuBy (cu00 n)) = (5, X) ∧ X.room < 1000000) ∨ X.sput cname (cuBy (cu00 n)) = (0, putX X cname (cuBy (cu00 n))) := by
  have hl := cu_len' (cu00_ok hn)
  rcases put_cases h.free h.lim (by omega) cname (cuBy (cu00 n)) (by omega) with ⟨e, h1⟩ | e
  · exact .inl ⟨e, by omega⟩
  · exact .inr e
theorem begin_inv {X : Dk} {L : Lg} (h : VtOk X) {n : Nat} (hn : n ≤ 200) (h0 : 0 < n) (e : X.sput cname (cuBy (cu00 n)) = (0, putX X cname (cuBy (cu00 n)))) : PInv L (putX X cname (cuBy (cu00 n))) (cu00 n) := by
  have hl := cu_len' (cu00_ok hn)
  refine ⟨cu00_ok hn, rfl, hn, h0, by show 0 = min n (64 * 0); omega, by show 64 * 0 < n + 64; omega, rfl, h.free, ?_, putX_tidy h.tidy h.free h.lim.map cname_ok (by omega) e, fun i pt hi => by simp [cu00] at hi, ⟨putX_has_same h.lim.map, putX_get_same h.lim.map⟩, ?_, rfl⟩
  · exact (putX_lim h.lim e).mono (by show 2 + 2 ≤ 4 * 0 + 4; omega) (by show 2 + 2 ≤ 4 * 0 + 4; omega) (by show 20000 + 2 * _ ≤ 30000 * 0 + 30000; omega)
  · rw [putX_has (title_ok 0 (by omega)) (cur_tit 0).symm]
    exact h.title
theorem xbegin_no {F FL : Nat → Prop} {b lb q p : Nat} {X : Dk} {L : Lg} (w : World) (h : VtSt F FL w b lb q p X L) (hv : VtOk X) (hl : Log1 L) (n : Int) (hn : ¬ (0 < n ∧ n ≤ L.next)) :
    Calls Tryz.prog 29 #[.pointer (some ⟨b, 0, none⟩), .pointer (some ⟨lb, 0, none⟩), .int .i64 n] w fun e w' => e = .returned (.tuple #[.pointer none, .iface 84 (.int .i64 1)]) ∧ Keep Non w w' := by
  have LD := Lib.hid (xload_none F b lb q p (.slice none 0 0) X w h.vt h.st hv.free.1 hv.cur)
  have TL := Lib.hid (fun W (k : Keep Non w W) => lgtail_ok W (h.lg.keepNon k) hl.se)
  have CH := Lib.hid (fun W (k : Keep Non w W) => vchain_nil b q none 0 W (nonAt k h.vt))
  have EN : Hid (∀ W, Calls Tryz.prog 12 #[.slice none 0 0] W fun e w' => e = .returned (.int .i64 0) ∧ Keep Non W w') := Lib.hid (fun W => cend_any Non (.slice none 0 0) [] W (MsAt.nil Non W) (by simp))
  clear h hv hl
  go_enter Tryz.func29, Tryz.ntmps29
  go_wp2_with (first
    | (go_at_call 73; ((with_reducible refine LD.out.mono ?_); rintro e w1 ⟨rfl, k1⟩); have K1 := Lib.hid (k1.alloc CuZ); clear k1)
    | (go_at_call 8; refine (TL.out _ K1.out).mono ?_; rintro e w2 ⟨rfl, k2⟩; have K2 := Lib.hid (K1.out.trans1 k2); clear k2)
    | (go_at_call 11; refine (CH.out _ K2.out).mono ?_; rintro e w3 ⟨rfl, k3⟩; have K3 := Lib.hid (K2.out.trans1 k3); clear k3)
    | (go_at_call 12; refine (EN.out _).mono ?_; rintro e w4 ⟨rfl, k4⟩; have K4 := Lib.hid (K3.out.trans1 k4); clear k4))
  all_goals
    go_ret2
    exact ⟨rfl, K4.out⟩
theorem xbegin_ok {F FL : Nat → Prop} {b lb q p : Nat} {X : Dk} {L : Lg} (w : World) (h : VtSt F FL w b lb q p X L) (hv : VtOk X) (hl : Log1 L) (hlow : ∀ s ∈ L.shs, s.l = 0) (n : Nat) (h0 : 0 < n) (hn : n ≤ L.next) (code : Int) (hcd : (X.sput cname (cuBy (cu00 n))).1 = code) :
    Calls Tryz.prog 29 #[.pointer (some ⟨b, 0, none⟩), .pointer (some ⟨lb, 0, none⟩), .int .i64 n] w fun e w' => ∃ x, (code = 0 → e = .returned (.tuple #[.pointer (some ⟨x, 0, none⟩), .nilIface])) ∧ (code ≠ 0 → e = .returned (.tuple #[.pointer none, .iface 84 (.int .i64 code)])) ∧ Keep F w w' ∧ ∃ F', Sub F' F w ∧ (∀ g, F' g → g < w'.heap.size) ∧ StoreAt F' w' q p (X.sput cname (cuBy (cu00 n))).2 ∧ (code = 0 → w.heap.size ≤ x ∧ ¬ F' x ∧ w'.heap[x]? = some (ExB b lb (cu00 n) (.slice none 0 0) false)) := by
  have LD := Lib.hid (xload_none F b lb q p (.slice none 0 0) X w h.vt h.st hv.free.1 hv.cur)
  have TL := Lib.hid (fun W (k : Keep Non w W) => lgtail_ok W (h.lg.keepNon k) hl.se)
  have CH := Lib.hid (fun W (k : Keep Non w W) => vchain_nil b q none 0 W (nonAt k h.vt))
  have EN : Hid (∀ W, Calls Tryz.prog 12 #[.slice none 0 0] W fun e w' => e = .returned (.int .i64 0) ∧ Keep Non W w') := Lib.hid (fun W => cend_any Non (.slice none 0 0) [] W (MsAt.nil Non W) (by simp))
  have MK : Hid (∀ W, Calls Tryz.prog 75 #[.slice none 0 0] W fun e w' => e = .returned (.int .i64 0) ∧ Keep Non W w') := Lib.hid (fun W => cmark_any Non (.slice none 0 0) [] W (MsAt.nil Non W) (by simp))
  have LO : Hid (∀ W, Keep Non w W → Calls Tryz.prog 74 #[.pointer (some ⟨lb, 0, none⟩)] W fun e w' => e = .returned (.int .i64 0) ∧ Keep Non W w') := Lib.hid (fun W k => low_ok W (h.lg.keepNon k) (by have := hl.kd; omega) (by have := hl.kd; omega) rfl hlow)
  have ST := Lib.hid (fun W (k : Keep Non w W) => vstore_ok b q (.slice none 0 0) W (nonAt k h.vt))
  have hn200 : n ≤ 200 := by have := hl.next; omega
  obtain ⟨Z, hZ⟩ : ∃ Z, Z = (X.sput cname (cuBy (cu00 n))).2 := ⟨_, rfl⟩
  have SV : Hid (∀ W, Keep Non w W → Calls Tryz.prog 76 #[.pointer (some ⟨q, 0, none⟩), .string ⟨cname.toArray⟩, cuV (cu00 n) (.slice none 0 0)] W fun e w' => e = .returned (errv code) ∧ StoreTo F W q p Z w') := Lib.hid (fun W k => by
    rw [← hcd, hZ]
    have hp : PtsAt W (.slice none 0 0) (cu00 n).parts := PtsAt.of (B := 0) (World.ownsRow_nil _ _ _ _) (fun p hp => by cases hp)
    exact cusave_any F q p (cu00 n) (.slice none 0 0) cname X _ _ _ W (h.st.keep k (fun _ _ e => e)) hv.lim (by omega) (by omega) (by omega) (fun g y => k.lt (h.low g y).2) cname_ok (cu00_ok hn200) hp (by have := cu_len' (cu00_ok hn200); omega))
  rw [← hZ]
  have HF : Hid (∀ g, F g → g < w.heap.size) := Lib.hid (fun g y => (h.low g y).2)
  clear h hv hl hcd hZ hlow
  unfold cuV cu00 cname at SV
  unfold cu00
  dsimp only at SV
  rw [show ((0 : Nat) : Int) = 0 from rfl] at SV
  have ha : ¬ (n : Int) ≤ 0 := by omega
  have hb : ¬ (L.next : Int) < (n : Int) := by omega
  have hc : ¬ (65536 : Int) < (n : Int) := by omega
  have hwr : IntKind.wrap .i64 ((n : Int) - 0) = (n : Int) := IntWalk.i64_in _ (by omega)
  go_enter Tryz.func29, Tryz.ntmps29
  go_wp2_with (first
    | (go_at_call 73; ((with_reducible refine LD.out.mono ?_); rintro e w1 ⟨rfl, k1⟩); have K1 := Lib.hid (k1.alloc CuZ); clear k1)
    | (go_at_call 8; refine (TL.out _ K1.out).mono ?_; rintro e w2 ⟨rfl, k2⟩; have K2 := Lib.hid (K1.out.trans1 k2); clear k2)
    | (go_at_call 11; refine (CH.out _ K2.out).mono ?_; rintro e w3 ⟨rfl, k3⟩; have K3 := Lib.hid (K2.out.trans1 k3); clear k3)
    | (go_at_call 12; refine (EN.out _).mono ?_; rintro e w4 ⟨rfl, k4⟩; have K4 := Lib.hid (K3.out.trans1 k4); clear k4)
    | (go_at_call 74; refine (LO.out _ K4.out).mono ?_; rintro e w5 ⟨rfl, k5⟩; have K5 := Lib.hid (K4.out.trans1 k5); clear k5)
    | (go_at_call 75; refine (MK.out _).mono ?_; rintro e w6 ⟨rfl, k6⟩; have K6 := Lib.hid (K5.out.trans1 k6); clear k6))
  have K7 : Hid (Keep Non w (w6.alloc (.cells #[.int .i64 0, .int .i64 0, .int .i64 n, .int .i64 0, .slice none 0 0] 170)).drew) := Lib.hid (K6.out.alloc _).drew
  have B7 : Hid ((w6.alloc (.cells #[.int .i64 0, .int .i64 0, .int .i64 n, .int .i64 0, .slice none 0 0] 170)).drew.heap[w6.heap.size]? = some (.cells #[.int .i64 0, .int .i64 0, .int .i64 n, .int .i64 0, .slice none 0 0] 170 (0, 0))) := Lib.hid (blk_new w6 _)
  have STW := Lib.hid (ST.out _ K7.out)
  have SVW := Lib.hid (SV.out _ K7.out)
  go_region_law (go_simp; first
    | (go_at_call 77; ((with_reducible refine STW.out.mono ?_); rintro e w8 ⟨rfl, rfl⟩))
    | (go_at_call 76; ((with_reducible refine SVW.out.mono ?_); rintro e w9 ⟨rfl, t9⟩)))
  all_goals
    obtain ⟨k9, F', s9, d9⟩ := t9
    have b9 := k9.at B7.out (fun y => by have := HF.out _ y; have := K6.out.size; omega)
    have y0 : w9.cell? ⟨w6.heap.size, 0, none⟩ = some (.int .i64 0) := by simp [World.cell?, b9]
    have y1 : w9.cell? ⟨w6.heap.size, 1, none⟩ = some (.int .i64 0) := by simp [World.cell?, b9]
    have y2 : w9.cell? ⟨w6.heap.size, 2, none⟩ = some (.int .i64 n) := by simp [World.cell?, b9]
    have y3 : w9.cell? ⟨w6.heap.size, 3, none⟩ = some (.int .i64 0) := by simp [World.cell?, b9]
    have y4 : w9.cell? ⟨w6.heap.size, 4, none⟩ = some (.slice none 0 0) := by simp [World.cell?, b9]
    have KF : Hid (Keep F w w9) := Lib.hid (K7.out.ofNon.trans k9 (fun _ _ y => y) (fun _ _ y => y))
    have S9 : Hid (Sub F' F w) := Lib.hid (fun g y => by
      rcases s9 g y with u | u
      · exact .inl u
      · exact .inr (Nat.le_trans K7.out.size u))
    have D9 := Lib.hid d9
    clear k9 s9 d9 b9
    by_cases h0c : code = 0
    · rw [errv_ok h0c]
      go_wp2_with fail
      go_ret2
      have ka : Keep Non w9 (w9.alloc (ExB b lb ⟨0, 0, n, 0, []⟩ (.slice none 0 0) false)) := (Keep.refl _ _).alloc _
      exact ⟨w9.heap.size, fun _ => rfl, fun e => absurd h0c e, KF.out.trans1 ka.ofNon, fun g => F' g ∧ g < w9.heap.size, fun g y => S9.out g y.1, fun g y => ka.lt y.2, D9.out.low.keep ka (fun _ _ e => e), fun _ => ⟨KF.out.size, fun y => by have := y.2; omega, blk_new w9 _⟩⟩
    · rw [errv_no h0c]
      go_wp2_with fail
      go_ret2
      exact ⟨0, fun e => absurd e h0c, fun _ => rfl, KF.out, fun g => F' g ∧ g < w9.heap.size, fun g y => S9.out g y.1, fun g y => y.2, D9.out.low, fun e => absurd e h0c⟩
end Go.Proofs.YtdmckfkhkjkdnaaGreatDoor
namespace Go.Proofs.YtdmckfkhkjkdnaaGreatDoor
open Go.RowKit
def NB (x : Int) : Obj := .cells #[.int .i64 x] 3 (0, 0)
def ItAt (w : World) (a : Addr) (n p x y : Nat) : Prop := ∃ g off, a = ⟨g, off, none⟩ ∧ w.cell? ⟨g, off, none⟩ = some (.int .i64 n) ∧ w.cell? ⟨g, off + 1, none⟩ = some (.int .i64 p) ∧ w.cell? ⟨g, off + 2, none⟩ = some (.int .i64 x) ∧ w.cell? ⟨g, off + 3, none⟩ = some (.int .i64 y)
theorem cell_keepS {S : Nat → Prop} {w w' : World} {g i : Nat} {v : Value} (k : Keep S w w') (hn : ¬ S g) (e : w.cell? ⟨g, i, none⟩ = some v) : w'.cell? ⟨g, i, none⟩ = some v := by
  have hg : g < w.heap.size := by
    rcases Nat.lt_or_ge g w.heap.size with q | q
    · exact q
    · rw [World.cell?, Array.getElem?_eq_none q] at e
      cases e
  have := k.block g hg hn
  unfold World.cell? at *
  rw [this]
  exact e
theorem ItAt.keep {S : Nat → Prop} {w w' : World} {a : Addr} {n p x y : Nat} (h : ItAt w a n p x y) (k : Keep S w w') (hn : ¬ S a.block) : ItAt w' a n p x y := by
  obtain ⟨g, off, rfl, h0, h1, h2, h3⟩ := h
  exact ⟨g, off, rfl, cell_keepS k hn h0, cell_keepS k hn h1, cell_keepS k hn h2, cell_keepS k hn h3⟩
end Go.Proofs.YtdmckfkhkjkdnaaGreatDoor
namespace Go.Proofs.YtdmckfkhkjkdnaaGreatDoor
open Go.RowKit Go.Maps
def CellsIn (w : World) (v : Value) (cl : List Cl) : Prop := ∃ a c, v = .slice a cl.length c ∧ ∀ j (hj : j < cl.length), ∃ g off sa sc, a = some ⟨g, off, none⟩ ∧ g < w.heap.size ∧ w.cell? ⟨g, off + j * 2, none⟩ = some (.int .i64 cl[j].1) ∧ w.cell? ⟨g, off + j * 2 + 1, none⟩ = some (.slice sa cl[j].2.length sc) ∧ Bs w (.slice sa cl[j].2.length sc) cl[j].2 ∧ (cl[j].2 = [] ∨ ∀ k, (Value.slice sa cl[j].2.length sc).ownBlock = some k → k < w.heap.size)
theorem CellsIn.keep {S : Nat → Prop} {w w' : World} {v : Value} {cl : List Cl} (h : CellsIn w v cl) (k : Keep S w w') (hn : ∀ g, g < w.heap.size → ¬ S g) : CellsIn w' v cl := by
  obtain ⟨a, c, rfl, hx⟩ := h
  refine ⟨a, c, rfl, fun j hj => ?_⟩
  obtain ⟨g, off, sa, sc, h1, h2, h3, h4, h5, h6⟩ := hx j hj
  have hc : ∀ i v, w.cell? ⟨g, i, none⟩ = some v → w'.cell? ⟨g, i, none⟩ = some v := fun i v e => by
    have := k.block g h2 (hn g h2)
    unfold World.cell? at *
    rw [this]
    exact e
  exact ⟨g, off, sa, sc, h1, k.lt h2, hc _ _ h3, hc _ _ h4, bs_keepO h5 k (h6.imp id (fun h6 g e => hn g (h6 g e))), h6.imp id (fun h6 k' e => k.lt (h6 k' e))⟩
def longL (cl : List Cl) : Bool := cl.any (fun x => decide (64 < x.2.length)) || decide (200 < cl.length)
theorem tlong_ok (v : Value) (cl : List Cl) (w : World) (h : CellsIn w v cl) (hm : cl.length ≤ 9223372036854775807) :
    Calls Tryz.prog 5 #[v, .int .i64 200] w fun e w' => e = .returned (.bool (longL cl)) ∧ Keep Non w w' := by
  have H := Lib.hid h
  obtain ⟨a, c, rfl, hx⟩ := h
  clear hx
  go_enter Tryz.func5, Tryz.ntmps5
  go_wp2_with fail
  go_loopw [9] (fun i wr => ∃ j : Nat, j ≤ cl.length ∧ i = .int .i64 j ∧ Keep Non w wr ∧ (cl.take j).any (fun x => decide (64 < x.2.length)) = false) (fun i _ => cl.length - (intOf i).toNat)
  case atStart => exact ⟨0, by omega, rfl, Keep.refl _ _, rfl⟩
  case round =>
    obtain ⟨j, hj, rfl, hk, hl⟩ := hrel
    by_cases hlt : j < cl.length
    · have hlj : (j : Int) < (cl.length : Int) := by omega
      obtain ⟨a1, c1, e1, hx⟩ := H.out.keep hk (fun _ _ e => e)
      injection e1 with e1 e3 e4
      subst e1
      subst e4
      obtain ⟨g, off, sa, sc, rfl, h2, h3, h4, h5, h6⟩ := hx j hlt
      have hst : (cl.take (j + 1)).any (fun x => decide (64 < x.2.length)) = ((cl.take j).any (fun x => decide (64 < x.2.length)) || decide (64 < cl[j].2.length)) := by
        rw [List.take_add_one, List.getElem?_eq_getElem hlt, List.any_append]
        simp only [Option.toList_some, List.any_cons, List.any_nil, Bool.or_false]
      rw [hl, Bool.false_or] at hst
      have hany : 64 < cl[j].2.length → longL cl = true := fun e => by
        unfold longL
        rw [List.any_eq_true.2 ⟨cl[j], List.getElem_mem _, by simpa using e⟩]
        rfl
      generalize cl[j] = y at h3 h4 hst hany
      clear hx h5 h6
      by_cases h64 : 64 < y.2.length
      · have h64' : (64 : Int) < (y.2.length : Int) := by omega
        have hL := hany h64
        go_wp2_with fail
        go_ret
        exact ⟨by first | rfl | rw [hL], hk.alloc _⟩
      · have h64' : ¬ (64 : Int) < (y.2.length : Int) := by omega
        rw [decide_eq_false h64] at hst
        go_wp2_with fail
        exact ⟨⟨j + 1, by omega, by first | rfl | go_num, hk.alloc _, hst⟩, by simp [intOf]; omega⟩
    · obtain rfl : j = cl.length := by omega
      rw [List.take_length] at hl
      have hb : (decide ((200 : Int) < (cl.length : Int))) = longL cl := by
        unfold longL
        rw [hl, Bool.false_or]
        by_cases h2 : 200 < cl.length
        · rw [decide_eq_true h2, decide_eq_true (by omega)]
        · rw [decide_eq_false h2, decide_eq_false (by omega)]
      go_wp2_with fail
      go_ret
      exact ⟨by first | (rw [← hb]; rfl) | (rw [← hb]; simp), hk⟩
def putN (L : Lg) : Nat → List Cl → Lg
  | _, [] => L
  | i, x :: r => putN (putL L i x) (i + 1) r
theorem putN_snoc : ∀ (l : List Cl) (L : Lg) (i : Nat) (x : Cl), putN L i (l ++ [x]) = putL (putN L i l) (i + l.length) x
  | [], L, i, x => rfl
  | y :: r, L, i, x => by
    show putN (putL L i y) (i + 1) (r ++ [x]) = _
    rw [putN_snoc r]
    have e : i + 1 + r.length = i + (y :: r).length := by simp; omega
    rw [e]
    rfl
theorem putN_filled : ∀ (l : List Cl) (L : Lg) (i : Nat), Filled L i → i + l.length ≤ 200 → Filled (putN L i l) (i + l.length)
  | [], L, i, h, _ => h
  | y :: r, L, i, h, hl => by
    simp at hl
    have := putN_filled r (putL L i y) (i + 1) (h.put (by omega) y) (by omega)
    have e : i + 1 + r.length = i + (y :: r).length := by simp; omega
    rw [e] at this
    exact this
theorem dk0_free (room : Nat) : (dk0 room).free := ⟨rfl, by show (-1 : Int) < 0; decide⟩
theorem dk0_has (room : Nat) (n : Byt) : fhas (dk0 room).shown n = false := rfl
theorem dk0_lim (room : Nat) : (dk0 room).lim 0 0 0 := ⟨Nat.le_refl _, Nat.le_refl _, Nat.le_refl _, by show (-1 : Int) ≤ 1000000000; decide, ⟨[], rfl⟩⟩
theorem dk0_ok (room : Nat) : VtOk (dk0 room) := ⟨dk0_free room, (fun n h => by rw [dk0_has] at h; cases h), (dk0_lim room).mono (by omega) (by omega) (by omega), dk0_has _ _, dk0_has _ _⟩
def bagL (cl : List Cl) : Lg := putN ⟨[sh1 16777216], 1, 0, 1⟩ 0 cl
theorem bagL_filled (cl : List Cl) (h : cl.length ≤ 200) : Filled (bagL cl) cl.length := by
  have := putN_filled cl ⟨[sh1 16777216], 1, 0, 1⟩ 0 filled0 (by omega)
  rwa [Nat.zero_add] at this
theorem prat_one (w : World) : PrAt (fun g => w.heap.size ≤ g) ((w.alloc (.cells #[.int .i64 0] 3)).alloc (.cells #[.slice (some ⟨w.heap.size, 0, none⟩) 1 1] 55)) (.slice (some ⟨w.heap.size + 1, 0, none⟩) 1 1) 1 := by
  have h1 : Rd (w.alloc (.cells #[.int .i64 0] 3)) (.slice (some ⟨w.heap.size, 0, none⟩) 1 1) [.int .i64 0] := row_rd w 3 [.int .i64 0]
  have h2 := row_rd (w.alloc (.cells #[.int .i64 0] 3)) 55 [.slice (some ⟨w.heap.size, 0, none⟩) 1 1]
  have e : (w.alloc (.cells #[.int .i64 0] 3)).heap.size = w.heap.size + 1 := by simp
  rw [e] at h2
  refine ⟨_, _, _, rfl, rfl, h2, ⟨rfl, fun i u l hu hl => ?_⟩, by omega, fun v hv k hk => ?_⟩
  · cases i with
    | succ i => simp at hu
    | zero =>
      simp at hu
      subst hu
      have hl' : l = [0] := by simpa [chainsN] using hl.symm
      subst hl'
      exact h1.keepNon ((Keep.refl _ _).alloc _)
  · simp at hv
    subst hv
    simp [Value.ownBlock] at hk
    omega
theorem tbegin_low (v : Value) (cl : List Cl) (w : World) (hc : CellsIn w v cl) (hn : cl.length ≤ 200) (hlay : Lay w) (h10 : 10 ≤ w.heap.size) :
    Calls Tryz.prog 6 #[v] w fun e w' => ∃ lb b p q F FL, e = .returned (.tuple #[.pointer (some ⟨lb, 0, none⟩), .pointer (some ⟨b, 0, none⟩), .pointer (some ⟨p, 0, none⟩), .bool true]) ∧ Keep Non w w' ∧ VtSt F FL w' b lb q p (dk0 16777216) (bagL cl) ∧ ∀ g, (F g ∨ g = b) → w.heap.size ≤ g := by
  have H := Lib.hid hc
  have HL := Lib.hid hlay
  have NW := Lib.hid (lgNew_ok _ 1 _ _ (hlay.keepNon (((Keep.refl Non w).alloc _).alloc _)) (prat_one w) (by omega) (by omega) (by simp; omega))
  obtain ⟨a, c, rfl, hx⟩ := hc
  clear hx hlay
  go_enter Tryz.func6, Tryz.ntmps6
  go_wp2_with (first
    | (go_at_call 14; refine NW.out.mono ?_; rintro e w1 ⟨lb, rfl, k1, l1⟩; have K1 := Lib.hid ((((Keep.refl Non w).alloc _).alloc _).trans1 k1); have Z1 : Hid (w.heap.size + 2 ≤ w1.heap.size) := Lib.hid (by have := k1.size; simpa using this); have LG1 := Lib.hid l1; clear k1 l1)
    | (go_at_call 15; refine (dnew_any 16777216 w1 (by omega)).mono ?_; rintro e w2 ⟨p, rfl, k2, d2⟩; have K2 := Lib.hid k2; have D2 := Lib.hid d2; clear k2 d2)
    | (go_at_call 16; refine (vopen_ok _ p (dk0 16777216) 0 0 0 w2 D2.out (dk0_free _) (dk0_lim _) (by omega) (by omega) (by omega) (dk0_ok _).tidy (dk0_has _ _)).mono ?_; rintro e w3 ⟨b, q, rfl, vb, k3, hb, F3, s3, nb, l3, st3⟩; have K3 := Lib.hid k3; have VB := Lib.hid vb; have S3 := Lib.hid (And.intro s3 (And.intro nb (And.intro l3 hb))); have ST3 := Lib.hid st3; clear vb k3 hb s3 nb l3 st3))
  have K23 : Hid (Keep Non w1 w3) := Lib.hid (K2.out.trans K3.out (fun _ _ e => e) (fun g hg e => by have := e.1; omega))
  have L3 : Hid (LgAt (fun g => w.heap.size + 2 ≤ g ∧ g < w1.heap.size) w3 lb 1 (bagL [])) := Lib.hid ((LG1.out.keepNon K23.out).mono (fun g y _ => ⟨by have := y.1; simp at this; omega, y.2⟩))
  have KW3 := Lib.hid (K1.out.trans1 K23.out)
  go_loopw [49] (fun i wr => ∃ j : Nat, j ≤ cl.length ∧ i = .int .i64 j ∧ LgTo (fun g => w.heap.size + 2 ≤ g ∧ g < w1.heap.size) w3 lb 1 (bagL (cl.take j)) wr) (fun i _ => cl.length - (intOf i).toNat)
  case atStart => exact ⟨0, by omega, rfl, LgTo.refl L3.out (Keep.refl _ _)⟩
  case round =>
    obtain ⟨j, hj, rfl, tj⟩ := hrel
    have TJ := Lib.hid tj
    obtain ⟨kj, FJ, sj, lj⟩ := tj
    have hz3 := K23.out.size
    have CJ := H.out.keep (S := fun g => w.heap.size ≤ g) ((KW3.out.mono (S := Non) (T := fun g => w.heap.size ≤ g) (fun _ _ e => e.elim)).trans kj (fun _ _ e => e) (fun g hg e => by have := e.1; omega)) (fun g hg e => by omega)
    have CJH := Lib.hid CJ
    clear kj sj lj CJ
    by_cases hlt : j < cl.length
    · have hlj : (j : Int) < (cl.length : Int) := by omega
      obtain ⟨a1, c1, e1, hx⟩ := CJH.out
      injection e1 with e1 e3 e4
      subst e1
      subst e4
      obtain ⟨g, off, sa, sc, rfl, h2, h3, h4, h5, h6⟩ := hx j hlt
      obtain ⟨kj, FJ, sj, lj⟩ := TJ.out
      have hFJ : ∀ g, FJ g → w.heap.size ≤ g := fun g y => by
        rcases sj g y with u | u
        · omega
        · have := KW3.out.size; omega
      have hst : bagL (cl.take (j + 1)) = putL (bagL (cl.take j)) j cl[j] := by
        rw [List.take_add_one, List.getElem?_eq_getElem hlt]
        show putN _ 0 (cl.take j ++ [cl[j]]) = _
        rw [putN_snoc, List.length_take, Nat.zero_add, Nat.min_eq_left (by omega)]
        rfl
      have hfl : Filled (bagL (cl.take j)) j := by
        have := bagL_filled (cl.take j) (by rw [List.length_take]; omega)
        rwa [List.length_take, Nat.min_eq_left (by omega)] at this
      have PU : Hid (∀ W, Keep Non wr W → Calls Tryz.prog 17 #[.pointer (some ⟨lb, 0, none⟩), .int .i64 j, .agg #[.int .i64 cl[j].1, .slice sa cl[j].2.length sc]] W fun r w' => (∃ e, r = .returned (errv e)) ∧ LgTo FJ W lb 1 (putL (bagL (cl.take j)) j cl[j]) w') := Lib.hid (fun W k => by
        refine lput_any W (lj.keepNon k) hfl (by omega) (HL.out.keep (S := fun g => w.heap.size ≤ g) ((KW3.out.mono (T := fun g => w.heap.size ≤ g) (fun _ _ e => e.elim)).trans (kj.trans1 k.ofNon) (fun _ _ e => e) (fun g hg e => by have := e.1; omega)) (fun g hg e => by omega)) (Rd.keepNon h5 k) (by
          rcases h6 with h6 | h6
          · exact .inl h6
          by_cases hne : cl[j].2 = []
          · exact .inl hne
          refine .inr (fun g e => ⟨fun y => ?_, k.lt (h6 g e)⟩)
          have hown : g < w.heap.size := by
            obtain ⟨_, _, e1, hx0⟩ := H.out
            injection e1 with e1 _ _
            obtain ⟨g1, off1, sa1, sc1, q1, q2, q3, q4, q5, q6⟩ := hx0 j hlt
            rw [← e1] at q1
            injection q1 with q1
            injection q1 with q1 q1'
            subst q1
            subst q1'
            have kk : Keep (fun g => w.heap.size ≤ g) w wr := (KW3.out.mono (T := fun g => w.heap.size ≤ g) (fun _ _ e => e.elim)).trans kj (fun _ _ e => e) (fun g hg e => by have := e.1; omega)
            have h4' := cell_keepS kk (by omega) q4
            rw [h4] at h4'
            injection h4' with h4'
            rw [h4'] at e
            exact (q6.resolve_left hne) g e
          have := hFJ g y
          omega))
      have HJ := Lib.hid (And.intro kj sj)
      have HST := Lib.hid hst
      clear h5 h6 hx lj hfl kj sj hst
      generalize cl[j] = y at h3 h4 PU HST
      go_wp2_with (go_at_call 17; refine (PU.out _ ((Keep.refl _ _).alloc _)).mono ?_; rintro e w5 ⟨⟨ee, rfl⟩, t5⟩; have T5 := Lib.hid t5; clear t5)
      refine ⟨⟨j + 1, by omega, by first | rfl | go_num, ?_⟩, by simp [intOf]; omega⟩
      rw [HST.out]
      exact LgTo.trans HJ.out.2 HJ.out.1 (LgTo.pre ((Keep.refl _ _).alloc _) T5.out)
    · obtain rfl : j = cl.length := by omega
      rw [List.take_length] at TJ
      go_wp2_with fail
      refine bodyPost_ret (v := .tuple #[.pointer (some ⟨lb, 0, none⟩), .pointer (some ⟨b, 0, none⟩), .pointer (some ⟨p, 0, none⟩), .bool true]) (by simp [results, Tryz.results6, go_sem]) rfl ?_
      obtain ⟨kj, FJ, sj, lj⟩ := TJ.out
      have h1 := K1.out.size
      have h2 := K2.out.size
      have h3 := K3.out.size
      have hw : w.heap.size ≤ w3.heap.size := KW3.out.size
      have hz := Z1.out
      have hF : ∀ g, F3 g → w1.heap.size ≤ g ∧ g < w3.heap.size := fun g y => by
        have := S3.out.2.2.1 g y
        rcases S3.out.1 g y with u | u
        · exact ⟨u.1, this⟩
        · exact ⟨by omega, this⟩
      have hbb := S3.out.2.2.2
      have kw : Keep Non w wr := KW3.out.trans kj (fun _ _ e => e) (fun g hg e => by have := e.1; omega)
      refine ⟨lb, b, p, q, F3, fun g => FJ g ∧ g < wr.heap.size, rfl, kw, ⟨kj.at VB.out (fun e => by have := e.2; omega), ST3.out.keep kj (fun g y e => by have := hF g y; have := e.2; omega), (by rw [(bagL_filled cl hn).one]; exact lj.low), HL.out.keepNon kw, ⟨S3.out.2.1, fun y => ?_, by omega⟩, fun g y z => ?_, fun g y => ⟨by have := hF g y; omega, by have := hF g y; have := kj.size; omega⟩, fun g y => y.2⟩, fun g y => y.elim (fun y => by have := hF g y; omega) (fun e => by omega)⟩
      · have hb3 : b < w3.heap.size := lt_of_block VB.out
        rcases sj b y.1 with u | u
        · have := u.2; omega
        · omega
      · have := hF g y
        rcases sj g z.1 with u | u
        · have := u.2; omega
        · omega
end Go.Proofs.YtdmckfkhkjkdnaaGreatDoor
