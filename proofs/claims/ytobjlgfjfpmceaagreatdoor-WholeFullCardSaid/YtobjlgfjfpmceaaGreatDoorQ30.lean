/- A shelf is opened on an empty disk: walked. · Acts with a shelf that has room: seal, write, fill, trim, cut. · A shared log in memory: its units' disk -/
import Derived.Test.YtobjlgfjfpmceaaGreatDoorQ26
import Derived.Test.YtobjlgfjfpmceaaGreatDoorQ29
set_option linter.unusedVariables false
set_option maxRecDepth 100000
set_option maxHeartbeats 16000000
namespace Go.Proofs.YtobjlgfjfpmceaaGreatDoor
open Go.RowKit Go.Maps
theorem perm_nil {ns : List Byt} {X : Dk} (h : ns.Perm (Go.strKeys X.shown)) (he : X.shown = .map []) : ns = [] := by
  rw [he] at h
  exact h.eq_nil
theorem slist_nil (F : Nat → Prop) (q p : Nat) (b : Byt) (X : Dk) (w : World) (d : StoreAt F w q p X) (hd : X.down = false) (he : X.shown = .map []) :
    Calls Tryz.prog 225 #[.pointer (some ⟨q, 0, none⟩), sv b] w fun e w' => e = .returned (.tuple #[.slice none 0 0, .nilIface]) ∧ Keep Non w w' := by
  obtain ⟨blk, inF, G, dg, hg⟩ := d
  have c0 := st_0 blk
  have L : Hid (Calls Tryz.prog 60 #[.pointer (some ⟨p, 0, none⟩)] w fun e w' => ∃ a c, e = .returned (.tuple #[.slice a 0 c, .nilIface]) ∧ Keep Non w w') := Lib.hid (by
    refine (dlist_ok G p X w dg hd (by rw [he]; decide)).mono ?_
    rintro e w' ⟨v, ns, rfl, hp, k, o⟩
    obtain rfl := perm_nil hp he
    obtain ⟨a, c, rfl, _, _⟩ := ownsRow_form o
    exact ⟨a, c, rfl, k⟩)
  clear blk dg hg
  unfold sv
  go_enter Tryz.func225, Tryz.ntmps225
  go_wp2_with (go_at_call 60; refine L.out.mono ?_; rintro r w1 ⟨a, c, rfl, k1⟩; have K1 := Lib.hid k1; clear k1)
  refine wp_loop_rounds 1 ?_
  rw [rounds_succ]
  go_wp2_with fail
  go_ret2
  exact ⟨rfl, K1.out⟩
theorem shbase_nil (F : Nat → Prop) (q p : Nat) (X : Dk) (w : World) (d : StoreAt F w q p X) (hd : X.down = false) (he : X.shown = .map []) :
    Calls Tryz.prog 162 #[.pointer (some ⟨q, 0, none⟩)] w fun e w' => ∃ b, e = .returned (.tuple #[.pointer (some ⟨b, 0, none⟩), .int .i64 0, .nilIface]) ∧ Keep Non w w' ∧ UnAt (fun g => w.heap.size ≤ g ∧ g < w'.heap.size) w' b 0 0 (.map []) := by
  have L := Lib.hid (slist_nil F q p [98] X w d hd he)
  clear d
  unfold sv at L
  go_enter Tryz.func162, Tryz.ntmps162
  go_wp2_with (go_at_call 225; refine L.out.mono ?_; rintro r w1 ⟨rfl, k1⟩; have K1 := Lib.hid k1; clear k1)
  refine wp_loop_rounds 1 ?_
  rw [rounds_succ]
  go_wp2_with (go_at_call 228; refine (unnew_any _).mono ?_; rintro r w2 ⟨b, rfl, k2, u2⟩; have K2 := Lib.hid k2; have U2 := Lib.hid u2; clear k2 u2)
  refine bodyPost_ret (v := .tuple #[.pointer (some ⟨b, 0, none⟩), .int .i64 0, .nilIface]) (by simp [results, Tryz.results162, go_sem]) rfl ?_
  exact ⟨b, rfl, K1.out.trans1 K2.out, U2.out.mono (fun g e => ⟨Nat.le_trans K1.out.size e.1, e.2⟩)⟩
theorem shagain_no {F : Nat → Prop} {p dp : Nat} {s : Sh} (w : World) (h : ShAt F w p dp s) (hlay : Lay w) (hn : s.next < 1000) (hd : s.X.down = false) (hh : fhas s.X.shown (nameN 114 s.next) = false) :
    Calls Tryz.prog 163 #[.pointer (some ⟨p, 0, none⟩)] w fun e w' => e = .returned (.tuple #[.bool false, .nilIface]) ∧ Keep Non w w' := by
  obtain ⟨FS, FU, q, u, h⟩ := h
  have H := Lib.hid h
  have c0 := sh_0 h.blk
  have c2 := sh_2 h.blk
  have NMW : Hid (∀ W, Keep Non w W → Calls Tryz.prog 168 #[.string ⟨#[114]⟩, .int .i64 s.next] W fun e w' => e = .returned (.string ⟨(nameN 114 s.next).toArray⟩) ∧ Keep Non W w') := Lib.hid (fun W k => shname_ok s.next W hn (hlay.keepNon k))
  have GT : Hid (∀ W, Keep Non w W → Calls Tryz.prog 24 #[.pointer (some ⟨q, 0, none⟩), .string ⟨(nameN 114 s.next).toArray⟩] W fun e w' => e = .returned (.tuple #[.slice none 0 0, .iface 45 (.int .i64 4)]) ∧ Keep Non W w') := Lib.hid (fun W k => sget_none FS q dp (nameN 114 s.next) s.X W (h.store.keep k (fun _ _ x => x)) (name_ok _ hn) hd hh)
  have hee := eql_err 4 4
  rw [show ((4 : Int) == 4) = true from rfl] at hee
  have hnx : ¬ (99999999 : Int) < (s.next : Int) := by omega
  clear h hlay hd hh
  go_enter Tryz.func163, Tryz.ntmps163
  go_wp2_with fail
  have c0d : w.drew.cell? ⟨p, 0, none⟩ = some (.pointer (some ⟨q, 0, none⟩)) := c0
  have c2d : w.drew.cell? ⟨p, 2, none⟩ = some (.int .i64 s.next) := c2
  have NMD := Lib.hid (NMW.out w.drew (Keep.refl Non w).drew)
  go_region_law (go_simp; first
    | (go_at_call 168; refine NMD.out.mono ?_; rintro r w5 ⟨rfl, k5'⟩; have k5 := (Keep.refl Non w).drew.trans1 k5'; have c0e := sh_0 (nonAt k5 H.out.blk); have K5 := Lib.hid k5; have GTW := Lib.hid (GT.out w5 k5); clear k5 k5')
    | (go_at_call 24; refine GTW.out.mono ?_; rintro r w6 ⟨rfl, k6⟩; have K6 := Lib.hid (K5.out.trans1 k6); clear k6))
  all_goals go_wp2_with fail
  all_goals
    go_ret2
    exact ⟨rfl, K6.out⟩
theorem shopen_close {F F1 : Nat → Prop} {w w1 w2 : World} {p q b room : Nat} (k1 : Keep F w w1) (s1 : Sub F1 F w) (d1 : StoreAt F1 w1 q p (dk0 room)) (k2 : Keep Non w1 w2) (u2 : UnAt (fun g => w1.heap.size ≤ g ∧ g < w2.heap.size) w2 b 0 0 (.map [])) (hq : w.heap.size ≤ q) (hF : ∀ g, F g → g < w.heap.size) :
    ∃ F', Sub F' F w ∧ ShAt F' (w2.alloc (ShB q b 0)) w2.heap.size p ⟨dk0 room, 0, 0, .map [], 0⟩ := by
  have kB : Keep Non w2 (w2.alloc (ShB q b 0)) := (Keep.refl _ _).alloc _
  have z1 := k1.size
  have z2 := k2.size
  have hsz : (w2.alloc (ShB q b 0)).heap.size = w2.heap.size + 1 := by simp
  refine ⟨fun g => g = w2.heap.size ∨ (F1 g ∧ g < w1.heap.size) ∨ (w1.heap.size ≤ g ∧ g < w2.heap.size), ?_, fun g => F1 g ∧ g < w1.heap.size, fun g => w1.heap.size ≤ g ∧ g < w2.heap.size, q, b, blk_new _ _, ?_, u2.keepNon kB, .inl rfl, ?_, ?_, ?_, ?_⟩
  · rintro g (rfl | x | x)
    · exact .inr (by omega)
    · exact s1 g x.1
    · exact .inr (by omega)
  · obtain ⟨b1, b2, G, dg, hg⟩ := d1
    have hlow : StoreAt (fun g => F1 g ∧ g < w1.heap.size) w1 q p (dk0 room) := ⟨b1, ⟨b2, lt_of_block b1⟩, fun g => G g ∧ g < w1.heap.size, dg.low, fun g x => ⟨⟨(hg g x.1).1, x.2⟩, (hg g x.1).2⟩⟩
    exact hlow.keep (k2.trans1 kB) (fun _ _ x => x)
  · exact fun g x => ⟨.inr (.inl x), by have := x.2; omega⟩
  · exact fun g x => ⟨.inr (.inr x), by have := x.2; omega⟩
  · exact fun g x y => by have := x.2; have := y.1; omega
  · rintro g (rfl | x | x)
    · omega
    · have := x.2; omega
    · have := x.2; omega
theorem shopen_ok {F : Nat → Prop} {p : Nat} {room : Nat} (w : World) (d : DiskAt F w p (dk0 room)) (hlay : Lay w) (hF : ∀ g, F g → 10 ≤ g ∧ g < w.heap.size) :
    Calls Tryz.prog 103 #[.pointer (some ⟨p, 0, none⟩)] w fun e w' => ∃ b, e = .returned (.tuple #[.pointer (some ⟨b, 0, none⟩), .nilIface]) ∧ Keep F w w' ∧ ∃ F', Sub F' F w ∧ ShAt F' w' b p ⟨dk0 room, 0, 0, .map [], 0⟩ := by
  have HF := Lib.hid hF
  have LY := Lib.hid hlay
  have tid : (dk0 room).tidy := fun n h => by simp [dk0, fhas, has] at h
  have SO : Hid (Calls Tryz.prog 23 #[.pointer (some ⟨p, 0, none⟩)] w fun e w' => ∃ q, e = .returned (.tuple #[.pointer (some ⟨q, 0, none⟩), .nilIface]) ∧ w.heap.size ≤ q ∧ StoreTo F w q p (dk0 room) w') := Lib.hid (by
    refine (sopen_up F p (dk0 room) 0 0 0 w d ⟨rfl, by show (-1 : Int) < 0; decide⟩ ⟨by simp [dk0, size], by simp [dk0], by simp [dk0, fused], by simp [dk0], isMap_empty⟩ (by omega) (by omega) (by omega) (fun n h => by simp [dk0, fhas, has] at h)).mono ?_
    rintro e w' ⟨q, ns, rfl, hq, hp, t⟩
    obtain rfl := perm_nil hp rfl
    exact ⟨q, rfl, hq, t⟩)
  clear d hlay hF
  go_enter Tryz.func103, Tryz.ntmps103
  go_wp2_with (first
    | (go_at_call 23; refine SO.out.mono ?_; rintro r w1 ⟨q, rfl, hq, k1, F1, s1, d1⟩; have K1 := Lib.hid k1; have S1 := Lib.hid s1; have D1 := Lib.hid d1; clear k1 s1 d1)
    | (go_at_call 162; refine (shbase_nil F1 q p (dk0 room) w1 D1.out rfl rfl).mono ?_; rintro r w2 ⟨b, rfl, k2, u2⟩; have K2 := Lib.hid k2; have U2 := Lib.hid u2; clear k2 u2))
  obtain ⟨F', sF, sA⟩ := shopen_close (room := room) K1.out S1.out D1.out K2.out U2.out hq (fun g x => (HF.out g x).2)
  have kB : Keep Non w2 (w2.alloc (ShB q b 0)) := (Keep.refl _ _).alloc _
  have KB := Lib.hid (K1.out.trans1 (K2.out.trans1 kB).ofNon)
  have AG := Lib.hid (shagain_no _ sA (LY.out.keep KB.out (fun g hg x => by have := HF.out g x; omega)) (by show 0 < 1000; decide) rfl rfl)
  have SF := Lib.hid sF
  have SA := Lib.hid sA
  clear sF sA kB
  refine wp_loop_rounds 1 ?_
  rw [rounds_succ]
  go_wp2_with (go_at_call 163; refine AG.out.mono ?_; rintro r w4 ⟨rfl, k4⟩; have K4 := Lib.hid k4; clear k4)
  go_ret2
  exact ⟨w2.heap.size, rfl, KB.out.trans1 K4.out.ofNon, F', SF.out, SA.out.keepNon K4.out⟩
theorem vtext_le (d : List UInt8) (h : d.length ≤ 64) : (vtext d).length ≤ 73 := by
  have := vputs1_len (a := d.length) (by omega)
  unfold vputs at this
  simp only [List.flatMap_cons, List.flatMap_nil, List.append_nil] at this
  simp only [vtext, List.length_append]
  omega
theorem actBy_len (k e a : Nat) (d : List UInt8) (hk : k ≤ 5) (he : e ≤ 1099511627776) (ha : a ≤ 1048576) (hd : d.length ≤ 64) : (actBy k e a d).length ≤ 200 := by
  have h1 := vputs2_len (a := k) (b := e) (by omega) (by omega)
  have h2 := vputs1_len (a := a) (by omega)
  have h3 := vtext_le d hd
  have h4 : (actT k e a d).length ≤ 100 := by
    unfold actT
    split <;> split <;> simp only [List.length_append, List.length_nil] <;> omega
  have := frame_len (t := actT k e a d) (by omega)
  unfold actBy
  omega
structure Sh.ok (s : Sh) : Prop where
  free : s.X.free
  lim : s.X.lim (2 * s.next) (2 * s.next) (400 * s.next)
  room : s.X.room = 16777216
  many : size s.D ≤ s.next
theorem Sh.ok.code {s : Sh} (h : s.ok) (hn : s.next < 240) {by' : Byt} (hb : by'.length ≤ 200) : (s.X.sput (nameN 114 s.next) by') = (0, ⟨s.X.room, putFl s.X.shown (nameN 114 s.next) by', putFl s.X.shown (nameN 114 s.next) by', [], s.X.fuse, s.X.down⟩) := by
  rw [sput_free h.free h.lim.map _ _ (by omega), if_neg (not_full h.lim (by omega) (by have := h.room; omega))]
theorem Sh.ok.did {s : Sh} (h : s.ok) (hn : s.next < 240) {by' : Byt} (hb : by'.length ≤ 200) {e l : Nat} {D : Un} (hD : size D ≤ size s.D + 1) : (s.did by' e l D).ok := by
  have hl := h.lim.sput (nameN 114 s.next) by'
  have hm := h.many
  refine ⟨?_, ?_, ?_, ?_⟩
  · unfold Sh.did
    rw [h.code hn hb]
    exact h.free
  · exact hl.mono (by show _ ≤ 2 * (s.next + 1); omega) (by show _ ≤ 2 * (s.next + 1); omega) (by show _ ≤ 400 * (s.next + 1); omega)
  · unfold Sh.did
    rw [h.code hn hb]
    exact h.room
  · show size D ≤ s.next + 1
    omega
def Acts (s s2 : Sh) (v : Value) (R : (Nat → Prop) → World → Prop) : Prop := ∀ (W : World) (F : Nat → Prop) (p dp : Nat), R F W → Lay W → (∀ g, F g → 10 ≤ g) → ShAt F W p dp s →
  Calls Tryz.prog 104 #[.pointer (some ⟨p, 0, none⟩), v] W fun r w' => (∃ n : Int, r = .returned (.tuple #[.int .i64 n, .nilIface])) ∧ ShTo F W p dp s2 w'
def Any : (Nat → Prop) → World → Prop := fun _ _ => True
theorem acts_seal {s : Sh} (h : s.ok) (hn : s.next < 240) (e2 : Nat) (he : s.e < e2) (he2 : e2 ≤ 1099511627776) : Acts s (s.did (actBy 1 e2 0 []) e2 s.l s.D) (.agg #[.int .i64 1, .int .i64 e2, .int .i64 0, .slice none 0 0]) Any :=
  fun W F p dp _ hlay hF hs => shdo_ok 1 e2 0 0 0 none _ e2 s.l s.D _ _ _ W hs hlay hF (by omega) h.lim (by omega) (by omega) (by omega) (by have := actBy_len 1 e2 0 [] (by omega) he2 (by omega) (by simp); omega)
    (by rw [h.code hn (actBy_len 1 e2 0 [] (by omega) he2 (by omega) (by simp))]) (fun W' b F' k u => rapply_seal F' b s.e s.l s.D e2 W' u he he2) (fun W' k => recput_seal e2 W' he2)
theorem acts_fill {s : Sh} (h : s.ok) (hn : s.next < 240) (a : Nat) (he : s.e ≤ 1099511627776) (ha : a ≤ 1048575) (h3 : (uat s.l s.D a).1 ≠ 3) (h1 : (uat s.l s.D a).1 ≠ 1) : Acts s (s.did (actBy 3 s.e a []) s.e s.l (uput s.D a (2, []))) (.agg #[.int .i64 3, .int .i64 s.e, .int .i64 a, .slice none 0 0]) Any :=
  fun W F p dp _ hlay hF hs => shdo_ok 3 s.e a 0 0 none _ s.e s.l (uput s.D a (2, [])) _ _ _ W hs hlay hF (by omega) h.lim (by omega) (by omega) (by omega) (by have := actBy_len 3 s.e a [] (by omega) he (by omega) (by simp); omega)
    (by rw [h.code hn (actBy_len 3 s.e a [] (by omega) he (by omega) (by simp))]) (fun W' b F' k u => rapply_fill F' b s.e s.l s.D a W' u he ha (by have := h.many; omega) h3 h1) (fun W' k => recput_fill s.e a W' he ha)
theorem acts_trim {s : Sh} (h : s.ok) (hn : s.next < 240) (a : Nat) (he : s.e ≤ 1099511627776) (ha : a ≤ 1048576) : Acts s (s.did (actBy 4 s.e a []) s.e (max s.l a) (cutLo (max s.l a) s.D)) (.agg #[.int .i64 4, .int .i64 s.e, .int .i64 a, .slice none 0 0]) Any :=
  fun W F p dp _ hlay hF hs => shdo_ok 4 s.e a 0 0 none _ s.e (max s.l a) (cutLo (max s.l a) s.D) _ _ _ W hs hlay hF (by omega) h.lim (by omega) (by omega) (by omega) (by have := actBy_len 4 s.e a [] (by omega) he ha (by simp); omega)
    (by rw [h.code hn (actBy_len 4 s.e a [] (by omega) he ha (by simp))]) (fun W' b F' k u => rapply_trim F' b s.e s.l s.D a W' u he ha) (fun W' k => recput_trim s.e a W' he ha)
theorem acts_cut {s : Sh} (h : s.ok) (hn : s.next < 240) (a : Nat) (he : s.e ≤ 1099511627776) (ha : a ≤ 1048576) (hl : s.l ≤ a) : Acts s (s.did (actBy 5 s.e a []) s.e s.l (cutHi a s.D)) (.agg #[.int .i64 5, .int .i64 s.e, .int .i64 a, .slice none 0 0]) Any :=
  fun W F p dp _ hlay hF hs => shdo_ok 5 s.e a 0 0 none _ s.e s.l (cutHi a s.D) _ _ _ W hs hlay hF (by omega) h.lim (by omega) (by omega) (by omega) (by have := actBy_len 5 s.e a [] (by omega) he ha (by simp); omega)
    (by rw [h.code hn (actBy_len 5 s.e a [] (by omega) he ha (by simp))]) (fun W' b F' k u => rapply_cut F' b s.e s.l s.D a W' u he ha hl) (fun W' k => recput_cut s.e a W' he ha)
theorem bs_keepO {v : Value} {d : List UInt8} {S : Nat → Prop} {w w' : World} (h : Bs w v d) (k : Keep S w w') (hn : d = [] ∨ ∀ g, v.ownBlock = some g → ¬ S g) : Bs w' v d := by
  rcases hn with rfl | hn
  · obtain ⟨a, c, e, _⟩ := h
    exact ⟨a, c, e, fun hne => absurd rfl hne⟩
  · exact Rd.keep h k hn
def BsOut (v : Value) (d : List UInt8) : (Nat → Prop) → World → Prop := fun F w => Bs w v d ∧ (d = [] ∨ ∀ g, v.ownBlock = some g → ¬ F g ∧ g < w.heap.size)
theorem BsOut.keep {v : Value} {d : List UInt8} {F S : Nat → Prop} {w w' : World} (h : BsOut v d F w) (k : Keep S w w') (hn : ∀ g, v.ownBlock = some g → ¬ S g) : BsOut v d F w' :=
  ⟨h.1.keep k hn, h.2.imp id (fun y g e => ⟨(y g e).1, k.lt (y g e).2⟩)⟩
theorem acts_write {s : Sh} (h : s.ok) (hn : s.next < 240) (a : Nat) (pa : Option Addr) (d : List UInt8) (dc : Nat) (hd : d.length ≤ 64) (he : s.e ≤ 1099511627776) (ha : a ≤ 1048575) (h0 : (uat s.l s.D a).1 = 0) : Acts s (s.did (actBy 2 s.e a d) s.e s.l (uput s.D a (1, d))) (.agg #[.int .i64 2, .int .i64 s.e, .int .i64 a, .slice pa d.length dc]) (BsOut (.slice pa d.length dc) d) :=
  fun W F p dp hR hlay hF hs => shdo_ok 2 s.e a d.length dc pa _ s.e s.l (uput s.D a (1, d)) _ _ _ W hs hlay hF (by omega) h.lim (by omega) (by omega) (by omega) (by have := actBy_len 2 s.e a d (by omega) he (by omega) hd; omega)
    (by rw [h.code hn (actBy_len 2 s.e a d (by omega) he (by omega) hd)]) (fun W' b F' k u => rapply_write F' b s.e s.l s.D a pa d dc W' u he ha (hR.1.keepNon k) hd (by have := h.many; omega) h0)
    (fun W' k => recput_write s.e a pa d dc W' (bs_keepO hR.1 k (hR.2.imp id (fun y g e x => by rcases x with x | x; exact (y g e).1 x; have := (y g e).2; omega))) hd he ha)
theorem size_uput {D : Un} (h : IsMap D) (a : Nat) (x : Cl) : size (uput D a x) ≤ size D + 1 := by
  obtain ⟨es, rfl⟩ := h
  show (DataW.insert _ _).length ≤ es.length + 1
  rw [length_insert]
  have := List.length_filter_le (fun p : Lit × DataW Cl => !p.1.sameKey (ulit a)) es
  omega
def ptrV (g : Nat) : Value := .pointer (some ⟨g, 0, none⟩)
def LgB (dv sv : Value) (e : Nat) (cv : Value) (q : Nat) : Obj := .cells #[dv, sv, .int .i64 e, cv, .pointer (some ⟨q, 0, none⟩)] 124 (0, 0)
section
variable {w : World} {b e q : Nat} {dv sv cv : Value}
theorem lg_0 (h : w.heap[b]? = some (LgB dv sv e cv q)) : w.cell? ⟨b, 0, none⟩ = some dv := by simp [World.cell?, h, LgB]
theorem lg_1 (h : w.heap[b]? = some (LgB dv sv e cv q)) : w.cell? ⟨b, 1, none⟩ = some sv := by simp [World.cell?, h, LgB]
theorem lg_2 (h : w.heap[b]? = some (LgB dv sv e cv q)) : w.cell? ⟨b, 2, none⟩ = some (.int .i64 e) := by simp [World.cell?, h, LgB]
theorem lg_3 (h : w.heap[b]? = some (LgB dv sv e cv q)) : w.cell? ⟨b, 3, none⟩ = some cv := by simp [World.cell?, h, LgB]
theorem lg_4 (h : w.heap[b]? = some (LgB dv sv e cv q)) : w.cell? ⟨b, 4, none⟩ = some (.pointer (some ⟨q, 0, none⟩)) := by simp [World.cell?, h, LgB]
theorem lg_f (h : w.heap[b]? = some (LgB dv sv e cv q)) (i : Nat) : w.frozen? ⟨b, i, none⟩ = false := by simp [World.frozen?, h, LgB]
theorem lg_set0 (h : w.heap[b]? = some (LgB dv sv e cv q)) (v : Value) : (w.setCell ⟨b, 0, none⟩ v).heap[b]? = some (LgB v sv e cv q) := blk_set h 0 _
theorem lg_set1 (h : w.heap[b]? = some (LgB dv sv e cv q)) (v : Value) : (w.setCell ⟨b, 1, none⟩ v).heap[b]? = some (LgB dv v e cv q) := blk_set h 1 _
theorem lg_set2 (h : w.heap[b]? = some (LgB dv sv e cv q)) (k : Nat) : (w.setCell ⟨b, 2, none⟩ (.int .i64 k)).heap[b]? = some (LgB dv sv k cv q) := blk_set h 2 _
end
structure Lg where
  shs : List Sh
  ep : Nat
  next : Nat
  se : Nat
structure LgIn (A : Nat → Nat → Prop) (w : World) (b : Nat) (dps sps : List Nat) (dv sv cv : Value) (q n : Nat) (L : Lg) : Prop where
  blk : w.heap[b]? = some (LgB dv sv L.ep cv q)
  sq : w.heap[q]? = some (SqB L.se L.next)
  sqin : SqIn L.se L.next
  disks : w.ownsRow 0 27 1 dv dps.length (dps.map ptrV)
  shelves : w.ownsRow 0 171 1 sv sps.length (sps.map ptrV)
  len : dps.length = L.shs.length ∧ sps.length = L.shs.length
  proj : PrAt (A 4) w cv n
  sh : ∀ i s p dp, L.shs[i]? = some s → sps[i]? = some p → dps[i]? = some dp → ShAt (A (5 + i)) w p dp s
  mem : A 0 b ∧ A 1 q ∧ (∀ g, dv.ownBlock = some g → A 2 g) ∧ (∀ g, sv.ownBlock = some g → A 3 g)
  apart : ∀ i j g, A i g → A j g → i = j
  low : ∀ i g, A i g → 10 ≤ g ∧ g < w.heap.size
  small : n ≤ 2 ∧ L.shs.length ≤ 2
def LgAt (F : Nat → Prop) (w : World) (b n : Nat) (L : Lg) : Prop := ∃ A dps sps dv sv cv q, LgIn A w b dps sps dv sv cv q n L ∧ ∀ i g, A i g → F g
def LgTo (F : Nat → Prop) (w : World) (b n : Nat) (L : Lg) (w' : World) : Prop := Keep F w w' ∧ ∃ F', Sub F' F w ∧ LgAt F' w' b n L
theorem LgIn.keep {A : Nat → Nat → Prop} {w w' : World} {b : Nat} {dps sps : List Nat} {dv sv cv : Value} {q n : Nat} {L : Lg} {S : Nat → Prop} (h : LgIn A w b dps sps dv sv cv q n L) (k : Keep S w w') (hn : ∀ i g, A i g → ¬ S g) : LgIn A w' b dps sps dv sv cv q n L :=
  ⟨k.at h.blk (hn 0 _ h.mem.1), k.at h.sq (hn 1 _ h.mem.2.1), h.sqin, ownsRow_keep h.disks k (fun g e => hn 2 g (h.mem.2.2.1 g e)), ownsRow_keep h.shelves k (fun g e => hn 3 g (h.mem.2.2.2 g e)), h.len,
    h.proj.keep k (hn 4), fun i s p dp a b c => (h.sh i s p dp a b c).keep k (hn _), h.mem, h.apart, fun i g e => ⟨(h.low i g e).1, k.lt (h.low i g e).2⟩, h.small⟩
theorem LgAt.keep {F S : Nat → Prop} {w w' : World} {b n : Nat} {L : Lg} (h : LgAt F w b n L) (k : Keep S w w') (hn : ∀ g, F g → ¬ S g) : LgAt F w' b n L := by
  obtain ⟨A, dps, sps, dv, sv, cv, q, h, hF⟩ := h
  exact ⟨A, dps, sps, dv, sv, cv, q, h.keep k (fun i g e => hn g (hF i g e)), hF⟩
theorem LgAt.keepNon {F : Nat → Prop} {w w' : World} {b n : Nat} {L : Lg} (h : LgAt F w b n L) (k : Keep Non w w') : LgAt F w' b n L := h.keep k (fun _ _ e => e)
theorem LgAt.mono {F G : Nat → Prop} {w : World} {b n : Nat} {L : Lg} (h : LgAt F w b n L) (hs : ∀ g, F g → g < w.heap.size → G g) : LgAt G w b n L := by
  obtain ⟨A, dps, sps, dv, sv, cv, q, h, hF⟩ := h
  exact ⟨A, dps, sps, dv, sv, cv, q, h, fun i g e => hs g (hF i g e) (h.low i g e).2⟩
def putA (A : Nat → Nat → Prop) (i : Nat) (B : Nat → Prop) : Nat → Nat → Prop := fun j g => if j = i then B g else A j g
theorem putA_same {A : Nat → Nat → Prop} {i : Nat} {B : Nat → Prop} {g : Nat} : putA A i B i g = B g := if_pos rfl
theorem putA_other {A : Nat → Nat → Prop} {i j : Nat} {B : Nat → Prop} {g : Nat} (h : j ≠ i) : putA A i B j g = A j g := if_neg h
theorem putA_apart {A : Nat → Nat → Prop} {i : Nat} {B : Nat → Prop} {w : World} (h : ∀ i j g, A i g → A j g → i = j) (hl : ∀ i g, A i g → 10 ≤ g ∧ g < w.heap.size) (hB : Sub B (A i) w) : ∀ j k g, putA A i B j g → putA A i B k g → j = k := by
  intro j k g hj hk
  unfold putA at hj hk
  split at hj
  · rename_i ej
    split at hk
    · rename_i ek; rw [ej, ek]
    · rcases hB g hj with x | x
      · rw [ej]; exact h _ _ g x hk
      · have := (hl _ g hk).2; omega
  · split at hk
    · rename_i ek
      rcases hB g hk with x | x
      · rw [ek]; exact h _ _ g hj x
      · have := (hl _ g hj).2; omega
    · exact h _ _ g hj hk
theorem LgIn.unit {A : Nat → Nat → Prop} {w w' : World} {b : Nat} {dps sps : List Nat} {dv sv cv : Value} {q n i p dp : Nat} {L : Lg} {s s2 : Sh} (h : LgIn A w b dps sps dv sv cv q n L) (hs : L.shs[i]? = some s) (hp : sps[i]? = some p) (hd : dps[i]? = some dp) (t : ShTo (A (5 + i)) w p dp s2 w') :
    ∃ B, Sub B (A (5 + i)) w ∧ Keep (A (5 + i)) w w' ∧ LgIn (putA A (5 + i) B) w' b dps sps dv sv cv q n { L with shs := L.shs.set i s2 } := by
  obtain ⟨k, B, sb, t⟩ := t
  have ap := putA_apart h.apart h.low sb
  have ne : ∀ j g, j ≠ 5 + i → A j g → ¬ A (5 + i) g := fun j g hj x y => hj (h.apart _ _ g x y)
  have e4 : ∀ (j : Nat), j < 5 → putA A (5 + i) B j = A j := fun j hj => by funext g; exact putA_other (by omega)
  have hil : i < L.shs.length := by
    rcases Nat.lt_or_ge i L.shs.length with x | x
    · exact x
    · rw [List.getElem?_eq_none x] at hs; cases hs
  refine ⟨B, sb, k, k.at h.blk (ne 0 _ (by omega) h.mem.1), k.at h.sq (ne 1 _ (by omega) h.mem.2.1), h.sqin, ownsRow_keep h.disks k (fun g e => ne 2 g (by omega) (h.mem.2.2.1 g e)), ownsRow_keep h.shelves k (fun g e => ne 3 g (by omega) (h.mem.2.2.2 g e)), ?_, ?_, ?_, ?_, ap, ?_, ?_⟩
  · simpa using h.len
  · rw [e4 4 (by omega)]; exact h.proj.keep k (fun g x => ne 4 g (by omega) x)
  · intro j s' p' dp' hj hpj hdj
    simp only at hj
    by_cases e : j = i
    · subst e
      rw [List.getElem?_set_self hil] at hj
      rw [hp] at hpj
      rw [hd] at hdj
      injection hj with hj
      injection hpj with hpj
      injection hdj with hdj
      subst hj
      subst hpj
      subst hdj
      have e5 : putA A (5 + j) B (5 + j) = B := by funext g; exact putA_same
      rw [e5]
      exact t
    · rw [List.getElem?_set_ne (fun x => e x.symm)] at hj
      have e5 : putA A (5 + i) B (5 + j) = A (5 + j) := by funext g; exact putA_other (by omega)
      rw [e5]
      exact (h.sh j s' p' dp' hj hpj hdj).keep k (fun g x => ne (5 + j) g (by omega) x)
  · rw [e4 0 (by omega), e4 1 (by omega), e4 2 (by omega), e4 3 (by omega)]; exact h.mem
  · intro j g x
    unfold putA at x
    have hsz := k.size
    split at x
    · refine ⟨?_, t.low g x⟩
      rcases sb g x with y | y
      · exact (h.low _ g y).1
      · have := (h.low 0 b h.mem.1); omega
    · have := h.low j g x; omega
  · simpa using h.small
theorem LgIn.unitTo {A : Nat → Nat → Prop} {F : Nat → Prop} {w w' : World} {b : Nat} {dps sps : List Nat} {dv sv cv : Value} {q n i p dp : Nat} {L : Lg} {s s2 : Sh} (h : LgIn A w b dps sps dv sv cv q n L) (hF : ∀ i g, A i g → F g) (hs : L.shs[i]? = some s) (hp : sps[i]? = some p) (hd : dps[i]? = some dp) (t : ShTo (A (5 + i)) w p dp s2 w') :
    LgTo F w b n { L with shs := L.shs.set i s2 } w' := by
  obtain ⟨B, sb, k, h'⟩ := h.unit hs hp hd t
  refine ⟨k.mono (fun g _ x => hF _ g x), fun g => ∃ j, putA A (5 + i) B j g, ?_, _, dps, sps, dv, sv, cv, q, h', fun j g x => ⟨j, x⟩⟩
  rintro g ⟨j, x⟩
  unfold putA at x
  split at x
  · rcases sb g x with y | y
    · exact .inl (hF _ g y)
    · exact .inr y
  · exact .inl (hF _ g x)
theorem LgTo.trans {F F' : Nat → Prop} {w w' w'' : World} {b n : Nat} {L : Lg} (s : Sub F' F w) (k : Keep F w w') (d : LgTo F' w' b n L w'') : LgTo F w b n L w'' := by
  obtain ⟨k2, F'', s2, d2⟩ := d
  exact ⟨keep_sub k s k2, F'', s.trans s2 k.size, d2⟩
theorem LgTo.refl {F : Nat → Prop} {w w' : World} {b n : Nat} {L : Lg} (d : LgAt F w b n L) (k : Keep Non w w') : LgTo F w b n L w' :=
  ⟨k.mono (fun _ _ e => e.elim), F, Sub.refl _ _, d.keepNon k⟩
theorem LgTo.pre {F : Nat → Prop} {w w1 w' : World} {b n : Nat} {L : Lg} (k : Keep Non w w1) (d : LgTo F w1 b n L w') : LgTo F w b n L w' := by
  obtain ⟨k2, F', s, d⟩ := d
  exact ⟨(k.mono (fun _ _ e => e.elim) : Keep F w w1).trans k2 (fun _ _ e => e) (fun _ _ e => e), F', fun g e => by rcases s g e with x | x; exact .inl x; exact .inr (Nat.le_trans k.size x), d⟩
theorem LgTo.post {F : Nat → Prop} {w w1 w' : World} {b n : Nat} {L : Lg} (d : LgTo F w b n L w1) (k : Keep Non w1 w') : LgTo F w b n L w' := by
  obtain ⟨k2, F', s, d⟩ := d
  exact ⟨k2.trans1 k.ofNon, F', s, d.keepNon k⟩
def HasSegs (X : Dk) (ps : List Pt) : Prop := ∀ (i : Nat) pt, ps[i]? = some pt → ∃ f cl, pt = ptOf f cl ∧ fhas X.shown (labelN 0 i) = true ∧ fget X.shown (labelN 0 i) = segB f cl ∧ cl ≠ [] ∧ cl.length ≤ 64 ∧ (∀ x ∈ cl, okCl x) ∧ f + cl.length ≤ 1048576
section
attribute [local go_sem ↓] hV81 hV101 hV83 hW81 hW101 hW83 hB101 hB83
theorem vheld_ok (F : Nat → Prop) (b q p : Nat) (lv : Value) (m : Mf) (pv : Value) (X : Dk) (w : World) (hb : w.heap[b]? = some (VtB q lv)) (d : StoreAt F w q p X) (hdn : X.down = false) (hlay : Lay w) (hp : PtsAt w pv m.parts) (h32 : m.prev.length = 32) (hnum : m.num = 0) (h64 : m.parts.length ≤ 64) (hS : HasSegs X m.parts) :
    Calls Tryz.prog 199 #[.pointer (some ⟨b, 0, none⟩), mfV m pv] w fun e w' => e = .returned .nilIface ∧ Keep Non w w' := by
  have PA := Lib.hid hp
  have VS : Hid (∀ W, Keep Non w W → W.cell? ⟨b, 0, none⟩ = some (.pointer (some ⟨q, 0, none⟩))) := Lib.hid (fun W k => vt_0 (nonAt k hb))
  have B := Lib.hid hb
  have HS := Lib.hid hS
  have LY := Lib.hid hlay
  have LB := Lib.hid (fun W i (hi : i < 64) => vlabel_ok 0 i W (by omega) (by omega))
  have GT := Lib.hid (fun W i (k : Keep Non w W) f cl (h1 : fhas X.shown (labelN 0 i) = true) (h2 : fget X.shown (labelN 0 i) = segB f cl) (hi : i < 64) (hl : (segB f cl).length ≤ 131072) => by
    have := sget_ok F q p (labelN 0 i) X W (d.keep k (fun _ _ e => e)) (label_ok 0 i (by omega) (by omega)) hdn h1 (by rw [h2]; omega)
    rw [h2] at this
    exact this)
  obtain ⟨a, c, rfl, hc, ha, hx⟩ := hp
  have q36 := mfc_36 m (.slice a m.parts.length c) h32
  have MB : Hid (∀ W, Keep Non (w.alloc (MfB m (.slice a m.parts.length c))) W → W.cell? ⟨w.heap.size, 0, none⟩ = some (.int .i64 m.num) ∧ W.cell? ⟨w.heap.size, 36, none⟩ = some (.slice a m.parts.length c)) := Lib.hid (fun W k => ⟨mf_0 (nonAt k (blk_new w _)), mf_36 (nonAt k (blk_new w _)) h32⟩)
  have m36 := mf_36 (blk_new w (MfB m (.slice a m.parts.length c))) h32
  have KA := Lib.hid ((Keep.refl Non w).alloc (MfB m (.slice a m.parts.length c)))
  rw [hnum] at MB
  clear hx ha hb d hdn hlay hS
  unfold mfV
  unfold MfB at m36
  unfold sv at LB GT
  go_enter Tryz.func199, Tryz.ntmps199
  go_wp2_with fail
  have K0 : Hid (Keep Non w (w.alloc (MfB m (.slice a m.parts.length c)))) := KA
  obtain ⟨w0, hw0⟩ : ∃ w0, w0 = w.alloc (MfB m (.slice a m.parts.length c)) := ⟨_, rfl⟩
  rw [← hw0] at MB K0
  unfold MfB at hw0
  rw [← hw0]
  clear KA m36 hw0
  go_loopw [14] (fun i wr => ∃ j : Nat, j ≤ m.parts.length ∧ i = .int .i64 j ∧ Keep Non w0 wr) (fun i _ => m.parts.length - (intOf i).toNat)
  case atStart => exact ⟨0, by omega, rfl, Keep.refl _ _⟩
  case round =>
    obtain ⟨j, hj, rfl, hk⟩ := hrel
    have K := Lib.hid hk
    clear hk
    by_cases hlt : j < m.parts.length
    · have hlj : (j : Int) < (m.parts.length : Int) := by omega
      obtain ⟨pt, hpj⟩ : ∃ pt, m.parts[j]? = some pt := ⟨_, List.getElem?_eq_getElem hlt⟩
      obtain ⟨f, cl, rfl, f1, f2, hne, hcl, hokc, hfl⟩ := HS.out j pt hpj
      obtain ⟨a1, c1, e1, _, _, hx⟩ := PA.out.keepNon (K0.out.trans1 K.out)
      injection e1 with e1 e3 e4
      subst e1
      subst e4
      obtain ⟨g, off, rfl, hcell⟩ := hx j _ hpj
      have p5 : (ptOf f cl).sum.length = 32 := digB_len _
      have hsl := seg_len hokc hcl (show f ≤ 1048576 by omega)
      have hrl := run_len hokc hcl (show f ≤ 1048576 by omega)
      have MH := Lib.hid (fun W v (k : Keep Non w W) (hb : Bs W v (segB f cl)) (ho : okc v) (hv : ∀ g, v.ownBlock = some g → g < W.heap.size) => mholds_ok f v cl W hb ho hv hcl hokc hfl (by omega) (by omega) (LY.out.keepNon k).kon (LY.out.keepNon k).frs)
      have GTJ := Lib.hid (fun W (k : Keep Non w W) => GT.out W j k f cl f1 f2 (by omega) (by omega))
      have hlen : (segB f cl).length ≤ 6207 := hsl
      generalize hpt : ptOf f cl = pt at hcell p5 MH
      generalize hsb : segB f cl = sb at MH GTJ hlen
      have hld := load101 wr g (off + j * 35) pt p5 hcell
      have hsp := store_pt0 wr pt p5
      have kwp : Keep Non w (wr.alloc (PtB pt)) := (K0.out.trans1 K.out).alloc _
      have k0p : Keep Non w0 (wr.alloc (PtB pt)) := K.out.alloc _
      have v0 := VS.out _ kwp
      have n0 := (MB.out _ k0p).1
      have LBJ := Lib.hid (LB.out (wr.alloc (PtB pt)).drew j (by omega))
      have PL : Hid (∀ W, Keep Non (wr.alloc (PtB pt)) W → (holdV 101 ⟨wr.heap.size, 0, none⟩).run Tryz.prog W = .ok (ptV pt) W) := Lib.hid (fun W k => load_pt (nonAt k (blk_new wr (PtB pt))) p5)
      have KWP := Lib.hid kwp
      have NC : ((0 : Nat) : Int) = 0 := rfl
      rw [NC] at n0
      clear hx hpj hne hcl hokc hfl hsl hrl f1 f2 p5 kwp k0p hpt hsb
      dsimp only [zPt, PtB] at hsp
      dsimp only [PtB] at v0 n0 LBJ
      rw [NC] at LBJ
      go_wp2_with fail
      have kpd : Keep Non (wr.alloc (PtB pt)) (wr.alloc (PtB pt)).drew := (Keep.refl _ _).drew
      have KPD := Lib.hid kpd
      clear kpd
      go_region_law (go_simp; first
        | (go_at_call 197; refine LBJ.out.mono ?_; rintro r w2 ⟨rfl, k2⟩; have k2' := KPD.out.trans1 k2; have v2 := VS.out _ (KWP.out.trans1 k2'); have GTW := Lib.hid (GTJ.out w2 (KWP.out.trans1 k2')); have K2 := Lib.hid k2'; clear k2 k2')
        | (go_at_call 24; refine GTW.out.mono ?_; rintro r w3 ⟨v3, rfl, k3, o3⟩; obtain ⟨a3, c3, rfl, _, _⟩ := ownsRow_form o3; have k3' := K2.out.trans1 k3; have hl3 := PL.out _ k3'; have MHW := Lib.hid (MH.out w3 _ (KWP.out.trans1 k3') (Rd.ofOwns o3) (okc_own o3) (fun g e => (o3.lt g e).2)); have K3 := Lib.hid (KWP.out.trans1 k3'); have K3' := Lib.hid k3'; clear k3 o3 k3'))
      all_goals go_wp2_with (go_at_call 261; refine MHW.out.mono ?_; rintro r w4 ⟨v4, rfl, k4, xs, o4, _⟩; obtain ⟨a4, c4, rfl, _, _⟩ := ownsRow_form o4; have K4 := Lib.hid k4; clear k4 o4)
      all_goals exact ⟨⟨j + 1, by omega, by first | rfl | go_num, ((K.out.alloc _).trans1 (K3'.out.trans1 K4.out)).alloc _⟩, by simp [intOf]; omega⟩
    · obtain rfl : j = m.parts.length := by omega
      go_wp2_with fail
      go_ret
      exact ⟨rfl, K0.out.trans1 K.out⟩
end
theorem lt_of_some {α : Type} {l : List α} {i : Nat} {x : α} (h : l[i]? = some x) : i < l.length := by
  rcases Nat.lt_or_ge i l.length with y | y
  · exact y
  · rw [List.getElem?_eq_none y] at h; cases h
theorem row_cell {w : World} {B g c k i x : Nat} {ty : TypeId} {l : List Nat} (o : w.ownsRow B ty 1 (.slice (some ⟨g, 0, none⟩) k c) l.length (l.map ptrV)) (hi : l[i]? = some x) : w.cell? ⟨g, i, none⟩ = some (ptrV x) := by
  have hr := Rd.ofOwns o
  obtain ⟨a', c', e, hx⟩ := hr
  injection e with e1 e2 e3
  obtain ⟨g', off, e4, hc⟩ := hx (by intro e; rw [List.map_eq_nil_iff] at e; rw [e] at hi; cases hi)
  rw [← e1] at e4
  injection e4 with e4
  injection e4 with e4 e5
  subst e4
  subst e5
  have := hc i (ptrV x) (by rw [List.getElem?_map, hi]; rfl)
  rwa [Nat.zero_add] at this
theorem LgIn.at {A : Nat → Nat → Prop} {w : World} {b : Nat} {dps sps : List Nat} {dv sv cv : Value} {q n u : Nat} {L : Lg} {s : Sh} (h : LgIn A w b dps sps dv sv cv q n L) (hs : L.shs[u]? = some s) :
    ∃ p dp sg sc dg dc, sv = .slice (some ⟨sg, 0, none⟩) L.shs.length sc ∧ dv = .slice (some ⟨dg, 0, none⟩) L.shs.length dc ∧ sps[u]? = some p ∧ dps[u]? = some dp ∧ u < L.shs.length ∧ w.cell? ⟨sg, u, none⟩ = some (ptrV p) ∧ w.cell? ⟨dg, u, none⟩ = some (ptrV dp) ∧ ShAt (A (5 + u)) w p dp s := by
  have hu := lt_of_some hs
  obtain ⟨l1, l2⟩ := h.len
  obtain ⟨sg, sc, e1, _⟩ := own_some h.shelves (by omega)
  obtain ⟨dg, dc, e2, _⟩ := own_some h.disks (by omega)
  have hp := List.getElem?_eq_getElem (show u < sps.length by omega)
  have hd := List.getElem?_eq_getElem (show u < dps.length by omega)
  have r1 := h.shelves
  have r2 := h.disks
  rw [e1] at r1
  rw [e2] at r2
  exact ⟨_, _, sg, sc, dg, dc, by rw [e1, l2], by rw [e2, l1], hp, hd, hu, row_cell r1 hp, row_cell r2 hd, h.sh u s _ _ hs hp hd⟩
theorem lgin_yes (x most : Int) (w : World) (h1 : 0 ≤ x) (h2 : x ≤ most) :
    Calls Tryz.prog 49 #[.int .i64 x, .int .i64 most] w fun e w' => e = .returned (.bool true) ∧ w' = w := by
  go_enter Tryz.func49, Tryz.ntmps49
  go_wp2_with fail
  go_ret
  exact ⟨rfl, rfl⟩
theorem lgask_ok (b : Nat) (w : World) :
    Calls Tryz.prog 48 #[.pointer (some ⟨b, 0, none⟩), .bool true] w fun e w' => e = .returned .nilIface ∧ w' = w := by
  go_enter Tryz.func48, Tryz.ntmps48
  go_wp2_with fail
  go_ret
  exact ⟨rfl, rfl⟩
theorem lgdo_ok {F : Nat → Prop} {b n u : Nat} {L : Lg} {s s2 : Sh} (k e a m c : Nat) (pa : Option Addr) (R : (Nat → Prop) → World → Prop) (w : World) (h : LgAt F w b n L) (hs : L.shs[u]? = some s) (hlay : Lay w)
    (ha : Acts s s2 (.agg #[.int .i64 k, .int .i64 e, .int .i64 a, .slice pa m c]) R) (hR : ∀ w' F', Keep Non w w' → (∀ g, F' g → F g) → R F' w') :
    Calls Tryz.prog 171 #[.pointer (some ⟨b, 0, none⟩), .int .i64 u, .agg #[.int .i64 k, .int .i64 e, .int .i64 a, .slice pa m c]] w fun r w' => (∃ n : Int, r = .returned (.tuple #[.int .i64 n, .nilIface])) ∧ LgTo F w b n { L with shs := L.shs.set u s2 } w' := by
  obtain ⟨A, dps, sps, dv, sv, cv, q, h, hF⟩ := h
  have kA : Keep Non w (w.alloc (ActB k e a (.slice pa m c))) := (Keep.refl _ _).alloc _
  have hA := h.keep kA (fun _ _ _ x => x)
  obtain ⟨p, dp, sg, sc, dg, dc, rfl, rfl, hp, hd, hu, hcs, hcd, hsh⟩ := hA.at hs
  have c1 := lg_1 hA.blk
  unfold ptrV at hcs
  have kAd : Keep Non w (w.alloc (ActB k e a (.slice pa m c))).drew := kA.drew
  have hAd := hA.keep ((Keep.refl Non _).drew) (fun _ _ _ x => x)
  have AC := Lib.hid (ha _ _ p dp (hR _ (A (5 + u)) kAd (hF _)) (hlay.keepNon kAd) (fun g x => (hA.low _ g x).1) (hsh.keepNon (Keep.refl Non _).drew))
  have CL := Lib.hid (fun w' (t : ShTo (A (5 + u)) (w.alloc (ActB k e a (.slice pa m c))).drew p dp s2 w') => LgTo.pre kAd (hAd.unitTo hF hs hp hd t))
  have bA := blk_new w (ActB k e a (.slice pa m c))
  have a0 := ac_0 bA
  have a1 := ac_1 bA
  have a2 := ac_2 bA
  have a3 := ac_3 bA
  have hlt : (u : Int) < L.shs.length := by omega
  clear h hA hAd hsh hlay ha hR kA kAd bA hcd hp hd
  have c1d : (w.alloc (ActB k e a (.slice pa m c))).drew.cell? ⟨b, 1, none⟩ = some (.slice (some ⟨sg, 0, none⟩) L.shs.length sc) := c1
  have hcsd : (w.alloc (ActB k e a (.slice pa m c))).drew.cell? ⟨sg, u, none⟩ = some (.pointer (some ⟨p, 0, none⟩)) := hcs
  have a0d : (w.alloc (ActB k e a (.slice pa m c))).drew.cell? ⟨w.heap.size, 0, none⟩ = some (.int .i64 k) := a0
  have a1d : (w.alloc (ActB k e a (.slice pa m c))).drew.cell? ⟨w.heap.size, 1, none⟩ = some (.int .i64 e) := a1
  have a2d : (w.alloc (ActB k e a (.slice pa m c))).drew.cell? ⟨w.heap.size, 2, none⟩ = some (.int .i64 a) := a2
  have a3d : (w.alloc (ActB k e a (.slice pa m c))).drew.cell? ⟨w.heap.size, 3, none⟩ = some (.slice pa m c) := a3
  dsimp only [ActB] at *
  go_enter Tryz.func171, Tryz.ntmps171
  go_wp2_with fail
  go_region_law (go_simp; go_at_call 104; refine AC.out.mono ?_; rintro r w2 ⟨⟨nn, rfl⟩, t⟩; have T := Lib.hid t; clear t)
  all_goals go_wp2_with fail
  all_goals
    go_ret2
    exact ⟨⟨_, rfl⟩, CL.out _ T.out⟩
theorem cell_back {w wA w2 : World} {v : Value} {n : Nat} {xs : List Value} {ty : TypeId} (kA : Keep Non w wA) (k2 : Keep Non wA w2) (o : w2.ownsRow wA.heap.size ty 1 v n xs) (hA : w.heap.size + 1 ≤ wA.heap.size) (k : Int) (u : Value) :
    Keep Non w ((w2.setCell ⟨w.heap.size, 0, none⟩ (.int .i64 k)).setCell ⟨w.heap.size, 1, none⟩ u) ∧ ((w2.setCell ⟨w.heap.size, 0, none⟩ (.int .i64 k)).setCell ⟨w.heap.size, 1, none⟩ u).ownsRow w.heap.size ty 1 v n xs := by
  have k3 : Keep (One w.heap.size) w2 ((w2.setCell ⟨w.heap.size, 0, none⟩ (.int .i64 k)).setCell ⟨w.heap.size, 1, none⟩ u) := ((Keep.refl _ _).setOne _ _).setOne _ _
  exact ⟨(kA.trans1 k2).trans k3 (fun _ _ e => e) (fun g hg e => by have e' : g = w.heap.size := e; omega), ownsRow_low (ownsRow_keep o k3 (fun g hg e => by have e' : g = w.heap.size := e; have := (o.lt g hg).1; omega)) (by omega)⟩
theorem lgread1_ok {F : Nat → Prop} {b n u a : Nat} {L : Lg} {s : Sh} (w : World) (h : LgAt F w b n L) (hs : L.shs[u]? = some s) (he : s.e = L.ep) (hd : s.X.down = false) (ha : a ≤ 1048575) (hx : (uat s.l s.D a).2.length ≤ 100000000) :
    Calls Tryz.prog 51 #[.pointer (some ⟨b, 0, none⟩), .int .i64 u, .int .i64 a] w fun r w' => ∃ v, r = .returned (.tuple #[.agg #[.int .i64 (uat s.l s.D a).1, v], .nilIface]) ∧ Keep Non w w' ∧ w'.ownsRow w.heap.size 5 1 v (uat s.l s.D a).2.length ((uat s.l s.D a).2.map bv) := by
  obtain ⟨A, dps, sps, dv, sv, cv, q, h, hF⟩ := h
  obtain ⟨p, dp, sg, sc, dg, dc, rfl, rfl, hp, hd', hu, hcs, hcd, hsh⟩ := h.at hs
  have RD := Lib.hid (fun W (k : Keep Non w W) => shread_ok W (hsh.keepNon k) hd ha hx)
  rw [he] at RD
  have B := Lib.hid h.blk
  unfold ptrV at hcs
  have HC := Lib.hid hcs
  have hlt : (u : Int) < L.shs.length := by omega
  generalize uat s.l s.D a = x at RD ⊢
  obtain ⟨kx, lx⟩ := x
  dsimp only at RD ⊢
  have kA : Keep Non w (w.alloc (ClB 0 (.slice none 0 0))) := (Keep.refl _ _).alloc _
  have bA := nonAt kA h.blk
  have c1 := lg_1 bA
  have c2 := lg_2 bA
  have kB : Keep (One w.heap.size) w w := Keep.refl _ _
  have hcsA : (w.alloc (ClB 0 (.slice none 0 0))).cell? ⟨sg, u, none⟩ = some (.pointer (some ⟨p, 0, none⟩)) := (World.cell?_alloc_lt _ _ _ (World.block_lt_of_cell? _ _ hcs)).trans hcs
  have c1d : (w.alloc (ClB 0 (.slice none 0 0))).drew.cell? ⟨b, 1, none⟩ = some (.slice (some ⟨sg, 0, none⟩) L.shs.length sc) := c1
  have c2d : (w.alloc (ClB 0 (.slice none 0 0))).drew.cell? ⟨b, 2, none⟩ = some (.int .i64 L.ep) := c2
  have hcsd : (w.alloc (ClB 0 (.slice none 0 0))).drew.cell? ⟨sg, u, none⟩ = some (.pointer (some ⟨p, 0, none⟩)) := hcsA
  have RDW := Lib.hid (RD.out _ kA.drew)
  have kAd := Lib.hid kA.drew
  have rb := Lib.hid (blk_new w (ClB 0 (.slice none 0 0)))
  clear h hsh hcd hp hd' hx hs RD hcs HC B bA kA
  dsimp only [ClB] at c1 c2 hcsA c1d c2d hcsd RDW
  go_enter Tryz.func51, Tryz.ntmps51
  go_wp2_with fail
  go_region_law (go_simp; go_at_call 94; refine RDW.out.mono ?_; rintro r w2 ⟨v, rfl, k2, o2⟩; obtain ⟨va, vc, rfl, _, _⟩ := ownsRow_form o2; have rb2 := nonAt k2 rb.out; have r0 := cl0 rb2; have r1 := cl1 rb2; have r0f := clf rb2 0; have r1f := clf rb2 1; have q0 := cl0 (cl_set1 (cl_set0 rb2 kx) (.slice va lx.length vc)); have q1 := cl1 (cl_set1 (cl_set0 rb2 kx) (.slice va lx.length vc)); have K2 := Lib.hid k2; have O2 := Lib.hid o2; clear k2 o2 rb2)
  all_goals go_wp2_with fail
  all_goals
    refine bodyPost_ret (v := .tuple #[.agg #[.int .i64 kx, .slice va lx.length vc], .nilIface]) (by simp [results, Tryz.results51, go_sem, Act.put, q0, q1]) rfl ?_
    obtain ⟨k, o⟩ := cell_back kAd.out K2.out O2.out (by show _ ≤ (w.alloc _).heap.size; rw [World.size_alloc]; exact Nat.le_refl _) kx (.slice va lx.length vc)
    exact ⟨_, rfl, k, o⟩
theorem lghome_ok {F : Nat → Prop} {b n a : Nat} {L : Lg} (w : World) (h : LgAt F w b n L) (hn : 0 < n) (ha : a ≤ 1048575) :
    Calls Tryz.prog 50 #[.pointer (some ⟨b, 0, none⟩), .int .i64 a] w fun r w' => ∃ g o c, r = .returned (.slice (some ⟨g, o, none⟩) 1 c) ∧ Keep Non w w' ∧ Is w' (.slice (some ⟨g, o, none⟩) 1 c) [a % n] := by
  obtain ⟨A, dps, sps, dv, sv, cv, q, h, hF⟩ := h
  have c3 := lg_3 h.blk
  have hn2 := h.small.1
  obtain ⟨g, vs, c, rfl, hl, hr, hi, hg, ht⟩ := h.proj
  clear h ht
  have hm : a % n < n := Nat.mod_lt _ hn
  obtain ⟨x, hx⟩ : ∃ x, vs[a % n]? = some x := ⟨_, List.getElem?_eq_getElem (by omega)⟩
  have hxi : Is w x [a % n] := hi.2 (a % n) x [a % n] hx (by simp [chainsN, hm])
  have hcell : w.cell? ⟨g, a % n, none⟩ = some x := by
    obtain ⟨a', c', e, hx'⟩ := hr
    injection e with e1 e2 e3
    obtain ⟨g', off, e4, hc⟩ := hx' (by intro e; rw [e] at hl; simp at hl; omega)
    rw [← e1] at e4
    injection e4 with e4
    injection e4 with e4 e5
    subst e4
    subst e5
    have := hc _ x hx
    rwa [Nat.zero_add] at this
  obtain ⟨xa, xc, rfl, hxx⟩ := id hxi
  obtain ⟨xg, xo, rfl, _⟩ := hxx (by simp)
  simp only [List.length_singleton, List.map_cons, List.map_nil] at hcell hxi
  have XI : Hid (∀ W, Keep Non w W → Is W (.slice (some ⟨xg, xo, none⟩) 1 xc) [a % n]) := Lib.hid (fun W k => Rd.keepNon hxi k)
  have hcd : w.drew.cell? ⟨g, a % n, none⟩ = some (.slice (some ⟨xg, xo, none⟩) 1 xc) := hcell
  have c3d : w.drew.cell? ⟨b, 3, none⟩ = some (.slice (some ⟨g, 0, none⟩) n c) := c3
  clear hr hi hxx hxi hcell c3 hx
  go_enter Tryz.func50, Tryz.ntmps50
  go_wp2_with fail
  go_region
  all_goals go_wp2_with fail
  all_goals
    go_ret
    exact ⟨_, _, _, rfl, (Keep.refl _ _).drew, XI.out _ (Keep.refl _ _).drew⟩
theorem raiseE_ok (ep n : Nat) (hn : n ≤ 1048576) : raiseE ep ep n = 0 := by
  unfold raiseE asksE askE fitB
  rw [if_pos (by simp; omega), if_neg (by omega), if_neg (by omega)]
theorem raiseN_ok (ep nx n : Nat) (hn : n ≤ 1048576) : raiseN ep nx ep n = ((max nx n : Nat) : Int) := by
  unfold raiseN
  rw [if_pos (raiseE_ok ep n hn)]
  split <;> omega
theorem LgIn.own {A : Nat → Nat → Prop} {F : Nat → Prop} {w w' : World} {b : Nat} {dps sps : List Nat} {dv sv cv : Value} {q n : Nat} {L : Lg} {e' nx' : Nat} (h : LgIn A w b dps sps dv sv cv q n L) (hF : ∀ i g, A i g → F g) (k : Keep (fun g => g = b ∨ g = q) w w')
    (hb : w'.heap[b]? = some (LgB dv sv e' cv q)) (hq : w'.heap[q]? = some (SqB e' nx')) (hi : SqIn e' nx') : LgTo F w b n ⟨L.shs, e', nx', e'⟩ w' := by
  have ne : ∀ i g, 2 ≤ i → A i g → ¬ (g = b ∨ g = q) := by
    rintro i g hi x (rfl | rfl)
    · have := h.apart _ _ _ x h.mem.1; omega
    · have := h.apart _ _ _ x h.mem.2.1; omega
  refine ⟨k.mono (fun g _ x => ?_), F, Sub.refl _ _, A, dps, sps, dv, sv, cv, q, ⟨hb, hq, hi, ownsRow_keep h.disks k (fun g x => ne 2 g (by omega) (h.mem.2.2.1 g x)), ownsRow_keep h.shelves k (fun g x => ne 3 g (by omega) (h.mem.2.2.2 g x)), h.len, h.proj.keep k (ne 4 · (by omega)), fun i s p dp a c d => (h.sh i s p dp a c d).keep k (ne _ · (by omega)), h.mem, h.apart, fun i g x => ⟨(h.low i g x).1, k.lt (h.low i g x).2⟩, h.small⟩, hF⟩
  rcases x with rfl | rfl
  · exact hF _ _ h.mem.1
  · exact hF _ _ h.mem.2.1
theorem LgIn.sqTo {A : Nat → Nat → Prop} {F : Nat → Prop} {w w' : World} {b : Nat} {dps sps : List Nat} {dv sv cv : Value} {q n : Nat} {L : Lg} {nx' : Nat} (h : LgIn A w b dps sps dv sv cv q n L) (hF : ∀ i g, A i g → F g) (k : Keep (One q) w w')
    (he : L.se = L.ep) (hq : w'.heap[q]? = some (SqB L.ep nx')) (hi : SqIn L.ep nx') : LgTo F w b n { L with next := nx' } w' := by
  have e1 : ({ L with next := nx' } : Lg) = ⟨L.shs, L.ep, nx', L.ep⟩ := by rw [he]
  rw [e1]
  exact h.own hF (k.mono (fun g _ x => .inr x)) (k.at h.blk (fun e => by have e' : b = q := e; have := h.apart 0 1 b h.mem.1 (e' ▸ h.mem.2.1); omega)) hq hi
theorem lgraise_ok {F : Nat → Prop} {b n x : Nat} {L : Lg} (w : World) (h : LgAt F w b n L) (hse : L.se = L.ep) (hx : x ≤ 1048576) :
    Calls Tryz.prog 111 #[.pointer (some ⟨b, 0, none⟩), .int .i64 x] w fun r w' => r = .returned .nilIface ∧ LgTo F w b n { L with next := max L.next x } w' := by
  obtain ⟨A, dps, sps, dv, sv, cv, q, h, hF⟩ := h
  have c2 := lg_2 h.blk
  have c4 := lg_4 h.blk
  have c2d : w.drew.cell? ⟨b, 2, none⟩ = some (.int .i64 L.ep) := c2
  have c4d : w.drew.cell? ⟨b, 4, none⟩ = some (.pointer (some ⟨q, 0, none⟩)) := c4
  have hd := h.keep ((Keep.refl Non w).drew) (fun _ _ _ e => e)
  have hsq := hd.sq
  have hsi := hd.sqin
  rw [hse] at hsq hsi
  have RS := raise_any q L.ep L.next L.ep x w.drew hsq hsi
  rw [raiseE_ok L.ep x hx, raiseN_ok L.ep L.next x hx, errv_zero] at RS
  have RS' := Lib.hid RS
  have FIN := Lib.hid (fun w' (k : Keep (One q) w.drew w') (hq : w'.heap[q]? = some (SqB L.ep ((max L.next x : Nat) : Int))) => LgTo.pre (Keep.refl Non w).drew (hd.sqTo hF k hse hq (by have := hsi; unfold SqIn at *; omega)))
  clear RS h hd c2 c4 hsq hsi
  go_enter Tryz.func111, Tryz.ntmps111
  go_wp2_with fail
  go_region_law (go_simp; go_at_call 173; refine RS'.out.mono ?_; rintro r w2 ⟨rfl, k, hq⟩; have K := Lib.hid k; have HQ := Lib.hid hq; clear k hq)
  all_goals go_wp2_with fail
  all_goals
    go_ret
    exact ⟨rfl, FIN.out _ K.out HQ.out⟩
theorem lgtail_ok {F : Nat → Prop} {b n : Nat} {L : Lg} (w : World) (h : LgAt F w b n L) (hse : L.se = L.ep) :
    Calls Tryz.prog 29 #[.pointer (some ⟨b, 0, none⟩)] w fun r w' => r = .returned (.tuple #[.int .i64 L.next, .nilIface]) ∧ Keep Non w w' := by
  obtain ⟨A, dps, sps, dv, sv, cv, q, h, hF⟩ := h
  have c2 := lg_2 h.blk
  have c4 := lg_4 h.blk
  have c2d : w.drew.cell? ⟨b, 2, none⟩ = some (.int .i64 L.ep) := c2
  have c4d : w.drew.cell? ⟨b, 4, none⟩ = some (.pointer (some ⟨q, 0, none⟩)) := c4
  have hd := h.keep ((Keep.refl Non w).drew) (fun _ _ _ e => e)
  have hsq := hd.sq
  rw [hse] at hsq
  have TL := tail_any q L.ep L.next L.ep w.drew hsq
  have e0 : askE L.ep L.ep = 0 := by unfold askE; rw [if_neg (by omega), if_neg (by omega)]
  have e1 : tailV L.ep L.next L.ep = L.next := by unfold tailV; rw [if_pos e0]
  rw [e0, e1, errv_zero] at TL
  have TL' := Lib.hid TL
  clear TL h hd c2 c4 hsq
  go_enter Tryz.func29, Tryz.ntmps29
  go_wp2_with fail
  go_region_law (go_simp; go_at_call 78; refine TL'.out.mono ?_; rintro r w2 ⟨rfl, rfl⟩)
  all_goals go_wp2_with fail
  all_goals
    go_ret2
    exact ⟨rfl, (Keep.refl _ _).drew⟩
end Go.Proofs.YtobjlgfjfpmceaaGreatDoor
