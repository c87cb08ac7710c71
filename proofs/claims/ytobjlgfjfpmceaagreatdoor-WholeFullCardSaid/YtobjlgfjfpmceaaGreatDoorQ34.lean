/- Exports on a disk that has power: what holds of them, step by step (plain). · (*Export).part, where Add fails: walked (printed by wip/xpart.py). -/
import Derived.Test.YtobjlgfjfpmceaaGreatDoorQ28
import Derived.Test.YtobjlgfjfpmceaaGreatDoorQ33
set_option linter.unusedVariables false
set_option maxRecDepth 100000
set_option maxHeartbeats 16000000
namespace Go.Proofs.YtobjlgfjfpmceaaGreatDoor
open Go.RowKit Go.Maps
theorem lab_ne {i j : Nat} (hi : i < 10) (hj : j < 10) (h : i ≠ j) : labelN 0 i ≠ labelN 0 j := by
  unfold labelN figN
  rw [Lib.decDigits_one hi, Lib.decDigits_one hj]
  intro e
  simp only [List.append_assoc, List.append_cancel_left_eq, List.length_singleton] at e
  injection e with e _
  have := congrArg UInt8.toNat e
  simp only [UInt8.toNat_ofNat'] at this
  omega
theorem lab_cur (n i : Nat) : labelN n i ≠ cname := by
  intro e
  simp [labelN, cname] at e
theorem lab_tit (n i m : Nat) : labelN n i ≠ titleN m := by
  intro e
  simp [labelN, titleN] at e
theorem cur_tit (m : Nat) : cname ≠ titleN m := by
  intro e
  simp [cname, titleN] at e
def putX (X : Dk) (n b : Byt) : Dk := { X with sure := putFl X.shown n b, shown := putFl X.shown n b, pend := [] }
section
variable {X : Dk} {n b m : Byt}
theorem putX_has_same (hm : IsMap X.shown) : fhas (putX X n b).shown n = true := putFl_has_same hm
theorem putX_get_same (hm : IsMap X.shown) : fget (putX X n b).shown n = b := putFl_get_same hm
theorem putX_has (h1 : okObj m) (h2 : m ≠ n) : fhas (putX X n b).shown m = fhas X.shown m := putFl_has_other h2 (h1.ne_tilde)
theorem putX_get (h1 : okObj m) (h2 : m ≠ n) : fget (putX X n b).shown m = fget X.shown m := putFl_get_other h2 (h1.ne_tilde)
end
theorem put_cases {X : Dk} (hf : X.free) {a k f : Nat} (hl : X.lim a k f) (ha : a < 512) (n b : Byt) (hb : b.length ≤ 65536) :
    (X.sput n b = (5, X) ∧ X.room < f + b.length) ∨ X.sput n b = (0, putX X n b) := by
  rw [sput_free hf hl.map n b hb]
  by_cases h : X.full (tilde n) b
  · rw [if_pos h]
    refine .inl ⟨rfl, ?_⟩
    rcases Nat.lt_or_ge X.room (f + b.length) with h2 | h2
    · exact h2
    · exact absurd h (not_full hl ha h2)
  · rw [if_neg h]
    exact .inr rfl
theorem putX_free {X : Dk} (hf : X.free) (n b : Byt) : (putX X n b).free := hf
theorem putX_of {X : Dk} {n b : Byt} (h : X.sput n b = (0, putX X n b)) : (X.sput n b).2 = putX X n b := by rw [h]
theorem putX_lim {X : Dk} {a k f : Nat} (hl : X.lim a k f) {n b : Byt} (h : X.sput n b = (0, putX X n b)) : (putX X n b).lim (a + 2) (k + 2) (f + 2 * b.length) := by
  have := hl.sput n b
  rwa [h] at this
theorem putX_tidy {X : Dk} (ht : X.tidy) (hf : X.free) (hm : IsMap X.shown) {n b : Byt} (hn : okObj n) (hb : b.length ≤ 65536) (h : X.sput n b = (0, putX X n b)) : (putX X n b).tidy := by
  have := ht.sput hf hm hn hb
  rwa [h] at this
structure PInv (L : Lg) (X : Dk) (c : Cu) : Prop where
  ok : okCu c
  lo : c.lo = 0
  hi : c.hi ≤ 200
  pos : 0 < c.hi
  stand : c.next = min c.hi (64 * c.parts.length)
  few : 64 * c.parts.length < c.hi + 64
  parts : c.parts = (List.range c.parts.length).map (fun i => ptOf (64 * i) (slabL L c.hi (64 * i)))
  free : X.free
  lim : X.lim (4 * c.parts.length + 4) (4 * c.parts.length + 4) (30000 * c.parts.length + 30000)
  tidy : X.tidy
  segs : HasSegs X c.parts
  cur : fhas X.shown cname = true ∧ fget X.shown cname = cuBy c
  title : fhas X.shown (titleN 0) = false
  trim : c.trim = 0
structure PErr (X : Dk) (c : Cu) : Prop where
  ok : okCu c
  lo : c.lo = 0
  free : X.free
  lim : X.lim 40 40 1000000
  tidy : X.tidy
  cur : fhas X.shown cname = true ∧ fget X.shown cname = cuBy c
  title : fhas X.shown (titleN 0) = false
theorem PInv.few4 {L : Lg} {X : Dk} {c : Cu} (h : PInv L X c) : c.parts.length ≤ 4 := by
  have := h.few
  have := h.hi
  omega
theorem PInv.err {L : Lg} {X : Dk} {c : Cu} (h : PInv L X c) : PErr X c := by
  have := h.few4
  exact ⟨h.ok, h.lo, h.free, h.lim.mono (by omega) (by omega) (by omega), h.tidy, h.cur, h.title⟩
theorem okPt_nums {p : Pt} (h : okPt p) : p.many < 2 ^ 63 ∧ p.size < 2 ^ 63 ∧ p.sum.length = 32 := by
  obtain ⟨h1, h2, h3, h4, h5⟩ := h
  refine ⟨?_, ?_, h5⟩ <;> omega
theorem okPts_all : ∀ (l : List Pt) (a : Nat), okPts a l → ∀ p ∈ l, okPt p
  | [], _, _, p, hp => by cases hp
  | q :: r, a, h, p, hp => by
    rcases List.mem_cons.1 hp with rfl | hp
    · exact h.2.1
    · exact okPts_all r _ h.2.2 p hp
theorem okCu.p32 {c : Cu} (h : okCu c) : pts32 c.parts := fun p hp => (okPts_all _ _ h.parts p hp).2.2.2.2
theorem cu_len' {c : Cu} (h : okCu c) : (cuBy c).length ≤ 3300 := cu_len h (fun p hp => okPt_nums (okPts_all _ _ h.parts p hp))
theorem slab_len64 (L : Lg) (hi f : Nat) : (slabL L hi f).length ≤ 64 := by rw [slab_len]; omega
theorem slab_seg {L : Lg} (h : Log1 L) (hi f : Nat) (hf : f ≤ 1048576) : (segB f (slabL L hi f)).length ≤ 6207 := seg_len (slab_ok h) (slab_len64 _ _ _) hf
section
variable {L : Lg} {X : Dk} {c : Cu}
theorem PInv.cu (h : PInv L X c) (hl : Log1 L) (h3 : ∀ a, (cellL L a).1 ≠ 3) (hlt : c.next < c.hi) :
    okCu (partCu L c) ∧ (partCu L c).lo = 0 ∧ (partCu L c).hi = c.hi ∧ (partCu L c).parts.length = c.parts.length + 1 ∧ (partCu L c).next = min c.hi (64 * (c.parts.length + 1)) ∧ 64 * (c.parts.length + 1) < c.hi + 64 ∧
    (partCu L c).parts = (List.range (c.parts.length + 1)).map (fun i => ptOf (64 * i) (slabL L c.hi (64 * i))) ∧ (partCu L c).trim = 0 := by
  have h4 := h.few4
  have hs := h.stand
  have hn : c.next = 64 * c.parts.length := by omega
  refine ⟨partCu_ok h.ok hl hlt (by omega), h.lo, rfl, by simp [partCu], ?_, by omega, ?_, ?_⟩
  · show c.next + (slabL L c.hi c.next).length = _
    rw [slab_len]
    omega
  · show c.parts ++ [ptOf c.next (slabL L c.hi c.next)] = _
    rw [List.range_succ, List.map_append, ← h.parts, hn]
    rfl
  · show trimC c.trim c.next (slabL L c.hi c.next) = 0
    rw [trimC_none _ _ _ (fun x hx => by unfold slabL at hx; obtain ⟨j, _, rfl⟩ := List.mem_map.1 hx; exact h3 _), h.trim]
theorem segs_put {n b : Byt} {ps : List Pt} (h : HasSegs X ps) (hn : ∀ i, i < ps.length → labelN 0 i ≠ n) (hp : ps.length ≤ 10) : HasSegs (putX X n b) ps := by
  intro i pt hi
  have hlt : i < ps.length := lt_of_some hi
  obtain ⟨f, cl, e, h1, h2, h3⟩ := h i pt hi
  have ho := label_ok 0 i (by omega) (by omega)
  exact ⟨f, cl, e, by rw [putX_has ho (hn i hlt)]; exact h1, by rw [putX_get ho (hn i hlt)]; exact h2, h3⟩
theorem segs_snoc {f : Nat} {cl : List Cl} {ps : List Pt} (h : HasSegs X ps) (hm : IsMap X.shown) (hp : ps.length ≤ 8) (hne : cl ≠ []) (hl : cl.length ≤ 64) (hok : ∀ x ∈ cl, okCl x) (hf : f + cl.length ≤ 1048576) : HasSegs (putX X (labelN 0 ps.length) (segB f cl)) (ps ++ [ptOf f cl]) := by
  intro i pt hi
  rcases Nat.lt_or_ge i ps.length with hlt | hge
  · rw [List.getElem?_append_left hlt] at hi
    exact segs_put h (fun j hj => lab_ne (by omega) (by omega) (by omega)) (by omega) i pt hi
  · have hi' := lt_of_some hi
    simp at hi'
    obtain rfl : i = ps.length := by omega
    rw [List.getElem?_append_right (Nat.le_refl _)] at hi
    simp at hi
    exact ⟨f, cl, hi.symm, putX_has_same hm, putX_get_same hm, hne, hl, hok, hf⟩
theorem PInv.one (h : PInv L X c) (hl : Log1 L) :
    (X.sput (labelN 0 c.parts.length) (segB c.next (slabL L c.hi c.next)) = (5, X) ∧ X.room < 1000000) ∨ X.sput (labelN 0 c.parts.length) (segB c.next (slabL L c.hi c.next)) = (0, putX X (labelN 0 c.parts.length) (segB c.next (slabL L c.hi c.next))) := by
  have h4 := h.few4
  have hs := slab_seg hl c.hi c.next (by have := h.ok.le; have := h.ok.hi; omega)
  rcases put_cases h.free h.lim (by omega) (labelN 0 c.parts.length) _ (Nat.le_trans hs (by omega)) with ⟨e, h1⟩ | e
  · exact .inl ⟨e, by omega⟩
  · exact .inr e
theorem PInv.mid (h : PInv L X c) (hl : Log1 L) (e : X.sput (labelN 0 c.parts.length) (segB c.next (slabL L c.hi c.next)) = (0, putX X (labelN 0 c.parts.length) (segB c.next (slabL L c.hi c.next)))) :
    (putX X (labelN 0 c.parts.length) (segB c.next (slabL L c.hi c.next))).lim (4 * c.parts.length + 6) (4 * c.parts.length + 6) (30000 * c.parts.length + 30000 + 12414) ∧ PErr (putX X (labelN 0 c.parts.length) (segB c.next (slabL L c.hi c.next))) c := by
  have h4 := h.few4
  have hs := slab_seg hl c.hi c.next (by have := h.ok.le; have := h.ok.hi; omega)
  have hlim := (putX_lim h.lim e).mono (a' := 4 * c.parts.length + 6) (k' := 4 * c.parts.length + 6) (f' := 30000 * c.parts.length + 30000 + 12414) (by omega) (by omega) (by omega)
  have hlo := label_ok 0 c.parts.length (by omega) (by omega)
  refine ⟨hlim, h.ok, h.lo, h.free, hlim.mono (by omega) (by omega) (by omega), putX_tidy h.tidy h.free h.lim.map hlo (by omega) e, ?_, ?_⟩
  · rw [putX_has cname_ok (lab_cur _ _).symm, putX_get cname_ok (lab_cur _ _).symm]
    exact h.cur
  · rw [putX_has (title_ok 0 (by omega)) (lab_tit _ _ _).symm]
    exact h.title
theorem PInv.two (h : PInv L X c) (hl : Log1 L) (h3 : ∀ a, (cellL L a).1 ≠ 3) (hlt : c.next < c.hi) (e : X.sput (labelN 0 c.parts.length) (segB c.next (slabL L c.hi c.next)) = (0, putX X (labelN 0 c.parts.length) (segB c.next (slabL L c.hi c.next)))) :
    ((putX X (labelN 0 c.parts.length) (segB c.next (slabL L c.hi c.next))).sput cname (cuBy (partCu L c)) = (5, putX X (labelN 0 c.parts.length) (segB c.next (slabL L c.hi c.next))) ∧ X.room < 1000000) ∨
    ((putX X (labelN 0 c.parts.length) (segB c.next (slabL L c.hi c.next))).sput cname (cuBy (partCu L c)) = (0, putX (putX X (labelN 0 c.parts.length) (segB c.next (slabL L c.hi c.next))) cname (cuBy (partCu L c))) ∧ PInv L (putX (putX X (labelN 0 c.parts.length) (segB c.next (slabL L c.hi c.next))) cname (cuBy (partCu L c))) (partCu L c)) := by
  have h4 := h.few4
  have hs := slab_seg hl c.hi c.next (by have := h.ok.le; have := h.ok.hi; omega)
  obtain ⟨m1, m2⟩ := h.mid hl e
  obtain ⟨k1, k2, k3, k4, k5, k6, k7, k8⟩ := h.cu hl h3 hlt
  have hcl := cu_len' k1
  rcases put_cases m2.free m1 (by omega) cname (cuBy (partCu L c)) (by omega) with ⟨e2, e3⟩ | e2
  · exact .inl ⟨e2, by have e3' : X.room < _ := e3; omega⟩
  · refine .inr ⟨e2, k1, k2, by rw [k3]; exact h.hi, by rw [k3]; exact h.pos, by rw [k3, k4]; exact k5, by rw [k3, k4]; exact k6, by rw [k3, k4]; exact k7, h.free, ?_, putX_tidy m2.tidy m2.free m2.lim.map cname_ok (by omega) e2, ?_, ⟨putX_has_same m1.map, putX_get_same m1.map⟩, ?_, k8⟩
    · rw [k4]
      exact (putX_lim m1 e2).mono (by omega) (by omega) (by omega)
    · refine segs_put ?_ (fun i _ => lab_cur 0 i) (by rw [k4]; omega)
      refine segs_snoc h.segs h.lim.map (by omega) (slab_ne hlt) (slab_len64 _ _ _) (slab_ok hl) ?_
      rw [slab_len]
      have := h.ok.hi
      omega
    · rw [putX_has (title_ok 0 (by omega)) (cur_tit 0).symm]
      exact m2.title
def exM (c : Cu) : Mf := firstM 0 c.hi 0 c.parts
theorem exM_ok (h : PInv L X c) (hd : c.next = c.hi) : okMf (exM c) ∧ endPts 0 c.parts = c.hi := by
  have h4 := h.few4
  have hst := h.ok.stop
  have hp := h.ok.parts
  rw [h.lo] at hst hp
  have e : endPts 0 c.parts = c.hi := by rw [hst, hd]
  refine ⟨?_, e⟩
  unfold exM
  rw [← e]
  exact first_ok (by omega) hp (by rw [e]; exact h.ok.hi) (by omega)
theorem mf_len {m : Mf} (hm : okMf m) (h64 : m.parts.length ≤ 64) (hn : m.num ≤ 1048576) (h1 : m.lo ≤ 1048576) (h2 : m.hi ≤ 1048576) (h3 : m.trim ≤ 1048576) (hp : ∀ p ∈ m.parts, p.many < 2 ^ 63 ∧ p.size < 2 ^ 63 ∧ p.sum.length = 32) : (mfBy m).length ≤ 3400 := by
  have l1 := ptsB_len m.parts hp
  have a1 := vput_nine (n := m.num) (by omega)
  have a2 := vput_nine (n := m.lo) (by omega)
  have a3 := vput_nine (n := m.hi) (by omega)
  have a4 := vput_nine (n := m.trim) (by omega)
  have a5 := vput_nine (n := m.parts.length) (by omega)
  have hpr := hm.prev
  have h8 : (mfT m).length ≤ 3380 := by
    unfold mfT
    simp only [List.length_append]
    omega
  have h9 := frame_len (t := mfT m) (by omega)
  exact Nat.le_trans h9 (by omega)
theorem exM_len (h : PInv L X c) (hd : c.next = c.hi) : (mfBy (exM c)).length ≤ 3400 := by
  have h4 := h.few4
  have := h.hi
  exact mf_len (exM_ok h hd).1 (by show c.parts.length ≤ 64; omega) (by show 0 ≤ 1048576; omega) (by show 0 ≤ 1048576; omega) (by show c.hi ≤ 1048576; omega) (by show 0 ≤ 1048576; omega) (fun p hp => okPt_nums (okPts_all _ _ h.ok.parts p hp))
structure PEnd (L : Lg) (X : Dk) (c : Cu) : Prop where
  hi : c.hi ≤ 200
  few : 64 * c.parts.length < c.hi + 64
  stand : c.hi ≤ 64 * c.parts.length
  parts : c.parts = (List.range c.parts.length).map (fun i => ptOf (64 * i) (slabL L c.hi (64 * i)))
  free : X.free
  lim : X.lim 40 40 1000000
  tidy : X.tidy
  segs : HasSegs X c.parts
theorem PInv.three (h : PInv L X c) (hd : c.next = c.hi) :
    (X.sput (titleN 0) (mfBy (exM c)) = (5, X) ∧ X.room < 1000000) ∨
    (X.sput (titleN 0) (mfBy (exM c)) = (0, putX X (titleN 0) (mfBy (exM c))) ∧ (putX X (titleN 0) (mfBy (exM c))).mild ∧ IsMap (putX X (titleN 0) (mfBy (exM c))).shown ∧ ((putX X (titleN 0) (mfBy (exM c))).sdel cname).1 = 0 ∧ PEnd L ((putX X (titleN 0) (mfBy (exM c))).sdel cname).2 c) := by
  have h4 := h.few4
  have hm := exM_len h hd
  rcases put_cases h.free h.lim (by omega) (titleN 0) (mfBy (exM c)) (by omega) with ⟨e, h1⟩ | e
  · exact .inl ⟨e, by omega⟩
  · have hlim := (putX_lim h.lim e).mono (a' := 40) (k' := 40) (f' := 1000000) (by omega) (by omega) (by omega)
    have hfr : (putX X (titleN 0) (mfBy (exM c))).free := h.free
    have hh : fhas (putX X (titleN 0) (mfBy (exM c))).shown cname = true := by rw [putX_has cname_ok (cur_tit 0)]; exact h.cur.1
    have htd := putX_tidy h.tidy h.free h.lim.map (title_ok 0 (by omega)) (by omega) e
    have hsg := segs_put (b := mfBy (exM c)) h.segs (fun i _ => lab_tit 0 i 0) (by omega)
    refine .inr ⟨e, hlim.mild (by omega) (by omega) (by omega), hlim.map, ?_⟩
    generalize putX X (titleN 0) (mfBy (exM c)) = Y at hlim hfr hh htd hsg ⊢
    rw [sdel_free hfr, if_pos hh]
    refine ⟨rfl, h.hi, h.few, by have := h.stand; omega, h.parts, hfr, ⟨Nat.le_trans (size_del_le hlim.map) hlim.files, Nat.zero_le _, Nat.le_trans (fused_del_le hlim.map) hlim.used, hlim.fuse, isMap_del hlim.map⟩, ?_, ?_⟩
    · intro n hn
      by_cases en : n = cname
      · subst en; exact cname_ok
      · have hn' : fhas (fdel Y.shown cname) n = true := hn
        rw [fhas_del_other en] at hn'
        exact htd n hn'
    · intro i pt hi
      obtain ⟨f, cl, e, a1, a2, a3⟩ := hsg i pt hi
      exact ⟨f, cl, e, by show fhas (fdel Y.shown cname) _ = true; rw [fhas_del_other (lab_cur 0 i)]; exact a1, by show fget (fdel Y.shown cname) _ = _; rw [fget_del_other (lab_cur 0 i)]; exact a2, a3⟩
end
structure PaEnd (F : Nat → Prop) (W1 : World) (q p : Nat) (Y : Dk) (o : Obj) (b5 : Nat) (W4 : World) : Prop where
  bx : W4.heap[b5]? = some o
  lo : W1.heap.size ≤ b5
  kp : Keep F W1 W4
  st : ∃ F', Sub F' F W1 ∧ (∀ g, F' g → g < W4.heap.size) ∧ ¬ F' b5 ∧ StoreAt F' W4 q p Y
theorem store_zPt0 (w : World) : (holdW 101 ⟨w.heap.size, 0, none⟩ (.agg zPt)).run Tryz.prog (w.alloc (.cells zPt 101)) = .ok () (w.alloc (.cells zPt 101 (0, 0))) := by
  rw [store_zPt _ _ (blk_new _ _), setRow_new]
theorem pa_endA {F : Nat → Prop} {W1 w2 w3 : World} {q p : Nat} {Y : Dk} {o : Obj} (k2 : Keep Non W1 w2) (t : StoreTo F w2 q p Y w3) (hF : ∀ g, F g → g < W1.heap.size) : PaEnd F W1 q p Y o w3.heap.size (w3.alloc o) := by
  obtain ⟨k3, F', s, d⟩ := t
  have ka : Keep Non w3 (w3.alloc o) := (Keep.refl _ _).alloc _
  have s2 := k2.size
  have s3 := k3.size
  refine ⟨blk_new _ _, by omega, (k2.ofNon.trans k3 (fun _ _ x => x) (fun _ _ x => x)).trans1 ka.ofNon, fun g => F' g ∧ g < w3.heap.size, fun g x => ?_, fun g x => ka.lt x.2, fun x => by have := x.2; omega, d.low.keep ka (fun _ _ e => e)⟩
  rcases s g x.1 with y | y
  · exact .inl y
  · exact .inr (by omega)
theorem pa_endR {F : Nat → Prop} {W1 w2 w3 : World} {q p b5 : Nat} {Y : Dk} {o : Obj} {arr : Array Value} (ho : o = .cells arr 101 (0, 0)) (k2 : Keep Non W1 w2) (hb : w2.heap[b5]? = some (.cells zPt 101 (0, 0))) (hb1 : W1.heap.size ≤ b5) (t : StoreTo F w2 q p Y w3) (hF : ∀ g, F g → g < W1.heap.size) :
    w3.heap[b5]? = some (.cells zPt 101 (0, 0)) ∧ PaEnd F W1 q p Y o b5 (w3.setRow b5 arr) := by
  obtain ⟨k3, F', s, d⟩ := t
  have hl : b5 < w2.heap.size := lt_of_block hb
  have b3 : w3.heap[b5]? = some (.cells zPt 101 (0, 0)) := k3.at hb (fun e => by have := hF b5 e; omega)
  have kr : Keep (One b5) w3 (w3.setRow b5 arr) := (Keep.refl (One b5) _).setRow (.inl (one_self _)) _
  have s2 := k2.size
  have s3 := k3.size
  have hn : ¬ F' b5 := fun e => by
    rcases s b5 e with y | y
    · have := hF b5 y; omega
    · omega
  subst ho
  refine ⟨b3, setRow_heap _ _ _ _ _ _ b3, hb1, (k2.ofNon.trans k3 (fun _ _ x => x) (fun _ _ x => x)).trans kr (fun _ _ x => x) (fun g hg e => by have e' : g = b5 := e; omega), fun g => F' g ∧ g < w3.heap.size, fun g x => ?_, fun g x => kr.lt x.2, fun x => hn x.1, d.low.keep kr (fun g x e => by have e' : g = b5 := e; exact hn (e' ▸ x.1))⟩
  rcases s g x.1 with y | y
  · exact .inl y
  · exact .inr (by omega)
theorem pa_same {F FL : Nat → Prop} {w WX W4 : World} {x b lb q p b5 : Nat} {lv pv : Value} {c : Cu} {ov : Bool} {X Y : Dk} {L : Lg} {o : Obj} (h : ExSt F FL w x b lb q p lv c pv ov X L) (kX : Keep Non w WX) (e : PaEnd F WX q p Y o b5 W4) :
    ∃ F', Sub F' F w ∧ Keep (fun g => F g ∨ g = x) w W4 ∧ ExSt F' FL W4 x b lb q p lv c pv ov Y L ∧ ¬ F' b5 := by
  obtain ⟨F', s, hlow, hn, d⟩ := e.st
  have k : Keep F w W4 := kX.ofNon.trans e.kp (fun _ _ x => x) (fun _ _ x => x)
  have k' : Keep (fun g => F g ∨ g = x) w W4 := k.mono (fun _ _ y => .inl y)
  have sub : Sub F' F w := fun g y => by
    rcases s g y with z | z
    · exact .inl z
    · exact .inr (Nat.le_trans kX.size z)
  have hpv : ∀ g, pv.ownBlock = some g → ¬ F' g ∧ g ≠ x ∧ g ≠ b ∧ ¬ FL g := fun g y => by
    obtain ⟨h1, h2, h3, h4⟩ := h.pvo g y
    refine ⟨fun z => ?_, h2, h3, h4⟩
    rcases sub g z with z | z
    · exact h1 z
    · have := (h.row.lt g y).2; omega
  exact ⟨F', sub, k', h.turn k' sub hlow d (k.at h.ex h.out.1) (ownsRow_keep h.row k (fun g y => (h.pvo g y).1)) hpv, hn⟩
section
attribute [local go_sem ↓] hV81 hV101 hV83 hW81 hW101 hW83 hB101 hB83
theorem xpart_no1 {F FL : Nat → Prop} {x b lb q p : Nat} {c : Cu} {pv : Value} {X : Dk} {L : Lg} (w : World) (h : ExSt F FL w x b lb q p (.slice none 0 0) c pv false X L) (hi : PInv L X c) (hl : Log1 L) (hlt : c.next < c.hi) (code : Int) (hcd : (X.sput (labelN 0 c.parts.length) (segB c.next (slabL L c.hi c.next))).1 = code) (hcode : code ≠ 0) :
    Calls Tryz.prog 85 #[.pointer (some ⟨x, 0, none⟩)] w fun e w' => e = .returned (.iface 45 (.int .i64 code)) ∧ ∃ F', Sub F' F w ∧ Keep (fun g => F g ∨ g = x) w w' ∧ ExSt F' FL w' x b lb q p (.slice none 0 0) c pv false (X.sput (labelN 0 c.parts.length) (segB c.next (slabL L c.hi c.next))).2 L := by
  have H := Lib.hid h
  have RD := Lib.hid (xread_ok w h.ex h.lg hl hlt hi.ok.hi)
  have h4 := hi.few4
  obtain ⟨cl, hcl⟩ : ∃ cl, cl = slabL L c.hi c.next := ⟨_, rfl⟩
  have hne : cl ≠ [] := by rw [hcl]; exact slab_ne hlt
  have h64 : cl.length ≤ 64 := by rw [hcl]; exact slab_len64 _ _ _
  have hok : ∀ y ∈ cl, okCl y := by rw [hcl]; exact slab_ok hl
  have hln : c.next + cl.length ≤ 1048576 := by rw [hcl, slab_len]; have := hi.ok.hi; omega
  rw [← hcl] at RD hcd ⊢
  obtain ⟨Y, hY⟩ : ∃ Y, Y = (X.sput (labelN 0 c.parts.length) (segB c.next cl)).2 := ⟨_, rfl⟩
  rw [← hY]
  have AD0 : Hid (∀ W v, Keep Non w W → CsAt W v cl → Calls Tryz.prog 144 #[.pointer (some ⟨b, 0, none⟩), .int .i64 0, .int .i64 c.parts.length, .agg #[.int .i64 c.next, v]] W fun e w' => e = .returned (.tuple #[.agg zPt, .iface 45 (.int .i64 code)]) ∧ StoreTo F W q p Y w') := Lib.hid (fun W v k hv => by
    have hrl := run_len hok h64 (show c.next ≤ 1048576 by omega)
    have hsl := seg_len hok h64 (show c.next ≤ 1048576 by omega)
    rw [hY]
    exact vadd_no F b q p 0 c.parts.length c.next none 0 v cl X _ _ _ W (nonAt k H.out.vt) (H.out.st.keep k (fun _ _ e => e)) hi.lim (by omega) (by omega) (by omega) (fun g x => k.lt (H.out.low g x).2) (by omega) (by omega) hv hne h64 hok hln (by omega) (by omega) (H.out.lay.keepNon k).kon (H.out.lay.keepNon k).frs H.out.out.2.1 code hcd hcode)
  have CH0 : Hid (∀ W, Keep Non w W → Calls Tryz.prog 10 #[.pointer (some ⟨b, 0, none⟩)] W fun e w' => e = .returned (.slice none 0 0) ∧ Keep Non W w') := Lib.hid (fun W k => vchain_nil b q none 0 W (nonAt k H.out.vt))
  obtain ⟨pa, pc, rfl, _, _⟩ := ownsRow_form h.row
  have HI := Lib.hid hi
  clear h hi hcd hcl hY hl hlt
  go_enter Tryz.func85, Tryz.ntmps85
  go_wp2_with (go_at_call 143; refine RD.out.mono ?_; rintro e w1 ⟨v1, rfl, k1, xs, o1, q1⟩; obtain ⟨a1, c1, rfl, _, _⟩ := ownsRow_form o1; have K1 := Lib.hid k1; have O1 := Lib.hid o1; have Q1 := Lib.hid q1; clear k1 o1 q1)
  obtain ⟨WX, hWX⟩ : ∃ WX, WX = (w1.alloc (SgB c.next (.slice a1 cl.length c1))).drew := ⟨_, rfl⟩
  have hHX := hWX
  have KX : Hid (Keep Non w WX) := Lib.hid (by rw [hWX]; exact (K1.out.alloc _).drew)
  have SX : Hid (WX.heap[w1.heap.size]? = some (SgB c.next (.slice a1 cl.length c1))) := Lib.hid (by rw [hWX]; exact blk_new w1 _)
  have CSX : Hid (∀ W, Keep Non WX W → CsAt W (.slice a1 cl.length c1) cl) := Lib.hid (fun W k => by
    have k1 : Keep Non w1 WX := by rw [hWX]; exact ((Keep.refl _ _).alloc _).drew
    exact CsAt.of (ownsRow_keep O1.out (k1.trans1 k) (fun _ _ e => e)) (Q1.out.keep (S' := Non) (k1.trans1 k) (fun _ _ e => e) (fun _ _ e => e)))
  have HF : Hid (∀ g, F g → g < WX.heap.size) := Lib.hid (fun g y => KX.out.lt (H.out.low g y).2)
  have LS : Hid (∀ W, Keep F WX W → W.cell? ⟨x, 0, none⟩ = some (.pointer (some ⟨b, 0, none⟩)) ∧ W.cell? ⟨x, 6, none⟩ = some (.slice pa c.parts.length pc) ∧ W.cell? ⟨w1.heap.size, 0, none⟩ = some (.int .i64 c.next) ∧ W.cell? ⟨w1.heap.size, 1, none⟩ = some (.slice a1 cl.length c1)) := Lib.hid (fun W k => by
    have hxx := k.at (nonAt KX.out H.out.ex) H.out.out.1
    have hss := k.at SX.out (fun y => by have := (H.out.low _ y).2; have := K1.out.size; omega)
    exact ⟨ex_0 hxx, ex_6 hxx, sg_0 hss, sg_1 hss⟩)
  have CH : Hid (∀ W, Keep Non WX W → Calls Tryz.prog 10 #[.pointer (some ⟨b, 0, none⟩)] W fun e w' => e = .returned (.slice none 0 0) ∧ Keep Non W w') := Lib.hid (fun W k => CH0.out W (KX.out.trans1 k))
  have AD := Lib.hid (fun W (k : Keep Non WX W) => AD0.out W _ (KX.out.trans1 k) (CSX.out W k))
  have HW : Hid ((w1.alloc (.cells #[.int .i64 c.next, .slice a1 cl.length c1] 225)).drew = WX) := Lib.hid hWX.symm
  have LS0 := LS.out WX (Keep.refl _ _)
  rw [hWX] at LS0
  have LS1 := Lib.hid LS0
  clear AD0 CH0 hWX hHX LS0
  dsimp only [zPt] at AD
  refine (fun (FIN : Hid ?T) => ?main) (Lib.hid ?fin)
  case' main => refine wp_region_noPanic ?_
  refine wp_region_held_drew (S := fun W => W.cell? ⟨x, 0, none⟩ = some (.pointer (some ⟨b, 0, none⟩)) ∧ W.cell? ⟨x, 6, none⟩ = some (.slice pa c.parts.length pc) ∧ W.cell? ⟨w1.heap.size, 0, none⟩ = some (.int .i64 c.next) ∧ W.cell? ⟨w1.heap.size, 1, none⟩ = some (.slice a1 cl.length c1)) (by as_aux_lemma => kernel_rfl) LS1.out (fun hHeld => ?_)
  refine tc (i := 0) (v := ?v1) ?hy1 ?rest1
  case hy1 => intro W ⟨s0, s6, s1, s2⟩; go_simp; first | done | with_reducible rfl
  refine tc (i := 1) (v := ?v2) ?hy2 ?rest2
  case hy2 => intro W ⟨s0, s6, s1, s2⟩; go_simp; first | done | with_reducible rfl
  refine tc (i := 2) (v := ?v3) ?hy3 ?rest3
  case hy3 => intro W ⟨s0, s6, s1, s2⟩; go_simp; first | done | with_reducible rfl
  refine tc (i := 3) (v := ?v4) ?hy4 ?rest4
  case hy4 => intro W ⟨s0, s6, s1, s2⟩; go_simp; first | done | with_reducible rfl
  refine tc (i := 4) (v := ?v5) ?hy5 ?rest5
  case hy5 => intro W ⟨s0, s6, s1, s2⟩; go_simp; first | done | with_reducible rfl
  refine tc (i := 5) (v := ?v6) ?hy6 ?rest6
  case hy6 => intro W ⟨s0, s6, s1, s2⟩; go_simp; first | done | with_reducible rfl
  refine tc (i := 6) (v := ?v7) ?hy7 ?rest7
  case hy7 => intro W ⟨s0, s6, s1, s2⟩; go_simp; first | done | with_reducible rfl
  refine tc (i := 7) (v := ?v8) ?hy8 ?rest8
  case hy8 => intro W ⟨s0, s6, s1, s2⟩; go_simp; first | done | with_reducible rfl
  refine tc (i := 10) (v := ?v9) ?hy9 ?rest9
  case hy9 => intro W ⟨s0, s6, s1, s2⟩; go_simp; first | done | with_reducible rfl
  refine tc (i := 11) (v := ?v10) ?hy10 ?rest10
  case hy10 => intro W ⟨s0, s6, s1, s2⟩; go_simp; first | done | with_reducible rfl
  refine tc (i := 12) (v := ?v11) ?hy11 ?rest11
  case hy11 => intro W ⟨s0, s6, s1, s2⟩; go_simp; first | done | with_reducible rfl
  refine tc (i := 13) (v := ?v12) ?hy12 ?rest12
  case hy12 => intro W ⟨s0, s6, s1, s2⟩; go_simp; first | done | with_reducible rfl
  refine tc (i := 14) (v := ?v13) ?hy13 ?rest13
  case hy13 => intro W ⟨s0, s6, s1, s2⟩; go_simp; first | done | with_reducible rfl
  refine tc (i := 15) (v := ?v14) ?hy14 ?rest14
  case hy14 => intro W ⟨s0, s6, s1, s2⟩; go_simp; first | done | with_reducible rfl
  refine tc (i := 16) (v := ?v15) ?hy15 ?rest15
  case hy15 => intro W ⟨s0, s6, s1, s2⟩; go_simp; first | done | with_reducible rfl
  rw [HW.out]
  clear hHeld
  have hHeld := LS.out WX (Keep.refl _ _)
  refine wpAnyH_ready (rs := [8, 21]) (by as_aux_lemma => kernel_rfl) (by simp) ?_
  refine AllReadyH.cons (by simp only [List.getElem?_toArray, List.getElem?_cons_succ, List.getElem?_cons_zero]; rfl) (fun K hK => ?arm16_8) (AllReadyH.cons (by simp only [List.getElem?_toArray, List.getElem?_cons_succ, List.getElem?_cons_zero]; rfl) (fun K hK => ?arm16_21) AllReadyH.nil)
  case' arm16_8 =>
    go_simp
    refine (CH.out WX (Keep.refl Non WX)).mono ?_
    rintro e w17 ⟨rfl, t17⟩
    have k17 := Lib.hid (((Keep.refl Non WX)).trans1 t17)
    clear t17
    go_wp2_with fail
    refine hK.out _ _ (LS.out w17 k17.out.ofNon) (fun hHeld17 => ?_)
    clear hK K
    try simp only [Act.put, List.setIfInBounds_toArray, List.set_cons_zero, List.set_cons_succ]
    refine tc (i := 9) (v := ?v18) ?hy18 ?rest18
    case hy18 => intro W ⟨s0, s6, s1, s2⟩; go_simp; first | done | with_reducible rfl
    refine wpAnyH_ready (rs := [17, 21]) (by as_aux_lemma => kernel_rfl) (by simp) ?_
    refine AllReadyH.cons (by simp only [List.getElem?_toArray, List.getElem?_cons_succ, List.getElem?_cons_zero]; rfl) (fun K hK => ?arm19_17) (AllReadyH.cons (by simp only [List.getElem?_toArray, List.getElem?_cons_succ, List.getElem?_cons_zero]; rfl) (fun K hK => ?arm19_21) AllReadyH.nil)
    case' arm19_17 =>
      go_simp
      refine (AD.out w17 k17.out).mono ?_
      rintro e w20 ⟨rfl, t20⟩
      have T20 := Lib.hid t20
      have kf20 : Hid (Keep F WX w20) := Lib.hid ((k17.out).ofNon.trans t20.1 (fun _ _ x => x) (fun _ _ x => x))
      clear t20
      go_wp2_with fail
      refine hK.out _ _ (LS.out w20 kf20.out) (fun hHeld20 => ?_)
      clear hK K
      try simp only [Act.put, List.setIfInBounds_toArray, List.set_cons_zero, List.set_cons_succ]
      refine tc (i := 18) (v := ?v21) ?hy21 ?rest21
      case hy21 => intro W ⟨s0, s6, s1, s2⟩; go_simp; first | done | with_reducible rfl
      refine tc (i := 19) (v := ?v22) ?hy22 ?rest22
      case hy22 => intro W ⟨s0, s6, s1, s2⟩; go_simp; first | done | with_reducible rfl
      refine tc (i := 20) (v := ?v23) ?hy23 ?rest23
      case hy23 => intro W ⟨s0, s6, s1, s2⟩; go_simp; first | done | with_reducible rfl
      refine rc (i := 21) (fun K hK => ?_)
      go_simp
      have hst := store_zPt0 w20
      have E := Lib.hid (pa_endA (o := (.cells zPt 101 (0, 0))) k17.out T20.out HF.out)
      dsimp only [zPt, PtB] at hst
      refine hK.out _ _ (LS.out _ (kf20.out.alloc _)) (fun hHeld24 => ?_)
      clear hK K
      try simp only [Act.put, List.setIfInBounds_toArray, List.set_cons_zero, List.set_cons_succ]
      refine rc (i := 22) (fun K hK => ?_)
      go_simp
      refine hK.out _ _ (LS.out _ (kf20.out.alloc _)) (fun hHeld25 => ?_)
      clear hK K
      try simp only [Act.put, List.setIfInBounds_toArray, List.set_cons_zero, List.set_cons_succ]
      refine tc (i := 23) (v := ?v26) ?hy26 ?rest26
      case hy26 => intro W ⟨s0, s6, s1, s2⟩; go_simp; first | done | with_reducible rfl
      refine wpAnyH_done (by as_aux_lemma => kernel_rfl) ?_ _
      refine NoPanic.normal ?_
      have e0 := E.out
      dsimp only [zPt] at e0
      generalize (w20.alloc _) = W4 at e0 ⊢
      generalize w20.heap.size = b5 at e0 ⊢
      have E5 := Lib.hid e0
      clear e0
      revert W4 b5
      exact FIN.out
    case' arm19_21 =>
      go_simp
      have k27 : Hid (Keep Non WX (w17.alloc (.cells zPt 101))) := Lib.hid ((k17.out).alloc _)
      have z27 := Lib.hid (blk_new w17 (.cells zPt 101 (0, 0)))
      have y27 : Hid (WX.heap.size ≤ w17.heap.size) := Lib.hid ((k17.out).size)
      obtain ⟨v27, hv27⟩ : ∃ v27, v27 = w17.alloc (.cells zPt 101) := ⟨_, rfl⟩
      rw [← hv27] at k27 z27
      dsimp only [zPt] at hv27
      try rw [← hv27]
      clear hv27
      refine hK.out _ _ (LS.out v27 k27.out.ofNon) (fun hHeld27 => ?_)
      clear hK K
      try simp only [Act.put, List.setIfInBounds_toArray, List.set_cons_zero, List.set_cons_succ]
      refine rc (i := 17) (fun K hK => ?_)
      go_simp
      refine (AD.out v27 k27.out).mono ?_
      rintro e w28 ⟨rfl, t28⟩
      have T28 := Lib.hid t28
      have kf28 : Hid (Keep F WX w28) := Lib.hid ((k27.out).ofNon.trans t28.1 (fun _ _ x => x) (fun _ _ x => x))
      clear t28
      go_wp2_with fail
      refine hK.out _ _ (LS.out w28 kf28.out) (fun hHeld28 => ?_)
      clear hK K
      try simp only [Act.put, List.setIfInBounds_toArray, List.set_cons_zero, List.set_cons_succ]
      refine tc (i := 18) (v := ?v29) ?hy29 ?rest29
      case hy29 => intro W ⟨s0, s6, s1, s2⟩; go_simp; first | done | with_reducible rfl
      refine tc (i := 19) (v := ?v30) ?hy30 ?rest30
      case hy30 => intro W ⟨s0, s6, s1, s2⟩; go_simp; first | done | with_reducible rfl
      refine tc (i := 20) (v := ?v31) ?hy31 ?rest31
      case hy31 => intro W ⟨s0, s6, s1, s2⟩; go_simp; first | done | with_reducible rfl
      refine rc (i := 22) (fun K hK => ?_)
      have E2 := pa_endR (o := (.cells zPt 101 (0, 0))) (arr := zPt) rfl k27.out z27.out y27.out T28.out HF.out
      have hst := store_zPt w28 w17.heap.size E2.1
      have E := Lib.hid E2.2
      clear E2
      dsimp only [zPt] at hst
      go_simp
      refine hK.out _ _ (LS.out _ E.out.kp) (fun hHeld32 => ?_)
      clear hK K
      try simp only [Act.put, List.setIfInBounds_toArray, List.set_cons_zero, List.set_cons_succ]
      refine tc (i := 23) (v := ?v33) ?hy33 ?rest33
      case hy33 => intro W ⟨s0, s6, s1, s2⟩; go_simp; first | done | with_reducible rfl
      refine wpAnyH_done (by as_aux_lemma => kernel_rfl) ?_ _
      refine NoPanic.normal ?_
      have e0 := E.out
      dsimp only [zPt] at e0
      generalize (w28.setRow _ _) = W4 at e0 ⊢
      generalize w17.heap.size = b5 at e0 ⊢
      have E5 := Lib.hid e0
      clear e0
      revert W4 b5
      exact FIN.out
  case' arm16_21 =>
    go_simp
    have k34 : Hid (Keep Non WX (WX.alloc (.cells zPt 101))) := Lib.hid (((Keep.refl Non WX)).alloc _)
    have z34 := Lib.hid (blk_new WX (.cells zPt 101 (0, 0)))
    have y34 : Hid (WX.heap.size ≤ WX.heap.size) := Lib.hid (((Keep.refl Non WX)).size)
    obtain ⟨v34, hv34⟩ : ∃ v34, v34 = WX.alloc (.cells zPt 101) := ⟨_, rfl⟩
    rw [← hv34] at k34 z34
    dsimp only [zPt] at hv34
    try rw [← hv34]
    clear hv34
    refine hK.out _ _ (LS.out v34 k34.out.ofNon) (fun hHeld34 => ?_)
    clear hK K
    try simp only [Act.put, List.setIfInBounds_toArray, List.set_cons_zero, List.set_cons_succ]
    refine rc (i := 8) (fun K hK => ?_)
    go_simp
    refine (CH.out v34 k34.out).mono ?_
    rintro e w35 ⟨rfl, t35⟩
    have k35 := Lib.hid ((k34.out).trans1 t35)
    have z35 := Lib.hid (nonAt t35 z34.out)
    clear t35
    go_wp2_with fail
    refine hK.out _ _ (LS.out w35 k35.out.ofNon) (fun hHeld35 => ?_)
    clear hK K
    try simp only [Act.put, List.setIfInBounds_toArray, List.set_cons_zero, List.set_cons_succ]
    refine tc (i := 9) (v := ?v36) ?hy36 ?rest36
    case hy36 => intro W ⟨s0, s6, s1, s2⟩; go_simp; first | done | with_reducible rfl
    refine rc (i := 17) (fun K hK => ?_)
    go_simp
    refine (AD.out w35 k35.out).mono ?_
    rintro e w37 ⟨rfl, t37⟩
    have T37 := Lib.hid t37
    have kf37 : Hid (Keep F WX w37) := Lib.hid ((k35.out).ofNon.trans t37.1 (fun _ _ x => x) (fun _ _ x => x))
    clear t37
    go_wp2_with fail
    refine hK.out _ _ (LS.out w37 kf37.out) (fun hHeld37 => ?_)
    clear hK K
    try simp only [Act.put, List.setIfInBounds_toArray, List.set_cons_zero, List.set_cons_succ]
    refine tc (i := 18) (v := ?v38) ?hy38 ?rest38
    case hy38 => intro W ⟨s0, s6, s1, s2⟩; go_simp; first | done | with_reducible rfl
    refine tc (i := 19) (v := ?v39) ?hy39 ?rest39
    case hy39 => intro W ⟨s0, s6, s1, s2⟩; go_simp; first | done | with_reducible rfl
    refine tc (i := 20) (v := ?v40) ?hy40 ?rest40
    case hy40 => intro W ⟨s0, s6, s1, s2⟩; go_simp; first | done | with_reducible rfl
    refine rc (i := 22) (fun K hK => ?_)
    have E2 := pa_endR (o := (.cells zPt 101 (0, 0))) (arr := zPt) rfl k35.out z35.out y34.out T37.out HF.out
    have hst := store_zPt w37 WX.heap.size E2.1
    have E := Lib.hid E2.2
    clear E2
    dsimp only [zPt] at hst
    go_simp
    refine hK.out _ _ (LS.out _ E.out.kp) (fun hHeld41 => ?_)
    clear hK K
    try simp only [Act.put, List.setIfInBounds_toArray, List.set_cons_zero, List.set_cons_succ]
    refine tc (i := 23) (v := ?v42) ?hy42 ?rest42
    case hy42 => intro W ⟨s0, s6, s1, s2⟩; go_simp; first | done | with_reducible rfl
    refine wpAnyH_done (by as_aux_lemma => kernel_rfl) ?_ _
    refine NoPanic.normal ?_
    have e0 := E.out
    dsimp only [zPt] at e0
    generalize (w37.setRow _ _) = W4 at e0 ⊢
    generalize WX.heap.size = b5 at e0 ⊢
    have E5 := Lib.hid e0
    clear e0
    revert W4 b5
    exact FIN.out
  intro W4 b5 E5
  go_wp2_with fail
  go_ret
  obtain ⟨F', s1, s2, s3, _⟩ := pa_same H.out KX.out E5.out
  exact ⟨rfl, F', s1, s2, s3⟩
end
end Go.Proofs.YtobjlgfjfpmceaaGreatDoor
