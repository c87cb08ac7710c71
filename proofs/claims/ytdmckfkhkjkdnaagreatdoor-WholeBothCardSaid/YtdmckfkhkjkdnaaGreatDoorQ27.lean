/- vault.Add: walked. · vault.Add where the store's put fails: walked. · How long a segment's and a cursor's bytes may be. · Acts with a shelf that has r -/
import Derived.Test.YtdmckfkhkjkdnaaGreatDoorQ23
import Derived.Test.YtdmckfkhkjkdnaaGreatDoorQ24
import Derived.Test.YtdmckfkhkjkdnaaGreatDoorQ26
set_option linter.unusedVariables false
set_option maxRecDepth 100000
set_option maxHeartbeats 16000000
namespace Go.Proofs.YtdmckfkhkjkdnaaGreatDoor
open Go.RowKit
theorem store_after {F : Nat → Prop} {w w2 w3 w4 : World} {q p b : Nat} {X : Dk} (k2 : Keep Non w w2) (t : StoreTo F w2 q p X w3) (k : Keep (One b) w3 w4) (hb : w.heap.size ≤ b) (hb2 : b < w2.heap.size) (hF : ∀ g, F g → g < w.heap.size) : StoreTo F w q p X w4 := by
  obtain ⟨k3, F', s, d⟩ := t
  refine ⟨(k2.ofNon.trans1 k3).trans k (fun _ _ e => e) (fun g hg e => by have e' : g = b := e; omega), F', ?_, d.keep k (fun g hg e => ?_)⟩
  · intro g e
    rcases s g e with e | e
    · exact .inl e
    · exact .inr (by have := k2.size; omega)
  · have e' : g = b := e
    rcases s g hg with h | h
    · have := hF g h
      omega
    · omega
section
attribute [local go_sem ↓] hV41 hV190 hV102 hW41 hW190 hW102 hB190 hB102
theorem vadd_ok (F : Nat → Prop) (b q p num place f : Nat) (la : Option Addr) (lc : Nat) (v : Value) (cl : List Cl) (X : Dk) (a k fu : Nat) (w : World) (hb : w.heap[b]? = some (VtB q (.slice la num lc))) (d : StoreAt F w q p X) (hl : X.lim a k fu) (ha : a ≤ 505) (hk : k ≤ 990) (hf : fu ≤ 400000000) (hF : ∀ g, F g → g < w.heap.size)
    (hn : num < 100) (hpl : place < 100) (hcs : CsAt w v cl) (hne : cl ≠ []) (h64 : cl.length ≤ 64) (hok : ∀ x ∈ cl, okCl x) (hfl : f + cl.length ≤ 1048576) (hbl : (vput f ++ runB cl).length ≤ 65536) (hs : (segB f cl).length ≤ 65536) (hK : Kon w) (hFr : Frs w) (hbF : ¬ F b)
    (hcode : (X.sput (labelN num place) (segB f cl)).1 = 0) :
    Calls Tryz.prog 213 #[.pointer (some ⟨b, 0, none⟩), .int .i64 num, .int .i64 place, .agg #[.int .i64 f, v]] w fun e w' => e = .returned (.tuple #[ptV (ptOf f cl), .nilIface]) ∧ StoreTo F w q p (X.sput (labelN num place) (segB f cl)).2 w' := by
  have OF := Lib.hid (fun w1 (kk : Keep Non w w1) => mof_ok f v cl w1 (hcs.keepNon kk) hne h64 hok hfl hbl (by omega) (hK.keep kk) (hFr.keep kk))
  have SP : Hid (∀ w2 v2, Keep Non w w2 → Bs w2 v2 (segB f cl) → (∀ g, v2.ownBlock = some g → w.heap.size ≤ g) → Calls Tryz.prog 142 #[.pointer (some ⟨q, 0, none⟩), .string ⟨(labelN num place).toArray⟩, v2] w2 fun e w' => e = .returned .nilIface ∧ StoreTo F w2 q p (X.sput (labelN num place) (segB f cl)).2 w') := Lib.hid (fun w2 v2 k2 hv hg => by
    refine (sput_any F q p v2 (labelN num place) (segB f cl) X a k fu w2 (d.keep k2 (fun _ _ e => e)) hl ha hk hf (label_ok num place hn hpl) hv hs (fun g e e2 => by have := hg g e; have := hF g e2; omega)).mono ?_
    rintro e w' ⟨rfl, t⟩
    rw [errv_ok hcode]
    exact ⟨rfl, t⟩)
  have LB : Hid (∀ W, Calls Tryz.prog 270 #[.int .i64 num, .int .i64 place] W fun e w' => e = .returned (.string ⟨(labelN num place).toArray⟩) ∧ Keep Non W w') := Lib.hid (fun W => vlabel_ok num place W hn hpl)
  obtain ⟨sa, sc, rfl, _⟩ := hcs
  have HB := Lib.hid hb
  have HF := Lib.hid hF
  have HBF := Lib.hid hbF
  have kA : Keep Non w ((w.alloc (.cells #[.int .i64 f, .slice sa cl.length sc] 147)).alloc (.cells zPt 190)) := ((Keep.refl _ _).alloc _).alloc _
  have c1 := vt_1 (nonAt kA hb)
  have ZA := Lib.hid (alloc2_at w (.cells #[.int .i64 f, .slice sa cl.length sc] 147 (0, 0)) (.cells zPt 190 (0, 0)))
  have OFA := Lib.hid (OF.out _ kA)
  have KA := Lib.hid kA
  dsimp only [zPt] at c1 OFA
  have hnp : ¬ (place : Int) < 0 := by omega
  have hnp2 : ¬ (1023 : Int) < (place : Int) := by omega
  clear d hl hF hK hFr hok hne hbl hcode hb kA
  go_enter Tryz.func213, Tryz.ntmps213
  go_wp2_with (go_at_call 269; refine OFA.out.mono ?_; rintro e w1 ⟨v1, rfl, k1, o1⟩; obtain ⟨a1, c1', rfl, _, _⟩ := ownsRow_form o1; have K1 : Hid (Keep Non w w1) := Lib.hid (KA.out.trans1 k1); have z1 : w1.heap[w.heap.size + 1]? = some (.cells zPt 190 (0, 0)) := nonAt k1 ZA.out; have Z1 := Lib.hid z1; have c0 := vt_0 (nonAt K1.out HB.out); have hs0 := store_pt0 w1 (ptOf f cl) (digB_len _); have c0b := vt_0 (nonAt ((Keep.refl Non w1).alloc (PtB (ptOf f cl))) (nonAt K1.out HB.out)); dsimp only [zPt, PtB] at hs0 c0b; have S1 : Hid (w.heap.size + 2 ≤ w1.heap.size) := Lib.hid (by have := k1.size; simpa using this); have O1 : Hid (w1.ownsRow w.heap.size 5 1 (.slice a1 (segB f cl).length c1') (segB f cl).length ((segB f cl).map bv)) := Lib.hid (ownsRow_low o1 (by simp; omega)); clear k1 o1 z1)
  go_region_law (go_simp; first
    | (go_at_call 270; refine (LB.out _).mono ?_; rintro e w2 ⟨rfl, k2⟩; have k2' : Keep Non w1 w2 := (((Keep.refl Non w1).alloc (PtB (ptOf f cl))).drew).trans1 k2; have P2 := Lib.hid (nonAt k2 (by exact blk_new w1 (PtB (ptOf f cl)))); have d0 := vt_0 (nonAt (K1.out.trans1 k2') HB.out); have K2 := Lib.hid (K1.out.trans1 k2'); have S2 : Hid (w1.heap.size ≤ w2.heap.size) := Lib.hid k2'.size; have Z2 := Lib.hid (nonAt k2' Z1.out); have SPW := Lib.hid (SP.out w2 (.slice a1 (segB f cl).length c1') K2.out (Rd.keepNon (Rd.ofOwns O1.out) k2') (fun g e => (O1.out.lt g e).1)); clear k2 k2')
    | (go_at_call 142; refine SPW.out.mono ?_; rintro e w3 ⟨rfl, t3⟩; have k3 := t3.1; have z3 : w3.heap[w.heap.size + 1]? = some (.cells zPt 190 (0, 0)) := k3.at Z2.out (fun e => by have := HF.out _ e; omega); have hst := store_pt w3 (w.heap.size + 1) (ptOf f cl) zPt (digB_len _) rfl z3; have HL := Lib.hid (load_pt (p := ptOf f cl) (setRow_heap w3 (w.heap.size + 1) _ (ptC (ptOf f cl)).toArray _ _ z3) (digB_len _)); have p3 : w3.heap[w1.heap.size]? = some (PtB (ptOf f cl)) := k3.at P2.out (fun e => by have := HF.out _ e; have := S1.out; omega); have hlp := load_pt p3 (digB_len _); have T3 := Lib.hid t3; clear t3 k3 z3 p3))
  all_goals go_wp2_with fail
  all_goals
    have hlv := HL.out
    unfold holdV at hlv
    refine bodyPost_ret (v := .tuple #[ptV (ptOf f cl), .nilIface]) (by simp [results, Tryz.results213, asAddr, hlv]) rfl ?_
    have k4 : Keep (One (w.heap.size + 1)) w3 (w3.setRow (w.heap.size + 1) (ptC (ptOf f cl)).toArray) := (Keep.refl (One (w.heap.size + 1)) _).setRow (.inl (one_self _)) _
    have s1 := S1.out
    have h12 := S2.out
    exact ⟨rfl, store_after K2.out T3.out k4 (by omega) (by omega) HF.out⟩
end
theorem build_zPt (w : World) : (holdB 190 #[]).run Tryz.prog w = .ok (.agg zPt) w := run_build w 190 _ _ (by kernel_rfl)
theorem store_zPt (w : World) (g : Nat) (hg : w.heap[g]? = some (.cells zPt 190 (0, 0))) : (holdW 190 ⟨g, 0, none⟩ (.agg zPt)).run Tryz.prog w = .ok () (w.setRow g zPt) :=
  run_storeVar_row (P := Tryz.prog) w g 190 190 zPt zPt hg szPt rfl (by kernel_rfl)
theorem load_zPt {w : World} {g : Nat} (hg : w.heap[g]? = some (.cells zPt 190 (0, 0))) : (holdV 190 ⟨g, 0, none⟩).run Tryz.prog w = .ok (.agg zPt) w := by
  have h := load_row (t := 190) (n := 35) Tryz.isAgg190 Tryz.sizeOf190 w g 0 zPt.toList rfl (fun j v hv => by rw [Nat.zero_add, cell_of_row _ _ j _ _ _ hg]; simpa using hv)
  simpa using h
section
attribute [local go_sem ↓] hV41 hV190 hV102 hW41 hW190 hW102 hB190 hB102
theorem vadd_no (F : Nat → Prop) (b q p num place f : Nat) (la : Option Addr) (lc : Nat) (v : Value) (cl : List Cl) (X : Dk) (a k fu : Nat) (w : World) (hb : w.heap[b]? = some (VtB q (.slice la num lc))) (d : StoreAt F w q p X) (hl : X.lim a k fu) (ha : a ≤ 505) (hk : k ≤ 990) (hf : fu ≤ 400000000) (hF : ∀ g, F g → g < w.heap.size)
    (hn : num < 100) (hpl : place < 100) (hcs : CsAt w v cl) (hne : cl ≠ []) (h64 : cl.length ≤ 64) (hok : ∀ x ∈ cl, okCl x) (hfl : f + cl.length ≤ 1048576) (hbl : (vput f ++ runB cl).length ≤ 65536) (hs : (segB f cl).length ≤ 65536) (hK : Kon w) (hFr : Frs w) (hbF : ¬ F b)
    (code : Int) (hcd : (X.sput (labelN num place) (segB f cl)).1 = code) (hcode : code ≠ 0) :
    Calls Tryz.prog 213 #[.pointer (some ⟨b, 0, none⟩), .int .i64 num, .int .i64 place, .agg #[.int .i64 f, v]] w fun e w' => e = .returned (.tuple #[.agg zPt, .iface 84 (.int .i64 code)]) ∧ StoreTo F w q p (X.sput (labelN num place) (segB f cl)).2 w' := by
  have OF := Lib.hid (fun w1 (kk : Keep Non w w1) => mof_ok f v cl w1 (hcs.keepNon kk) hne h64 hok hfl hbl (by omega) (hK.keep kk) (hFr.keep kk))
  have SP : Hid (∀ w2 v2, Keep Non w w2 → Bs w2 v2 (segB f cl) → (∀ g, v2.ownBlock = some g → w.heap.size ≤ g) → Calls Tryz.prog 142 #[.pointer (some ⟨q, 0, none⟩), .string ⟨(labelN num place).toArray⟩, v2] w2 fun e w' => e = .returned (.iface 84 (.int .i64 code)) ∧ StoreTo F w2 q p (X.sput (labelN num place) (segB f cl)).2 w') := Lib.hid (fun w2 v2 k2 hv hg => by
    refine (sput_any F q p v2 (labelN num place) (segB f cl) X a k fu w2 (d.keep k2 (fun _ _ e => e)) hl ha hk hf (label_ok num place hn hpl) hv hs (fun g e e2 => by have := hg g e; have := hF g e2; omega)).mono ?_
    rintro e w' ⟨rfl, t⟩
    rw [hcd, errv_no hcode]
    exact ⟨rfl, t⟩)
  have LB : Hid (∀ W, Calls Tryz.prog 270 #[.int .i64 num, .int .i64 place] W fun e w' => e = .returned (.string ⟨(labelN num place).toArray⟩) ∧ Keep Non W w') := Lib.hid (fun W => vlabel_ok num place W hn hpl)
  obtain ⟨sa, sc, rfl, _⟩ := hcs
  have HB := Lib.hid hb
  have HF := Lib.hid hF
  have HBF := Lib.hid hbF
  have kA : Keep Non w ((w.alloc (.cells #[.int .i64 f, .slice sa cl.length sc] 147)).alloc (.cells zPt 190)) := ((Keep.refl _ _).alloc _).alloc _
  have c1 := vt_1 (nonAt kA hb)
  have ZA := Lib.hid (alloc2_at w (.cells #[.int .i64 f, .slice sa cl.length sc] 147 (0, 0)) (.cells zPt 190 (0, 0)))
  have OFA := Lib.hid (OF.out _ kA)
  have KA := Lib.hid kA
  dsimp only [zPt] at c1 OFA
  have hnp : ¬ (place : Int) < 0 := by omega
  have hnp2 : ¬ (1023 : Int) < (place : Int) := by omega
  have hbz := build_zPt
  clear d hl hF hK hFr hok hne hbl hcode hcd hb kA
  go_enter Tryz.func213, Tryz.ntmps213
  go_wp2_with (go_at_call 269; refine OFA.out.mono ?_; rintro e w1 ⟨v1, rfl, k1, o1⟩; obtain ⟨a1, c1', rfl, _, _⟩ := ownsRow_form o1; have K1 : Hid (Keep Non w w1) := Lib.hid (KA.out.trans1 k1); have z1 : w1.heap[w.heap.size + 1]? = some (.cells zPt 190 (0, 0)) := nonAt k1 ZA.out; have Z1 := Lib.hid z1; have c0 := vt_0 (nonAt K1.out HB.out); have hs0 := store_pt0 w1 (ptOf f cl) (digB_len _); have c0b := vt_0 (nonAt ((Keep.refl Non w1).alloc (PtB (ptOf f cl))) (nonAt K1.out HB.out)); dsimp only [zPt, PtB] at hs0 c0b; have S1 : Hid (w.heap.size + 2 ≤ w1.heap.size) := Lib.hid (by have := k1.size; simpa using this); have O1 : Hid (w1.ownsRow w.heap.size 5 1 (.slice a1 (segB f cl).length c1') (segB f cl).length ((segB f cl).map bv)) := Lib.hid (ownsRow_low o1 (by simp; omega)); clear k1 o1 z1)
  go_region_law (go_simp; first
    | (go_at_call 270; refine (LB.out _).mono ?_; rintro e w2 ⟨rfl, k2⟩; have k2' : Keep Non w1 w2 := (((Keep.refl Non w1).alloc (PtB (ptOf f cl))).drew).trans1 k2; have P2 := Lib.hid (nonAt k2 (by exact blk_new w1 (PtB (ptOf f cl)))); have d0 := vt_0 (nonAt (K1.out.trans1 k2') HB.out); have K2 := Lib.hid (K1.out.trans1 k2'); have S2 : Hid (w1.heap.size ≤ w2.heap.size) := Lib.hid k2'.size; have Z2 := Lib.hid (nonAt k2' Z1.out); have SPW := Lib.hid (SP.out w2 (.slice a1 (segB f cl).length c1') K2.out (Rd.keepNon (Rd.ofOwns O1.out) k2') (fun g e => (O1.out.lt g e).1)); clear k2 k2')
    | (go_at_call 142; refine SPW.out.mono ?_; rintro e w3 ⟨rfl, t3⟩; have k3 := t3.1; have z3 : w3.heap[w.heap.size + 1]? = some (.cells zPt 190 (0, 0)) := k3.at Z2.out (fun e => by have := HF.out _ e; omega); have hst := store_zPt w3 (w.heap.size + 1) z3; have HL := Lib.hid (load_zPt (setRow_heap w3 (w.heap.size + 1) _ zPt _ _ z3)); have p3 : w3.heap[w1.heap.size]? = some (PtB (ptOf f cl)) := k3.at P2.out (fun e => by have := HF.out _ e; have := S1.out; omega); have hlp := load_pt p3 (digB_len _); have T3 := Lib.hid t3; clear t3 k3 z3 p3))
  all_goals go_wp2_with fail
  all_goals
    have hlv := HL.out
    unfold holdV at hlv
    refine bodyPost_ret (v := .tuple #[.agg zPt, .iface 84 (.int .i64 code)]) (by simp [results, Tryz.results213, asAddr, hlv]) rfl ?_
    have k4 : Keep (One (w.heap.size + 1)) w3 (w3.setRow (w.heap.size + 1) zPt) := (Keep.refl (One (w.heap.size + 1)) _).setRow (.inl (one_self _)) _
    have s1 := S1.out
    have h12 := S2.out
    exact ⟨rfl, store_after K2.out T3.out k4 (by omega) (by omega) HF.out⟩
end
theorem encRun_len : ∀ (f : Nat) (last : List UInt8) (cl : List Cl), (∀ x ∈ cl, okCl x) → cl.length ≤ 64 → last.length ≤ 64 → (encRun f last cl).length ≤ 96 * cl.length
  | 0, _, _, _, _, _ => by simp [encRun]
  | f + 1, _, [], _, _, _ => by simp [encRun]
  | f + 1, last, x :: r, h, hl, hla => by
    obtain ⟨h0, h3, h64, h1⟩ := h x (by simp)
    have hle := rowN_le (x :: r)
    have ha := alikeN_le last x.2
    simp only [List.length_cons] at hl hle ⊢
    show (if 0 < rowN (x :: r) then vput (rowN (x :: r)) ++ vput x.1.toNat ++ encRun f last ((x :: r).drop (rowN (x :: r))) else vput 0 ++ vput x.2.length ++ vput (alikeN last x.2) ++ x.2.drop (alikeN last x.2) ++ encRun f x.2 r).length ≤ _
    split
    · rename_i hp
      have ih := encRun_len f last ((x :: r).drop (rowN (x :: r))) (fun y hy => h y (List.mem_of_mem_drop hy)) (by rw [List.length_drop]; simp; omega) hla
      have e1 := vput_three (n := rowN (x :: r)) (by omega)
      have e2 := vput_three (n := x.1.toNat) (by omega)
      rw [List.length_drop] at ih
      simp only [List.length_cons] at ih
      simp only [List.length_append]
      omega
    · have ih := encRun_len f x.2 r (fun y hy => h y (by simp [hy])) (by omega) h64
      have e0 := vput_three (n := 0) (by omega)
      have e1 := vput_three (n := x.2.length) (by omega)
      have e2 := vput_three (n := alikeN last x.2) (by omega)
      simp only [List.length_append, List.length_drop]
      omega
theorem run_len {f : Nat} {cl : List Cl} (h : ∀ x ∈ cl, okCl x) (hl : cl.length ≤ 64) (hf : f ≤ 1048576) : (vput f ++ runB cl).length ≤ 6200 := by
  have h1 := encRun_len cl.length [] cl h hl (by simp)
  have e1 := vput_three (n := cl.length) (by omega)
  have e2 := vput_three (n := f) (by omega)
  unfold runB
  simp only [List.length_append]
  omega
theorem frame_len {t : List UInt8} (h : t.length ≤ 60000) : (frameB t).length ≤ t.length + 7 := by
  have e := vput_three (n := t.length) (by omega)
  unfold frameB sealB
  rw [List.length_append, vtext_len, fourB_len]
  omega
theorem seg_len {f : Nat} {cl : List Cl} (h : ∀ x ∈ cl, okCl x) (hl : cl.length ≤ 64) (hf : f ≤ 1048576) : (segB f cl).length ≤ 6207 := by
  have h1 := run_len h hl hf
  have h2 := frame_len (t := vput f ++ runB cl) (by omega)
  exact Nat.le_trans h2 (by omega)
theorem cu_len {c : Cu} (h : okCu c) (hp : ∀ p ∈ c.parts, p.many < 2 ^ 63 ∧ p.size < 2 ^ 63 ∧ p.sum.length = 32) : (cuBy c).length ≤ 3300 := by
  have h1 := ptsB_len c.parts hp
  have h2 := h.many
  have h3 := h.le
  have h4 := h.hi
  have h5 := h.trim
  have h6 := h.lo
  have h7 := vputs_len [c.lo, c.next, c.hi, c.trim, c.parts.length] (by intro n hn; simp at hn; omega)
  have h8 : (cuT c).length ≤ 3245 := by
    unfold cuT
    rw [List.length_append]
    simp only [List.length_cons, List.length_nil] at h7
    omega
  have h9 := frame_len (t := cuT c) (by omega)
  exact Nat.le_trans h9 (by omega)
end Go.Proofs.YtdmckfkhkjkdnaaGreatDoor
namespace Go.Proofs.YtdmckfkhkjkdnaaGreatDoor
open Go.RowKit Go.Maps
theorem vtext_le (d : List UInt8) (h : d.length ≤ 64) : (vtext d).length ≤ 73 := by
  have := vputs1_len (a := d.length) (by omega)
  unfold vputs at this
  simp only [List.flatMap_cons, List.flatMap_nil, List.append_nil] at this
  simp only [vtext, List.length_append]
  omega
theorem actBy_len (k e a : Nat) (d : List UInt8) (hk : k ≤ 5) (he : e ≤ 1099511627776) (ha : a ≤ 1048576) (hd : d.length ≤ 64) : (actBy k e a d).length ≤ 200 := by
  have h1 := vputs2_len (a := k) (b := e) (by omega) (by omega)
  have h2 := vputs1_len (a := a) (by omega)
  have h3 := vtext_le d hd
  have h4 : (actT k e a d).length ≤ 100 := by
    unfold actT
    split <;> split <;> simp only [List.length_append, List.length_nil] <;> omega
  have := frame_len (t := actT k e a d) (by omega)
  unfold actBy
  omega
structure Sh.ok (s : Sh) : Prop where
  free : s.X.free
  lim : s.X.lim (2 * s.next) (2 * s.next) (400 * s.next)
  room : s.X.room = 16777216
  many : size s.D ≤ s.next
theorem Sh.ok.code {s : Sh} (h : s.ok) (hn : s.next < 240) {by' : Byt} (hb : by'.length ≤ 200) : (s.X.sput (nameN 114 s.next) by') = (0, ⟨s.X.room, putFl s.X.shown (nameN 114 s.next) by', putFl s.X.shown (nameN 114 s.next) by', [], s.X.fuse, s.X.down⟩) := by
  rw [sput_free h.free h.lim.map _ _ (by omega), if_neg (not_full h.lim (by omega) (by have := h.room; omega))]
theorem Sh.ok.did {s : Sh} (h : s.ok) (hn : s.next < 240) {by' : Byt} (hb : by'.length ≤ 200) {e l : Nat} {D : Un} (hD : size D ≤ size s.D + 1) : (s.did by' e l D).ok := by
  have hl := h.lim.sput (nameN 114 s.next) by'
  have hm := h.many
  refine ⟨?_, ?_, ?_, ?_⟩
  · unfold Sh.did
    rw [h.code hn hb]
    exact h.free
  · exact hl.mono (by show _ ≤ 2 * (s.next + 1); omega) (by show _ ≤ 2 * (s.next + 1); omega) (by show _ ≤ 400 * (s.next + 1); omega)
  · unfold Sh.did
    rw [h.code hn hb]
    exact h.room
  · show size D ≤ s.next + 1
    omega
def Acts (s s2 : Sh) (v : Value) (R : (Nat → Prop) → World → Prop) : Prop := ∀ (W : World) (F : Nat → Prop) (p dp : Nat), R F W → Lay W → (∀ g, F g → 10 ≤ g) → ShAt F W p dp s →
  Calls Tryz.prog 96 #[.pointer (some ⟨p, 0, none⟩), v] W fun r w' => (∃ n : Int, r = .returned (.tuple #[.int .i64 n, .nilIface])) ∧ ShTo F W p dp s2 w'
def Any : (Nat → Prop) → World → Prop := fun _ _ => True
theorem acts_seal {s : Sh} (h : s.ok) (hn : s.next < 240) (e2 : Nat) (he : s.e < e2) (he2 : e2 ≤ 1099511627776) : Acts s (s.did (actBy 1 e2 0 []) e2 s.l s.D) (.agg #[.int .i64 1, .int .i64 e2, .int .i64 0, .slice none 0 0]) Any :=
  fun W F p dp _ hlay hF hs => shdo_ok 1 e2 0 0 0 none _ e2 s.l s.D _ _ _ W hs hlay hF (by omega) h.lim (by omega) (by omega) (by omega) (by have := actBy_len 1 e2 0 [] (by omega) he2 (by omega) (by simp); omega)
    (by rw [h.code hn (actBy_len 1 e2 0 [] (by omega) he2 (by omega) (by simp))]) (fun W' b F' k u => rapply_seal F' b s.e s.l s.D e2 W' u he he2) (fun W' k => recput_seal e2 W' he2)
theorem acts_fill {s : Sh} (h : s.ok) (hn : s.next < 240) (a : Nat) (he : s.e ≤ 1099511627776) (ha : a ≤ 1048575) (h3 : (uat s.l s.D a).1 ≠ 3) (h1 : (uat s.l s.D a).1 ≠ 1) : Acts s (s.did (actBy 3 s.e a []) s.e s.l (uput s.D a (2, []))) (.agg #[.int .i64 3, .int .i64 s.e, .int .i64 a, .slice none 0 0]) Any :=
  fun W F p dp _ hlay hF hs => shdo_ok 3 s.e a 0 0 none _ s.e s.l (uput s.D a (2, [])) _ _ _ W hs hlay hF (by omega) h.lim (by omega) (by omega) (by omega) (by have := actBy_len 3 s.e a [] (by omega) he (by omega) (by simp); omega)
    (by rw [h.code hn (actBy_len 3 s.e a [] (by omega) he (by omega) (by simp))]) (fun W' b F' k u => rapply_fill F' b s.e s.l s.D a W' u he ha (by have := h.many; omega) h3 h1) (fun W' k => recput_fill s.e a W' he ha)
theorem bs_keepO {v : Value} {d : List UInt8} {S : Nat → Prop} {w w' : World} (h : Bs w v d) (k : Keep S w w') (hn : d = [] ∨ ∀ g, v.ownBlock = some g → ¬ S g) : Bs w' v d := by
  rcases hn with rfl | hn
  · obtain ⟨a, c, e, _⟩ := h
    exact ⟨a, c, e, fun hne => absurd rfl hne⟩
  · exact Rd.keep h k hn
def BsOut (v : Value) (d : List UInt8) : (Nat → Prop) → World → Prop := fun F w => Bs w v d ∧ (d = [] ∨ ∀ g, v.ownBlock = some g → ¬ F g ∧ g < w.heap.size)
theorem BsOut.keep {v : Value} {d : List UInt8} {F S : Nat → Prop} {w w' : World} (h : BsOut v d F w) (k : Keep S w w') (hn : ∀ g, v.ownBlock = some g → ¬ S g) : BsOut v d F w' :=
  ⟨h.1.keep k hn, h.2.imp id (fun y g e => ⟨(y g e).1, k.lt (y g e).2⟩)⟩
theorem acts_write {s : Sh} (h : s.ok) (hn : s.next < 240) (a : Nat) (pa : Option Addr) (d : List UInt8) (dc : Nat) (hd : d.length ≤ 64) (he : s.e ≤ 1099511627776) (ha : a ≤ 1048575) (h0 : (uat s.l s.D a).1 = 0) : Acts s (s.did (actBy 2 s.e a d) s.e s.l (uput s.D a (1, d))) (.agg #[.int .i64 2, .int .i64 s.e, .int .i64 a, .slice pa d.length dc]) (BsOut (.slice pa d.length dc) d) :=
  fun W F p dp hR hlay hF hs => shdo_ok 2 s.e a d.length dc pa _ s.e s.l (uput s.D a (1, d)) _ _ _ W hs hlay hF (by omega) h.lim (by omega) (by omega) (by omega) (by have := actBy_len 2 s.e a d (by omega) he (by omega) hd; omega)
    (by rw [h.code hn (actBy_len 2 s.e a d (by omega) he (by omega) hd)]) (fun W' b F' k u => rapply_write F' b s.e s.l s.D a pa d dc W' u he ha (hR.1.keepNon k) hd (by have := h.many; omega) h0)
    (fun W' k => recput_write s.e a pa d dc W' (bs_keepO hR.1 k (hR.2.imp id (fun y g e x => by rcases x with x | x; exact (y g e).1 x; have := (y g e).2; omega))) hd he ha)
theorem size_uput {D : Un} (h : IsMap D) (a : Nat) (x : Cl) : size (uput D a x) ≤ size D + 1 := by
  obtain ⟨es, rfl⟩ := h
  show (DataW.insert _ _).length ≤ es.length + 1
  rw [length_insert]
  have := List.length_filter_le (fun p : Lit × DataW Cl => !p.1.sameKey (ulit a)) es
  omega
def ptrV (g : Nat) : Value := .pointer (some ⟨g, 0, none⟩)
def LgB (dv sv : Value) (e : Nat) (cv : Value) (q : Nat) : Obj := .cells #[dv, sv, .int .i64 e, cv, .pointer (some ⟨q, 0, none⟩)] 91 (0, 0)
section
variable {w : World} {b e q : Nat} {dv sv cv : Value}
theorem lg_0 (h : w.heap[b]? = some (LgB dv sv e cv q)) : w.cell? ⟨b, 0, none⟩ = some dv := by simp [World.cell?, h, LgB]
theorem lg_1 (h : w.heap[b]? = some (LgB dv sv e cv q)) : w.cell? ⟨b, 1, none⟩ = some sv := by simp [World.cell?, h, LgB]
theorem lg_2 (h : w.heap[b]? = some (LgB dv sv e cv q)) : w.cell? ⟨b, 2, none⟩ = some (.int .i64 e) := by simp [World.cell?, h, LgB]
theorem lg_3 (h : w.heap[b]? = some (LgB dv sv e cv q)) : w.cell? ⟨b, 3, none⟩ = some cv := by simp [World.cell?, h, LgB]
theorem lg_4 (h : w.heap[b]? = some (LgB dv sv e cv q)) : w.cell? ⟨b, 4, none⟩ = some (.pointer (some ⟨q, 0, none⟩)) := by simp [World.cell?, h, LgB]
theorem lg_f (h : w.heap[b]? = some (LgB dv sv e cv q)) (i : Nat) : w.frozen? ⟨b, i, none⟩ = false := by simp [World.frozen?, h, LgB]
theorem lg_set0 (h : w.heap[b]? = some (LgB dv sv e cv q)) (v : Value) : (w.setCell ⟨b, 0, none⟩ v).heap[b]? = some (LgB v sv e cv q) := blk_set h 0 _
theorem lg_set1 (h : w.heap[b]? = some (LgB dv sv e cv q)) (v : Value) : (w.setCell ⟨b, 1, none⟩ v).heap[b]? = some (LgB dv v e cv q) := blk_set h 1 _
end
structure Lg where
  shs : List Sh
  ep : Nat
  next : Nat
  se : Nat
structure LgIn (A : Nat → Nat → Prop) (w : World) (b : Nat) (dps sps : List Nat) (dv sv cv : Value) (q n : Nat) (L : Lg) : Prop where
  blk : w.heap[b]? = some (LgB dv sv L.ep cv q)
  sq : w.heap[q]? = some (SqB L.se L.next)
  sqin : SqIn L.se L.next
  disks : w.ownsRow 0 28 1 dv dps.length (dps.map ptrV)
  shelves : w.ownsRow 0 191 1 sv sps.length (sps.map ptrV)
  len : dps.length = L.shs.length ∧ sps.length = L.shs.length
  proj : PrAt (A 4) w cv n
  sh : ∀ i s p dp, L.shs[i]? = some s → sps[i]? = some p → dps[i]? = some dp → ShAt (A (5 + i)) w p dp s
  mem : A 0 b ∧ A 1 q ∧ (∀ g, dv.ownBlock = some g → A 2 g) ∧ (∀ g, sv.ownBlock = some g → A 3 g)
  apart : ∀ i j g, A i g → A j g → i = j
  low : ∀ i g, A i g → 10 ≤ g ∧ g < w.heap.size
  small : n ≤ 3 ∧ L.shs.length ≤ 3
def LgAt (F : Nat → Prop) (w : World) (b n : Nat) (L : Lg) : Prop := ∃ A dps sps dv sv cv q, LgIn A w b dps sps dv sv cv q n L ∧ ∀ i g, A i g → F g
def LgTo (F : Nat → Prop) (w : World) (b n : Nat) (L : Lg) (w' : World) : Prop := Keep F w w' ∧ ∃ F', Sub F' F w ∧ LgAt F' w' b n L
theorem LgIn.keep {A : Nat → Nat → Prop} {w w' : World} {b : Nat} {dps sps : List Nat} {dv sv cv : Value} {q n : Nat} {L : Lg} {S : Nat → Prop} (h : LgIn A w b dps sps dv sv cv q n L) (k : Keep S w w') (hn : ∀ i g, A i g → ¬ S g) : LgIn A w' b dps sps dv sv cv q n L :=
  ⟨k.at h.blk (hn 0 _ h.mem.1), k.at h.sq (hn 1 _ h.mem.2.1), h.sqin, ownsRow_keep h.disks k (fun g e => hn 2 g (h.mem.2.2.1 g e)), ownsRow_keep h.shelves k (fun g e => hn 3 g (h.mem.2.2.2 g e)), h.len,
    h.proj.keep k (hn 4), fun i s p dp a b c => (h.sh i s p dp a b c).keep k (hn _), h.mem, h.apart, fun i g e => ⟨(h.low i g e).1, k.lt (h.low i g e).2⟩, h.small⟩
theorem LgAt.keep {F S : Nat → Prop} {w w' : World} {b n : Nat} {L : Lg} (h : LgAt F w b n L) (k : Keep S w w') (hn : ∀ g, F g → ¬ S g) : LgAt F w' b n L := by
  obtain ⟨A, dps, sps, dv, sv, cv, q, h, hF⟩ := h
  exact ⟨A, dps, sps, dv, sv, cv, q, h.keep k (fun i g e => hn g (hF i g e)), hF⟩
theorem LgAt.keepNon {F : Nat → Prop} {w w' : World} {b n : Nat} {L : Lg} (h : LgAt F w b n L) (k : Keep Non w w') : LgAt F w' b n L := h.keep k (fun _ _ e => e)
theorem LgAt.mono {F G : Nat → Prop} {w : World} {b n : Nat} {L : Lg} (h : LgAt F w b n L) (hs : ∀ g, F g → g < w.heap.size → G g) : LgAt G w b n L := by
  obtain ⟨A, dps, sps, dv, sv, cv, q, h, hF⟩ := h
  exact ⟨A, dps, sps, dv, sv, cv, q, h, fun i g e => hs g (hF i g e) (h.low i g e).2⟩
def putA (A : Nat → Nat → Prop) (i : Nat) (B : Nat → Prop) : Nat → Nat → Prop := fun j g => if j = i then B g else A j g
theorem putA_same {A : Nat → Nat → Prop} {i : Nat} {B : Nat → Prop} {g : Nat} : putA A i B i g = B g := if_pos rfl
theorem putA_other {A : Nat → Nat → Prop} {i j : Nat} {B : Nat → Prop} {g : Nat} (h : j ≠ i) : putA A i B j g = A j g := if_neg h
theorem putA_apart {A : Nat → Nat → Prop} {i : Nat} {B : Nat → Prop} {w : World} (h : ∀ i j g, A i g → A j g → i = j) (hl : ∀ i g, A i g → 10 ≤ g ∧ g < w.heap.size) (hB : Sub B (A i) w) : ∀ j k g, putA A i B j g → putA A i B k g → j = k := by
  intro j k g hj hk
  unfold putA at hj hk
  split at hj
  · rename_i ej
    split at hk
    · rename_i ek; rw [ej, ek]
    · rcases hB g hj with x | x
      · rw [ej]; exact h _ _ g x hk
      · have := (hl _ g hk).2; omega
  · split at hk
    · rename_i ek
      rcases hB g hk with x | x
      · rw [ek]; exact h _ _ g hj x
      · have := (hl _ g hj).2; omega
    · exact h _ _ g hj hk
theorem LgIn.unit {A : Nat → Nat → Prop} {w w' : World} {b : Nat} {dps sps : List Nat} {dv sv cv : Value} {q n i p dp : Nat} {L : Lg} {s s2 : Sh} (h : LgIn A w b dps sps dv sv cv q n L) (hs : L.shs[i]? = some s) (hp : sps[i]? = some p) (hd : dps[i]? = some dp) (t : ShTo (A (5 + i)) w p dp s2 w') :
    ∃ B, Sub B (A (5 + i)) w ∧ Keep (A (5 + i)) w w' ∧ LgIn (putA A (5 + i) B) w' b dps sps dv sv cv q n { L with shs := L.shs.set i s2 } := by
  obtain ⟨k, B, sb, t⟩ := t
  have ap := putA_apart h.apart h.low sb
  have ne : ∀ j g, j ≠ 5 + i → A j g → ¬ A (5 + i) g := fun j g hj x y => hj (h.apart _ _ g x y)
  have e4 : ∀ (j : Nat), j < 5 → putA A (5 + i) B j = A j := fun j hj => by funext g; exact putA_other (by omega)
  have hil : i < L.shs.length := by
    rcases Nat.lt_or_ge i L.shs.length with x | x
    · exact x
    · rw [List.getElem?_eq_none x] at hs; cases hs
  refine ⟨B, sb, k, k.at h.blk (ne 0 _ (by omega) h.mem.1), k.at h.sq (ne 1 _ (by omega) h.mem.2.1), h.sqin, ownsRow_keep h.disks k (fun g e => ne 2 g (by omega) (h.mem.2.2.1 g e)), ownsRow_keep h.shelves k (fun g e => ne 3 g (by omega) (h.mem.2.2.2 g e)), ?_, ?_, ?_, ?_, ap, ?_, ?_⟩
  · simpa using h.len
  · rw [e4 4 (by omega)]; exact h.proj.keep k (fun g x => ne 4 g (by omega) x)
  · intro j s' p' dp' hj hpj hdj
    simp only at hj
    by_cases e : j = i
    · subst e
      rw [List.getElem?_set_self hil] at hj
      rw [hp] at hpj
      rw [hd] at hdj
      injection hj with hj
      injection hpj with hpj
      injection hdj with hdj
      subst hj
      subst hpj
      subst hdj
      have e5 : putA A (5 + j) B (5 + j) = B := by funext g; exact putA_same
      rw [e5]
      exact t
    · rw [List.getElem?_set_ne (fun x => e x.symm)] at hj
      have e5 : putA A (5 + i) B (5 + j) = A (5 + j) := by funext g; exact putA_other (by omega)
      rw [e5]
      exact (h.sh j s' p' dp' hj hpj hdj).keep k (fun g x => ne (5 + j) g (by omega) x)
  · rw [e4 0 (by omega), e4 1 (by omega), e4 2 (by omega), e4 3 (by omega)]; exact h.mem
  · intro j g x
    unfold putA at x
    have hsz := k.size
    split at x
    · refine ⟨?_, t.low g x⟩
      rcases sb g x with y | y
      · exact (h.low _ g y).1
      · have := (h.low 0 b h.mem.1); omega
    · have := h.low j g x; omega
  · simpa using h.small
theorem LgIn.unitTo {A : Nat → Nat → Prop} {F : Nat → Prop} {w w' : World} {b : Nat} {dps sps : List Nat} {dv sv cv : Value} {q n i p dp : Nat} {L : Lg} {s s2 : Sh} (h : LgIn A w b dps sps dv sv cv q n L) (hF : ∀ i g, A i g → F g) (hs : L.shs[i]? = some s) (hp : sps[i]? = some p) (hd : dps[i]? = some dp) (t : ShTo (A (5 + i)) w p dp s2 w') :
    LgTo F w b n { L with shs := L.shs.set i s2 } w' := by
  obtain ⟨B, sb, k, h'⟩ := h.unit hs hp hd t
  refine ⟨k.mono (fun g _ x => hF _ g x), fun g => ∃ j, putA A (5 + i) B j g, ?_, _, dps, sps, dv, sv, cv, q, h', fun j g x => ⟨j, x⟩⟩
  rintro g ⟨j, x⟩
  unfold putA at x
  split at x
  · rcases sb g x with y | y
    · exact .inl (hF _ g y)
    · exact .inr y
  · exact .inl (hF _ g x)
def LgIT (A : Nat → Nat → Prop) (w : World) (b : Nat) (dps sps : List Nat) (dv sv cv : Value) (q n u : Nat) (L : Lg) (w' : World) : Prop :=
  ∃ B, Sub B (A (5 + u)) w ∧ Keep (A (5 + u)) w w' ∧ LgIn (putA A (5 + u) B) w' b dps sps dv sv cv q n L
theorem LgIT.pre {A : Nat → Nat → Prop} {w w1 w' : World} {b : Nat} {dps sps : List Nat} {dv sv cv : Value} {q n u : Nat} {L : Lg} (k : Keep Non w w1) (d : LgIT A w1 b dps sps dv sv cv q n u L w') : LgIT A w b dps sps dv sv cv q n u L w' := by
  obtain ⟨B, hs, kk, hl⟩ := d
  refine ⟨B, fun g x => ?_, k.ofNon.trans1 kk, hl⟩
  rcases hs g x with y | y
  · exact .inl y
  · have := k.size; right; omega
theorem LgIT.to {A : Nat → Nat → Prop} {F : Nat → Prop} {w w' : World} {b : Nat} {dps sps : List Nat} {dv sv cv : Value} {q n u : Nat} {L : Lg} (d : LgIT A w b dps sps dv sv cv q n u L w') (hF : ∀ i g, A i g → F g) : LgTo F w b n L w' := by
  obtain ⟨B, hs, kk, hl⟩ := d
  refine ⟨kk.mono (fun g _ x => hF _ g x), fun g => F g ∨ w.heap.size ≤ g, fun g x => x, putA A (5 + u) B, dps, sps, dv, sv, cv, q, hl, fun i g x => ?_⟩
  by_cases e : i = 5 + u
  · subst e
    rw [putA_same] at x
    rcases hs g x with y | y
    · exact .inl (hF _ g y)
    · exact .inr y
  · rw [putA_other e] at x
    exact .inl (hF _ g x)
theorem LgTo.trans {F F' : Nat → Prop} {w w' w'' : World} {b n : Nat} {L : Lg} (s : Sub F' F w) (k : Keep F w w') (d : LgTo F' w' b n L w'') : LgTo F w b n L w'' := by
  obtain ⟨k2, F'', s2, d2⟩ := d
  exact ⟨keep_sub k s k2, F'', s.trans s2 k.size, d2⟩
theorem LgTo.refl {F : Nat → Prop} {w w' : World} {b n : Nat} {L : Lg} (d : LgAt F w b n L) (k : Keep Non w w') : LgTo F w b n L w' :=
  ⟨k.mono (fun _ _ e => e.elim), F, Sub.refl _ _, d.keepNon k⟩
theorem LgTo.pre {F : Nat → Prop} {w w1 w' : World} {b n : Nat} {L : Lg} (k : Keep Non w w1) (d : LgTo F w1 b n L w') : LgTo F w b n L w' := by
  obtain ⟨k2, F', s, d⟩ := d
  exact ⟨(k.mono (fun _ _ e => e.elim) : Keep F w w1).trans k2 (fun _ _ e => e) (fun _ _ e => e), F', fun g e => by rcases s g e with x | x; exact .inl x; exact .inr (Nat.le_trans k.size x), d⟩
theorem LgTo.post {F : Nat → Prop} {w w1 w' : World} {b n : Nat} {L : Lg} (d : LgTo F w b n L w1) (k : Keep Non w1 w') : LgTo F w b n L w' := by
  obtain ⟨k2, F', s, d⟩ := d
  exact ⟨k2.trans1 k.ofNon, F', s, d.keepNon k⟩
theorem lt_of_some {α : Type} {l : List α} {i : Nat} {x : α} (h : l[i]? = some x) : i < l.length := by
  rcases Nat.lt_or_ge i l.length with y | y
  · exact y
  · rw [List.getElem?_eq_none y] at h; cases h
theorem row_cell {w : World} {B g c k i x : Nat} {ty : TypeId} {l : List Nat} (o : w.ownsRow B ty 1 (.slice (some ⟨g, 0, none⟩) k c) l.length (l.map ptrV)) (hi : l[i]? = some x) : w.cell? ⟨g, i, none⟩ = some (ptrV x) := by
  have hr := Rd.ofOwns o
  obtain ⟨a', c', e, hx⟩ := hr
  injection e with e1 e2 e3
  obtain ⟨g', off, e4, hc⟩ := hx (by intro e; rw [List.map_eq_nil_iff] at e; rw [e] at hi; cases hi)
  rw [← e1] at e4
  injection e4 with e4
  injection e4 with e4 e5
  subst e4
  subst e5
  have := hc i (ptrV x) (by rw [List.getElem?_map, hi]; rfl)
  rwa [Nat.zero_add] at this
theorem LgIn.at {A : Nat → Nat → Prop} {w : World} {b : Nat} {dps sps : List Nat} {dv sv cv : Value} {q n u : Nat} {L : Lg} {s : Sh} (h : LgIn A w b dps sps dv sv cv q n L) (hs : L.shs[u]? = some s) :
    ∃ p dp sg sc dg dc, sv = .slice (some ⟨sg, 0, none⟩) L.shs.length sc ∧ dv = .slice (some ⟨dg, 0, none⟩) L.shs.length dc ∧ sps[u]? = some p ∧ dps[u]? = some dp ∧ u < L.shs.length ∧ w.cell? ⟨sg, u, none⟩ = some (ptrV p) ∧ w.cell? ⟨dg, u, none⟩ = some (ptrV dp) ∧ ShAt (A (5 + u)) w p dp s := by
  have hu := lt_of_some hs
  obtain ⟨l1, l2⟩ := h.len
  obtain ⟨sg, sc, e1, _⟩ := own_some h.shelves (by omega)
  obtain ⟨dg, dc, e2, _⟩ := own_some h.disks (by omega)
  have hp := List.getElem?_eq_getElem (show u < sps.length by omega)
  have hd := List.getElem?_eq_getElem (show u < dps.length by omega)
  have r1 := h.shelves
  have r2 := h.disks
  rw [e1] at r1
  rw [e2] at r2
  exact ⟨_, _, sg, sc, dg, dc, by rw [e1, l2], by rw [e2, l1], hp, hd, hu, row_cell r1 hp, row_cell r2 hd, h.sh u s _ _ hs hp hd⟩
theorem lgin_yes (x most : Int) (w : World) (h1 : 0 ≤ x) (h2 : x ≤ most) :
    Calls Tryz.prog 41 #[.int .i64 x, .int .i64 most] w fun e w' => e = .returned (.bool true) ∧ w' = w := by
  go_enter Tryz.func41, Tryz.ntmps41
  go_wp2_with fail
  go_ret
  exact ⟨rfl, rfl⟩
theorem lgask_ok (b : Nat) (w : World) :
    Calls Tryz.prog 40 #[.pointer (some ⟨b, 0, none⟩), .bool true] w fun e w' => e = .returned .nilIface ∧ w' = w := by
  go_enter Tryz.func40, Tryz.ntmps40
  go_wp2_with fail
  go_ret
  exact ⟨rfl, rfl⟩
theorem lgdoI_ok {A : Nat → Nat → Prop} {dps sps : List Nat} {dv sv cv : Value} {q b n u : Nat} {L : Lg} {s s2 : Sh} (k e a m c : Nat) (pa : Option Addr) (R : (Nat → Prop) → World → Prop) (w : World) (h : LgIn A w b dps sps dv sv cv q n L) (hs : L.shs[u]? = some s) (hlay : Lay w)
    (ha : Acts s s2 (.agg #[.int .i64 k, .int .i64 e, .int .i64 a, .slice pa m c]) R) (hR : ∀ w' F', Keep Non w w' → (∀ g, F' g → A (5 + u) g) → R F' w') :
    Calls Tryz.prog 184 #[.pointer (some ⟨b, 0, none⟩), .int .i64 u, .agg #[.int .i64 k, .int .i64 e, .int .i64 a, .slice pa m c]] w fun r w' => (∃ n : Int, r = .returned (.tuple #[.int .i64 n, .nilIface])) ∧ LgIT A w b dps sps dv sv cv q n u { L with shs := L.shs.set u s2 } w' := by
  have kA : Keep Non w (w.alloc (ActB k e a (.slice pa m c))) := (Keep.refl _ _).alloc _
  have hA := h.keep kA (fun _ _ _ x => x)
  obtain ⟨p, dp, sg, sc, dg, dc, rfl, rfl, hp, hd, hu, hcs, hcd, hsh⟩ := hA.at hs
  have c1 := lg_1 hA.blk
  unfold ptrV at hcs
  have kAd : Keep Non w (w.alloc (ActB k e a (.slice pa m c))).drew := kA.drew
  have hAd := hA.keep ((Keep.refl Non _).drew) (fun _ _ _ x => x)
  have AC := Lib.hid (ha _ _ p dp (hR _ (A (5 + u)) kAd (fun _ x => x)) (hlay.keepNon kAd) (fun g x => (hA.low _ g x).1) (hsh.keepNon (Keep.refl Non _).drew))
  have CL := Lib.hid (fun w' (t : ShTo (A (5 + u)) (w.alloc (ActB k e a (.slice pa m c))).drew p dp s2 w') => LgIT.pre kAd (hAd.unit hs hp hd t))
  have bA := blk_new w (ActB k e a (.slice pa m c))
  have a0 := ac_0 bA
  have a1 := ac_1 bA
  have a2 := ac_2 bA
  have a3 := ac_3 bA
  have hlt : (u : Int) < L.shs.length := by omega
  clear h hA hAd hsh hlay ha hR kA kAd bA hcd hp hd
  have c1d : (w.alloc (ActB k e a (.slice pa m c))).drew.cell? ⟨b, 1, none⟩ = some (.slice (some ⟨sg, 0, none⟩) L.shs.length sc) := c1
  have hcsd : (w.alloc (ActB k e a (.slice pa m c))).drew.cell? ⟨sg, u, none⟩ = some (.pointer (some ⟨p, 0, none⟩)) := hcs
  have a0d : (w.alloc (ActB k e a (.slice pa m c))).drew.cell? ⟨w.heap.size, 0, none⟩ = some (.int .i64 k) := a0
  have a1d : (w.alloc (ActB k e a (.slice pa m c))).drew.cell? ⟨w.heap.size, 1, none⟩ = some (.int .i64 e) := a1
  have a2d : (w.alloc (ActB k e a (.slice pa m c))).drew.cell? ⟨w.heap.size, 2, none⟩ = some (.int .i64 a) := a2
  have a3d : (w.alloc (ActB k e a (.slice pa m c))).drew.cell? ⟨w.heap.size, 3, none⟩ = some (.slice pa m c) := a3
  dsimp only [ActB] at *
  go_enter Tryz.func184, Tryz.ntmps184
  go_wp2_with fail
  go_region_law (go_simp; go_at_call 96; refine AC.out.mono ?_; rintro r w2 ⟨⟨nn, rfl⟩, t⟩; have T := Lib.hid t; clear t)
  all_goals go_wp2_with fail
  all_goals
    go_ret2
    exact ⟨⟨_, rfl⟩, CL.out _ T.out⟩
theorem lgdo_ok {F : Nat → Prop} {b n u : Nat} {L : Lg} {s s2 : Sh} (k e a m c : Nat) (pa : Option Addr) (R : (Nat → Prop) → World → Prop) (w : World) (h : LgAt F w b n L) (hs : L.shs[u]? = some s) (hlay : Lay w)
    (ha : Acts s s2 (.agg #[.int .i64 k, .int .i64 e, .int .i64 a, .slice pa m c]) R) (hR : ∀ w' F', Keep Non w w' → (∀ g, F' g → F g) → R F' w') :
    Calls Tryz.prog 184 #[.pointer (some ⟨b, 0, none⟩), .int .i64 u, .agg #[.int .i64 k, .int .i64 e, .int .i64 a, .slice pa m c]] w fun r w' => (∃ n : Int, r = .returned (.tuple #[.int .i64 n, .nilIface])) ∧ LgTo F w b n { L with shs := L.shs.set u s2 } w' := by
  obtain ⟨A, dps, sps, dv, sv, cv, q, h, hF⟩ := h
  refine (lgdoI_ok k e a m c pa R w h hs hlay ha (fun w' F' kk hh => hR w' F' kk (fun g x => hF _ g (hh g x)))).mono ?_
  rintro r w' ⟨x, t⟩
  exact ⟨x, t.to hF⟩
end Go.Proofs.YtdmckfkhkjkdnaaGreatDoor
