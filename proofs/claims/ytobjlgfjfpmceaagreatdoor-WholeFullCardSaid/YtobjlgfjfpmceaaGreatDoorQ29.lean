/- A vault's names are objects' names; unlike ones differ. · vault.Add: walked. · vault.Add where the store's put fails: walked. · How long a segment's a -/
import Derived.Lib.AppendIntMem
import Derived.Test.YtobjlgfjfpmceaaGreatDoorQ22
import Derived.Test.YtobjlgfjfpmceaaGreatDoorQ23
import Derived.Test.YtobjlgfjfpmceaaGreatDoorQ25
import Derived.Test.YtobjlgfjfpmceaaGreatDoorQ27
set_option linter.unusedVariables false
set_option maxRecDepth 100000
set_option maxHeartbeats 16000000
namespace Go.Proofs.YtobjlgfjfpmceaaGreatDoor
open Go.RowKit
def digs : List UInt8 := [48, 49, 50, 51, 52, 53, 54, 55, 56, 57]
theorem dig_in (i : Nat) (h : i < 10) : UInt8.ofNat (48 + i) ∈ digs := by
  have h0 : ∀ i : Fin 10, UInt8.ofNat (48 + i.val) ∈ digs := by decide
  exact h0 ⟨i, h⟩
theorem dec_in (n : Nat) (h : n < 100) : ∀ c ∈ Lib.decDigits n, c ∈ digs := by
  intro c hc
  by_cases h1 : n < 10
  · rw [Lib.decDigits_one h1] at hc
    simp only [List.mem_singleton] at hc
    rw [hc]
    exact dig_in n h1
  · rw [Lib.decDigits_two h1 h] at hc
    simp only [List.mem_cons, List.not_mem_nil, or_false] at hc
    rcases hc with rfl | rfl
    · exact dig_in _ (by omega)
    · exact dig_in _ (by omega)
theorem rep_in : ∀ (k : Nat), ∀ c ∈ Lib.repeatL [48] k, c ∈ digs
  | 0, c, h => by simp [Lib.repeatL] at h
  | k + 1, c, h => by
    simp only [Lib.repeatL, List.mem_append, List.mem_singleton] at h
    rcases h with rfl | h
    · decide
    · exact rep_in k c h
theorem figN_in (n k : Nat) (h : n < 100) : ∀ c ∈ figN n k, c ∈ digs := by
  intro c hc
  unfold figN at hc
  rcases List.mem_append.1 hc with hc | hc
  · exact rep_in _ c hc
  · exact dec_in n h c hc
theorem digs_ok : ∀ c ∈ digs, c ∈ signsL ∧ c ≠ 126 := by decide
theorem title_ok (n : Nat) (h : n < 100) : okObj (titleN n) := by
  have hl := figN_len n 6 h (by omega)
  have hc : ∀ c ∈ titleN n, c ∈ signsL ∧ c ≠ 126 := by
    intro c hc
    unfold titleN at hc
    simp only [List.mem_append, List.mem_singleton] at hc
    rcases hc with rfl | hc
    · decide
    · exact digs_ok c (figN_in n 6 h c hc)
  have hlen : (titleN n).length = 7 := by unfold titleN; simp [hl]
  exact ⟨⟨by omega, by omega, fun c e => (hc c e).1⟩, by omega, fun e => (hc 126 e).2 rfl⟩
theorem label_ok (n p : Nat) (h : n < 100) (h2 : p < 100) : okObj (labelN n p) := by
  have hl := figN_len n 6 h (by omega)
  have hl2 := figN_len p 4 h2 (by omega)
  have hc : ∀ c ∈ labelN n p, c ∈ signsL ∧ c ≠ 126 := by
    intro c hc
    unfold labelN at hc
    simp only [List.mem_append, List.mem_singleton] at hc
    rcases hc with ((rfl | hc) | rfl) | hc
    · decide
    · exact digs_ok c (figN_in n 6 h c hc)
    · decide
    · exact digs_ok c (figN_in p 4 h2 c hc)
  have hlen : (labelN n p).length = 12 := by unfold labelN; simp [hl, hl2]
  exact ⟨⟨by omega, by omega, fun c e => (hc c e).1⟩, by omega, fun e => (hc 126 e).2 rfl⟩
theorem store_after {F : Nat → Prop} {w w2 w3 w4 : World} {q p b : Nat} {X : Dk} (k2 : Keep Non w w2) (t : StoreTo F w2 q p X w3) (k : Keep (One b) w3 w4) (hb : w.heap.size ≤ b) (hb2 : b < w2.heap.size) (hF : ∀ g, F g → g < w.heap.size) : StoreTo F w q p X w4 := by
  obtain ⟨k3, F', s, d⟩ := t
  refine ⟨(k2.ofNon.trans1 k3).trans k (fun _ _ e => e) (fun g hg e => by have e' : g = b := e; omega), F', ?_, d.keep k (fun g hg e => ?_)⟩
  · intro g e
    rcases s g e with e | e
    · exact .inl e
    · exact .inr (by have := k2.size; omega)
  · have e' : g = b := e
    rcases s g hg with h | h
    · have := hF g h
      omega
    · omega
section
attribute [local go_sem ↓] hV81 hV101 hV83 hW81 hW101 hW83 hB101 hB83
theorem vadd_ok (F : Nat → Prop) (b q p num place f : Nat) (la : Option Addr) (lc : Nat) (v : Value) (cl : List Cl) (X : Dk) (a k fu : Nat) (w : World) (hb : w.heap[b]? = some (VtB q (.slice la num lc))) (d : StoreAt F w q p X) (hl : X.lim a k fu) (ha : a ≤ 505) (hk : k ≤ 990) (hf : fu ≤ 400000000) (hF : ∀ g, F g → g < w.heap.size)
    (hn : num < 100) (hpl : place < 100) (hcs : CsAt w v cl) (hne : cl ≠ []) (h64 : cl.length ≤ 64) (hok : ∀ x ∈ cl, okCl x) (hfl : f + cl.length ≤ 1048576) (hbl : (vput f ++ runB cl).length ≤ 65536) (hs : (segB f cl).length ≤ 65536) (hK : Kon w) (hFr : Frs w) (hbF : ¬ F b)
    (hcode : (X.sput (labelN num place) (segB f cl)).1 = 0) :
    Calls Tryz.prog 144 #[.pointer (some ⟨b, 0, none⟩), .int .i64 num, .int .i64 place, .agg #[.int .i64 f, v]] w fun e w' => e = .returned (.tuple #[ptV (ptOf f cl), .nilIface]) ∧ StoreTo F w q p (X.sput (labelN num place) (segB f cl)).2 w' := by
  have OF := Lib.hid (fun w1 (kk : Keep Non w w1) => mof_ok f v cl w1 (hcs.keepNon kk) hne h64 hok hfl hbl (by omega) (hK.keep kk) (hFr.keep kk))
  have SP : Hid (∀ w2 v2, Keep Non w w2 → Bs w2 v2 (segB f cl) → (∀ g, v2.ownBlock = some g → w.heap.size ≤ g) → Calls Tryz.prog 83 #[.pointer (some ⟨q, 0, none⟩), .string ⟨(labelN num place).toArray⟩, v2] w2 fun e w' => e = .returned .nilIface ∧ StoreTo F w2 q p (X.sput (labelN num place) (segB f cl)).2 w') := Lib.hid (fun w2 v2 k2 hv hg => by
    refine (sput_any F q p v2 (labelN num place) (segB f cl) X a k fu w2 (d.keep k2 (fun _ _ e => e)) hl ha hk hf (label_ok num place hn hpl) hv hs (fun g e e2 => by have := hg g e; have := hF g e2; omega)).mono ?_
    rintro e w' ⟨rfl, t⟩
    rw [errv_ok hcode]
    exact ⟨rfl, t⟩)
  have LB : Hid (∀ W, Calls Tryz.prog 197 #[.int .i64 num, .int .i64 place] W fun e w' => e = .returned (.string ⟨(labelN num place).toArray⟩) ∧ Keep Non W w') := Lib.hid (fun W => vlabel_ok num place W hn hpl)
  obtain ⟨sa, sc, rfl, _⟩ := hcs
  have HB := Lib.hid hb
  have HF := Lib.hid hF
  have HBF := Lib.hid hbF
  have kA : Keep Non w ((w.alloc (.cells #[.int .i64 f, .slice sa cl.length sc] 225)).alloc (.cells zPt 101)) := ((Keep.refl _ _).alloc _).alloc _
  have c1 := vt_1 (nonAt kA hb)
  have ZA := Lib.hid (alloc2_at w (.cells #[.int .i64 f, .slice sa cl.length sc] 225 (0, 0)) (.cells zPt 101 (0, 0)))
  have OFA := Lib.hid (OF.out _ kA)
  have KA := Lib.hid kA
  dsimp only [zPt] at c1 OFA
  have hnp : ¬ (place : Int) < 0 := by omega
  have hnp2 : ¬ (1023 : Int) < (place : Int) := by omega
  clear d hl hF hK hFr hok hne hbl hcode hb kA
  go_enter Tryz.func144, Tryz.ntmps144
  go_wp2_with (go_at_call 196; refine OFA.out.mono ?_; rintro e w1 ⟨v1, rfl, k1, o1⟩; obtain ⟨a1, c1', rfl, _, _⟩ := ownsRow_form o1; have K1 : Hid (Keep Non w w1) := Lib.hid (KA.out.trans1 k1); have z1 : w1.heap[w.heap.size + 1]? = some (.cells zPt 101 (0, 0)) := nonAt k1 ZA.out; have Z1 := Lib.hid z1; have c0 := vt_0 (nonAt K1.out HB.out); have hs0 := store_pt0 w1 (ptOf f cl) (digB_len _); have c0b := vt_0 (nonAt ((Keep.refl Non w1).alloc (PtB (ptOf f cl))) (nonAt K1.out HB.out)); dsimp only [zPt, PtB] at hs0 c0b; have S1 : Hid (w.heap.size + 2 ≤ w1.heap.size) := Lib.hid (by have := k1.size; simpa using this); have O1 : Hid (w1.ownsRow w.heap.size 5 1 (.slice a1 (segB f cl).length c1') (segB f cl).length ((segB f cl).map bv)) := Lib.hid (ownsRow_low o1 (by simp; omega)); clear k1 o1 z1)
  go_region_law (go_simp; first
    | (go_at_call 197; refine (LB.out _).mono ?_; rintro e w2 ⟨rfl, k2⟩; have k2' : Keep Non w1 w2 := (((Keep.refl Non w1).alloc (PtB (ptOf f cl))).drew).trans1 k2; have P2 := Lib.hid (nonAt k2 (by exact blk_new w1 (PtB (ptOf f cl)))); have d0 := vt_0 (nonAt (K1.out.trans1 k2') HB.out); have K2 := Lib.hid (K1.out.trans1 k2'); have S2 : Hid (w1.heap.size ≤ w2.heap.size) := Lib.hid k2'.size; have Z2 := Lib.hid (nonAt k2' Z1.out); have SPW := Lib.hid (SP.out w2 (.slice a1 (segB f cl).length c1') K2.out (Rd.keepNon (Rd.ofOwns O1.out) k2') (fun g e => (O1.out.lt g e).1)); clear k2 k2')
    | (go_at_call 83; refine SPW.out.mono ?_; rintro e w3 ⟨rfl, t3⟩; have k3 := t3.1; have z3 : w3.heap[w.heap.size + 1]? = some (.cells zPt 101 (0, 0)) := k3.at Z2.out (fun e => by have := HF.out _ e; omega); have hst := store_pt w3 (w.heap.size + 1) (ptOf f cl) zPt (digB_len _) rfl z3; have HL := Lib.hid (load_pt (p := ptOf f cl) (setRow_heap w3 (w.heap.size + 1) _ (ptC (ptOf f cl)).toArray _ _ z3) (digB_len _)); have p3 : w3.heap[w1.heap.size]? = some (PtB (ptOf f cl)) := k3.at P2.out (fun e => by have := HF.out _ e; have := S1.out; omega); have hlp := load_pt p3 (digB_len _); have T3 := Lib.hid t3; clear t3 k3 z3 p3))
  all_goals go_wp2_with fail
  all_goals
    have hlv := HL.out
    unfold holdV at hlv
    refine bodyPost_ret (v := .tuple #[ptV (ptOf f cl), .nilIface]) (by simp [results, Tryz.results144, asAddr, hlv]) rfl ?_
    have k4 : Keep (One (w.heap.size + 1)) w3 (w3.setRow (w.heap.size + 1) (ptC (ptOf f cl)).toArray) := (Keep.refl (One (w.heap.size + 1)) _).setRow (.inl (one_self _)) _
    have s1 := S1.out
    have h12 := S2.out
    exact ⟨rfl, store_after K2.out T3.out k4 (by omega) (by omega) HF.out⟩
end
theorem build_zPt (w : World) : (holdB 101 #[]).run Tryz.prog w = .ok (.agg zPt) w := run_build w 101 _ _ (by kernel_rfl)
theorem store_zPt (w : World) (g : Nat) (hg : w.heap[g]? = some (.cells zPt 101 (0, 0))) : (holdW 101 ⟨g, 0, none⟩ (.agg zPt)).run Tryz.prog w = .ok () (w.setRow g zPt) :=
  run_storeVar_row (P := Tryz.prog) w g 101 101 zPt zPt hg szPt rfl (by kernel_rfl)
theorem load_zPt {w : World} {g : Nat} (hg : w.heap[g]? = some (.cells zPt 101 (0, 0))) : (holdV 101 ⟨g, 0, none⟩).run Tryz.prog w = .ok (.agg zPt) w := by
  have h := load_row (t := 101) (n := 35) Tryz.isAgg101 Tryz.sizeOf101 w g 0 zPt.toList rfl (fun j v hv => by rw [Nat.zero_add, cell_of_row _ _ j _ _ _ hg]; simpa using hv)
  simpa using h
section
attribute [local go_sem ↓] hV81 hV101 hV83 hW81 hW101 hW83 hB101 hB83
theorem vadd_no (F : Nat → Prop) (b q p num place f : Nat) (la : Option Addr) (lc : Nat) (v : Value) (cl : List Cl) (X : Dk) (a k fu : Nat) (w : World) (hb : w.heap[b]? = some (VtB q (.slice la num lc))) (d : StoreAt F w q p X) (hl : X.lim a k fu) (ha : a ≤ 505) (hk : k ≤ 990) (hf : fu ≤ 400000000) (hF : ∀ g, F g → g < w.heap.size)
    (hn : num < 100) (hpl : place < 100) (hcs : CsAt w v cl) (hne : cl ≠ []) (h64 : cl.length ≤ 64) (hok : ∀ x ∈ cl, okCl x) (hfl : f + cl.length ≤ 1048576) (hbl : (vput f ++ runB cl).length ≤ 65536) (hs : (segB f cl).length ≤ 65536) (hK : Kon w) (hFr : Frs w) (hbF : ¬ F b)
    (code : Int) (hcd : (X.sput (labelN num place) (segB f cl)).1 = code) (hcode : code ≠ 0) :
    Calls Tryz.prog 144 #[.pointer (some ⟨b, 0, none⟩), .int .i64 num, .int .i64 place, .agg #[.int .i64 f, v]] w fun e w' => e = .returned (.tuple #[.agg zPt, .iface 45 (.int .i64 code)]) ∧ StoreTo F w q p (X.sput (labelN num place) (segB f cl)).2 w' := by
  have OF := Lib.hid (fun w1 (kk : Keep Non w w1) => mof_ok f v cl w1 (hcs.keepNon kk) hne h64 hok hfl hbl (by omega) (hK.keep kk) (hFr.keep kk))
  have SP : Hid (∀ w2 v2, Keep Non w w2 → Bs w2 v2 (segB f cl) → (∀ g, v2.ownBlock = some g → w.heap.size ≤ g) → Calls Tryz.prog 83 #[.pointer (some ⟨q, 0, none⟩), .string ⟨(labelN num place).toArray⟩, v2] w2 fun e w' => e = .returned (.iface 45 (.int .i64 code)) ∧ StoreTo F w2 q p (X.sput (labelN num place) (segB f cl)).2 w') := Lib.hid (fun w2 v2 k2 hv hg => by
    refine (sput_any F q p v2 (labelN num place) (segB f cl) X a k fu w2 (d.keep k2 (fun _ _ e => e)) hl ha hk hf (label_ok num place hn hpl) hv hs (fun g e e2 => by have := hg g e; have := hF g e2; omega)).mono ?_
    rintro e w' ⟨rfl, t⟩
    rw [hcd, errv_no hcode]
    exact ⟨rfl, t⟩)
  have LB : Hid (∀ W, Calls Tryz.prog 197 #[.int .i64 num, .int .i64 place] W fun e w' => e = .returned (.string ⟨(labelN num place).toArray⟩) ∧ Keep Non W w') := Lib.hid (fun W => vlabel_ok num place W hn hpl)
  obtain ⟨sa, sc, rfl, _⟩ := hcs
  have HB := Lib.hid hb
  have HF := Lib.hid hF
  have HBF := Lib.hid hbF
  have kA : Keep Non w ((w.alloc (.cells #[.int .i64 f, .slice sa cl.length sc] 225)).alloc (.cells zPt 101)) := ((Keep.refl _ _).alloc _).alloc _
  have c1 := vt_1 (nonAt kA hb)
  have ZA := Lib.hid (alloc2_at w (.cells #[.int .i64 f, .slice sa cl.length sc] 225 (0, 0)) (.cells zPt 101 (0, 0)))
  have OFA := Lib.hid (OF.out _ kA)
  have KA := Lib.hid kA
  dsimp only [zPt] at c1 OFA
  have hnp : ¬ (place : Int) < 0 := by omega
  have hnp2 : ¬ (1023 : Int) < (place : Int) := by omega
  have hbz := build_zPt
  clear d hl hF hK hFr hok hne hbl hcode hcd hb kA
  go_enter Tryz.func144, Tryz.ntmps144
  go_wp2_with (go_at_call 196; refine OFA.out.mono ?_; rintro e w1 ⟨v1, rfl, k1, o1⟩; obtain ⟨a1, c1', rfl, _, _⟩ := ownsRow_form o1; have K1 : Hid (Keep Non w w1) := Lib.hid (KA.out.trans1 k1); have z1 : w1.heap[w.heap.size + 1]? = some (.cells zPt 101 (0, 0)) := nonAt k1 ZA.out; have Z1 := Lib.hid z1; have c0 := vt_0 (nonAt K1.out HB.out); have hs0 := store_pt0 w1 (ptOf f cl) (digB_len _); have c0b := vt_0 (nonAt ((Keep.refl Non w1).alloc (PtB (ptOf f cl))) (nonAt K1.out HB.out)); dsimp only [zPt, PtB] at hs0 c0b; have S1 : Hid (w.heap.size + 2 ≤ w1.heap.size) := Lib.hid (by have := k1.size; simpa using this); have O1 : Hid (w1.ownsRow w.heap.size 5 1 (.slice a1 (segB f cl).length c1') (segB f cl).length ((segB f cl).map bv)) := Lib.hid (ownsRow_low o1 (by simp; omega)); clear k1 o1 z1)
  go_region_law (go_simp; first
    | (go_at_call 197; refine (LB.out _).mono ?_; rintro e w2 ⟨rfl, k2⟩; have k2' : Keep Non w1 w2 := (((Keep.refl Non w1).alloc (PtB (ptOf f cl))).drew).trans1 k2; have P2 := Lib.hid (nonAt k2 (by exact blk_new w1 (PtB (ptOf f cl)))); have d0 := vt_0 (nonAt (K1.out.trans1 k2') HB.out); have K2 := Lib.hid (K1.out.trans1 k2'); have S2 : Hid (w1.heap.size ≤ w2.heap.size) := Lib.hid k2'.size; have Z2 := Lib.hid (nonAt k2' Z1.out); have SPW := Lib.hid (SP.out w2 (.slice a1 (segB f cl).length c1') K2.out (Rd.keepNon (Rd.ofOwns O1.out) k2') (fun g e => (O1.out.lt g e).1)); clear k2 k2')
    | (go_at_call 83; refine SPW.out.mono ?_; rintro e w3 ⟨rfl, t3⟩; have k3 := t3.1; have z3 : w3.heap[w.heap.size + 1]? = some (.cells zPt 101 (0, 0)) := k3.at Z2.out (fun e => by have := HF.out _ e; omega); have hst := store_zPt w3 (w.heap.size + 1) z3; have HL := Lib.hid (load_zPt (setRow_heap w3 (w.heap.size + 1) _ zPt _ _ z3)); have p3 : w3.heap[w1.heap.size]? = some (PtB (ptOf f cl)) := k3.at P2.out (fun e => by have := HF.out _ e; have := S1.out; omega); have hlp := load_pt p3 (digB_len _); have T3 := Lib.hid t3; clear t3 k3 z3 p3))
  all_goals go_wp2_with fail
  all_goals
    have hlv := HL.out
    unfold holdV at hlv
    refine bodyPost_ret (v := .tuple #[.agg zPt, .iface 45 (.int .i64 code)]) (by simp [results, Tryz.results144, asAddr, hlv]) rfl ?_
    have k4 : Keep (One (w.heap.size + 1)) w3 (w3.setRow (w.heap.size + 1) zPt) := (Keep.refl (One (w.heap.size + 1)) _).setRow (.inl (one_self _)) _
    have s1 := S1.out
    have h12 := S2.out
    exact ⟨rfl, store_after K2.out T3.out k4 (by omega) (by omega) HF.out⟩
end
theorem encRun_len : ∀ (f : Nat) (last : List UInt8) (cl : List Cl), (∀ x ∈ cl, okCl x) → cl.length ≤ 64 → last.length ≤ 64 → (encRun f last cl).length ≤ 96 * cl.length
  | 0, _, _, _, _, _ => by simp [encRun]
  | f + 1, _, [], _, _, _ => by simp [encRun]
  | f + 1, last, x :: r, h, hl, hla => by
    obtain ⟨h0, h3, h64, h1⟩ := h x (by simp)
    have hle := rowN_le (x :: r)
    have ha := alikeN_le last x.2
    simp only [List.length_cons] at hl hle ⊢
    show (if 0 < rowN (x :: r) then vput (rowN (x :: r)) ++ vput x.1.toNat ++ encRun f last ((x :: r).drop (rowN (x :: r))) else vput 0 ++ vput x.2.length ++ vput (alikeN last x.2) ++ x.2.drop (alikeN last x.2) ++ encRun f x.2 r).length ≤ _
    split
    · rename_i hp
      have ih := encRun_len f last ((x :: r).drop (rowN (x :: r))) (fun y hy => h y (List.mem_of_mem_drop hy)) (by rw [List.length_drop]; simp; omega) hla
      have e1 := vput_three (n := rowN (x :: r)) (by omega)
      have e2 := vput_three (n := x.1.toNat) (by omega)
      rw [List.length_drop] at ih
      simp only [List.length_cons] at ih
      simp only [List.length_append]
      omega
    · have ih := encRun_len f x.2 r (fun y hy => h y (by simp [hy])) (by omega) h64
      have e0 := vput_three (n := 0) (by omega)
      have e1 := vput_three (n := x.2.length) (by omega)
      have e2 := vput_three (n := alikeN last x.2) (by omega)
      simp only [List.length_append, List.length_drop]
      omega
theorem run_len {f : Nat} {cl : List Cl} (h : ∀ x ∈ cl, okCl x) (hl : cl.length ≤ 64) (hf : f ≤ 1048576) : (vput f ++ runB cl).length ≤ 6200 := by
  have h1 := encRun_len cl.length [] cl h hl (by simp)
  have e1 := vput_three (n := cl.length) (by omega)
  have e2 := vput_three (n := f) (by omega)
  unfold runB
  simp only [List.length_append]
  omega
theorem frame_len {t : List UInt8} (h : t.length ≤ 60000) : (frameB t).length ≤ t.length + 7 := by
  have e := vput_three (n := t.length) (by omega)
  unfold frameB sealB
  rw [List.length_append, vtext_len, fourB_len]
  omega
theorem seg_len {f : Nat} {cl : List Cl} (h : ∀ x ∈ cl, okCl x) (hl : cl.length ≤ 64) (hf : f ≤ 1048576) : (segB f cl).length ≤ 6207 := by
  have h1 := run_len h hl hf
  have h2 := frame_len (t := vput f ++ runB cl) (by omega)
  exact Nat.le_trans h2 (by omega)
theorem cu_len {c : Cu} (h : okCu c) (hp : ∀ p ∈ c.parts, p.many < 2 ^ 63 ∧ p.size < 2 ^ 63 ∧ p.sum.length = 32) : (cuBy c).length ≤ 3300 := by
  have h1 := ptsB_len c.parts hp
  have h2 := h.many
  have h3 := h.le
  have h4 := h.hi
  have h5 := h.trim
  have h6 := h.lo
  have h7 := vputs_len [c.lo, c.next, c.hi, c.trim, c.parts.length] (by intro n hn; simp at hn; omega)
  have h8 : (cuT c).length ≤ 3245 := by
    unfold cuT
    rw [List.length_append]
    simp only [List.length_cons, List.length_nil] at h7
    omega
  have h9 := frame_len (t := cuT c) (by omega)
  exact Nat.le_trans h9 (by omega)
def Pow (w : World) : Prop := Lib.TabIs Tryz.prog w "internal/strconv.uint64pow10" .u64 Lib.pow10Tab
theorem pow_at : Tryz.prog.globalNamed "internal/strconv.uint64pow10" = some 1 := by kernel_rfl
structure Lay (w : World) : Prop where
  kon : Kon w
  frs : Frs w
  pow : Pow w
theorem Lay.keep {S : Nat → Prop} {w w' : World} (h : Lay w) (k : Keep S w w') (hn : ∀ g, g < 10 → ¬ S g) : Lay w' where
  kon := by
    obtain ⟨cs, h1, ⟨tt, fr, h2⟩, h3, h4⟩ := h.kon
    exact ⟨cs, h1, ⟨tt, fr, k.at h2 (hn _ (by decide))⟩, Nat.le_trans h3 k.size, h4⟩
  frs := by
    obtain ⟨tt, fr, h⟩ := h.frs
    exact ⟨tt, fr, k.at h (hn _ (by decide))⟩
  pow := by
    have hp := h.pow
    unfold Pow Lib.TabIs World.var? at hp ⊢
    rw [pow_at] at hp ⊢
    simp only [Option.bind_some] at hp ⊢
    have hlt : 1 < w.heap.size := by
      rcases Nat.lt_or_ge 1 w.heap.size with h' | h'
      · exact h'
      · rw [Array.getElem?_eq_none h'] at hp; simp at hp
    rw [k.block _ hlt (hn _ (by decide))]
    exact hp
theorem Lay.keepNon {w w' : World} (h : Lay w) (k : Keep Non w w') : Lay w' := h.keep k (fun _ _ e => e)
theorem dec_dig : ∀ (n : Nat), ∀ c ∈ Lib.decDigits n, c ∈ digs := by
  intro n
  induction n using Nat.strongRecOn with
  | _ n ih =>
    intro c hc
    rw [Lib.decDigits] at hc
    split at hc
    · simp only [List.mem_singleton] at hc
      rw [hc]
      exact dig_in n ‹_›
    · rw [List.mem_append] at hc
      rcases hc with hc | hc
      · exact ih (n / 10) (by omega) c hc
      · simp only [List.mem_singleton] at hc
        rw [hc]
        exact dig_in _ (by omega)
theorem dec_len3 (n : Nat) (h : n < 1000) : 1 ≤ (Lib.decDigits n).length ∧ (Lib.decDigits n).length ≤ 3 := by
  rw [Lib.decDigits]
  split
  · simp
  · rw [List.length_append]
    have := dec_len (n / 10) (by omega)
    simp
    omega
def nameN (c : UInt8) (n : Nat) : Byt := [c] ++ Lib.repeatL [48] (8 - (Lib.decDigits n).length) ++ Lib.decDigits n
theorem name_ok (n : Nat) (h : n < 1000) : okObj (nameN 114 n) := by
  have hd := dec_len3 n h
  have hc : ∀ c ∈ nameN 114 n, c ∈ signsL ∧ c ≠ 126 := by
    intro c hc
    unfold nameN at hc
    simp only [List.mem_append, List.mem_singleton] at hc
    rcases hc with (rfl | hc) | hc
    · decide
    · exact digs_ok c (rep_in _ c hc)
    · exact digs_ok c (dec_dig n c hc)
  have hlen : (nameN 114 n).length = 9 := by unfold nameN; simp [rep_len]; omega
  exact ⟨⟨by omega, by omega, fun c e => (hc c e).1⟩, by omega, fun e => (hc 126 e).2 rfl⟩
theorem shname_ok (n : Nat) (w : World) (hn : n < 1000) (hl : Lay w) :
    Calls Tryz.prog 168 #[sv [114], .int .i64 n] w fun e w' => e = .returned (sv (nameN 114 n)) ∧ Keep Non w w' := by
  obtain ⟨h1, h2⟩ := dec_len3 n hn
  have IT : Hid (Calls Tryz.prog 121 #[.int .i64 n] w fun e w' => e = .returned (.string ⟨(Lib.decDigits n).toArray⟩) ∧ Keep Non w w') := Lib.hid (by
    refine (Tryz.strconv_Itoa n (by omega) (by omega) w hl.pow).mono ?_
    rintro e w' ⟨rfl, k, os, rfl⟩
    rw [Lib.itoa_nonneg]
    exact ⟨rfl, Keep.ofBelow (Lib.below_grow _ _ (Nat.le_refl _) _ _)⟩)
  have RP : Hid (∀ W, Calls Tryz.prog 122 #[.string ⟨#[48]⟩, .int .i64 ((8 : Int) - ((Lib.decDigits n).length : Int))] W fun e w' => e = .returned (.string ⟨(Lib.repeatL [48] (8 - (Lib.decDigits n).length)).toArray⟩) ∧ Keep Non W w') := Lib.hid (fun W => by
    rw [show (8 : Int) - ((Lib.decDigits n).length : Int) = ((8 - (Lib.decDigits n).length : Nat) : Int) by omega]
    refine (Tryz.strings_Repeat ⟨#[48]⟩ (8 - (Lib.decDigits n).length) W (by omega) (by show 1 * _ ≤ _; omega)).mono ?_
    rintro e w' ⟨rfl, b⟩
    exact ⟨rfl, keep_below b⟩)
  have hrl : (Lib.repeatL [48] (8 - (Lib.decDigits n).length)).length = 8 - (Lib.decDigits n).length := rep_len _
  have hs : (⟨(Lib.decDigits n).toArray⟩ : ByteArray).size = (Lib.decDigits n).length := by show (Lib.decDigits n).toArray.size = _; simp
  unfold sv nameN
  generalize Lib.decDigits n = d at *
  generalize Lib.repeatL [48] (8 - d.length) = a at *
  obtain ⟨A1, h1'⟩ : ∃ A1, A1 = [114] ++ a := ⟨_, rfl⟩
  have l1 : A1.length ≤ 10 := by rw [h1']; simp; omega
  have hadd1 := fun (W : World) => run_string_add_lists (P := Tryz.prog) W [114] a (by decide) (by omega)
  have hadd2 := fun (W : World) => run_string_add_lists (P := Tryz.prog) W A1 d (by omega) (by omega)
  rw [← h1'] at hadd1 ⊢
  clear h1' hl
  go_enter Tryz.func168, Tryz.ntmps168
  go_wp2_with (first
    | (go_at_call 121; refine IT.out.mono ?_; rintro e w1 ⟨rfl, k1⟩; have K1 := Lib.hid k1; clear k1)
    | (go_at_call 122; refine (RP.out _).mono ?_; rintro e w2 ⟨rfl, k2⟩; have K2 := Lib.hid k2; clear k2))
  go_ret
  exact ⟨rfl, K1.out.trans1 K2.out⟩
end Go.Proofs.YtobjlgfjfpmceaaGreatDoor
namespace Go.Proofs.YtobjlgfjfpmceaaGreatDoor
open Go.RowKit Go.Maps
def ShB (q u n : Nat) : Obj := .cells #[.pointer (some ⟨q, 0, none⟩), .pointer (some ⟨u, 0, none⟩), .int .i64 n, .bool false] 240 (0, 0)
section
variable {w : World} {b q u n : Nat}
theorem sh_0 (h : w.heap[b]? = some (ShB q u n)) : w.cell? ⟨b, 0, none⟩ = some (.pointer (some ⟨q, 0, none⟩)) := by simp [World.cell?, h, ShB]
theorem sh_1 (h : w.heap[b]? = some (ShB q u n)) : w.cell? ⟨b, 1, none⟩ = some (.pointer (some ⟨u, 0, none⟩)) := by simp [World.cell?, h, ShB]
theorem sh_2 (h : w.heap[b]? = some (ShB q u n)) : w.cell? ⟨b, 2, none⟩ = some (.int .i64 n) := by simp [World.cell?, h, ShB]
theorem sh_3 (h : w.heap[b]? = some (ShB q u n)) : w.cell? ⟨b, 3, none⟩ = some (.bool false) := by simp [World.cell?, h, ShB]
theorem sh_f (h : w.heap[b]? = some (ShB q u n)) (i : Nat) : w.frozen? ⟨b, i, none⟩ = false := by simp [World.frozen?, h, ShB]
theorem sh_set1 (h : w.heap[b]? = some (ShB q u n)) (k : Nat) : (w.setCell ⟨b, 1, none⟩ (.pointer (some ⟨k, 0, none⟩))).heap[b]? = some (ShB q k n) := blk_set h 1 _
theorem sh_set2 (h : w.heap[b]? = some (ShB q u n)) (k : Nat) : (w.setCell ⟨b, 2, none⟩ (.int .i64 k)).heap[b]? = some (ShB q u k) := blk_set h 2 _
end
structure Sh where
  X : Dk
  e : Nat
  l : Nat
  D : Un
  next : Nat
structure ShIn (F FS FU : Nat → Prop) (w : World) (p dp q u : Nat) (s : Sh) : Prop where
  blk : w.heap[p]? = some (ShB q u s.next)
  store : StoreAt FS w q dp s.X
  unit : UnAt FU w u s.e s.l s.D
  inF : F p
  inS : ∀ g, FS g → F g ∧ g ≠ p
  inU : ∀ g, FU g → F g ∧ g ≠ p
  apart : ∀ g, FS g → ¬ FU g
  low : ∀ g, F g → g < w.heap.size
def ShAt (F : Nat → Prop) (w : World) (p dp : Nat) (s : Sh) : Prop := ∃ FS FU q u, ShIn F FS FU w p dp q u s
def ShTo (F : Nat → Prop) (w : World) (p dp : Nat) (s : Sh) (w' : World) : Prop := Keep F w w' ∧ ∃ F', Sub F' F w ∧ ShAt F' w' p dp s
theorem ShIn.keep {F FS FU S : Nat → Prop} {w w' : World} {p dp q u : Nat} {s : Sh} (h : ShIn F FS FU w p dp q u s) (k : Keep S w w') (hn : ∀ g, F g → ¬ S g) : ShIn F FS FU w' p dp q u s :=
  ⟨k.at h.blk (hn _ h.inF), h.store.keep k (fun g e => hn g (h.inS g e).1), h.unit.keep k (fun g e => hn g (h.inU g e).1), h.inF, h.inS, h.inU, h.apart, fun g e => k.lt (h.low g e)⟩
theorem ShAt.keep {F S : Nat → Prop} {w w' : World} {p dp : Nat} {s : Sh} (h : ShAt F w p dp s) (k : Keep S w w') (hn : ∀ g, F g → ¬ S g) : ShAt F w' p dp s := by
  obtain ⟨FS, FU, q, u, h⟩ := h
  exact ⟨FS, FU, q, u, h.keep k hn⟩
theorem ShAt.keepNon {F : Nat → Prop} {w w' : World} {p dp : Nat} {s : Sh} (h : ShAt F w p dp s) (k : Keep Non w w') : ShAt F w' p dp s := h.keep k (fun _ _ e => e)
theorem ShAt.low {F : Nat → Prop} {w : World} {p dp : Nat} {s : Sh} (h : ShAt F w p dp s) : ∀ g, F g → g < w.heap.size := by
  obtain ⟨FS, FU, q, u, h⟩ := h
  exact h.low
theorem UnAt.low {F : Nat → Prop} {w : World} {b e l : Nat} {D : Un} (h : UnAt F w b e l D) : UnAt (fun g => F g ∧ g < w.heap.size) w b e l D := by
  obtain ⟨T, m, h⟩ := h
  exact ⟨T, m, h.blk, h.cells, ⟨⟨h.inF.1, lt_of_block h.blk⟩, ⟨h.inF.2.1, MapAt.lt h.cells⟩, fun g e => ⟨h.inF.2.2 g e, h.outT.2.2 g e⟩⟩, h.apart, h.outT, h.ep, h.lo, h.keys⟩
theorem shworks_ok {F : Nat → Prop} {p dp : Nat} {s : Sh} (w : World) (h : ShAt F w p dp s) :
    Calls Tryz.prog 164 #[.pointer (some ⟨p, 0, none⟩)] w fun r w' => r = .returned .nilIface ∧ w' = w := by
  obtain ⟨FS, FU, q, u, h⟩ := h
  have c3 := sh_3 h.blk
  clear h
  go_enter Tryz.func164, Tryz.ntmps164
  go_wp2_with fail
  go_ret
  exact ⟨rfl, rfl⟩
theorem shbroken_ok {F : Nat → Prop} {p dp : Nat} {s : Sh} (w : World) (h : ShAt F w p dp s) :
    Calls Tryz.prog 316 #[.pointer (some ⟨p, 0, none⟩)] w fun r w' => r = .returned (.bool false) ∧ w' = w := by
  obtain ⟨FS, FU, q, u, h⟩ := h
  have c3 := sh_3 h.blk
  clear h
  go_enter Tryz.func316, Tryz.ntmps316
  go_wp2_with fail
  go_ret
  exact ⟨rfl, rfl⟩
theorem shepoch_ok {F : Nat → Prop} {p dp : Nat} {s : Sh} (w : World) (h : ShAt F w p dp s) :
    Calls Tryz.prog 317 #[.pointer (some ⟨p, 0, none⟩)] w fun r w' => r = .returned (.int .i64 s.e) ∧ w' = w := by
  obtain ⟨FS, FU, q, u, h⟩ := h
  have c1 := sh_1 h.blk
  have EP := Lib.hid (unepoch_ok FU u s.e s.l s.D w h.unit)
  clear h
  go_enter Tryz.func317, Tryz.ntmps317
  go_wp2_with (go_at_call 351; refine EP.out.mono ?_; rintro r w1 ⟨rfl, e1⟩; subst e1)
  go_ret
  exact ⟨rfl, rfl⟩
theorem shunit_ok {F : Nat → Prop} {p dp : Nat} {s : Sh} (w : World) (h : ShAt F w p dp s) :
    Calls Tryz.prog 137 #[.pointer (some ⟨p, 0, none⟩)] w fun r w' => ∃ b', r = .returned (.pointer (some ⟨b', 0, none⟩)) ∧ Keep Non w w' ∧ UnAt (fun g => F g ∨ (w.heap.size ≤ g ∧ g < w'.heap.size)) w' b' s.e s.l s.D := by
  obtain ⟨FS, FU, q, u, h⟩ := h
  have c1 := sh_1 h.blk
  have EP := Lib.hid (uncopy_ok FU u s.e s.l s.D w h.unit (fun g e => h.low g (h.inU g e).1))
  have IU := Lib.hid h.inU
  clear h
  go_enter Tryz.func137, Tryz.ntmps137
  go_wp2_with (go_at_call 165; refine EP.out.mono ?_; rintro r w1 ⟨b', rfl, k1, _, u1⟩; have K1 := Lib.hid k1; have U1 := Lib.hid u1; clear k1 u1)
  go_ret
  exact ⟨_, rfl, K1.out, U1.out.mono (fun g e => by rcases e with e | e; exact .inl (IU.out g e).1; exact .inr e)⟩
theorem sdisk_ok (q p : Nat) (w : World) (h : w.heap[q]? = some (StB p)) :
    Calls Tryz.prog 209 #[.pointer (some ⟨q, 0, none⟩)] w fun r w' => r = .returned (.pointer (some ⟨p, 0, none⟩)) ∧ w' = w := by
  have c0 := st_0 h
  clear h
  go_enter Tryz.func209, Tryz.ntmps209
  go_wp2_with fail
  go_ret
  exact ⟨rfl, rfl⟩
theorem shlooks_ok {F : Nat → Prop} {p dp : Nat} {s : Sh} (w : World) (h : ShAt F w p dp s) (hd : s.X.down = false) :
    Calls Tryz.prog 154 #[.pointer (some ⟨p, 0, none⟩)] w fun r w' => r = .returned .nilIface ∧ w' = w := by
  have WK := Lib.hid (shworks_ok w h)
  obtain ⟨FS, FU, q, u, h⟩ := h
  have c0 := sh_0 h.blk
  have SD := Lib.hid (sdisk_ok q dp w h.store.blk)
  obtain ⟨G, dg, _⟩ := h.store.disk
  have DW := ddown_any G dp s.X w dg
  rw [hd] at DW
  have DN := Lib.hid DW
  clear h dg DW
  go_enter Tryz.func154, Tryz.ntmps154
  go_wp2_with (first
    | (go_at_call 164; refine WK.out.mono ?_; rintro r w1 ⟨rfl, e1⟩; subst e1)
    | (go_at_call 209; refine SD.out.mono ?_; rintro r w1 ⟨rfl, e1⟩; subst e1)
    | (go_at_call 43; refine DN.out.mono ?_; rintro r w1 ⟨rfl, e1⟩; subst e1))
  go_ret
  exact ⟨rfl, rfl⟩
theorem shread_ok {F : Nat → Prop} {p dp a : Nat} {s : Sh} (w : World) (h : ShAt F w p dp s) (hd : s.X.down = false) (ha : a ≤ 1048575) (hx : (uat s.l s.D a).2.length ≤ 100000000) :
    Calls Tryz.prog 94 #[.pointer (some ⟨p, 0, none⟩), .int .i64 s.e, .int .i64 a] w fun r w' => ∃ v, r = .returned (.tuple #[.agg #[.int .i64 (uat s.l s.D a).1, v], .nilIface]) ∧ Keep Non w w' ∧ w'.ownsRow w.heap.size 5 1 v (uat s.l s.D a).2.length ((uat s.l s.D a).2.map bv) := by
  have LK := Lib.hid (fun W (k : Keep Non w W) => shlooks_ok W (h.keepNon k) hd)
  obtain ⟨FS, FU, q, u, h⟩ := h
  have RD := Lib.hid (fun W (k : Keep Non w W) => unread_ok FU u s.e s.l a s.D W (h.unit.keepNon k) ha hx)
  have B := Lib.hid h.blk
  clear h
  generalize uat s.l s.D a = x at *
  obtain ⟨kx, lx⟩ := x
  dsimp only at hx RD ⊢
  have kA : Keep Non w (w.alloc (ClB 0 (.slice none 0 0))) := (Keep.refl _ _).alloc _
  have BA := Lib.hid (blk_new w (ClB 0 (.slice none 0 0)))
  have c1 := sh_1 (nonAt kA B.out)
  have LKA := Lib.hid (LK.out _ kA)
  have RDA := Lib.hid (RD.out _ kA)
  have KA := Lib.hid kA
  unfold ClB at c1
  dsimp only [ClB] at LKA RDA
  clear kA LK RD
  go_enter Tryz.func94, Tryz.ntmps94
  go_wp2_with (first
    | (go_at_call 154; refine LKA.out.mono ?_; rintro r w1 ⟨rfl, rfl⟩)
    | (go_at_call 155; refine RDA.out.mono ?_; rintro r w2 ⟨v2, rfl, k2, o2⟩; obtain ⟨a2, c2, rfl, _, _⟩ := ownsRow_form o2; have b2 := nonAt k2 BA.out; have d0 := cl0 b2; have d1 := cl1 b2; have f0 := clf b2 0; have f1 := clf b2 1; have q0 := cl0 (cl_set1 (cl_set0 b2 kx) (.slice a2 lx.length c2)); have q1 := cl1 (cl_set1 (cl_set0 b2 kx) (.slice a2 lx.length c2)); have K2 := Lib.hid (KA.out.trans1 k2); have O2 := Lib.hid o2; clear k2 o2 b2))
  refine bodyPost_ret (v := .tuple #[.agg #[.int .i64 kx, .slice a2 lx.length c2], .nilIface]) (by simp [results, Tryz.results94, go_sem, q0, q1]) rfl ?_
  have k3 : Keep (One w.heap.size) w2 ((w2.setCell ⟨w.heap.size, 0, none⟩ (.int .i64 kx)).setCell ⟨w.heap.size, 1, none⟩ (.slice a2 lx.length c2)) := ((Keep.refl _ _).setOne _ _).setOne _ _
  have o2 := O2.out
  rw [World.size_alloc] at o2
  exact ⟨_, rfl, K2.out.trans k3 (fun _ _ e => e) (fun g hg e => by have e' : g = w.heap.size := e; omega), ownsRow_low (ownsRow_keep o2 k3 (fun g hg e => by have e' : g = w.heap.size := e; have := (o2.lt g hg).1; omega)) (by omega)⟩
section
attribute [local go_sem ↓] hV81 hV101 hV83 hW81 hW101 hW83 hB101 hB83
theorem vopen_ok (F0 : Nat → Prop) (p : Nat) (X : Dk) (a k f : Nat) (w : World) (d0 : DiskAt F0 w p X) (hd : X.free) (hl : X.lim a k f) (ha : a ≤ 505) (hk : k + a ≤ 990) (hf : f ≤ 400000000) (ht : X.tidy) (hh : fhas X.shown (titleN 0) = false) :
    Calls Tryz.prog 8 #[.pointer (some ⟨p, 0, none⟩)] w fun e w' => ∃ b q, e = .returned (.tuple #[.pointer (some ⟨b, 0, none⟩), .nilIface]) ∧ w'.heap[b]? = some (VtB q (.slice none 0 0)) ∧ Keep F0 w w' ∧ w.heap.size ≤ b ∧ ∃ F', Sub F' F0 w ∧ ¬ F' b ∧ (∀ g, F' g → g < w'.heap.size) ∧ StoreAt F' w' q p X := by
  have SO : Hid (Calls Tryz.prog 23 #[.pointer (some ⟨p, 0, none⟩)] w fun e w' => ∃ q, e = .returned (.tuple #[.pointer (some ⟨q, 0, none⟩), .nilIface]) ∧ w.heap.size ≤ q ∧ StoreTo F0 w q p X w') := Lib.hid (by
    refine (sopen_up F0 p X a k f w d0 hd hl ha hk hf (fun n h => (ht n h).1)).mono ?_
    rintro e w' ⟨q, ns, rfl, hq, hp, t⟩
    rw [openD_tidy ht ns hp d0.str] at t
    exact ⟨q, rfl, hq, t⟩)
  have TT := Lib.hid (fun W => vtitle_ok 0 W (by omega))
  have GT := Lib.hid (fun F q W (d : StoreAt F W q p X) => sget_none F q p (titleN 0) X W d (title_ok 0 (by omega)) hd.1 hh)
  have EE := eql_err 4 4
  clear d0 hd hl ht hh
  unfold sv at TT GT
  go_enter Tryz.func8, Tryz.ntmps8
  go_wp2_with (go_at_call 23; refine SO.out.mono ?_; rintro r w1 ⟨q, rfl, hq, k1, F1, s1, d1⟩; have K1 := Lib.hid k1; have S1 := Lib.hid s1; have D1 := Lib.hid d1; clear k1 s1 d1)
  have kB : Keep Non w1 (w1.alloc (VtB q (.slice none 0 0))) := (Keep.refl _ _).alloc _
  have BB := Lib.hid (blk_new w1 (VtB q (.slice none 0 0)))
  have x1 := vt_1 (blk_new w1 (VtB q (.slice none 0 0)))
  have KB := Lib.hid kB
  have TTB := Lib.hid (TT.out (w1.alloc (VtB q (.slice none 0 0))))
  have DB := Lib.hid (fun W (k : Keep Non (w1.alloc (VtB q (.slice none 0 0))) W) => D1.out.keep (kB.trans1 k) (fun _ _ e => e))
  have VB : Hid (∀ W, Keep Non (w1.alloc (VtB q (.slice none 0 0))) W → W.cell? ⟨w1.heap.size, 1, none⟩ = some (.slice none 0 0)) := Lib.hid (fun W k => vt_1 (k.at (blk_new w1 _) (fun e => e)))
  unfold VtB at x1 TTB
  clear kB TT
  refine wp_loop_rounds 1 ?_
  rw [rounds_succ]
  go_wp2_with (first
    | (go_at_call 25; refine TTB.out.mono ?_; rintro r w2 ⟨rfl, k2⟩; have GTW := Lib.hid (GT.out F1 q w2 (DB.out _ k2)); have K2 := Lib.hid k2; clear k2)
    | (go_at_call 24; refine GTW.out.mono ?_; rintro r w3 ⟨rfl, k3⟩; have x3 := VB.out _ (K2.out.trans1 k3); have K3 := Lib.hid (K2.out.trans1 k3); clear k3)
    | (go_at_call 27; refine (chcheck_nil none 0 w3).mono ?_; rintro r w4 ⟨rfl, k4⟩; have K4 := Lib.hid (K3.out.trans1 k4); clear k4))
  go_ret2
  have k14 := KB.out.trans1 K4.out
  have kF : Keep F0 w w4 := K1.out.trans1 k14.ofNon
  have hs1 := K1.out.size
  have hs4 := k14.size
  have sB : (w1.alloc (VtB q (.slice none 0 0))).heap.size = w1.heap.size + 1 := by simp
  have hs5 := K4.out.size
  refine ⟨_, q, rfl, K4.out.at BB.out (fun e => e), kF, hs1, fun g => F1 g ∧ g < w1.heap.size, fun g x => S1.out g x.1, fun x => by have := x.2; omega, fun g x => by have := x.2; omega, ?_⟩
  have d := D1.out
  obtain ⟨b1, i1, G, dg, hg⟩ := d
  have dl : StoreAt (fun g => F1 g ∧ g < w1.heap.size) w1 q p X := ⟨b1, ⟨i1, lt_of_block b1⟩, fun g => G g ∧ g < w1.heap.size, dg.low, fun g x => ⟨⟨(hg g x.1).1, x.2⟩, (hg g x.1).2⟩⟩
  exact dl.keep k14 (fun _ _ e => e)
end
def Sh.did (s : Sh) (by' : Byt) (e l : Nat) (D : Un) : Sh := ⟨(s.X.sput (nameN 114 s.next) by').2, e, l, D, s.next + 1⟩
theorem shdo_close {F FS FU FU' FS' : Nat → Prop} {w w3 w5 w7 : World} {p dp q u b : Nat} {s : Sh} {by' : Byt} {e l : Nat} {D : Un} (h : ShIn F FS FU w p dp q u s) (k3 : Keep (fun g => FU g ∨ w.heap.size ≤ g) w w3) (u3 : UnAt FU' w3 b e l D) (s3 : ∀ g, FU' g → FU g ∨ w.heap.size ≤ g) (k35 : Keep Non w3 w5) (k56 : Keep FS w5 w7) (sf : Sub FS' FS w5) (st : StoreAt FS' w7 q dp (s.X.sput (nameN 114 s.next) by').2) (hb : w7.heap[p]? = some (ShB q u s.next)) :
    ShTo F w p dp (s.did by' e l D) ((w7.setCell ⟨p, 1, none⟩ (.pointer (some ⟨b, 0, none⟩))).setCell ⟨p, 2, none⟩ (.int .i64 (s.next + 1 : Nat))) := by
  have hp := lt_of_block h.blk
  have k37 : Keep FS w3 w7 := (k35.ofNon).trans1 k56
  have u3l := u3.low
  have u7 := u3l.keep k37 (fun g e x => by rcases s3 g e.1 with y | y; exact h.apart g x y; have := h.low g (h.inS g x).1; omega)
  have kS : Keep (One p) w7 ((w7.setCell ⟨p, 1, none⟩ (.pointer (some ⟨b, 0, none⟩))).setCell ⟨p, 2, none⟩ (.int .i64 (s.next + 1 : Nat))) := ((Keep.refl _ _).setOne _ _).setOne _ _
  have k3s := k3.size
  have k5s := k35.size
  have k7s := k56.size
  refine ⟨?_, fun g => g = p ∨ (FS' g ∧ g < w7.heap.size) ∨ (FU' g ∧ g < w3.heap.size), ?_, fun g => FS' g ∧ g < w7.heap.size, fun g => FU' g ∧ g < w3.heap.size, q, b, ?_, ?_, ?_, .inl rfl, ?_, ?_, ?_, ?_⟩
  · refine ((k3.trans (k35.ofNon (S := F)) (U := F) (fun i hi x => ?_) (fun _ _ x => x)).trans k56 (fun _ _ x => x) (fun g hg x => (h.inS g x).1)).trans kS (fun _ _ x => x) (fun g hg x => by have x' : g = p := x; rw [x']; exact h.inF)
    rcases x with x | x
    · exact (h.inU i x).1
    · omega
  · rintro g (rfl | x | x)
    · exact .inl h.inF
    · rcases sf g x.1 with y | y
      · exact .inl (h.inS g y).1
      · exact .inr (by omega)
    · rcases s3 g x.1 with y | y
      · exact .inl (h.inU g y).1
      · exact .inr y
  · exact sh_set2 (sh_set1 hb b) (s.next + 1)
  · obtain ⟨b1, b2, G, dg, hg⟩ := st
    have hlow : StoreAt (fun g => FS' g ∧ g < w7.heap.size) w7 q dp (s.X.sput (nameN 114 s.next) by').2 := ⟨b1, ⟨b2, lt_of_block b1⟩, fun g => G g ∧ g < w7.heap.size, dg.low, fun g x => ⟨⟨(hg g x.1).1, x.2⟩, (hg g x.1).2⟩⟩
    exact hlow.keep kS (fun g x y => by have y' : g = p := y; rcases sf g x.1 with z | z; exact (h.inS g z).2 y'; omega)
  · exact u7.keep kS (fun g x y => by have y' : g = p := y; rcases s3 g x.1 with z | z; exact (h.inU g z).2 y'; omega)
  · exact fun g x => ⟨.inr (.inl x), by rcases sf g x.1 with z | z; exact (h.inS g z).2; omega⟩
  · exact fun g x => ⟨.inr (.inr x), by rcases s3 g x.1 with z | z; exact (h.inU g z).2; omega⟩
  · intro g x y
    rcases sf g x.1 with z | z
    · rcases s3 g y.1 with t | t
      · exact h.apart g z t
      · have := h.low g (h.inS g z).1; omega
    · have := y.2; omega
  · rintro g (rfl | x | x)
    · have := kS.size; omega
    · have := kS.size; have := x.2; omega
    · have := kS.size; have := x.2; omega
theorem shdo_mid {F FS FU FU' : Nat → Prop} {w w2 w3 : World} {p dp q u : Nat} {s : Sh} {o o' : Obj} (h : ShIn F FS FU w p dp q u s) (k2 : Keep Non w w2) (ab : w2.heap[w.heap.size]? = some o) (k3 : Keep (fun g => FU g ∨ ((w.alloc o').heap.size ≤ g ∧ g < w2.heap.size)) w2 w3) (s3 : Sub FU' (fun g => FU g ∨ ((w.alloc o').heap.size ≤ g ∧ g < w2.heap.size)) w2) :
    Keep (fun g => FU g ∨ w.heap.size ≤ g) w w3 ∧ w3.heap[w.heap.size]? = some o ∧ w3.heap[p]? = some (ShB q u s.next) ∧ ∀ g, FU' g → FU g ∨ w.heap.size ≤ g := by
  rw [World.size_alloc] at k3 s3
  have hp := lt_of_block h.blk
  refine ⟨k2.ofNon.trans k3 (fun _ _ x => x) (fun g hg x => by rcases x with x | x; exact .inl x; exact .inr (by omega)), k3.at ab (fun x => by rcases x with x | x; have := h.low _ (h.inU _ x).1; omega; omega), k3.at (nonAt k2 h.blk) (fun x => by rcases x with x | x; exact (h.inU _ x).2 rfl; omega), fun g x => ?_⟩
  have := k2.size
  rcases s3 g x with (y | y) | y
  · exact .inl y
  · exact .inr (by omega)
  · exact .inr (by omega)
theorem shdo_ok {F : Nat → Prop} {p dp : Nat} {s : Sh} (k e a n c : Nat) (pa : Option Addr) (by' : Byt) (e2 l2 : Nat) (D2 : Un) (ka kk kf : Nat) (w : World) (h : ShAt F w p dp s) (hlay : Lay w) (hF : ∀ g, F g → 10 ≤ g)
    (hn : s.next < 1000) (hl : s.X.lim ka kk kf) (ha : ka ≤ 505) (hk : kk ≤ 990) (hf : kf ≤ 400000000) (hby : by'.length ≤ 65536) (hcode : (s.X.sput (nameN 114 s.next) by').1 = 0)
    (AP : ∀ W b F', Keep Non w W → UnAt F' W b s.e s.l s.D → Calls Tryz.prog 166 #[.pointer (some ⟨b, 0, none⟩), .agg #[.int .i64 k, .int .i64 e, .int .i64 a, .slice pa n c]] W fun r w' => (∃ n : Int, r = .returned (.tuple #[.int .i64 n, .nilIface])) ∧ UnTo F' W b e2 l2 D2 w')
    (PU : ∀ W, Keep (fun g => F g ∨ w.heap.size ≤ g) w W → Calls Tryz.prog 167 #[.agg #[.int .i64 k, .int .i64 e, .int .i64 a, .slice pa n c]] W fun r w' => ∃ v, r = .returned (.tuple #[v, .nilIface]) ∧ Keep Non W w' ∧ w'.ownsRow W.heap.size 5 1 v by'.length (by'.map bv)) :
    Calls Tryz.prog 104 #[.pointer (some ⟨p, 0, none⟩), .agg #[.int .i64 k, .int .i64 e, .int .i64 a, .slice pa n c]] w fun r w' => (∃ n : Int, r = .returned (.tuple #[.int .i64 n, .nilIface])) ∧ ShTo F w p dp (s.did by' e2 l2 D2) w' := by
  have kA : Keep Non w (w.alloc (ActB k e a (.slice pa n c))) := (Keep.refl _ _).alloc _
  have WK := Lib.hid (shworks_ok _ (h.keepNon kA))
  obtain ⟨FS, FU, q, u, h⟩ := h
  have H := Lib.hid h
  have hA := h.keep kA (fun _ _ x => x)
  have c1 := sh_1 hA.blk
  have CP := Lib.hid (uncopy_ok FU u s.e s.l s.D _ hA.unit (fun g x => hA.low g (hA.inU g x).1))
  have KA := Lib.hid kA
  have BA := Lib.hid (blk_new w (ActB k e a (.slice pa n c)))
  have HA := Lib.hid hA
  have LY := Lib.hid hlay
  have HF := Lib.hid hF
  have AP' := Lib.hid AP
  have PU' := Lib.hid PU
  have NM := Lib.hid (fun W (hl : Lay W) => shname_ok s.next W hn hl)
  have SP := Lib.hid (fun W v F0 (st : StoreAt F0 W q dp s.X) (hv : Bs W v by') (hnp : ∀ g, v.ownBlock = some g → ¬ F0 g) => sput_any F0 q dp v (nameN 114 s.next) by' s.X ka kk kf W st hl ha hk hf (name_ok _ hn) hv hby hnp)
  rw [hcode, errv_zero] at SP
  unfold ActB at c1
  dsimp only [ActB] at WK CP
  have hnx : ¬ (99999999 : Int) < (s.next : Int) := by omega
  clear h hA kA hlay hF AP PU hl hcode
  go_enter Tryz.func104, Tryz.ntmps104
  go_wp2_with (first
    | (go_at_call 164; refine WK.out.mono ?_; rintro r w1 ⟨rfl, rfl⟩)
    | (go_at_call 165; refine CP.out.mono ?_; rintro r w2 ⟨b, rfl, k2, hb2, u2⟩; have ab2 := nonAt k2 BA.out; have a0 := ac_0 ab2; have a1 := ac_1 ab2; have a2 := ac_2 ab2; have a3 := ac_3 ab2; have K2 := Lib.hid (KA.out.trans1 k2); have AB2 := Lib.hid ab2; have APW := Lib.hid (AP'.out w2 b _ K2.out u2); clear k2 hb2 u2 ab2)
    | (go_at_call 166; refine APW.out.mono ?_; rintro r w3 ⟨⟨nn, rfl⟩, k3, FU', s3, u3⟩; obtain ⟨k03, ab3, sh3, s03⟩ := shdo_mid H.out K2.out AB2.out k3 s3; have a0' := ac_0 ab3; have a1' := ac_1 ab3; have a2' := ac_2 ab3; have a3' := ac_3 ab3; have e2' := sh_2 sh3; have K3 := Lib.hid k03; have AB3 := Lib.hid ab3; have SH3 := Lib.hid sh3; have U3 := Lib.hid u3; have S03 := Lib.hid s03; have PUW := Lib.hid (PU'.out w3 (k03.mono (fun g hg x => by rcases x with x | x; exact .inl (H.out.inU g x).1; exact .inr x))); clear k3 s3 u3 k03 ab3 sh3 s03)
    | (go_at_call 167; refine PUW.out.mono ?_; rintro r w4 ⟨v4, rfl, k4, o4⟩; obtain ⟨a4, c4, rfl, _, _⟩ := ownsRow_form o4; have sh4 := nonAt k4 SH3.out; have g0 := sh_0 sh4; have g2 := sh_2 sh4; have K4 := Lib.hid k4; have O4 := Lib.hid o4; have SH4 := Lib.hid sh4; clear k4 o4 sh4))
  have LY4 : Hid (Lay w4.drew) := Lib.hid ((LY.out.keep (K3.out) (fun g hg x => by rcases x with x | x; have := HF.out g (H.out.inU g x).1; omega; have := HF.out _ H.out.inF; have := lt_of_block H.out.blk; omega)).keepNon (K4.out.trans1 (Keep.refl Non _).drew))
  have NMW : Hid (Calls Tryz.prog 168 #[.string ⟨#[114]⟩, .int .i64 s.next] w4.drew fun e w' => e = .returned (.string ⟨(nameN 114 s.next).toArray⟩) ∧ Keep Non w4.drew w') := Lib.hid (NM.out _ LY4.out)
  have ST : Hid (∀ W, Keep Non w4 W → StoreAt FS W q dp s.X) := Lib.hid (fun W kk => (H.out.store.keep (K3.out) (fun g hg x => by rcases x with x | x; exact H.out.apart g hg x; have := H.out.low g (H.out.inS g hg).1; omega)).keep (K4.out.trans1 kk) (fun _ _ x => x))
  have g0d : w4.drew.cell? ⟨p, 0, none⟩ = some (.pointer (some ⟨q, 0, none⟩)) := g0
  have g2d : w4.drew.cell? ⟨p, 2, none⟩ = some (.int .i64 s.next) := g2
  clear NM AP' PU' WK CP
  go_region_law (go_simp; first
    | (go_at_call 168; refine NMW.out.mono ?_; rintro r w5 ⟨rfl, k5'⟩; have k5 := (Keep.refl Non w4).drew.trans1 k5'; have g0e := sh_0 (nonAt k5 SH4.out); have K5 := Lib.hid k5; have SPW : Hid (Calls Tryz.prog 83 #[.pointer (some ⟨q, 0, none⟩), .string ⟨(nameN 114 s.next).toArray⟩, .slice a4 (List.length by') c4] w5 fun e w' => e = .returned .nilIface ∧ StoreTo FS w5 q dp (s.X.sput (nameN 114 s.next) by').2 w') := Lib.hid (SP.out w5 _ FS (ST.out w5 k5) ((Rd.ofOwns O4.out).keepNon k5) (fun g x y => by have := (O4.out.lt g x).1; have := H.out.low g (H.out.inS g y).1; have := K3.out.size; omega)); clear k5 k5')
    | (go_at_call 83; refine SPW.out.mono ?_; rintro r w7 ⟨rfl, k7, FS', s7, d7⟩; have b7 := k7.at (nonAt (K4.out.trans1 K5.out) SH3.out) (fun x => (H.out.inS p x).2 rfl); have i1 := sh_1 b7; have i2 := sh_2 (sh_set1 b7 b); have i1f := sh_f b7 1; have i2f := sh_f (sh_set1 b7 b) 2; have K7 := Lib.hid k7; have B7 := Lib.hid b7; have S7 := Lib.hid s7; have D7 := Lib.hid d7; clear k7 s7 d7 b7))
  all_goals go_wp2_with fail
  all_goals
    go_ret2
    exact ⟨⟨_, rfl⟩, shdo_close H.out K3.out U3.out S03.out (K4.out.trans1 K5.out) K7.out S7.out D7.out B7.out⟩
end Go.Proofs.YtobjlgfjfpmceaaGreatDoor
