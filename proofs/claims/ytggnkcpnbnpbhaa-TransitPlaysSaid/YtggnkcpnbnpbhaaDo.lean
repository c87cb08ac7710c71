/- Do, walked: an act on a line and on the document's: both answer alike, and show alike. -/
import Derived.Test.YtggnkcpnbnpbhaaOps
import Derived.Test.YtggnkcpnbnpbhaaNum
import Derived.Deep.CutBlock
namespace Go.Proofs.Ytggnkcpnbnpbhaa
open Go.RowKit
set_option linter.unusedVariables false

/-- A line beside the document's. -/
structure DoAt (F : Nat → Prop) (w : World) (p : Nat) (c : Nat → Int) (ms : List (List UInt8)) (lv : Value) : Prop where
  line : Line F w p c ms
  tight : ∀ k, F k → k < w.heap.size
  doc : Rd w lv (ms.map sv)
  fits : Fits lv
  apart : ∀ g, lv.ownBlock = some g → ¬ F g ∧ g < w.heap.size
  len : ms.length ≤ 64
  lens : ∀ m ∈ ms, m.length ≤ 65536

/-- The act's block. -/
def AcB (K I : Int) (tv : Value) : Obj := .cells #[.int .i64 K, .int .i64 I, tv] 40 (0, 0)

/-- Between the document's answer and the line's. -/
structure DMid (F : Nat → Prop) (w wo W : World) (p : Nat) (c : Nat → Int) (ms : List (List UInt8)) (c2 : Nat → Int) (ms2 : List (List UInt8)) (a2 : Option Addr) (cap2 : Nat) (K I : Int) (tv ov : Value) (T : List UInt8) : Prop where
  b4 : W.heap[w.heap.size]? = some (DcB (.slice a2 ms2.length cap2) c2)
  b5 : W.heap[w.heap.size + 1]? = some (AcB K I tv)
  b6 : W.heap[w.heap.size + 2]? = some (DcB (.slice none 0 0) (fun _ => 0))
  own : W.ownsRow (w.heap.size + 3) 5 1 ov T.length (T.map bv)
  ownlt : ∀ g, ov.ownBlock = some g → g < wo.heap.size
  keep : Keep Non w W
  line : Line F W p c ms
  doc : Rd W (.slice a2 ms2.length cap2) (ms2.map sv)
  fits : Fits (.slice a2 ms2.length cap2)
  apart : ∀ g, (Value.slice a2 ms2.length cap2).ownBlock = some g → ¬ F g ∧ g < W.heap.size ∧ (g < w.heap.size ∨ wo.heap.size ≤ g)
  size : wo.heap.size ≤ W.heap.size
  size0 : w.heap.size + 4 ≤ wo.heap.size

/-- Behind the act. -/
def DEnd (F : Nat → Prop) (w wo : World) (p : Nat) (c : Nat → Int) (ov : Value) (T : List UInt8) (wx : World) : Prop :=
  ∃ c2 ms2 a2 cap2 F2, wx.heap[w.heap.size]? = some (DcB (.slice a2 ms2.length cap2) c2) ∧ wx.heap[w.heap.size + 2]? = some (DcB (.slice none 0 0) (fun _ => 0)) ∧ wx.ownsRow (w.heap.size + 3) 5 1 ov T.length (T.map bv) ∧ Keep F w wx ∧ Line F2 wx p c2 ms2 ∧ (∀ k, F2 k → F k ∨ wo.heap.size ≤ k) ∧
    Rd wx (.slice a2 ms2.length cap2) (ms2.map sv) ∧ Fits (.slice a2 ms2.length cap2) ∧ (∀ g, (Value.slice a2 ms2.length cap2).ownBlock = some g → ¬ F2 g ∧ g < wx.heap.size ∧ (g < w.heap.size ∨ wo.heap.size ≤ g)) ∧ ms2.length ≤ 64 ∧ (∀ m ∈ ms2, m.length ≤ 65536) ∧ (∀ j, 0 ≤ c2 j ∧ c2 j ≤ c j + 64)

theorem DMid.fin {F : Nat → Prop} {w wo W w2 : World} {p : Nat} {c : Nat → Int} {ms : List (List UInt8)} {c2 : Nat → Int} {ms2 : List (List UInt8)} {a2 : Option Addr} {cap2 : Nat} {K I : Int} {tv ov : Value} {T : List UInt8}
    (h : DMid F w wo W p c ms c2 ms2 a2 cap2 K I tv ov T) (hF : ∀ k, F k → k < w.heap.size) (hk : Keep F W w2) (hl : ∃ F2, Line F2 w2 p c2 ms2 ∧ ∀ k, F2 k → F k ∨ W.heap.size ≤ k) (hlen : ms2.length ≤ 64) (hlens : ∀ m ∈ ms2, m.length ≤ 65536) (hc : ∀ j, 0 ≤ c2 j ∧ c2 j ≤ c j + 64) :
    DEnd F w wo p c ov T w2 := by
  obtain ⟨F2, hl, hF2⟩ := hl
  have s0 := h.size0
  have s1 := h.size
  refine ⟨c2, ms2, a2, cap2, F2, hk.at h.b4 (fun e => by have := hF _ e; omega), hk.at h.b6 (fun e => by have := hF _ e; omega), ownsRow_keep h.own hk (fun g e e2 => by have := hF _ e2; have := (h.own.lt g e).1; omega), h.keep.trans hk (fun _ _ e => e.elim) (fun _ _ e => e), hl, fun k e => ?_, h.doc.keep hk (fun g e e2 => (h.apart g e).1 e2), h.fits, fun g e => ⟨fun e2 => ?_, hk.lt (h.apart g e).2.1, (h.apart g e).2.2⟩, hlen, hlens, hc⟩
  · rcases hF2 k e with e | e
    · exact .inl e
    · exact .inr (by omega)
  · rcases hF2 g e2 with e3 | e3
    · exact (h.apart g e).1 e3
    · have := (h.apart g e).2.1
      omega

theorem dc_all {w : World} {b : Nat} {v : Value} {c : Nat → Int} (h : w.heap[b]? = some (DcB v c)) (v2 : Value) (c2 : Nat → Int) :
    (((((w.setCell ⟨b, 0, none⟩ v2).setCell ⟨b, 1, none⟩ (.int .i64 (c2 0))).setCell ⟨b, 2, none⟩ (.int .i64 (c2 1))).setCell ⟨b, 3, none⟩ (.int .i64 (c2 2))).setCell ⟨b, 4, none⟩ (.int .i64 (c2 3))).heap[b]? = some (DcB v2 c2) :=
  blk_set (blk_set (blk_set (blk_set (blk_set h 0 v2) 1 _) 2 _) 3 _) 4 _

theorem dc_keep (w : World) (b : Nat) (v2 : Value) (c2 : Nat → Int) :
    Keep (One b) w (((((w.setCell ⟨b, 0, none⟩ v2).setCell ⟨b, 1, none⟩ (.int .i64 (c2 0))).setCell ⟨b, 2, none⟩ (.int .i64 (c2 1))).setCell ⟨b, 3, none⟩ (.int .i64 (c2 2))).setCell ⟨b, 4, none⟩ (.int .i64 (c2 3))) :=
  ((((((Keep.refl (One b) w).setOne _ _).setOne _ _).setOne _ _).setOne _ _).setOne _ _)

/-- The document's answer is laid into the first block. -/
theorem DMid.store {F : Nat → Prop} {w wo W w1 : World} {p : Nat} {c : Nat → Int} {ms : List (List UInt8)} {c0 : Nat → Int} {ms0 : List (List UInt8)} {a0 : Option Addr} {cap0 : Nat} {K I : Int} {tv ov : Value} {T : List UInt8}
    (h : DMid F w wo W p c ms c0 ms0 a0 cap0 K I tv ov T) (hF : ∀ k, F k → k < w.heap.size) (hk : Keep Non W w1) {c2 : Nat → Int} {ms2 : List (List UInt8)} {a2 : Option Addr} {cap2 : Nat} (hr : Rd w1 (.slice a2 ms2.length cap2) (ms2.map sv)) (hf : Fits (.slice a2 ms2.length cap2))
    (ho : ∀ g, (Value.slice a2 ms2.length cap2).ownBlock = some g → (Value.slice a0 ms0.length cap0).ownBlock = some g ∨ (W.heap.size ≤ g ∧ g < w1.heap.size)) :
    DMid F w wo (((((w1.setCell ⟨w.heap.size, 0, none⟩ (.slice a2 ms2.length cap2)).setCell ⟨w.heap.size, 1, none⟩ (.int .i64 (c2 0))).setCell ⟨w.heap.size, 2, none⟩ (.int .i64 (c2 1))).setCell ⟨w.heap.size, 3, none⟩ (.int .i64 (c2 2))).setCell ⟨w.heap.size, 4, none⟩ (.int .i64 (c2 3))) p c ms c2 ms2 a2 cap2 K I tv ov T := by
  have kd := dc_keep w1 w.heap.size (.slice a2 ms2.length cap2) c2
  have kw := hk.size
  have s0 := h.size0
  have s1 := h.size
  have kk := kd.size
  have hap : ∀ g, (Value.slice a2 ms2.length cap2).ownBlock = some g → ¬ F g ∧ g < w1.heap.size ∧ (g < w.heap.size ∨ wo.heap.size ≤ g) := fun g e => by
    rcases ho g e with e | ⟨e1, e2⟩
    · have := h.apart g e
      exact ⟨this.1, by omega, this.2.2⟩
    · exact ⟨fun e3 => by have := hF g e3; omega, e2, .inr (by omega)⟩
  refine ⟨dc_all (hk.at h.b4 (fun e => e)) _ _, kd.at (hk.at h.b5 (fun e => e)) (fun e => by unfold One at e; omega), kd.at (hk.at h.b6 (fun e => e)) (fun e => by unfold One at e; omega), ownsRow_keep (ownsRow_keep h.own hk (fun _ _ e => e)) kd (fun g e e2 => by have := (h.own.lt g e).1; unfold One at e2; omega), h.ownlt,
    (h.keep.trans1 hk).trans kd (fun _ _ e => e) (fun i hi e => by unfold One at e; show False; omega), (h.line.keep hk (fun _ _ e => e)).keep kd (fun g e e2 => by have := hF g e; unfold One at e2; omega), hr.keep kd (fun g e e2 => by have := (hap g e).2.2; unfold One at e2; omega), hf, fun g e => ⟨(hap g e).1, kd.lt (hap g e).2.1, (hap g e).2.2⟩, by omega, s0⟩

theorem DMid.move {F : Nat → Prop} {w wo W W' : World} {p : Nat} {c : Nat → Int} {ms : List (List UInt8)} {c2 : Nat → Int} {ms2 : List (List UInt8)} {a2 : Option Addr} {cap2 : Nat} {K I : Int} {tv ov : Value} {T : List UInt8}
    (h : DMid F w wo W p c ms c2 ms2 a2 cap2 K I tv ov T) (hk : Keep Non W W') : DMid F w wo W' p c ms c2 ms2 a2 cap2 K I tv ov T :=
  ⟨hk.at h.b4 (fun e => e), hk.at h.b5 (fun e => e), hk.at h.b6 (fun e => e), ownsRow_keep h.own hk (fun _ _ e => e), h.ownlt, h.keep.trans1 hk, h.line.keep hk (fun _ _ e => e), h.doc.keepNon hk, h.fits, fun g e => ⟨(h.apart g e).1, hk.lt (h.apart g e).2.1, (h.apart g e).2.2⟩, Nat.le_trans h.size hk.size, h.size0⟩

/-- .. where the line answers first, and the document's answer is laid behind it. -/
theorem DMid.finD {F : Nat → Prop} {w wo W w3 : World} {p : Nat} {c : Nat → Int} {ms : List (List UInt8)} {c0 : Nat → Int} {ms0 : List (List UInt8)} {a0 : Option Addr} {cap0 : Nat} {K I : Int} {tv ov : Value} {T : List UInt8}
    (h : DMid F w wo W p c ms c0 ms0 a0 cap0 K I tv ov T) (hF : ∀ k, F k → k < w.heap.size) (hk : Keep F W w3) {c2 : Nat → Int} {ms2 : List (List UInt8)} {a2 : Option Addr} {cap2 : Nat} (hl : ∃ F2, Line F2 w3 p c2 ms2 ∧ ∀ k, F2 k → F k ∨ W.heap.size ≤ k)
    (hr : Rd W (.slice a2 ms2.length cap2) (ms2.map sv)) (hf : Fits (.slice a2 ms2.length cap2)) (ha : ∀ g, (Value.slice a2 ms2.length cap2).ownBlock = some g → ¬ F g ∧ g < W.heap.size ∧ (g < w.heap.size ∨ wo.heap.size ≤ g))
    (hlen : ms2.length ≤ 64) (hlens : ∀ m ∈ ms2, m.length ≤ 65536) (hc : ∀ j, 0 ≤ c2 j ∧ c2 j ≤ c j + 64) :
    DEnd F w wo p c ov T (((((w3.setCell ⟨w.heap.size, 0, none⟩ (.slice a2 ms2.length cap2)).setCell ⟨w.heap.size, 1, none⟩ (.int .i64 (c2 0))).setCell ⟨w.heap.size, 2, none⟩ (.int .i64 (c2 1))).setCell ⟨w.heap.size, 3, none⟩ (.int .i64 (c2 2))).setCell ⟨w.heap.size, 4, none⟩ (.int .i64 (c2 3))).drew := by
  obtain ⟨F2, hl, hF2⟩ := hl
  have s0 := h.size0
  have s1 := h.size
  have s3 := hk.size
  have kd := dc_keep w3 w.heap.size (.slice a2 ms2.length cap2) c2
  have hn2 : ∀ q, F2 q → q < w.heap.size ∨ W.heap.size ≤ q := fun q e => by
    rcases hF2 q e with e | e
    · exact .inl (hF q e)
    · exact .inr e
  refine ⟨c2, ms2, a2, cap2, F2, blk_drew (dc_all (hk.at h.b4 (fun e => by have := hF _ e; omega)) _ _), blk_drew (kd.at (hk.at h.b6 (fun e => by have := hF _ e; omega)) (fun e => by unfold One at e; omega)), ownsRow_keep (ownsRow_keep h.own hk (fun g e e2 => by have := hF _ e2; have := (h.own.lt g e).1; omega)) kd.drew (fun g e e2 => by have := (h.own.lt g e).1; unfold One at e2; omega),
    ((h.keep.trans hk (fun _ _ e => e.elim) (fun _ _ e => e)).trans kd.drew (fun _ _ e => e) (fun i hi e => by unfold One at e; exact absurd e (by omega))), hl.keep kd.drew (fun g e e2 => by have := hn2 g e; unfold One at e2; omega), fun k e => ?_, (hr.keep hk (fun g e e2 => (ha g e).1 e2)).keep kd.drew (fun g e e2 => by have := (ha g e).2.2; unfold One at e2; omega), hf, fun g e => ⟨fun e2 => ?_, ?_, (ha g e).2.2⟩, hlen, hlens, hc⟩
  · rcases hF2 k e with e | e
    · exact .inl e
    · exact .inr (by omega)
  · rcases hF2 g e2 with e3 | e3
    · exact (ha g e).1 e3
    · have := (ha g e).2.1
      omega
  · have := (ha g e).2.1
    have := kd.drew.size
    omega

theorem onC_le (E : Int) (c : Nat → Int) (i : Nat) (h : ∀ j, 0 ≤ c j) : ∀ j, 0 ≤ onC E c i j ∧ onC E c i j ≤ c j + 64 := by
  intro j
  have := h j
  unfold onC
  split
  · exact bump_le i h j
  · omega

theorem send_len {ms : List (List UInt8)} {l : List UInt8} (h : ms.length ≤ 64) (hl : ∀ m ∈ ms, m.length ≤ 65536) : (onM (sendE ms l) (ms ++ [l]) ms).length ≤ 64 ∧ ∀ m ∈ onM (sendE ms l) (ms ++ [l]) ms, m.length ≤ 65536 := by
  unfold onM sendE
  by_cases h1 : 65536 < l.length
  · simp only [if_pos h1]
    exact ⟨h, hl⟩
  · by_cases h2 : 64 ≤ ms.length
    · simp only [if_neg h1, if_pos h2]
      exact ⟨h, hl⟩
    · simp only [if_neg h1, if_neg h2]
      refine ⟨by simp; omega, fun m hm => ?_⟩
      rcases List.mem_append.1 hm with hm | hm
      · exact hl m hm
      · simp at hm
        subst hm
        omega

theorem drop_len {ms : List (List UInt8)} {i : Int} (h : ms.length ≤ 64) (hl : ∀ m ∈ ms, m.length ≤ 65536) : (onM (dropE ms i) (ms.eraseIdx i.toNat) ms).length ≤ 64 ∧ ∀ m ∈ onM (dropE ms i) (ms.eraseIdx i.toNat) ms, m.length ≤ 65536 := by
  unfold onM
  split
  · exact ⟨by rw [List.length_eraseIdx]; split <;> omega, fun m hm => hl m (List.mem_of_mem_eraseIdx hm)⟩
  · exact ⟨h, hl⟩

theorem msgAt_len {ms : List (List UInt8)} {i : Int} (hl : ∀ m ∈ ms, m.length ≤ 65536) : (msgAt ms i).length ≤ 65536 := by
  rcases place_cases ms i with hI | ⟨h0, h1, l, hl1, hl2⟩
  · unfold msgAt
    rw [if_neg (by omega)]
    simp
  · unfold msgAt
    rw [if_pos ⟨h0, h1⟩, List.getD_eq_getElem?_getD, hl1]
    exact hl l hl2

theorem twice_len {ms : List (List UInt8)} {i : Int} (h : ms.length ≤ 64) (hl : ∀ m ∈ ms, m.length ≤ 65536) : (onM (twiceE ms i) (ms ++ [msgAt ms i]) ms).length ≤ 64 ∧ ∀ m ∈ onM (twiceE ms i) (ms ++ [msgAt ms i]) ms, m.length ≤ 65536 := by
  unfold onM twiceE
  by_cases h1 : 0 ≤ i ∧ i < (ms.length : Int)
  · by_cases h2 : 64 ≤ ms.length
    · simp only [if_pos h1, if_pos h2]
      exact ⟨h, hl⟩
    · simp only [if_pos h1, if_neg h2]
      refine ⟨by simp; omega, fun m hm => ?_⟩
      rcases List.mem_append.1 hm with hm | hm
      · exact hl m hm
      · simp at hm
        subst hm
        exact msgAt_len hl
  · simp only [if_neg h1]
    exact ⟨h, hl⟩

theorem rclear_at (a : Option Addr) (n cap : Nat) (c : Nat → Int) (w : World) (hc0 : 0 ≤ c 2) (hc1 : c 2 ≤ 1000000) (hn : n ≤ 64) :
    Calls Try.prog 29 #[.agg #[.slice a n cap, .int .i64 (c 0), .int .i64 (c 1), .int .i64 (c 2), .int .i64 (c 3)]] w fun e w' => e = .returned (.agg #[.slice none 0 0, .int .i64 (addc c 2 n 0), .int .i64 (addc c 2 n 1), .int .i64 (addc c 2 n 2), .int .i64 (addc c 2 n 3)]) ∧ Keep Non w w' := by
  refine (rclear_any a n cap c w hc0 hc1 hn).mono ?_
  rintro e w' ⟨rfl, hk⟩
  exact ⟨by simp [addc], hk⟩

theorem addc_le (c : Nat → Int) (i n : Nat) (h : ∀ j, 0 ≤ c j) (hn : n ≤ 64) : ∀ j, 0 ≤ addc c i n j ∧ addc c i n j ≤ c j + 64 := by
  intro j
  have := h j
  unfold addc
  split <;> omega

theorem dmid_start {F : Nat → Prop} {w w1 : World} {p : Nat} {c : Nat → Int} {ms : List (List UInt8)} {a : Option Addr} {cap : Nat} {K I : Int} {tv : Value} {T : List UInt8} {oa : Option Addr} {oc : Nat} {row : Option Nat} (h : DoAt F w p c ms (.slice a ms.length cap))
    (hg : ((((w.alloc (DcB (.slice a ms.length cap) c)).alloc (AcB K I tv)).alloc (DcB (.slice none 0 0) (fun _ => 0))).alloc (.cells #[] 5)).grownBy w1 row) (hrow : row = some (w.heap.size + 3))
    (ho : w1.ownsRow (w.heap.size + 3) 5 1 (.slice oa T.length oc) T.length (T.map bv)) : DMid F w w1 w1 p c ms c ms a cap K I tv (.slice oa T.length oc) T := by
  subst hrow
  have k4 : Keep Non w ((((w.alloc (DcB (.slice a ms.length cap) c)).alloc (AcB K I tv)).alloc (DcB (.slice none 0 0) (fun _ => 0))).alloc (.cells #[] 5)) := ((((Keep.refl _ _).alloc _).alloc _).alloc _).alloc _
  have k1 : Keep Non w w1 := k4.grown hg (fun k e => .inr (by injection e with e; omega))
  have sz := hg.size
  simp at sz
  have b4 : w1.heap[w.heap.size]? = some (DcB (.slice a ms.length cap) c) := (World.grownBy.block hg w.heap.size (by simp; omega) (by simp)).trans (blk_alloc (blk_alloc (blk_alloc (blk_new _ _) _) _) _)
  have b5 : w1.heap[w.heap.size + 1]? = some (AcB K I tv) := by
    have := blk_new (w.alloc (DcB (.slice a ms.length cap) c)) (AcB K I tv)
    rw [World.size_alloc] at this
    exact (World.grownBy.block hg (w.heap.size + 1) (by simp) (by simp)).trans (blk_alloc (blk_alloc this _) _)
  have b6 : w1.heap[w.heap.size + 2]? = some (DcB (.slice none 0 0) (fun _ => 0)) := by
    have := blk_new ((w.alloc (DcB (.slice a ms.length cap) c)).alloc (AcB K I tv)) (DcB (.slice none 0 0) (fun _ => 0))
    rw [World.size_alloc, World.size_alloc] at this
    exact (World.grownBy.block hg (w.heap.size + 2) (by simp) (by simp)).trans (blk_alloc this _)
  exact ⟨b4, b5, b6, ho, fun g e => (ho.lt g e).2, k1, h.line.keep k1 (fun _ _ e => e), h.doc.keepNon k1, h.fits, fun g e => ⟨(h.apart g e).1, k1.lt (h.apart g e).2, .inl (h.apart g e).2⟩, Nat.le_refl _, by omega⟩

section
variable {w : World} {b : Nat} {K I : Int} {tv : Value}
theorem ac_0 (h : w.heap[b]? = some (AcB K I tv)) : w.cell? ⟨b, 0, none⟩ = some (.int .i64 K) := by simp [World.cell?, h, AcB]
theorem ac_1 (h : w.heap[b]? = some (AcB K I tv)) : w.cell? ⟨b, 1, none⟩ = some (.int .i64 I) := by simp [World.cell?, h, AcB]
theorem ac_2 (h : w.heap[b]? = some (AcB K I tv)) : w.cell? ⟨b, 2, none⟩ = some tv := by simp [World.cell?, h, AcB]
end

/-- What an act comes to. -/
def Did (F : Nat → Prop) (w : World) (p : Nat) (c : Nat → Int) (e : Ending) (w' : World) : Prop :=
  ∃ c2 ms2 a2 cap2 F2, e = .returned (.tuple #[.agg #[.slice a2 (ms2 : List (List UInt8)).length cap2, .int .i64 (c2 0), .int .i64 (c2 1), .int .i64 (c2 2), .int .i64 (c2 3)], .bool true]) ∧ Keep F w w' ∧ DoAt F2 w' p c2 ms2 (.slice a2 ms2.length cap2) ∧ (∀ k, F2 k → F k ∨ w.heap.size ≤ k) ∧ (∀ j, 0 ≤ c2 j ∧ c2 j ≤ c j + 64)

set_option maxRecDepth 100000 in
set_option maxHeartbeats 6400000 in
theorem do_any (F : Nat → Prop) (p : Nat) (c : Nat → Int) (ms : List (List UInt8)) (a : Option Addr) (cap : Nat) (K I : Int) (ta : Option Addr) (tc : Nat) (T : List UInt8) (w : World) (h : DoAt F w p c ms (.slice a ms.length cap)) (hb : Bs w (.slice ta T.length tc) T) (hT : T.length ≤ 66000) (hc : ∀ j, 0 ≤ c j ∧ c j ≤ 900000) :
    Calls Try.prog 18 #[.pointer (some ⟨p, 0, none⟩), .agg #[.slice a ms.length cap, .int .i64 (c 0), .int .i64 (c 1), .int .i64 (c 2), .int .i64 (c 3)], .agg #[.int .i64 K, .int .i64 I, .slice ta T.length tc]] w (Did F w p c) := by
  obtain ⟨i0, hi0, hz0, hz1, hz2⟩ := info_parts infoU8
  have H := Lib.hid h
  have HB := Lib.hid hb
  have HC := Lib.hid hc
  have HF := Lib.hid h.tight
  have LS := Lib.hid h.lens
  have hlen := h.len
  have k3 : Keep Non w ((((w.alloc (DcB (.slice a ms.length cap) c)).alloc (AcB K I (.slice ta T.length tc))).alloc (DcB (.slice none 0 0) (fun _ => 0))).alloc (.cells #[] 5)) := ((((Keep.refl _ _).alloc _).alloc _).alloc _).alloc _
  have K3 := Lib.hid k3
  have hown : Hid (((((w.alloc (DcB (.slice a ms.length cap) c)).alloc (AcB K I (.slice ta T.length tc))).alloc (DcB (.slice none 0 0) (fun _ => 0))).alloc (.cells #[] 5)).ownsRow (w.heap.size + 3) 5 1 (.slice (some ⟨w.heap.size + 3, 0, none⟩) 0 0) 0 []) := by
    have := World.ownsRow_made (((w.alloc (DcB (.slice a ms.length cap) c)).alloc (AcB K I (.slice ta T.length tc))).alloc (DcB (.slice none 0 0) (fun _ => 0))) (e := 5) (size := 1) (base := w.heap.size + 3) #[] 0 (by simp) (by decide) rfl
    rw [World.size_alloc, World.size_alloc, World.size_alloc] at this
    exact Lib.hid this
  clear h hb k3 hc
  go_enter Try.func18, Try.ntmps18
  go_upto_region 2 with (at_builtin; refine wpList_append_rd rfl (.tmp 18) (.tmp 20) 26 rfl (w.heap.size + 3) 5 i0 (.int .u8 0) 1 Try.underlying26 hi0 hz0 hz1 hz2 rfl (.slice (some ⟨w.heap.size + 3, 0, none⟩) 0 0) 0 [] rfl hown.out (.slice ta T.length tc) rfl (T.map bv) (by exact HB.out.keepNon K3.out) (oneCell_bytes T) (by unfold maxLen; simp; omega) (by simp; omega) (by simp <;> omega) ?_; intro v1 w1 ho hg hp; rw [Nat.zero_add, List.nil_append, List.length_map] at ho; obtain ⟨oa, oc, rfl, _, _⟩ := ownsRow_form ho; have M0 := Lib.hid (dmid_start (K := K) (I := I) (tv := .slice ta T.length tc) H.out hg rfl ho); clear ho hg hp)
  have c0 := ac_0 M0.out.b5
  have c1 := ac_1 M0.out.b5
  have c2 := ac_2 M0.out.b5
  have d0 := dc_0 M0.out.b4
  have d1 := dc_1 M0.out.b4
  have d2 := dc_2 M0.out.b4
  have d3 := dc_3 M0.out.b4
  have d4 := dc_4 M0.out.b4
  have cv := conv_bs w1 (.slice ta T.length tc) T (HB.out.keepNon M0.out.keep)
  go_upto_block 0 with fail
  go_cut [9] (fun s9 wx => s9 = .bool true ∧ DEnd F w w1 p c (.slice oa T.length oc) T wx)
  case first =>
    go_wp2_with fail
    · refine (rsend_any a cap c ms T _ M0.out.doc M0.out.fits hlen (HC.out 0).1 (by have := (HC.out 0).2; omega)).mono ?_
      rintro e w2 ⟨a2, cap2, rfl, hk2, hr2, hf2, ho2⟩
      have g4 := hk2.at M0.out.b4 (fun e => e)
      have x0 := dc_0 g4
      have x1 := dc_1 g4
      have x2 := dc_2 g4
      have x3 := dc_3 g4
      have x4 := dc_4 g4
      have xf := dc_f g4
      have K2 := Lib.hid hk2
      have R2 := Lib.hid hr2
      have F2 := Lib.hid hf2
      have O2 := Lib.hid ho2
      clear g4 hk2 hr2 hf2 ho2 c0 c2 d0 d1 d2 d3 d4 cv
      go_upto_region 8 with fail
      refine abs_world (fun W => DMid F w w1 W p c ms (onC (sendE ms T) c 0) (onM (sendE ms T) (ms ++ [T]) ms) a2 cap2 K I (.slice ta T.length tc) (.slice oa T.length oc) T) (M0.out.store HF.out K2.out R2.out F2.out O2.out) ?_
      intro W hW
      have M2 := Lib.hid hW
      clear hW
      go_wp2_with fail
      refine (lsend_any F p c ms oa oc T _ M2.out.line (Rd.ofOwns M2.out.own) hlen (HC.out 0).1 (by have := (HC.out 0).2; omega)).mono ?_
      rintro e w3 ⟨rfl, hk3, hl3⟩
      have D3 := Lib.hid (M2.out.fin HF.out hk3 hl3 (send_len hlen LS.out).1 (send_len hlen LS.out).2 (onC_le _ c 0 fun j => (HC.out j).1))
      clear hk3 hl3
      go_wp2_with fail
      refine (num_any _ _).mono ?_
      rintro e w4 ⟨rfl, rfl⟩
      go_wp2_with fail
      go_meet
      exact ⟨by simp, D3.out⟩
    · refine (rdrop1_any a cap c ms I _ M0.out.doc M0.out.fits hlen (HC.out 1).1 (by have := (HC.out 1).2; omega)).mono ?_
      rintro e w2 ⟨a2, cap2, rfl, hk2, hr2, hf2, ho2⟩
      have s12 := hk2.size
      have s01 := M0.out.size0
      have M1 := Lib.hid ((M0.out.move hk2).move ((Keep.refl Non w2).alloc (DcB (.slice a2 (onM (dropE ms I) (ms.eraseIdx I.toNat) ms).length cap2) (onC (dropE ms I) c 1))))
      have N2 := Lib.hid (blk_new w2 (DcB (.slice a2 (onM (dropE ms I) (ms.eraseIdx I.toNat) ms).length cap2) (onC (dropE ms I) c 1)))
      have R2 := Lib.hid (hr2.keepNon ((Keep.refl Non w2).alloc (DcB (.slice a2 (onM (dropE ms I) (ms.eraseIdx I.toNat) ms).length cap2) (onC (dropE ms I) c 1))))
      have F2 := Lib.hid hf2
      have A2 : Hid (∀ g, (Value.slice a2 (onM (dropE ms I) (ms.eraseIdx I.toNat) ms).length cap2).ownBlock = some g → ¬ F g ∧ g < (w2.alloc (DcB (.slice a2 (onM (dropE ms I) (ms.eraseIdx I.toNat) ms).length cap2) (onC (dropE ms I) c 1))).heap.size ∧ (g < w.heap.size ∨ w1.heap.size ≤ g)) := Lib.hid fun g e => by
        rcases ho2 g e with e | ⟨e1, e2⟩
        · have := M0.out.apart g e
          exact ⟨this.1, by simp; omega, this.2.2⟩
        · exact ⟨fun e3 => by have := HF.out g e3; omega, by simp; omega, .inr e1⟩
      have y1 : (w2.alloc (.cells #[.slice a2 (onM (dropE ms I) (ms.eraseIdx I.toNat) ms).length cap2, .int .i64 (onC (dropE ms I) c 1 0), .int .i64 (onC (dropE ms I) c 1 1), .int .i64 (onC (dropE ms I) c 1 2), .int .i64 (onC (dropE ms I) c 1 3)] 50)).cell? ⟨w.heap.size + 1, 1, none⟩ = some (.int .i64 I) := ac_1 M1.out.b5
      have hne1 : ¬ w.heap.size + 1 = w2.heap.size := by omega
      have hne2 : ¬ w2.heap.size = w.heap.size + 1 := by omega
      clear hk2 hr2 hf2 ho2 c0 c1 c2 d0 d1 d2 d3 d4 cv
      go_wp2_with fail
      refine (del_any F p c ms I _ (by exact M1.out.line) hlen LS.out (HC.out 1).1 (by have := (HC.out 1).2; omega)).mono ?_
      rintro e w3 ⟨v, rfl, hk3, hl3, hb3, ho3⟩
      have D3 := Lib.hid (M1.out.finD HF.out hk3 hl3 R2.out F2.out A2.out (drop_len hlen LS.out).1 (drop_len hlen LS.out).2 (onC_le _ c 1 fun j => (HC.out j).1))
      have g4 := hk3.at M1.out.b4 (fun e => by have := HF.out _ e; omega)
      have n3 := hk3.at N2.out (fun e => by have := HF.out _ e; omega)
      have N3 := Lib.hid n3
      have z0 := dc_0 n3
      have z1 := dc_1 n3
      have z2 := dc_2 n3
      have z3 := dc_3 n3
      have z4 := dc_4 n3
      have x0 := dc_0 g4
      have x1 := dc_1 g4
      have x2 := dc_2 g4
      have x3 := dc_3 g4
      have x4 := dc_4 g4
      have xf := dc_f g4
      have cw := conv_bs w3 v (msgAt ms I) hb3
      have cw2 := conv_bs w3.drew v (msgAt ms I) (hb3.keepNon (Keep.refl _ _).drew)
      have cw3 := Lib.hid (conv_bs (((((w3.setCell ⟨w.heap.size, 0, none⟩ (.slice a2 (onM (dropE ms I) (ms.eraseIdx I.toNat) ms).length cap2)).setCell ⟨w.heap.size, 1, none⟩ (.int .i64 (onC (dropE ms I) c 1 0))).setCell ⟨w.heap.size, 2, none⟩ (.int .i64 (onC (dropE ms I) c 1 1))).setCell ⟨w.heap.size, 3, none⟩ (.int .i64 (onC (dropE ms I) c 1 2))).setCell ⟨w.heap.size, 4, none⟩ (.int .i64 (onC (dropE ms I) c 1 3))).drew v (msgAt ms I) (hb3.keep (dc_keep w3 w.heap.size _ _).drew (fun g e e2 => by have := ho3 g e; simp at this; unfold One at e2; omega)))
      have SA : Hid (w3.drew.cell? ⟨w2.heap.size, 0, none⟩ = some (.slice a2 (onM (dropE ms I) (ms.eraseIdx I.toNat) ms).length cap2) ∧ w3.drew.cell? ⟨w2.heap.size, 1, none⟩ = some (.int .i64 (onC (dropE ms I) c 1 0)) ∧ w3.drew.cell? ⟨w2.heap.size, 2, none⟩ = some (.int .i64 (onC (dropE ms I) c 1 1)) ∧ w3.drew.cell? ⟨w2.heap.size, 3, none⟩ = some (.int .i64 (onC (dropE ms I) c 1 2)) ∧ w3.drew.cell? ⟨w2.heap.size, 4, none⟩ = some (.int .i64 (onC (dropE ms I) c 1 3)) ∧ (convert 26 9 v).run Try.prog w3.drew = .ok (.string ⟨(msgAt ms I).toArray⟩) w3.drew) := Lib.hid ⟨z0, z1, z2, z3, z4, cw2⟩
      have SB : Hid ((((((w3.setCell ⟨w.heap.size, 0, none⟩ (.slice a2 (onM (dropE ms I) (ms.eraseIdx I.toNat) ms).length cap2)).setCell ⟨w.heap.size, 1, none⟩ (.int .i64 (onC (dropE ms I) c 1 0))).setCell ⟨w.heap.size, 2, none⟩ (.int .i64 (onC (dropE ms I) c 1 1))).setCell ⟨w.heap.size, 3, none⟩ (.int .i64 (onC (dropE ms I) c 1 2))).setCell ⟨w.heap.size, 4, none⟩ (.int .i64 (onC (dropE ms I) c 1 3))).drew.cell? ⟨w2.heap.size, 0, none⟩ = some (.slice a2 (onM (dropE ms I) (ms.eraseIdx I.toNat) ms).length cap2) ∧ (((((w3.setCell ⟨w.heap.size, 0, none⟩ (.slice a2 (onM (dropE ms I) (ms.eraseIdx I.toNat) ms).length cap2)).setCell ⟨w.heap.size, 1, none⟩ (.int .i64 (onC (dropE ms I) c 1 0))).setCell ⟨w.heap.size, 2, none⟩ (.int .i64 (onC (dropE ms I) c 1 1))).setCell ⟨w.heap.size, 3, none⟩ (.int .i64 (onC (dropE ms I) c 1 2))).setCell ⟨w.heap.size, 4, none⟩ (.int .i64 (onC (dropE ms I) c 1 3))).drew.cell? ⟨w2.heap.size, 1, none⟩ = some (.int .i64 (onC (dropE ms I) c 1 0)) ∧ (((((w3.setCell ⟨w.heap.size, 0, none⟩ (.slice a2 (onM (dropE ms I) (ms.eraseIdx I.toNat) ms).length cap2)).setCell ⟨w.heap.size, 1, none⟩ (.int .i64 (onC (dropE ms I) c 1 0))).setCell ⟨w.heap.size, 2, none⟩ (.int .i64 (onC (dropE ms I) c 1 1))).setCell ⟨w.heap.size, 3, none⟩ (.int .i64 (onC (dropE ms I) c 1 2))).setCell ⟨w.heap.size, 4, none⟩ (.int .i64 (onC (dropE ms I) c 1 3))).drew.cell? ⟨w2.heap.size, 2, none⟩ = some (.int .i64 (onC (dropE ms I) c 1 1)) ∧ (((((w3.setCell ⟨w.heap.size, 0, none⟩ (.slice a2 (onM (dropE ms I) (ms.eraseIdx I.toNat) ms).length cap2)).setCell ⟨w.heap.size, 1, none⟩ (.int .i64 (onC (dropE ms I) c 1 0))).setCell ⟨w.heap.size, 2, none⟩ (.int .i64 (onC (dropE ms I) c 1 1))).setCell ⟨w.heap.size, 3, none⟩ (.int .i64 (onC (dropE ms I) c 1 2))).setCell ⟨w.heap.size, 4, none⟩ (.int .i64 (onC (dropE ms I) c 1 3))).drew.cell? ⟨w2.heap.size, 3, none⟩ = some (.int .i64 (onC (dropE ms I) c 1 2)) ∧ (((((w3.setCell ⟨w.heap.size, 0, none⟩ (.slice a2 (onM (dropE ms I) (ms.eraseIdx I.toNat) ms).length cap2)).setCell ⟨w.heap.size, 1, none⟩ (.int .i64 (onC (dropE ms I) c 1 0))).setCell ⟨w.heap.size, 2, none⟩ (.int .i64 (onC (dropE ms I) c 1 1))).setCell ⟨w.heap.size, 3, none⟩ (.int .i64 (onC (dropE ms I) c 1 2))).setCell ⟨w.heap.size, 4, none⟩ (.int .i64 (onC (dropE ms I) c 1 3))).drew.cell? ⟨w2.heap.size, 4, none⟩ = some (.int .i64 (onC (dropE ms I) c 1 3)) ∧ (convert 26 9 v).run Try.prog ((((((w3.setCell ⟨w.heap.size, 0, none⟩ (.slice a2 (onM (dropE ms I) (ms.eraseIdx I.toNat) ms).length cap2)).setCell ⟨w.heap.size, 1, none⟩ (.int .i64 (onC (dropE ms I) c 1 0))).setCell ⟨w.heap.size, 2, none⟩ (.int .i64 (onC (dropE ms I) c 1 1))).setCell ⟨w.heap.size, 3, none⟩ (.int .i64 (onC (dropE ms I) c 1 2))).setCell ⟨w.heap.size, 4, none⟩ (.int .i64 (onC (dropE ms I) c 1 3))).drew) = .ok (.string ⟨(msgAt ms I).toArray⟩) ((((((w3.setCell ⟨w.heap.size, 0, none⟩ (.slice a2 (onM (dropE ms I) (ms.eraseIdx I.toNat) ms).length cap2)).setCell ⟨w.heap.size, 1, none⟩ (.int .i64 (onC (dropE ms I) c 1 0))).setCell ⟨w.heap.size, 2, none⟩ (.int .i64 (onC (dropE ms I) c 1 1))).setCell ⟨w.heap.size, 3, none⟩ (.int .i64 (onC (dropE ms I) c 1 2))).setCell ⟨w.heap.size, 4, none⟩ (.int .i64 (onC (dropE ms I) c 1 3))).drew)) := by
        have z := (dc_keep w3 w.heap.size (.slice a2 (onM (dropE ms I) (ms.eraseIdx I.toNat) ms).length cap2) (onC (dropE ms I) c 1)).drew.at N3.out (fun e => by unfold One at e; omega)
        exact Lib.hid ⟨dc_0 z, dc_1 z, dc_2 z, dc_3 z, dc_4 z, cw3.out⟩
      have hne : ¬ w2.heap.size = w.heap.size := by omega
      clear g4 n3 hk3 hl3 hb3 ho3
      go_wp2_with fail
      go_region_held3 (fun W => W.cell? ⟨w2.heap.size, 0, none⟩ = some (.slice a2 (onM (dropE ms I) (ms.eraseIdx I.toNat) ms).length cap2) ∧ W.cell? ⟨w2.heap.size, 1, none⟩ = some (.int .i64 (onC (dropE ms I) c 1 0)) ∧ W.cell? ⟨w2.heap.size, 2, none⟩ = some (.int .i64 (onC (dropE ms I) c 1 1)) ∧ W.cell? ⟨w2.heap.size, 3, none⟩ = some (.int .i64 (onC (dropE ms I) c 1 2)) ∧ W.cell? ⟨w2.heap.size, 4, none⟩ = some (.int .i64 (onC (dropE ms I) c 1 3)) ∧ (convert 26 9 v).run Try.prog W = .ok (.string ⟨(msgAt ms I).toArray⟩) W)
        (first | (with_reducible exact SA.out) | (with_reducible exact SB.out))
        (first
        | (go_at_call 24; refine (num_any _ _).mono ?_; rintro e w' ⟨rfl, rfl⟩))
      all_goals go_wp2_with fail
      all_goals go_meet
      exact ⟨by simp, D3.out⟩
    · refine (rdrop2_any a cap c ms I _ M0.out.doc M0.out.fits hlen (HC.out 2).1 (by have := (HC.out 2).2; omega)).mono ?_
      rintro e w2 ⟨a2, cap2, rfl, hk2, hr2, hf2, ho2⟩
      have g4 := hk2.at M0.out.b4 (fun e => e)
      have x0 := dc_0 g4
      have x1 := dc_1 g4
      have x2 := dc_2 g4
      have x3 := dc_3 g4
      have x4 := dc_4 g4
      have xf := dc_f g4
      have K2 := Lib.hid hk2
      have R2 := Lib.hid hr2
      have F2 := Lib.hid hf2
      have O2 := Lib.hid ho2
      clear g4 hk2 hr2 hf2 ho2 c0 c2 d0 d1 d2 d3 d4 cv
      go_upto_region 15 with fail
      refine abs_world (fun W => DMid F w w1 W p c ms (onC (dropE ms I) c 2) (onM (dropE ms I) (ms.eraseIdx I.toNat) ms) a2 cap2 K I (.slice ta T.length tc) (.slice oa T.length oc) T) (M0.out.store HF.out K2.out R2.out F2.out O2.out) ?_
      intro W hW
      have y1 := ac_1 hW.b5
      have M2 := Lib.hid hW
      clear hW c1
      go_wp2_with fail
      refine (lose_any F p c ms I _ M2.out.line hlen (HC.out 2).1 (by have := (HC.out 2).2; omega)).mono ?_
      rintro e w3 ⟨rfl, hk3, hl3⟩
      have D3 := Lib.hid (M2.out.fin HF.out hk3 hl3 (drop_len hlen LS.out).1 (drop_len hlen LS.out).2 (onC_le _ c 2 fun j => (HC.out j).1))
      clear hk3 hl3
      go_wp2_with fail
      refine (num_any _ _).mono ?_
      rintro e w4 ⟨rfl, rfl⟩
      go_wp2_with fail
      go_meet
      exact ⟨by simp, D3.out⟩
    · refine (rtwice_any a cap c ms I _ M0.out.doc M0.out.fits hlen (HC.out 3).1 (by have := (HC.out 3).2; omega)).mono ?_
      rintro e w2 ⟨a2, cap2, rfl, hk2, hr2, hf2, ho2⟩
      have g4 := hk2.at M0.out.b4 (fun e => e)
      have x0 := dc_0 g4
      have x1 := dc_1 g4
      have x2 := dc_2 g4
      have x3 := dc_3 g4
      have x4 := dc_4 g4
      have xf := dc_f g4
      have K2 := Lib.hid hk2
      have R2 := Lib.hid hr2
      have F2 := Lib.hid hf2
      have O2 := Lib.hid ho2
      clear g4 hk2 hr2 hf2 ho2 c0 c2 d0 d1 d2 d3 d4 cv
      go_upto_region 18 with fail
      refine abs_world (fun W => DMid F w w1 W p c ms (onC (twiceE ms I) c 3) (onM (twiceE ms I) (ms ++ [msgAt ms I]) ms) a2 cap2 K I (.slice ta T.length tc) (.slice oa T.length oc) T) (M0.out.store HF.out K2.out R2.out F2.out O2.out) ?_
      intro W hW
      have y1 := ac_1 hW.b5
      have M2 := Lib.hid hW
      clear hW c1
      go_wp2_with fail
      refine (twice_any F p c ms I _ M2.out.line hlen (HC.out 3).1 (by have := (HC.out 3).2; omega)).mono ?_
      rintro e w3 ⟨rfl, hk3, hl3⟩
      have D3 := Lib.hid (M2.out.fin HF.out hk3 hl3 (twice_len hlen LS.out).1 (twice_len hlen LS.out).2 (onC_le _ c 3 fun j => (HC.out j).1))
      clear hk3 hl3
      go_wp2_with fail
      refine (num_any _ _).mono ?_
      rintro e w4 ⟨rfl, rfl⟩
      go_wp2_with fail
      go_meet
      exact ⟨by simp, D3.out⟩
    · refine (rclear_at a ms.length cap c _ (HC.out 2).1 (by have := (HC.out 2).2; omega) hlen).mono ?_
      rintro e w2 ⟨rfl, hk2⟩
      have hr2 : Rd w2 (.slice none ([] : List (List UInt8)).length 0) (([] : List (List UInt8)).map sv) := Rd.nil _
      have hf2 : Fits (.slice none ([] : List (List UInt8)).length 0) := ⟨none, 0, 0, rfl, Nat.le_refl _, Nat.zero_le _⟩
      have ho2 : ∀ g, (Value.slice none ([] : List (List UInt8)).length 0).ownBlock = some g → (Value.slice a ms.length cap).ownBlock = some g ∨ (w1.heap.size ≤ g ∧ g < w2.heap.size) := fun g e => by simp [Value.ownBlock] at e
      have g4 := hk2.at M0.out.b4 (fun e => e)
      have x0 := dc_0 g4
      have x1 := dc_1 g4
      have x2 := dc_2 g4
      have x3 := dc_3 g4
      have x4 := dc_4 g4
      have xf := dc_f g4
      have K2 := Lib.hid hk2
      have R2 := Lib.hid hr2
      have F2 := Lib.hid hf2
      have O2 := Lib.hid ho2
      clear g4 hk2 hr2 hf2 ho2 c0 c2 d0 d1 d2 d3 d4 cv
      have st := M0.out.store (c2 := addc c 2 ms.length) (ms2 := []) (a2 := none) (cap2 := 0) HF.out K2.out R2.out F2.out O2.out
      rw [List.length_nil] at st
      have ST := Lib.hid st
      clear st
      go_upto_region 5 with fail
      refine abs_world (fun W => DMid F w w1 W p c ms (addc c 2 ms.length) [] none 0 K I (.slice ta T.length tc) (.slice oa T.length oc) T) (by exact ST.out) ?_
      intro W hW
      have M2 := Lib.hid hW
      clear hW c1
      go_wp2_with fail
      refine (clear_any F p c ms _ M2.out.line (HC.out 2).1 (HC.out 2).2 hlen).mono ?_
      rintro e w3 ⟨rfl, hk3, hl3⟩
      have D3 := Lib.hid (M2.out.fin HF.out hk3 ⟨F, hl3, fun _ h => .inl h⟩ (by simp) (fun m hm => by simp at hm) (addc_le c 2 ms.length (fun j => (HC.out j).1) hlen))
      clear hk3 hl3
      go_wp2_with fail
      go_meet
      exact ⟨rfl, D3.out⟩
  case rest =>
    obtain ⟨rfl, c2', ms2, a2, cap2, F2, e4, e6, eo, ek, el, eF, er, ef, ea, elen, elens, ec⟩ := hcut
    have hxo : ∀ k, (Value.slice oa T.length oc).ownBlock = some k → w.heap.size + 3 ≤ k ∧ k < w1.heap.size := fun k e => ⟨(eo.lt k e).1, M0.out.ownlt k e⟩
    have E4 := Lib.hid e4
    have E6 := Lib.hid e6
    have EO := Lib.hid eo
    have EK := Lib.hid ek
    have EL := Lib.hid el
    have EF := Lib.hid eF
    have ER := Lib.hid er
    have EFT := Lib.hid ef
    have EA := Lib.hid ea
    have ELS := Lib.hid elens
    have EC := Lib.hid ec
    have HX := Lib.hid hxo
    clear e4 e6 eo ek el eF er ef ea elens ec hxo c0 c1 c2 d0 d1 d2 d3 d4 cv
    go_wp2_with fail
    go_loopw [113] (fun i wr => ∃ k : Nat, k ≤ T.length ∧ i = .int .i64 k ∧ Keep (fun q => (Value.slice oa T.length oc).ownBlock = some q) wc wr ∧ RestB wr oa T k) (fun i _ => T.length - (intOf i).toNat)
    case atStart => exact ⟨0, Nat.zero_le _, rfl, Keep.refl _ _, restB_start EO.out 0⟩
    case round =>
      obtain ⟨k, hk, rfl, hkp, hrest⟩ := hrel
      have KP := Lib.hid hkp
      have RB := Lib.hid hrest
      clear hkp hrest
      by_cases hlt : k < T.length
      · obtain ⟨g', cur, rfl, hg, hcc⟩ := RB.out hlt
        have x2 : wr.cell? ⟨g', k, none⟩ = some (.int .u8 (T[k].toNat : Int)) := by
          have := hcc k (Nat.le_refl _) hlt
          simp [World.cell?, hg, this, bv]
        have f2 : wr.frozen? ⟨g', k, none⟩ = false := by simp [World.frozen?, hg]
        have HG := Lib.hid hg
        have HCC := Lib.hid hcc
        have hlt2 : (k : Int) < (T.length : Int) := by omega
        clear hg hcc
        go_wp2_with fail
        go_roundw
        case rel =>
          refine ⟨k + 1, by omega, by go_num, KP.out.setCell (p := ⟨g', k, none⟩) (.inl rfl) _, fun h => ⟨g', _, rfl, blk_set HG.out k _, fun j hj1 hj2 => ?_⟩⟩
          rw [Array.getElem?_setIfInBounds, if_neg (by omega)]
          exact HCC.out j (by omega) hj2
        case measure => simp [intOf]; omega
      · have e : k = T.length := by omega
        subst e
        have s0 := M0.out.size0
        have b4 := KP.out.at E4.out (fun h => by have := HX.out _ h; omega)
        have b6 := KP.out.at E6.out (fun h => by have := HX.out _ h; omega)
        have hline := EL.out.keep KP.out (fun g h e => by
          have := HX.out _ e
          rcases EF.out g h with h | h
          · have := HF.out g h
            omega
          · omega)
        have hdoc := ER.out.keep KP.out (fun g e e2 => by
          have h1 := (EA.out g e).2.2
          have h2 := HX.out g e2
          omega)
        have d0 := dc_0 b4
        have d1 := dc_1 b4
        have d2 := dc_2 b4
        have d3 := dc_3 b4
        have d4 := dc_4 b4
        have B4 := Lib.hid b4
        have B6 := Lib.hid b6
        have LN := Lib.hid hline
        have DC := Lib.hid hdoc
        have SA : Hid (wr.drew.cell? ⟨w.heap.size, 0, none⟩ = some (.slice a2 ms2.length cap2) ∧ wr.drew.cell? ⟨w.heap.size, 1, none⟩ = some (.int .i64 (c2' 0)) ∧ wr.drew.cell? ⟨w.heap.size, 2, none⟩ = some (.int .i64 (c2' 1)) ∧ wr.drew.cell? ⟨w.heap.size, 3, none⟩ = some (.int .i64 (c2' 2)) ∧ wr.drew.cell? ⟨w.heap.size, 4, none⟩ = some (.int .i64 (c2' 3))) := Lib.hid ⟨d0, d1, d2, d3, d4⟩
        clear b4 b6 hline hdoc
        go_wp2_with fail
        go_region_held3 (fun W => W.cell? ⟨w.heap.size, 0, none⟩ = some (.slice a2 ms2.length cap2) ∧ W.cell? ⟨w.heap.size, 1, none⟩ = some (.int .i64 (c2' 0)) ∧ W.cell? ⟨w.heap.size, 2, none⟩ = some (.int .i64 (c2' 1)) ∧ W.cell? ⟨w.heap.size, 3, none⟩ = some (.int .i64 (c2' 2)) ∧ W.cell? ⟨w.heap.size, 4, none⟩ = some (.int .i64 (c2' 3)))
          (first | (with_reducible exact SA.out) | (with_reducible exact SB.out) | (with_reducible exact SC.out))
          (first
          | (go_at_call 17; refine (shows_true F2 p c2' ms2 a2 cap2 _ (by exact LN.out.keep (S := Non) (Keep.refl _ _).drew (fun _ _ e => e)) (by exact DC.out.keepNon (Keep.refl _ _).drew) (fun m hm => by have := ELS.out m hm; omega) elen).mono ?_; rintro e w6 ⟨rfl, hk6⟩; have b4 := hk6.at (blk_drew B4.out) (fun e => e); have b6 := hk6.at (blk_drew B6.out) (fun e => e); have SB : Hid (w6.cell? ⟨w.heap.size, 0, none⟩ = some (.slice a2 ms2.length cap2) ∧ w6.cell? ⟨w.heap.size, 1, none⟩ = some (.int .i64 (c2' 0)) ∧ w6.cell? ⟨w.heap.size, 2, none⟩ = some (.int .i64 (c2' 1)) ∧ w6.cell? ⟨w.heap.size, 3, none⟩ = some (.int .i64 (c2' 2)) ∧ w6.cell? ⟨w.heap.size, 4, none⟩ = some (.int .i64 (c2' 3))) := Lib.hid ⟨dc_0 b4, dc_1 b4, dc_2 b4, dc_3 b4, dc_4 b4⟩; have z0 := dc_0 b6; have z1 := dc_1 b6; have z2 := dc_2 b6; have z3 := dc_3 b6; have z4 := dc_4 b6; have zf := dc_f b6; have kd := dc_keep w6 (w.heap.size + 2) (.slice a2 ms2.length cap2) c2'; have SC : Hid ((((((w6.setCell ⟨w.heap.size + 2, 0, none⟩ (.slice a2 ms2.length cap2)).setCell ⟨w.heap.size + 2, 1, none⟩ (.int .i64 (c2' 0))).setCell ⟨w.heap.size + 2, 2, none⟩ (.int .i64 (c2' 1))).setCell ⟨w.heap.size + 2, 3, none⟩ (.int .i64 (c2' 2))).setCell ⟨w.heap.size + 2, 4, none⟩ (.int .i64 (c2' 3))).cell? ⟨w.heap.size, 0, none⟩ = some (.slice a2 ms2.length cap2) ∧ (((((w6.setCell ⟨w.heap.size + 2, 0, none⟩ (.slice a2 ms2.length cap2)).setCell ⟨w.heap.size + 2, 1, none⟩ (.int .i64 (c2' 0))).setCell ⟨w.heap.size + 2, 2, none⟩ (.int .i64 (c2' 1))).setCell ⟨w.heap.size + 2, 3, none⟩ (.int .i64 (c2' 2))).setCell ⟨w.heap.size + 2, 4, none⟩ (.int .i64 (c2' 3))).cell? ⟨w.heap.size, 1, none⟩ = some (.int .i64 (c2' 0)) ∧ (((((w6.setCell ⟨w.heap.size + 2, 0, none⟩ (.slice a2 ms2.length cap2)).setCell ⟨w.heap.size + 2, 1, none⟩ (.int .i64 (c2' 0))).setCell ⟨w.heap.size + 2, 2, none⟩ (.int .i64 (c2' 1))).setCell ⟨w.heap.size + 2, 3, none⟩ (.int .i64 (c2' 2))).setCell ⟨w.heap.size + 2, 4, none⟩ (.int .i64 (c2' 3))).cell? ⟨w.heap.size, 2, none⟩ = some (.int .i64 (c2' 1)) ∧ (((((w6.setCell ⟨w.heap.size + 2, 0, none⟩ (.slice a2 ms2.length cap2)).setCell ⟨w.heap.size + 2, 1, none⟩ (.int .i64 (c2' 0))).setCell ⟨w.heap.size + 2, 2, none⟩ (.int .i64 (c2' 1))).setCell ⟨w.heap.size + 2, 3, none⟩ (.int .i64 (c2' 2))).setCell ⟨w.heap.size + 2, 4, none⟩ (.int .i64 (c2' 3))).cell? ⟨w.heap.size, 3, none⟩ = some (.int .i64 (c2' 2)) ∧ (((((w6.setCell ⟨w.heap.size + 2, 0, none⟩ (.slice a2 ms2.length cap2)).setCell ⟨w.heap.size + 2, 1, none⟩ (.int .i64 (c2' 0))).setCell ⟨w.heap.size + 2, 2, none⟩ (.int .i64 (c2' 1))).setCell ⟨w.heap.size + 2, 3, none⟩ (.int .i64 (c2' 2))).setCell ⟨w.heap.size + 2, 4, none⟩ (.int .i64 (c2' 3))).cell? ⟨w.heap.size, 4, none⟩ = some (.int .i64 (c2' 3))) := Lib.hid (by have z := kd.at b4 (fun e => by unfold One at e; omega); exact ⟨dc_0 z, dc_1 z, dc_2 z, dc_3 z, dc_4 z⟩); have F6 := Five.of b6; have HK6 := Lib.hid hk6; have KD := Lib.hid kd; have Z6 := Lib.hid F6; clear hk6 b4 b6 kd F6))
        all_goals go_wp2_with fail
        have k0 : (w6.setCell ⟨w.heap.size + 1 + 1, 0, none⟩ (.slice a2 ms2.length cap2)).cell? ⟨w.heap.size + 1 + 1, 0, none⟩ = some (.slice a2 ms2.length cap2) := Z6.out.get (by omega) _
        have k1 : ((w6.setCell ⟨w.heap.size + 1 + 1, 0, none⟩ (.slice a2 ms2.length cap2)).setCell ⟨w.heap.size + 1 + 1, 1, none⟩ (.int .i64 (c2' 0))).cell? ⟨w.heap.size + 1 + 1, 1, none⟩ = some (.int .i64 (c2' 0)) := (Z6.out.set 0 (.slice a2 ms2.length cap2)).get (by omega) _
        have k2 : (((w6.setCell ⟨w.heap.size + 1 + 1, 0, none⟩ (.slice a2 ms2.length cap2)).setCell ⟨w.heap.size + 1 + 1, 1, none⟩ (.int .i64 (c2' 0))).setCell ⟨w.heap.size + 1 + 1, 2, none⟩ (.int .i64 (c2' 1))).cell? ⟨w.heap.size + 1 + 1, 2, none⟩ = some (.int .i64 (c2' 1)) := ((Z6.out.set 0 (.slice a2 ms2.length cap2)).set 1 (.int .i64 (c2' 0))).get (by omega) _
        have k3 : ((((w6.setCell ⟨w.heap.size + 1 + 1, 0, none⟩ (.slice a2 ms2.length cap2)).setCell ⟨w.heap.size + 1 + 1, 1, none⟩ (.int .i64 (c2' 0))).setCell ⟨w.heap.size + 1 + 1, 2, none⟩ (.int .i64 (c2' 1))).setCell ⟨w.heap.size + 1 + 1, 3, none⟩ (.int .i64 (c2' 2))).cell? ⟨w.heap.size + 1 + 1, 3, none⟩ = some (.int .i64 (c2' 2)) := (((Z6.out.set 0 (.slice a2 ms2.length cap2)).set 1 (.int .i64 (c2' 0))).set 2 (.int .i64 (c2' 1))).get (by omega) _
        have k4 : (((((w6.setCell ⟨w.heap.size + 1 + 1, 0, none⟩ (.slice a2 ms2.length cap2)).setCell ⟨w.heap.size + 1 + 1, 1, none⟩ (.int .i64 (c2' 0))).setCell ⟨w.heap.size + 1 + 1, 2, none⟩ (.int .i64 (c2' 1))).setCell ⟨w.heap.size + 1 + 1, 3, none⟩ (.int .i64 (c2' 2))).setCell ⟨w.heap.size + 1 + 1, 4, none⟩ (.int .i64 (c2' 3))).cell? ⟨w.heap.size + 1 + 1, 4, none⟩ = some (.int .i64 (c2' 3)) := ((((Z6.out.set 0 (.slice a2 ms2.length cap2)).set 1 (.int .i64 (c2' 0))).set 2 (.int .i64 (c2' 1))).set 3 (.int .i64 (c2' 2))).get (by omega) _
        have KT : Keep Non wr w6 := ⟨HK6.out.os, HK6.out.tape, HK6.out.output, HK6.out.size, HK6.out.block⟩
        have sx1 := KP.out.size
        have sx2 := KT.size
        have sx3 := KD.out.size
        have hF2 : ∀ g, F2 g → g < w.heap.size ∨ w1.heap.size ≤ g := fun g h => by
          rcases EF.out g h with h | h
          · exact .inl (HF.out g h)
          · exact .inr h
        have KW : Keep F w (((((w6.setCell ⟨w.heap.size + 1 + 1, 0, none⟩ (.slice a2 ms2.length cap2)).setCell ⟨w.heap.size + 1 + 1, 1, none⟩ (.int .i64 (c2' 0))).setCell ⟨w.heap.size + 1 + 1, 2, none⟩ (.int .i64 (c2' 1))).setCell ⟨w.heap.size + 1 + 1, 3, none⟩ (.int .i64 (c2' 2))).setCell ⟨w.heap.size + 1 + 1, 4, none⟩ (.int .i64 (c2' 3))) := ((EK.out.trans KP.out (fun _ _ h => h) (fun i hi h => by have := HX.out i h; omega)).trans KT (fun _ _ h => h) (fun _ _ h => h.elim)).trans KD.out (fun _ _ h => h) (fun i hi h => by unfold One at h; omega)
        have LW := ((LN.out.keep KT (fun _ _ e => e)).keep KD.out (fun g h e => by have := hF2 g h; unfold One at e; omega)).tight
        have DW := (DC.out.keepNon KT).keep KD.out (fun g e e2 => by have := (EA.out g e).2.2; unfold One at e2; omega)
        refine bodyPost_ret (v := .tuple #[.agg #[.slice a2 ms2.length cap2, .int .i64 (c2' 0), .int .i64 (c2' 1), .int .i64 (c2' 2), .int .i64 (c2' 3)], .bool true]) (by simp [results, Try.results18, go_sem, k0, k1, k2, k3, k4]) rfl ?_
        exact ⟨c2', ms2, a2, cap2, _, rfl, KW, ⟨LW, fun k h => h.2, DW, EFT.out, fun g e => ⟨fun h => (EA.out g e).1 h.1, by have := (EA.out g e).2.1; exact Nat.lt_of_lt_of_le this (Nat.le_trans sx1 (Nat.le_trans sx2 sx3))⟩, elen, ELS.out⟩, fun k h => by rcases EF.out k h.1 with h | h; exact .inl h; exact .inr (by omega), EC.out⟩

end Go.Proofs.Ytggnkcpnbnpbhaa
