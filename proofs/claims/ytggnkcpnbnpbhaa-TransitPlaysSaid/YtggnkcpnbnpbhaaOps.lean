/- The line's answers and the document's, side by side: both come to the same plain numbers and lists. -/
import Derived.Test.YtggnkcpnbnpbhaaShows
import Derived.Test.YtggnkcpnbnpbhaaDocDrop1
import Derived.Test.YtggnkcpnbnpbhaaDocDrop2
import Derived.Test.YtggnkcpnbnpbhaaDocTwice
import Derived.Test.YtggnkcpnbnpbhaaDocRest
import Derived.Test.YtggnkcpnbnpbhaaSums
namespace Go.Proofs.Ytggnkcpnbnpbhaa
open Go.RowKit
set_option linter.unusedVariables false

/-- The errors' numbers. -/
def sendE (ms : List (List UInt8)) (l : List UInt8) : Int := if 65536 < l.length then 3 else if 64 ≤ ms.length then 5 else 0
def dropE (ms : List (List UInt8)) (i : Int) : Int := if 0 ≤ i ∧ i < (ms.length : Int) then 0 else 1
def twiceE (ms : List (List UInt8)) (i : Int) : Int := if 0 ≤ i ∧ i < (ms.length : Int) then (if 64 ≤ ms.length then 5 else 0) else 1
/-- The counts, the messages, where all went well and where not. -/
def onC (E : Int) (c : Nat → Int) (j : Nat) : Nat → Int := if E = 0 then bump c j else c
def onM (E : Int) (a b : List (List UInt8)) : List (List UInt8) := if E = 0 then a else b
/-- The message at a place. -/
def msgAt (ms : List (List UInt8)) (i : Int) : List UInt8 := if 0 ≤ i ∧ i < (ms.length : Int) then ms.getD i.toNat [] else []

/-- What the line's answers come to. -/
def LDone (F : Nat → Prop) (w : World) (p : Nat) (E : Int) (c2 : Nat → Int) (ms2 : List (List UInt8)) (e : Ending) (w' : World) : Prop :=
  e = .returned (errv E) ∧ Keep F w w' ∧ ∃ F2, Line F2 w' p c2 ms2 ∧ ∀ k, F2 k → F k ∨ w.heap.size ≤ k

theorem Line.long {F : Nat → Prop} {w : World} {p : Nat} {c : Nat → Int} {ms : List (List UInt8)} (h : Line F w p c ms) : ∃ F2, Line F2 w p c ms ∧ ∀ k, F2 k → F k ∨ w.heap.size ≤ k := ⟨F, h, fun _ h => .inl h⟩

theorem lsend_any (F : Nat → Prop) (p : Nat) (c : Nat → Int) (ms : List (List UInt8)) (a : Option Addr) (cap : Nat) (l : List UInt8) (w : World) (h : Line F w p c ms) (hb : Bs w (.slice a l.length cap) l) (hm : ms.length ≤ 64) (hc0 : 0 ≤ c 0) (hc1 : c 0 ≤ 1000000) :
    Calls Try.prog 8 #[.pointer (some ⟨p, 0, none⟩), .slice a l.length cap] w (LDone F w p (sendE ms l) (onC (sendE ms l) c 0) (onM (sendE ms l) (ms ++ [l]) ms)) := by
  unfold sendE
  by_cases h1 : 65536 < l.length
  · rw [if_pos h1]
    refine (send_long p a l.length cap w h1).mono ?_
    rintro e w' ⟨rfl, rfl⟩
    exact ⟨rfl, Keep.refl _ _, h.long⟩
  · rw [if_neg h1]
    by_cases h2 : 64 ≤ ms.length
    · rw [if_pos h2]
      refine (send_full F p c ms _ l w h hb (by omega) h2).mono ?_
      rintro e w' ⟨rfl, hk⟩
      exact ⟨rfl, hk.ofNon, F, h.keep hk (fun _ _ e => e), fun _ h => .inl h⟩
    · rw [if_neg h2]
      refine (send_ok F p c ms _ l w h hb (by omega) (by omega) hc0 hc1).mono ?_
      rintro e w' ⟨rfl, hk, hl⟩
      exact ⟨rfl, hk, _, hl, fun _ h => h⟩

theorem lose_any (F : Nat → Prop) (p : Nat) (c : Nat → Int) (ms : List (List UInt8)) (i : Int) (w : World) (h : Line F w p c ms) (hm : ms.length ≤ 64) (hc0 : 0 ≤ c 2) (hc1 : c 2 ≤ 1000000) :
    Calls Try.prog 13 #[.pointer (some ⟨p, 0, none⟩), .int .i64 i] w (LDone F w p (dropE ms i) (onC (dropE ms i) c 2) (onM (dropE ms i) (ms.eraseIdx i.toNat) ms)) := by
  unfold dropE
  rcases place_cases ms i with hI | ⟨h0, h1, l, hl, _⟩
  · rw [if_neg (by omega)]
    refine (lose_no F p c ms i w h hI).mono ?_
    rintro e w' ⟨rfl, rfl⟩
    exact ⟨rfl, Keep.refl _ _, h.long⟩
  · rw [if_pos ⟨h0, h1⟩]
    refine (lose_at F p c ms i l w h h0 hl hc0 hc1 hm).mono ?_
    rintro e w' ⟨rfl, hk, hl'⟩
    exact ⟨rfl, hk, hl'.long.imp fun _ h => ⟨h.1, fun k e => by rcases h.2 k e with h | h; exact .inl h; exact .inr (by have := hk.size; omega)⟩⟩

theorem twice_any (F : Nat → Prop) (p : Nat) (c : Nat → Int) (ms : List (List UInt8)) (i : Int) (w : World) (h : Line F w p c ms) (hm : ms.length ≤ 64) (hc0 : 0 ≤ c 3) (hc1 : c 3 ≤ 1000000) :
    Calls Try.prog 14 #[.pointer (some ⟨p, 0, none⟩), .int .i64 i] w (LDone F w p (twiceE ms i) (onC (twiceE ms i) c 3) (onM (twiceE ms i) (ms ++ [msgAt ms i]) ms)) := by
  unfold twiceE
  rcases place_cases ms i with hI | ⟨h0, h1, l, hl, _⟩
  · rw [if_neg (by omega)]
    refine (twice_no F p c ms i w h hI).mono ?_
    rintro e w' ⟨rfl, rfl⟩
    exact ⟨rfl, Keep.refl _ _, h.long⟩
  · rw [if_pos ⟨h0, h1⟩]
    have e1 : msgAt ms i = l := by unfold msgAt; rw [if_pos ⟨h0, h1⟩, List.getD_eq_getElem?_getD, hl]; rfl
    rw [e1]
    by_cases h2 : 64 ≤ ms.length
    · rw [if_pos h2]
      refine (twice_fullAt F p c ms i w h h0 h1 h2).mono ?_
      rintro e w' ⟨rfl, hk⟩
      exact ⟨rfl, hk.ofNon, F, h.keep hk (fun _ _ e => e), fun _ h => .inl h⟩
    · rw [if_neg h2]
      refine (twice_at F p c ms i l w h h0 hl hc0 hc1 (by omega)).mono ?_
      rintro e w' ⟨rfl, hk, hl'⟩
      exact ⟨rfl, hk, _, hl', fun _ h => h⟩

/-- A message that arrives, or none. -/
def LDel (F : Nat → Prop) (w : World) (p : Nat) (E : Int) (c2 : Nat → Int) (ms2 : List (List UInt8)) (l : List UInt8) (e : Ending) (w' : World) : Prop :=
  ∃ v, e = .returned (.tuple #[v, errv E]) ∧ Keep F w w' ∧ (∃ F2, Line F2 w' p c2 ms2 ∧ ∀ k, F2 k → F k ∨ w.heap.size ≤ k) ∧ Bs w' v l ∧ ∀ g, v.ownBlock = some g → w.heap.size ≤ g

theorem del_any (F : Nat → Prop) (p : Nat) (c : Nat → Int) (ms : List (List UInt8)) (i : Int) (w : World) (h : Line F w p c ms) (hm : ms.length ≤ 64) (hl : ∀ m ∈ ms, m.length ≤ 65536) (hc0 : 0 ≤ c 1) (hc1 : c 1 ≤ 1000000) :
    Calls Try.prog 9 #[.pointer (some ⟨p, 0, none⟩), .int .i64 i] w (LDel F w p (dropE ms i) (onC (dropE ms i) c 1) (onM (dropE ms i) (ms.eraseIdx i.toNat) ms) (msgAt ms i)) := by
  unfold dropE msgAt
  rcases place_cases ms i with hI | ⟨h0, h1, l, hl1, hl2⟩
  · rw [if_neg (by omega), if_neg (by omega)]
    refine (deliver_no F p c ms i w h hI).mono ?_
    rintro e w' ⟨rfl, rfl⟩
    exact ⟨_, rfl, Keep.refl _ _, h.long, Rd.nil _, fun g e => by simp [Value.ownBlock] at e⟩
  · rw [if_pos ⟨h0, h1⟩, if_pos ⟨h0, h1⟩]
    have e1 : ms.getD i.toNat [] = l := by rw [List.getD_eq_getElem?_getD, hl1]; rfl
    rw [e1]
    refine (deliver_at F p c ms i l w h h0 hl1 (hl l hl2) hc0 hc1 hm).mono ?_
    rintro e w' ⟨v, rfl, hk, hl', hb, ho⟩
    exact ⟨v, rfl, hk, ⟨F, hl', fun _ h => .inl h⟩, hb, fun g e => (ho g e).1⟩

/-- What the document's answers come to. -/
def RAny (w : World) (lv : Value) (E : Int) (c2 : Nat → Int) (ms2 : List (List UInt8)) (e : Ending) (w' : World) : Prop :=
  ∃ a cap, e = .returned (.tuple #[.agg #[.slice a ms2.length cap, .int .i64 (c2 0), .int .i64 (c2 1), .int .i64 (c2 2), .int .i64 (c2 3)], .int .i64 E]) ∧ Keep Non w w' ∧ Rd w' (.slice a ms2.length cap) (ms2.map sv) ∧ Fits (.slice a ms2.length cap) ∧ ∀ g, (Value.slice a ms2.length cap).ownBlock = some g → lv.ownBlock = some g ∨ (w.heap.size ≤ g ∧ g < w'.heap.size)

theorem oneCell_sv (ms : List (List UInt8)) : ∀ u ∈ ms.map sv, u.oneCell' = true := by
  intro u hu
  obtain ⟨l, _, rfl⟩ := List.mem_map.1 hu
  rfl

theorem RDone.any {w w' : World} {lv : Value} {c : Nat → Int} {ms2 : List (List UInt8)} {ls : List Value} {E : Int} {e : Ending} (h : RDone w lv c ls E e w') (hl : ls = ms2.map sv) : RAny w lv E c ms2 e w' := by
  obtain ⟨v, rfl, hk, hr, hf, ho⟩ := h
  subst hl
  obtain ⟨a, cap, rfl, hx⟩ := hr
  rw [List.length_map] at hf ho
  exact ⟨a, cap, by rw [List.length_map], hk, ⟨a, cap, by rw [List.length_map], hx⟩, hf, ho⟩

theorem fits_slice {a : Option Addr} {n cap : Nat} (h : Fits (.slice a n cap)) : n ≤ cap ∧ cap ≤ maxLen := by
  obtain ⟨a', n', cap', e, h1, h2⟩ := h
  injection e with e1 e2 e3
  omega

theorem rsend_any (a : Option Addr) (cap : Nat) (c : Nat → Int) (ms : List (List UInt8)) (l : List UInt8) (w : World) (h : Rd w (.slice a ms.length cap) (ms.map sv)) (hf : Fits (.slice a ms.length cap)) (hm : ms.length ≤ 64) (hc0 : 0 ≤ c 0) (hc1 : c 0 ≤ 1000000) :
    Calls Try.prog 26 #[.agg #[.slice a ms.length cap, .int .i64 (c 0), .int .i64 (c 1), .int .i64 (c 2), .int .i64 (c 3)], .string ⟨l.toArray⟩] w (RAny w (.slice a ms.length cap) (sendE ms l) (onC (sendE ms l) c 0) (onM (sendE ms l) (ms ++ [l]) ms)) := by
  have hsz : (⟨l.toArray⟩ : ByteArray).size = l.length := by show l.toArray.size = _; simp
  unfold sendE
  by_cases h1 : 65536 < l.length
  · rw [if_pos h1]
    refine (rsend_long a ms.length cap c _ w (by omega)).mono ?_
    rintro e w' ⟨rfl, hk⟩
    exact ⟨a, cap, rfl, hk, h.keepNon hk, hf, fun g e => .inl e⟩
  · rw [if_neg h1]
    by_cases h2 : 64 ≤ ms.length
    · rw [if_pos h2]
      refine (rsend_full a ms.length cap c _ w (by omega) h2).mono ?_
      rintro e w' ⟨rfl, hk⟩
      exact ⟨a, cap, rfl, hk, h.keepNon hk, hf, fun g e => .inl e⟩
    · rw [if_neg h2]
      have := rsend_ok a cap c (ms.map sv) ⟨l.toArray⟩ w (by rw [List.length_map]; exact h) (oneCell_sv ms) (by omega) (by rw [List.length_map]; omega) hc0 hc1
      rw [List.length_map] at this
      exact this.mono fun e w' hd => hd.any (by rw [onM, if_pos rfl, List.map_append]; rfl)

/-- .. and a text. -/
def RAnyD (w : World) (lv : Value) (E : Int) (c2 : Nat → Int) (ms2 : List (List UInt8)) (l : List UInt8) (e : Ending) (w' : World) : Prop :=
  ∃ a cap, e = .returned (.tuple #[.string ⟨l.toArray⟩, .agg #[.slice a ms2.length cap, .int .i64 (c2 0), .int .i64 (c2 1), .int .i64 (c2 2), .int .i64 (c2 3)], .int .i64 E]) ∧ Keep Non w w' ∧ Rd w' (.slice a ms2.length cap) (ms2.map sv) ∧ Fits (.slice a ms2.length cap) ∧ ∀ g, (Value.slice a ms2.length cap).ownBlock = some g → lv.ownBlock = some g ∨ (w.heap.size ≤ g ∧ g < w'.heap.size)

theorem RDrop.any {w w' : World} {lv : Value} {c : Nat → Int} {ms2 : List (List UInt8)} {ls : List Value} {l : List UInt8} {E : Int} {e : Ending} (h : RDrop w lv c ls ⟨l.toArray⟩ E e w') (hl : ls = ms2.map sv) : RAnyD w lv E c ms2 l e w' := by
  obtain ⟨v, rfl, hk, hr, hf, ho⟩ := h
  subst hl
  obtain ⟨a, cap, rfl, hx⟩ := hr
  rw [List.length_map] at hf ho
  exact ⟨a, cap, by rw [List.length_map], hk, ⟨a, cap, by rw [List.length_map], hx⟩, hf, ho⟩

theorem list_addr {w : World} {a : Option Addr} {n cap : Nat} {ls : List Value} (h : Rd w (.slice a n cap) ls) (hn : ls ≠ []) : ∃ g off, a = some ⟨g, off, none⟩ := by
  obtain ⟨a', c', e1, hx⟩ := h
  obtain ⟨g, off, e2, _⟩ := hx hn
  injection e1 with e1
  exact ⟨g, off, e1.trans e2⟩

theorem map_eraseIdx (ms : List (List UInt8)) (i : Nat) : (ms.map sv).eraseIdx i = (ms.eraseIdx i).map sv := by
  rw [List.eraseIdx_eq_take_drop_succ, List.eraseIdx_eq_take_drop_succ, List.map_append, List.map_take, List.map_drop]

theorem rdrop1_any (a : Option Addr) (cap : Nat) (c : Nat → Int) (ms : List (List UInt8)) (i : Int) (w : World) (h : Rd w (.slice a ms.length cap) (ms.map sv)) (hf : Fits (.slice a ms.length cap)) (hm : ms.length ≤ 64) (hc0 : 0 ≤ c 1) (hc1 : c 1 ≤ 1000000) :
    Calls Try.prog 27 #[.agg #[.slice a ms.length cap, .int .i64 (c 0), .int .i64 (c 1), .int .i64 (c 2), .int .i64 (c 3)], .int .i64 i, .int .i64 1] w (RAnyD w (.slice a ms.length cap) (dropE ms i) (onC (dropE ms i) c 1) (onM (dropE ms i) (ms.eraseIdx i.toNat) ms) (msgAt ms i)) := by
  unfold dropE msgAt
  rcases place_cases ms i with hI | ⟨h0, h1, l, hl1, hl2⟩
  · rw [if_neg (by omega), if_neg (by omega)]
    refine (rdrop_no a ms.length cap c i 1 w hI).mono ?_
    rintro e w' ⟨rfl, hk⟩
    exact ⟨a, cap, rfl, hk, h.keepNon hk, hf, fun g e => .inl e⟩
  · rw [if_pos ⟨h0, h1⟩, if_pos ⟨h0, h1⟩]
    have e1 : ms.getD i.toNat [] = l := by rw [List.getD_eq_getElem?_getD, hl1]; rfl
    rw [e1]
    obtain ⟨g, off, rfl⟩ := list_addr h (by intro e; rw [List.map_eq_nil_iff] at e; rw [e] at hl2; simp at hl2)
    obtain ⟨n, rfl⟩ := Int.eq_ofNat_of_zero_le h0
    have := rdrop1_ok g off cap c (ms.map sv) n ⟨l.toArray⟩ w (by rw [List.length_map]; exact h) (oneCell_sv ms) (by rw [List.getElem?_map]; have : ms[n]? = some l := hl1; rw [this]; rfl) (by rw [List.length_map]; exact (fits_slice hf).1) (fits_slice hf).2 (by rw [List.length_map]; omega) hc0 hc1
    rw [List.length_map] at this
    exact this.mono fun e w' hd => hd.any (by rw [onM, if_pos rfl]; exact map_eraseIdx ms n)

theorem rdrop2_any (a : Option Addr) (cap : Nat) (c : Nat → Int) (ms : List (List UInt8)) (i : Int) (w : World) (h : Rd w (.slice a ms.length cap) (ms.map sv)) (hf : Fits (.slice a ms.length cap)) (hm : ms.length ≤ 64) (hc0 : 0 ≤ c 2) (hc1 : c 2 ≤ 1000000) :
    Calls Try.prog 27 #[.agg #[.slice a ms.length cap, .int .i64 (c 0), .int .i64 (c 1), .int .i64 (c 2), .int .i64 (c 3)], .int .i64 i, .int .i64 2] w (RAnyD w (.slice a ms.length cap) (dropE ms i) (onC (dropE ms i) c 2) (onM (dropE ms i) (ms.eraseIdx i.toNat) ms) (msgAt ms i)) := by
  unfold dropE msgAt
  rcases place_cases ms i with hI | ⟨h0, h1, l, hl1, hl2⟩
  · rw [if_neg (by omega), if_neg (by omega)]
    refine (rdrop_no a ms.length cap c i 2 w hI).mono ?_
    rintro e w' ⟨rfl, hk⟩
    exact ⟨a, cap, rfl, hk, h.keepNon hk, hf, fun g e => .inl e⟩
  · rw [if_pos ⟨h0, h1⟩, if_pos ⟨h0, h1⟩]
    have e1 : ms.getD i.toNat [] = l := by rw [List.getD_eq_getElem?_getD, hl1]; rfl
    rw [e1]
    obtain ⟨g, off, rfl⟩ := list_addr h (by intro e; rw [List.map_eq_nil_iff] at e; rw [e] at hl2; simp at hl2)
    obtain ⟨n, rfl⟩ := Int.eq_ofNat_of_zero_le h0
    have := rdrop2_ok g off cap c (ms.map sv) n ⟨l.toArray⟩ w (by rw [List.length_map]; exact h) (oneCell_sv ms) (by rw [List.getElem?_map]; have : ms[n]? = some l := hl1; rw [this]; rfl) (by rw [List.length_map]; exact (fits_slice hf).1) (fits_slice hf).2 (by rw [List.length_map]; omega) hc0 hc1
    rw [List.length_map] at this
    exact this.mono fun e w' hd => hd.any (by rw [onM, if_pos rfl]; exact map_eraseIdx ms n)

theorem rtwice_any (a : Option Addr) (cap : Nat) (c : Nat → Int) (ms : List (List UInt8)) (i : Int) (w : World) (h : Rd w (.slice a ms.length cap) (ms.map sv)) (hf : Fits (.slice a ms.length cap)) (hm : ms.length ≤ 64) (hc0 : 0 ≤ c 3) (hc1 : c 3 ≤ 1000000) :
    Calls Try.prog 28 #[.agg #[.slice a ms.length cap, .int .i64 (c 0), .int .i64 (c 1), .int .i64 (c 2), .int .i64 (c 3)], .int .i64 i] w (RAny w (.slice a ms.length cap) (twiceE ms i) (onC (twiceE ms i) c 3) (onM (twiceE ms i) (ms ++ [msgAt ms i]) ms)) := by
  unfold twiceE
  rcases place_cases ms i with hI | ⟨h0, h1, l, hl1, hl2⟩
  · rw [if_neg (by omega)]
    refine (rtwice_no a ms.length cap c i w hI).mono ?_
    rintro e w' ⟨rfl, hk⟩
    exact ⟨a, cap, rfl, hk, h.keepNon hk, hf, fun g e => .inl e⟩
  · rw [if_pos ⟨h0, h1⟩]
    have e1 : msgAt ms i = l := by unfold msgAt; rw [if_pos ⟨h0, h1⟩, List.getD_eq_getElem?_getD, hl1]; rfl
    rw [e1]
    by_cases h2 : 64 ≤ ms.length
    · rw [if_pos h2]
      refine (rtwice_full a ms.length cap c i w h0 h1 h2).mono ?_
      rintro e w' ⟨rfl, hk⟩
      exact ⟨a, cap, rfl, hk, h.keepNon hk, hf, fun g e => .inl e⟩
    · rw [if_neg h2]
      obtain ⟨g, off, rfl⟩ := list_addr h (by intro e; rw [List.map_eq_nil_iff] at e; rw [e] at hl2; simp at hl2)
      obtain ⟨n, rfl⟩ := Int.eq_ofNat_of_zero_le h0
      have := rtwice_ok g off cap c (ms.map sv) n ⟨l.toArray⟩ w (by rw [List.length_map]; exact h) (oneCell_sv ms) (by rw [List.getElem?_map]; have : ms[n]? = some l := hl1; rw [this]; rfl) (by rw [List.length_map]; exact (fits_slice hf).1) (fits_slice hf).2 (by rw [List.length_map]; omega) hc0 hc1
      rw [List.length_map] at this
      exact this.mono fun e w' hd => hd.any (by rw [onM, if_pos rfl, List.map_append]; rfl)

end Go.Proofs.Ytggnkcpnbnpbhaa
