/- TransitSums, walked: the sums of the counts, and what was sent. -/
import Derived.Test.YtggnkcpnbnpbhaaClear
import Derived.Test.YtggnkcpnbnpbhaaAlive24
import Derived.Maps.OwnSet
import Derived.Deep.CutBlock
import Derived.Deep.DeepCutAuto
namespace Go.Proofs.Ytggnkcpnbnpbhaa
open Go.RowKit
set_option linter.unusedVariables false

/-- A row of acts that came in: kind, index, bytes. -/
structure BActs (w : World) (b off len : Nat) (K I : Nat → Int) (T : Nat → List UInt8) : Prop where
  lt : b < w.heap.size
  kind : ∀ i, i < len → w.cell? ⟨b, off + i * 3, none⟩ = some (.int .i64 (K i))
  ix : ∀ i, i < len → w.cell? ⟨b, off + i * 3 + 1, none⟩ = some (.int .i64 (I i))
  by_ : ∀ i, i < len → ∃ a cap, w.cell? ⟨b, off + i * 3 + 2, none⟩ = some (.slice a (T i).length cap) ∧ Bs w (.slice a (T i).length cap) (T i)

theorem BActs.keep {w w' : World} {b off len : Nat} {K I : Nat → Int} {T : Nat → List UInt8} (h : BActs w b off len K I T) (k : Keep Non w w') : BActs w' b off len K I T := by
  have e : w'.heap[b]? = w.heap[b]? := k.block b h.lt (fun e => e)
  refine ⟨k.lt h.lt, fun i hi => (World.cell?_of_block e).trans (h.kind i hi), fun i hi => (World.cell?_of_block e).trans (h.ix i hi), fun i hi => ?_⟩
  obtain ⟨a, cap, h1, h2⟩ := h.by_ i hi
  exact ⟨a, cap, (World.cell?_of_block e).trans h1, h2.keep k (fun _ _ e => e)⟩

theorem strKeyed : Maps.Keyed Try.prog 9 := Maps.string_keyed Try.underlying9
theorem zeroBool (w : World) : (zeroValue 4).run Try.prog w = .ok (.bool false) w := by kernel_rfl

/-- 'm[k]' at elements of a bool. -/
theorem look_bool {w : World} {b n : Nat} {D : DataW Unit} (hown : w.ownsMap Try.prog 9 (plainElem Try.prog 4) b n D) {key : Value} {kl : Lit} (hkey : keyOf Try.prog 9 key = some kl) {v : Bool} (hat : D.atKey kl (.lit (.bool false)) = .lit (.bool v)) :
    (Instr.lookup 38 (.map (some b)) key false).run Try.prog w = .ok (.bool v) w := by
  obtain ⟨u, ps, hrun, hu⟩ := hown.lookup strKeyed Try.underlying38 (zeroBool w) (plainElem_bool Try.underlying4 false) hkey
  rw [hat] at hu
  have e : u = .bool v := by
    unfold plainElem at hu
    rw [Try.underlying4] at hu
    cases u <;> simp at hu
    rw [hu.1]
  rw [hrun, e]

/-- Is a text among those that were sent? -/
def Sent (D : DataW Unit) (l : List UInt8) : Prop := D.atKey (.string l) (.lit (.bool false)) = .lit (.bool true)

theorem ownsMap_keep {S : Nat → Prop} {w w' : World} {b n : Nat} {D : DataW Unit} (h : w.ownsMap Try.prog 9 (plainElem Try.prog 4) b n D) (k : Keep S w w') (hn : ¬ S b) : w'.ownsMap Try.prog 9 (plainElem Try.prog 4) b n D := by
  obtain ⟨es, clock, h1, rest⟩ := h
  exact ⟨es, clock, k.at h1 hn, rest⟩

theorem sent_put {D : DataW Unit} (hD : Maps.IsMap D) (l m : List UInt8) (h : m = l ∨ Sent D m) : Sent (D.put (.string l) (.lit (.bool true))) m := by
  unfold Sent at *
  by_cases e : m = l
  · subst e
    exact Maps.atKey_put_same (k := .string m) hD trivial _ _
  · rcases h with h | h
    · exact (e h).elim
    · rw [Maps.atKey_put_other (by simpa using e)]
      exact h

/-- The line in the law's memory: what lies from the law's beginning on, but for the map's block. -/
def OwnB (w wr : World) (b : Nat) : Nat → Prop := fun k => w.heap.size ≤ k ∧ k < wr.heap.size ∧ k ≠ b

/-- What holds at the head of each round. -/
structure SumsAt (w wr : World) (p b n : Nat) (c : Nat → Int) (ms : List (List UInt8)) (D : DataW Unit) : Prop where
  keep : Keep Non w wr
  line : Line (OwnB w wr b) wr p c ms
  b0 : w.heap.size ≤ b
  map : wr.ownsMap Try.prog 9 (plainElem Try.prog 4) b n D
  sum : c 0 + c 3 = c 1 + c 2 + (ms.length : Int)
  len : ms.length ≤ 64
  bd : ∀ j, 0 ≤ c j ∧ c j ≤ 64 * (n : Int)
  sent : ∀ m ∈ ms, m.length ≤ 300 ∧ Sent D m

section
variable {w wr w4 : World} {p b n : Nat} {c c' : Nat → Int} {ms ms' : List (List UInt8)} {D : DataW Unit}

theorem SumsAt.keepTo (hs : SumsAt w wr p b n c ms D) {o : Obj} (hk : Keep (OwnB w wr b) (wr.alloc o) w4) : Keep Non w w4 :=
  (hs.keep.alloc o).trans hk (fun _ _ h => h) (fun i hi h => by have := h.1; show False; omega)

theorem SumsAt.mapTo (hs : SumsAt w wr p b n c ms D) {o : Obj} (hk : Keep (OwnB w wr b) (wr.alloc o) w4) : w4.ownsMap Try.prog 9 (plainElem Try.prog 4) b n D :=
  ownsMap_keep (hs.map.alloc o) hk (fun h => h.2.2 rfl)

theorem SumsAt.lineTo (hs : SumsAt w wr p b n c ms D) {o : Obj} (hk : Keep (OwnB w wr b) (wr.alloc o) w4) {F : Nat → Prop} (hl : Line F w4 p c' ms') (hF : ∀ k, F k → OwnB w wr b k ∨ (wr.alloc o).heap.size ≤ k) : Line (OwnB w w4 b) w4 p c' ms' := by
  have hb := hs.map.lt
  have e1 := hs.keep.size
  refine hl.tight.mono fun k h => ?_
  rcases hF k h.1 with h1 | h1
  · exact ⟨h1.1, h.2, h1.2.2⟩
  · simp at h1
    exact ⟨by omega, h.2, by omega⟩

theorem SumsAt.step (hs : SumsAt w wr p b n c ms D) {o : Obj} (hk : Keep (OwnB w wr b) (wr.alloc o) w4) {F : Nat → Prop} (hl : Line F w4 p c' ms') (hF : ∀ k, F k → OwnB w wr b k ∨ (wr.alloc o).heap.size ≤ k)
    (h1 : c' 0 + c' 3 = c' 1 + c' 2 + (ms'.length : Int)) (h2 : ms'.length ≤ 64) (h3 : ∀ j, 0 ≤ c' j ∧ c' j ≤ c j + 64) (h4 : ∀ m ∈ ms', m ∈ ms) : SumsAt w w4 p b (n + 1) c' ms' D :=
  ⟨hs.keepTo hk, hs.lineTo hk hl hF, hs.b0, (hs.mapTo hk).mono (by omega), h1, h2, fun j => ⟨(h3 j).1, by have := (h3 j).2; have := (hs.bd j).2; omega⟩, fun m hm => hs.sent m (h4 m hm)⟩

theorem bump_le (i : Nat) (h : ∀ j, 0 ≤ c j) : ∀ j, 0 ≤ bump c i j ∧ bump c i j ≤ c j + 64 := by
  intro j
  have := h j
  unfold bump
  split <;> omega

theorem SumsAt.putIn {w5 : World} {l : List UInt8} (hs : SumsAt w wr p b n c ms D) {o : Obj} (hk : Keep (OwnB w wr b) (wr.alloc o) w4) (hl : Line (Fx (OwnB w wr b) (wr.alloc o)) w4 p (bump c 0) (ms ++ [l])) (hll : l.length ≤ 300) (hms : ms.length < 64)
    (hm : w5.ownsMap Try.prog 9 (plainElem Try.prog 4) b (n + 1) (D.put (.string l) (.lit (.bool true)))) (hg : w4.grownBy w5 (some b)) : SumsAt w w5 p b (n + 1) (bump c 0) (ms ++ [l]) (D.put (.string l) (.lit (.bool true))) := by
  have h4 := hs.lineTo hk hl (fun k h => h)
  have kg : Keep (One b) w4 w5 := (Keep.refl _ _).grown hg (fun k e => .inl (by injection e with e; exact e.symm))
  have hb := hs.b0
  refine ⟨(hs.keepTo hk).trans kg (fun _ _ h => h) (fun i hi h => by unfold One at h; show False; omega), ?_, hs.b0, hm, ?_, by simp; omega, fun j => ⟨(bump_le 0 (fun j => (hs.bd j).1) j).1, by have := (bump_le 0 (fun j => (hs.bd j).1) j).2; have := (hs.bd j).2; omega⟩, fun m hm => ?_⟩
  · refine (h4.keep kg (fun g h e => h.2.2 e)).mono fun k h => ⟨h.1, kg.lt h.2.1, h.2.2⟩
  · have := hs.sum
    simp [bump]
    omega
  · rcases List.mem_append.1 hm with hm | hm
    · exact ⟨(hs.sent m hm).1, sent_put hs.map.isMap l m (.inr (hs.sent m hm).2)⟩
    · simp at hm
      subst hm
      exact ⟨hll, sent_put hs.map.isMap m m (.inl rfl)⟩
end

theorem deliver_at (F : Nat → Prop) (p : Nat) (c : Nat → Int) (ms : List (List UInt8)) (i : Int) (l : List UInt8) (w : World) (h : Line F w p c ms) (hi0 : 0 ≤ i) (hi : ms[i.toNat]? = some l) (hl : l.length ≤ 65536) (hc0 : 0 ≤ c 1) (hc1 : c 1 ≤ 1000000) (hlen : ms.length ≤ 64) :
    Calls Try.prog 9 #[.pointer (some ⟨p, 0, none⟩), .int .i64 i] w (Delivered F w p (bump c 1) (ms.eraseIdx i.toNat) l) := by
  obtain ⟨n, rfl⟩ := Int.eq_ofNat_of_zero_le hi0
  exact deliver_yes F p c ms n l w h hi hl hc0 hc1 hlen

theorem lose_at (F : Nat → Prop) (p : Nat) (c : Nat → Int) (ms : List (List UInt8)) (i : Int) (l : List UInt8) (w : World) (h : Line F w p c ms) (hi0 : 0 ≤ i) (hi : ms[i.toNat]? = some l) (hc0 : 0 ≤ c 2) (hc1 : c 2 ≤ 1000000) (hlen : ms.length ≤ 64) :
    Calls Try.prog 13 #[.pointer (some ⟨p, 0, none⟩), .int .i64 i] w fun e w' => e = .returned .nilIface ∧ Keep F w w' ∧ Line F w' p (bump c 2) (ms.eraseIdx i.toNat) := by
  obtain ⟨n, rfl⟩ := Int.eq_ofNat_of_zero_le hi0
  exact lose_yes F p c ms n l w h hi hc0 hc1 hlen

theorem twice_at (F : Nat → Prop) (p : Nat) (c : Nat → Int) (ms : List (List UInt8)) (i : Int) (l : List UInt8) (w : World) (h : Line F w p c ms) (hi0 : 0 ≤ i) (hi : ms[i.toNat]? = some l) (hc0 : 0 ≤ c 3) (hc1 : c 3 ≤ 1000000) (hlen : ms.length < 64) :
    Calls Try.prog 14 #[.pointer (some ⟨p, 0, none⟩), .int .i64 i] w fun e w' => e = .returned .nilIface ∧ Keep F w w' ∧ Line (Fx F w) w' p (bump c 3) (ms ++ [l]) := by
  obtain ⟨n, rfl⟩ := Int.eq_ofNat_of_zero_le hi0
  exact twice_ok F p c ms n l w h hi hc0 hc1 hlen

theorem twice_fullAt (F : Nat → Prop) (p : Nat) (c : Nat → Int) (ms : List (List UInt8)) (i : Int) (w : World) (h : Line F w p c ms) (hi0 : 0 ≤ i) (hi : i < (ms.length : Int)) (hlen : 64 ≤ ms.length) :
    Calls Try.prog 14 #[.pointer (some ⟨p, 0, none⟩), .int .i64 i] w fun e w' => e = .returned (.iface 34 (.int .i64 5)) ∧ Keep Non w w' := by
  obtain ⟨n, rfl⟩ := Int.eq_ofNat_of_zero_le hi0
  exact twice_full F p c ms n w h (by omega) hlen

/-- A place: outside, or a message stands there. -/
theorem place_cases (ms : List (List UInt8)) (i : Int) : (i < 0 ∨ (0 ≤ i ∧ (ms.length : Int) ≤ i)) ∨ (0 ≤ i ∧ i < (ms.length : Int) ∧ ∃ l, ms[i.toNat]? = some l ∧ l ∈ ms) := by
  by_cases h : 0 ≤ i ∧ i < (ms.length : Int)
  · obtain ⟨h1, h2⟩ := h
    have h3 : i.toNat < ms.length := by omega
    exact .inr ⟨h1, h2, ms[i.toNat], by simp [h3], List.getElem_mem h3⟩
  · exact .inl (by omega)

end Go.Proofs.Ytggnkcpnbnpbhaa
