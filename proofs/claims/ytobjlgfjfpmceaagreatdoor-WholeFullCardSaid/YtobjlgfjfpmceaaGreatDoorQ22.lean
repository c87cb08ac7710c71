/- Puts and deletes on a disk that has power and no fuse: the plain law. -/
import Derived.Test.YtobjlgfjfpmceaaGreatDoorQ15
set_option linter.unusedVariables false
set_option maxRecDepth 100000
set_option maxHeartbeats 16000000
namespace Go.Proofs.YtobjlgfjfpmceaaGreatDoor
open Go.RowKit Go.Maps
theorem tilde_ne (n : Byt) : n ≠ tilde n := by
  intro e
  have := congrArg List.length e
  simp [tilde] at this
theorem Dk.free.write {X : Dk} (h : X.free) {n b : Byt} (hb : b.length ≤ 65536) : X.write n b = if X.full n b then (5, X) else (0, X.add (.write n b)) := by
  unfold Dk.write
  rw [h.works]
  simp only [ne_eq, not_true, if_false]
  rw [if_neg (by omega)]
theorem Dk.free.add {X : Dk} (h : X.free) (c : Chg) : (X.add c).free := h
def putFl (D : Fl) (n b : Byt) : Fl := fput (fdel (fput D (tilde n) b) (tilde n)) n b
theorem sput_free {X : Dk} (h : X.free) (hm : IsMap X.shown) (n b : Byt) (hb : b.length ≤ 65536) :
    X.sput n b = if X.full (tilde n) b then (5, X) else (0, { X with sure := putFl X.shown n b, shown := putFl X.shown n b, pend := [] }) := by
  unfold Dk.sput
  rw [h.write hb]
  by_cases hf : X.full (tilde n) b
  · rw [if_pos hf, if_pos hf]
    simp
  · rw [if_neg hf, if_neg hf]
    have f1 : (X.add (.write (tilde n) b)).free := h.add _
    simp only [ne_eq, not_true, if_false]
    rw [f1.sync]
    simp only [not_true, if_false]
    have f2 : ({ X.add (.write (tilde n) b) with sure := (X.add (.write (tilde n) b)).shown, pend := [] } : Dk).free := f1
    have hr : ({ X.add (.write (tilde n) b) with sure := (X.add (.write (tilde n) b)).shown, pend := [] } : Dk).rename (tilde n) n = (0, ({ X.add (.write (tilde n) b) with sure := (X.add (.write (tilde n) b)).shown, pend := [] } : Dk).add (.rename (tilde n) n)) := by
      unfold Dk.rename
      rw [f2.works]
      simp only [ne_eq, not_true, if_false]
      rw [if_pos]
      show fhas (fput X.shown (tilde n) b) (tilde n) = true
      exact fhas_put_same hm
    rw [hr]
    simp only [not_true, if_false]
    have f3 : (({ X.add (.write (tilde n) b) with sure := (X.add (.write (tilde n) b)).shown, pend := [] } : Dk).add (.rename (tilde n) n)).free := f2.add _
    rw [f3.sync]
    have e : (({ X.add (.write (tilde n) b) with sure := (X.add (.write (tilde n) b)).shown, pend := [] } : Dk).add (.rename (tilde n) n)).shown = putFl X.shown n b := by
      show (if fhas (fput X.shown (tilde n) b) (tilde n) = true then fput (fdel (fput X.shown (tilde n) b) (tilde n)) n (fget (fput X.shown (tilde n) b) (tilde n)) else fput X.shown (tilde n) b) = _
      rw [if_pos (fhas_put_same hm), fget_put_same hm]
      rfl
    rw [e]
    rfl
section
variable {D : Fl} {n m b : Byt}
theorem putFl_has_same (h : IsMap D) : fhas (putFl D n b) n = true := fhas_put_same (isMap_del (isMap_put h))
theorem putFl_get_same (h : IsMap D) : fget (putFl D n b) n = b := fget_put_same (isMap_del (isMap_put h))
theorem putFl_has_tilde : fhas (putFl D n b) (tilde n) = false := by
  unfold putFl
  rw [fhas_put_other (tilde_ne n).symm]
  exact fhas_del_same
theorem putFl_has_other (h1 : m ≠ n) (h2 : m ≠ tilde n) : fhas (putFl D n b) m = fhas D m := by
  unfold putFl
  rw [fhas_put_other h1, fhas_del_other h2, fhas_put_other h2]
theorem putFl_get_other (h1 : m ≠ n) (h2 : m ≠ tilde n) : fget (putFl D n b) m = fget D m := by
  unfold putFl
  rw [fget_put_other h1, fget_del_other h2, fget_put_other h2]
end
theorem okObj.ne_tilde {n m : Byt} (h : okObj n) : n ≠ Go.Proofs.YtobjlgfjfpmceaaGreatDoor.tilde m := by
  intro e
  apply h.2.2
  rw [e]
  simp [Go.Proofs.YtobjlgfjfpmceaaGreatDoor.tilde]
theorem sdel_free {X : Dk} (h : X.free) (n : Byt) :
    X.sdel n = if fhas X.shown n = true then (0, { X with sure := fdel X.shown n, shown := fdel X.shown n, pend := [] }) else (4, X) := by
  unfold Dk.sdel
  by_cases hh : fhas X.shown n = true
  · rw [h.remove hh, if_pos hh]
    simp only [ne_eq, not_true, if_false]
    rw [(h.add (.remove n)).sync]
    have e : (X.add (.remove n)).shown = fdel X.shown n := by
      show (if fhas X.shown n = true then fdel X.shown n else X.shown) = _
      rw [if_pos hh]
    rw [e]
    rfl
  · have e : X.remove n = (4, X) := by
      unfold Dk.remove
      rw [h.works]
      simp only [ne_eq, not_true, if_false]
      rw [if_neg hh]
    rw [e, if_neg hh]
    rfl
theorem not_full {X : Dk} {a k f : Nat} (hl : X.lim a k f) {n b : Byt} (ha : a < 512) (hr : f + b.length ≤ X.room) : ¬ X.full n b := by
  rintro (⟨_, h⟩ | h)
  · have := hl.files; omega
  · have := hl.used; omega
def Dk.tidy (X : Dk) : Prop := ∀ n, fhas X.shown n = true → okObj n
theorem Dk.tidy.sput {X : Dk} (h : X.tidy) (hf : X.free) (hm : IsMap X.shown) {n b : Byt} (hn : okObj n) (hb : b.length ≤ 65536) : (X.sput n b).2.tidy := by
  rw [sput_free hf hm n b hb]
  split
  · exact h
  · intro m hh
    have hh : fhas (putFl X.shown n b) m = true := hh
    by_cases e : m = n
    · rw [e]; exact hn
    · by_cases e2 : m = tilde n
      · rw [e2, putFl_has_tilde] at hh; cases hh
      · rw [putFl_has_other e e2] at hh; exact h m hh
theorem Dk.free.sput {X : Dk} (hf : X.free) (hm : IsMap X.shown) {n b : Byt} (hb : b.length ≤ 65536) : (X.sput n b).2.free := by
  rw [sput_free hf hm n b hb]
  split
  · exact hf
  · exact hf
theorem openD_tidy {X : Dk} (h : X.tidy) (ns : List Byt) (hp : ns.Perm (Go.strKeys X.shown)) (hs : ∃ es, X.shown = .map es ∧ es.Pairwise (fun p q => p.1 ≠ q.1) ∧ ∀ p ∈ es, ∃ x, p.1 = .string x) : openD ns X = X := by
  obtain ⟨_, hmem⟩ := names_of hs hp
  have hb : ∀ n ∈ ns, begun n = false := by
    intro n hn
    have hk := (h n ((hmem n).1 hn)).2.2
    unfold begun
    cases n with
    | nil => rfl
    | cons c r =>
      have : c ≠ 126 := fun e => hk (by rw [e]; simp)
      have h2 : ((126 : UInt8) == c) = false := by simpa using this.symm
      show (((126 : UInt8) == c) && _) = false
      rw [h2]
      rfl
  have h1 : ns.any begun = false := by
    rw [List.any_eq_false]
    intro n hn
    rw [hb n hn]
    simp
  have h2 : ∀ (l : List Byt), (∀ n ∈ l, begun n = false) → ∀ Y, sweepD l Y = Y := by
    intro l
    induction l with
    | nil => intro _ Y; rfl
    | cons n r ih =>
      intro hl Y
      have e1 : sweep1 Y n = Y := by unfold sweep1; rw [hl n (by simp)]; rfl
      show sweepD r (sweep1 Y n) = Y
      rw [e1]
      exact ih (fun m hm => hl m (by simp [hm])) Y
  unfold openD
  rw [h1, h2 ns hb]
  rfl
end Go.Proofs.YtobjlgfjfpmceaaGreatDoor
