/- The digest, in plain words: the padded text, the states behind its blocks, the bytes. -/
import Derived.Test.YtcjjhgecmnfmdaaDoorShaPad
import Derived.Test.YtcjjhgecmnfmdaaDoorShaChunk
import Derived.Laws.CopyOwn
namespace Go.Proofs.YtcjjhgecmnfmdaaDoor
open Go.RowKit
set_option linter.unusedVariables false

/-- The first state. -/
def first8 : W8 := ⟨0x6a09e667, 0xbb67ae85, 0x3c6ef372, 0xa54ff53a, 0x510e527f, 0x9b05688c, 0x1f83d9ab, 0x5be0cd19⟩
theorem first8_u32 : first8.u32 := by unfold W8.u32 U32 first8; decide
/-- A block of a text. -/
def blkB (b : List UInt8) (i : Nat) : List UInt8 := (b.drop (64 * i)).take 64
/-- The state behind so many blocks. -/
def stTo (b : List UInt8) : Nat → W8
  | 0 => first8
  | i + 1 => stepW (stTo b i) (blkB b i)
/-- The padded text. -/
def padL (l : List UInt8) : List UInt8 := l ++ padB l.length
/-- How many blocks it has. -/
def blocks (l : List UInt8) : Nat := (padL l).length / 64
/-- The state behind all of them. -/
def shaS (l : List UInt8) : W8 := stTo (padL l) (blocks l)
/-- A byte of a state. -/
def W8.byte (s : W8) (j : Nat) : Int := s.at (j / 4) / 2 ^ (24 - 8 * (j % 4)) % 256
/-- The bytes, as many as are laid by then. -/
def digC (s : W8) (n : Nat) : Array Value := ((List.range 32).map fun j => if j < n then Value.int .u8 (s.byte j) else .int .u8 0).toArray

theorem padL_len (l : List UInt8) : (padL l).length = 64 * blocks l := by
  unfold blocks padL
  rw [List.length_append, padB_len]
  omega
theorem blocks_le (l : List UInt8) (h : l.length ≤ 2000) : blocks l ≤ 40 := by
  have := padL_len l
  unfold padL at this
  rw [List.length_append, padB_len] at this
  omega
theorem digC_size (s : W8) (n : Nat) : (digC s n).size = 32 := by simp [digC]
theorem digC_one (s : W8) (n : Nat) : (digC s n).all (·.oneCell') = true := by
  rw [Array.all_eq_true]
  intro i hi
  simp only [digC, List.getElem_toArray, List.getElem_map]
  split <;> rfl
theorem digC_get (s : W8) (n j : Nat) (h : j < 32) : (digC s n)[j]? = some (if j < n then Value.int .u8 (s.byte j) else .int .u8 0) := by
  simp [digC, h]
theorem addW_u32 (s t : W8) : (addW s t).u32 := ⟨u32_w _, u32_w _, u32_w _, u32_w _, u32_w _, u32_w _, u32_w _, u32_w _⟩
theorem stTo_u32 (b : List UInt8) : ∀ i, (stTo b i).u32
  | 0 => first8_u32
  | i + 1 => addW_u32 _ _
theorem W8.at_u32 {s : W8} (h : s.u32) : ∀ i, U32 (s.at i)
  | 0 => h.1
  | 1 => h.2.1
  | 2 => h.2.2.1
  | 3 => h.2.2.2.1
  | 4 => h.2.2.2.2.1
  | 5 => h.2.2.2.2.2.1
  | 6 => h.2.2.2.2.2.2.1
  | _ + 7 => h.2.2.2.2.2.2.2
theorem byI_blk (b : List UInt8) (i j : Nat) (hj : j < 64) : byI (blkB b i) j = byI b (64 * i + j) := by
  unfold byI blkB
  simp only [List.getD_eq_getElem?_getD, List.getElem?_take, List.getElem?_drop, if_pos hj]

/-- Four bytes more. -/
theorem digC_step (s : W8) (i : Nat) (h : i < 8) :
    ((digC s (4 * i)).toList.take (4 * i) ++ ([Value.int .u8 (s.byte (4 * i)), .int .u8 (s.byte (4 * i + 1)), .int .u8 (s.byte (4 * i + 2)), .int .u8 (s.byte (4 * i + 3))] ++ (digC s (4 * i)).toList.drop (4 * i + 4))).toArray = digC s (4 * (i + 1)) := by
  match i, h with
  | 0, _ => rfl
  | 1, _ => rfl
  | 2, _ => rfl
  | 3, _ => rfl
  | 4, _ => rfl
  | 5, _ => rfl
  | 6, _ => rfl
  | 7, _ => rfl
theorem byte_0 (s : W8) (i : Nat) : s.byte (4 * i) = s.at i / 16777216 % 256 := by
  unfold W8.byte
  rw [show 4 * i / 4 = i by omega, show 4 * i % 4 = 0 by omega]
  rfl
theorem byte_1 (s : W8) (i : Nat) : s.byte (4 * i + 1) = s.at i / 65536 % 256 := by
  unfold W8.byte
  rw [show (4 * i + 1) / 4 = i by omega, show (4 * i + 1) % 4 = 1 by omega]
  rfl
theorem byte_2 (s : W8) (i : Nat) : s.byte (4 * i + 2) = s.at i / 256 % 256 := by
  unfold W8.byte
  rw [show (4 * i + 2) / 4 = i by omega, show (4 * i + 2) % 4 = 2 by omega]
  rfl
theorem byte_3 (s : W8) (i : Nat) : s.byte (4 * i + 3) = s.at i % 256 := by
  unfold W8.byte
  rw [show (4 * i + 3) / 4 = i by omega, show (4 * i + 3) % 4 = 3 by omega]
  simp

/-- 'copy' into a row that is known whole: the row behind it. -/
theorem wpList_copy_row {P : Program} {w : World} {ops : Array Oper} {rest : List Oper} {o : Oper} {a : Act} {Q : Exit → Act → World → Prop} (hgd : o.guard = none) (d s : Operand) (dT sT : TypeId)
    (ho : o.op = .call { callee := .builtin .copy, args := #[d, s], argTypes := #[dT, sT] }) (elem : TypeId) (hu : P.underlying dT = some (.slice elem)) (hsz : (P.info? elem).map (·.size) = some 1)
    (g off dLen dCap : Nat) (ad : Addr) (sLen sCap : Nat) (hd : a.eval d = .slice (some ⟨g, off, none⟩) dLen dCap) (hs : a.eval s = .slice (some ad) sLen sCap)
    (cur : Array Value) (t : TypeId) (hg : w.heap[g]? = some (.cells cur t (0, 0))) (cs : List Value) (hn : cs.length = Nat.min sLen dLen)
    (hsrc : ∀ j v, cs[j]? = some v → w.cell? (ad.add j) = some v) (hfit : off + cs.length ≤ cur.size) (h1 : ∀ v ∈ cs, v.oneCell' = true)
    (new : Array Value) (hnew : (cur.toList.take off ++ (cs ++ cur.toList.drop (off + cs.length))).toArray = new)
    (h : wpList P ops Q rest (a.put o.dst (goInt cs.length)) (w.setRow g new)) : wpList P ops Q (o :: rest) a w := by
  subst hnew
  exact wpList_copy_own hgd d s dT sT ho elem hu hsz g off dLen dCap ad sLen sCap hd hs cur t hg cs hn hsrc hfit h1 h

theorem ownsRow_keep {S : Nat → Prop} {w w' : World} {base : Nat} {e : TypeId} {size : Nat} {v : Value} {n : Nat} {xs : List Value} (h : w.ownsRow base e size v n xs) (k : Keep S w w') (hn : ∀ g, v.ownBlock = some g → ¬ S g) : w'.ownsRow base e size v n xs := by
  obtain ⟨h1, h2⟩ := h
  refine ⟨h1, ?_⟩
  rcases h2 with h2 | ⟨g, cap, cur, rfl, hb, hg, rest⟩
  · exact .inl h2
  · exact .inr ⟨g, cap, cur, rfl, hb, k.at hg (hn g rfl), rest⟩


/-- A text's parts in memory. -/
def Pts (w : World) (v : Value) (ls : List (List UInt8)) : Prop := ∃ vs : List Value, Rd w v vs ∧ vs.length = ls.length ∧ ∀ (i : Nat) (u : Value) (l : List UInt8), vs[i]? = some u → ls[i]? = some l → Bs w u l
theorem Pts.keep {w w' : World} {v : Value} {ls : List (List UInt8)} (h : Pts w v ls) (k : Keep Non w w') : Pts w' v ls := by
  obtain ⟨vs, h1, h2, h3⟩ := h
  exact ⟨vs, h1.keepNon k, h2, fun i u l a b => (h3 i u l a b).keepNon k⟩
/-- The first state's words in memory. -/
def Frs (w : World) : Prop := ∃ (tt : TypeId) (fr : Nat × Nat), w.heap[0]? = some (.cells first8.cells tt fr)
theorem Frs.keep {w w' : World} (h : Frs w) (k : Keep Non w w') : Frs w' := by
  obtain ⟨tt, fr, h⟩ := h
  exact ⟨tt, fr, k.at h (fun e => e)⟩
theorem Kon.keep {w w' : World} (h : Kon w) (k : Keep Non w w') : Kon w' := by
  obtain ⟨cs, h1, ⟨tt, fr, h2⟩, h3, h4⟩ := h
  exact ⟨cs, h1, ⟨tt, fr, k.at h2 (fun e => e)⟩, Nat.le_trans h3 k.size, h4⟩

end Go.Proofs.YtcjjhgecmnfmdaaDoor
