/- A cursor stays one, a part farther. · Exports: their blocks, what they read, what a step makes of them (plain). -/
import Derived.Test.YtdmckfkhkjkdnaaGreatDoorQ30
import Derived.Test.YtdmckfkhkjkdnaaGreatDoorQ31
set_option linter.unusedVariables false
set_option maxRecDepth 100000
set_option maxHeartbeats 16000000
namespace Go.Proofs.YtdmckfkhkjkdnaaGreatDoor
open Go.RowKit
theorem okPts_snoc : ∀ (l : List Pt) (a : Nat) (p : Pt), okPts a l → p.first = endPts a l → okPt p → okPts a (l ++ [p])
  | [], a, p, _, h, hp => ⟨h, hp, trivial⟩
  | q :: r, a, p, h, h2, hp => ⟨h.1, h.2.1, okPts_snoc r (a + q.many) p h.2.2 h2 hp⟩
theorem endPts_snoc : ∀ (l : List Pt) (a : Nat) (p : Pt), endPts a (l ++ [p]) = endPts a l + p.many
  | [], a, p => rfl
  | q :: r, a, p => endPts_snoc r (a + q.many) p
theorem ptOf_ok {f : Nat} {cl : List Cl} (hne : cl ≠ []) (h : ∀ x ∈ cl, okCl x) (hl : cl.length ≤ 64) (hf : f ≤ 1048576) : okPt (ptOf f cl) := by
  have h1 := seg_len h hl hf
  have h2 := List.length_pos_iff.2 hne
  have h3 : 1 ≤ (segB f cl).length := by
    unfold segB frameB sealB
    rw [List.length_append, fourB_len]
    omega
  exact ⟨h2, hl, h3, Nat.le_trans h1 (by decide), digB_len _⟩
theorem cuStep_ok {c : Cu} {cl : List Cl} (h : okCu c) (hne : cl ≠ []) (hok : ∀ x ∈ cl, okCl x) (hl : cl.length ≤ 64) (hs : c.next + cl.length ≤ c.hi) (hm : c.parts.length < 64) : okCu (cuStep c (ptOf c.next cl)) := by
  have hn : c.next ≤ 1048576 := by have := h.le; have := h.hi; omega
  refine ⟨okPts_snoc _ _ _ h.parts h.stop.symm (ptOf_ok hne hok hl hn), ?_, hs, h.hi, h.trim, ?_⟩
  · show endPts c.lo (c.parts ++ [ptOf c.next cl]) = _
    rw [endPts_snoc, h.stop]
    rfl
  · show (c.parts ++ [ptOf c.next cl]).length ≤ 64
    simp
    omega
end Go.Proofs.YtdmckfkhkjkdnaaGreatDoor
namespace Go.Proofs.YtdmckfkhkjkdnaaGreatDoor
open Go.RowKit Go.Maps
def lgS (L : Lg) : Sh := L.shs.headD (sh0 0)
def unitL (L : Lg) (a : Nat) : Sh := L.shs.getD (lastN L.shs.length a) (sh0 0)
def cellL (L : Lg) (a : Nat) : Cl := uat (unitL L a).l (unitL L a).D a
structure Log1 (L : Lg) : Prop where
  kd : L.shs.length = 1 ∨ L.shs.length = 3
  all : ∀ s ∈ L.shs, s.e = L.ep ∧ s.X.down = false
  se : L.se = L.ep
  next : L.next ≤ 200
  cells : ∀ a, okCl (cellL L a)
theorem unit_one {L : Lg} (h : L.shs = [lgS L]) (a : Nat) : unitL L a = lgS L := by
  have e : lastN 1 a = 0 := by unfold lastN; rw [homeN_1]; rfl
  unfold unitL
  rw [h]
  simp only [List.length_singleton, e]
  rfl
theorem cell_one {L : Lg} (h : L.shs = [lgS L]) (a : Nat) : cellL L a = uat (lgS L).l (lgS L).D a := by
  unfold cellL
  rw [unit_one h]
theorem Log1.home {L : Lg} (h : Log1 L) (a : Nat) : (∃ u, homeN L.shs.length a = [u] ∧ L.shs[u]? = some (unitL L a)) ∨ (∃ v u, homeN L.shs.length a = [v, u] ∧ L.shs[u]? = some (unitL L a)) := by
  have key : ∀ u, (homeN L.shs.length a).getLastD 0 = u → u < L.shs.length → L.shs[u]? = some (unitL L a) := fun u e hu => by
    unfold unitL lastN
    rw [e, List.getD_eq_getElem?_getD, List.getElem?_eq_getElem hu]
    rfl
  rcases h.kd with e | e
  · left
    refine ⟨0, by rw [e, homeN_1], key 0 (by rw [e, homeN_1]; rfl) (by omega)⟩
  · by_cases h2 : a % 2 = 0
    · left
      refine ⟨0, by rw [e, homeN_3, if_pos h2], key 0 (by rw [e, homeN_3, if_pos h2]; rfl) (by omega)⟩
    · right
      refine ⟨1, 2, by rw [e, homeN_3, if_neg h2], key 2 (by rw [e, homeN_3, if_neg h2]; rfl) (by omega)⟩
theorem Log1.unit {L : Lg} (h : Log1 L) (a : Nat) : (unitL L a).e = L.ep ∧ (unitL L a).X.down = false := by
  rcases h.home a with ⟨u, _, e⟩ | ⟨v, u, _, e⟩
  · exact h.all _ (List.mem_of_getElem? e)
  · exact h.all _ (List.mem_of_getElem? e)
def slabL (L : Lg) (hi f : Nat) : List Cl := (List.range (min 64 (hi - f))).map (fun j => cellL L (f + j))
theorem slab_len (L : Lg) (hi f : Nat) : (slabL L hi f).length = min 64 (hi - f) := by simp [slabL]
theorem slab_get {L : Lg} {hi f j : Nat} (h : j < min 64 (hi - f)) : (slabL L hi f)[j]? = some (cellL L (f + j)) := by
  unfold slabL
  rw [List.getElem?_map, List.getElem?_range h]
  rfl
theorem slab_ok {L : Lg} (h : Log1 L) {hi f : Nat} : ∀ x ∈ slabL L hi f, okCl x := by
  intro x hx
  unfold slabL at hx
  obtain ⟨j, _, rfl⟩ := List.mem_map.1 hx
  exact h.cells _
theorem slab_ne {L : Lg} {hi f : Nat} (h : f < hi) : slabL L hi f ≠ [] := by
  intro e
  have := slab_len L hi f
  rw [e] at this
  simp at this
  omega
def trimC : Nat → Nat → List Cl → Nat
  | t, _, [] => t
  | t, f, x :: r => trimC (if x.1 = 3 then max t (f + 1) else t) (f + 1) r
theorem trimC_le : ∀ (l : List Cl) (t f m : Nat), t ≤ m → f + l.length ≤ m → trimC t f l ≤ m
  | [], t, f, m, h, _ => h
  | x :: r, t, f, m, h, h2 => by
    simp at h2
    refine trimC_le r _ (f + 1) m ?_ (by omega)
    split
    · omega
    · exact h
theorem trimC_none : ∀ (l : List Cl) (t f : Nat), (∀ x ∈ l, x.1 ≠ 3) → trimC t f l = t
  | [], t, f, _ => rfl
  | x :: r, t, f, h => by
    show trimC _ (f + 1) r = t
    rw [if_neg (h x (by simp))]
    exact trimC_none r t (f + 1) (fun y hy => h y (by simp [hy]))
def partCu (L : Lg) (c : Cu) : Cu := ⟨c.lo, c.next + (slabL L c.hi c.next).length, c.hi, trimC c.trim c.next (slabL L c.hi c.next), c.parts ++ [ptOf c.next (slabL L c.hi c.next)]⟩
theorem partCu_ok {L : Lg} {c : Cu} (h : okCu c) (hl : Log1 L) (hlt : c.next < c.hi) (hm : c.parts.length < 64) : okCu (partCu L c) := by
  have hn := slab_len L c.hi c.next
  have h1 := cuStep_ok (cl := slabL L c.hi c.next) h (slab_ne hlt) (slab_ok hl) (by omega) (by omega) hm
  exact ⟨h1.parts, h1.stop, h1.le, h1.hi, trimC_le _ _ _ _ h.trim (by have := h.hi; omega), h1.many⟩
def cname : Byt := [99, 45, 101, 120, 112, 111, 114, 116]
theorem cname_ok : okObj cname := by
  refine ⟨?_, by decide, by decide⟩
  unfold okName
  decide
def ExB (b lb : Nat) (c : Cu) (pv : Value) (ov : Bool) : Obj := .cells #[.pointer (some ⟨b, 0, none⟩), .pointer (some ⟨lb, 0, none⟩), .int .i64 c.lo, .int .i64 c.next, .int .i64 c.hi, .int .i64 c.trim, pv, .bool ov] 177 (0, 0)
section
variable {w : World} {x b lb : Nat} {c : Cu} {pv : Value} {ov : Bool}
theorem ex_0 (h : w.heap[x]? = some (ExB b lb c pv ov)) : w.cell? ⟨x, 0, none⟩ = some (.pointer (some ⟨b, 0, none⟩)) := by simp [World.cell?, h, ExB]
theorem ex_1 (h : w.heap[x]? = some (ExB b lb c pv ov)) : w.cell? ⟨x, 1, none⟩ = some (.pointer (some ⟨lb, 0, none⟩)) := by simp [World.cell?, h, ExB]
theorem ex_2 (h : w.heap[x]? = some (ExB b lb c pv ov)) : w.cell? ⟨x, 2, none⟩ = some (.int .i64 c.lo) := by simp [World.cell?, h, ExB]
theorem ex_3 (h : w.heap[x]? = some (ExB b lb c pv ov)) : w.cell? ⟨x, 3, none⟩ = some (.int .i64 c.next) := by simp [World.cell?, h, ExB]
theorem ex_4 (h : w.heap[x]? = some (ExB b lb c pv ov)) : w.cell? ⟨x, 4, none⟩ = some (.int .i64 c.hi) := by simp [World.cell?, h, ExB]
theorem ex_5 (h : w.heap[x]? = some (ExB b lb c pv ov)) : w.cell? ⟨x, 5, none⟩ = some (.int .i64 c.trim) := by simp [World.cell?, h, ExB]
theorem ex_6 (h : w.heap[x]? = some (ExB b lb c pv ov)) : w.cell? ⟨x, 6, none⟩ = some pv := by simp [World.cell?, h, ExB]
theorem ex_7 (h : w.heap[x]? = some (ExB b lb c pv ov)) : w.cell? ⟨x, 7, none⟩ = some (.bool ov) := by simp [World.cell?, h, ExB]
theorem ex_f (h : w.heap[x]? = some (ExB b lb c pv ov)) (i : Nat) : w.frozen? ⟨x, i, none⟩ = false := by simp [World.frozen?, h, ExB]
theorem ex_set2 (h : w.heap[x]? = some (ExB b lb c pv ov)) (n : Nat) : (w.setCell ⟨x, 2, none⟩ (.int .i64 n)).heap[x]? = some (ExB b lb { c with lo := n } pv ov) := blk_set h 2 _
theorem ex_set3 (h : w.heap[x]? = some (ExB b lb c pv ov)) (n : Nat) : (w.setCell ⟨x, 3, none⟩ (.int .i64 n)).heap[x]? = some (ExB b lb { c with next := n } pv ov) := blk_set h 3 _
theorem ex_set4 (h : w.heap[x]? = some (ExB b lb c pv ov)) (n : Nat) : (w.setCell ⟨x, 4, none⟩ (.int .i64 n)).heap[x]? = some (ExB b lb { c with hi := n } pv ov) := blk_set h 4 _
theorem ex_set5 (h : w.heap[x]? = some (ExB b lb c pv ov)) (n : Nat) : (w.setCell ⟨x, 5, none⟩ (.int .i64 n)).heap[x]? = some (ExB b lb { c with trim := n } pv ov) := blk_set h 5 _
theorem ex_set6 (h : w.heap[x]? = some (ExB b lb c pv ov)) (v : Value) : (w.setCell ⟨x, 6, none⟩ v).heap[x]? = some (ExB b lb c v ov) := blk_set h 6 _
theorem ex_set7 (h : w.heap[x]? = some (ExB b lb c pv ov)) (k : Bool) : (w.setCell ⟨x, 7, none⟩ (.bool k)).heap[x]? = some (ExB b lb c pv k) := blk_set h 7 _
end
structure ExSt (F FL : Nat → Prop) (w : World) (x b lb q p : Nat) (lv : Value) (c : Cu) (pv : Value) (ov : Bool) (X : Dk) (L : Lg) : Prop where
  ex : w.heap[x]? = some (ExB b lb c pv ov)
  row : w.ownsRow 0 190 35 pv c.parts.length (ptsC c.parts)
  vt : w.heap[b]? = some (VtB q lv)
  st : StoreAt F w q p X
  lg : LgAt FL w lb L.shs.length L
  lay : Lay w
  out : ¬ F x ∧ ¬ F b ∧ x ≠ b ∧ ¬ FL x ∧ ¬ FL b ∧ 10 ≤ x ∧ 10 ≤ b
  apart : ∀ g, F g → ¬ FL g
  low : ∀ g, F g → 10 ≤ g ∧ g < w.heap.size
  lowL : ∀ g, FL g → g < w.heap.size
  pvo : ∀ g, pv.ownBlock = some g → ¬ F g ∧ g ≠ x ∧ g ≠ b ∧ ¬ FL g
theorem ExSt.keep {F FL S : Nat → Prop} {w w' : World} {x b lb q p : Nat} {lv pv : Value} {c : Cu} {ov : Bool} {X : Dk} {L : Lg} (h : ExSt F FL w x b lb q p lv c pv ov X L) (k : Keep S w w') (hn : ∀ g, g < w.heap.size → ¬ S g) : ExSt F FL w' x b lb q p lv c pv ov X L := by
  have k' : Keep Non w w' := k.mono (fun g hg e => hn g hg e)
  exact ⟨nonAt k' h.ex, ownsRow_keep h.row k' (fun _ _ e => e), nonAt k' h.vt, h.st.keep k' (fun _ _ e => e), h.lg.keepNon k', h.lay.keepNon k', h.out, h.apart, fun g x => ⟨(h.low g x).1, Nat.lt_of_lt_of_le (h.low g x).2 k'.size⟩, fun g x => Nat.lt_of_lt_of_le (h.lowL g x) k'.size, h.pvo⟩
theorem ExSt.turn {F FL F' : Nat → Prop} {w w' : World} {x b lb q p : Nat} {lv pv pv' : Value} {c c' : Cu} {ov ov' : Bool} {X X' : Dk} {L : Lg} (h : ExSt F FL w x b lb q p lv c pv ov X L) (k : Keep (fun g => F g ∨ g = x) w w') (sub : Sub F' F w) (hlow : ∀ g, F' g → g < w'.heap.size) (st : StoreAt F' w' q p X') (ex : w'.heap[x]? = some (ExB b lb c' pv' ov'))
    (row : w'.ownsRow 0 190 35 pv' c'.parts.length (ptsC c'.parts)) (hpv : ∀ g, pv'.ownBlock = some g → ¬ F' g ∧ g ≠ x ∧ g ≠ b ∧ ¬ FL g) : ExSt F' FL w' x b lb q p lv c' pv' ov' X' L := by
  have hb : b < w.heap.size := lt_of_block h.vt
  have hx : x < w.heap.size := lt_of_block h.ex
  refine ⟨ex, row, k.at h.vt (fun e => ?_), st, h.lg.keep k (fun g e s => ?_), h.lay.keep k (fun g e s => ?_), ⟨fun e => ?_, fun e => ?_, h.out.2.2.1, h.out.2.2.2.1, h.out.2.2.2.2.1, h.out.2.2.2.2.2.1, h.out.2.2.2.2.2.2⟩, fun g e e2 => ?_, fun g e => ⟨?_, hlow g e⟩, fun g e => Nat.lt_of_lt_of_le (h.lowL g e) k.size, hpv⟩
  · rcases e with e | e
    · exact h.out.2.1 e
    · exact h.out.2.2.1 e.symm
  · rcases s with s | s
    · exact h.apart g s e
    · subst s; exact h.out.2.2.2.1 e
  · rcases s with s | s
    · have := (h.low g s).1; omega
    · have := h.out.2.2.2.2.2.1; omega
  · rcases sub x e with y | y
    · exact h.out.1 y
    · omega
  · rcases sub b e with y | y
    · exact h.out.2.1 y
    · omega
  · rcases sub g e with y | y
    · exact h.apart g y e2
    · have := h.lowL g e2; omega
  · rcases sub g e with y | y
    · exact (h.low g y).1
    · have := (lt_of_block h.st.blk); have := (h.low q h.st.inF).1; omega
end Go.Proofs.YtdmckfkhkjkdnaaGreatDoor
