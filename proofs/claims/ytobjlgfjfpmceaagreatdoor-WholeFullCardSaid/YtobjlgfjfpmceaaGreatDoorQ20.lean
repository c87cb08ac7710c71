/- A sequencer as plain numbers: an epoch, the next address; what each call answers and leaves. No program in sight. · Further contracts of the shelf. ·  -/
import Derived.Shelf.Strconv.Itoa1
import Derived.Shelf.Strconv.Itoa2
import Derived.Shelf.Strconv.Itoa3
import Derived.Ground.SlgnProg
import Derived.Shelf.SlicesE.Clone
import Derived.Test.YtobjlgfjfpmceaaGreatDoorQ01
import Derived.Test.YtobjlgfjfpmceaaGreatDoorQ10
set_option linter.unusedVariables false
set_option maxRecDepth 100000
set_option maxHeartbeats 16000000
namespace Go.Proofs.YtobjlgfjfpmceaaGreatDoor
def askE (ep x : Int) : Int := if x < ep then 6 else if ep < x then 7 else 0
def fitB (lo hi n : Int) : Bool := decide (lo ≤ n ∧ n ≤ hi)
def asksE (ep x : Int) (fits : Bool) : Int := if fits then askE ep x else 1
def raiseE (ep x n : Int) : Int := asksE ep x (fitB 0 1048576 n)
def raiseN (ep nx x n : Int) : Int := if raiseE ep x n = 0 then (if nx < n then n else nx) else nx
def setE (ep x n : Int) : Int := if fitB 0 1099511627776 x && fitB 0 1048576 n then (if x ≤ ep then 6 else 0) else 1
def setP (ep x n : Int) : Int := if setE ep x n = 0 then x else ep
def setN (ep nx x n : Int) : Int := if setE ep x n = 0 then n else nx
def tailV (ep nx x : Int) : Int := if askE ep x = 0 then nx else 0
def SqIn (ep nx : Int) : Prop := 0 ≤ ep ∧ ep ≤ 1099511627776 ∧ 0 ≤ nx ∧ nx ≤ 1048576
theorem fitB_true {lo hi n : Int} (h : fitB lo hi n = true) : lo ≤ n ∧ n ≤ hi := of_decide_eq_true h
theorem fitB_mk {lo hi n : Int} (h : lo ≤ n) (h' : n ≤ hi) : fitB lo hi n = true := decide_eq_true ⟨h, h'⟩
theorem fitB_no {lo hi n : Int} (h : n < lo ∨ hi < n) : fitB lo hi n = false := decide_eq_false (by omega)
end Go.Proofs.YtobjlgfjfpmceaaGreatDoor
namespace Go.Proofs
open Go.Shelf
def Tryz.laysM171_ren : Go.Shelf.Ren := ⟨fun | 171 => 121 | 243 => 179 | 246 => 249 | 283 => 303 | 284 => 304 | 285 => 305 | 286 => 306 | 129 => 224 | 317 => 338 | 318 => 339 | 319 => 340 | 320 => 341 | 337 => 364 | 338 => 365 | n => n, fun | 3 => 3 | 9 => 9 | 2 => 2 | 4 => 4 | 171 => 379 | 0 => 0 | 53 => 141 | 37 => 53 | 5 => 5 | 173 => 381 | 212 => 404 | 51 => 300 | 20 => 20 | 213 => 405 | 46 => 105 | 232 => 80 | 233 => 445 | n => n, fun | 17 => 1 | 18 => 8 | 19 => 9 | n => n⟩
theorem Tryz.laysM171 : Go.Proofs.LaysM.n171 Tryz.prog Tryz.laysM171_ren := {
  mixed := by kernel_rfl
  f129 := Tryz.func224.trans (congrArg some (by kernel_rfl))
  f171 := Tryz.func121.trans (congrArg some (by kernel_rfl))
  f243 := Tryz.func179.trans (congrArg some (by kernel_rfl))
  f246 := Tryz.func249.trans (congrArg some (by kernel_rfl))
  f283 := Tryz.func303.trans (congrArg some (by kernel_rfl))
  f284 := Tryz.func304.trans (congrArg some (by kernel_rfl))
  f285 := Tryz.func305.trans (congrArg some (by kernel_rfl))
  f286 := Tryz.func306.trans (congrArg some (by kernel_rfl))
  f317 := Tryz.func338.trans (congrArg some (by kernel_rfl))
  f318 := Tryz.func339.trans (congrArg some (by kernel_rfl))
  f319 := Tryz.func340.trans (congrArg some (by kernel_rfl))
  f320 := Tryz.func341.trans (congrArg some (by kernel_rfl))
  f337 := Tryz.func364.trans (congrArg some (by kernel_rfl))
  f338 := Tryz.func365.trans (congrArg some (by kernel_rfl))
  t0 := Tryz.underlying0
  a0 := Tryz.isAgg0
  z0 := Tryz.sizeOf0
  v0 := Tryz.zeroValue0
  t2 := Tryz.underlying2
  a2 := Tryz.isAgg2
  z2 := Tryz.sizeOf2
  v2 := Tryz.zeroValue2
  t3 := Tryz.underlying3
  a3 := Tryz.isAgg3
  z3 := Tryz.sizeOf3
  v3 := Tryz.zeroValue3
  t4 := Tryz.underlying4
  a4 := Tryz.isAgg4
  z4 := Tryz.sizeOf4
  v4 := Tryz.zeroValue4
  t5 := Tryz.underlying5
  a5 := Tryz.isAgg5
  z5 := Tryz.sizeOf5
  v5 := Tryz.zeroValue5
  t9 := Tryz.underlying9
  a9 := Tryz.isAgg9
  z9 := Tryz.sizeOf9
  v9 := Tryz.zeroValue9
  t20 := Tryz.underlying20
  a20 := Tryz.isAgg20
  z20 := Tryz.sizeOf20
  v20 := Tryz.zeroValue20
  t37 := Tryz.underlying53
  a37 := Tryz.isAgg53
  z37 := Tryz.sizeOf53
  v37 := Tryz.zeroValue53
  t46 := Tryz.underlying105
  a46 := Tryz.isAgg105
  z46 := Tryz.sizeOf105
  v46 := Tryz.zeroValue105
  t51 := Tryz.underlying300
  a51 := Tryz.isAgg300
  z51 := Tryz.sizeOf300
  v51 := Tryz.zeroValue300
  t53 := Tryz.underlying141
  a53 := Tryz.isAgg141
  z53 := Tryz.sizeOf141
  v53 := Tryz.zeroValue141
  t171 := Tryz.underlying379
  a171 := Tryz.isAgg379
  z171 := Tryz.sizeOf379
  v171 := Tryz.zeroValue379
  t173 := Tryz.underlying381
  a173 := Tryz.isAgg381
  z173 := Tryz.sizeOf381
  v173 := Tryz.zeroValue381
  t212 := Tryz.underlying404
  a212 := Tryz.isAgg404
  z212 := Tryz.sizeOf404
  v212 := Tryz.zeroValue404
  t213 := Tryz.underlying405
  a213 := Tryz.isAgg405
  z213 := Tryz.sizeOf405
  t232 := Tryz.underlying80
  a232 := Tryz.isAgg80
  z232 := Tryz.sizeOf80
  v232 := Tryz.zeroValue80
  t233 := Tryz.underlying445
  a233 := Tryz.isAgg445
  z233 := Tryz.sizeOf445
  v233 := Tryz.zeroValue445
  g17 := by kernel_rfl
  g18 := by kernel_rfl
  g19 := by kernel_rfl
  i0 := by kernel_rfl
  i2 := by kernel_rfl
  i3 := by kernel_rfl
  i4 := by kernel_rfl
  i5 := by kernel_rfl
  i9 := by kernel_rfl
  i20 := by kernel_rfl
  i37 := by kernel_rfl
  i46 := by kernel_rfl
  i51 := by kernel_rfl
  i53 := by kernel_rfl
  i171 := by kernel_rfl
  i173 := by kernel_rfl
  i212 := by kernel_rfl
  i232 := by kernel_rfl
  i233 := by kernel_rfl
  m17 := by kernel_rfl
  m18 := by kernel_rfl
  m19 := by kernel_rfl }
open Go.RowKit Go.Sort Go.Lib in
/-- strconv.Itoa: "Itoa is equivalent to FormatInt(int64(i), 10).": i's DECIMAL NUMERAL ('Lib.itoa': a '-' where i is negative, then the digits), FOR EVERY int. The world behind the call: the world before it, new blocks behind the heap (the library's 'var a [24]byte'), draws. (LAID: no walk: one application.) -/
theorem Tryz.strconv_Itoa (n : Int) (h0 : -9223372036854775808 ≤ n) (h1 : n ≤ 9223372036854775807) (w : World) (htab : Lib.TabIs Tryz.prog w "internal/strconv.uint64pow10" .u64 Lib.pow10Tab) :
    Calls Tryz.prog 121 #[.int .i64 n] w fun e w' => e = .returned (.string ⟨(Lib.itoa n).toArray⟩) ∧ ∃ k os, w' = grow (w.drewN k) os := Any.strconv_Itoa Tryz.laysM171 n h0 h1 w htab
def Tryz.lays171_ren : Go.Shelf.Ren := ⟨fun | 171 => 121 | 243 => 179 | 246 => 249 | 283 => 303 | 284 => 304 | 285 => 305 | 286 => 306 | 129 => 224 | 317 => 338 | 318 => 339 | 319 => 340 | 320 => 341 | 337 => 364 | 338 => 365 | n => n, fun | 3 => 3 | 9 => 9 | 2 => 2 | 4 => 4 | 171 => 379 | 0 => 0 | 53 => 141 | 37 => 53 | 5 => 5 | 173 => 381 | 212 => 404 | 51 => 300 | 20 => 20 | 213 => 405 | 46 => 105 | 232 => 80 | 233 => 445 | n => n, fun | 17 => 1 | 18 => 8 | 19 => 9 | n => n⟩
theorem Tryz.lays171 : Go.Proofs.Lays.n171 Tryz.prog Tryz.lays171_ren := {
  mixed := by kernel_rfl
  f129 := Tryz.func224.trans (congrArg some (by kernel_rfl))
  f171 := Tryz.func121.trans (congrArg some (by kernel_rfl))
  f243 := Tryz.func179.trans (congrArg some (by kernel_rfl))
  f246 := Tryz.func249.trans (congrArg some (by kernel_rfl))
  f283 := Tryz.func303.trans (congrArg some (by kernel_rfl))
  f284 := Tryz.func304.trans (congrArg some (by kernel_rfl))
  f285 := Tryz.func305.trans (congrArg some (by kernel_rfl))
  f286 := Tryz.func306.trans (congrArg some (by kernel_rfl))
  f317 := Tryz.func338.trans (congrArg some (by kernel_rfl))
  f318 := Tryz.func339.trans (congrArg some (by kernel_rfl))
  f319 := Tryz.func340.trans (congrArg some (by kernel_rfl))
  f320 := Tryz.func341.trans (congrArg some (by kernel_rfl))
  f337 := Tryz.func364.trans (congrArg some (by kernel_rfl))
  f338 := Tryz.func365.trans (congrArg some (by kernel_rfl))
  t0 := Tryz.underlying0
  a0 := Tryz.isAgg0
  z0 := Tryz.sizeOf0
  v0 := Tryz.zeroValue0
  t2 := Tryz.underlying2
  a2 := Tryz.isAgg2
  z2 := Tryz.sizeOf2
  v2 := Tryz.zeroValue2
  t3 := Tryz.underlying3
  a3 := Tryz.isAgg3
  z3 := Tryz.sizeOf3
  v3 := Tryz.zeroValue3
  t4 := Tryz.underlying4
  a4 := Tryz.isAgg4
  z4 := Tryz.sizeOf4
  v4 := Tryz.zeroValue4
  t5 := Tryz.underlying5
  a5 := Tryz.isAgg5
  z5 := Tryz.sizeOf5
  v5 := Tryz.zeroValue5
  t9 := Tryz.underlying9
  a9 := Tryz.isAgg9
  z9 := Tryz.sizeOf9
  v9 := Tryz.zeroValue9
  t20 := Tryz.underlying20
  a20 := Tryz.isAgg20
  z20 := Tryz.sizeOf20
  v20 := Tryz.zeroValue20
  t37 := Tryz.underlying53
  a37 := Tryz.isAgg53
  z37 := Tryz.sizeOf53
  v37 := Tryz.zeroValue53
  t46 := Tryz.underlying105
  a46 := Tryz.isAgg105
  z46 := Tryz.sizeOf105
  v46 := Tryz.zeroValue105
  t51 := Tryz.underlying300
  a51 := Tryz.isAgg300
  z51 := Tryz.sizeOf300
  v51 := Tryz.zeroValue300
  t53 := Tryz.underlying141
  a53 := Tryz.isAgg141
  z53 := Tryz.sizeOf141
  v53 := Tryz.zeroValue141
  t171 := Tryz.underlying379
  a171 := Tryz.isAgg379
  z171 := Tryz.sizeOf379
  v171 := Tryz.zeroValue379
  t173 := Tryz.underlying381
  a173 := Tryz.isAgg381
  z173 := Tryz.sizeOf381
  v173 := Tryz.zeroValue381
  t212 := Tryz.underlying404
  a212 := Tryz.isAgg404
  z212 := Tryz.sizeOf404
  v212 := Tryz.zeroValue404
  t213 := Tryz.underlying405
  a213 := Tryz.isAgg405
  z213 := Tryz.sizeOf405
  t232 := Tryz.underlying80
  a232 := Tryz.isAgg80
  z232 := Tryz.sizeOf80
  v232 := Tryz.zeroValue80
  t233 := Tryz.underlying445
  a233 := Tryz.isAgg445
  z233 := Tryz.sizeOf445
  v233 := Tryz.zeroValue445
  g17 := by kernel_rfl
  g18 := by kernel_rfl
  g19 := by kernel_rfl }
open Go.RowKit Go.Sort Go.Lib in
/-- THE ROAD WITHOUT THE TABLE: 0 <= i < 100: NO PREMISE ON THE WORLD, AND THE WORLD IS AS IT WAS: a row that keeps its argument in that range need list no table ('laid = []'). (LAID: no walk: one application.) -/
theorem Tryz.strconv_Itoa_small (i : Nat) (hi : i < 100) (w : World) :
    Calls Tryz.prog 121 #[.int .i64 i] w fun e w' => e = .returned (.string ⟨(Lib.decDigits i).toArray⟩) ∧ w' = w := Any.strconv_Itoa_small Tryz.lays171 i hi w
end Go.Proofs
namespace Go.Proofs.YtobjlgfjfpmceaaGreatDoor
open Go.RowKit Go.Maps
def ClIn (w : World) (T : Nat → Prop) (v : Value) (x : Cl) : Prop := ∃ u, v = .agg #[.int .i64 x.1, u] ∧ BsIn w T u x.2
theorem ClIn.fun1 (w : World) (T : Nat → Prop) : Fun1 (ClIn w T) := by
  rintro v ⟨k, l⟩ ⟨k', l'⟩ ⟨u, rfl, h⟩ ⟨u', e, h'⟩
  simp only [Value.agg.injEq, Array.mk.injEq, List.cons.injEq, Value.int.injEq, true_and, and_true] at e
  obtain ⟨e1, e2⟩ := e
  subst e2
  subst e1
  have e : l = l' := BsIn.fun1 w T _ _ _ h h'
  rw [e]
theorem ClIn.keep {w w' : World} {S T U : Nat → Prop} {v : Value} {x : Cl} (h : ClIn w T v x) (k : Keep S w w') (hn : ∀ g, T g → ¬ S g) (hu : ∀ g, T g → U g) : ClIn w' U v x := by
  obtain ⟨u, e, hb⟩ := h
  exact ⟨u, e, hb.keep k hn hu⟩
theorem BsIn.nil (w : World) (T : Nat → Prop) (c : Nat) : BsIn w T (.slice none 0 c) [] := ⟨⟨none, c, rfl, fun h => absurd rfl h⟩, fun g e => by cases e⟩
theorem ClIn.nil (w : World) (T : Nat → Prop) (k : Int) : ClIn w T (.agg #[.int .i64 k, .slice none 0 0]) (k, []) := ⟨_, rfl, BsIn.nil w T 0⟩
abbrev Un := DataW Cl
def ulit (a : Nat) : Lit := .int .i64 a
def heldC : DataW Cl → Cl
  | .held x => x
  | _ => (0, [])
def ucell (D : Un) (a : Nat) : Cl := heldC (D.atKey (ulit a) (.held (0, [])))
def uput (D : Un) (a : Nat) (x : Cl) : Un := D.put (ulit a) (.held x)
theorem ulit_key (a : Nat) : WideAt.IsKeyLit (ulit a) := trivial
theorem ulit_ne {a b : Nat} (h : a ≠ b) : ulit a ≠ ulit b := fun e => h (by unfold ulit at e; injection e with _ e; omega)
theorem ucell_put_same {D : Un} {a : Nat} {x : Cl} (h : IsMap D) : ucell (uput D a x) a = x := by unfold ucell uput; rw [atKey_put_same h (ulit_key a)]; rfl
theorem ucell_put_other {D : Un} {a b : Nat} {x : Cl} (h : b ≠ a) : ucell (uput D a x) b = ucell D b := by unfold ucell uput; rw [atKey_put_other (ulit_ne h)]
abbrev CsMap (w : World) (T : Nat → Prop) (b : Nat) (D : Un) : Prop := MapAt w 3 (ClIn w T) b D
theorem CsMap.keep {w w' : World} {S T U : Nat → Prop} {b : Nat} {D : Un} (h : CsMap w T b D) (k : Keep S w w') (hb : ¬ S b) (hn : ∀ g, T g → ¬ S g) (hu : ∀ g, T g → U g) : CsMap w' U b D :=
  MapAt.keep h k hb (ClIn.fun1 _ _) (fun v x hx => hx.keep k hn hu)
theorem int_law : Keyed Tryz.prog 3 := int_keyed Tryz.underlying3
theorem ulit_of (a : Nat) (h : a ≤ 4611686018427387904) : keyOf Tryz.prog 3 (.int .i64 a) = some (ulit a) :=
  keyOf_int_mk Tryz.underlying3 (by simp only [Lit.wf, IntKind.min, IntKind.max, IntKind.signed, IntKind.bits, Bool.and_eq_true, decide_eq_true_eq, if_true]; omega)
def UnB (e l m : Nat) : Obj := .cells #[.int .i64 e, .int .i64 l, .map (some m)] 219 (0, 0)
section
variable {w : World} {b e l m : Nat}
theorem un_0 (h : w.heap[b]? = some (UnB e l m)) : w.cell? ⟨b, 0, none⟩ = some (.int .i64 e) := by simp [World.cell?, h, UnB]
theorem un_1 (h : w.heap[b]? = some (UnB e l m)) : w.cell? ⟨b, 1, none⟩ = some (.int .i64 l) := by simp [World.cell?, h, UnB]
theorem un_2 (h : w.heap[b]? = some (UnB e l m)) : w.cell? ⟨b, 2, none⟩ = some (.map (some m)) := by simp [World.cell?, h, UnB]
theorem un_f (h : w.heap[b]? = some (UnB e l m)) (i : Nat) : w.frozen? ⟨b, i, none⟩ = false := by simp [World.frozen?, h, UnB]
theorem un_set0 (h : w.heap[b]? = some (UnB e l m)) (k : Nat) : (w.setCell ⟨b, 0, none⟩ (.int .i64 k)).heap[b]? = some (UnB k l m) := blk_set h 0 _
theorem un_set1 (h : w.heap[b]? = some (UnB e l m)) (k : Nat) : (w.setCell ⟨b, 1, none⟩ (.int .i64 k)).heap[b]? = some (UnB e k m) := blk_set h 1 _
end
def keysOk (D : Un) : Prop := ∀ kl, has D kl = true → ∃ a : Nat, kl = ulit a ∧ a < 1048576
theorem keysOk.nil : keysOk (.map []) := fun kl h => by simp [has] at h
theorem keysOk.put {D : Un} (h : keysOk D) {a : Nat} (ha : a < 1048576) (x : Cl) : keysOk (uput D a x) := by
  intro kl hk
  by_cases e : kl = ulit a
  · exact ⟨a, e, ha⟩
  · exact h kl (by rw [← hk]; unfold uput; rw [has_put_other e])
structure UnIn (F T : Nat → Prop) (w : World) (b m e l : Nat) (D : Un) : Prop where
  blk : w.heap[b]? = some (UnB e l m)
  cells : CsMap w T m D
  inF : F b ∧ F m ∧ ∀ g, T g → F g
  apart : b ≠ m
  outT : ¬ T b ∧ ¬ T m ∧ ∀ g, T g → g < w.heap.size
  ep : e ≤ 1099511627776
  lo : l ≤ 1048576
  keys : keysOk D
def UnAt (F : Nat → Prop) (w : World) (b e l : Nat) (D : Un) : Prop := ∃ T m, UnIn F T w b m e l D
theorem UnIn.keep {F T S : Nat → Prop} {w w' : World} {b m e l : Nat} {D : Un} (h : UnIn F T w b m e l D) (k : Keep S w w') (hn : ∀ g, F g → ¬ S g) : UnIn F T w' b m e l D :=
  ⟨k.at h.blk (hn _ h.inF.1), h.cells.keep k (hn _ h.inF.2.1) (fun g e => hn g (h.inF.2.2 g e)) (fun _ e => e), h.inF, h.apart, ⟨h.outT.1, h.outT.2.1, fun g e => k.lt (h.outT.2.2 g e)⟩, h.ep, h.lo, h.keys⟩
theorem UnAt.keep {F S : Nat → Prop} {w w' : World} {b e l : Nat} {D : Un} (h : UnAt F w b e l D) (k : Keep S w w') (hn : ∀ g, F g → ¬ S g) : UnAt F w' b e l D := by
  obtain ⟨T, m, h⟩ := h
  exact ⟨T, m, h.keep k hn⟩
theorem UnAt.keepNon {F : Nat → Prop} {w w' : World} {b e l : Nat} {D : Un} (h : UnAt F w b e l D) (k : Keep Non w w') : UnAt F w' b e l D := h.keep k (fun _ _ e => e)
theorem UnAt.mono {F G : Nat → Prop} {w : World} {b e l : Nat} {D : Un} (h : UnAt F w b e l D) (hs : ∀ g, F g → G g) : UnAt G w b e l D := by
  obtain ⟨T, m, h⟩ := h
  exact ⟨T, m, h.blk, h.cells, ⟨hs _ h.inF.1, hs _ h.inF.2.1, fun g e => hs g (h.inF.2.2 g e)⟩, h.apart, h.outT, h.ep, h.lo, h.keys⟩
theorem unin_yes (x most : Int) (w : World) (h1 : 0 ≤ x) (h2 : x ≤ most) :
    Calls Tryz.prog 211 #[.int .i64 x, .int .i64 most] w fun e w' => e = .returned (.bool true) ∧ w' = w := by
  go_enter Tryz.func211, Tryz.ntmps211
  go_wp2_with fail
  go_ret
  exact ⟨rfl, rfl⟩
theorem alloc2_at' (w : World) (a b : Obj) : ((w.alloc a).alloc b).heap[w.heap.size + 1]? = some b := by have := blk_new (w.alloc a) b; rwa [show (w.alloc a).heap.size = w.heap.size + 1 by simp] at this
theorem unnew_any (w : World) :
    Calls Tryz.prog 228 #[] w fun e w' => ∃ b, e = .returned (.pointer (some ⟨b, 0, none⟩)) ∧ Keep Non w w' ∧ UnAt (fun g => w.heap.size ≤ g ∧ g < w'.heap.size) w' b 0 0 (.map []) := by
  have hmm := @run_makeMap Tryz.prog
  go_enter Tryz.func228, Tryz.ntmps228
  go_wp2_with fail
  go_ret
  have k1 : Keep Non w (w.alloc (.map #[] 0)) := (Keep.refl _ _).alloc _
  have k2 : Keep Non (w.alloc (.map #[] 0)) ((w.alloc (.map #[] 0)).alloc (UnB 0 0 w.heap.size)) := (Keep.refl _ _).alloc _
  have hb := alloc2_at' w (.map #[] 0) (UnB 0 0 w.heap.size)
  have hm : CsMap (w.alloc (.map #[] 0)) Non w.heap.size (.map []) := MapAt.new w _ _
  exact ⟨_, rfl, k1.trans1 k2, Non, _, hb, hm.keep k2 (fun e => e) (fun _ e => e.elim) (fun _ e => e), ⟨by first | (simp; done) | (simp; omega), by first | (simp; done) | (simp; omega), fun _ e => e.elim⟩, by omega, ⟨fun e => e, fun e => e, fun _ e => e.elim⟩, by omega, by omega, keysOk.nil⟩
theorem uncurrent_ok (F : Nat → Prop) (b e l : Nat) (D : Un) (w : World) (h : UnAt F w b e l D) :
    Calls Tryz.prog 268 #[.pointer (some ⟨b, 0, none⟩), .int .i64 e] w fun r w' => r = .returned .nilIface ∧ w' = w := by
  obtain ⟨T, m, h⟩ := h
  have c0 := un_0 h.blk
  clear h
  go_enter Tryz.func268, Tryz.ntmps268
  go_wp2_with fail
  go_ret
  exact ⟨rfl, rfl⟩
theorem unasks_ok (F : Nat → Prop) (b e l : Nat) (D : Un) (w : World) (h : UnAt F w b e l D) :
    Calls Tryz.prog 210 #[.pointer (some ⟨b, 0, none⟩), .int .i64 e, .bool true] w fun r w' => r = .returned .nilIface ∧ w' = w := by
  have CU := Lib.hid (uncurrent_ok F b e l D w h)
  clear h
  go_enter Tryz.func210, Tryz.ntmps210
  go_wp2_with (go_at_call 268; refine CU.out.mono ?_; rintro r w1 ⟨rfl, e1⟩; subst e1)
  go_ret
  exact ⟨rfl, rfl⟩
theorem unlow_ok (F : Nat → Prop) (b e l : Nat) (D : Un) (w : World) (h : UnAt F w b e l D) :
    Calls Tryz.prog 81 #[.pointer (some ⟨b, 0, none⟩)] w fun r w' => r = .returned (.int .i64 l) ∧ w' = w := by
  obtain ⟨T, m, h⟩ := h
  have c1 := un_1 h.blk
  clear h
  go_enter Tryz.func81, Tryz.ntmps81
  go_wp2_with fail
  go_ret
  exact ⟨rfl, rfl⟩
theorem unepoch_ok (F : Nat → Prop) (b e l : Nat) (D : Un) (w : World) (h : UnAt F w b e l D) :
    Calls Tryz.prog 351 #[.pointer (some ⟨b, 0, none⟩)] w fun r w' => r = .returned (.int .i64 e) ∧ w' = w := by
  obtain ⟨T, m, h⟩ := h
  have c1 := un_0 h.blk
  clear h
  go_enter Tryz.func351, Tryz.ntmps351
  go_wp2_with fail
  go_ret
  exact ⟨rfl, rfl⟩
theorem bsin_alloc {w : World} {o o' : Obj} {T F : Nat → Prop} {v : Value} {l : List UInt8} (hT : ∀ g, T g → g < w.heap.size) (h : BsIn (w.alloc o) T v l) (hF : ∀ g, T g → F g) : BsIn (w.alloc o') F v l := by
  refine ⟨?_, fun g e => hF g (h.2 g e)⟩
  obtain ⟨a, c, rfl, hx⟩ := h.1
  refine ⟨a, c, rfl, fun hne => ?_⟩
  obtain ⟨g, off, rfl, hc⟩ := hx hne
  have hg := hT g (h.2 g rfl)
  refine ⟨g, off, rfl, fun j u hu => ?_⟩
  have := hc j u hu
  unfold World.cell? at this ⊢
  rw [Below.heap_alloc w o g hg] at this
  rw [Below.heap_alloc w o' g hg]
  exact this
def uat (l : Nat) (D : Un) (a : Nat) : Cl := if a < l then (3, []) else ucell D a
theorem unat_ok (F : Nat → Prop) (b e l a : Nat) (D : Un) (w : World) (h : UnAt F w b e l D) (ha : a ≤ 1048576) :
    Calls Tryz.prog 213 #[.pointer (some ⟨b, 0, none⟩), .int .i64 a] w fun r w' => ∃ v, r = .returned v ∧ ClIn w' F v (uat l D a) ∧ Keep Non w w' := by
  obtain ⟨T, m, h⟩ := h
  have kA : Keep Non w (w.alloc (ClB 0 (.slice none 0 0))) := (Keep.refl _ _).alloc _
  have hA := h.keep kA (fun _ _ e => e)
  have c1 := un_1 hA.blk
  have c2 := un_2 hA.blk
  have hkey := ulit_of a (by omega)
  have M := Lib.hid hA.cells
  have IF := Lib.hid h.inF.2.2
  have hB := blk_new w (ClB 0 (.slice none 0 0))
  have B := Lib.hid hB
  have hz := Tryz.zeroValue55
  unfold ClB at c1 c2
  have HT := Lib.hid h.outT.2.2
  clear h hA
  by_cases hl : a < l
  · have e0 : uat l D a = (3, []) := if_pos hl
    rw [e0]
    go_enter Tryz.func213, Tryz.ntmps213
    go_wp2_with fail
    have hb := blk_new w (ClB 3 (.slice none 0 0))
    have k0 := cl0 hb
    have k1 := cl1 hb
    unfold ClB at k0 k1
    refine bodyPost_ret (v := .agg #[.int .i64 3, .slice none 0 0]) (by simp [results, Tryz.results213, go_sem, k0, k1]) rfl ?_
    exact ⟨_, rfl, ClIn.nil _ _ 3, (Keep.refl _ _).alloc _⟩
  · have e0 : uat l D a = ucell D a := if_neg hl
    rw [e0]
    have hl2 : ¬ (a : Int) < l := by omega
    go_enter Tryz.func213, Tryz.ntmps213
    go_wp2_with (at_lookup; refine wpList_look rfl _ _ 217 rfl 55 int_law Tryz.underlying217 (hz _) ((0, []) : Cl) (ClIn.fun1 _ T) (ClIn.nil _ _ 0) rfl M.out _ _ rfl hkey ?_; intro v y hv hat; have HV := Lib.hid hv; have HAT := Lib.hid hat; obtain ⟨u, rfl, ⟨ua, uc, rfl, _⟩, _⟩ := hv; clear hat)
    have e1 : ucell D a = y := by unfold ucell; rw [HAT.out]; rfl
    rw [e1]
    have hb := blk_new w (ClB y.1 (.slice ua y.2.length uc))
    have k0 := cl0 hb
    have k1 := cl1 hb
    unfold ClB at k0 k1
    refine bodyPost_ret (v := .agg #[.int .i64 y.1, .slice ua y.2.length uc]) (by simp [results, Tryz.results213, go_sem, k0, k1]) rfl ?_
    have hv := HV.out
    rw [List.length_map] at hv
    refine ⟨_, rfl, ?_, (Keep.refl _ _).alloc _⟩
    obtain ⟨u, eu, hu⟩ := hv
    exact ⟨u, eu, bsin_alloc HT.out hu IF.out⟩
end Go.Proofs.YtobjlgfjfpmceaaGreatDoor
