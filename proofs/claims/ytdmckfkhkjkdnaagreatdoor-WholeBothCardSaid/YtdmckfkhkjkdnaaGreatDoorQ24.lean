/- Puts and deletes on a disk that has power and no fuse: the plain law. · Shelves in memory; their small functions: walked. · shelf.Do, where the act go -/
import Derived.Test.YtdmckfkhkjkdnaaGreatDoorQ20
import Derived.Test.YtdmckfkhkjkdnaaGreatDoorQ22
set_option linter.unusedVariables false
set_option maxRecDepth 100000
set_option maxHeartbeats 16000000
namespace Go.Proofs.YtdmckfkhkjkdnaaGreatDoor
open Go.RowKit Go.Maps
theorem tilde_ne (n : Byt) : n ≠ tilde n := by
  intro e
  have := congrArg List.length e
  simp [tilde] at this
theorem Dk.free.write {X : Dk} (h : X.free) {n b : Byt} (hb : b.length ≤ 65536) : X.write n b = if X.full n b then (5, X) else (0, X.add (.write n b)) := by
  unfold Dk.write
  rw [h.works]
  simp only [ne_eq, not_true, if_false]
  rw [if_neg (by omega)]
theorem Dk.free.add {X : Dk} (h : X.free) (c : Chg) : (X.add c).free := h
def putFl (D : Fl) (n b : Byt) : Fl := fput (fdel (fput D (tilde n) b) (tilde n)) n b
theorem sput_free {X : Dk} (h : X.free) (hm : IsMap X.shown) (n b : Byt) (hb : b.length ≤ 65536) :
    X.sput n b = if X.full (tilde n) b then (5, X) else (0, { X with sure := putFl X.shown n b, shown := putFl X.shown n b, pend := [] }) := by
  unfold Dk.sput
  rw [h.write hb]
  by_cases hf : X.full (tilde n) b
  · rw [if_pos hf, if_pos hf]
    simp
  · rw [if_neg hf, if_neg hf]
    have f1 : (X.add (.write (tilde n) b)).free := h.add _
    simp only [ne_eq, not_true, if_false]
    rw [f1.sync]
    simp only [not_true, if_false]
    have f2 : ({ X.add (.write (tilde n) b) with sure := (X.add (.write (tilde n) b)).shown, pend := [] } : Dk).free := f1
    have hr : ({ X.add (.write (tilde n) b) with sure := (X.add (.write (tilde n) b)).shown, pend := [] } : Dk).rename (tilde n) n = (0, ({ X.add (.write (tilde n) b) with sure := (X.add (.write (tilde n) b)).shown, pend := [] } : Dk).add (.rename (tilde n) n)) := by
      unfold Dk.rename
      rw [f2.works]
      simp only [ne_eq, not_true, if_false]
      rw [if_pos]
      show fhas (fput X.shown (tilde n) b) (tilde n) = true
      exact fhas_put_same hm
    rw [hr]
    simp only [not_true, if_false]
    have f3 : (({ X.add (.write (tilde n) b) with sure := (X.add (.write (tilde n) b)).shown, pend := [] } : Dk).add (.rename (tilde n) n)).free := f2.add _
    rw [f3.sync]
    have e : (({ X.add (.write (tilde n) b) with sure := (X.add (.write (tilde n) b)).shown, pend := [] } : Dk).add (.rename (tilde n) n)).shown = putFl X.shown n b := by
      show (if fhas (fput X.shown (tilde n) b) (tilde n) = true then fput (fdel (fput X.shown (tilde n) b) (tilde n)) n (fget (fput X.shown (tilde n) b) (tilde n)) else fput X.shown (tilde n) b) = _
      rw [if_pos (fhas_put_same hm), fget_put_same hm]
      rfl
    rw [e]
    rfl
section
variable {D : Fl} {n m b : Byt}
theorem putFl_has_same (h : IsMap D) : fhas (putFl D n b) n = true := fhas_put_same (isMap_del (isMap_put h))
theorem putFl_get_same (h : IsMap D) : fget (putFl D n b) n = b := fget_put_same (isMap_del (isMap_put h))
theorem putFl_has_tilde : fhas (putFl D n b) (tilde n) = false := by
  unfold putFl
  rw [fhas_put_other (tilde_ne n).symm]
  exact fhas_del_same
theorem putFl_has_other (h1 : m ≠ n) (h2 : m ≠ tilde n) : fhas (putFl D n b) m = fhas D m := by
  unfold putFl
  rw [fhas_put_other h1, fhas_del_other h2, fhas_put_other h2]
theorem putFl_get_other (h1 : m ≠ n) (h2 : m ≠ tilde n) : fget (putFl D n b) m = fget D m := by
  unfold putFl
  rw [fget_put_other h1, fget_del_other h2, fget_put_other h2]
end
theorem okObj.ne_tilde {n m : Byt} (h : okObj n) : n ≠ Go.Proofs.YtdmckfkhkjkdnaaGreatDoor.tilde m := by
  intro e
  apply h.2.2
  rw [e]
  simp [Go.Proofs.YtdmckfkhkjkdnaaGreatDoor.tilde]
theorem sdel_free {X : Dk} (h : X.free) (n : Byt) :
    X.sdel n = if fhas X.shown n = true then (0, { X with sure := fdel X.shown n, shown := fdel X.shown n, pend := [] }) else (4, X) := by
  unfold Dk.sdel
  by_cases hh : fhas X.shown n = true
  · rw [h.remove hh, if_pos hh]
    simp only [ne_eq, not_true, if_false]
    rw [(h.add (.remove n)).sync]
    have e : (X.add (.remove n)).shown = fdel X.shown n := by
      show (if fhas X.shown n = true then fdel X.shown n else X.shown) = _
      rw [if_pos hh]
    rw [e]
    rfl
  · have e : X.remove n = (4, X) := by
      unfold Dk.remove
      rw [h.works]
      simp only [ne_eq, not_true, if_false]
      rw [if_neg hh]
    rw [e, if_neg hh]
    rfl
theorem not_full {X : Dk} {a k f : Nat} (hl : X.lim a k f) {n b : Byt} (ha : a < 512) (hr : f + b.length ≤ X.room) : ¬ X.full n b := by
  rintro (⟨_, h⟩ | h)
  · have := hl.files; omega
  · have := hl.used; omega
def Dk.tidy (X : Dk) : Prop := ∀ n, fhas X.shown n = true → okObj n
theorem Dk.tidy.sput {X : Dk} (h : X.tidy) (hf : X.free) (hm : IsMap X.shown) {n b : Byt} (hn : okObj n) (hb : b.length ≤ 65536) : (X.sput n b).2.tidy := by
  rw [sput_free hf hm n b hb]
  split
  · exact h
  · intro m hh
    have hh : fhas (putFl X.shown n b) m = true := hh
    by_cases e : m = n
    · rw [e]; exact hn
    · by_cases e2 : m = tilde n
      · rw [e2, putFl_has_tilde] at hh; cases hh
      · rw [putFl_has_other e e2] at hh; exact h m hh
theorem Dk.free.sput {X : Dk} (hf : X.free) (hm : IsMap X.shown) {n b : Byt} (hb : b.length ≤ 65536) : (X.sput n b).2.free := by
  rw [sput_free hf hm n b hb]
  split
  · exact hf
  · exact hf
theorem openD_tidy {X : Dk} (h : X.tidy) (ns : List Byt) (hp : ns.Perm (Go.strKeys X.shown)) (hs : ∃ es, X.shown = .map es ∧ es.Pairwise (fun p q => p.1 ≠ q.1) ∧ ∀ p ∈ es, ∃ x, p.1 = .string x) : openD ns X = X := by
  obtain ⟨_, hmem⟩ := names_of hs hp
  have hb : ∀ n ∈ ns, begun n = false := by
    intro n hn
    have hk := (h n ((hmem n).1 hn)).2.2
    unfold begun
    cases n with
    | nil => rfl
    | cons c r =>
      have : c ≠ 126 := fun e => hk (by rw [e]; simp)
      have h2 : ((126 : UInt8) == c) = false := by simpa using this.symm
      show (((126 : UInt8) == c) && _) = false
      rw [h2]
      rfl
  have h1 : ns.any begun = false := by
    rw [List.any_eq_false]
    intro n hn
    rw [hb n hn]
    simp
  have h2 : ∀ (l : List Byt), (∀ n ∈ l, begun n = false) → ∀ Y, sweepD l Y = Y := by
    intro l
    induction l with
    | nil => intro _ Y; rfl
    | cons n r ih =>
      intro hl Y
      have e1 : sweep1 Y n = Y := by unfold sweep1; rw [hl n (by simp)]; rfl
      show sweepD r (sweep1 Y n) = Y
      rw [e1]
      exact ih (fun m hm => hl m (by simp [hm])) Y
  unfold openD
  rw [h1, h2 ns hb]
  rfl
def ShB (q u n : Nat) : Obj := .cells #[.pointer (some ⟨q, 0, none⟩), .pointer (some ⟨u, 0, none⟩), .int .i64 n, .bool false] 256 (0, 0)
section
variable {w : World} {b q u n : Nat}
theorem sh_0 (h : w.heap[b]? = some (ShB q u n)) : w.cell? ⟨b, 0, none⟩ = some (.pointer (some ⟨q, 0, none⟩)) := by simp [World.cell?, h, ShB]
theorem sh_1 (h : w.heap[b]? = some (ShB q u n)) : w.cell? ⟨b, 1, none⟩ = some (.pointer (some ⟨u, 0, none⟩)) := by simp [World.cell?, h, ShB]
theorem sh_2 (h : w.heap[b]? = some (ShB q u n)) : w.cell? ⟨b, 2, none⟩ = some (.int .i64 n) := by simp [World.cell?, h, ShB]
theorem sh_3 (h : w.heap[b]? = some (ShB q u n)) : w.cell? ⟨b, 3, none⟩ = some (.bool false) := by simp [World.cell?, h, ShB]
theorem sh_f (h : w.heap[b]? = some (ShB q u n)) (i : Nat) : w.frozen? ⟨b, i, none⟩ = false := by simp [World.frozen?, h, ShB]
theorem sh_set1 (h : w.heap[b]? = some (ShB q u n)) (k : Nat) : (w.setCell ⟨b, 1, none⟩ (.pointer (some ⟨k, 0, none⟩))).heap[b]? = some (ShB q k n) := blk_set h 1 _
theorem sh_set2 (h : w.heap[b]? = some (ShB q u n)) (k : Nat) : (w.setCell ⟨b, 2, none⟩ (.int .i64 k)).heap[b]? = some (ShB q u k) := blk_set h 2 _
end
structure Sh where
  X : Dk
  e : Nat
  l : Nat
  D : Un
  next : Nat
structure ShIn (F FS FU : Nat → Prop) (w : World) (p dp q u : Nat) (s : Sh) : Prop where
  blk : w.heap[p]? = some (ShB q u s.next)
  store : StoreAt FS w q dp s.X
  unit : UnAt FU w u s.e s.l s.D
  inF : F p
  inS : ∀ g, FS g → F g ∧ g ≠ p
  inU : ∀ g, FU g → F g ∧ g ≠ p
  apart : ∀ g, FS g → ¬ FU g
  low : ∀ g, F g → g < w.heap.size
def ShAt (F : Nat → Prop) (w : World) (p dp : Nat) (s : Sh) : Prop := ∃ FS FU q u, ShIn F FS FU w p dp q u s
def ShTo (F : Nat → Prop) (w : World) (p dp : Nat) (s : Sh) (w' : World) : Prop := Keep F w w' ∧ ∃ F', Sub F' F w ∧ ShAt F' w' p dp s
theorem ShIn.keep {F FS FU S : Nat → Prop} {w w' : World} {p dp q u : Nat} {s : Sh} (h : ShIn F FS FU w p dp q u s) (k : Keep S w w') (hn : ∀ g, F g → ¬ S g) : ShIn F FS FU w' p dp q u s :=
  ⟨k.at h.blk (hn _ h.inF), h.store.keep k (fun g e => hn g (h.inS g e).1), h.unit.keep k (fun g e => hn g (h.inU g e).1), h.inF, h.inS, h.inU, h.apart, fun g e => k.lt (h.low g e)⟩
theorem ShAt.keep {F S : Nat → Prop} {w w' : World} {p dp : Nat} {s : Sh} (h : ShAt F w p dp s) (k : Keep S w w') (hn : ∀ g, F g → ¬ S g) : ShAt F w' p dp s := by
  obtain ⟨FS, FU, q, u, h⟩ := h
  exact ⟨FS, FU, q, u, h.keep k hn⟩
theorem ShAt.keepNon {F : Nat → Prop} {w w' : World} {p dp : Nat} {s : Sh} (h : ShAt F w p dp s) (k : Keep Non w w') : ShAt F w' p dp s := h.keep k (fun _ _ e => e)
theorem ShAt.low {F : Nat → Prop} {w : World} {p dp : Nat} {s : Sh} (h : ShAt F w p dp s) : ∀ g, F g → g < w.heap.size := by
  obtain ⟨FS, FU, q, u, h⟩ := h
  exact h.low
theorem UnAt.low {F : Nat → Prop} {w : World} {b e l : Nat} {D : Un} (h : UnAt F w b e l D) : UnAt (fun g => F g ∧ g < w.heap.size) w b e l D := by
  obtain ⟨T, m, h⟩ := h
  exact ⟨T, m, h.blk, h.cells, ⟨⟨h.inF.1, lt_of_block h.blk⟩, ⟨h.inF.2.1, MapAt.lt h.cells⟩, fun g e => ⟨h.inF.2.2 g e, h.outT.2.2 g e⟩⟩, h.apart, h.outT, h.ep, h.lo, h.keys⟩
theorem shworks_ok {F : Nat → Prop} {p dp : Nat} {s : Sh} (w : World) (h : ShAt F w p dp s) :
    Calls Tryz.prog 159 #[.pointer (some ⟨p, 0, none⟩)] w fun r w' => r = .returned .nilIface ∧ w' = w := by
  obtain ⟨FS, FU, q, u, h⟩ := h
  have c3 := sh_3 h.blk
  clear h
  go_enter Tryz.func159, Tryz.ntmps159
  go_wp2_with fail
  go_ret
  exact ⟨rfl, rfl⟩
theorem shunit_ok {F : Nat → Prop} {p dp : Nat} {s : Sh} (w : World) (h : ShAt F w p dp s) :
    Calls Tryz.prog 188 #[.pointer (some ⟨p, 0, none⟩)] w fun r w' => ∃ b', r = .returned (.pointer (some ⟨b', 0, none⟩)) ∧ Keep Non w w' ∧ UnAt (fun g => F g ∨ (w.heap.size ≤ g ∧ g < w'.heap.size)) w' b' s.e s.l s.D := by
  obtain ⟨FS, FU, q, u, h⟩ := h
  have c1 := sh_1 h.blk
  have EP := Lib.hid (uncopy_ok FU u s.e s.l s.D w h.unit (fun g e => h.low g (h.inU g e).1))
  have IU := Lib.hid h.inU
  clear h
  go_enter Tryz.func188, Tryz.ntmps188
  go_wp2_with (go_at_call 160; refine EP.out.mono ?_; rintro r w1 ⟨b', rfl, k1, _, u1⟩; have K1 := Lib.hid k1; have U1 := Lib.hid u1; clear k1 u1)
  go_ret
  exact ⟨_, rfl, K1.out, U1.out.mono (fun g e => by rcases e with e | e; exact .inl (IU.out g e).1; exact .inr e)⟩
theorem sdisk_ok (q p : Nat) (w : World) (h : w.heap[q]? = some (StB p)) :
    Calls Tryz.prog 220 #[.pointer (some ⟨q, 0, none⟩)] w fun r w' => r = .returned (.pointer (some ⟨p, 0, none⟩)) ∧ w' = w := by
  have c0 := st_0 h
  clear h
  go_enter Tryz.func220, Tryz.ntmps220
  go_wp2_with fail
  go_ret
  exact ⟨rfl, rfl⟩
theorem shlooks_ok {F : Nat → Prop} {p dp : Nat} {s : Sh} (w : World) (h : ShAt F w p dp s) (hd : s.X.down = false) :
    Calls Tryz.prog 149 #[.pointer (some ⟨p, 0, none⟩)] w fun r w' => r = .returned .nilIface ∧ w' = w := by
  have WK := Lib.hid (shworks_ok w h)
  obtain ⟨FS, FU, q, u, h⟩ := h
  have c0 := sh_0 h.blk
  have SD := Lib.hid (sdisk_ok q dp w h.store.blk)
  obtain ⟨G, dg, _⟩ := h.store.disk
  have DW := ddown_any G dp s.X w dg
  rw [hd] at DW
  have DN := Lib.hid DW
  clear h dg DW
  go_enter Tryz.func149, Tryz.ntmps149
  go_wp2_with (first
    | (go_at_call 159; refine WK.out.mono ?_; rintro r w1 ⟨rfl, e1⟩; subst e1)
    | (go_at_call 220; refine SD.out.mono ?_; rintro r w1 ⟨rfl, e1⟩; subst e1)
    | (go_at_call 33; refine DN.out.mono ?_; rintro r w1 ⟨rfl, e1⟩; subst e1))
  go_ret
  exact ⟨rfl, rfl⟩
theorem shread_ok {F : Nat → Prop} {p dp a : Nat} {s : Sh} (w : World) (h : ShAt F w p dp s) (hd : s.X.down = false) (ha : a ≤ 1048575) (hx : (uat s.l s.D a).2.length ≤ 100000000) :
    Calls Tryz.prog 86 #[.pointer (some ⟨p, 0, none⟩), .int .i64 s.e, .int .i64 a] w fun r w' => ∃ v, r = .returned (.tuple #[.agg #[.int .i64 (uat s.l s.D a).1, v], .nilIface]) ∧ Keep Non w w' ∧ w'.ownsRow w.heap.size 5 1 v (uat s.l s.D a).2.length ((uat s.l s.D a).2.map bv) := by
  have LK := Lib.hid (fun W (k : Keep Non w W) => shlooks_ok W (h.keepNon k) hd)
  obtain ⟨FS, FU, q, u, h⟩ := h
  have RD := Lib.hid (fun W (k : Keep Non w W) => unread_ok FU u s.e s.l a s.D W (h.unit.keepNon k) ha hx)
  have B := Lib.hid h.blk
  clear h
  generalize uat s.l s.D a = x at *
  obtain ⟨kx, lx⟩ := x
  dsimp only at hx RD ⊢
  have kA : Keep Non w (w.alloc (ClB 0 (.slice none 0 0))) := (Keep.refl _ _).alloc _
  have BA := Lib.hid (blk_new w (ClB 0 (.slice none 0 0)))
  have c1 := sh_1 (nonAt kA B.out)
  have LKA := Lib.hid (LK.out _ kA)
  have RDA := Lib.hid (RD.out _ kA)
  have KA := Lib.hid kA
  unfold ClB at c1
  dsimp only [ClB] at LKA RDA
  clear kA LK RD
  go_enter Tryz.func86, Tryz.ntmps86
  go_wp2_with (first
    | (go_at_call 149; refine LKA.out.mono ?_; rintro r w1 ⟨rfl, rfl⟩)
    | (go_at_call 150; refine RDA.out.mono ?_; rintro r w2 ⟨v2, rfl, k2, o2⟩; obtain ⟨a2, c2, rfl, _, _⟩ := ownsRow_form o2; have b2 := nonAt k2 BA.out; have d0 := cl0 b2; have d1 := cl1 b2; have f0 := clf b2 0; have f1 := clf b2 1; have q0 := cl0 (cl_set1 (cl_set0 b2 kx) (.slice a2 lx.length c2)); have q1 := cl1 (cl_set1 (cl_set0 b2 kx) (.slice a2 lx.length c2)); have K2 := Lib.hid (KA.out.trans1 k2); have O2 := Lib.hid o2; clear k2 o2 b2))
  refine bodyPost_ret (v := .tuple #[.agg #[.int .i64 kx, .slice a2 lx.length c2], .nilIface]) (by simp [results, Tryz.results86, go_sem, q0, q1]) rfl ?_
  have k3 : Keep (One w.heap.size) w2 ((w2.setCell ⟨w.heap.size, 0, none⟩ (.int .i64 kx)).setCell ⟨w.heap.size, 1, none⟩ (.slice a2 lx.length c2)) := ((Keep.refl _ _).setOne _ _).setOne _ _
  have o2 := O2.out
  rw [World.size_alloc] at o2
  exact ⟨_, rfl, K2.out.trans k3 (fun _ _ e => e) (fun g hg e => by have e' : g = w.heap.size := e; omega), ownsRow_low (ownsRow_keep o2 k3 (fun g hg e => by have e' : g = w.heap.size := e; have := (o2.lt g hg).1; omega)) (by omega)⟩
def Sh.did (s : Sh) (by' : Byt) (e l : Nat) (D : Un) : Sh := ⟨(s.X.sput (nameN 114 s.next) by').2, e, l, D, s.next + 1⟩
theorem shdo_close {F FS FU FU' FS' : Nat → Prop} {w w3 w5 w7 : World} {p dp q u b : Nat} {s : Sh} {by' : Byt} {e l : Nat} {D : Un} (h : ShIn F FS FU w p dp q u s) (k3 : Keep (fun g => FU g ∨ w.heap.size ≤ g) w w3) (u3 : UnAt FU' w3 b e l D) (s3 : ∀ g, FU' g → FU g ∨ w.heap.size ≤ g) (k35 : Keep Non w3 w5) (k56 : Keep FS w5 w7) (sf : Sub FS' FS w5) (st : StoreAt FS' w7 q dp (s.X.sput (nameN 114 s.next) by').2) (hb : w7.heap[p]? = some (ShB q u s.next)) :
    ShTo F w p dp (s.did by' e l D) ((w7.setCell ⟨p, 1, none⟩ (.pointer (some ⟨b, 0, none⟩))).setCell ⟨p, 2, none⟩ (.int .i64 (s.next + 1 : Nat))) := by
  have hp := lt_of_block h.blk
  have k37 : Keep FS w3 w7 := (k35.ofNon).trans1 k56
  have u3l := u3.low
  have u7 := u3l.keep k37 (fun g e x => by rcases s3 g e.1 with y | y; exact h.apart g x y; have := h.low g (h.inS g x).1; omega)
  have kS : Keep (One p) w7 ((w7.setCell ⟨p, 1, none⟩ (.pointer (some ⟨b, 0, none⟩))).setCell ⟨p, 2, none⟩ (.int .i64 (s.next + 1 : Nat))) := ((Keep.refl _ _).setOne _ _).setOne _ _
  have k3s := k3.size
  have k5s := k35.size
  have k7s := k56.size
  refine ⟨?_, fun g => g = p ∨ (FS' g ∧ g < w7.heap.size) ∨ (FU' g ∧ g < w3.heap.size), ?_, fun g => FS' g ∧ g < w7.heap.size, fun g => FU' g ∧ g < w3.heap.size, q, b, ?_, ?_, ?_, .inl rfl, ?_, ?_, ?_, ?_⟩
  · refine ((k3.trans (k35.ofNon (S := F)) (U := F) (fun i hi x => ?_) (fun _ _ x => x)).trans k56 (fun _ _ x => x) (fun g hg x => (h.inS g x).1)).trans kS (fun _ _ x => x) (fun g hg x => by have x' : g = p := x; rw [x']; exact h.inF)
    rcases x with x | x
    · exact (h.inU i x).1
    · omega
  · rintro g (rfl | x | x)
    · exact .inl h.inF
    · rcases sf g x.1 with y | y
      · exact .inl (h.inS g y).1
      · exact .inr (by omega)
    · rcases s3 g x.1 with y | y
      · exact .inl (h.inU g y).1
      · exact .inr y
  · exact sh_set2 (sh_set1 hb b) (s.next + 1)
  · obtain ⟨b1, b2, G, dg, hg⟩ := st
    have hlow : StoreAt (fun g => FS' g ∧ g < w7.heap.size) w7 q dp (s.X.sput (nameN 114 s.next) by').2 := ⟨b1, ⟨b2, lt_of_block b1⟩, fun g => G g ∧ g < w7.heap.size, dg.low, fun g x => ⟨⟨(hg g x.1).1, x.2⟩, (hg g x.1).2⟩⟩
    exact hlow.keep kS (fun g x y => by have y' : g = p := y; rcases sf g x.1 with z | z; exact (h.inS g z).2 y'; omega)
  · exact u7.keep kS (fun g x y => by have y' : g = p := y; rcases s3 g x.1 with z | z; exact (h.inU g z).2 y'; omega)
  · exact fun g x => ⟨.inr (.inl x), by rcases sf g x.1 with z | z; exact (h.inS g z).2; omega⟩
  · exact fun g x => ⟨.inr (.inr x), by rcases s3 g x.1 with z | z; exact (h.inU g z).2; omega⟩
  · intro g x y
    rcases sf g x.1 with z | z
    · rcases s3 g y.1 with t | t
      · exact h.apart g z t
      · have := h.low g (h.inS g z).1; omega
    · have := y.2; omega
  · rintro g (rfl | x | x)
    · have := kS.size; omega
    · have := kS.size; have := x.2; omega
    · have := kS.size; have := x.2; omega
theorem shdo_mid {F FS FU FU' : Nat → Prop} {w w2 w3 : World} {p dp q u : Nat} {s : Sh} {o o' : Obj} (h : ShIn F FS FU w p dp q u s) (k2 : Keep Non w w2) (ab : w2.heap[w.heap.size]? = some o) (k3 : Keep (fun g => FU g ∨ ((w.alloc o').heap.size ≤ g ∧ g < w2.heap.size)) w2 w3) (s3 : Sub FU' (fun g => FU g ∨ ((w.alloc o').heap.size ≤ g ∧ g < w2.heap.size)) w2) :
    Keep (fun g => FU g ∨ w.heap.size ≤ g) w w3 ∧ w3.heap[w.heap.size]? = some o ∧ w3.heap[p]? = some (ShB q u s.next) ∧ ∀ g, FU' g → FU g ∨ w.heap.size ≤ g := by
  rw [World.size_alloc] at k3 s3
  have hp := lt_of_block h.blk
  refine ⟨k2.ofNon.trans k3 (fun _ _ x => x) (fun g hg x => by rcases x with x | x; exact .inl x; exact .inr (by omega)), k3.at ab (fun x => by rcases x with x | x; have := h.low _ (h.inU _ x).1; omega; omega), k3.at (nonAt k2 h.blk) (fun x => by rcases x with x | x; exact (h.inU _ x).2 rfl; omega), fun g x => ?_⟩
  have := k2.size
  rcases s3 g x with (y | y) | y
  · exact .inl y
  · exact .inr (by omega)
  · exact .inr (by omega)
theorem shdo_ok {F : Nat → Prop} {p dp : Nat} {s : Sh} (k e a n c : Nat) (pa : Option Addr) (by' : Byt) (e2 l2 : Nat) (D2 : Un) (ka kk kf : Nat) (w : World) (h : ShAt F w p dp s) (hlay : Lay w) (hF : ∀ g, F g → 10 ≤ g)
    (hn : s.next < 1000) (hl : s.X.lim ka kk kf) (ha : ka ≤ 505) (hk : kk ≤ 990) (hf : kf ≤ 400000000) (hby : by'.length ≤ 65536) (hcode : (s.X.sput (nameN 114 s.next) by').1 = 0)
    (AP : ∀ W b F', Keep Non w W → UnAt F' W b s.e s.l s.D → Calls Tryz.prog 161 #[.pointer (some ⟨b, 0, none⟩), .agg #[.int .i64 k, .int .i64 e, .int .i64 a, .slice pa n c]] W fun r w' => (∃ n : Int, r = .returned (.tuple #[.int .i64 n, .nilIface])) ∧ UnTo F' W b e2 l2 D2 w')
    (PU : ∀ W, Keep (fun g => F g ∨ w.heap.size ≤ g) w W → Calls Tryz.prog 162 #[.agg #[.int .i64 k, .int .i64 e, .int .i64 a, .slice pa n c]] W fun r w' => ∃ v, r = .returned (.tuple #[v, .nilIface]) ∧ Keep Non W w' ∧ w'.ownsRow W.heap.size 5 1 v by'.length (by'.map bv)) :
    Calls Tryz.prog 96 #[.pointer (some ⟨p, 0, none⟩), .agg #[.int .i64 k, .int .i64 e, .int .i64 a, .slice pa n c]] w fun r w' => (∃ n : Int, r = .returned (.tuple #[.int .i64 n, .nilIface])) ∧ ShTo F w p dp (s.did by' e2 l2 D2) w' := by
  have kA : Keep Non w (w.alloc (ActB k e a (.slice pa n c))) := (Keep.refl _ _).alloc _
  have WK := Lib.hid (shworks_ok _ (h.keepNon kA))
  obtain ⟨FS, FU, q, u, h⟩ := h
  have H := Lib.hid h
  have hA := h.keep kA (fun _ _ x => x)
  have c1 := sh_1 hA.blk
  have CP := Lib.hid (uncopy_ok FU u s.e s.l s.D _ hA.unit (fun g x => hA.low g (hA.inU g x).1))
  have KA := Lib.hid kA
  have BA := Lib.hid (blk_new w (ActB k e a (.slice pa n c)))
  have HA := Lib.hid hA
  have LY := Lib.hid hlay
  have HF := Lib.hid hF
  have AP' := Lib.hid AP
  have PU' := Lib.hid PU
  have NM := Lib.hid (fun W (hl : Lay W) => shname_ok s.next W hn hl)
  have SP := Lib.hid (fun W v F0 (st : StoreAt F0 W q dp s.X) (hv : Bs W v by') (hnp : ∀ g, v.ownBlock = some g → ¬ F0 g) => sput_any F0 q dp v (nameN 114 s.next) by' s.X ka kk kf W st hl ha hk hf (name_ok _ hn) hv hby hnp)
  rw [hcode, errv_zero] at SP
  unfold ActB at c1
  dsimp only [ActB] at WK CP
  have hnx : ¬ (99999999 : Int) < (s.next : Int) := by omega
  clear h hA kA hlay hF AP PU hl hcode
  go_enter Tryz.func96, Tryz.ntmps96
  go_wp2_with (first
    | (go_at_call 159; refine WK.out.mono ?_; rintro r w1 ⟨rfl, rfl⟩)
    | (go_at_call 160; refine CP.out.mono ?_; rintro r w2 ⟨b, rfl, k2, hb2, u2⟩; have ab2 := nonAt k2 BA.out; have a0 := ac_0 ab2; have a1 := ac_1 ab2; have a2 := ac_2 ab2; have a3 := ac_3 ab2; have K2 := Lib.hid (KA.out.trans1 k2); have AB2 := Lib.hid ab2; have APW := Lib.hid (AP'.out w2 b _ K2.out u2); clear k2 hb2 u2 ab2)
    | (go_at_call 161; refine APW.out.mono ?_; rintro r w3 ⟨⟨nn, rfl⟩, k3, FU', s3, u3⟩; obtain ⟨k03, ab3, sh3, s03⟩ := shdo_mid H.out K2.out AB2.out k3 s3; have a0' := ac_0 ab3; have a1' := ac_1 ab3; have a2' := ac_2 ab3; have a3' := ac_3 ab3; have e2' := sh_2 sh3; have K3 := Lib.hid k03; have AB3 := Lib.hid ab3; have SH3 := Lib.hid sh3; have U3 := Lib.hid u3; have S03 := Lib.hid s03; have PUW := Lib.hid (PU'.out w3 (k03.mono (fun g hg x => by rcases x with x | x; exact .inl (H.out.inU g x).1; exact .inr x))); clear k3 s3 u3 k03 ab3 sh3 s03)
    | (go_at_call 162; refine PUW.out.mono ?_; rintro r w4 ⟨v4, rfl, k4, o4⟩; obtain ⟨a4, c4, rfl, _, _⟩ := ownsRow_form o4; have sh4 := nonAt k4 SH3.out; have g0 := sh_0 sh4; have g2 := sh_2 sh4; have K4 := Lib.hid k4; have O4 := Lib.hid o4; have SH4 := Lib.hid sh4; clear k4 o4 sh4))
  have LY4 : Hid (Lay w4.drew) := Lib.hid ((LY.out.keep (K3.out) (fun g hg x => by rcases x with x | x; have := HF.out g (H.out.inU g x).1; omega; have := HF.out _ H.out.inF; have := lt_of_block H.out.blk; omega)).keepNon (K4.out.trans1 (Keep.refl Non _).drew))
  have NMW : Hid (Calls Tryz.prog 163 #[.string ⟨#[114]⟩, .int .i64 s.next] w4.drew fun e w' => e = .returned (.string ⟨(nameN 114 s.next).toArray⟩) ∧ Keep Non w4.drew w') := Lib.hid (NM.out _ LY4.out)
  have ST : Hid (∀ W, Keep Non w4 W → StoreAt FS W q dp s.X) := Lib.hid (fun W kk => (H.out.store.keep (K3.out) (fun g hg x => by rcases x with x | x; exact H.out.apart g hg x; have := H.out.low g (H.out.inS g hg).1; omega)).keep (K4.out.trans1 kk) (fun _ _ x => x))
  have g0d : w4.drew.cell? ⟨p, 0, none⟩ = some (.pointer (some ⟨q, 0, none⟩)) := g0
  have g2d : w4.drew.cell? ⟨p, 2, none⟩ = some (.int .i64 s.next) := g2
  clear NM AP' PU' WK CP
  go_region_law (go_simp; first
    | (go_at_call 163; refine NMW.out.mono ?_; rintro r w5 ⟨rfl, k5'⟩; have k5 := (Keep.refl Non w4).drew.trans1 k5'; have g0e := sh_0 (nonAt k5 SH4.out); have K5 := Lib.hid k5; have SPW : Hid (Calls Tryz.prog 142 #[.pointer (some ⟨q, 0, none⟩), .string ⟨(nameN 114 s.next).toArray⟩, .slice a4 (List.length by') c4] w5 fun e w' => e = .returned .nilIface ∧ StoreTo FS w5 q dp (s.X.sput (nameN 114 s.next) by').2 w') := Lib.hid (SP.out w5 _ FS (ST.out w5 k5) ((Rd.ofOwns O4.out).keepNon k5) (fun g x y => by have := (O4.out.lt g x).1; have := H.out.low g (H.out.inS g y).1; have := K3.out.size; omega)); clear k5 k5')
    | (go_at_call 142; refine SPW.out.mono ?_; rintro r w7 ⟨rfl, k7, FS', s7, d7⟩; have b7 := k7.at (nonAt (K4.out.trans1 K5.out) SH3.out) (fun x => (H.out.inS p x).2 rfl); have i1 := sh_1 b7; have i2 := sh_2 (sh_set1 b7 b); have i1f := sh_f b7 1; have i2f := sh_f (sh_set1 b7 b) 2; have K7 := Lib.hid k7; have B7 := Lib.hid b7; have S7 := Lib.hid s7; have D7 := Lib.hid d7; clear k7 s7 d7 b7))
  all_goals go_wp2_with fail
  all_goals
    go_ret2
    exact ⟨⟨_, rfl⟩, shdo_close H.out K3.out U3.out S03.out (K4.out.trans1 K5.out) K7.out S7.out D7.out B7.out⟩
theorem perm_nil {ns : List Byt} {X : Dk} (h : ns.Perm (Go.strKeys X.shown)) (he : X.shown = .map []) : ns = [] := by
  rw [he] at h
  exact h.eq_nil
theorem slist_nil (F : Nat → Prop) (q p : Nat) (b : Byt) (X : Dk) (w : World) (d : StoreAt F w q p X) (hd : X.down = false) (he : X.shown = .map []) :
    Calls Tryz.prog 236 #[.pointer (some ⟨q, 0, none⟩), sv b] w fun e w' => e = .returned (.tuple #[.slice none 0 0, .nilIface]) ∧ Keep Non w w' := by
  obtain ⟨blk, inF, G, dg, hg⟩ := d
  have c0 := st_0 blk
  have L : Hid (Calls Tryz.prog 99 #[.pointer (some ⟨p, 0, none⟩)] w fun e w' => ∃ a c, e = .returned (.tuple #[.slice a 0 c, .nilIface]) ∧ Keep Non w w') := Lib.hid (by
    refine (dlist_ok G p X w dg hd (by rw [he]; decide)).mono ?_
    rintro e w' ⟨v, ns, rfl, hp, k, o⟩
    obtain rfl := perm_nil hp he
    obtain ⟨a, c, rfl, _, _⟩ := ownsRow_form o
    exact ⟨a, c, rfl, k⟩)
  clear blk dg hg
  unfold sv
  go_enter Tryz.func236, Tryz.ntmps236
  go_wp2_with (go_at_call 99; refine L.out.mono ?_; rintro r w1 ⟨a, c, rfl, k1⟩; have K1 := Lib.hid k1; clear k1)
  refine wp_loop_rounds 1 ?_
  rw [rounds_succ]
  go_wp2_with fail
  go_ret2
  exact ⟨rfl, K1.out⟩
theorem shbase_nil (F : Nat → Prop) (q p : Nat) (X : Dk) (w : World) (d : StoreAt F w q p X) (hd : X.down = false) (he : X.shown = .map []) :
    Calls Tryz.prog 157 #[.pointer (some ⟨q, 0, none⟩)] w fun e w' => ∃ b, e = .returned (.tuple #[.pointer (some ⟨b, 0, none⟩), .int .i64 0, .nilIface]) ∧ Keep Non w w' ∧ UnAt (fun g => w.heap.size ≤ g ∧ g < w'.heap.size) w' b 0 0 (.map []) := by
  have L := Lib.hid (slist_nil F q p [98] X w d hd he)
  clear d
  unfold sv at L
  go_enter Tryz.func157, Tryz.ntmps157
  go_wp2_with (go_at_call 236; refine L.out.mono ?_; rintro r w1 ⟨rfl, k1⟩; have K1 := Lib.hid k1; clear k1)
  refine wp_loop_rounds 1 ?_
  rw [rounds_succ]
  go_wp2_with (go_at_call 239; refine (unnew_any _).mono ?_; rintro r w2 ⟨b, rfl, k2, u2⟩; have K2 := Lib.hid k2; have U2 := Lib.hid u2; clear k2 u2)
  refine bodyPost_ret (v := .tuple #[.pointer (some ⟨b, 0, none⟩), .int .i64 0, .nilIface]) (by simp [results, Tryz.results157, go_sem]) rfl ?_
  exact ⟨b, rfl, K1.out.trans1 K2.out, U2.out.mono (fun g e => ⟨Nat.le_trans K1.out.size e.1, e.2⟩)⟩
theorem shagain_no {F : Nat → Prop} {p dp : Nat} {s : Sh} (w : World) (h : ShAt F w p dp s) (hlay : Lay w) (hn : s.next < 1000) (hd : s.X.down = false) (hh : fhas s.X.shown (nameN 114 s.next) = false) :
    Calls Tryz.prog 158 #[.pointer (some ⟨p, 0, none⟩)] w fun e w' => e = .returned (.tuple #[.bool false, .nilIface]) ∧ Keep Non w w' := by
  obtain ⟨FS, FU, q, u, h⟩ := h
  have H := Lib.hid h
  have c0 := sh_0 h.blk
  have c2 := sh_2 h.blk
  have NMW : Hid (∀ W, Keep Non w W → Calls Tryz.prog 163 #[.string ⟨#[114]⟩, .int .i64 s.next] W fun e w' => e = .returned (.string ⟨(nameN 114 s.next).toArray⟩) ∧ Keep Non W w') := Lib.hid (fun W k => shname_ok s.next W hn (hlay.keepNon k))
  have GT : Hid (∀ W, Keep Non w W → Calls Tryz.prog 51 #[.pointer (some ⟨q, 0, none⟩), .string ⟨(nameN 114 s.next).toArray⟩] W fun e w' => e = .returned (.tuple #[.slice none 0 0, .iface 84 (.int .i64 4)]) ∧ Keep Non W w') := Lib.hid (fun W k => sget_none FS q dp (nameN 114 s.next) s.X W (h.store.keep k (fun _ _ x => x)) (name_ok _ hn) hd hh)
  have hee := eql_err 4 4
  rw [show ((4 : Int) == 4) = true from rfl] at hee
  have hnx : ¬ (99999999 : Int) < (s.next : Int) := by omega
  clear h hlay hd hh
  go_enter Tryz.func158, Tryz.ntmps158
  go_wp2_with fail
  have c0d : w.drew.cell? ⟨p, 0, none⟩ = some (.pointer (some ⟨q, 0, none⟩)) := c0
  have c2d : w.drew.cell? ⟨p, 2, none⟩ = some (.int .i64 s.next) := c2
  have NMD := Lib.hid (NMW.out w.drew (Keep.refl Non w).drew)
  go_region_law (go_simp; first
    | (go_at_call 163; refine NMD.out.mono ?_; rintro r w5 ⟨rfl, k5'⟩; have k5 := (Keep.refl Non w).drew.trans1 k5'; have c0e := sh_0 (nonAt k5 H.out.blk); have K5 := Lib.hid k5; have GTW := Lib.hid (GT.out w5 k5); clear k5 k5')
    | (go_at_call 51; refine GTW.out.mono ?_; rintro r w6 ⟨rfl, k6⟩; have K6 := Lib.hid (K5.out.trans1 k6); clear k6))
  all_goals go_wp2_with fail
  all_goals
    go_ret2
    exact ⟨rfl, K6.out⟩
theorem shopen_close {F F1 : Nat → Prop} {w w1 w2 : World} {p q b room : Nat} (k1 : Keep F w w1) (s1 : Sub F1 F w) (d1 : StoreAt F1 w1 q p (dk0 room)) (k2 : Keep Non w1 w2) (u2 : UnAt (fun g => w1.heap.size ≤ g ∧ g < w2.heap.size) w2 b 0 0 (.map [])) (hq : w.heap.size ≤ q) (hF : ∀ g, F g → g < w.heap.size) :
    ∃ F', Sub F' F w ∧ ShAt F' (w2.alloc (ShB q b 0)) w2.heap.size p ⟨dk0 room, 0, 0, .map [], 0⟩ := by
  have kB : Keep Non w2 (w2.alloc (ShB q b 0)) := (Keep.refl _ _).alloc _
  have z1 := k1.size
  have z2 := k2.size
  have hsz : (w2.alloc (ShB q b 0)).heap.size = w2.heap.size + 1 := by simp
  refine ⟨fun g => g = w2.heap.size ∨ (F1 g ∧ g < w1.heap.size) ∨ (w1.heap.size ≤ g ∧ g < w2.heap.size), ?_, fun g => F1 g ∧ g < w1.heap.size, fun g => w1.heap.size ≤ g ∧ g < w2.heap.size, q, b, blk_new _ _, ?_, u2.keepNon kB, .inl rfl, ?_, ?_, ?_, ?_⟩
  · rintro g (rfl | x | x)
    · exact .inr (by omega)
    · exact s1 g x.1
    · exact .inr (by omega)
  · obtain ⟨b1, b2, G, dg, hg⟩ := d1
    have hlow : StoreAt (fun g => F1 g ∧ g < w1.heap.size) w1 q p (dk0 room) := ⟨b1, ⟨b2, lt_of_block b1⟩, fun g => G g ∧ g < w1.heap.size, dg.low, fun g x => ⟨⟨(hg g x.1).1, x.2⟩, (hg g x.1).2⟩⟩
    exact hlow.keep (k2.trans1 kB) (fun _ _ x => x)
  · exact fun g x => ⟨.inr (.inl x), by have := x.2; omega⟩
  · exact fun g x => ⟨.inr (.inr x), by have := x.2; omega⟩
  · exact fun g x y => by have := x.2; have := y.1; omega
  · rintro g (rfl | x | x)
    · omega
    · have := x.2; omega
    · have := x.2; omega
theorem shopen_ok {F : Nat → Prop} {p : Nat} {room : Nat} (w : World) (d : DiskAt F w p (dk0 room)) (hlay : Lay w) (hF : ∀ g, F g → 10 ≤ g ∧ g < w.heap.size) :
    Calls Tryz.prog 95 #[.pointer (some ⟨p, 0, none⟩)] w fun e w' => ∃ b, e = .returned (.tuple #[.pointer (some ⟨b, 0, none⟩), .nilIface]) ∧ Keep F w w' ∧ ∃ F', Sub F' F w ∧ ShAt F' w' b p ⟨dk0 room, 0, 0, .map [], 0⟩ := by
  have HF := Lib.hid hF
  have LY := Lib.hid hlay
  have tid : (dk0 room).tidy := fun n h => by simp [dk0, fhas, has] at h
  have SO : Hid (Calls Tryz.prog 50 #[.pointer (some ⟨p, 0, none⟩)] w fun e w' => ∃ q, e = .returned (.tuple #[.pointer (some ⟨q, 0, none⟩), .nilIface]) ∧ w.heap.size ≤ q ∧ StoreTo F w q p (dk0 room) w') := Lib.hid (by
    refine (sopen_up F p (dk0 room) 0 0 0 w d ⟨rfl, by show (-1 : Int) < 0; decide⟩ ⟨by simp [dk0, size], by simp [dk0], by simp [dk0, fused], by simp [dk0], isMap_empty⟩ (by omega) (by omega) (by omega) (fun n h => by simp [dk0, fhas, has] at h)).mono ?_
    rintro e w' ⟨q, ns, rfl, hq, hp, t⟩
    obtain rfl := perm_nil hp rfl
    exact ⟨q, rfl, hq, t⟩)
  clear d hlay hF
  go_enter Tryz.func95, Tryz.ntmps95
  go_wp2_with (first
    | (go_at_call 50; refine SO.out.mono ?_; rintro r w1 ⟨q, rfl, hq, k1, F1, s1, d1⟩; have K1 := Lib.hid k1; have S1 := Lib.hid s1; have D1 := Lib.hid d1; clear k1 s1 d1)
    | (go_at_call 157; refine (shbase_nil F1 q p (dk0 room) w1 D1.out rfl rfl).mono ?_; rintro r w2 ⟨b, rfl, k2, u2⟩; have K2 := Lib.hid k2; have U2 := Lib.hid u2; clear k2 u2))
  obtain ⟨F', sF, sA⟩ := shopen_close (room := room) K1.out S1.out D1.out K2.out U2.out hq (fun g x => (HF.out g x).2)
  have kB : Keep Non w2 (w2.alloc (ShB q b 0)) := (Keep.refl _ _).alloc _
  have KB := Lib.hid (K1.out.trans1 (K2.out.trans1 kB).ofNon)
  have AG := Lib.hid (shagain_no _ sA (LY.out.keep KB.out (fun g hg x => by have := HF.out g x; omega)) (by show 0 < 1000; decide) rfl rfl)
  have SF := Lib.hid sF
  have SA := Lib.hid sA
  clear sF sA kB
  refine wp_loop_rounds 1 ?_
  rw [rounds_succ]
  go_wp2_with (go_at_call 158; refine AG.out.mono ?_; rintro r w4 ⟨rfl, k4⟩; have K4 := Lib.hid k4; clear k4)
  go_ret2
  exact ⟨w2.heap.size, rfl, KB.out.trans1 K4.out.ofNon, F', SF.out, SA.out.keepNon K4.out⟩
end Go.Proofs.YtdmckfkhkjkdnaaGreatDoor
