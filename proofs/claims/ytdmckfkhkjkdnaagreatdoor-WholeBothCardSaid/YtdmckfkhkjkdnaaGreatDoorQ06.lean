/- A change is added to a disk: walked. · A change of a name is added to a disk: walked. · All changes of a disk become sure: walked. · A file's bytes: w -/
import Derived.Shelf.Strings.SlTrimAscii
import Derived.Test.YtdmckfkhkjkdnaaGreatDoorQ02
import Derived.Test.YtdmckfkhkjkdnaaGreatDoorQ04
import Derived.Test.YtdmckfkhkjkdnaaGreatDoorQ05
set_option linter.unusedVariables false
set_option maxRecDepth 100000
set_option maxHeartbeats 16000000
namespace Go.Proofs.YtdmckfkhkjkdnaaGreatDoor
open Go.RowKit Go.Maps
def chg0 : Value := .agg #[.int .i64 0, .string ⟨#[]⟩, .string ⟨#[]⟩, .slice none 0 0]
theorem infoChg : (Tryz.prog.info? 181).map (fun i => (i.zero, i.size, i.bytes)) = some (some chg0, 4, 64) := by kernel_rfl
def chgV (c : Chg) (v : Value) : Value := match c with
  | .write n _ => .agg #[.int .i64 0, sv n, sv [], v]
  | .rename n m => .agg #[.int .i64 1, sv n, sv m, v]
  | .remove n => .agg #[.int .i64 2, sv n, sv [], v]
theorem pend_added {w w' : World} {S T : Nat → Prop} {pv' : Value} {cs : List Chg} {c : Chg} {l : List Value} {xs : List (List Value)} (h2 : xs.length = cs.length) (h3 : ∀ (i : Nat) c l, cs[i]? = some c → xs[i]? = some l → ChgV w T c l) (hl : ChgV w T c l)
    (ho : w'.ownsRow 0 181 4 pv' (cs.length + 1) (xs.flatten ++ l)) (k : Keep S w w') (hn : ∀ g, T g → ¬ S g) : PendAt w' T pv' (cs ++ [c]) := by
  refine ⟨xs ++ [l], ?_, by simp [h2], fun i c' l' hc hl' => ?_⟩
  · rw [List.length_append, List.flatten_append]
    simpa using ho
  · rcases Nat.lt_or_ge i cs.length with hi | hi
    · rw [List.getElem?_append_left hi] at hc
      rw [List.getElem?_append_left (by omega)] at hl'
      exact (h3 i c' l' hc hl').keep k hn (fun _ e => e)
    · rw [List.getElem?_append_right hi] at hc
      rw [List.getElem?_append_right (by omega), h2] at hl'
      have hi0 : i - cs.length = 0 := by
        rcases Nat.eq_zero_or_pos (i - cs.length) with e | e
        · exact e
        · rw [List.getElem?_eq_none (by simp; omega)] at hc; cases hc
      rw [hi0] at hc hl'
      simp at hc hl'
      subst hc
      subst hl'
      exact hl.keep k hn (fun _ e => e)
theorem step_append_prov {P : Program} {w : World} {ops : Array Oper} {o : Oper} {a : Act} {K : Act → World → Prop} {Q : Exit → Act → World → Prop} {E : Prop} (hgd : o.guard = none) (s x : Operand) (t : TypeId)
    (ho : o.op = .call { callee := .builtin .append, args := #[s, x], argTypes := #[t, t] })
    (base : Nat) (e : TypeId) (i : TypeInfo) (z : Value) (size bytes : Nat) (ht : P.underlying t = some (.slice e)) (hi : P.info? e = some i) (hz : i.zero = some z)
    (hsize : i.size = size) (hby : i.bytes = bytes) (hzs : z.cells.size = size) (hsz : 0 < size)
    (v : Value) (n : Nat) (xs : List Value) (hs : a.eval s = v) (hown : w.ownsRow base e size v n xs)
    (ad : Addr) (m c : Nat) (news : List Value) (hx : a.eval x = .slice (some ad) m c) (hl : news.length = m * size) (hnews : ∀ j u, news[j]? = some u → w.cell? (ad.add j) = some u) (h1 : ∀ u ∈ news, u.oneCell' = true)
    (h63 : n + m ≤ maxLen) (hbytes : (n + m) * bytes ≤ 140737488355328) (hbase : base ≤ w.heap.size)
    (h : ∀ v' w', w'.ownsRow base e size v' (n + m) (xs ++ news) → w.grownBy w' v.ownBlock → (v'.ownBlock = v.ownBlock ∨ v'.ownBlock = some w.heap.size) → K (a.put o.dst v') w') :
    if Region.wanted o (yielded ops a.tmps) = true then Oper.wp P o a w K Q else E := by
  have hw : Region.wanted o (yielded ops a.tmps) = true := by simp [Region.wanted, hgd]
  rw [if_pos hw]
  obtain ⟨v', w', hr, h2, h3, h4⟩ := run_append_own (P := P) w base t o.type e i z size bytes ht hi hz hsize hby hzs hsz v n xs hown ad m c news hl hnews h1 h63 hbytes hbase
  have h5 := append_where w base t o.type e i z size bytes ht hi hz hsize hby hsz v n xs hown ad m c news hl hnews h1 h63 hbytes hr
  unfold Oper.wp execOp
  simp only [ho, resolve, invoke, builtin, Sem.run_bind, Sem.run_pure, Result.andThen_ok, List.map_toArray, List.map_cons, List.map_nil, hs, hx, hr]
  exact h v' w' h2 h3 h5
theorem four_new (W : World) (k : Nat) (hk : k = W.heap.size) (a b c d : Value) (t : TypeId) : ∀ j u, [a, b, c, d][j]? = some u → (W.alloc (.cells #[a, b, c, d] t)).cell? ((⟨k, 0, none⟩ : Addr).add j) = some u := by
  subst hk
  intro j u hu
  rw [add_off, Nat.zero_add]
  match j with
  | 0 => simp at hu; subst hu; exact World.cell?_alloc_new _ _ _ 0
  | 1 => simp at hu; subst hu; exact World.cell?_alloc_new _ _ _ 1
  | 2 => simp at hu; subst hu; exact World.cell?_alloc_new _ _ _ 2
  | 3 => simp at hu; subst hu; exact World.cell?_alloc_new _ _ _ 3
  | j + 4 => simp at hu
def box2 (w : World) (l : List Value) : World := (w.alloc (.cells l.toArray 181)).alloc (.cells l.toArray 181)
theorem box2_keep (w : World) (l : List Value) : Keep Non w (box2 w l) := ((Keep.refl _ _).alloc _).alloc _
theorem dadd_close {F T : Nat → Prop} {w w1 w4 : World} {p s h : Nat} {pv : Value} {X : Dk} {c : Chg} {l : List Value} {xs : List (List Value)} {a1 : Option Addr} {c1 n1 : Nat} (d : DiskIn F T w p s h pv X) (P1 : w.ownsRow 0 181 4 pv X.pend.length xs.flatten)
    (P23 : xs.length = X.pend.length ∧ ∀ (i : Nat) c l, X.pend[i]? = some c → xs[i]? = some l → ChgV w T c l) (hl : ChgV w T c l) (HO : w1.ownsRow 0 181 4 (.slice a1 n1 c1) (X.pend.length + 1) (xs.flatten ++ l))
    (HP : (Value.slice a1 n1 c1).ownBlock = pv.ownBlock ∨ (Value.slice a1 n1 c1).ownBlock = some (w.heap.size + 1 + 1)) (KG : Keep (fun k => pv.ownBlock = some k) w w1)
    (HB : (w1.setCell ⟨p, 3, none⟩ (.slice a1 n1 c1)).heap[p]? = some (DkB X.room s h (.slice a1 n1 c1) X.fuse X.down)) (K4 : Keep (One h) (w1.setCell ⟨p, 3, none⟩ (.slice a1 n1 c1)) w4) (M4 : FlAt w4 T h (c.on X.shown)) :
    Keep F w w4 ∧ ∃ pv', (∀ g, pv'.ownBlock = some g → F g ∨ w.heap.size ≤ g) ∧ DiskIn (fun g => F g ∨ pv'.ownBlock = some g) T w4 p s h pv' (X.add c) := by
  obtain ⟨i1, i2, i3, i4, i5⟩ := d.inF
  obtain ⟨a1', a2, a3, a4⟩ := d.apart
  obtain ⟨o1, o2, o3, o4, o5⟩ := d.outT
  have hpl := lt_of_block d.blk
  have hsl := MapAt.lt d.sure
  have hhl := MapAt.lt d.shown
  -- where the new row lies
  have hw : ∀ g, (Value.slice a1 n1 c1).ownBlock = some g → (pv.ownBlock = some g) ∨ w.heap.size ≤ g := by
    intro g e
    rcases HP with q | q
    · exact .inl (q.symm.trans e)
    · rw [q] at e; injection e with e; exact .inr (by omega)
  have kS : Keep (fun k => pv.ownBlock = some k ∨ k = p ∨ k = h) w w4 := (KG.trans ((Keep.refl (One p) w1).setOne 3 (.slice a1 n1 c1)) (U := fun k => pv.ownBlock = some k ∨ k = p ∨ k = h) (fun _ _ e => .inl e) (fun _ _ e => .inr (.inl e))).trans K4 (fun _ _ e => e) (fun _ _ e => .inr (.inr e))
  have hT : ∀ g, T g → ¬ (pv.ownBlock = some g ∨ g = p ∨ g = h) := fun g hg e => by
    rcases e with e | e | e
    · exact o4 g e hg
    · exact o1 (e ▸ hg)
    · exact o3 (e ▸ hg)
  have hv1 : ∀ g, (Value.slice a1 n1 c1).ownBlock = some g → g ≠ p ∧ g ≠ s ∧ g ≠ h ∧ ¬ T g := fun g e => by
    rcases hw g e with q | q
    · exact ⟨(a4 g q).1, (a4 g q).2.1, (a4 g q).2.2, o4 g q⟩
    · exact ⟨by omega, by omega, by omega, fun e2 => by have := o5 g e2; omega⟩
  have k14 : Keep (fun k => k = p ∨ k = h) w1 w4 := ((Keep.refl (One p) w1).setOne 3 (.slice a1 n1 c1)).trans K4 (fun _ _ e => .inl e) (fun _ _ e => .inr e)
  refine ⟨kS.mono (fun i _ e => by rcases e with e | e | e; exact i4 i e; exact e ▸ i1; exact e ▸ i3), _, fun g e => by rcases hw g e with q | q; exact .inl (i4 g q); exact .inr q, ?_⟩
  refine ⟨K4.at HB (fun e => a3 e), d.sure.keep kS (fun e => by rcases e with e | e | e; exact (a4 s e).2.1 rfl; exact a2 e.symm; exact a1' e) hT (fun _ e => e), M4, ?_, ⟨.inl i1, .inl i2, .inl i3, fun g e => .inr e, fun g e => .inl (i5 g e)⟩, ⟨a1', a2, a3, fun g e => ⟨(hv1 g e).1, (hv1 g e).2.1, (hv1 g e).2.2.1⟩⟩, ⟨o1, o2, o3, fun g e => (hv1 g e).2.2.2, fun g e => kS.lt (o5 g e)⟩, d.room⟩
  have hl4 : l.length = 4 := by
    cases c with
    | write n b => obtain ⟨v, e, _⟩ := hl; rw [e]; rfl
    | rename n m => rw [show l = _ from hl]; rfl
    | remove n => rw [show l = _ from hl]; rfl
  exact pend_added P23.1 P23.2 hl (ownsRow_keep HO k14 (fun g e e2 => by rcases e2 with e2 | e2; exact (hv1 g e).1 e2; exact (hv1 g e).2.2.1 e2)) kS hT
theorem dadd_write (F T : Nat → Prop) (p s h : Nat) (pv v : Value) (n b : Byt) (X : Dk) (w : World) (d : DiskIn F T w p s h pv X) (hv : BsIn w T v b) (hs : size X.shown ≤ 1000000) (hp : X.pend.length ≤ 1000000) (hn : n.length ≤ 1000) :
    Calls Tryz.prog 171 #[.pointer (some ⟨p, 0, none⟩), chgV (.write n b) v] w fun e w' => e = .returned (.tuple #[]) ∧ Keep F w w' ∧ ∃ pv', (∀ g, pv'.ownBlock = some g → F g ∨ w.heap.size ≤ g) ∧ DiskIn (fun g => F g ∨ pv'.ownBlock = some g) T w' p s h pv' (X.add (.write n b)) := by
  have D := Lib.hid d
  have V := Lib.hid hv
  have B := Lib.hid d.blk
  have c2 := dk_2 d.blk
  have c3 := dk_3 d.blk
  have f3 := dk_f d.blk 3
  obtain ⟨i0, hi0, hz0, hz1, hz2⟩ := info_parts infoChg
  obtain ⟨xs, p1, p2, p3⟩ := d.pend
  have P1 := Lib.hid p1
  have P23 := Lib.hid (And.intro p2 p3)
  obtain ⟨pa, pc, rfl, _, _⟩ := ownsRow_form p1
  obtain ⟨⟨a, c, rfl, _⟩, _⟩ := hv
  rw [List.length_map] at V ⊢
  clear d p1 p2 p3
  unfold chgV sv
  go_enter Tryz.func171, Tryz.ntmps171
  have ca : (w.alloc (.cells #[.int .i64 0, .string ⟨n.toArray⟩, .string ⟨#[]⟩, .slice a (List.length b) c] 181)).cell? ⟨p, 3, none⟩ = some (.slice pa X.pend.length pc) := dk_3 (blk_alloc B.out _)
  have cb2 : ((w.alloc (.cells #[.int .i64 0, .string ⟨n.toArray⟩, .string ⟨#[]⟩, .slice a (List.length b) c] 181)).alloc (.cells #[.int .i64 0, .string ⟨n.toArray⟩, .string ⟨#[]⟩, .slice a (List.length b) c] 181)).cell? ⟨p, 3, none⟩ = some (.slice pa X.pend.length pc) := dk_3 (blk_alloc (blk_alloc B.out _) _)
  go_wp2_with fail
  have FN := Lib.hid (four_new (w.alloc (.cells #[.int .i64 0, .string ⟨n.toArray⟩, .string ⟨#[]⟩, .slice a (List.length b) c] 181)) (w.heap.size + 1) (by simp) (.int .i64 0) (.string ⟨n.toArray⟩) (.string ⟨#[]⟩) (.slice a (List.length b) c) 181)
  have KB := Lib.hid (box2_keep w [.int .i64 0, .string ⟨n.toArray⟩, .string ⟨#[]⟩, .slice a (List.length b) c])
  go_region_law (refine step_append_prov (by rfl) (.tmp 8) (.tmp 10) 119 (by rfl) 0 181 i0 chg0 4 64 Tryz.underlying119 hi0 hz0 hz1 hz2 rfl (by decide) (.slice pa X.pend.length pc) X.pend.length xs.flatten (by rfl) (ownsRow_keep (S := Non) P1.out (by exact ⟨KB.out.os, KB.out.tape, KB.out.output, KB.out.size, KB.out.block⟩) (fun _ _ e => e)) ⟨w.heap.size + 1, 0, none⟩ 1 1 [.int .i64 0, .string ⟨n.toArray⟩, .string ⟨#[]⟩, .slice a (List.length b) c] (by rfl) (by rfl) (by exact FN.out) (by intro u hu; simp at hu; rcases hu with rfl | rfl | rfl | rfl <;> rfl) (by unfold maxLen; omega) (by omega) (Nat.zero_le _) ?_; intro v1 w1 ho hg hpp; obtain ⟨a1, c1, rfl, _, _⟩ := ownsRow_form ho; have HO := Lib.hid ho; have HP := Lib.hid hpp; have KG : Hid (Keep (fun k => (Value.slice pa X.pend.length pc).ownBlock = some k) w w1) := Lib.hid (Keep.grown (a := w) (by exact ⟨KB.out.os, KB.out.tape, KB.out.output, KB.out.size, fun k hk hn => KB.out.block k hk (fun e => e)⟩) hg (fun k e => .inl e)); have B1 := KG.out.at B.out (fun e => (D.out.apart.2.2.2 p e).1 rfl); have e2 := dk_2 B1; have e3 := dk_3 B1; have g3 := dk_f B1 3; have BB1 := Lib.hid B1; have BX : Hid (w1.heap[w.heap.size]? = some (.cells #[.int .i64 0, .string ⟨n.toArray⟩, .string ⟨#[]⟩, .slice a (List.length b) c] 181)) := Lib.hid ((hg.block w.heap.size (by simp; omega) (fun e => by have := (P1.out.lt w.heap.size e.symm).2; omega)).trans (by exact (blk_alloc (blk_new w _) _))); clear ho hg hpp B1)
  all_goals
    have hb3 : (w1.setCell ⟨p, 3, none⟩ (.slice a1 (X.pend.length + 1) c1)).heap[p]? = some (DkB X.room s h (.slice a1 (X.pend.length + 1) c1) X.fuse X.down) := dk_set3 BB1.out _
    have r2 := dk_2 hb3
    have hpl := lt_of_block B.out
    have bx3 : (w1.setCell ⟨p, 3, none⟩ (.slice a1 (X.pend.length + 1) c1)).heap[w.heap.size]? = some (.cells #[.int .i64 0, .string ⟨n.toArray⟩, .string ⟨#[]⟩, .slice a (List.length b) c] 181) := blk_skip BX.out (by omega) 3 _
    have q0 : (w1.setCell ⟨p, 3, none⟩ (.slice a1 (X.pend.length + 1) c1)).cell? ⟨w.heap.size, 0, none⟩ = some (.int .i64 0) := by simp [World.cell?, bx3]
    have q1 : (w1.setCell ⟨p, 3, none⟩ (.slice a1 (X.pend.length + 1) c1)).cell? ⟨w.heap.size, 1, none⟩ = some (.string ⟨n.toArray⟩) := by simp [World.cell?, bx3]
    have q2 : (w1.setCell ⟨p, 3, none⟩ (.slice a1 (X.pend.length + 1) c1)).cell? ⟨w.heap.size, 2, none⟩ = some (.string ⟨#[]⟩) := by simp [World.cell?, bx3]
    have q3 : (w1.setCell ⟨p, 3, none⟩ (.slice a1 (X.pend.length + 1) c1)).cell? ⟨w.heap.size, 3, none⟩ = some (.slice a (List.length b) c) := by simp [World.cell?, bx3]
    have K3 := Lib.hid (KG.out.trans ((Keep.refl (One p) w1).setOne 3 (.slice a1 (X.pend.length + 1) c1)) (U := fun k => (Value.slice pa X.pend.length pc).ownBlock = some k ∨ k = p) (fun _ _ e => .inl e) (fun _ _ e => .inr e))
    have hTn : Hid (∀ g, T g → ¬ ((Value.slice pa X.pend.length pc).ownBlock = some g ∨ g = p)) := Lib.hid (fun g hg e => by
      rcases e with e | e
      · exact D.out.outT.2.2.2.1 g e hg
      · exact D.out.outT.1 (e ▸ hg))
    have MS := Lib.hid (FlAt.keep D.out.shown K3.out (fun e => by rcases e with e | e; exact (D.out.apart.2.2.2 h e).2.2 rfl; exact D.out.apart.2.2.1 e.symm) hTn.out (fun _ e => e))
    have VS := Lib.hid (V.out.keep K3.out hTn.out (fun _ e => e))
    have MSd := Lib.hid (FlAt.keep MS.out ((Keep.refl Non _).drew) (fun e => e) (fun _ _ e => e) (fun _ e => e))
    have VSd := Lib.hid (VS.out.keep ((Keep.refl Non _).drew) (fun _ _ e => e) (fun _ e => e))
    have HB3 := Lib.hid hb3
    clear hb3 bx3
    go_simp
    go_wp2_with fail
    go_region_with (go_at_call 79; refine (do_write T h X.shown n b (.slice a (List.length b) c) _ MSd.out D.out.outT.2.2.1 VSd.out hs hn (fun g e => K3.out.lt (D.out.outT.2.2.2.2 g e))).mono ?_; rintro e w4 ⟨rfl, k4, m4⟩; have K4 := Lib.hid (keep_undrew k4); have M4 := Lib.hid m4; clear k4 m4)
    all_goals
     go_wp2_with fail
     go_end0
     exact ⟨rfl, dadd_close D.out P1.out P23.out (c := .write n b) (l := [.int .i64 0, .string ⟨n.toArray⟩, .string ⟨#[]⟩, .slice a (List.length b) c]) ⟨_, rfl, V.out⟩ HO.out (HP.out.imp id (fun e => e.trans (by congr 1; simp))) KG.out HB3.out K4.out M4.out⟩
theorem dadd_rename (F T : Nat → Prop) (p s h : Nat) (pv : Value) (n m : Byt) (X : Dk) (w : World) (d : DiskIn F T w p s h pv X) (hs : size X.shown ≤ 1000000) (hp : X.pend.length ≤ 1000000) (hn : n.length ≤ 1000) (hn2 : m.length ≤ 1000) (hh : fhas X.shown n = true) :
    Calls Tryz.prog 171 #[.pointer (some ⟨p, 0, none⟩), chgV (.rename n m) (.slice none 0 0)] w fun e w' => e = .returned (.tuple #[]) ∧ Keep F w w' ∧ ∃ pv', (∀ g, pv'.ownBlock = some g → F g ∨ w.heap.size ≤ g) ∧ DiskIn (fun g => F g ∨ pv'.ownBlock = some g) T w' p s h pv' (X.add (.rename n m)) := by
  have D := Lib.hid d
  have B := Lib.hid d.blk
  have c2 := dk_2 d.blk
  have c3 := dk_3 d.blk
  have f3 := dk_f d.blk 3
  obtain ⟨i0, hi0, hz0, hz1, hz2⟩ := info_parts infoChg
  obtain ⟨xs, p1, p2, p3⟩ := d.pend
  have P1 := Lib.hid p1
  have P23 := Lib.hid (And.intro p2 p3)
  obtain ⟨pa, pc, rfl, _, _⟩ := ownsRow_form p1
  clear d p1 p2 p3
  unfold chgV sv
  go_enter Tryz.func171, Tryz.ntmps171
  have ca : (w.alloc (.cells #[.int .i64 1, .string ⟨n.toArray⟩, .string ⟨m.toArray⟩, .slice none 0 0] 181)).cell? ⟨p, 3, none⟩ = some (.slice pa X.pend.length pc) := dk_3 (blk_alloc B.out _)
  have cb2 : ((w.alloc (.cells #[.int .i64 1, .string ⟨n.toArray⟩, .string ⟨m.toArray⟩, .slice none 0 0] 181)).alloc (.cells #[.int .i64 1, .string ⟨n.toArray⟩, .string ⟨m.toArray⟩, .slice none 0 0] 181)).cell? ⟨p, 3, none⟩ = some (.slice pa X.pend.length pc) := dk_3 (blk_alloc (blk_alloc B.out _) _)
  go_wp2_with fail
  have FN := Lib.hid (four_new (w.alloc (.cells #[.int .i64 1, .string ⟨n.toArray⟩, .string ⟨m.toArray⟩, .slice none 0 0] 181)) (w.heap.size + 1) (by simp) (.int .i64 1) (.string ⟨n.toArray⟩) (.string ⟨m.toArray⟩) (.slice none 0 0) 181)
  have KB := Lib.hid (box2_keep w [.int .i64 1, .string ⟨n.toArray⟩, .string ⟨m.toArray⟩, .slice none 0 0])
  go_region_law (refine step_append_prov (by rfl) (.tmp 8) (.tmp 10) 119 (by rfl) 0 181 i0 chg0 4 64 Tryz.underlying119 hi0 hz0 hz1 hz2 rfl (by decide) (.slice pa X.pend.length pc) X.pend.length xs.flatten (by rfl) (ownsRow_keep (S := Non) P1.out (by exact ⟨KB.out.os, KB.out.tape, KB.out.output, KB.out.size, KB.out.block⟩) (fun _ _ e => e)) ⟨w.heap.size + 1, 0, none⟩ 1 1 [.int .i64 1, .string ⟨n.toArray⟩, .string ⟨m.toArray⟩, .slice none 0 0] (by rfl) (by rfl) (by exact FN.out) (by intro u hu; simp at hu; rcases hu with rfl | rfl | rfl | rfl <;> rfl) (by unfold maxLen; omega) (by omega) (Nat.zero_le _) ?_; intro v1 w1 ho hg hpp; obtain ⟨a1, c1, rfl, _, _⟩ := ownsRow_form ho; have HO := Lib.hid ho; have HP := Lib.hid hpp; have KG : Hid (Keep (fun k => (Value.slice pa X.pend.length pc).ownBlock = some k) w w1) := Lib.hid (Keep.grown (a := w) (by exact ⟨KB.out.os, KB.out.tape, KB.out.output, KB.out.size, fun k hk hn => KB.out.block k hk (fun e => e)⟩) hg (fun k e => .inl e)); have B1 := KG.out.at B.out (fun e => (D.out.apart.2.2.2 p e).1 rfl); have e2 := dk_2 B1; have e3 := dk_3 B1; have g3 := dk_f B1 3; have BB1 := Lib.hid B1; have BX : Hid (w1.heap[w.heap.size]? = some (.cells #[.int .i64 1, .string ⟨n.toArray⟩, .string ⟨m.toArray⟩, .slice none 0 0] 181)) := Lib.hid ((hg.block w.heap.size (by simp; omega) (fun e => by have := (P1.out.lt w.heap.size e.symm).2; omega)).trans (by exact (blk_alloc (blk_new w _) _))); clear ho hg hpp B1)
  all_goals
    have hb3 : (w1.setCell ⟨p, 3, none⟩ (.slice a1 (X.pend.length + 1) c1)).heap[p]? = some (DkB X.room s h (.slice a1 (X.pend.length + 1) c1) X.fuse X.down) := dk_set3 BB1.out _
    have r2 := dk_2 hb3
    have hpl := lt_of_block B.out
    have bx3 : (w1.setCell ⟨p, 3, none⟩ (.slice a1 (X.pend.length + 1) c1)).heap[w.heap.size]? = some (.cells #[.int .i64 1, .string ⟨n.toArray⟩, .string ⟨m.toArray⟩, .slice none 0 0] 181) := blk_skip BX.out (by omega) 3 _
    have q0 : (w1.setCell ⟨p, 3, none⟩ (.slice a1 (X.pend.length + 1) c1)).cell? ⟨w.heap.size, 0, none⟩ = some (.int .i64 1) := by simp [World.cell?, bx3]
    have q1 : (w1.setCell ⟨p, 3, none⟩ (.slice a1 (X.pend.length + 1) c1)).cell? ⟨w.heap.size, 1, none⟩ = some (.string ⟨n.toArray⟩) := by simp [World.cell?, bx3]
    have q2 : (w1.setCell ⟨p, 3, none⟩ (.slice a1 (X.pend.length + 1) c1)).cell? ⟨w.heap.size, 2, none⟩ = some (.string ⟨m.toArray⟩) := by simp [World.cell?, bx3]
    have q3 : (w1.setCell ⟨p, 3, none⟩ (.slice a1 (X.pend.length + 1) c1)).cell? ⟨w.heap.size, 3, none⟩ = some (.slice none 0 0) := by simp [World.cell?, bx3]
    have K3 := Lib.hid (KG.out.trans ((Keep.refl (One p) w1).setOne 3 (.slice a1 (X.pend.length + 1) c1)) (U := fun k => (Value.slice pa X.pend.length pc).ownBlock = some k ∨ k = p) (fun _ _ e => .inl e) (fun _ _ e => .inr e))
    have hTn : Hid (∀ g, T g → ¬ ((Value.slice pa X.pend.length pc).ownBlock = some g ∨ g = p)) := Lib.hid (fun g hg e => by
      rcases e with e | e
      · exact D.out.outT.2.2.2.1 g e hg
      · exact D.out.outT.1 (e ▸ hg))
    have MS := Lib.hid (FlAt.keep D.out.shown K3.out (fun e => by rcases e with e | e; exact (D.out.apart.2.2.2 h e).2.2 rfl; exact D.out.apart.2.2.1 e.symm) hTn.out (fun _ e => e))
    have MSd := Lib.hid (FlAt.keep MS.out ((Keep.refl Non _).drew) (fun e => e) (fun _ _ e => e) (fun _ e => e))
    have HB3 := Lib.hid hb3
    clear hb3 bx3
    go_simp
    go_wp2_with fail
    go_region_with (go_at_call 79; refine (do_rename T h X.shown n m _ MSd.out D.out.outT.2.2.1 hs hn hn2 (fun g e => K3.out.lt (D.out.outT.2.2.2.2 g e)) hh).mono ?_; rintro e w4 ⟨rfl, k4, m4⟩; have K4 := Lib.hid (keep_undrew k4); have M4 := Lib.hid m4; clear k4 m4)
    all_goals
     go_wp2_with fail
     go_end0
     exact ⟨rfl, dadd_close D.out P1.out P23.out (c := .rename n m) (l := [.int .i64 1, .string ⟨n.toArray⟩, .string ⟨m.toArray⟩, .slice none 0 0]) (by first | rfl | exact rfl) HO.out (HP.out.imp id (fun e => e.trans (by congr 1; simp))) KG.out HB3.out K4.out (by show FlAt _ T h (if fhas X.shown n = true then _ else _); rw [if_pos hh]; exact M4.out)⟩
theorem dadd_remove (F T : Nat → Prop) (p s h : Nat) (pv : Value) (n : Byt) (X : Dk) (w : World) (d : DiskIn F T w p s h pv X) (hs : size X.shown ≤ 1000000) (hp : X.pend.length ≤ 1000000) (hn : n.length ≤ 1000) (hh : fhas X.shown n = true) :
    Calls Tryz.prog 171 #[.pointer (some ⟨p, 0, none⟩), chgV (.remove n) (.slice none 0 0)] w fun e w' => e = .returned (.tuple #[]) ∧ Keep F w w' ∧ ∃ pv', (∀ g, pv'.ownBlock = some g → F g ∨ w.heap.size ≤ g) ∧ DiskIn (fun g => F g ∨ pv'.ownBlock = some g) T w' p s h pv' (X.add (.remove n)) := by
  have D := Lib.hid d
  have B := Lib.hid d.blk
  have c2 := dk_2 d.blk
  have c3 := dk_3 d.blk
  have f3 := dk_f d.blk 3
  obtain ⟨i0, hi0, hz0, hz1, hz2⟩ := info_parts infoChg
  obtain ⟨xs, p1, p2, p3⟩ := d.pend
  have P1 := Lib.hid p1
  have P23 := Lib.hid (And.intro p2 p3)
  obtain ⟨pa, pc, rfl, _, _⟩ := ownsRow_form p1
  clear d p1 p2 p3
  unfold chgV sv
  go_enter Tryz.func171, Tryz.ntmps171
  have ca : (w.alloc (.cells #[.int .i64 2, .string ⟨n.toArray⟩, .string ⟨#[]⟩, .slice none 0 0] 181)).cell? ⟨p, 3, none⟩ = some (.slice pa X.pend.length pc) := dk_3 (blk_alloc B.out _)
  have cb2 : ((w.alloc (.cells #[.int .i64 2, .string ⟨n.toArray⟩, .string ⟨#[]⟩, .slice none 0 0] 181)).alloc (.cells #[.int .i64 2, .string ⟨n.toArray⟩, .string ⟨#[]⟩, .slice none 0 0] 181)).cell? ⟨p, 3, none⟩ = some (.slice pa X.pend.length pc) := dk_3 (blk_alloc (blk_alloc B.out _) _)
  go_wp2_with fail
  have FN := Lib.hid (four_new (w.alloc (.cells #[.int .i64 2, .string ⟨n.toArray⟩, .string ⟨#[]⟩, .slice none 0 0] 181)) (w.heap.size + 1) (by simp) (.int .i64 2) (.string ⟨n.toArray⟩) (.string ⟨#[]⟩) (.slice none 0 0) 181)
  have KB := Lib.hid (box2_keep w [.int .i64 2, .string ⟨n.toArray⟩, .string ⟨#[]⟩, .slice none 0 0])
  go_region_law (refine step_append_prov (by rfl) (.tmp 8) (.tmp 10) 119 (by rfl) 0 181 i0 chg0 4 64 Tryz.underlying119 hi0 hz0 hz1 hz2 rfl (by decide) (.slice pa X.pend.length pc) X.pend.length xs.flatten (by rfl) (ownsRow_keep (S := Non) P1.out (by exact ⟨KB.out.os, KB.out.tape, KB.out.output, KB.out.size, KB.out.block⟩) (fun _ _ e => e)) ⟨w.heap.size + 1, 0, none⟩ 1 1 [.int .i64 2, .string ⟨n.toArray⟩, .string ⟨#[]⟩, .slice none 0 0] (by rfl) (by rfl) (by exact FN.out) (by intro u hu; simp at hu; rcases hu with rfl | rfl | rfl | rfl <;> rfl) (by unfold maxLen; omega) (by omega) (Nat.zero_le _) ?_; intro v1 w1 ho hg hpp; obtain ⟨a1, c1, rfl, _, _⟩ := ownsRow_form ho; have HO := Lib.hid ho; have HP := Lib.hid hpp; have KG : Hid (Keep (fun k => (Value.slice pa X.pend.length pc).ownBlock = some k) w w1) := Lib.hid (Keep.grown (a := w) (by exact ⟨KB.out.os, KB.out.tape, KB.out.output, KB.out.size, fun k hk hn => KB.out.block k hk (fun e => e)⟩) hg (fun k e => .inl e)); have B1 := KG.out.at B.out (fun e => (D.out.apart.2.2.2 p e).1 rfl); have e2 := dk_2 B1; have e3 := dk_3 B1; have g3 := dk_f B1 3; have BB1 := Lib.hid B1; have BX : Hid (w1.heap[w.heap.size]? = some (.cells #[.int .i64 2, .string ⟨n.toArray⟩, .string ⟨#[]⟩, .slice none 0 0] 181)) := Lib.hid ((hg.block w.heap.size (by simp; omega) (fun e => by have := (P1.out.lt w.heap.size e.symm).2; omega)).trans (by exact (blk_alloc (blk_new w _) _))); clear ho hg hpp B1)
  all_goals
    have hb3 : (w1.setCell ⟨p, 3, none⟩ (.slice a1 (X.pend.length + 1) c1)).heap[p]? = some (DkB X.room s h (.slice a1 (X.pend.length + 1) c1) X.fuse X.down) := dk_set3 BB1.out _
    have r2 := dk_2 hb3
    have hpl := lt_of_block B.out
    have bx3 : (w1.setCell ⟨p, 3, none⟩ (.slice a1 (X.pend.length + 1) c1)).heap[w.heap.size]? = some (.cells #[.int .i64 2, .string ⟨n.toArray⟩, .string ⟨#[]⟩, .slice none 0 0] 181) := blk_skip BX.out (by omega) 3 _
    have q0 : (w1.setCell ⟨p, 3, none⟩ (.slice a1 (X.pend.length + 1) c1)).cell? ⟨w.heap.size, 0, none⟩ = some (.int .i64 2) := by simp [World.cell?, bx3]
    have q1 : (w1.setCell ⟨p, 3, none⟩ (.slice a1 (X.pend.length + 1) c1)).cell? ⟨w.heap.size, 1, none⟩ = some (.string ⟨n.toArray⟩) := by simp [World.cell?, bx3]
    have q2 : (w1.setCell ⟨p, 3, none⟩ (.slice a1 (X.pend.length + 1) c1)).cell? ⟨w.heap.size, 2, none⟩ = some (.string ⟨#[]⟩) := by simp [World.cell?, bx3]
    have q3 : (w1.setCell ⟨p, 3, none⟩ (.slice a1 (X.pend.length + 1) c1)).cell? ⟨w.heap.size, 3, none⟩ = some (.slice none 0 0) := by simp [World.cell?, bx3]
    have K3 := Lib.hid (KG.out.trans ((Keep.refl (One p) w1).setOne 3 (.slice a1 (X.pend.length + 1) c1)) (U := fun k => (Value.slice pa X.pend.length pc).ownBlock = some k ∨ k = p) (fun _ _ e => .inl e) (fun _ _ e => .inr e))
    have hTn : Hid (∀ g, T g → ¬ ((Value.slice pa X.pend.length pc).ownBlock = some g ∨ g = p)) := Lib.hid (fun g hg e => by
      rcases e with e | e
      · exact D.out.outT.2.2.2.1 g e hg
      · exact D.out.outT.1 (e ▸ hg))
    have MS := Lib.hid (FlAt.keep D.out.shown K3.out (fun e => by rcases e with e | e; exact (D.out.apart.2.2.2 h e).2.2 rfl; exact D.out.apart.2.2.1 e.symm) hTn.out (fun _ e => e))
    have MSd := Lib.hid (FlAt.keep MS.out ((Keep.refl Non _).drew) (fun e => e) (fun _ _ e => e) (fun _ e => e))
    have HB3 := Lib.hid hb3
    clear hb3 bx3
    go_simp
    go_wp2_with fail
    go_region_with (go_at_call 79; refine (do_remove T h X.shown n _ MSd.out D.out.outT.2.2.1 hs hn (fun g e => K3.out.lt (D.out.outT.2.2.2.2 g e)) hh).mono ?_; rintro e w4 ⟨rfl, k4, m4⟩; have K4 := Lib.hid (keep_undrew k4); have M4 := Lib.hid m4; clear k4 m4)
    all_goals
     go_wp2_with fail
     go_end0
     exact ⟨rfl, dadd_close D.out P1.out P23.out (c := .remove n) (l := [.int .i64 2, .string ⟨n.toArray⟩, .string ⟨#[]⟩, .slice none 0 0]) (by first | rfl | exact rfl) HO.out (HP.out.imp id (fun e => e.trans (by congr 1; simp))) KG.out HB3.out K4.out (by show FlAt _ T h (if fhas X.shown n = true then _ else _); rw [if_pos hh]; exact M4.out)⟩
theorem works_room (X : Dk) : X.works.2.room = X.room ∧ X.works.2.shown = X.shown ∧ X.works.2.pend = X.pend ∧ X.works.2.sure = X.sure := by
  unfold Dk.works
  split
  · exact ⟨rfl, rfl, rfl, rfl⟩
  · split <;> exact ⟨rfl, rfl, rfl, rfl⟩
theorem works_cases (X : Dk) : X.works.1 = 0 ∨ X.works.1 = 14 := by
  unfold Dk.works
  split
  · exact .inr rfl
  · split
    · exact .inr rfl
    · exact .inl rfl
theorem dsync_no (F T : Nat → Prop) (p s h : Nat) (pv : Value) (X : Dk) (w : World) (d : DiskIn F T w p s h pv X) (hf : X.fuse ≤ 1000000000) (hw : X.works.1 = 14) :
    Calls Tryz.prog 102 #[.pointer (some ⟨p, 0, none⟩)] w fun e w' => e = .returned (.iface 84 (.int .i64 14)) ∧ Keep (One p) w w' ∧ DiskIn F T w' p s h pv X.works.2 := by
  have W := dworks_any F T p s h pv X w d hf
  rw [hw] at W
  have W2 : Hid (Calls Tryz.prog 169 #[.pointer (some ⟨p, 0, none⟩)] w fun e w' => e = .returned (.iface 84 (.int .i64 14)) ∧ Keep (One p) w w' ∧ DiskIn F T w' p s h pv X.works.2) := W
  clear W d
  go_enter Tryz.func102, Tryz.ntmps102
  go_wp2_with (go_at_call 169; refine W2.out.mono ?_; rintro e w1 ⟨rfl, k1, d1⟩; have K1 := Lib.hid k1; have D1 := Lib.hid d1; clear k1 d1)
  go_ret
  exact ⟨rfl, K1.out, D1.out⟩
theorem dsync_ok (F T : Nat → Prop) (p s h : Nat) (pv : Value) (X : Dk) (w : World) (d : DiskIn F T w p s h pv X) (hf : X.fuse ≤ 1000000000) (hw : X.works.1 = 0) :
    Calls Tryz.prog 102 #[.pointer (some ⟨p, 0, none⟩)] w fun e w' => e = .returned .nilIface ∧ Keep (One p) w w' ∧ ∃ s', w.heap.size ≤ s' ∧ DiskIn (fun g => F g ∨ g = s') T w' p s' h (.slice none 0 0) { X.works.2 with sure := X.shown, pend := [] } := by
  have W := dworks_any F T p s h pv X w d hf
  rw [hw] at W
  have W2 : Hid (Calls Tryz.prog 169 #[.pointer (some ⟨p, 0, none⟩)] w fun e w' => e = .returned .nilIface ∧ Keep (One p) w w' ∧ DiskIn F T w' p s h pv X.works.2) := W
  clear W d
  go_enter Tryz.func102, Tryz.ntmps102
  go_wp2_with (first
    | (go_at_call 169; refine W2.out.mono ?_; rintro e w1 ⟨rfl, k1, d1⟩; obtain ⟨es, clock, hes, m1, m2⟩ := mclone_map d1.shown; have B1 := Lib.hid d1.blk; have c2 := dk_2 d1.blk; have b2 := blk_alloc d1.blk (.map es clock); have e1 := dk_1 b2; have f1 := dk_f b2 1; have b3 := dk_set1 b2 w1.heap.size; have e3 := dk_3 b3; have f3 := dk_f b3 3; have b4 := dk_set3 b3 (.slice none 0 0); have B4 := Lib.hid b4; have M1 := Lib.hid m1; have M2 := Lib.hid m2; have K1 := Lib.hid k1; have D1 := Lib.hid d1; clear k1 d1 m1 m2 b2 b3 b4)
    | (go_at_call 80; refine (mclone_files h es clock _ hes).mono ?_; rintro e w2 ⟨rfl, rfl⟩))
  go_ret
  have kA : Keep Non w1 (w1.alloc (.map es clock)) := (Keep.refl _ _).alloc _
  have kS : Keep (One p) w1 (((w1.alloc (.map es clock)).setCell ⟨p, 1, none⟩ (.map (some w1.heap.size))).setCell ⟨p, 3, none⟩ (.slice none 0 0)) := (((Keep.refl (One p) w1).alloc _).setOne 1 _).setOne 3 _
  have kT : Keep (One p) (w1.alloc (.map es clock)) (((w1.alloc (.map es clock)).setCell ⟨p, 1, none⟩ (.map (some w1.heap.size))).setCell ⟨p, 3, none⟩ (.slice none 0 0)) := ((Keep.refl (One p) _).setOne 1 _).setOne 3 _
  obtain ⟨i1, i2, i3, i4, i5⟩ := D1.out.inF
  obtain ⟨a1, a2, a3, a4⟩ := D1.out.apart
  obtain ⟨o1, o2, o3, o4, o5⟩ := D1.out.outT
  obtain ⟨r1, r2, r3, r4⟩ := works_room X
  have hpl := lt_of_block B1.out
  have hhl := MapAt.lt D1.out.shown
  have hT := One.notT o1
  refine ⟨rfl, K1.out.trans1 kS, w1.heap.size, K1.out.size, B4.out, ?_, ?_, ⟨[], World.ownsRow_nil _ _ _ _, rfl, fun i c l hc => by simp at hc⟩, ⟨.inl i1, .inr rfl, .inl i3, fun g e => (by cases e), fun g e => .inl (i5 g e)⟩, ⟨by omega, by omega, a3, fun g e => (by cases e)⟩, ⟨o1, fun e => by have := o5 _ e; omega, o3, fun g e => (by cases e), fun g e => kS.lt (o5 g e)⟩, D1.out.room⟩
  · show FlAt _ T w1.heap.size X.shown
    rw [← r2]
    exact MapAt.keep M1.out kT (fun e => by unfold One at e; omega) (BsIn.fun1 _ _) (fun v x hx => hx.keep kS hT (fun _ e => e))
  · exact MapAt.keep M2.out kT (fun e => a3 e.symm) (BsIn.fun1 _ _) (fun v x hx => hx.keep kS hT (fun _ e => e))
theorem looks_ok {F : Nat → Prop} {p : Nat} {X : Dk} {w : World} (d : DiskAt F w p X) (hd : X.down = false) : Calls Tryz.prog 165 #[.pointer (some ⟨p, 0, none⟩)] w fun e w' => e = .returned .nilIface ∧ w' = w := by
  have h := dlooks_any F p X w d
  have e : errv X.looks = .nilIface := by unfold Dk.looks; rw [hd]; rfl
  rw [e] at h
  exact h
theorem dread_none (F : Nat → Prop) (p : Nat) (X : Dk) (n : Byt) (w : World) (d : DiskAt F w p X) (hd : X.down = false) (hn : n.length ≤ 1000) (hh : fhas X.shown n = false) :
    Calls Tryz.prog 104 #[.pointer (some ⟨p, 0, none⟩), sv n] w fun e w' => e = .returned (.tuple #[.slice none 0 0, .iface 84 (.int .i64 4)]) ∧ w' = w := by
  have L := Lib.hid (looks_ok d hd)
  have law := string_keyed Tryz.underlying9
  have hkey := key_sv n (by unfold maxLen; omega)
  have hz := fun w => Tryz.zeroValue48 w
  have hhas : has X.shown (.string n) = false := hh
  obtain ⟨T, s, h, pv, d⟩ := d
  have c2 := dk_2 d.blk
  have M := Lib.hid d.shown
  clear d
  unfold sv at hkey ⊢
  go_enter Tryz.func104, Tryz.ntmps104
  go_wp2_with (first
    | (go_at_call 165; refine L.out.mono ?_; rintro e w1 ⟨rfl, e1⟩; subst e1)
    | (at_lookup; refine wpList_look_ok rfl _ _ 118 rfl 48 law Tryz.underlying118 (hz _) [] (BsIn.fun1 _ T) (bsin_nil _ _) rfl M.out _ _ rfl hkey ?_; rw [hhas]; intro lv ly hlv hat; obtain ⟨⟨la, lc, rfl, _⟩, _⟩ := hlv; clear hat))
  go_ret2
  exact ⟨rfl, rfl⟩
theorem dread_ok (F : Nat → Prop) (p : Nat) (X : Dk) (n : Byt) (w : World) (d : DiskAt F w p X) (hd : X.down = false) (hn : n.length ≤ 1000) (hh : fhas X.shown n = true) (hl : (fget X.shown n).length ≤ 1000000000) :
    Calls Tryz.prog 104 #[.pointer (some ⟨p, 0, none⟩), sv n] w fun e w' => ∃ v', e = .returned (.tuple #[v', .nilIface]) ∧ Keep Non w w' ∧ w'.ownsRow w.heap.size 5 1 v' (fget X.shown n).length ((fget X.shown n).map bv) := by
  have L := Lib.hid (looks_ok d hd)
  have law := string_keyed Tryz.underlying9
  have hkey := key_sv n (by unfold maxLen; omega)
  have hz := fun w => Tryz.zeroValue48 w
  have hhas : has X.shown (.string n) = true := hh
  obtain ⟨T, s, h, pv, d⟩ := d
  have c2 := dk_2 d.blk
  have M := Lib.hid d.shown
  clear d
  unfold sv at hkey ⊢
  generalize hB : fget X.shown n = B at hl ⊢
  have HB := Lib.hid hB
  clear hB
  go_enter Tryz.func104, Tryz.ntmps104
  go_wp2_with (first
    | (go_at_call 165; refine L.out.mono ?_; rintro e w1 ⟨rfl, e1⟩; subst e1)
    | (at_lookup; refine wpList_look_ok rfl _ _ 118 rfl 48 law Tryz.underlying118 (hz _) [] (BsIn.fun1 _ T) (bsin_nil _ _) rfl M.out _ _ rfl hkey ?_; rw [hhas]; intro lv ly hlv hat; obtain rfl : ly = B := (by have e := HB.out; unfold fget at e; rw [hat] at e; exact e); have LV := Lib.hid hlv.1; clear hat hlv)
    | (go_at_call 63; refine (clone_new _ ly _ LV.out (by omega)).mono ?_; rintro e w2 ⟨v2, rfl, k2, o2⟩; have K2 := Lib.hid k2; have O2 := Lib.hid o2; clear k2 o2))
  go_ret2
  exact ⟨_, rfl, K2.out, O2.out⟩
def signsL : List UInt8 := [97, 98, 99, 100, 101, 102, 103, 104, 105, 106, 107, 108, 109, 110, 111, 112, 113, 114, 115, 116, 117, 118, 119, 120, 121, 122, 48, 49, 50, 51, 52, 53, 54, 55, 56, 57, 45, 46, 126]
def okName (n : Byt) : Prop := 1 ≤ n.length ∧ n.length ≤ 24 ∧ ∀ c ∈ n, c ∈ signsL
theorem dropWhile_all (p : UInt8 → Bool) : ∀ l : List UInt8, (∀ c ∈ l, p c = true) → l.dropWhile p = []
  | [], _ => rfl
  | x :: r, h => by rw [List.dropWhile_cons_of_pos (h x (by simp))]; exact dropWhile_all p r (fun c hc => h c (by simp [hc]))
theorem trimS_all (n cs : List UInt8) (h : ∀ c ∈ n, c ∈ cs) : Lib.trimS n cs = [] := by
  unfold Lib.trimS Lib.trimRightS
  rw [dropWhile_all _ n.reverse (fun c hc => by simpa using h c (by simpa using hc))]
  rfl
theorem trim_signs (n : Byt) (w : World) (hn : n.length ≤ 1000) (h : ∀ c ∈ n, c ∈ signsL) :
    Calls Tryz.prog 251 #[.string ⟨n.toArray⟩, .string ⟨signsL.toArray⟩] w fun e w' => e = .returned (.string ⟨#[]⟩) ∧ Keep Non w w' := by
  refine (Any.strings_Trim_laid Tryz.lays160 (by kernel_rfl) ⟨n.toArray⟩ ⟨signsL.toArray⟩ w (by show n.toArray.size ≤ _; simp; omega) (by decide) (ascii_of_all (by decide))).mono ?_
  rintro e w' ⟨rfl, hb⟩
  refine ⟨?_, Keep.ofBelow hb⟩
  have : Lib.trimS (⟨n.toArray⟩ : ByteArray).data.toList (⟨signsL.toArray⟩ : ByteArray).data.toList = [] := by
    show Lib.trimS n.toArray.toList signsL.toArray.toList = []
    rw [List.toList_toArray, List.toList_toArray]
    exact trimS_all n signsL h
  rw [this]
theorem named_ok (n : Byt) (w : World) (h : okName n) :
    Calls Tryz.prog 170 #[sv n] w fun e w' => e = .returned (.bool true) ∧ Keep Non w w' := by
  obtain ⟨h1, h2, h3⟩ := h
  have TR := Lib.hid (trim_signs n w (by omega) h3)
  have TRd := Lib.hid (trim_signs n w.drew (by omega) h3)
  have hs : (⟨n.toArray⟩ : ByteArray).size = n.length := by show n.toArray.size = _; simp
  unfold sv
  go_enter Tryz.func170, Tryz.ntmps170
  go_wp2_with (go_at_call 251; refine TR.out.mono ?_; rintro e w1 ⟨rfl, k1⟩; have K1 := Lib.hid k1; clear k1)
  go_ret
  exact ⟨rfl, K1.out⟩
end Go.Proofs.YtdmckfkhkjkdnaaGreatDoor
