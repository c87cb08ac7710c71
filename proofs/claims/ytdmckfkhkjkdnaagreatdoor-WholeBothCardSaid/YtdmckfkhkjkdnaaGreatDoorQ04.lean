/- Files, in plain words: a map from names to bytes; a disk, and what its operations do. · A disk in memory; whether it may be looked at, whether an oper -/
import Derived.Maps.RangeWalk
import Derived.Maps.Ext
import Derived.Deep.RegionHeld3
import Derived.Deep.QuietTactic
import Derived.Shelf.SlMaps.Clone
import Derived.Test.YtdmckfkhkjkdnaaGreatDoorQ03
set_option linter.unusedVariables false
set_option maxRecDepth 100000
set_option maxHeartbeats 16000000
namespace Go.Proofs.YtdmckfkhkjkdnaaGreatDoor
open Go.RowKit Go.Maps
abbrev Byt := List UInt8
abbrev Fl := DataW Byt
def fhas (D : Fl) (n : Byt) : Bool := has D (.string n)
def heldB : DataW Byt → Byt
  | .held l => l
  | _ => []
def fget (D : Fl) (n : Byt) : Byt := heldB (D.atKey (.string n) (.held []))
def fput (D : Fl) (n b : Byt) : Fl := D.put (.string n) (.held b)
def fdel (D : Fl) (n : Byt) : Fl := D.del (.string n)
def fused : Fl → Nat
  | .map es => (es.map (fun p => (heldB p.2).length)).sum
  | _ => 0
section
variable {D : Fl} {n m b : Byt}
theorem isKey (n : Byt) : WideAt.IsKeyLit (.string n) := trivial
theorem key_ne (h : m ≠ n) : (Lit.string m) ≠ .string n := fun e => h (by injection e)
theorem fhas_put_same (h : IsMap D) : fhas (fput D n b) n = true := has_put_same h (isKey n) _
theorem fhas_put_other (h : m ≠ n) : fhas (fput D n b) m = fhas D m := has_put_other (key_ne h) _
theorem fhas_del_same : fhas (fdel D n) n = false := has_del_same
theorem fhas_del_other (h : m ≠ n) : fhas (fdel D n) m = fhas D m := has_del_other (key_ne h)
theorem fget_put_same (h : IsMap D) : fget (fput D n b) n = b := by unfold fget fput; rw [atKey_put_same h (isKey n)]; rfl
theorem fget_put_other (h : m ≠ n) : fget (fput D n b) m = fget D m := by unfold fget fput; rw [atKey_put_other (key_ne h)]
theorem fget_del_other (h : m ≠ n) : fget (fdel D n) m = fget D m := by unfold fget fdel; rw [atKey_del_other (key_ne h)]
theorem isMap_put (h : IsMap D) : IsMap (fput D n b) := h.put _ _
theorem isMap_del (h : IsMap D) : IsMap (fdel D n) := h.del _
theorem sum_insert (f : Lit × DataW Byt → Nat) (x : Lit × DataW Byt) : ∀ l : List (Lit × DataW Byt), ((DataW.insert x l).map f).sum = f x + (l.map f).sum
  | [] => rfl
  | y :: r => by
    unfold DataW.insert
    split
    · rfl
    · simp only [List.map_cons, List.sum_cons, sum_insert f x r]
      omega
theorem sum_filter (f : Lit × DataW Byt → Nat) (p : Lit × DataW Byt → Bool) : ∀ l : List (Lit × DataW Byt), ((l.filter p).map f).sum ≤ (l.map f).sum
  | [] => Nat.le_refl _
  | y :: r => by
    have := sum_filter f p r
    simp only [List.filter_cons]
    split
    · simp only [List.map_cons, List.sum_cons]; omega
    · simp only [List.map_cons, List.sum_cons]; omega
theorem fused_put_le (h : IsMap D) : fused (fput D n b) ≤ fused D + b.length := by
  obtain ⟨es, rfl⟩ := h
  show ((DataW.insert _ _).map _).sum ≤ (es.map _).sum + _
  rw [sum_insert, Nat.add_comm]
  exact Nat.add_le_add_right (sum_filter _ _ es) _
theorem fused_del_le (h : IsMap D) : fused (fdel D n) ≤ fused D := by
  obtain ⟨es, rfl⟩ := h
  exact sum_filter _ _ es
theorem size_put_le (h : IsMap D) : size (fput D n b) ≤ size D + 1 := by
  obtain ⟨es, rfl⟩ := h
  show (DataW.insert _ _).length ≤ es.length + 1
  rw [length_insert]
  have := List.length_filter_le (fun p : Lit × DataW Byt => !p.1.sameKey (.string n)) es
  omega
theorem size_del_le (h : IsMap D) : size (fdel D n) ≤ size D := by
  obtain ⟨es, rfl⟩ := h
  exact List.length_filter_le _ es
end
inductive Chg where
  | write (n b : Byt)
  | rename (n m : Byt)
  | remove (n : Byt)
def Chg.on : Chg → Fl → Fl
  | .write n b, D => fput D n b
  | .rename n m, D => if fhas D n then fput (fdel D n) m (fget D n) else D
  | .remove n, D => if fhas D n then fdel D n else D
structure Dk where
  room : Nat
  sure : Fl
  shown : Fl
  pend : List Chg
  fuse : Int
  down : Bool
namespace Dk
def works (d : Dk) : Int × Dk :=
  if d.down = true then (14, d) else if d.fuse = 0 then (14, { d with down := true }) else (0, { d with fuse := if 0 < d.fuse then d.fuse - 1 else d.fuse })
def add (d : Dk) (c : Chg) : Dk := { d with pend := d.pend ++ [c], shown := c.on d.shown }
def full (d : Dk) (n b : Byt) : Prop := (fhas d.shown n = false ∧ 512 ≤ size d.shown) ∨ d.room + (fget d.shown n).length < fused d.shown + b.length
instance (d : Dk) (n b : Byt) : Decidable (d.full n b) := inferInstanceAs (Decidable (_ ∨ _))
def write (d : Dk) (n b : Byt) : Int × Dk :=
  if d.works.1 ≠ 0 then d.works else if 65536 < b.length then (3, d.works.2) else if d.works.2.full n b then (5, d.works.2) else (0, d.works.2.add (.write n b))
def rename (d : Dk) (n m : Byt) : Int × Dk :=
  if d.works.1 ≠ 0 then d.works else if fhas d.works.2.shown n then (0, d.works.2.add (.rename n m)) else (4, d.works.2)
def remove (d : Dk) (n : Byt) : Int × Dk :=
  if d.works.1 ≠ 0 then d.works else if fhas d.works.2.shown n then (0, d.works.2.add (.remove n)) else (4, d.works.2)
def sync (d : Dk) : Int × Dk :=
  if d.works.1 ≠ 0 then d.works else (0, { d.works.2 with sure := d.works.2.shown, pend := [] })
def looks (d : Dk) : Int := if d.down = true then 14 else 0
end Dk
def dk0 (room : Nat) : Dk := ⟨room, .map [], .map [], [], -1, false⟩
def tilde (n : Byt) : Byt := 126 :: n
namespace Dk
def sput (d : Dk) (n b : Byt) : Int × Dk :=
  if (d.write (tilde n) b).1 ≠ 0 then d.write (tilde n) b
  else if (d.write (tilde n) b).2.sync.1 ≠ 0 then (d.write (tilde n) b).2.sync
  else if ((d.write (tilde n) b).2.sync.2.rename (tilde n) n).1 ≠ 0 then (d.write (tilde n) b).2.sync.2.rename (tilde n) n
  else ((d.write (tilde n) b).2.sync.2.rename (tilde n) n).2.sync
def sdel (d : Dk) (n : Byt) : Int × Dk := if (d.remove n).1 ≠ 0 then d.remove n else (d.remove n).2.sync
end Dk
end Go.Proofs.YtdmckfkhkjkdnaaGreatDoor
namespace Go.Proofs.YtdmckfkhkjkdnaaGreatDoor
open Go.RowKit Go.Maps
def DkB (room : Int) (s h : Nat) (pv : Value) (fuse : Int) (down : Bool) : Obj := .cells #[.int .i64 room, .map (some s), .map (some h), pv, .int .i64 fuse, .bool down] 121 (0, 0)
section
variable {w : World} {p s h : Nat} {room fuse : Int} {pv : Value} {down : Bool}
theorem dk_0 (e : w.heap[p]? = some (DkB room s h pv fuse down)) : w.cell? ⟨p, 0, none⟩ = some (.int .i64 room) := by simp [World.cell?, e, DkB]
theorem dk_1 (e : w.heap[p]? = some (DkB room s h pv fuse down)) : w.cell? ⟨p, 1, none⟩ = some (.map (some s)) := by simp [World.cell?, e, DkB]
theorem dk_2 (e : w.heap[p]? = some (DkB room s h pv fuse down)) : w.cell? ⟨p, 2, none⟩ = some (.map (some h)) := by simp [World.cell?, e, DkB]
theorem dk_3 (e : w.heap[p]? = some (DkB room s h pv fuse down)) : w.cell? ⟨p, 3, none⟩ = some pv := by simp [World.cell?, e, DkB]
theorem dk_4 (e : w.heap[p]? = some (DkB room s h pv fuse down)) : w.cell? ⟨p, 4, none⟩ = some (.int .i64 fuse) := by simp [World.cell?, e, DkB]
theorem dk_5 (e : w.heap[p]? = some (DkB room s h pv fuse down)) : w.cell? ⟨p, 5, none⟩ = some (.bool down) := by simp [World.cell?, e, DkB]
theorem dk_f (e : w.heap[p]? = some (DkB room s h pv fuse down)) (i : Nat) : w.frozen? ⟨p, i, none⟩ = false := by simp [World.frozen?, e, DkB]
theorem dk_set1 (e : w.heap[p]? = some (DkB room s h pv fuse down)) (k : Nat) : (w.setCell ⟨p, 1, none⟩ (.map (some k))).heap[p]? = some (DkB room k h pv fuse down) := blk_set e 1 _
theorem dk_set3 (e : w.heap[p]? = some (DkB room s h pv fuse down)) (v : Value) : (w.setCell ⟨p, 3, none⟩ v).heap[p]? = some (DkB room s h v fuse down) := blk_set e 3 _
theorem dk_set4 (e : w.heap[p]? = some (DkB room s h pv fuse down)) (k : Int) : (w.setCell ⟨p, 4, none⟩ (.int .i64 k)).heap[p]? = some (DkB room s h pv k down) := blk_set e 4 _
theorem dk_set5 (e : w.heap[p]? = some (DkB room s h pv fuse down)) (k : Bool) : (w.setCell ⟨p, 5, none⟩ (.bool k)).heap[p]? = some (DkB room s h pv fuse k) := blk_set e 5 _
end
def sv (n : Byt) : Value := .string ⟨n.toArray⟩
def ChgV (w : World) (T : Nat → Prop) : Chg → List Value → Prop
  | .write n b, l => ∃ v, l = [.int .i64 0, sv n, sv [], v] ∧ BsIn w T v b
  | .rename n m, l => l = [.int .i64 1, sv n, sv m, .slice none 0 0]
  | .remove n, l => l = [.int .i64 2, sv n, sv [], .slice none 0 0]
def PendAt (w : World) (T : Nat → Prop) (pv : Value) (cs : List Chg) : Prop :=
  ∃ xs : List (List Value), w.ownsRow 0 181 4 pv cs.length xs.flatten ∧ xs.length = cs.length ∧ ∀ (i : Nat) c l, cs[i]? = some c → xs[i]? = some l → ChgV w T c l
abbrev FlAt (w : World) (T : Nat → Prop) (b : Nat) (D : Fl) : Prop := MapAt w 9 (BsIn w T) b D
structure DiskIn (F T : Nat → Prop) (w : World) (p s h : Nat) (pv : Value) (X : Dk) : Prop where
  blk : w.heap[p]? = some (DkB X.room s h pv X.fuse X.down)
  sure : FlAt w T s X.sure
  shown : FlAt w T h X.shown
  pend : PendAt w T pv X.pend
  inF : F p ∧ F s ∧ F h ∧ (∀ g, pv.ownBlock = some g → F g) ∧ ∀ g, T g → F g
  apart : s ≠ h ∧ p ≠ s ∧ p ≠ h ∧ ∀ g, pv.ownBlock = some g → g ≠ p ∧ g ≠ s ∧ g ≠ h
  outT : ¬ T p ∧ ¬ T s ∧ ¬ T h ∧ (∀ g, pv.ownBlock = some g → ¬ T g) ∧ ∀ g, T g → g < w.heap.size
  room : X.room ≤ 1073741824
def DiskAt (F : Nat → Prop) (w : World) (p : Nat) (X : Dk) : Prop := ∃ T s h pv, DiskIn F T w p s h pv X
theorem ChgV.keep {w w' : World} {S T U : Nat → Prop} {c : Chg} {l : List Value} (h : ChgV w T c l) (k : Keep S w w') (hn : ∀ g, T g → ¬ S g) (hu : ∀ g, T g → U g) : ChgV w' U c l := by
  cases c with
  | write n b =>
    obtain ⟨v, e, hb⟩ := h
    exact ⟨v, e, hb.keep k hn hu⟩
  | rename n m => exact h
  | remove n => exact h
theorem PendAt.keep {w w' : World} {S T U : Nat → Prop} {pv : Value} {cs : List Chg} (h : PendAt w T pv cs) (k : Keep S w w') (hn : ∀ g, T g → ¬ S g) (hp : ∀ g, pv.ownBlock = some g → ¬ S g) (hu : ∀ g, T g → U g) : PendAt w' U pv cs := by
  obtain ⟨xs, h1, h2, h3⟩ := h
  exact ⟨xs, ownsRow_keep h1 k hp, h2, fun i c l hc hl => (h3 i c l hc hl).keep k hn hu⟩
theorem FlAt.keep {w w' : World} {S T U : Nat → Prop} {b : Nat} {D : Fl} (h : FlAt w T b D) (k : Keep S w w') (hb : ¬ S b) (hn : ∀ g, T g → ¬ S g) (hu : ∀ g, T g → U g) : FlAt w' U b D :=
  MapAt.keep h k hb (BsIn.fun1 _ _) (fun v x hx => hx.keep k hn hu)
theorem DiskIn.keep {F T S : Nat → Prop} {w w' : World} {p s h : Nat} {pv : Value} {X : Dk} (d : DiskIn F T w p s h pv X) (k : Keep S w w') (hn : ∀ g, F g → ¬ S g) : DiskIn F T w' p s h pv X := by
  obtain ⟨i1, i2, i3, i4, i5⟩ := d.inF
  exact ⟨k.at d.blk (hn _ i1), d.sure.keep k (hn _ i2) (fun g e => hn _ (i5 g e)) (fun _ e => e), d.shown.keep k (hn _ i3) (fun g e => hn _ (i5 g e)) (fun _ e => e), d.pend.keep k (fun g e => hn _ (i5 g e)) (fun g e => hn _ (i4 g e)) (fun _ e => e), d.inF, d.apart,
    ⟨d.outT.1, d.outT.2.1, d.outT.2.2.1, d.outT.2.2.2.1, fun g e => k.lt (d.outT.2.2.2.2 g e)⟩, d.room⟩
theorem DiskAt.keep {F S : Nat → Prop} {w w' : World} {p : Nat} {X : Dk} (d : DiskAt F w p X) (k : Keep S w w') (hn : ∀ g, F g → ¬ S g) : DiskAt F w' p X := by
  obtain ⟨T, s, h, pv, d⟩ := d
  exact ⟨T, s, h, pv, d.keep k hn⟩
theorem dlooks_any (F : Nat → Prop) (p : Nat) (X : Dk) (w : World) (d : DiskAt F w p X) :
    Calls Tryz.prog 165 #[.pointer (some ⟨p, 0, none⟩)] w fun e w' => e = .returned (errv X.looks) ∧ w' = w := by
  obtain ⟨T, s, h, pv, d⟩ := d
  have c5 := dk_5 d.blk
  clear d
  obtain ⟨room, sure, shown, pend, fuse, down⟩ := X
  simp only at c5
  cases down
  all_goals
    go_enter Tryz.func165, Tryz.ntmps165
    go_wp2_with fail
    go_ret
    exact ⟨rfl, rfl⟩
theorem One.notT {T : Nat → Prop} {p : Nat} (h : ¬ T p) : ∀ g, T g → ¬ One p g := fun g e e2 => h (by rw [← e2]; exact e)
theorem DiskIn.turn {F T : Nat → Prop} {w : World} {p s h i : Nat} {pv u : Value} {X Y : Dk} (d : DiskIn F T w p s h pv X) (hb : (w.setCell ⟨p, i, none⟩ u).heap[p]? = some (DkB Y.room s h pv Y.fuse Y.down))
    (h1 : Y.sure = X.sure) (h2 : Y.shown = X.shown) (h3 : Y.pend = X.pend) (h4 : Y.room = X.room) : Keep (One p) w (w.setCell ⟨p, i, none⟩ u) ∧ DiskIn F T (w.setCell ⟨p, i, none⟩ u) p s h pv Y := by
  have k : Keep (One p) w (w.setCell ⟨p, i, none⟩ u) := (Keep.refl _ _).setOne i u
  have hT := One.notT d.outT.1
  refine ⟨k, hb, ?_, ?_, ?_, d.inF, d.apart, ⟨d.outT.1, d.outT.2.1, d.outT.2.2.1, d.outT.2.2.2.1, fun g e => k.lt (d.outT.2.2.2.2 g e)⟩, by rw [h4]; exact d.room⟩
  · rw [h1]; exact d.sure.keep k (fun e => d.apart.2.1 e.symm) hT (fun _ e => e)
  · rw [h2]; exact d.shown.keep k (fun e => d.apart.2.2.1 e.symm) hT (fun _ e => e)
  · rw [h3]; exact d.pend.keep k hT (fun g e e2 => (d.apart.2.2.2 g e).1 e2) (fun _ e => e)
theorem dworks_any (F T : Nat → Prop) (p s h : Nat) (pv : Value) (X : Dk) (w : World) (d : DiskIn F T w p s h pv X) (hf : X.fuse ≤ 1000000000) :
    Calls Tryz.prog 169 #[.pointer (some ⟨p, 0, none⟩)] w fun e w' => e = .returned (errv X.works.1) ∧ Keep (One p) w w' ∧ DiskIn F T w' p s h pv X.works.2 := by
  have D := Lib.hid d
  have LK := Lib.hid (dlooks_any F p X w ⟨T, s, h, pv, d⟩)
  have c4 := dk_4 d.blk
  have c5 := dk_5 d.blk
  have f4 := dk_f d.blk 4
  have f5 := dk_f d.blk 5
  have B := Lib.hid d.blk
  clear d
  obtain ⟨room, sure, shown, pend, fuse, down⟩ := X
  simp only at c4 c5 hf
  cases down with
  | true =>
    have e1 : (Dk.mk room sure shown pend fuse true).works = (14, Dk.mk room sure shown pend fuse true) := rfl
    rw [e1]
    have LK2 : Hid (Calls Tryz.prog 165 #[.pointer (some ⟨p, 0, none⟩)] w fun e w' => e = .returned (.iface 84 (.int .i64 14)) ∧ w' = w) := LK
    go_enter Tryz.func169, Tryz.ntmps169
    go_wp2_with (go_at_call 165; refine LK2.out.mono ?_; rintro e w1 ⟨rfl, rfl⟩)
    go_ret
    exact ⟨rfl, Keep.refl _ _, D.out⟩
  | false =>
    have LK2 : Hid (Calls Tryz.prog 165 #[.pointer (some ⟨p, 0, none⟩)] w fun e w' => e = .returned .nilIface ∧ w' = w) := LK
    by_cases h0 : fuse = 0
    · subst h0
      have e1 : (Dk.mk room sure shown pend 0 false).works = (14, Dk.mk room sure shown pend 0 true) := rfl
      rw [e1]
      have HT := Lib.hid (D.out.turn (i := 5) (u := .bool true) (Y := Dk.mk room sure shown pend 0 true) (dk_set5 B.out true) rfl rfl rfl rfl)
      go_enter Tryz.func169, Tryz.ntmps169
      go_wp2_with (go_at_call 165; refine LK2.out.mono ?_; rintro e w1 ⟨rfl, e1⟩; subst e1)
      go_ret
      exact ⟨rfl, HT.out⟩
    · have hb0 : (fuse == 0) = false := by simpa using h0
      by_cases h1 : 0 < fuse
      · have e1 : (Dk.mk room sure shown pend fuse false).works = (0, Dk.mk room sure shown pend (fuse - 1) false) := by unfold Dk.works; simp [h0, h1]
        rw [e1]
        have HT := Lib.hid (D.out.turn (i := 4) (u := .int .i64 (fuse - 1)) (Y := Dk.mk room sure shown pend (fuse - 1) false) (dk_set4 B.out (fuse - 1)) rfl rfl rfl rfl)
        go_enter Tryz.func169, Tryz.ntmps169
        go_wp2_with (go_at_call 165; refine LK2.out.mono ?_; rintro e w1 ⟨rfl, e1⟩; subst e1)
        go_ret
        exact ⟨rfl, HT.out⟩
      · have e1 : (Dk.mk room sure shown pend fuse false).works = (0, Dk.mk room sure shown pend fuse false) := by unfold Dk.works; simp [h0, h1]
        rw [e1]
        have h2 : fuse ≤ 0 := by omega
        go_enter Tryz.func169, Tryz.ntmps169
        go_wp2_with (go_at_call 165; refine LK2.out.mono ?_; rintro e w1 ⟨rfl, e1⟩; subst e1)
        go_ret
        exact ⟨rfl, Keep.refl _ _, D.out⟩
def leftSum (left : Lit → Bool) (es : List (Lit × DataW Byt)) : Nat := (es.map (fun p => if left p.1 then (heldB p.2).length else 0)).sum
theorem leftSum_cut (left : Lit → Bool) (kl : Lit) (d : DataW Byt) : ∀ es : List (Lit × DataW Byt), es.Pairwise (fun p q => p.1 ≠ q.1) → (∀ zd, (DataW.map es).atKey kl zd = d) → left kl = true →
    leftSum left es = (heldB d).length + leftSum (fun z => left z && !z.sameKey kl) es
  | [], _, h, _ => by
    have h1 := h .nil
    have h2 := h (.held [])
    have e : (DataW.nil : DataW Byt) = .held [] := h1.trans h2.symm
    cases e
  | y :: r, hp, h, hl => by
    obtain ⟨hp1, hp2⟩ := List.pairwise_cons.1 hp
    unfold leftSum
    rw [List.map_cons, List.map_cons, List.sum_cons, List.sum_cons]
    cases hy : y.1.sameKey kl with
    | true =>
      have e : y.1 = kl := WideAt.sameKey_eq hy
      have hd : y.2 = d := by
        have := h .nil
        simpa [DataW.atKey, hy] using this
      have hr : (r.map (fun p => if (left p.1 && !p.1.sameKey kl) then (heldB p.2).length else 0)) = r.map (fun p => if left p.1 then (heldB p.2).length else 0) := by
        apply List.map_congr_left
        intro p hpm
        have hne : p.1.sameKey kl = false := by
          cases hs : p.1.sameKey kl
          · rfl
          · exact absurd (e.trans (WideAt.sameKey_eq hs).symm) (hp1 p hpm)
        simp [hne]
      rw [hr, hd, e, hl]
      simp
      cases hk : kl.sameKey kl
      · rw [e, hk] at hy; cases hy
      · simp
    | false =>
      have ih := leftSum_cut left kl d r hp2 (fun zd => by have := h zd; simpa [DataW.atKey, hy] using this) hl
      unfold leftSum at ih
      rw [ih]
      simp only [hy, Bool.not_false, Bool.and_true]
      omega
theorem leftSum_none (left : Lit → Bool) (h : ∀ k, left k = false) (es : List (Lit × DataW Byt)) : leftSum left es = 0 := by
  induction es with
  | nil => rfl
  | cons y r ih => simp [leftSum, h] at ih ⊢; exact ih
theorem leftSum_all (es : List (Lit × DataW Byt)) (hk : ∀ p ∈ es, WideAt.IsKeyLit p.1) : leftSum (has (.map es)) es = fused (.map es) := by
  unfold leftSum fused
  congr 1
  apply List.map_congr_left
  intro p hp
  have : has (.map es) p.1 = true := List.any_eq_true.2 ⟨p, hp, WideAt.sameKey_self (hk p hp)⟩
  rw [if_pos this]
theorem key_str {key : Value} {kl : Lit} (h : keyOf Tryz.prog 9 key = some kl) : ∃ x : ByteArray, key = .string x := by
  have hk := Tryz.underlying9
  cases key <;> simp [keyOf, hk, mapKey] at h
  exact ⟨_, rfl⟩
theorem el_slice {w : World} {T : Nat → Prop} {v : Value} {y : DataW Byt × List MemPlace} (h : readAs (BsIn w T) v = some y) : ∃ c : Option Addr × Nat × Nat, v = .slice c.1 c.2.1 c.2.2 := by
  obtain ⟨y1, y2⟩ := y
  obtain ⟨_, l, _, hb, _⟩ := readAs_inv h
  obtain ⟨a, c, rfl, _⟩ := hb
  exact ⟨(a, _, c), rfl⟩
theorem used_any (T : Nat → Prop) (h : Nat) (D : Fl) (w : World) (hm : FlAt w T h D) (hb : fused D ≤ 1000000000) :
    Calls Tryz.prog 268 #[.map (some h)] w fun e w' => e = .returned (.int .i64 (fused D)) ∧ Keep Non w w' := by
  have law := string_keyed Tryz.underlying9
  have M := Lib.hid hm
  obtain ⟨es, rfl, hpw, hkeys⟩ := World.ownsMap.canon hm law
  clear hm
  go_enter Tryz.func268, Tryz.ntmps268
  go_wp2_with (at_range; refine wpList_range_own _ rfl _ 118 rfl 9 48 law Tryz.underlying118 _ h _ _ rfl M.out ?_; intro w0 hrg0 hg0 hs0)
  go_frame
  have LS := Lib.hid (leftSum_all es hkeys)
  have PW := Lib.hid (apart_of_rising hpw)
  have HR := Lib.hid hrg0
  have K0 := Lib.hid ((Keep.refl Non w).grown hg0 (row := none) (fun k e => by cases e))
  clear hrg0 hg0 hkeys hpw
  go_loopw [3] (fun o wr => ∃ left cnt acc, wr.ranges Tryz.prog 9 (readAs (BsIn w T)) h w.heap.size (size (.map es)) (.map es) left cnt ∧ o = .int .i64 ((acc : Nat) : Int) ∧ acc + leftSum left es = fused (.map es) ∧ Keep Non w wr) (fun _ wr => wr.rangeLeft h w.heap.size)
  case atStart => exact ⟨_, _, 0, HR.out, rfl, by rw [LS.out, Nat.zero_add], K0.out⟩
  case round =>
    obtain ⟨left, cnt, acc, hrg, rfl, hacc, hk⟩ := hrel
    have RG := Lib.hid hrg
    have K := Lib.hid hk
    have ACC := Lib.hid hacc
    have hb2 : acc ≤ 1000000000 := by omega
    clear hrg hk
    go_wp2_with (at_next; refine wpList_next_ranges (α := ByteArray) (β := Option Addr × Nat × Nat) _ rfl _ rfl 9 law (readAs (BsIn w T)) (fun x => .string x) (fun c => .slice c.1 c.2.1 c.2.2) (fun _ _ h => key_str h) (fun _ _ h => el_slice h) h w.heap.size _ _ _ _ rfl RG.out ?_ ?_)
    · intro hc0 hl0
      have e0 : acc = fused (.map es) := by have := ACC.out; rw [leftSum_none _ hl0] at this; omega
      subst e0
      go_wp2_with fail
      go_ret
      exact ⟨rfl, K.out⟩
    · intro x c1 c2 c3 kl y1 y2 w1 cnt1 hkx hlx hR hat hrg1 hlt hg1 hs1 hen
      obtain ⟨_, l, rfl, hbs, _⟩ := readAs_inv hR
      have hl2 : c2 = l.length := by obtain ⟨a, c, e, _⟩ := hbs; injection e with _ e _; rw [e, List.length_map]
      subst hl2
      have A1 : Hid (acc + l.length + leftSum (fun z => left z && !z.sameKey kl) es = fused (.map es)) := Lib.hid (by rw [← ACC.out, leftSum_cut left kl _ es PW.out hat hlx]; simp [heldB]; omega)
      have hb3 : acc + l.length ≤ 1000000000 := by have := A1.out; omega
      have K1 := Lib.hid (K.out.grown hg1 (fun k e => by injection e with e; subst e; exact .inr (Nat.le_refl _)))
      have RG1 := Lib.hid hrg1
      have HLT : Hid (w1.rangeLeft h w.heap.size < wr.rangeLeft h w.heap.size) := Lib.hid (by rw [hrg1.left_eq, RG.out.left_eq]; exact hlt)
      clear hacc
      clear hkx hlx hR hat hrg1 hlt hg1 hs1 hbs ACC RG K
      go_wp2_with fail
      exact ⟨⟨_, _, acc + l.length, RG1.out, by go_num, A1.out, K1.out⟩, HLT.out⟩
end Go.Proofs.YtdmckfkhkjkdnaaGreatDoor
namespace Go.Proofs.YtdmckfkhkjkdnaaGreatDoor
open Go.RowKit
section
variable {P : Program} {ops : Array Oper} {Q : Exit → Act → World → Prop} {md : Region.Mode} {S : World → Prop}
def Calm (P : Program) (ops : Array Oper) (S : World → Prop) (o : Oper) (v : Value) (a : Act) : Prop :=
  (Region.wanted o (yielded ops a.tmps) = true ∧ ∀ w, S w → o.quietAt P a (fun w' => w' = w) w v) ∨ (Region.wanted o (yielded ops a.tmps) = false ∧ v = undef)
theorem Calm.wpOp {i : Nat} {o : Oper} {v : Value} {a : Act} (hi : ops[i]? = some o) (hy : Calm P ops S o v a) {K : Act → World → Prop} {w : World} (hS : S w) (h : K (a.put o.dst v) w) : wpOp P ops Q i K a w := by
  refine wpOp_of_qOp (C := fun w' => w' = w) (K := fun a' => K a' w) rfl (fun a' w' e hk => by rw [e]; exact hk) ?_
  unfold qOp
  simp only [hi]
  rcases hy with ⟨hw, hv⟩ | ⟨hw, rfl⟩
  · rw [if_pos hw]; exact ⟨v, fun w' e => by rw [e]; exact hv w hS, h⟩
  · rw [if_neg (by rw [hw]; decide)]; exact h
theorem Calm.of_same {o : Oper} {v : Value} {a a' : Act} (hy : Calm P ops S o v a) (he : execOp a'.eval o = execOp a.eval o) (hw : Region.wanted o (yielded ops a'.tmps) = Region.wanted o (yielded ops a.tmps)) : Calm P ops S o v a' := by
  unfold Calm Oper.quietAt at *
  rw [he, hw]
  exact hy
theorem wpOp_put_calm {j : Nat} {oi oj : Oper} {v : Value} (hj : ops[j]? = some oj) (hap : oi.apart ops oj = true)
    (hsi : ∀ cs b, oi.op ≠ .select cs b) (hsj : ∀ cs b, oj.op ≠ .select cs b)
    (hQ : ∀ c a w, Q (.panic c) (a.put oi.dst v) w → Q (.panic c) a w) {K : Act → World → Prop} {a : Act} {w : World}
    (hy : Calm P ops S oi v a) (h : wpOp P ops Q j K (a.put oi.dst v) w) :
    wpOp P ops Q j (fun a' w' => Calm P ops S oi v a' ∧ K (a'.put oi.dst v) w') a w := by
  obtain ⟨h1, h2, h3⟩ := Oper.apart_spec hap
  have keep : ∀ (a : Act), Calm P ops S oi v a → ∀ u, Calm P ops S oi v (a.put oj.dst u) := fun a hy u => hy.of_same (execOp_put oi hsi a oj.dst u h3) (wanted_put oi a oj.dst u h3)
  have keepD : ∀ d, Calm P ops S oi v { a with defers := d :: a.defers } := fun d => hy.of_same rfl rfl
  unfold Go.wpOp at *
  simp only [hj] at *
  rw [wanted_put oj a oi.dst v h1] at h
  split
  · rename_i hw
    simp only [hw, if_true] at h
    rcases h with h | ⟨hasks, hlets⟩
    case inr => exact .inr ⟨by unfold Oper.asks at *; rw [execOp_put oj hsj a oi.dst v h1] at hasks; exact hasks, hlets⟩
    refine .inl ?_
    unfold Oper.wp at *
    rw [execOp_put oj hsj a oi.dst v h1] at h
    generalize (execOp a.eval oj).run P w = r at *
    cases r with
    | ok n w' =>
      cases n <;> simp only [Oper.upon] at h ⊢
      case value u => exact ⟨keep a hy u, by rw [← Act.put_comm a v u h2]; exact h⟩
      case skip => exact ⟨keep a hy _, by rw [← Act.put_comm a v undef h2]; exact h⟩
      case defer d =>
        refine ⟨keep _ (keepD d) _, ?_⟩
        rw [← Act.put_comm _ v undef h2, ← Act.put_defers]
        exact h
      case enter f args =>
        refine Calls.mono h fun e w'' he => ?_
        cases e with
        | returned u => exact ⟨keep a hy u, by rw [← Act.put_comm a v u h2]; exact he⟩
        | panicked c => exact hQ _ _ _ he
        | outgrown => exact he
      case row row args => exact Rows.mono h fun u w'' he => ⟨keep a hy u, by rw [← Act.put_comm a v u h2]; exact he⟩
    | halt x w' =>
      cases x <;> simp only [Oper.upon] at h ⊢
      case panic u => exact hQ _ _ _ h
  · rename_i hw
    simp only [hw] at h
    exact ⟨keep a hy _, by rw [← Act.put_comm a v undef h2]; exact h⟩
theorem first_calm {i : Nat} {oi : Oper} {v : Value} (hi : ops[i]? = some oi) (hsel : ∀ (j : Nat) (o : Oper) cs b, ops[j]? = some o → o.op ≠ .select cs b)
    (hQ : ∀ c a w, Q (.panic c) (a.put oi.dst v) w → Q (.panic c) a w) :
    ∀ (fuel : Nat) (listed : Array Bool) (a : Act) (w : World),
      (∀ j oj, ops[j]? = some oj → j ≠ i → listed.getD j true = false → (∀ e ∈ oj.after, Region.binds md e = true → e.on ≠ i) → oi.apart ops oj = true) →
      i ∈ Region.ready md ops listed → Calm P ops S oi v a → S w →
      wpAnyH P md ops Q S fuel (listed.setIfInBounds i true) (a.put oi.dst v) w → wpAnyH P md ops Q S (fuel + 1) listed a w := by
  intro fuel
  induction fuel with
  | zero =>
    intro listed a w _ hr hy hS H
    refine ⟨fun h => (by rw [h] at hr; cases hr), fun j hj => ?_⟩
    by_cases hji : j = i
    · subst hji; exact hy.wpOp hi hS ⟨hS, H⟩
    · have := ready_mono hj hji
      rw [H.1] at this
      cases this
  | succ fuel ih =>
    intro listed a w hfree hr hy hS H
    refine ⟨fun h => (by rw [h] at hr; cases hr), fun j hj => ?_⟩
    by_cases hji : j = i
    · subst hji; exact hy.wpOp hi hS ⟨hS, H⟩
    · have h1 := H.2 j (ready_mono hj hji)
      obtain ⟨hjun, oj, hoj, hall⟩ := mem_ready.1 hj
      have hnot : ∀ e ∈ oj.after, Region.binds md e = true → e.on ≠ i := fun e he hb heq => by
        have h1 := hall e he hb
        have h0 := (mem_ready.1 hr).1
        rw [heq] at h1
        rcases Nat.lt_or_ge i listed.size with h' | h'
        · simp [h'] at h0 h1; rw [h0] at h1; cases h1
        · simp [Array.getElem?_eq_none h'] at h1
      have h2 := wpOp_put_calm hoj (hfree j oj hoj hji hjun hnot) (fun cs b => hsel i oi cs b hi) (fun cs b => hsel j oj cs b hoj) hQ hy h1
      have hfree' : ∀ k ok, ops[k]? = some ok → k ≠ i → (listed.setIfInBounds j true).getD k true = false → (∀ e ∈ ok.after, Region.binds md e = true → e.on ≠ i) → oi.apart ops ok = true := fun k ok hk hki hun hno => by
        refine hfree k ok hk hki ?_ hno
        by_cases hjk : j = k
        · subst hjk; exact hjun
        · rw [getD_set_ne true hjk] at hun; exact hun
      refine wpOp_mono (fun a' w' h3 => ⟨h3.2.1, ih (listed.setIfInBounds j true) a' w' hfree' (ready_mono hr (Ne.symm hji)) h3.1 h3.2.1 ?_⟩) h2
      rw [Array.setIfInBounds_comm _ _ hji]
      exact h3.2.2
theorem take_calm {i : Nat} {oi : Oper} {v : Value} {fuel : Nat} {listed : Array Bool} {a : Act} {w : World} (hi : ops[i]? = some oi)
    (hs : Region.noSelect ops = true) (hf : Region.free md ops listed i = true) (hr : (Region.ready md ops listed).contains i = true)
    (hQ : ∀ c a w, Q (.panic c) (a.put oi.dst v) w → Q (.panic c) a w) (hy : Calm P ops S oi v a) (hS : S w)
    (h : wpAnyH P md ops Q S fuel (listed.setIfInBounds i true) (a.put oi.dst v) w) : wpAnyH P md ops Q S (fuel + 1) listed a w :=
  first_calm hi (Region.noSelect_spec hs) hQ fuel listed a w (Region.free_spec hi hf) (by simpa using hr) hy hS h
theorem tc {i : Nat} {oi : Oper} {v : Value} {fuel : Nat} {listed l2 : Array Bool} {a a2 : Act} {w : World} (hy : ∀ w, S w → oi.quietAt P a (fun w' => w' = w) w v) (h : wpAnyH P md ops Q S fuel l2 a2 w)
    (hi : ops[i]? = some oi := by simp only [List.getElem?_toArray, List.getElem?_cons_succ, List.getElem?_cons_zero]; rfl) (hs : Region.noSelect ops = true := by as_aux_lemma => kernel_rfl)
    (hf : Region.free md ops listed i = true := by as_aux_lemma => kernel_rfl) (hr : (Region.ready md ops listed).contains i = true := by as_aux_lemma => kernel_rfl)
    (hQ : ∀ c a w, Q (.panic c) (a.put oi.dst v) w → Q (.panic c) a w := by exact fun _ _ _ h => h) (hw : Region.wanted oi (yielded ops a.tmps) = true := by rfl) (hS : S w := by assumption)
    (e : a.put oi.dst v = a2 := by first | (simp only [Act.put, List.setIfInBounds_toArray, List.set_cons_zero, List.set_cons_succ]; exact rfl) | exact rfl)
    (e2 : listed.setIfInBounds i true = l2 := by first | (simp only [List.setIfInBounds_toArray, List.set_cons_zero, List.set_cons_succ]; exact rfl) | exact rfl) :
    wpAnyH P md ops Q S (fuel + 1) listed a w := by
  subst e
  subst e2
  exact take_calm hi hs hf hr hQ (.inl ⟨hw, hy⟩) hS h
theorem rc {i : Nat} {o : Oper} {fuel : Nat} {listed : Array Bool} {a : Act} {w : World}
    (h : ∀ K' : Act → World → Prop, Shut (∀ a w, S w → (S w → wpAnyH P md ops Q S fuel (listed.setIfInBounds i true) a w) → K' a w) → if Region.wanted o (yielded ops a.tmps) = true then Oper.wp P o a w K' Q else K' (a.put o.dst undef) w)
    (hr : Region.ready md ops listed = [i] := by as_aux_lemma => kernel_rfl) (ho : ops[i]? = some o := by simp only [List.getElem?_toArray, List.getElem?_cons_succ, List.getElem?_cons_zero]; rfl) :
    wpAnyH P md ops Q S (fuel + 1) listed a w := wpAnyH_ready hr (by simp) (AllReadyH.cons ho h AllReadyH.nil)
end
end Go.Proofs.YtdmckfkhkjkdnaaGreatDoor
namespace Go.Proofs.YtdmckfkhkjkdnaaGreatDoor
open Go.RowKit Go.Maps
theorem key_sv (n : Byt) (hn : n.length ≤ maxLen) : keyOf Tryz.prog 9 (sv n) = some (.string n) := by
  have hk := Tryz.underlying9
  simp [keyOf, hk, mapKey, sv]
  exact hn
theorem flat_new {w : World} {T : Nat → Prop} {b : Nat} {D : Fl} (h : FlAt w T b D) (o : Obj) : FlAt (w.alloc o) T b D := FlAt.keep h ((Keep.refl Non w).alloc o) (fun e => e) (fun _ _ e => e) (fun _ e => e)
theorem bsin_new {w : World} {T : Nat → Prop} {v : Value} {l : Byt} (h : BsIn w T v l) (o : Obj) : BsIn (w.alloc o) T v l := h.keep ((Keep.refl Non w).alloc o) (fun _ _ e => e) (fun _ e => e)
theorem bsin_nil (w : World) (T : Nat → Prop) : BsIn w T (.slice none 0 0) [] := ⟨Rd.nil w, fun g e => by cases e⟩
theorem flat_turned {w w' : World} {T : Nat → Prop} {b : Nat} {D : Fl} (h : MapAt w' 9 (BsIn w T) b D) (k : Keep (One b) w w') (hT : ¬ T b) : FlAt w' T b D :=
  MapAt.keep h (Keep.refl Non w') (fun e => e) (BsIn.fun1 _ _) (fun v x hx => hx.keep k (One.notT hT) (fun _ e => e))
theorem do_write (T : Nat → Prop) (b : Nat) (D : Fl) (n bytes : Byt) (v : Value) (w : World) (hm : FlAt w T b D) (hT : ¬ T b) (hv : BsIn w T v bytes) (hs : size D ≤ 1000000) (hn : n.length ≤ 1000) (hTl : ∀ g, T g → g < w.heap.size) :
    Calls Tryz.prog 79 #[.map (some b), .agg #[.int .i64 0, sv n, sv [], v]] w fun e w' => e = .returned (.tuple #[]) ∧ Keep (One b) w w' ∧ FlAt w' T b (fput D n bytes) := by
  have law := string_keyed Tryz.underlying9
  have hkey := key_sv n (by unfold maxLen; omega)
  have hz := fun w => Tryz.zeroValue48 w
  have M := Lib.hid hm
  have V := Lib.hid hv
  obtain ⟨⟨a, c, rfl, _⟩, _⟩ := hv
  rw [List.length_map] at V ⊢
  clear hm
  unfold sv at hkey ⊢
  go_enter Tryz.func79, Tryz.ntmps79
  have MW := Lib.hid (flat_new M.out (.cells #[.int .i64 0, .string ⟨n.toArray⟩, .string ⟨#[]⟩, .slice a (List.length bytes) c] 181))
  have VW := Lib.hid (bsin_new V.out (.cells #[.int .i64 0, .string ⟨n.toArray⟩, .string ⟨#[]⟩, .slice a (List.length bytes) c] 181))
  go_wp2_with (first
    | (at_lookup; refine wpList_look_ok rfl _ _ 118 rfl 48 law Tryz.underlying118 (hz _) [] (BsIn.fun1 _ T) (bsin_nil _ _) rfl MW.out _ _ rfl hkey ?_; intro lv ly hlv hat; obtain ⟨⟨la, lc, rfl, _⟩, _⟩ := hlv; clear hat)
    | (at_mapUpdate; refine wpList_stored rfl _ _ _ 118 rfl 48 law Tryz.underlying118 (BsIn.fun1 _ T) rfl MW.out (by unfold maxLen; omega) _ _ _ rfl rfl hkey bytes VW.out ?_; intro w1 hm1 ht1; have M1 := Lib.hid hm1; have K1 := Lib.hid (keep_turned ht1); clear hm1 ht1))
  go_end0
  exact ⟨rfl, ((Keep.refl _ _).alloc _).trans1 K1.out, flat_turned M1.out K1.out hT⟩
theorem do_rename (T : Nat → Prop) (b : Nat) (D : Fl) (n m : Byt) (w : World) (hm : FlAt w T b D) (hT : ¬ T b) (hs : size D ≤ 1000000) (hn : n.length ≤ 1000) (hn2 : m.length ≤ 1000) (hTl : ∀ g, T g → g < w.heap.size) (hh : fhas D n = true) :
    Calls Tryz.prog 79 #[.map (some b), .agg #[.int .i64 1, sv n, sv m, .slice none 0 0]] w fun e w' => e = .returned (.tuple #[]) ∧ Keep (One b) w w' ∧ FlAt w' T b (fput (fdel D n) m (fget D n)) := by
  have law := string_keyed Tryz.underlying9
  have hkey := key_sv n (by unfold maxLen; omega)
  have hkey2 := key_sv m (by unfold maxLen; omega)
  have hz := fun w => Tryz.zeroValue48 w
  have hhas : has D (.string n) = true := hh
  have M := Lib.hid hm
  clear hm
  unfold sv at hkey hkey2 ⊢
  go_enter Tryz.func79, Tryz.ntmps79
  have MW := Lib.hid (flat_new M.out (.cells #[.int .i64 1, .string ⟨n.toArray⟩, .string ⟨m.toArray⟩, .slice none 0 0] 181))
  go_wp2_with (first
    | (at_lookup; refine wpList_look_ok rfl _ _ 118 rfl 48 law Tryz.underlying118 (hz _) [] (BsIn.fun1 _ T) (bsin_nil _ _) rfl MW.out _ _ rfl hkey ?_; rw [hhas]; intro lv ly hlv hat; have LV := Lib.hid hlv; have HAT := Lib.hid hat; obtain ⟨⟨la, lc, rfl, _⟩, _⟩ := hlv; rw [List.length_map] at LV; clear hat)
    | (at_delete; refine wpList_deleted rfl _ _ 118 rfl 48 law Tryz.underlying118 rfl MW.out _ _ rfl hkey ?_; intro w1 hm1 ht1; have K1 := Lib.hid (keep_turned ht1); have M1 := Lib.hid (flat_turned hm1 K1.out hT); have cb : w1.cell? ⟨w.heap.size, 2, none⟩ = some (.string ⟨m.toArray⟩) := (World.cell?_of_block (K1.out.block w.heap.size (by simp) (fun e => by have := MapAt.lt M.out; unfold One at e; omega))).trans (World.cell?_alloc_new _ _ _ 2); clear hm1 ht1)
    | (at_mapUpdate; refine wpList_stored rfl _ _ _ 118 rfl 48 law Tryz.underlying118 (BsIn.fun1 _ T) rfl M1.out (by have := size_del_le (n := n) (World.ownsMap.isMap M.out); unfold maxLen; show size (fdel D n) < _; omega) _ _ _ rfl rfl hkey2 ly (LV.out.keep K1.out (One.notT hT) (fun _ e => e)) ?_; intro w2 hm2 ht2; have K2 := Lib.hid (keep_turned ht2); have M2 := Lib.hid (flat_turned hm2 K2.out hT); clear hm2 ht2))
  go_end0
  have e : fget D n = ly := by unfold fget; rw [HAT.out]; rfl
  rw [e]
  exact ⟨rfl, (((Keep.refl _ _).alloc _).trans1 K1.out).trans1 K2.out, M2.out⟩
theorem do_remove (T : Nat → Prop) (b : Nat) (D : Fl) (n : Byt) (w : World) (hm : FlAt w T b D) (hT : ¬ T b) (hs : size D ≤ 1000000) (hn : n.length ≤ 1000) (hTl : ∀ g, T g → g < w.heap.size) (hh : fhas D n = true) :
    Calls Tryz.prog 79 #[.map (some b), .agg #[.int .i64 2, sv n, sv [], .slice none 0 0]] w fun e w' => e = .returned (.tuple #[]) ∧ Keep (One b) w w' ∧ FlAt w' T b (fdel D n) := by
  have law := string_keyed Tryz.underlying9
  have hkey := key_sv n (by unfold maxLen; omega)
  have hz := fun w => Tryz.zeroValue48 w
  have hhas : has D (.string n) = true := hh
  have M := Lib.hid hm
  clear hm
  unfold sv at hkey ⊢
  go_enter Tryz.func79, Tryz.ntmps79
  have MW := Lib.hid (flat_new M.out (.cells #[.int .i64 2, .string ⟨n.toArray⟩, .string ⟨#[]⟩, .slice none 0 0] 181))
  go_wp2_with (first
    | (at_lookup; refine wpList_look_ok rfl _ _ 118 rfl 48 law Tryz.underlying118 (hz _) [] (BsIn.fun1 _ T) (bsin_nil _ _) rfl MW.out _ _ rfl hkey ?_; rw [hhas]; intro lv ly hlv hat; have LV := Lib.hid hlv; have HAT := Lib.hid hat; obtain ⟨⟨la, lc, rfl, _⟩, _⟩ := hlv; rw [List.length_map] at LV; clear hat)
    | (at_delete; refine wpList_deleted rfl _ _ 118 rfl 48 law Tryz.underlying118 rfl MW.out _ _ rfl hkey ?_; intro w1 hm1 ht1; have K1 := Lib.hid (keep_turned ht1); have M1 := Lib.hid (flat_turned hm1 K1.out hT); clear hm1 ht1))
  go_end0
  exact ⟨rfl, ((Keep.refl _ _).alloc _).trans1 K1.out, M1.out⟩
theorem mclone_files (b : Nat) (es : Array MapEntry) (clock : Nat) (w : World) (hb : w.heap[b]? = some (.map es clock)) :
    Calls Tryz.prog 80 #[.map (some b)] w fun e w' => e = .returned (.map (some w.heap.size)) ∧ w' = w.alloc (.map es clock) := by
  have hq := fun w => run_eql_map_nil_sl (P := Tryz.prog) w 118 _ _ (some b) Tryz.underlying118
  go_enter Tryz.func80, Tryz.ntmps80
  go_wp2
  rw [run_callFunc_extern Tryz.func146 (by kernel_rfl) (by kernel_rfl) (by kernel_rfl) (e := Extern.MapsClone.clone) (by kernel_rfl), run_maps_clone_sl w 118 hb]
  simp only [Result.andThen]
  rw [Oper.upon_value]
  go_wp2
  rw [run_typeAssert_map_sl _ 118 _ _ _ _ Tryz.underlying118]
  simp only [Result.andThen]
  rw [Oper.upon_value]
  go_wp2
  go_ret
  exact ⟨rfl, rfl⟩
theorem mclone_cells (b : Nat) (es : Array MapEntry) (clock : Nat) (w : World) (hb : w.heap[b]? = some (.map es clock)) :
    Calls Tryz.prog 241 #[.map (some b)] w fun e w' => e = .returned (.map (some w.heap.size)) ∧ w' = w.alloc (.map es clock) := by
  have hq := fun w => run_eql_map_nil_sl (P := Tryz.prog) w 284 _ _ (some b) Tryz.underlying284
  go_enter Tryz.func241, Tryz.ntmps241
  go_wp2
  rw [run_callFunc_extern Tryz.func146 (by kernel_rfl) (by kernel_rfl) (by kernel_rfl) (e := Extern.MapsClone.clone) (by kernel_rfl), run_maps_clone_sl w 284 hb]
  simp only [Result.andThen]
  rw [Oper.upon_value]
  go_wp2
  rw [run_typeAssert_map_sl _ 284 _ _ _ _ Tryz.underlying284]
  simp only [Result.andThen]
  rw [Oper.upon_value]
  go_wp2
  go_ret
  exact ⟨rfl, rfl⟩
theorem mclone_map {α : Type} {w : World} {kt : TypeId} {R : Value → α → Prop} {b : Nat} {D : DataW α} (h : MapAt w kt R b D) : ∃ es clock, w.heap[b]? = some (.map es clock) ∧ MapAt (w.alloc (.map es clock)) kt R w.heap.size D ∧ MapAt (w.alloc (.map es clock)) kt R b D := by
  have hlt := MapAt.lt h
  obtain ⟨es, clock, hb, F, hs, hD⟩ := h
  exact ⟨es, clock, hb, ⟨es, clock, blk_new _ _, F, hs, hD⟩, ⟨es, clock, blk_alloc hb _, F, hs, hD⟩⟩
end Go.Proofs.YtdmckfkhkjkdnaaGreatDoor
