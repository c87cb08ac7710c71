/- (*Export).read: walked. · (*Export).part, where Add fails: walked (printed by wip/xpart.py). -/
import Derived.Test.YtdmckfkhkjkdnaaGreatDoorQ29
import Derived.Test.YtdmckfkhkjkdnaaGreatDoorQ33
set_option linter.unusedVariables false
set_option maxRecDepth 100000
set_option maxHeartbeats 16000000
namespace Go.Proofs.YtdmckfkhkjkdnaaGreatDoor
open Go.RowKit Go.Maps
def SgZ : Obj := .cells #[.int .i64 0, .slice none 0 0] 147 (0, 0)
structure RdLp (W0 : World) (sb f : Nat) (cl : List Cl) (j : Nat) (ov : Value) (W : World) : Prop where
  bx : W.heap[sb]? = some (SgB f ov)
  row : ∃ xs, W.ownsRow W0.heap.size 50 2 ov j xs ∧ CellsOf W0.heap.size (fun g => g = sb ∨ ov.ownBlock = some g) W xs (cl.take j)
  kp : Keep (One sb) W0 W
theorem read_next {W0 wr w2 w5 : World} {sb f j n oc c2 : Nat} {oa a2 : Option Addr} {cl : List Cl} {x : Cl} {v5 : Value} {xs : List Value} {o1 o2 : Obj} (hb : wr.heap[sb]? = some (SgB f (.slice oa j oc))) (hrow : wr.ownsRow W0.heap.size 50 2 (.slice oa j oc) j xs) (hcs : CellsOf W0.heap.size (fun g => g = sb ∨ (Value.slice oa j oc).ownBlock = some g) wr xs (cl.take j)) (kp : Keep (One sb) W0 wr) (hsb : sb < W0.heap.size) (hx : cl[j]? = some x)
    (k2 : Keep Non wr w2) (r2 : w2.ownsRow wr.heap.size 5 1 (.slice a2 n c2) x.2.length (x.2.map bv)) (ho : w5.ownsRow W0.heap.size 50 2 v5 (j + 1) (xs ++ [.int .i64 x.1, .slice a2 n c2])) (hg : ((w2.alloc o1).alloc o2).grownBy w5 (Value.slice oa j oc).ownBlock) (hpp : v5.ownBlock = (Value.slice oa j oc).ownBlock ∨ v5.ownBlock = some ((w2.alloc o1).alloc o2).heap.size) :
    RdLp W0 sb f cl (j + 1) v5 (w5.setCell ⟨sb, 1, none⟩ v5) ∧ w5.heap[sb]? = some (SgB f (.slice oa j oc)) := by
  have ka : Keep Non w2 ((w2.alloc o1).alloc o2) := ((Keep.refl _ _).alloc _).alloc _
  have kg : Keep (fun g => (Value.slice oa j oc).ownBlock = some g) ((w2.alloc o1).alloc o2) w5 := (Keep.refl _ _).grown hg (fun k e => .inl e)
  have kb : Keep (One sb) w5 (w5.setCell ⟨sb, 1, none⟩ v5) := (Keep.refl _ _).setOne _ _
  have k4 := k2.trans1 ka
  have lo : ∀ g, (Value.slice oa j oc).ownBlock = some g → W0.heap.size ≤ g ∧ g < wr.heap.size := fun g e => hrow.lt g e
  have s0 := kp.size
  have s2 := k2.size
  have s4 := k4.size
  have sa : ((w2.alloc o1).alloc o2).heap.size = w2.heap.size + 2 := by simp
  have b5 : w5.heap[sb]? = some (SgB f (.slice oa j oc)) := kg.at (nonAt k4 hb) (fun e => by have := (lo sb e).1; omega)
  have vlo : ∀ g, v5.ownBlock = some g → W0.heap.size ≤ g := fun g e => (ho.lt g e).1
  refine ⟨⟨sg_set1 b5 v5, ⟨_, ownsRow_keep ho kb (fun g e e2 => by have e' : g = sb := e2; have := vlo g e; omega), ?_⟩, (kp.trans1 k4.ofNon).trans (kg.trans kb (U := fun g => (Value.slice oa j oc).ownBlock = some g ∨ g = sb) (fun _ _ x => .inl x) (fun _ _ x => .inr x)) (fun _ _ x => x) (fun g hg' x => by
    rcases x with x | x
    · have := (lo g x).1; omega
    · exact x)⟩, b5⟩
  have et : cl.take (j + 1) = cl.take j ++ [x] := by rw [List.take_add_one, hx]; rfl
  rw [et]
  refine CellsOf.keep (S := fun g => g = sb ∨ v5.ownBlock = some g) ?_ kb (fun g _ e => .inl e) (fun g _ e => e)
  refine CellsOf.append ?_ ?_
  · refine ((hcs.keep (S' := fun g => g = sb ∨ (Value.slice oa j oc).ownBlock = some g) k4 (fun _ _ e => e.elim) (fun _ _ e => e)).keep kg (fun g _ e => .inr e) ?_)
    rintro g hg' (e | e)
    · exact .inl e
    · rcases hpp with e3 | e3
      · exact .inr (by rw [← e3, e])
      · rw [e3] at e; injection e with e; omega
  · refine ⟨rfl, fun i y hy => ?_⟩
    cases i with
    | succ i => simp at hy
    | zero =>
      simp at hy
      subst hy
      have own2 : ∀ g, (Value.slice a2 n c2).ownBlock = some g → wr.heap.size ≤ g ∧ g < w2.heap.size := fun g e => r2.lt g e
      have nk : ∀ g, (Value.slice a2 n c2).ownBlock = some g → ¬ ((Value.slice oa j oc).ownBlock = some g) := fun g e e2 => by have := own2 g e; have := lo g e2; omega
      refine ⟨.slice a2 n c2, rfl, rfl, ((Rd.ofOwns r2).keepNon ka).keep kg (fun g e => nk g e), okc_own r2, fun g e => ?_⟩
      have h1 := own2 g e
      have h5 : g < w5.heap.size := kg.lt (ka.lt h1.2)
      refine ⟨by omega, h5, ?_⟩
      rintro (e2 | e2)
      · omega
      · rcases hpp with e3 | e3
        · rw [e3] at e2; exact nk g e e2
        · rw [e3] at e2; injection e2 with e2; omega
theorem two_cells {w : World} {g : Nat} {k : Int} {v : Value} {t : TypeId} (h : w.heap[g]? = some (.cells #[.int .i64 k, v] t (0, 0))) : ∀ (j : Nat) u, [Value.int .i64 k, v][j]? = some u → w.cell? ((⟨g, 0, none⟩ : Addr).add j) = some u := by
  intro j u hu
  rw [add_off, Nat.zero_add]
  simp only [World.cell?, h]
  simpa using hu
theorem xread_ok {FL : Nat → Prop} {x b lb : Nat} {c : Cu} {pv : Value} {ov : Bool} {L : Lg} (w : World) (hx : w.heap[x]? = some (ExB b lb c pv ov)) (hl : LgAt FL w lb L.shs.length L) (h1 : Log1 L) (hlt : c.next < c.hi) (hhi : c.hi ≤ 1048576) :
    Calls Tryz.prog 212 #[.pointer (some ⟨x, 0, none⟩)] w fun e w' => ∃ v', e = .returned (.tuple #[.agg #[.int .i64 c.next, v'], .nilIface]) ∧ Keep Non w w' ∧ ∃ xs, w'.ownsRow w.heap.size 50 2 v' (slabL L c.hi c.next).length xs ∧ CellsOf w.heap.size Non w' xs (slabL L c.hi c.next) := by
  have RD : Hid (∀ W (a : Nat), Keep Non w W → a ≤ 1048575 → Calls Tryz.prog 13 #[.pointer (some ⟨lb, 0, none⟩), .int .i64 a] W fun r w' => ∃ v, r = .returned (.tuple #[.agg #[.int .i64 (cellL L a).1, v], .nilIface]) ∧ Keep Non W w' ∧ w'.ownsRow W.heap.size 5 1 v (cellL L a).2.length ((cellL L a).2.map bv)) := Lib.hid (fun W a k ha => by
    have hpos : 0 < L.shs.length := by have := h1.kd; omega
    obtain ⟨he, hup⟩ := h1.unit a
    have hx0 : (uat (unitL L a).l (unitL L a).D a).2.length ≤ 100000000 := by have := (h1.cells a).2.2.1; unfold cellL at this; omega
    rcases h1.home a with ⟨u, hu, hs⟩ | ⟨v, u, hu, hs⟩
    · exact lgRead_ok W (hl.keepNon k) hpos hu hs he hup ha hx0
    · exact lgRead2_ok W (hl.keepNon k) hpos hu hs he hup ha hx0)
  have XB : Hid (∀ W, Keep Non w W → W.heap[x]? = some (ExB b lb c pv ov)) := Lib.hid (fun W k => nonAt k hx)
  have hn := slab_len L c.hi c.next
  have hwb : x < w.heap.size := lt_of_block hx
  generalize hcl : slabL L c.hi c.next = cl at hn ⊢
  have GT : Hid (∀ j, j < cl.length → cl[j]? = some (cellL L (c.next + j))) := Lib.hid (fun j hj => by rw [← hcl]; exact slab_get (by omega))
  obtain ⟨i0, hi0, hz0, hz1, hz2⟩ := info_parts infoCell
  have I0 := Lib.hid (And.intro hi0 (And.intro hz0 (And.intro hz1 hz2)))
  have K2 : Hid (Keep Non w (w.alloc SgZ)) := Lib.hid ((Keep.refl _ _).alloc _)
  have e1 := ex_0 (XB.out _ K2.out)
  have e3 := ex_3 (XB.out _ K2.out)
  have K3 : Hid (Keep Non w ((w.alloc SgZ).alloc (SgB c.next (.slice none 0 0)))) := Lib.hid (((Keep.refl _ _).alloc _).alloc _)
  have e3' := ex_3 (XB.out _ K3.out)
  have S3 := Lib.hid (alloc2_at w SgZ (SgB c.next (.slice none 0 0)))
  have R3 := Lib.hid (nonAt ((Keep.refl Non _).alloc (SgB c.next (.slice none 0 0))) (blk_new w SgZ))
  have Z3 : Hid (((w.alloc SgZ).alloc (SgB c.next (.slice none 0 0))).heap.size = w.heap.size + 2) := Lib.hid (by simp)
  dsimp only [SgB, SgZ] at e1 e3 e3'
  clear hx hl h1 hi0 hz0 hz1 hz2 hcl
  go_enter Tryz.func212, Tryz.ntmps212
  go_wp2_with fail
  clear e1 e3 e3'
  obtain ⟨W0, hW0⟩ : ∃ W0, W0 = (w.alloc SgZ).alloc (SgB c.next (.slice none 0 0)) := ⟨_, rfl⟩
  rw [← hW0] at K3 S3 R3 Z3
  unfold SgZ SgB at hW0
  rw [← hW0]
  clear hW0
  go_loopw [5] (fun i wr => ∃ j : Nat, j ≤ cl.length ∧ i = .int .i64 (c.next + j : Nat) ∧ ∃ ov, RdLp W0 (w.heap.size + 1) c.next cl j ov wr) (fun i _ => c.next + cl.length - (intOf i).toNat)
  case atStart => exact ⟨0, by omega, rfl, _, S3.out, ⟨[], World.ownsRow_nil _ _ _ _, by simpa using CellsOf.nil _ _ _⟩, Keep.refl _ _⟩
  case round =>
    obtain ⟨j, hj, rfl, ov, lp⟩ := hrel
    obtain ⟨bx, ⟨xs, row, cs⟩, kp⟩ := lp
    obtain ⟨oa, oc, rfl, _, _⟩ := ownsRow_form row
    have kw : Keep Non w wr := K3.out.trans kp (fun _ _ e => e) (fun g hg e => by have e' : g = w.heap.size + 1 := e; omega)
    have x1 := ex_1 (XB.out _ kw)
    have x3 := ex_3 (XB.out _ kw)
    have x4 := ex_4 (XB.out _ kw)
    have KW := Lib.hid kw
    have BX := Lib.hid bx
    have ROW := Lib.hid row
    have CS := Lib.hid cs
    have KP := Lib.hid kp
    clear kw bx row cs kp
    have hwr : IntKind.wrap .i64 ((c.next : Int) + 64) = (c.next : Int) + 64 := IntWalk.i64_in _ (by omega)
    have kd : Keep Non wr wr.drew := (Keep.refl _ _).drew
    have BD : Hid (wr.drew.heap[w.heap.size + 1]? = some (SgB c.next (.slice oa j oc))) := Lib.hid BX.out
    have RWD : Hid (wr.drew.ownsRow W0.heap.size 50 2 (.slice oa j oc) j xs) := Lib.hid (ownsRow_keep ROW.out kd (fun _ _ e => e))
    have CSD : Hid (CellsOf W0.heap.size (fun g => g = w.heap.size + 1 ∨ (Value.slice oa j oc).ownBlock = some g) wr.drew xs (cl.take j)) := Lib.hid (CS.out.keep kd (fun _ _ e => e.elim) (fun _ _ e => e))
    have KPD : Hid (Keep (One (w.heap.size + 1)) W0 wr.drew) := Lib.hid KP.out.drew
    have KWD : Hid (Keep Non w wr.drew) := Lib.hid KW.out.drew
    have y1 := ex_1 (XB.out _ KWD.out)
    clear kd
    by_cases hlt2 : j < cl.length
    · have hj2 : (c.next : Int) + j < c.hi := by omega
      have hj3 : (c.next : Int) + j < min ((c.next : Int) + 64) c.hi := by omega
      have RDJ := Lib.hid (RD.out wr.drew (c.next + j) KWD.out (by omega))
      have hcj := Lib.hid (GT.out j hlt2)
      generalize cellL L (c.next + j) = y at RDJ hcj
      rw [Int.natCast_add] at RDJ
      go_wp2_with fail
      go_region_law (fail)
      all_goals
        obtain ⟨wd, hwd⟩ : ∃ wd, wd = wr.drew := ⟨_, rfl⟩
        rw [← hwd] at BD RWD CSD KPD KWD y1 RDJ ⊢
        clear hwd x1 x3 x4 BX ROW CS KP KW
        go_wp2_with (first
          | (go_at_call 13; ((with_reducible refine RDJ.out.mono ?_); rintro e w2 ⟨v2, rfl, k2, o2⟩); obtain ⟨a2, c2, rfl, _, _⟩ := ownsRow_form o2; have b4 := nonAt (((Keep.refl Non w2).alloc (.cells #[.int .i64 y.1, .slice a2 y.2.length c2] 50)).alloc (.cells #[.int .i64 y.1, .slice a2 y.2.length c2] 50)) (nonAt k2 BD.out); have b3 := nonAt ((Keep.refl Non w2).alloc (.cells #[.int .i64 y.1, .slice a2 y.2.length c2] 50)) (nonAt k2 BD.out); have d1 := sg_1 b4; have d1' := sg_1 b3; have K2 := Lib.hid k2; have O2 := Lib.hid o2; have N4 := Lib.hid (alloc2_at w2 (.cells #[.int .i64 y.1, .slice a2 y.2.length c2] 50 (0, 0)) (.cells #[.int .i64 y.1, .slice a2 y.2.length c2] 50 (0, 0))); clear k2 o2 b4 b3)
          | (at_builtin; refine wpList_append_prov rfl _ _ 22 rfl W0.heap.size 50 i0 _ 2 32 Tryz.underlying22 I0.out.1 I0.out.2.1 I0.out.2.2.1 I0.out.2.2.2 rfl (by decide) (.slice oa j oc) j xs rfl (ownsRow_keep RWD.out (K2.out.trans1 (((Keep.refl Non w2).alloc _).alloc _)) (fun _ _ e => e)) ⟨w2.heap.size + 1, 0, none⟩ 1 1 [.int .i64 y.1, .slice a2 y.2.length c2] rfl rfl (by exact two_cells N4.out) (by intro u hu; simp at hu; rcases hu with rfl | rfl <;> rfl) (by unfold maxLen; omega) (by omega) (by have := KPD.out.size; have := K2.out.size; simp; omega) ?_; intro v5 w5 ho hg hpp; obtain ⟨a5, c5, rfl, _, _⟩ := ownsRow_form ho; obtain ⟨nx, b5⟩ := read_next BD.out RWD.out CSD.out KPD.out (by have := Z3.out; omega) hcj.out K2.out O2.out ho hg hpp; have f5 := sg_f b5 1; have g5 := sg_1 b5; have NX := Lib.hid nx; clear ho hg hpp nx b5))
      all_goals exact ⟨⟨j + 1, by omega, by first | rfl | go_num | (congr 1; omega), _, NX.out⟩, by simp [intOf]; omega⟩
    · obtain rfl : j = cl.length := by omega
      have hj3 : ¬ (c.next : Int) + (cl.length : Int) < min ((c.next : Int) + 64) c.hi := by omega
      have HN := Lib.hid hn
      clear hn hlt2
      have r3 : wr.drew.heap[w.heap.size]? = some (SgB 0 (.slice none 0 0)) := KPD.out.at R3.out (fun e => by have e' : w.heap.size = w.heap.size + 1 := e; omega)
      have RB := Lib.hid r3
      have rf0 := sg_f r3 0
      have rf1 := sg_f r3 1
      have rc0 := sg_0 r3
      have rc1 := sg_1 r3
      have rx0 := sg_0 (sg_set0 r3 c.next)
      have d0 := sg_0 BD.out
      have d1 := sg_1 BD.out
      clear r3
      go_wp2_with fail
      go_region_law (fail)
      all_goals
        obtain ⟨wd, hwd⟩ : ∃ wd, wd = wr.drew := ⟨_, rfl⟩
        rw [← hwd] at BD RWD CSD KPD KWD rf0 rf1 rc0 rc1 rx0 d0 d1 RB ⊢
        clear hwd x1 x3 x4 BX ROW CS KP KW
        go_wp2_with fail
      all_goals
        have s0 := sg_0 (sg_set1 (sg_set0 RB.out c.next) (.slice oa cl.length oc))
        have s1 := sg_1 (sg_set1 (sg_set0 RB.out c.next) (.slice oa cl.length oc))
        refine bodyPost_ret (v := .tuple #[.agg #[.int .i64 c.next, .slice oa cl.length oc], .nilIface]) (by simp [results, Tryz.results212, go_sem, s0, s1]) rfl ?_
        have kf : Keep (One w.heap.size) wd ((wd.setCell ⟨w.heap.size, 0, none⟩ (.int .i64 c.next)).setCell ⟨w.heap.size, 1, none⟩ (.slice oa cl.length oc)) := ((Keep.refl _ _).setOne _ _).setOne _ _
        have z3 := Z3.out
        have cs := CSD.out
        rw [List.take_length] at cs
        refine ⟨_, rfl, KWD.out.trans kf (fun _ _ e => e) (fun g hg e => by have e' : g = w.heap.size := e; omega), xs, ownsRow_low (ownsRow_keep RWD.out kf (fun g e e2 => by have e' : g = w.heap.size := e2; have := (RWD.out.lt g e).1; omega)) (by omega), (cs.keep (S' := Non) kf (fun g hg e => by have e' : g = w.heap.size := e; omega) (fun _ _ e => e.elim)).low (by omega) (fun _ e => e)⟩
structure PaEnd (F : Nat → Prop) (W1 : World) (q p : Nat) (Y : Dk) (o : Obj) (b5 : Nat) (W4 : World) : Prop where
  bx : W4.heap[b5]? = some o
  lo : W1.heap.size ≤ b5
  kp : Keep F W1 W4
  st : ∃ F', Sub F' F W1 ∧ (∀ g, F' g → g < W4.heap.size) ∧ ¬ F' b5 ∧ StoreAt F' W4 q p Y
theorem store_zPt0 (w : World) : (holdW 190 ⟨w.heap.size, 0, none⟩ (.agg zPt)).run Tryz.prog (w.alloc (.cells zPt 190)) = .ok () (w.alloc (.cells zPt 190 (0, 0))) := by
  rw [store_zPt _ _ (blk_new _ _), setRow_new]
theorem pa_endA {F : Nat → Prop} {W1 w2 w3 : World} {q p : Nat} {Y : Dk} {o : Obj} (k2 : Keep Non W1 w2) (t : StoreTo F w2 q p Y w3) (hF : ∀ g, F g → g < W1.heap.size) : PaEnd F W1 q p Y o w3.heap.size (w3.alloc o) := by
  obtain ⟨k3, F', s, d⟩ := t
  have ka : Keep Non w3 (w3.alloc o) := (Keep.refl _ _).alloc _
  have s2 := k2.size
  have s3 := k3.size
  refine ⟨blk_new _ _, by omega, (k2.ofNon.trans k3 (fun _ _ x => x) (fun _ _ x => x)).trans1 ka.ofNon, fun g => F' g ∧ g < w3.heap.size, fun g x => ?_, fun g x => ka.lt x.2, fun x => by have := x.2; omega, d.low.keep ka (fun _ _ e => e)⟩
  rcases s g x.1 with y | y
  · exact .inl y
  · exact .inr (by omega)
theorem pa_endR {F : Nat → Prop} {W1 w2 w3 : World} {q p b5 : Nat} {Y : Dk} {o : Obj} {arr : Array Value} (ho : o = .cells arr 190 (0, 0)) (k2 : Keep Non W1 w2) (hb : w2.heap[b5]? = some (.cells zPt 190 (0, 0))) (hb1 : W1.heap.size ≤ b5) (t : StoreTo F w2 q p Y w3) (hF : ∀ g, F g → g < W1.heap.size) :
    w3.heap[b5]? = some (.cells zPt 190 (0, 0)) ∧ PaEnd F W1 q p Y o b5 (w3.setRow b5 arr) := by
  obtain ⟨k3, F', s, d⟩ := t
  have hl : b5 < w2.heap.size := lt_of_block hb
  have b3 : w3.heap[b5]? = some (.cells zPt 190 (0, 0)) := k3.at hb (fun e => by have := hF b5 e; omega)
  have kr : Keep (One b5) w3 (w3.setRow b5 arr) := (Keep.refl (One b5) _).setRow (.inl (one_self _)) _
  have s2 := k2.size
  have s3 := k3.size
  have hn : ¬ F' b5 := fun e => by
    rcases s b5 e with y | y
    · have := hF b5 y; omega
    · omega
  subst ho
  refine ⟨b3, setRow_heap _ _ _ _ _ _ b3, hb1, (k2.ofNon.trans k3 (fun _ _ x => x) (fun _ _ x => x)).trans kr (fun _ _ x => x) (fun g hg e => by have e' : g = b5 := e; omega), fun g => F' g ∧ g < w3.heap.size, fun g x => ?_, fun g x => kr.lt x.2, fun x => hn x.1, d.low.keep kr (fun g x e => by have e' : g = b5 := e; exact hn (e' ▸ x.1))⟩
  rcases s g x.1 with y | y
  · exact .inl y
  · exact .inr (by omega)
theorem pa_same {F FL : Nat → Prop} {w WX W4 : World} {x b lb q p b5 : Nat} {lv pv : Value} {c : Cu} {ov : Bool} {X Y : Dk} {L : Lg} {o : Obj} (h : ExSt F FL w x b lb q p lv c pv ov X L) (kX : Keep Non w WX) (e : PaEnd F WX q p Y o b5 W4) :
    ∃ F', Sub F' F w ∧ Keep (fun g => F g ∨ g = x) w W4 ∧ ExSt F' FL W4 x b lb q p lv c pv ov Y L ∧ ¬ F' b5 := by
  obtain ⟨F', s, hlow, hn, d⟩ := e.st
  have k : Keep F w W4 := kX.ofNon.trans e.kp (fun _ _ x => x) (fun _ _ x => x)
  have k' : Keep (fun g => F g ∨ g = x) w W4 := k.mono (fun _ _ y => .inl y)
  have sub : Sub F' F w := fun g y => by
    rcases s g y with z | z
    · exact .inl z
    · exact .inr (Nat.le_trans kX.size z)
  have hpv : ∀ g, pv.ownBlock = some g → ¬ F' g ∧ g ≠ x ∧ g ≠ b ∧ ¬ FL g := fun g y => by
    obtain ⟨h1, h2, h3, h4⟩ := h.pvo g y
    refine ⟨fun z => ?_, h2, h3, h4⟩
    rcases sub g z with z | z
    · exact h1 z
    · have := (h.row.lt g y).2; omega
  exact ⟨F', sub, k', h.turn k' sub hlow d (k.at h.ex h.out.1) (ownsRow_keep h.row k (fun g y => (h.pvo g y).1)) hpv, hn⟩
section
attribute [local go_sem ↓] hV41 hV190 hV102 hW41 hW190 hW102 hB190 hB102
theorem xpart_no1 {F FL : Nat → Prop} {x b lb q p : Nat} {c : Cu} {pv : Value} {X : Dk} {L : Lg} (w : World) (h : ExSt F FL w x b lb q p (.slice none 0 0) c pv false X L) (hi : PInv L X c) (hl : Log1 L) (hlt : c.next < c.hi) (code : Int) (hcd : (X.sput (labelN 0 c.parts.length) (segB c.next (slabL L c.hi c.next))).1 = code) (hcode : code ≠ 0) :
    Calls Tryz.prog 144 #[.pointer (some ⟨x, 0, none⟩)] w fun e w' => e = .returned (.iface 84 (.int .i64 code)) ∧ ∃ F', Sub F' F w ∧ Keep (fun g => F g ∨ g = x) w w' ∧ ExSt F' FL w' x b lb q p (.slice none 0 0) c pv false (X.sput (labelN 0 c.parts.length) (segB c.next (slabL L c.hi c.next))).2 L := by
  have H := Lib.hid h
  have RD := Lib.hid (xread_ok w h.ex h.lg hl hlt hi.ok.hi)
  have h4 := hi.few4
  obtain ⟨cl, hcl⟩ : ∃ cl, cl = slabL L c.hi c.next := ⟨_, rfl⟩
  have hne : cl ≠ [] := by rw [hcl]; exact slab_ne hlt
  have h64 : cl.length ≤ 64 := by rw [hcl]; exact slab_len64 _ _ _
  have hok : ∀ y ∈ cl, okCl y := by rw [hcl]; exact slab_ok hl
  have hln : c.next + cl.length ≤ 1048576 := by rw [hcl, slab_len]; have := hi.ok.hi; omega
  rw [← hcl] at RD hcd ⊢
  obtain ⟨Y, hY⟩ : ∃ Y, Y = (X.sput (labelN 0 c.parts.length) (segB c.next cl)).2 := ⟨_, rfl⟩
  rw [← hY]
  have AD0 : Hid (∀ W v, Keep Non w W → CsAt W v cl → Calls Tryz.prog 213 #[.pointer (some ⟨b, 0, none⟩), .int .i64 0, .int .i64 c.parts.length, .agg #[.int .i64 c.next, v]] W fun e w' => e = .returned (.tuple #[.agg zPt, .iface 84 (.int .i64 code)]) ∧ StoreTo F W q p Y w') := Lib.hid (fun W v k hv => by
    have hrl := run_len hok h64 (show c.next ≤ 1048576 by omega)
    have hsl := seg_len hok h64 (show c.next ≤ 1048576 by omega)
    rw [hY]
    exact vadd_no F b q p 0 c.parts.length c.next none 0 v cl X _ _ _ W (nonAt k H.out.vt) (H.out.st.keep k (fun _ _ e => e)) hi.lim (by omega) (by omega) (by omega) (fun g x => k.lt (H.out.low g x).2) (by omega) (by omega) hv hne h64 hok hln (by omega) (by omega) (H.out.lay.keepNon k).kon (H.out.lay.keepNon k).frs H.out.out.2.1 code hcd hcode)
  have CH0 : Hid (∀ W, Keep Non w W → Calls Tryz.prog 11 #[.pointer (some ⟨b, 0, none⟩)] W fun e w' => e = .returned (.slice none 0 0) ∧ Keep Non W w') := Lib.hid (fun W k => vchain_nil b q none 0 W (nonAt k H.out.vt))
  obtain ⟨pa, pc, rfl, _, _⟩ := ownsRow_form h.row
  have HI := Lib.hid hi
  clear h hi hcd hcl hY hl hlt
  go_enter Tryz.func144, Tryz.ntmps144
  go_wp2_with (go_at_call 212; refine RD.out.mono ?_; rintro e w1 ⟨v1, rfl, k1, xs, o1, q1⟩; obtain ⟨a1, c1, rfl, _, _⟩ := ownsRow_form o1; have K1 := Lib.hid k1; have O1 := Lib.hid o1; have Q1 := Lib.hid q1; clear k1 o1 q1)
  obtain ⟨WX, hWX⟩ : ∃ WX, WX = (w1.alloc (SgB c.next (.slice a1 cl.length c1))).drew := ⟨_, rfl⟩
  have hHX := hWX
  have KX : Hid (Keep Non w WX) := Lib.hid (by rw [hWX]; exact (K1.out.alloc _).drew)
  have SX : Hid (WX.heap[w1.heap.size]? = some (SgB c.next (.slice a1 cl.length c1))) := Lib.hid (by rw [hWX]; exact blk_new w1 _)
  have CSX : Hid (∀ W, Keep Non WX W → CsAt W (.slice a1 cl.length c1) cl) := Lib.hid (fun W k => by
    have k1 : Keep Non w1 WX := by rw [hWX]; exact ((Keep.refl _ _).alloc _).drew
    exact CsAt.of (ownsRow_keep O1.out (k1.trans1 k) (fun _ _ e => e)) (Q1.out.keep (S' := Non) (k1.trans1 k) (fun _ _ e => e) (fun _ _ e => e)))
  have HF : Hid (∀ g, F g → g < WX.heap.size) := Lib.hid (fun g y => KX.out.lt (H.out.low g y).2)
  have LS : Hid (∀ W, Keep F WX W → W.cell? ⟨x, 0, none⟩ = some (.pointer (some ⟨b, 0, none⟩)) ∧ W.cell? ⟨x, 6, none⟩ = some (.slice pa c.parts.length pc) ∧ W.cell? ⟨w1.heap.size, 0, none⟩ = some (.int .i64 c.next) ∧ W.cell? ⟨w1.heap.size, 1, none⟩ = some (.slice a1 cl.length c1)) := Lib.hid (fun W k => by
    have hxx := k.at (nonAt KX.out H.out.ex) H.out.out.1
    have hss := k.at SX.out (fun y => by have := (H.out.low _ y).2; have := K1.out.size; omega)
    exact ⟨ex_0 hxx, ex_6 hxx, sg_0 hss, sg_1 hss⟩)
  have CH : Hid (∀ W, Keep Non WX W → Calls Tryz.prog 11 #[.pointer (some ⟨b, 0, none⟩)] W fun e w' => e = .returned (.slice none 0 0) ∧ Keep Non W w') := Lib.hid (fun W k => CH0.out W (KX.out.trans1 k))
  have AD := Lib.hid (fun W (k : Keep Non WX W) => AD0.out W _ (KX.out.trans1 k) (CSX.out W k))
  have HW : Hid ((w1.alloc (.cells #[.int .i64 c.next, .slice a1 cl.length c1] 147)).drew = WX) := Lib.hid hWX.symm
  have LS0 := LS.out WX (Keep.refl _ _)
  rw [hWX] at LS0
  have LS1 := Lib.hid LS0
  clear AD0 CH0 hWX hHX LS0
  dsimp only [zPt] at AD
  refine (fun (FIN : Hid ?T) => ?main) (Lib.hid ?fin)
  case' main => refine wp_region_noPanic ?_
  refine wp_region_held_drew (S := fun W => W.cell? ⟨x, 0, none⟩ = some (.pointer (some ⟨b, 0, none⟩)) ∧ W.cell? ⟨x, 6, none⟩ = some (.slice pa c.parts.length pc) ∧ W.cell? ⟨w1.heap.size, 0, none⟩ = some (.int .i64 c.next) ∧ W.cell? ⟨w1.heap.size, 1, none⟩ = some (.slice a1 cl.length c1)) (by as_aux_lemma => kernel_rfl) LS1.out (fun hHeld => ?_)
  refine tc (i := 0) (v := ?v1) ?hy1 ?rest1
  case hy1 => intro W ⟨s0, s6, s1, s2⟩; go_simp; first | done | with_reducible rfl
  refine tc (i := 1) (v := ?v2) ?hy2 ?rest2
  case hy2 => intro W ⟨s0, s6, s1, s2⟩; go_simp; first | done | with_reducible rfl
  refine tc (i := 2) (v := ?v3) ?hy3 ?rest3
  case hy3 => intro W ⟨s0, s6, s1, s2⟩; go_simp; first | done | with_reducible rfl
  refine tc (i := 3) (v := ?v4) ?hy4 ?rest4
  case hy4 => intro W ⟨s0, s6, s1, s2⟩; go_simp; first | done | with_reducible rfl
  refine tc (i := 4) (v := ?v5) ?hy5 ?rest5
  case hy5 => intro W ⟨s0, s6, s1, s2⟩; go_simp; first | done | with_reducible rfl
  refine tc (i := 5) (v := ?v6) ?hy6 ?rest6
  case hy6 => intro W ⟨s0, s6, s1, s2⟩; go_simp; first | done | with_reducible rfl
  refine tc (i := 6) (v := ?v7) ?hy7 ?rest7
  case hy7 => intro W ⟨s0, s6, s1, s2⟩; go_simp; first | done | with_reducible rfl
  refine tc (i := 7) (v := ?v8) ?hy8 ?rest8
  case hy8 => intro W ⟨s0, s6, s1, s2⟩; go_simp; first | done | with_reducible rfl
  refine tc (i := 10) (v := ?v9) ?hy9 ?rest9
  case hy9 => intro W ⟨s0, s6, s1, s2⟩; go_simp; first | done | with_reducible rfl
  refine tc (i := 11) (v := ?v10) ?hy10 ?rest10
  case hy10 => intro W ⟨s0, s6, s1, s2⟩; go_simp; first | done | with_reducible rfl
  refine tc (i := 12) (v := ?v11) ?hy11 ?rest11
  case hy11 => intro W ⟨s0, s6, s1, s2⟩; go_simp; first | done | with_reducible rfl
  refine tc (i := 13) (v := ?v12) ?hy12 ?rest12
  case hy12 => intro W ⟨s0, s6, s1, s2⟩; go_simp; first | done | with_reducible rfl
  refine tc (i := 14) (v := ?v13) ?hy13 ?rest13
  case hy13 => intro W ⟨s0, s6, s1, s2⟩; go_simp; first | done | with_reducible rfl
  refine tc (i := 15) (v := ?v14) ?hy14 ?rest14
  case hy14 => intro W ⟨s0, s6, s1, s2⟩; go_simp; first | done | with_reducible rfl
  refine tc (i := 16) (v := ?v15) ?hy15 ?rest15
  case hy15 => intro W ⟨s0, s6, s1, s2⟩; go_simp; first | done | with_reducible rfl
  rw [HW.out]
  clear hHeld
  have hHeld := LS.out WX (Keep.refl _ _)
  refine wpAnyH_ready (rs := [8, 21]) (by as_aux_lemma => kernel_rfl) (by simp) ?_
  refine AllReadyH.cons (by simp only [List.getElem?_toArray, List.getElem?_cons_succ, List.getElem?_cons_zero]; rfl) (fun K hK => ?arm16_8) (AllReadyH.cons (by simp only [List.getElem?_toArray, List.getElem?_cons_succ, List.getElem?_cons_zero]; rfl) (fun K hK => ?arm16_21) AllReadyH.nil)
  case' arm16_8 =>
    go_simp
    refine (CH.out WX (Keep.refl Non WX)).mono ?_
    rintro e w17 ⟨rfl, t17⟩
    have k17 := Lib.hid (((Keep.refl Non WX)).trans1 t17)
    clear t17
    go_wp2_with fail
    refine hK.out _ _ (LS.out w17 k17.out.ofNon) (fun hHeld17 => ?_)
    clear hK K
    try simp only [Act.put, List.setIfInBounds_toArray, List.set_cons_zero, List.set_cons_succ]
    refine tc (i := 9) (v := ?v18) ?hy18 ?rest18
    case hy18 => intro W ⟨s0, s6, s1, s2⟩; go_simp; first | done | with_reducible rfl
    refine wpAnyH_ready (rs := [17, 21]) (by as_aux_lemma => kernel_rfl) (by simp) ?_
    refine AllReadyH.cons (by simp only [List.getElem?_toArray, List.getElem?_cons_succ, List.getElem?_cons_zero]; rfl) (fun K hK => ?arm19_17) (AllReadyH.cons (by simp only [List.getElem?_toArray, List.getElem?_cons_succ, List.getElem?_cons_zero]; rfl) (fun K hK => ?arm19_21) AllReadyH.nil)
    case' arm19_17 =>
      go_simp
      refine (AD.out w17 k17.out).mono ?_
      rintro e w20 ⟨rfl, t20⟩
      have T20 := Lib.hid t20
      have kf20 : Hid (Keep F WX w20) := Lib.hid ((k17.out).ofNon.trans t20.1 (fun _ _ x => x) (fun _ _ x => x))
      clear t20
      go_wp2_with fail
      refine hK.out _ _ (LS.out w20 kf20.out) (fun hHeld20 => ?_)
      clear hK K
      try simp only [Act.put, List.setIfInBounds_toArray, List.set_cons_zero, List.set_cons_succ]
      refine tc (i := 18) (v := ?v21) ?hy21 ?rest21
      case hy21 => intro W ⟨s0, s6, s1, s2⟩; go_simp; first | done | with_reducible rfl
      refine tc (i := 19) (v := ?v22) ?hy22 ?rest22
      case hy22 => intro W ⟨s0, s6, s1, s2⟩; go_simp; first | done | with_reducible rfl
      refine tc (i := 20) (v := ?v23) ?hy23 ?rest23
      case hy23 => intro W ⟨s0, s6, s1, s2⟩; go_simp; first | done | with_reducible rfl
      refine rc (i := 21) (fun K hK => ?_)
      go_simp
      have hst := store_zPt0 w20
      have E := Lib.hid (pa_endA (o := (.cells zPt 190 (0, 0))) k17.out T20.out HF.out)
      dsimp only [zPt, PtB] at hst
      refine hK.out _ _ (LS.out _ (kf20.out.alloc _)) (fun hHeld24 => ?_)
      clear hK K
      try simp only [Act.put, List.setIfInBounds_toArray, List.set_cons_zero, List.set_cons_succ]
      refine rc (i := 22) (fun K hK => ?_)
      go_simp
      refine hK.out _ _ (LS.out _ (kf20.out.alloc _)) (fun hHeld25 => ?_)
      clear hK K
      try simp only [Act.put, List.setIfInBounds_toArray, List.set_cons_zero, List.set_cons_succ]
      refine tc (i := 23) (v := ?v26) ?hy26 ?rest26
      case hy26 => intro W ⟨s0, s6, s1, s2⟩; go_simp; first | done | with_reducible rfl
      refine wpAnyH_done (by as_aux_lemma => kernel_rfl) ?_ _
      refine NoPanic.normal ?_
      have e0 := E.out
      dsimp only [zPt] at e0
      generalize (w20.alloc _) = W4 at e0 ⊢
      generalize w20.heap.size = b5 at e0 ⊢
      have E5 := Lib.hid e0
      clear e0
      revert W4 b5
      exact FIN.out
    case' arm19_21 =>
      go_simp
      have k27 : Hid (Keep Non WX (w17.alloc (.cells zPt 190))) := Lib.hid ((k17.out).alloc _)
      have z27 := Lib.hid (blk_new w17 (.cells zPt 190 (0, 0)))
      have y27 : Hid (WX.heap.size ≤ w17.heap.size) := Lib.hid ((k17.out).size)
      obtain ⟨v27, hv27⟩ : ∃ v27, v27 = w17.alloc (.cells zPt 190) := ⟨_, rfl⟩
      rw [← hv27] at k27 z27
      dsimp only [zPt] at hv27
      try rw [← hv27]
      clear hv27
      refine hK.out _ _ (LS.out v27 k27.out.ofNon) (fun hHeld27 => ?_)
      clear hK K
      try simp only [Act.put, List.setIfInBounds_toArray, List.set_cons_zero, List.set_cons_succ]
      refine rc (i := 17) (fun K hK => ?_)
      go_simp
      refine (AD.out v27 k27.out).mono ?_
      rintro e w28 ⟨rfl, t28⟩
      have T28 := Lib.hid t28
      have kf28 : Hid (Keep F WX w28) := Lib.hid ((k27.out).ofNon.trans t28.1 (fun _ _ x => x) (fun _ _ x => x))
      clear t28
      go_wp2_with fail
      refine hK.out _ _ (LS.out w28 kf28.out) (fun hHeld28 => ?_)
      clear hK K
      try simp only [Act.put, List.setIfInBounds_toArray, List.set_cons_zero, List.set_cons_succ]
      refine tc (i := 18) (v := ?v29) ?hy29 ?rest29
      case hy29 => intro W ⟨s0, s6, s1, s2⟩; go_simp; first | done | with_reducible rfl
      refine tc (i := 19) (v := ?v30) ?hy30 ?rest30
      case hy30 => intro W ⟨s0, s6, s1, s2⟩; go_simp; first | done | with_reducible rfl
      refine tc (i := 20) (v := ?v31) ?hy31 ?rest31
      case hy31 => intro W ⟨s0, s6, s1, s2⟩; go_simp; first | done | with_reducible rfl
      refine rc (i := 22) (fun K hK => ?_)
      have E2 := pa_endR (o := (.cells zPt 190 (0, 0))) (arr := zPt) rfl k27.out z27.out y27.out T28.out HF.out
      have hst := store_zPt w28 w17.heap.size E2.1
      have E := Lib.hid E2.2
      clear E2
      dsimp only [zPt] at hst
      go_simp
      refine hK.out _ _ (LS.out _ E.out.kp) (fun hHeld32 => ?_)
      clear hK K
      try simp only [Act.put, List.setIfInBounds_toArray, List.set_cons_zero, List.set_cons_succ]
      refine tc (i := 23) (v := ?v33) ?hy33 ?rest33
      case hy33 => intro W ⟨s0, s6, s1, s2⟩; go_simp; first | done | with_reducible rfl
      refine wpAnyH_done (by as_aux_lemma => kernel_rfl) ?_ _
      refine NoPanic.normal ?_
      have e0 := E.out
      dsimp only [zPt] at e0
      generalize (w28.setRow _ _) = W4 at e0 ⊢
      generalize w17.heap.size = b5 at e0 ⊢
      have E5 := Lib.hid e0
      clear e0
      revert W4 b5
      exact FIN.out
  case' arm16_21 =>
    go_simp
    have k34 : Hid (Keep Non WX (WX.alloc (.cells zPt 190))) := Lib.hid (((Keep.refl Non WX)).alloc _)
    have z34 := Lib.hid (blk_new WX (.cells zPt 190 (0, 0)))
    have y34 : Hid (WX.heap.size ≤ WX.heap.size) := Lib.hid (((Keep.refl Non WX)).size)
    obtain ⟨v34, hv34⟩ : ∃ v34, v34 = WX.alloc (.cells zPt 190) := ⟨_, rfl⟩
    rw [← hv34] at k34 z34
    dsimp only [zPt] at hv34
    try rw [← hv34]
    clear hv34
    refine hK.out _ _ (LS.out v34 k34.out.ofNon) (fun hHeld34 => ?_)
    clear hK K
    try simp only [Act.put, List.setIfInBounds_toArray, List.set_cons_zero, List.set_cons_succ]
    refine rc (i := 8) (fun K hK => ?_)
    go_simp
    refine (CH.out v34 k34.out).mono ?_
    rintro e w35 ⟨rfl, t35⟩
    have k35 := Lib.hid ((k34.out).trans1 t35)
    have z35 := Lib.hid (nonAt t35 z34.out)
    clear t35
    go_wp2_with fail
    refine hK.out _ _ (LS.out w35 k35.out.ofNon) (fun hHeld35 => ?_)
    clear hK K
    try simp only [Act.put, List.setIfInBounds_toArray, List.set_cons_zero, List.set_cons_succ]
    refine tc (i := 9) (v := ?v36) ?hy36 ?rest36
    case hy36 => intro W ⟨s0, s6, s1, s2⟩; go_simp; first | done | with_reducible rfl
    refine rc (i := 17) (fun K hK => ?_)
    go_simp
    refine (AD.out w35 k35.out).mono ?_
    rintro e w37 ⟨rfl, t37⟩
    have T37 := Lib.hid t37
    have kf37 : Hid (Keep F WX w37) := Lib.hid ((k35.out).ofNon.trans t37.1 (fun _ _ x => x) (fun _ _ x => x))
    clear t37
    go_wp2_with fail
    refine hK.out _ _ (LS.out w37 kf37.out) (fun hHeld37 => ?_)
    clear hK K
    try simp only [Act.put, List.setIfInBounds_toArray, List.set_cons_zero, List.set_cons_succ]
    refine tc (i := 18) (v := ?v38) ?hy38 ?rest38
    case hy38 => intro W ⟨s0, s6, s1, s2⟩; go_simp; first | done | with_reducible rfl
    refine tc (i := 19) (v := ?v39) ?hy39 ?rest39
    case hy39 => intro W ⟨s0, s6, s1, s2⟩; go_simp; first | done | with_reducible rfl
    refine tc (i := 20) (v := ?v40) ?hy40 ?rest40
    case hy40 => intro W ⟨s0, s6, s1, s2⟩; go_simp; first | done | with_reducible rfl
    refine rc (i := 22) (fun K hK => ?_)
    have E2 := pa_endR (o := (.cells zPt 190 (0, 0))) (arr := zPt) rfl k35.out z35.out y34.out T37.out HF.out
    have hst := store_zPt w37 WX.heap.size E2.1
    have E := Lib.hid E2.2
    clear E2
    dsimp only [zPt] at hst
    go_simp
    refine hK.out _ _ (LS.out _ E.out.kp) (fun hHeld41 => ?_)
    clear hK K
    try simp only [Act.put, List.setIfInBounds_toArray, List.set_cons_zero, List.set_cons_succ]
    refine tc (i := 23) (v := ?v42) ?hy42 ?rest42
    case hy42 => intro W ⟨s0, s6, s1, s2⟩; go_simp; first | done | with_reducible rfl
    refine wpAnyH_done (by as_aux_lemma => kernel_rfl) ?_ _
    refine NoPanic.normal ?_
    have e0 := E.out
    dsimp only [zPt] at e0
    generalize (w37.setRow _ _) = W4 at e0 ⊢
    generalize WX.heap.size = b5 at e0 ⊢
    have E5 := Lib.hid e0
    clear e0
    revert W4 b5
    exact FIN.out
  intro W4 b5 E5
  go_wp2_with fail
  go_ret
  obtain ⟨F', s1, s2, s3, _⟩ := pa_same H.out KX.out E5.out
  exact ⟨rfl, F', s1, s2, s3⟩
end
end Go.Proofs.YtdmckfkhkjkdnaaGreatDoor
