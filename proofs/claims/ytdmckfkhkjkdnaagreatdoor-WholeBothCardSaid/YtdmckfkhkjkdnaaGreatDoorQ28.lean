/- slog: has, read, home, raise, Tail, Read: walked. · slog: put, spread, Put where the act goes well: walked (printed by wip/logp.py). · slog.all, where -/
import Derived.Test.YtdmckfkhkjkdnaaGreatDoorQ27
set_option linter.unusedVariables false
set_option maxRecDepth 100000
set_option maxHeartbeats 16000000
namespace Go.Proofs.YtdmckfkhkjkdnaaGreatDoor
open Go.RowKit Go.Maps
theorem cell_back {w wA w2 : World} {v : Value} {n : Nat} {xs : List Value} {ty : TypeId} (kA : Keep Non w wA) (k2 : Keep Non wA w2) (o : w2.ownsRow wA.heap.size ty 1 v n xs) (hA : w.heap.size + 1 ≤ wA.heap.size) (k : Int) (u : Value) :
    Keep Non w ((w2.setCell ⟨w.heap.size, 0, none⟩ (.int .i64 k)).setCell ⟨w.heap.size, 1, none⟩ u) ∧ ((w2.setCell ⟨w.heap.size, 0, none⟩ (.int .i64 k)).setCell ⟨w.heap.size, 1, none⟩ u).ownsRow w.heap.size ty 1 v n xs := by
  have k3 : Keep (One w.heap.size) w2 ((w2.setCell ⟨w.heap.size, 0, none⟩ (.int .i64 k)).setCell ⟨w.heap.size, 1, none⟩ u) := ((Keep.refl _ _).setOne _ _).setOne _ _
  exact ⟨(kA.trans1 k2).trans k3 (fun _ _ e => e) (fun g hg e => by have e' : g = w.heap.size := e; omega), ownsRow_low (ownsRow_keep o k3 (fun g hg e => by have e' : g = w.heap.size := e; have := (o.lt g hg).1; omega)) (by omega)⟩
theorem lgread1_ok {F : Nat → Prop} {b n u a : Nat} {L : Lg} {s : Sh} (w : World) (h : LgAt F w b n L) (hs : L.shs[u]? = some s) (he : s.e = L.ep) (hd : s.X.down = false) (ha : a ≤ 1048575) (hx : (uat s.l s.D a).2.length ≤ 100000000) :
    Calls Tryz.prog 43 #[.pointer (some ⟨b, 0, none⟩), .int .i64 u, .int .i64 a] w fun r w' => ∃ v, r = .returned (.tuple #[.agg #[.int .i64 (uat s.l s.D a).1, v], .nilIface]) ∧ Keep Non w w' ∧ w'.ownsRow w.heap.size 5 1 v (uat s.l s.D a).2.length ((uat s.l s.D a).2.map bv) := by
  obtain ⟨A, dps, sps, dv, sv, cv, q, h, hF⟩ := h
  obtain ⟨p, dp, sg, sc, dg, dc, rfl, rfl, hp, hd', hu, hcs, hcd, hsh⟩ := h.at hs
  have RD := Lib.hid (fun W (k : Keep Non w W) => shread_ok W (hsh.keepNon k) hd ha hx)
  rw [he] at RD
  have B := Lib.hid h.blk
  unfold ptrV at hcs
  have HC := Lib.hid hcs
  have hlt : (u : Int) < L.shs.length := by omega
  generalize uat s.l s.D a = x at RD ⊢
  obtain ⟨kx, lx⟩ := x
  dsimp only at RD ⊢
  have kA : Keep Non w (w.alloc (ClB 0 (.slice none 0 0))) := (Keep.refl _ _).alloc _
  have bA := nonAt kA h.blk
  have c1 := lg_1 bA
  have c2 := lg_2 bA
  have kB : Keep (One w.heap.size) w w := Keep.refl _ _
  have hcsA : (w.alloc (ClB 0 (.slice none 0 0))).cell? ⟨sg, u, none⟩ = some (.pointer (some ⟨p, 0, none⟩)) := (World.cell?_alloc_lt _ _ _ (World.block_lt_of_cell? _ _ hcs)).trans hcs
  have c1d : (w.alloc (ClB 0 (.slice none 0 0))).drew.cell? ⟨b, 1, none⟩ = some (.slice (some ⟨sg, 0, none⟩) L.shs.length sc) := c1
  have c2d : (w.alloc (ClB 0 (.slice none 0 0))).drew.cell? ⟨b, 2, none⟩ = some (.int .i64 L.ep) := c2
  have hcsd : (w.alloc (ClB 0 (.slice none 0 0))).drew.cell? ⟨sg, u, none⟩ = some (.pointer (some ⟨p, 0, none⟩)) := hcsA
  have RDW := Lib.hid (RD.out _ kA.drew)
  have kAd := Lib.hid kA.drew
  have rb := Lib.hid (blk_new w (ClB 0 (.slice none 0 0)))
  clear h hsh hcd hp hd' hx hs RD hcs HC B bA kA
  dsimp only [ClB] at c1 c2 hcsA c1d c2d hcsd RDW
  go_enter Tryz.func43, Tryz.ntmps43
  go_wp2_with fail
  go_region_law (go_simp; go_at_call 86; refine RDW.out.mono ?_; rintro r w2 ⟨v, rfl, k2, o2⟩; obtain ⟨va, vc, rfl, _, _⟩ := ownsRow_form o2; have rb2 := nonAt k2 rb.out; have r0 := cl0 rb2; have r1 := cl1 rb2; have r0f := clf rb2 0; have r1f := clf rb2 1; have q0 := cl0 (cl_set1 (cl_set0 rb2 kx) (.slice va lx.length vc)); have q1 := cl1 (cl_set1 (cl_set0 rb2 kx) (.slice va lx.length vc)); have K2 := Lib.hid k2; have O2 := Lib.hid o2; clear k2 o2 rb2)
  all_goals go_wp2_with fail
  all_goals
    refine bodyPost_ret (v := .tuple #[.agg #[.int .i64 kx, .slice va lx.length vc], .nilIface]) (by simp [results, Tryz.results43, go_sem, Act.put, q0, q1]) rfl ?_
    obtain ⟨k, o⟩ := cell_back kAd.out K2.out O2.out (by show _ ≤ (w.alloc _).heap.size; rw [World.size_alloc]; exact Nat.le_refl _) kx (.slice va lx.length vc)
    exact ⟨_, rfl, k, o⟩
def homeN (n a : Nat) : List Nat := chnI n (a % chN n)
def lastN (n a : Nat) : Nat := (homeN n a).getLastD 0
theorem homeN_len {n : Nat} (a : Nat) (h : 1 ≤ n) : 1 ≤ (homeN n a).length ∧ (homeN n a).length ≤ 2 := chI_len (Nat.mod_lt _ (chN_pos h))
theorem homeN_1 (a : Nat) : homeN 1 a = [0] := by
  have e : chN 1 = 1 := rfl
  unfold homeN
  rw [e, Nat.mod_one]
  rfl
theorem homeN_3 (a : Nat) : homeN 3 a = if a % 2 = 0 then [0] else [1, 2] := by
  have e : chN 3 = 2 := rfl
  unfold homeN
  rw [e]
  obtain h | h : a % 2 = 0 ∨ a % 2 = 1 := by omega
  · rw [h]; rfl
  · rw [h]; rfl
theorem lghomeI_ok {A : Nat → Nat → Prop} {dps sps : List Nat} {dv sv cv : Value} {q b n a : Nat} {L : Lg} (w : World) (h : LgIn A w b dps sps dv sv cv q n L) (hn : 0 < n) (ha : a ≤ 1048575) :
    Calls Tryz.prog 42 #[.pointer (some ⟨b, 0, none⟩), .int .i64 a] w fun r w' => ∃ g o c, r = .returned (.slice (some ⟨g, o, none⟩) (homeN n a).length c) ∧ Keep Non w w' ∧ Is w' (.slice (some ⟨g, o, none⟩) (homeN n a).length c) (homeN n a) ∧ A 4 g := by
  have c3 := lg_3 h.blk
  have hn2 := h.small.1
  obtain ⟨g, vs, c, rfl, hl, hr, hi, hg, ht⟩ := h.proj
  have hcp : 0 < chN n := chN_pos hn
  obtain ⟨N, hN⟩ : ∃ N, N = chN n := ⟨_, rfl⟩
  have hle : N ≤ 2 := by rw [hN]; exact chN_le hn2
  have hm : a % N < N := Nat.mod_lt _ (by omega)
  obtain ⟨x, hx⟩ : ∃ x, vs[a % N]? = some x := ⟨_, List.getElem?_eq_getElem (by omega)⟩
  have hho : homeN n a = chnI n (a % N) := by unfold homeN; rw [← hN]
  rw [hho]
  have hxi : Is w x (chnI n (a % N)) := hi.2 (a % N) x _ hx (chI_get (by omega))
  have hlen := chI_len (n := n) (i := a % N) (by omega)
  have htx := ht x (List.mem_of_getElem? hx)
  clear h ht hho
  have hcell : w.cell? ⟨g, a % N, none⟩ = some x := by
    obtain ⟨a', c', e, hx'⟩ := hr
    injection e with e1 e2 e3
    obtain ⟨g', off, e4, hc⟩ := hx' (by intro e; rw [e] at hl; simp at hl; omega)
    rw [← e1] at e4
    injection e4 with e4
    injection e4 with e4 e5
    subst e4
    subst e5
    have := hc _ x hx
    rwa [Nat.zero_add] at this
  obtain ⟨xa, xc, rfl, hxx⟩ := id hxi
  obtain ⟨xg, xo, rfl, _⟩ := hxx (by intro e; rw [List.map_eq_nil_iff] at e; rw [e] at hlen; simp at hlen)
  have htg := htx xg rfl
  simp only [List.length_map] at hcell hxi
  generalize chnI n (a % N) = us at hcell hxi hlen ⊢
  have XI : Hid (∀ W, Keep Non w W → Is W (.slice (some ⟨xg, xo, none⟩) us.length xc) us) := Lib.hid (fun W k => Rd.keepNon hxi k)
  have hcd : w.drew.cell? ⟨g, a % N, none⟩ = some (.slice (some ⟨xg, xo, none⟩) us.length xc) := hcell
  have c3d : w.drew.cell? ⟨b, 3, none⟩ = some (.slice (some ⟨g, 0, none⟩) (chN n) c) := c3
  rw [← hN] at c3d
  have hN0 : (N : Int) ≠ 0 := by omega
  have HTG := Lib.hid htg
  clear hr hi hxx hxi hcell c3 hx htx htg hN hcp hl hlen
  go_enter Tryz.func42, Tryz.ntmps42
  go_wp2_with fail
  go_region
  all_goals go_wp2_with fail
  all_goals
    go_ret
    exact ⟨_, _, _, rfl, (Keep.refl _ _).drew, XI.out _ (Keep.refl _ _).drew, HTG.out⟩
theorem lghome_ok {F : Nat → Prop} {b n a : Nat} {L : Lg} (w : World) (h : LgAt F w b n L) (hn : 0 < n) (ha : a ≤ 1048575) :
    Calls Tryz.prog 42 #[.pointer (some ⟨b, 0, none⟩), .int .i64 a] w fun r w' => ∃ g o c, r = .returned (.slice (some ⟨g, o, none⟩) (homeN n a).length c) ∧ Keep Non w w' ∧ Is w' (.slice (some ⟨g, o, none⟩) (homeN n a).length c) (homeN n a) := by
  obtain ⟨A, dps, sps, dv, sv, cv, q, h, hF⟩ := h
  refine (lghomeI_ok w h hn ha).mono ?_
  rintro r w' ⟨g, o, c, e, k, i, _⟩
  exact ⟨g, o, c, e, k, i⟩
theorem raiseE_ok (ep n : Nat) (hn : n ≤ 1048576) : raiseE ep ep n = 0 := by
  unfold raiseE asksE askE fitB
  rw [if_pos (by simp; omega), if_neg (by omega), if_neg (by omega)]
theorem raiseN_ok (ep nx n : Nat) (hn : n ≤ 1048576) : raiseN ep nx ep n = ((max nx n : Nat) : Int) := by
  unfold raiseN
  rw [if_pos (raiseE_ok ep n hn)]
  split <;> omega
theorem LgIn.own {A : Nat → Nat → Prop} {F : Nat → Prop} {w w' : World} {b : Nat} {dps sps : List Nat} {dv sv cv : Value} {q n : Nat} {L : Lg} {e' nx' : Nat} (h : LgIn A w b dps sps dv sv cv q n L) (hF : ∀ i g, A i g → F g) (k : Keep (fun g => g = b ∨ g = q) w w')
    (hb : w'.heap[b]? = some (LgB dv sv e' cv q)) (hq : w'.heap[q]? = some (SqB e' nx')) (hi : SqIn e' nx') : LgTo F w b n ⟨L.shs, e', nx', e'⟩ w' := by
  have ne : ∀ i g, 2 ≤ i → A i g → ¬ (g = b ∨ g = q) := by
    rintro i g hi x (rfl | rfl)
    · have := h.apart _ _ _ x h.mem.1; omega
    · have := h.apart _ _ _ x h.mem.2.1; omega
  refine ⟨k.mono (fun g _ x => ?_), F, Sub.refl _ _, A, dps, sps, dv, sv, cv, q, ⟨hb, hq, hi, ownsRow_keep h.disks k (fun g x => ne 2 g (by omega) (h.mem.2.2.1 g x)), ownsRow_keep h.shelves k (fun g x => ne 3 g (by omega) (h.mem.2.2.2 g x)), h.len, h.proj.keep k (ne 4 · (by omega)), fun i s p dp a c d => (h.sh i s p dp a c d).keep k (ne _ · (by omega)), h.mem, h.apart, fun i g x => ⟨(h.low i g x).1, k.lt (h.low i g x).2⟩, h.small⟩, hF⟩
  rcases x with rfl | rfl
  · exact hF _ _ h.mem.1
  · exact hF _ _ h.mem.2.1
theorem LgIn.sqTo {A : Nat → Nat → Prop} {F : Nat → Prop} {w w' : World} {b : Nat} {dps sps : List Nat} {dv sv cv : Value} {q n : Nat} {L : Lg} {nx' : Nat} (h : LgIn A w b dps sps dv sv cv q n L) (hF : ∀ i g, A i g → F g) (k : Keep (One q) w w')
    (he : L.se = L.ep) (hq : w'.heap[q]? = some (SqB L.ep nx')) (hi : SqIn L.ep nx') : LgTo F w b n { L with next := nx' } w' := by
  have e1 : ({ L with next := nx' } : Lg) = ⟨L.shs, L.ep, nx', L.ep⟩ := by rw [he]
  rw [e1]
  exact h.own hF (k.mono (fun g _ x => .inr x)) (k.at h.blk (fun e => by have e' : b = q := e; have := h.apart 0 1 b h.mem.1 (e' ▸ h.mem.2.1); omega)) hq hi
theorem lgraise_ok {F : Nat → Prop} {b n x : Nat} {L : Lg} (w : World) (h : LgAt F w b n L) (hse : L.se = L.ep) (hx : x ≤ 1048576) :
    Calls Tryz.prog 119 #[.pointer (some ⟨b, 0, none⟩), .int .i64 x] w fun r w' => r = .returned .nilIface ∧ LgTo F w b n { L with next := max L.next x } w' := by
  obtain ⟨A, dps, sps, dv, sv, cv, q, h, hF⟩ := h
  have c2 := lg_2 h.blk
  have c4 := lg_4 h.blk
  have c2d : w.drew.cell? ⟨b, 2, none⟩ = some (.int .i64 L.ep) := c2
  have c4d : w.drew.cell? ⟨b, 4, none⟩ = some (.pointer (some ⟨q, 0, none⟩)) := c4
  have hd := h.keep ((Keep.refl Non w).drew) (fun _ _ _ e => e)
  have hsq := hd.sq
  have hsi := hd.sqin
  rw [hse] at hsq hsi
  have RS := raise_any q L.ep L.next L.ep x w.drew hsq hsi
  rw [raiseE_ok L.ep x hx, raiseN_ok L.ep L.next x hx, errv_zero] at RS
  have RS' := Lib.hid RS
  have FIN := Lib.hid (fun w' (k : Keep (One q) w.drew w') (hq : w'.heap[q]? = some (SqB L.ep ((max L.next x : Nat) : Int))) => LgTo.pre (Keep.refl Non w).drew (hd.sqTo hF k hse hq (by have := hsi; unfold SqIn at *; omega)))
  clear RS h hd c2 c4 hsq hsi
  go_enter Tryz.func119, Tryz.ntmps119
  go_wp2_with fail
  go_region_law (go_simp; go_at_call 186; refine RS'.out.mono ?_; rintro r w2 ⟨rfl, k, hq⟩; have K := Lib.hid k; have HQ := Lib.hid hq; clear k hq)
  all_goals go_wp2_with fail
  all_goals
    go_ret
    exact ⟨rfl, FIN.out _ K.out HQ.out⟩
theorem lgtail_ok {F : Nat → Prop} {b n : Nat} {L : Lg} (w : World) (h : LgAt F w b n L) (hse : L.se = L.ep) :
    Calls Tryz.prog 8 #[.pointer (some ⟨b, 0, none⟩)] w fun r w' => r = .returned (.tuple #[.int .i64 L.next, .nilIface]) ∧ Keep Non w w' := by
  obtain ⟨A, dps, sps, dv, sv, cv, q, h, hF⟩ := h
  have c2 := lg_2 h.blk
  have c4 := lg_4 h.blk
  have c2d : w.drew.cell? ⟨b, 2, none⟩ = some (.int .i64 L.ep) := c2
  have c4d : w.drew.cell? ⟨b, 4, none⟩ = some (.pointer (some ⟨q, 0, none⟩)) := c4
  have hd := h.keep ((Keep.refl Non w).drew) (fun _ _ _ e => e)
  have hsq := hd.sq
  rw [hse] at hsq
  have TL := tail_any q L.ep L.next L.ep w.drew hsq
  have e0 : askE L.ep L.ep = 0 := by unfold askE; rw [if_neg (by omega), if_neg (by omega)]
  have e1 : tailV L.ep L.next L.ep = L.next := by unfold tailV; rw [if_pos e0]
  rw [e0, e1, errv_zero] at TL
  have TL' := Lib.hid TL
  clear TL h hd c2 c4 hsq
  go_enter Tryz.func8, Tryz.ntmps8
  go_wp2_with fail
  go_region_law (go_simp; go_at_call 28; refine TL'.out.mono ?_; rintro r w2 ⟨rfl, rfl⟩)
  all_goals go_wp2_with fail
  all_goals
    go_ret2
    exact ⟨rfl, (Keep.refl _ _).drew⟩
theorem neq_nil_err (j : Int) (w : World) : (binOp .neq 34 .nilIface (.iface 84 (.int .i64 j))).run Tryz.prog w = .ok (.bool true) w := by
  have h : ∀ d : Nat, (Op.equalIn (d + 1) 34 .nilIface (.iface 84 (.int .i64 j))).run Tryz.prog w = .ok false w := fun d => by simp [Op.equalIn, run_underlying Tryz.underlying34]
  simp only [binOp]
  simp [Op.equal, Op.maxDepth, h 9999]
theorem lgputQ_hole {b u e a m c : Nat} {pa : Option Addr} (Q : World → Prop) (w : World)
    (DO0 : ∀ W, Keep Non w W → Calls Tryz.prog 184 #[.pointer (some ⟨b, 0, none⟩), .int .i64 u, .agg #[.int .i64 3, .int .i64 e, .int .i64 a, .slice none 0 0]] W fun r w' => (∃ n : Int, r = .returned (.tuple #[.int .i64 n, .nilIface])) ∧ Q w') :
    Calls Tryz.prog 118 #[.pointer (some ⟨b, 0, none⟩), .int .i64 u, .int .i64 e, .int .i64 a, .agg #[.int .i64 2, .slice pa m c]] w fun r w' => r = .returned .nilIface ∧ Q w' := by
  have e1 := neq_nil_err 8
  have k1 : Keep Non w ((w.alloc (ClB 2 (.slice pa m c))).alloc (ActB 3 e a (.slice none 0 0))) := ((Keep.refl _ _).alloc _).alloc _
  have b1 := blk_alloc (blk_new w (ClB 2 (.slice pa m c))) (ActB 3 e a (.slice none 0 0))
  have k0 := cl0 b1
  have kA := k1
  have DOA := Lib.hid (DO0 _ kA)
  have e1' := e1
  clear kA k1 DO0
  dsimp only [ClB, ActB] at *
  go_enter Tryz.func118, Tryz.ntmps118
  go_wp2_with (go_at_call 184; refine DOA.out.mono ?_; rintro r w2 ⟨⟨nn, rfl⟩, t⟩; have T := Lib.hid t; clear t)
  go_ret
  exact ⟨rfl, T.out⟩
theorem lgputQ_data {b u e a m c : Nat} {pa : Option Addr} (Q : World → Prop) (w : World)
    (DO0 : ∀ W, Keep Non w W → Calls Tryz.prog 184 #[.pointer (some ⟨b, 0, none⟩), .int .i64 u, .agg #[.int .i64 2, .int .i64 e, .int .i64 a, .slice pa m c]] W fun r w' => (∃ n : Int, r = .returned (.tuple #[.int .i64 n, .nilIface])) ∧ Q w') :
    Calls Tryz.prog 118 #[.pointer (some ⟨b, 0, none⟩), .int .i64 u, .int .i64 e, .int .i64 a, .agg #[.int .i64 1, .slice pa m c]] w fun r w' => r = .returned .nilIface ∧ Q w' := by
  have e1 := neq_nil_err 8
  have b1 := blk_alloc (blk_new w (ClB 1 (.slice pa m c))) (ActB 3 e a (.slice none 0 0))
  have k0 := cl0 b1
  have c1 := cl1 b1
  have kA : Keep Non w ((w.alloc (ClB 1 (.slice pa m c))).alloc (ActB 2 e a (.slice pa m c))).drew := (((Keep.refl _ _).alloc _).alloc _).drew
  have c1d : ((w.alloc (ClB 1 (.slice pa m c))).alloc (ActB 3 e a (.slice none 0 0))).drew.cell? ⟨w.heap.size, 1, none⟩ = some (.slice pa m c) := c1
  have b2 := blk_alloc (blk_new w (ClB 1 (.slice pa m c))) (ActB 2 e a (.slice none 0 0))
  have c1e : ((w.alloc (ClB 1 (.slice pa m c))).alloc (ActB 2 e a (.slice none 0 0))).drew.cell? ⟨w.heap.size, 1, none⟩ = some (.slice pa m c) := cl1 b2
  have b3 := blk_alloc (blk_new w (ClB 1 (.slice pa m c))) (ActB 2 e a (.slice pa m c))
  have c0g : ((w.alloc (ClB 1 (.slice pa m c))).alloc (ActB 2 e a (.slice pa m c))).drew.cell? ⟨w.heap.size, 0, none⟩ = some (.int .i64 1) := cl0 b3
  clear b1 b2 b3
  have DOA := Lib.hid (DO0 _ kA)
  have e1' := e1
  clear kA DO0
  dsimp only [ClB, ActB] at *
  go_enter Tryz.func118, Tryz.ntmps118
  go_wp2_with fail
  go_region
  all_goals go_wp2_with (go_at_call 184; refine DOA.out.mono ?_; rintro r w2 ⟨⟨nn, rfl⟩, t⟩; have T := Lib.hid t; clear t)
  all_goals
    go_ret
    exact ⟨rfl, T.out⟩
theorem lgput_hole {F : Nat → Prop} {b n u e a m c : Nat} {pa : Option Addr} {L : Lg} {s s2 : Sh} (R : (Nat → Prop) → World → Prop) (w : World) (h : LgAt F w b n L) (hs : L.shs[u]? = some s) (hlay : Lay w)
    (ha : Acts s s2 (.agg #[.int .i64 3, .int .i64 e, .int .i64 a, .slice none 0 0]) R) (hR : ∀ w' F', Keep Non w w' → (∀ g, F' g → F g) → R F' w') :
    Calls Tryz.prog 118 #[.pointer (some ⟨b, 0, none⟩), .int .i64 u, .int .i64 e, .int .i64 a, .agg #[.int .i64 2, .slice pa m c]] w fun r w' => r = .returned .nilIface ∧ LgTo F w b n { L with shs := L.shs.set u s2 } w' :=
  lgputQ_hole _ w (fun W k => (lgdo_ok 3 e a 0 0 none R W (h.keepNon k) hs (hlay.keepNon k) ha (fun w' F' k' hF => hR w' F' (k.trans1 k') hF)).mono (fun r w' x => ⟨x.1, LgTo.pre k x.2⟩))
theorem lgput_data {F : Nat → Prop} {b n u e a m c : Nat} {pa : Option Addr} {L : Lg} {s s2 : Sh} (R : (Nat → Prop) → World → Prop) (w : World) (h : LgAt F w b n L) (hs : L.shs[u]? = some s) (hlay : Lay w)
    (ha : Acts s s2 (.agg #[.int .i64 2, .int .i64 e, .int .i64 a, .slice pa m c]) R) (hR : ∀ w' F', Keep Non w w' → (∀ g, F' g → F g) → R F' w') :
    Calls Tryz.prog 118 #[.pointer (some ⟨b, 0, none⟩), .int .i64 u, .int .i64 e, .int .i64 a, .agg #[.int .i64 1, .slice pa m c]] w fun r w' => r = .returned .nilIface ∧ LgTo F w b n { L with shs := L.shs.set u s2 } w' :=
  lgputQ_data _ w (fun W k => (lgdo_ok 2 e a m c pa R W (h.keepNon k) hs (hlay.keepNon k) ha (fun w' F' k' hF => hR w' F' (k.trans1 k') hF)).mono (fun r w' x => ⟨x.1, LgTo.pre k x.2⟩))
theorem lgputI_hole {A : Nat → Nat → Prop} {dps sps : List Nat} {dv sv cv : Value} {q b n u e a m c : Nat} {pa : Option Addr} {L : Lg} {s s2 : Sh} (R : (Nat → Prop) → World → Prop) (w : World) (h : LgIn A w b dps sps dv sv cv q n L) (hs : L.shs[u]? = some s) (hlay : Lay w)
    (ha : Acts s s2 (.agg #[.int .i64 3, .int .i64 e, .int .i64 a, .slice none 0 0]) R) (hR : ∀ w' F', Keep Non w w' → (∀ g, F' g → A (5 + u) g) → R F' w') :
    Calls Tryz.prog 118 #[.pointer (some ⟨b, 0, none⟩), .int .i64 u, .int .i64 e, .int .i64 a, .agg #[.int .i64 2, .slice pa m c]] w fun r w' => r = .returned .nilIface ∧ LgIT A w b dps sps dv sv cv q n u { L with shs := L.shs.set u s2 } w' :=
  lgputQ_hole _ w (fun W k => (lgdoI_ok 3 e a 0 0 none R W (h.keep k (fun _ _ _ x => x)) hs (hlay.keepNon k) ha (fun w' F' k' hF => hR w' F' (k.trans1 k') hF)).mono (fun r w' x => ⟨x.1, LgIT.pre k x.2⟩))
theorem lgputI_data {A : Nat → Nat → Prop} {dps sps : List Nat} {dv sv cv : Value} {q b n u e a m c : Nat} {pa : Option Addr} {L : Lg} {s s2 : Sh} (R : (Nat → Prop) → World → Prop) (w : World) (h : LgIn A w b dps sps dv sv cv q n L) (hs : L.shs[u]? = some s) (hlay : Lay w)
    (ha : Acts s s2 (.agg #[.int .i64 2, .int .i64 e, .int .i64 a, .slice pa m c]) R) (hR : ∀ w' F', Keep Non w w' → (∀ g, F' g → A (5 + u) g) → R F' w') :
    Calls Tryz.prog 118 #[.pointer (some ⟨b, 0, none⟩), .int .i64 u, .int .i64 e, .int .i64 a, .agg #[.int .i64 1, .slice pa m c]] w fun r w' => r = .returned .nilIface ∧ LgIT A w b dps sps dv sv cv q n u { L with shs := L.shs.set u s2 } w' :=
  lgputQ_data _ w (fun W k => (lgdoI_ok 2 e a m c pa R W (h.keep k (fun _ _ _ x => x)) hs (hlay.keepNon k) ha (fun w' F' k' hF => hR w' F' (k.trans1 k') hF)).mono (fun r w' x => ⟨x.1, LgIT.pre k x.2⟩))
end Go.Proofs.YtdmckfkhkjkdnaaGreatDoor
namespace Go.Proofs.YtdmckfkhkjkdnaaGreatDoor
open Go.RowKit
theorem all_at (g : Nat) (x y z : Value) (a : Option Addr) (c : Nat) (us : List Nat) (I : Nat → World → Prop) (w : World)
    (eg : ∀ args w, (callFunc g args).run Tryz.prog w = .ok (.enter g args) w)
    (hr : ∀ (j : Nat) W, j < us.length → I j W → Rd W (.slice a us.length c) (us.map iv)) (h0 : I 0 w) (hl : us.length ≤ 1000)
    (hs : ∀ (j u : Nat) W, us[j]? = some u → I j W → Calls Tryz.prog g #[.int .i64 u, x, y, z] W fun e w' => e = .returned .nilIface ∧ I (j + 1) w') :
    Calls Tryz.prog 116 #[.slice a us.length c, .func (.func g) #[] #[x, y, z]] w fun e w' => e = .returned .nilIface ∧ I us.length w' := by
  have HS := Lib.hid hs
  have HR := Lib.hid hr
  clear hs hr
  go_enter Tryz.func116, Tryz.ntmps116
  go_wp2_with fail
  go_loopw [10] (fun i wr => ∃ j : Nat, j ≤ us.length ∧ i = .int .i64 j ∧ I j wr) (fun i _ => us.length - (intOf i).toNat)
  case atStart => exact ⟨0, by omega, rfl, h0⟩
  case round =>
    obtain ⟨j, hj, rfl, hi⟩ := hrel
    have HI := Lib.hid hi
    clear hi
    by_cases hlt : j < us.length
    · have hrd := HR.out j wr hlt HI.out
      have hlj : (j : Int) < (us.length : Int) := by omega
      obtain ⟨b, off, rfl, hc⟩ : ∃ b off, a = some ⟨b, off, none⟩ ∧ ∀ (k : Nat) u, (us.map iv)[k]? = some u → wr.cell? ⟨b, off + k, none⟩ = some u := by
        obtain ⟨a', c', e, hx⟩ := hrd
        injection e with e1 e2 e3
        obtain ⟨g', off, e4, hc⟩ := hx (by intro e; have e' := List.map_eq_nil_iff.1 e; rw [e'] at hlt; exact absurd hlt (by simp))
        exact ⟨g', off, e1.trans e4, hc⟩
      obtain ⟨u, hu⟩ : ∃ u, us[j]? = some u := ⟨_, List.getElem?_eq_getElem hlt⟩
      have hcell : wr.cell? ⟨b, off + j, none⟩ = some (.int .i64 (u : Int)) := hc j _ (by rw [List.getElem?_map, hu]; rfl)
      have ST := Lib.hid (HS.out j u wr hu HI.out)
      clear hc hrd hu
      clear HR
      go_wp2_with fail
      refine ST.out.mono ?_
      rintro e w1 ⟨rfl, i1⟩
      have I1 := Lib.hid i1
      clear i1 ST HS
      go_wp2_with fail
      exact ⟨⟨j + 1, by omega, by first | rfl | go_num, I1.out⟩, by simp [intOf]; omega⟩
    · obtain rfl : j = us.length := by omega
      go_wp2_with fail
      go_ret
      exact ⟨rfl, HI.out⟩
end Go.Proofs.YtdmckfkhkjkdnaaGreatDoor
namespace Go.Proofs.YtdmckfkhkjkdnaaGreatDoor
open Go.RowKit Go.Maps
theorem LgAt.low {F : Nat → Prop} {w : World} {b n : Nat} {L : Lg} (h : LgAt F w b n L) : LgAt (fun g => F g ∧ g < w.heap.size) w b n L := by
  obtain ⟨A, dps, sps, dv, sv, cv, q, h, hF⟩ := h
  exact ⟨A, dps, sps, dv, sv, cv, q, h, fun i g e => ⟨hF i g e, (h.low i g e).2⟩⟩
theorem LgTo.ofLow {F : Nat → Prop} {w w' : World} {b n : Nat} {L : Lg} {m : Nat} (h : LgTo (fun g => F g ∧ g < m) w b n L w') : LgTo F w b n L w' := by
  obtain ⟨k, F', s, h⟩ := h
  exact ⟨k.mono (fun _ _ x => x.1), F', fun g x => by rcases s g x with y | y; exact .inl y.1; exact .inr y, h⟩
def PbB (b : Nat) : Obj := .cells #[.pointer (some ⟨b, 0, none⟩)] 26 (0, 0)
theorem pb_0 {w : World} {g b : Nat} (h : w.heap[g]? = some (PbB b)) : w.cell? ⟨g, 0, none⟩ = some (.pointer (some ⟨b, 0, none⟩)) := by simp [World.cell?, h, PbB]
def InB (x : Int) : Obj := .cells #[.int .i64 x] 3 (0, 0)
theorem in_0 {w : World} {g : Nat} {x : Int} (h : w.heap[g]? = some (InB x)) : w.cell? ⟨g, 0, none⟩ = some (.int .i64 x) := by simp [World.cell?, h, InB]
theorem spread_enter (args : Array Value) (w : World) : (callFunc 117 args).run Tryz.prog w = .ok (.enter 117 args) w := enter_of Tryz.func117 (by kernel_rfl) rfl args w
theorem lgspread1_ok (u g h j b a e : Nat) (k : Int) (xa : Option Addr) (m xc : Nat) (w : World) (Q : World → Prop) (c2 : w.cell? ⟨b, 2, none⟩ = some (.int .i64 e)) (g0 : w.cell? ⟨g, 0, none⟩ = some (.pointer (some ⟨b, 0, none⟩))) (h0 : w.cell? ⟨h, 0, none⟩ = some (.int .i64 a)) (j0 : w.cell? ⟨j, 0, none⟩ = some (.int .i64 k)) (j1 : w.cell? ⟨j, 1, none⟩ = some (.slice xa m xc))
    (hp : Calls Tryz.prog 118 #[.pointer (some ⟨b, 0, none⟩), .int .i64 u, .int .i64 e, .int .i64 a, .agg #[.int .i64 k, .slice xa m xc]] w.drew fun r w' => r = .returned .nilIface ∧ Q w') :
    Calls Tryz.prog 117 #[.int .i64 u, .pointer (some ⟨g, 0, none⟩), .pointer (some ⟨h, 0, none⟩), .pointer (some ⟨j, 0, none⟩)] w fun r w' => r = .returned .nilIface ∧ Q w' := by
  have HP := Lib.hid hp
  have c2d : w.drew.cell? ⟨b, 2, none⟩ = some (.int .i64 e) := c2
  have g0d : w.drew.cell? ⟨g, 0, none⟩ = some (.pointer (some ⟨b, 0, none⟩)) := g0
  have h0d : w.drew.cell? ⟨h, 0, none⟩ = some (.int .i64 a) := h0
  have j0d : w.drew.cell? ⟨j, 0, none⟩ = some (.int .i64 k) := j0
  have j1d : w.drew.cell? ⟨j, 1, none⟩ = some (.slice xa m xc) := j1
  clear hp c2 g0 h0 j0 j1
  go_enter Tryz.func117, Tryz.ntmps117
  go_wp2_with fail
  go_region_law (go_simp; go_at_call 118; refine HP.out.mono ?_; rintro r w2 ⟨rfl, hq⟩; have HQ := Lib.hid hq; clear hq)
  all_goals go_wp2_with fail
  all_goals
    go_ret
    exact ⟨rfl, HQ.out⟩
theorem lgspread_ok {F0 : Nat → Prop} {b n a u m c xc : Nat} {k : Int} {pa : Option Addr} {xa : Option Addr} {L L2 : Lg} (w : World) (h0 : LgAt F0 w b n L) (he : L2.ep = L.ep) (hse : L2.se = L2.ep) (hu : Is w (.slice pa 1 c) [u]) (ha : a + 1 ≤ 1048576)
    (hp : ∀ W F, Keep Non w W → (∀ g, F g → F0 g ∧ g < w.heap.size) → LgAt F W b n L → Calls Tryz.prog 118 #[.pointer (some ⟨b, 0, none⟩), .int .i64 u, .int .i64 L.ep, .int .i64 a, .agg #[.int .i64 k, .slice xa m xc]] W fun r w' => r = .returned .nilIface ∧ LgTo F W b n L2 w') :
    Calls Tryz.prog 56 #[.pointer (some ⟨b, 0, none⟩), .slice pa 1 c, .int .i64 a, .agg #[.int .i64 k, .slice xa m xc]] w fun r w' => r = .returned .nilIface ∧ LgTo F0 w b n { L2 with next := max L2.next (a + 1) } w' := by
  have h := h0.low
  obtain ⟨F, hFF⟩ : ∃ F, F = fun g => F0 g ∧ g < w.heap.size := ⟨_, rfl⟩
  rw [← hFF] at h
  have kA : Keep Non w (((w.alloc (PbB b)).alloc (InB a)).alloc (ClB k (.slice xa m xc))) := (((Keep.refl _ _).alloc _).alloc _).alloc _
  have b0 : (((w.alloc (PbB b)).alloc (InB a)).alloc (ClB k (.slice xa m xc))).heap[w.heap.size]? = some (PbB b) := blk_alloc (blk_alloc (blk_new _ _) _) _
  have b1 : (((w.alloc (PbB b)).alloc (InB a)).alloc (ClB k (.slice xa m xc))).heap[w.heap.size + 1]? = some (InB a) := blk_alloc (alloc2_at' _ _ _) _
  have b2 : (((w.alloc (PbB b)).alloc (InB a)).alloc (ClB k (.slice xa m xc))).heap[w.heap.size + 1 + 1]? = some (ClB k (.slice xa m xc)) := by
    have := alloc2_at' (w.alloc (PbB b)) (InB a) (ClB k (.slice xa m xc))
    rwa [World.size_alloc] at this
  generalize hwA : ((w.alloc (PbB b)).alloc (InB a)).alloc (ClB k (.slice xa m xc)) = wA at kA b0 b1 b2
  have hA := h.keepNon kA
  have hlowF : ∀ g, F g → g < w.heap.size := fun g x => by rw [hFF] at x; exact x.2
  have c2A : wA.cell? ⟨b, 2, none⟩ = some (.int .i64 L.ep) := by
    obtain ⟨A, dps, sps, dv, sv, cv, q, h, hF⟩ := hA
    exact lg_2 h.blk
  have ALL := Lib.hid (all_at 117 (.pointer (some ⟨w.heap.size, 0, none⟩)) (.pointer (some ⟨w.heap.size + 1, 0, none⟩)) (.pointer (some ⟨w.heap.size + 1 + 1, 0, none⟩)) pa c [u]
    (fun j W => (j = 0 → W = wA) ∧ (j = 1 → LgTo F wA b n L2 W)) wA spread_enter (fun j W hj hI => by
      obtain rfl : j = 0 := by simp at hj; omega
      rw [hI.1 rfl]
      exact hu.keepNon kA) ⟨fun _ => rfl, fun x => absurd x (by omega)⟩ (by simp) (fun j u' W hj hI => by
      obtain rfl : j = 0 := by
        rcases j with _ | j
        · rfl
        · simp at hj
      obtain rfl : u = u' := by simpa using hj
      rw [hI.1 rfl]
      refine (lgspread1_ok u w.heap.size (w.heap.size + 1) (w.heap.size + 1 + 1) b a L.ep k xa m xc wA (fun w' => LgTo F wA b n L2 w') c2A (pb_0 b0) (in_0 b1) (cl0 b2) (cl1 b2) ((hp wA.drew F (kA.drew) (fun g x => by rw [hFF] at x; exact x) (hA.keepNon (Keep.refl _ _).drew)).mono (fun r w' ⟨x, y⟩ => ⟨x, LgTo.pre (Keep.refl _ _).drew y⟩))).mono (fun r w' ⟨x, y⟩ => ⟨x, fun e => absurd e (by omega), fun _ => y⟩)))
  have AFT : Hid (∀ W, LgTo F wA b n L2 W → W.cell? ⟨w.heap.size, 0, none⟩ = some (.pointer (some ⟨b, 0, none⟩)) ∧ W.cell? ⟨w.heap.size + 1, 0, none⟩ = some (.int .i64 a) ∧
      Calls Tryz.prog 119 #[.pointer (some ⟨b, 0, none⟩), .int .i64 ((a + 1 : Nat) : Int)] W fun r w' => r = .returned .nilIface ∧ LgTo F0 w b n { L2 with next := max L2.next (a + 1) } w') := Lib.hid (by
    rintro W ⟨k, F', s, hL⟩
    refine ⟨pb_0 (k.at b0 (fun x => by have := hlowF _ x; omega)), in_0 (k.at b1 (fun x => by have := hlowF _ x; omega)), (lgraise_ok W hL hse (by omega)).mono ?_⟩
    rintro r w' ⟨x, y⟩
    refine ⟨x, ?_⟩
    have t := LgTo.pre kA (LgTo.trans s k y)
    rw [hFF] at t
    exact t.ofLow)
  clear h0 h hA b0 b1 b2 c2A hu hp hlowF
  subst hwA
  dsimp only [PbB, InB, ClB, List.length_singleton] at ALL AFT
  have e1 : ((a + 1 : Nat) : Int) = (a : Int) + 1 := by omega
  rw [e1] at AFT
  go_enter Tryz.func56, Tryz.ntmps56
  go_wp2_with (first
    | (go_at_call 116; refine ALL.out.mono ?_; rintro r w2 ⟨rfl, _, t⟩; obtain ⟨p0, p1, rc⟩ := AFT.out w2 (t rfl); have RC := Lib.hid rc; clear t rc)
    | (go_at_call 119; refine RC.out.mono ?_; rintro r w3 ⟨rfl, t3⟩; have T3 := Lib.hid t3; clear t3))
  go_ret
  exact ⟨rfl, T3.out⟩
def UnMem (A : Nat → Nat → Prop) (g : Nat) : Prop := ∃ i, 5 ≤ i ∧ A i g
structure LgMid (A : Nat → Nat → Prop) (w : World) (b : Nat) (dps sps : List Nat) (dv sv cv : Value) (q n : Nat) (L : Lg) (A' : Nat → Nat → Prop) (W : World) : Prop where
  inn : LgIn A' W b dps sps dv sv cv q n L
  kp : Keep (UnMem A) w W
  mem : ∀ i g, A' i g → (A i g ∨ (5 ≤ i ∧ w.heap.size ≤ g))
theorem LgMid.refl {A : Nat → Nat → Prop} {w W : World} {b : Nat} {dps sps : List Nat} {dv sv cv : Value} {q n : Nat} {L : Lg} (h : LgIn A W b dps sps dv sv cv q n L) (k : Keep Non w W) : LgMid A w b dps sps dv sv cv q n L A W := ⟨h, k.ofNon, fun _ _ x => .inl x⟩
theorem LgMid.step {A A' : Nat → Nat → Prop} {w W W0 w' : World} {b : Nat} {dps sps : List Nat} {dv sv cv : Value} {q n u : Nat} {L L2 : Lg} (h : LgMid A w b dps sps dv sv cv q n L A' W) (k0 : Keep Non W W0) (t : LgIT A' W0 b dps sps dv sv cv q n u L2 w') : ∃ A2, LgMid A w b dps sps dv sv cv q n L2 A2 w' := by
  obtain ⟨B, hs, kk, hl⟩ := t
  have z := h.kp.size
  have z0 := k0.size
  refine ⟨_, hl, h.kp.trans (k0.ofNon.trans1 kk) (fun _ _ x => x) (fun g hg x => ?_), fun i g x => ?_⟩
  · rcases h.mem _ g x with y | y
    · exact ⟨_, by omega, y⟩
    · omega
  · by_cases e : i = 5 + u
    · subst e
      rw [putA_same] at x
      rcases hs g x with y | y
      · rcases h.mem _ g y with v | v
        · exact .inl v
        · exact .inr v
      · exact .inr ⟨by omega, by omega⟩
    · rw [putA_other e] at x
      exact h.mem i g x
theorem LgMid.to {A A' : Nat → Nat → Prop} {F : Nat → Prop} {w W : World} {b : Nat} {dps sps : List Nat} {dv sv cv : Value} {q n : Nat} {L : Lg} (h : LgMid A w b dps sps dv sv cv q n L A' W) (hF : ∀ i g, A i g → F g) : LgTo F w b n L W :=
  ⟨h.kp.mono (fun g _ ⟨i, _, x⟩ => hF i g x), fun g => F g ∨ w.heap.size ≤ g, fun g x => x, A', dps, sps, dv, sv, cv, q, h.inn, fun i g x => (h.mem i g x).elim (fun y => .inl (hF i g y)) (fun y => .inr y.2)⟩
theorem lgspreadI_ok {A : Nat → Nat → Prop} {F0 : Nat → Prop} {dps sps : List Nat} {dv sv cv : Value} {q b n a m c xc pg po ep : Nat} {k : Int} {xa : Option Addr} {us : List Nat} {LJ : Nat → Lg} (w : World) (h : LgIn A w b dps sps dv sv cv q n (LJ 0)) (hF : ∀ i g, A i g → F0 g)
    (he : ∀ j, j ≤ us.length → (LJ j).ep = ep ∧ (LJ j).se = ep) (hu : Is w (.slice (some ⟨pg, po, none⟩) us.length c) us) (hpg : A 4 pg) (hl : us.length ≤ 1000) (ha : a + 1 ≤ 1048576)
    (hp : ∀ w0, Keep Non w w0 → ∀ (j u : Nat) (A' : Nat → Nat → Prop) (W : World), us[j]? = some u → LgMid A w0 b dps sps dv sv cv q n (LJ j) A' W → Calls Tryz.prog 118 #[.pointer (some ⟨b, 0, none⟩), .int .i64 u, .int .i64 ep, .int .i64 a, .agg #[.int .i64 k, .slice xa m xc]] W fun r w' => r = .returned .nilIface ∧ LgIT A' W b dps sps dv sv cv q n u (LJ (j + 1)) w') :
    Calls Tryz.prog 56 #[.pointer (some ⟨b, 0, none⟩), .slice (some ⟨pg, po, none⟩) us.length c, .int .i64 a, .agg #[.int .i64 k, .slice xa m xc]] w fun r w' => r = .returned .nilIface ∧ LgTo F0 w b n { LJ us.length with next := max (LJ us.length).next (a + 1) } w' := by
  have kA : Keep Non w (((w.alloc (PbB b)).alloc (InB a)).alloc (ClB k (.slice xa m xc))) := (((Keep.refl _ _).alloc _).alloc _).alloc _
  have b0 : (((w.alloc (PbB b)).alloc (InB a)).alloc (ClB k (.slice xa m xc))).heap[w.heap.size]? = some (PbB b) := blk_alloc (blk_alloc (blk_new _ _) _) _
  have b1 : (((w.alloc (PbB b)).alloc (InB a)).alloc (ClB k (.slice xa m xc))).heap[w.heap.size + 1]? = some (InB a) := blk_alloc (alloc2_at' _ _ _) _
  have b2 : (((w.alloc (PbB b)).alloc (InB a)).alloc (ClB k (.slice xa m xc))).heap[w.heap.size + 1 + 1]? = some (ClB k (.slice xa m xc)) := by
    have := alloc2_at' (w.alloc (PbB b)) (InB a) (ClB k (.slice xa m xc))
    rwa [World.size_alloc] at this
  generalize hwA : ((w.alloc (PbB b)).alloc (InB a)).alloc (ClB k (.slice xa m xc)) = wA at kA b0 b1 b2
  have hlow : ∀ g, UnMem A g → g < w.heap.size := fun g ⟨i, _, x⟩ => (h.low i g x).2
  have h4 : ¬ UnMem A pg := fun ⟨i, hi, x⟩ => by have := h.apart _ _ _ x hpg; omega
  have ALL := Lib.hid (all_at 117 (.pointer (some ⟨w.heap.size, 0, none⟩)) (.pointer (some ⟨w.heap.size + 1, 0, none⟩)) (.pointer (some ⟨w.heap.size + 1 + 1, 0, none⟩)) (some ⟨pg, po, none⟩) c us
    (fun j W => j ≤ us.length ∧ ∃ A', LgMid A wA b dps sps dv sv cv q n (LJ j) A' W) wA spread_enter (fun j W hj hI => by
      obtain ⟨_, A', hM⟩ := hI
      exact (hu.keepNon kA).keep hM.kp (fun g e => by have e' : pg = g := Option.some.inj e; subst e'; exact h4)) ⟨Nat.zero_le _, A, LgMid.refl (h.keep kA (fun _ _ _ x => x)) (Keep.refl _ _)⟩ hl (fun j u' W hj hI => by
      obtain ⟨_, A', hM⟩ := hI
      have hjl : j < us.length := (List.getElem?_eq_some_iff.1 hj).1
      have p0 := hM.kp.at b0 (fun x => by have := hlow _ x; omega)
      have p1 := hM.kp.at b1 (fun x => by have := hlow _ x; omega)
      have p2 := hM.kp.at b2 (fun x => by have := hlow _ x; omega)
      have c2 := lg_2 hM.inn.blk
      rw [(he j (by omega)).1] at c2
      have hMd : LgMid A wA b dps sps dv sv cv q n (LJ j) A' W.drew := ⟨hM.inn.keep (Keep.refl Non _).drew (fun _ _ _ x => x), hM.kp.drew, hM.mem⟩
      refine (lgspread1_ok u' w.heap.size (w.heap.size + 1) (w.heap.size + 1 + 1) b a ep k xa m xc W (fun w' => LgIT A' W.drew b dps sps dv sv cv q n u' (LJ (j + 1)) w') c2 (pb_0 p0) (in_0 p1) (cl0 p2) (cl1 p2) (hp wA kA j u' A' W.drew hj hMd)).mono ?_
      rintro r w' ⟨x, y⟩
      obtain ⟨A2, hM2⟩ := hMd.step (Keep.refl _ _) y
      exact ⟨x, by omega, A2, hM2⟩))
  have AFT : Hid (∀ W, (∃ A', LgMid A wA b dps sps dv sv cv q n (LJ us.length) A' W) → W.cell? ⟨w.heap.size, 0, none⟩ = some (.pointer (some ⟨b, 0, none⟩)) ∧ W.cell? ⟨w.heap.size + 1, 0, none⟩ = some (.int .i64 a) ∧
      Calls Tryz.prog 119 #[.pointer (some ⟨b, 0, none⟩), .int .i64 ((a + 1 : Nat) : Int)] W fun r w' => r = .returned .nilIface ∧ LgTo F0 w b n { LJ us.length with next := max (LJ us.length).next (a + 1) } w') := Lib.hid (by
    rintro W ⟨A', hM⟩
    have p0 := hM.kp.at b0 (fun x => by have := hlow _ x; omega)
    have p1 := hM.kp.at b1 (fun x => by have := hlow _ x; omega)
    obtain ⟨k', F', s, hL⟩ := LgTo.pre kA (hM.to hF)
    refine ⟨pb_0 p0, in_0 p1, (lgraise_ok W hL ((he _ (Nat.le_refl _)).2.trans (he _ (Nat.le_refl _)).1.symm) (by omega)).mono ?_⟩
    rintro r w' ⟨x, y⟩
    exact ⟨x, LgTo.trans s k' y⟩)
  generalize us.length = nu at ALL AFT hl ⊢
  clear h b0 b1 b2 hu hp hlow h4 he
  subst hwA
  dsimp only [PbB, InB, ClB] at ALL AFT
  have e1 : ((a + 1 : Nat) : Int) = (a : Int) + 1 := by omega
  rw [e1] at AFT
  go_enter Tryz.func56, Tryz.ntmps56
  go_wp2_with (first
    | (go_at_call 116; refine ALL.out.mono ?_; rintro r w2 ⟨rfl, _, t⟩; obtain ⟨p0, p1, rc⟩ := AFT.out w2 t; have RC := Lib.hid rc; clear t rc)
    | (go_at_call 119; refine RC.out.mono ?_; rintro r w3 ⟨rfl, t3⟩; have T3 := Lib.hid t3; clear t3))
  go_ret
  exact ⟨rfl, T3.out⟩
end Go.Proofs.YtdmckfkhkjkdnaaGreatDoor
