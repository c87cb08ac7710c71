/- Slices of a call's own, and slices that are only read: where an append leaves its row; what a slice reads as. No program's number stands here. -/
import Derived.Test.YtcjjhgecmnfmdaaDoorBase
import Derived.Handy
import Derived.Lib.Hide
namespace Go.Proofs.YtcjjhgecmnfmdaaDoor
open Go.RowKit

/-- An append's result lies in the row that it was given, or in the newest block. -/
theorem append_where {P : Program} (w : World) (base : Nat) (t ty e : TypeId) (i : TypeInfo) (z : Value) (size bytes : Nat) (ht : P.underlying t = some (.slice e)) (hi : P.info? e = some i) (hz : i.zero = some z)
    (hsize : i.size = size) (hby : i.bytes = bytes) (hsz : 0 < size)
    (v : Value) (n : Nat) (xs : List Value) (hown : w.ownsRow base e size v n xs)
    (a : Addr) (m c : Nat) (news : List Value) (hl : news.length = m * size) (hnews : ∀ j u, news[j]? = some u → w.cell? (a.add j) = some u) (h1 : ∀ u ∈ news, u.oneCell' = true)
    (h63 : n + m ≤ maxLen) (hbytes : (n + m) * bytes ≤ 140737488355328) {v' : Value} {w' : World} (hrun : (Builtin.append_ #[t, t] ty #[v, .slice (some a) m c]).run P w = .ok v' w') :
    v'.ownBlock = v.ownBlock ∨ v'.ownBlock = some w.heap.size := by
  subst hsize
  subst hby
  have hsmall : n + m ≤ 9223372036854775807 := by simp only [maxLen] at h63; omega
  rcases hown.2 with ⟨rfl, rfl⟩ | ⟨g, cap, cur, rfl, hbg, hg, hnc, hcm, hcs, htake⟩
  · by_cases hm : m = 0
    · subst hm
      have hn : news = [] := List.eq_nil_of_length_eq_zero (by simpa using hl)
      subst hn
      have hr : (Builtin.append_ #[t, t] ty #[.slice none 0 0, .slice (some a) 0 c]).run P w = .ok (.slice none 0 0) w := by
        simp [Builtin.append_, run_underlying ht, sizeOf, typeInfo, hi, Builtin.lenOf, Builtin.firstCells, loadCells, loadCellsFrom]
      rw [hr] at hrun
      injection hrun with e1 e2
      subst e1
      exact .inl rfl
    · have hr := run_append_nil (P := P) w t ty e i z ht hi hz a m c news hl hnews (by omega) (by omega) (by have hb := hbytes; simp only [Nat.zero_add] at hb; omega)
      rw [hr] at hrun
      injection hrun with e1 e2
      subst e1
      exact .inr rfl
  · by_cases hroom : n + m ≤ cap
    · have hfit : n * i.size + news.length ≤ cur.size := by rw [hl, hcs, ← Nat.add_mul]; exact Nat.mul_le_mul_right _ hroom
      have hr := run_append_room (P := P) w t ty e i ht hi g n cap cur hg a m c news hl hnews h1 hroom hfit
      rw [hr] at hrun
      injection hrun with e1 e2
      subst e1
      exact .inl rfl
    · have holds : ∀ j u, xs[j]? = some u → w.cell? ((⟨g, 0, none⟩ : Addr).add j) = some u := hown.cells (g := g) rfl
      have hr := run_append_grow (P := P) w t ty e i z ht hi hz ⟨g, 0, none⟩ n cap xs hown.1 holds a m c news hl hnews (by omega) (by omega) (growslice_fits (by omega) hbytes)
      rw [hr] at hrun
      injection hrun with e1 e2
      subst e1
      exact .inr rfl

/-- A slice whose elements (one cell each) read as xs. -/
def Rd (w : World) (v : Value) (xs : List Value) : Prop :=
  ∃ a cap, v = .slice a xs.length cap ∧ (xs ≠ [] → ∃ g off, a = some ⟨g, off, none⟩ ∧ ∀ j u, xs[j]? = some u → w.cell? ⟨g, off + j, none⟩ = some u)

theorem Rd.keep {w w' : World} {S : Nat → Prop} {v : Value} {xs : List Value} (h : Rd w v xs) (k : Keep S w w') (hn : ∀ g, v.ownBlock = some g → ¬ S g) : Rd w' v xs := by
  obtain ⟨a, cap, rfl, hx⟩ := h
  refine ⟨a, cap, rfl, fun hne => ?_⟩
  obtain ⟨g, off, rfl, hc⟩ := hx hne
  refine ⟨g, off, rfl, fun j u hu => ?_⟩
  have h1 := hc j u hu
  exact (World.cell?_of_block (k.block g (World.block_lt_of_cell? _ _ h1) (hn g rfl))).trans h1

theorem Rd.nil (w : World) : Rd w (.slice none 0 0) [] := ⟨none, 0, rfl, fun h => (h rfl).elim⟩

/-- A byte as a value; a text of bytes that a slice reads as. -/
def bv (c : UInt8) : Value := .int .u8 c.toNat
def Bs (w : World) (v : Value) (l : List UInt8) : Prop := Rd w v (l.map bv)

/-- An owned row reads as what it holds. -/
theorem Rd.ofOwns {w : World} {base : Nat} {e : TypeId} {v : Value} {n : Nat} {xs : List Value} (h : w.ownsRow base e 1 v n xs) : Rd w v xs := by
  obtain ⟨hl, h2⟩ := h
  rcases h2 with ⟨rfl, rfl⟩ | ⟨g, cap, cur, rfl, _, hg, hn, hc, hcs, htake⟩
  · have hx : xs = [] := List.eq_nil_of_length_eq_zero (by simpa using hl)
    subst hx
    exact Rd.nil w
  · have hn' : n = xs.length := by omega
    subst hn'
    refine ⟨some ⟨g, 0, none⟩, cap, rfl, fun _ => ⟨g, 0, rfl, fun j u hu => ?_⟩⟩
    rw [Nat.zero_add, World.cell?, hg]
    rw [← htake, List.getElem?_take] at hu
    split at hu
    · simpa using hu
    · cases hu

/-- An append onto an owned row, as the walk meets it; what is more: where the new row lies. -/
theorem wpList_append_prov {P : Program} {w : World} {ops : Array Oper} {rest : List Oper} {o : Oper} {a : Act} {Q : Exit → Act → World → Prop} (hgd : o.guard = none) (s x : Operand) (t : TypeId)
    (ho : o.op = .call { callee := .builtin .append, args := #[s, x], argTypes := #[t, t] })
    (base : Nat) (e : TypeId) (i : TypeInfo) (z : Value) (size bytes : Nat) (ht : P.underlying t = some (.slice e)) (hi : P.info? e = some i) (hz : i.zero = some z)
    (hsize : i.size = size) (hby : i.bytes = bytes) (hzs : z.cells.size = size) (hsz : 0 < size)
    (v : Value) (n : Nat) (xs : List Value) (hs : a.eval s = v) (hown : w.ownsRow base e size v n xs)
    (ad : Addr) (m c : Nat) (news : List Value) (hx : a.eval x = .slice (some ad) m c) (hl : news.length = m * size) (hnews : ∀ j u, news[j]? = some u → w.cell? (ad.add j) = some u) (h1 : ∀ u ∈ news, u.oneCell' = true)
    (h63 : n + m ≤ maxLen) (hbytes : (n + m) * bytes ≤ 140737488355328) (hbase : base ≤ w.heap.size)
    (h : ∀ v' w', w'.ownsRow base e size v' (n + m) (xs ++ news) → w.grownBy w' v.ownBlock → (v'.ownBlock = v.ownBlock ∨ v'.ownBlock = some w.heap.size) → wpList P ops Q rest (a.put o.dst v') w') : wpList P ops Q (o :: rest) a w :=
  wpList_plain hgd fun K hK => by
    obtain ⟨v', w', hr, h2, h3, h4⟩ := run_append_own (P := P) w base t o.type e i z size bytes ht hi hz hsize hby hzs hsz v n xs hown ad m c news hl hnews h1 h63 hbytes hbase
    have h5 := append_where w base t o.type e i z size bytes ht hi hz hsize hby hsz v n xs hown ad m c news hl hnews h1 h63 hbytes hr
    unfold Oper.wp execOp
    simp only [ho, resolve, invoke, builtin, Sem.run_bind, Sem.run_pure, Result.andThen_ok, List.map_toArray, List.map_cons, List.map_nil, hs, hx, hr]
    exact hK _ _ (h v' w' h2 h3 h5)

theorem add_off (g off j : Nat) : (⟨g, off, none⟩ : Addr).add j = ⟨g, off + j, none⟩ := by
  unfold Addr.add
  split
  · next h => subst h; rfl
  · rfl

/-- The cells of a read slice, as an append asks for them. -/
theorem Rd.news {w : World} {v : Value} {xs : List Value} (h : Rd w v xs) {ad : Addr} {n c : Nat} (hv : v = .slice (some ad) n c) : n = xs.length ∧ ∀ j u, xs[j]? = some u → w.cell? (ad.add j) = some u := by
  obtain ⟨a, cap, rfl, hx⟩ := h
  injection hv with e1 e2 e3
  subst e1
  subst e2
  refine ⟨rfl, fun j u hu => ?_⟩
  have hne : xs ≠ [] := by
    intro e
    simp [e] at hu
  obtain ⟨g, off, e4, hc⟩ := hx hne
  injection e4 with e4
  subst e4
  rw [add_off]
  exact hc j u hu

theorem oneCell_bytes (l : List UInt8) : ∀ u ∈ l.map bv, u.oneCell' = true := by
  intro u hu
  obtain ⟨c, _, rfl⟩ := List.mem_map.1 hu
  rfl

theorem push_bytes (l : List UInt8) : (l.map fun c => (c.toNat : Int)).foldl (fun (r : ByteArray) n => r.push (UInt8.ofNat n.toNat)) ByteArray.empty = ⟨l.toArray⟩ := by
  rw [foldl_push_bytes]
  have e : (l.map fun c => (c.toNat : Int)).map (fun n => UInt8.ofNat n.toNat) = l := by
    rw [List.map_map]
    conv => rhs; rw [← List.map_id l]
    apply List.map_congr_left
    intro c _
    simp
  rw [e]
  simp [ByteArray.empty, ByteArray.emptyWithCapacity]
  rfl

/-- 'string(b)': the bytes. -/
theorem conv_bytes {P : Program} {w : World} {v : Value} {l : List UInt8} (h : Bs w v l) (src dst e : TypeId) (hs : P.underlying src = some (.slice e)) (he : P.underlying e = some (.int .u8)) (hd : P.underlying dst = some .string) :
    (convert src dst v).run P w = .ok (.string ⟨l.toArray⟩) w := by
  have h0 := h
  obtain ⟨a, cap, rfl, hx⟩ := h
  rw [List.length_map] at h0 ⊢
  cases a with
  | none =>
    have hl : l = [] := by
      cases l with
      | nil => rfl
      | cons c l =>
        obtain ⟨g, off, e, _⟩ := hx (by simp)
        cases e
    subst hl
    exact run_convert_bytes_nil w src e hs he _ _ dst hd
  | some a =>
    have hn := (Rd.news h0 rfl).2
    have hl : (loadCells a l.length).run P w = .ok ((l.map fun c => (c.toNat : Int)).map (Value.int .u8)).toArray w := by
      have := run_loadCells_list (P := P) w a (l.map bv) hn
      rw [List.length_map] at this
      rw [this, List.map_map]
      rfl
    rw [run_convert_bytes_string w src dst e _ l.length cap hs he hd, run_bytesToString w a l.length cap _ hl, push_bytes]

end Go.Proofs.YtcjjhgecmnfmdaaDoor
