/- DERIVED: THE SHELF's CONTRACTS AT THIS DUMP, IN PLAIN WORDS (tools/lay-plain.mjs out of 'TryzIterL.lean', which tools/lay-shelf.mjs wrote): THE SAME D -/
import Derived.Shelf.SlIter.Nil
import Derived.Shelf.SortM.Plain
import Derived.Shelf.SortM.SortNone
import Derived.Ground.GgzProg
import Derived.Ground.SlgmProg
import Derived.Test.YtdmckfkhkjkdnaaGreatDoorProg
set_option linter.unusedVariables false
set_option maxRecDepth 100000
set_option maxHeartbeats 16000000
namespace Go.Proofs
open Go.RowKit Go.Maps Go.Sort Go.Shelf
def Tryz.keys167_ren : Go.Shelf.Ren := ⟨fun | 7 => 167 | 10 => 250 | n => n, fun | 23 => 118 | 26 => 9 | 3 => 48 | 28 => 271 | 0 => 0 | 27 => 270 | 33 => 273 | 4 => 4 | n => n, fun | n => n⟩
theorem Tryz.keys167 : Go.Proofs.SlLaysZ.n7 Tryz.prog Tryz.keys167_ren := {
  mixed := by kernel_rfl
  f7 := ⟨Tryz.f167.name, by decide, Tryz.func167.trans (congrArg some (by kernel_rfl))⟩
  f10 := ⟨Tryz.f250.name, by decide, Tryz.func250.trans (congrArg some (by kernel_rfl))⟩
  t0 := Tryz.underlying0
  a0 := Tryz.isAgg0
  z0 := Tryz.sizeOf0
  v0 := Tryz.zeroValue0
  t4 := Tryz.underlying4
  a4 := Tryz.isAgg4
  z4 := Tryz.sizeOf4
  v4 := Tryz.zeroValue4
  t23 := Tryz.underlying118
  a23 := Tryz.isAgg118
  z23 := Tryz.sizeOf118
  v23 := Tryz.zeroValue118
  t26 := Tryz.underlying9
  a26 := Tryz.isAgg9
  z26 := Tryz.sizeOf9
  v26 := Tryz.zeroValue9
  t27 := Tryz.underlying270
  a27 := Tryz.isAgg270
  z27 := Tryz.sizeOf270
  v27 := Tryz.zeroValue270
  t28 := Tryz.underlying271
  a28 := Tryz.isAgg271
  z28 := Tryz.sizeOf271
  v28 := Tryz.zeroValue271
  t33 := Tryz.underlying273
  a33 := Tryz.isAgg273
  z33 := Tryz.sizeOf273
  v33 := Tryz.zeroValue273 }
def Tryz.sorted166_ren : Go.Shelf.Ren := ⟨fun | 6 => 166 | 8 => 248 | 9 => 249 | 11 => 296 | 13 => 156 | 12 => 297 | 23 => 234 | 24 => 235 | 14 => 327 | 15 => 328 | 16 => 329 | 17 => 330 | 18 => 331 | 19 => 332 | 20 => 333 | 21 => 334 | 22 => 335 | 25 => 356 | 26 => 278 | 27 => 279 | 28 => 357 | 29 => 358 | 30 => 359 | 31 => 376 | n => n, fun | 26 => 9 | 28 => 271 | 24 => 204 | 0 => 0 | 3 => 3 | 37 => 37 | 48 => 316 | 50 => 217 | 4 => 4 | 40 => 327 | 39 => 326 | 45 => 331 | 5 => 5 | 9 => 9 | 51 => 382 | 55 => 385 | 57 => 418 | 58 => 419 | 33 => 273 | n => n, fun | n => n⟩
theorem Tryz.sorted166 : Go.Proofs.SlLaysZ.n6 Tryz.prog Tryz.sorted166_ren := {
  mixed := by kernel_rfl
  f6 := ⟨Tryz.f166.name, by decide, Tryz.func166.trans (congrArg some (by kernel_rfl))⟩
  f8 := ⟨Tryz.f248.name, by decide, Tryz.func248.trans (congrArg some (by kernel_rfl))⟩
  f11 := ⟨Tryz.f296.name, by decide, Tryz.func296.trans (congrArg some (by kernel_rfl))⟩
  t0 := Tryz.underlying0
  a0 := Tryz.isAgg0
  z0 := Tryz.sizeOf0
  v0 := Tryz.zeroValue0
  t24 := Tryz.underlying204
  a24 := Tryz.isAgg204
  z24 := Tryz.sizeOf204
  v24 := Tryz.zeroValue204
  t26 := Tryz.underlying9
  a26 := Tryz.isAgg9
  z26 := Tryz.sizeOf9
  v26 := Tryz.zeroValue9
  t28 := Tryz.underlying271
  a28 := Tryz.isAgg271
  z28 := Tryz.sizeOf271
  v28 := Tryz.zeroValue271
  i26 := by kernel_rfl }
def Tryz.sort249_ren : Go.Shelf.Ren := ⟨fun | 6 => 249 | 8 => 156 | 9 => 297 | 19 => 234 | 20 => 235 | 21 => 327 | 22 => 328 | 23 => 329 | 24 => 330 | 25 => 331 | 26 => 332 | 27 => 333 | 28 => 334 | 29 => 335 | 36 => 356 | 31 => 278 | 32 => 279 | 37 => 357 | 38 => 358 | 39 => 359 | 41 => 376 | n => n, fun | 27 => 204 | 29 => 9 | 3 => 3 | 32 => 37 | 26 => 204 | 0 => 0 | 44 => 316 | 46 => 217 | 4 => 4 | 36 => 327 | 35 => 326 | 41 => 331 | 5 => 5 | 9 => 9 | 53 => 382 | 57 => 385 | 63 => 418 | 64 => 419 | n => n, fun | n => n⟩
theorem Tryz.sort249 : Go.Proofs.SlLaysM.n6 Tryz.prog Tryz.sort249_ren := {
  mixed := by kernel_rfl
  f6 := ⟨Tryz.f249.name, by decide, Tryz.func249.trans (congrArg some (by kernel_rfl))⟩
  f8 := Tryz.func156.trans (congrArg some (by kernel_rfl))
  f9 := ⟨Tryz.f297.name, by decide, Tryz.func297.trans (congrArg some (by kernel_rfl))⟩
  f19 := Tryz.func234.trans (congrArg some (by kernel_rfl))
  f20 := Tryz.func235.trans (congrArg some (by kernel_rfl))
  f21 := ⟨Tryz.f327.name, by decide, Tryz.func327.trans (congrArg some (by kernel_rfl))⟩
  f22 := ⟨Tryz.f328.name, by decide, Tryz.func328.trans (congrArg some (by kernel_rfl))⟩
  f23 := ⟨Tryz.f329.name, by decide, Tryz.func329.trans (congrArg some (by kernel_rfl))⟩
  f24 := ⟨Tryz.f330.name, by decide, Tryz.func330.trans (congrArg some (by kernel_rfl))⟩
  f25 := ⟨Tryz.f331.name, by decide, Tryz.func331.trans (congrArg some (by kernel_rfl))⟩
  f26 := ⟨Tryz.f332.name, by decide, Tryz.func332.trans (congrArg some (by kernel_rfl))⟩
  f27 := ⟨Tryz.f333.name, by decide, Tryz.func333.trans (congrArg some (by kernel_rfl))⟩
  f28 := ⟨Tryz.f334.name, by decide, Tryz.func334.trans (congrArg some (by kernel_rfl))⟩
  f29 := ⟨Tryz.f335.name, by decide, Tryz.func335.trans (congrArg some (by kernel_rfl))⟩
  f31 := Tryz.func278.trans (congrArg some (by kernel_rfl))
  f32 := Tryz.func279.trans (congrArg some (by kernel_rfl))
  f36 := ⟨Tryz.f356.name, by decide, Tryz.func356.trans (congrArg some (by kernel_rfl))⟩
  f37 := ⟨Tryz.f357.name, by decide, Tryz.func357.trans (congrArg some (by kernel_rfl))⟩
  f38 := ⟨Tryz.f358.name, by decide, Tryz.func358.trans (congrArg some (by kernel_rfl))⟩
  f39 := ⟨Tryz.f359.name, by decide, Tryz.func359.trans (congrArg some (by kernel_rfl))⟩
  f41 := ⟨Tryz.f376.name, by decide, Tryz.func376.trans (congrArg some (by kernel_rfl))⟩
  t0 := Tryz.underlying0
  a0 := Tryz.isAgg0
  z0 := Tryz.sizeOf0
  v0 := Tryz.zeroValue0
  t3 := Tryz.underlying3
  a3 := Tryz.isAgg3
  z3 := Tryz.sizeOf3
  v3 := Tryz.zeroValue3
  t4 := Tryz.underlying4
  a4 := Tryz.isAgg4
  z4 := Tryz.sizeOf4
  v4 := Tryz.zeroValue4
  t5 := Tryz.underlying5
  a5 := Tryz.isAgg5
  z5 := Tryz.sizeOf5
  v5 := Tryz.zeroValue5
  t9 := Tryz.underlying9
  a9 := Tryz.isAgg9
  z9 := Tryz.sizeOf9
  v9 := Tryz.zeroValue9
  t26 := Tryz.underlying204
  a26 := Tryz.isAgg204
  z26 := Tryz.sizeOf204
  v26 := Tryz.zeroValue204
  t27 := Tryz.underlying204
  a27 := Tryz.isAgg204
  z27 := Tryz.sizeOf204
  v27 := Tryz.zeroValue204
  t29 := Tryz.underlying9
  a29 := Tryz.isAgg9
  z29 := Tryz.sizeOf9
  v29 := Tryz.zeroValue9
  t32 := Tryz.underlying37
  a32 := Tryz.isAgg37
  z32 := Tryz.sizeOf37
  v32 := Tryz.zeroValue37
  t35 := Tryz.underlying326
  a35 := Tryz.isAgg326
  z35 := Tryz.sizeOf326
  v35 := Tryz.zeroValue326
  t36 := Tryz.underlying327
  a36 := Tryz.isAgg327
  z36 := Tryz.sizeOf327
  v36 := Tryz.zeroValue327
  t41 := Tryz.underlying331
  a41 := Tryz.isAgg331
  z41 := Tryz.sizeOf331
  v41 := Tryz.zeroValue331
  t44 := Tryz.underlying316
  a44 := Tryz.isAgg316
  z44 := Tryz.sizeOf316
  v44 := Tryz.zeroValue316
  t46 := Tryz.underlying217
  a46 := Tryz.isAgg217
  z46 := Tryz.sizeOf217
  v46 := Tryz.zeroValue217
  t53 := Tryz.underlying382
  a53 := Tryz.isAgg382
  z53 := Tryz.sizeOf382
  v53 := Tryz.zeroValue382
  t57 := Tryz.underlying385
  a57 := Tryz.isAgg385
  z57 := Tryz.sizeOf385
  v57 := Tryz.zeroValue385
  t63 := Tryz.underlying418
  a63 := Tryz.isAgg418
  z63 := Tryz.sizeOf418
  v63 := Tryz.zeroValue418
  t64 := Tryz.underlying419
  a64 := Tryz.isAgg419
  z64 := Tryz.sizeOf419
  v64 := Tryz.zeroValue419 }
theorem Tryz.sorts166 (m : Nat) : AnyZ.SortsIn Tryz.prog Tryz.sorted166_ren Fence.wide m :=
  ⟨fun blk off cap ss W hH hblk hsz => callsIn_wide.2 (AnyM.slices_Sort_string Tryz.sort249 blk off cap ss W hH hblk hsz),
   fun p cap W => callsIn_wide.2 (AnyM.slices_Sort_string_none Tryz.sort249 p cap W)⟩
theorem Tryz.maps_Keys_167 (mb : Option Nat) (W : World) : CallsIn Fence.wide 5 Tryz.prog 167 #[.map mb] W fun e w' => e = .returned (.func (.func 250) #[] #[.pointer (some ⟨W.heap.size, 0, none⟩)]) ∧ w' = W.alloc (.cells #[.map mb] 118) :=
  AnyZ.keys_in Tryz.keys167 Fence.wide 5 trivial rfl mb W
theorem Tryz.slices_Sorted_keys_166_167 {H : Type} (b nn : Nat) (D0 : DataW H) (R : Value → Option (DataW H × List MemPlace)) (w : World) (hown : w.ownsMap Tryz.prog 9 R b nn D0) (hmax : Maps.size D0 ≤ maxLen) (hbytes : Maps.size D0 * 16 ≤ 140737488355328) :
    CallsIn Fence.wide 5 Tryz.prog 166 #[.func (.func 250) #[] #[.pointer (some ⟨w.heap.size, 0, none⟩)]] (w.alloc (.cells #[.map (some b)] 118)) fun e w' => ∃ (v : Value) (ss : List (List UInt8)), e = .returned v ∧ ss.Perm (strKeys D0) ∧
      w'.ownsRow (w.alloc (.cells #[.map (some b)] 118)).heap.size 9 1 v ss.length ((ss.mergeSort (fun x y => decide (x ≤ y))).map encStr) ∧ (v = .slice none 0 0 ↔ ss = []) ∧ Below (w.alloc (.cells #[.map (some b)] 118)).heap.size (w.alloc (.cells #[.map (some b)] 118)) w' := by
  have hbl := hown.lt
  have hseq : SeqGives Fence.wide 2 Tryz.prog 250 #[.pointer (some ⟨w.heap.size, 0, none⟩)] encStr (fun ss => ss.Perm (strKeys D0)) (Maps.size D0) (w.alloc (.cells #[.map (some b)] 118)) :=
    AnyZ.keys_gives (ρ := Tryz.keys167_ren) { Tryz.keys167 with } Fence.wide _ trivial rfl (by omega) w.heap.size b nn D0 _ (by simp) (by simp) (by
      obtain ⟨es, clock, hb, Ft, hs, hD⟩ := hown
      exact ⟨es, clock, (Below.heap_alloc _ _ b hbl).trans hb, Ft, hs, hD⟩)
  exact AnyZ.sorted_in Tryz.sorted166 Fence.wide 5 trivial trivial trivial trivial rfl (by omega) (Tryz.sorts166 _) (enters_of Tryz.func249 (by kernel_rfl) rfl) 250 #[.pointer (some ⟨w.heap.size, 0, none⟩)] trivial (enters_of Tryz.func250 (by kernel_rfl) rfl) _ _ hmax hbytes _ hseq
end Go.Proofs
