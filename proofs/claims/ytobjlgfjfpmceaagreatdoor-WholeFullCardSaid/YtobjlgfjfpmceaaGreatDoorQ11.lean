/- DERIVED: THE SHELF's CONTRACTS AT THIS DUMP, IN PLAIN WORDS (tools/lay-plain.mjs out of 'TryzIterL.lean', which tools/lay-shelf.mjs wrote): THE SAME D -/
import Derived.Shelf.SlIter.Nil
import Derived.Shelf.SortM.Plain
import Derived.Shelf.SortM.SortNone
import Derived.Ground.GgzProg
import Derived.Ground.SlgmProg
import Derived.Test.YtobjlgfjfpmceaaGreatDoorProg
set_option linter.unusedVariables false
set_option maxRecDepth 100000
set_option maxHeartbeats 16000000
namespace Go.Proofs
open Go.RowKit Go.Maps Go.Sort Go.Shelf
def Tryz.keys114_ren : Go.Shelf.Ren := ⟨fun | 7 => 114 | 10 => 176 | n => n, fun | 23 => 68 | 26 => 9 | 3 => 53 | 28 => 196 | 0 => 0 | 27 => 195 | 33 => 198 | 4 => 4 | n => n, fun | n => n⟩
theorem Tryz.keys114 : Go.Proofs.SlLaysZ.n7 Tryz.prog Tryz.keys114_ren := {
  mixed := by kernel_rfl
  f7 := ⟨Tryz.f114.name, by decide, Tryz.func114.trans (congrArg some (by kernel_rfl))⟩
  f10 := ⟨Tryz.f176.name, by decide, Tryz.func176.trans (congrArg some (by kernel_rfl))⟩
  t0 := Tryz.underlying0
  a0 := Tryz.isAgg0
  z0 := Tryz.sizeOf0
  v0 := Tryz.zeroValue0
  t4 := Tryz.underlying4
  a4 := Tryz.isAgg4
  z4 := Tryz.sizeOf4
  v4 := Tryz.zeroValue4
  t23 := Tryz.underlying68
  a23 := Tryz.isAgg68
  z23 := Tryz.sizeOf68
  v23 := Tryz.zeroValue68
  t26 := Tryz.underlying9
  a26 := Tryz.isAgg9
  z26 := Tryz.sizeOf9
  v26 := Tryz.zeroValue9
  t27 := Tryz.underlying195
  a27 := Tryz.isAgg195
  z27 := Tryz.sizeOf195
  v27 := Tryz.zeroValue195
  t28 := Tryz.underlying196
  a28 := Tryz.isAgg196
  z28 := Tryz.sizeOf196
  v28 := Tryz.zeroValue196
  t33 := Tryz.underlying198
  a33 := Tryz.isAgg198
  z33 := Tryz.sizeOf198
  v33 := Tryz.zeroValue198 }
def Tryz.sorted113_ren : Go.Shelf.Ren := ⟨fun | 6 => 113 | 8 => 174 | 9 => 175 | 11 => 239 | 13 => 161 | 12 => 240 | 23 => 223 | 24 => 224 | 14 => 289 | 15 => 290 | 16 => 291 | 17 => 292 | 18 => 293 | 19 => 294 | 20 => 295 | 21 => 296 | 22 => 297 | 25 => 327 | 26 => 270 | 27 => 271 | 28 => 328 | 29 => 329 | 30 => 330 | 31 => 359 | n => n, fun | 26 => 9 | 28 => 196 | 24 => 128 | 0 => 0 | 3 => 3 | 37 => 105 | 48 => 300 | 50 => 141 | 4 => 4 | 40 => 293 | 39 => 292 | 45 => 297 | 5 => 5 | 9 => 9 | 51 => 352 | 55 => 355 | 57 => 391 | 58 => 392 | 33 => 198 | n => n, fun | n => n⟩
theorem Tryz.sorted113 : Go.Proofs.SlLaysZ.n6 Tryz.prog Tryz.sorted113_ren := {
  mixed := by kernel_rfl
  f6 := ⟨Tryz.f113.name, by decide, Tryz.func113.trans (congrArg some (by kernel_rfl))⟩
  f8 := ⟨Tryz.f174.name, by decide, Tryz.func174.trans (congrArg some (by kernel_rfl))⟩
  f11 := ⟨Tryz.f239.name, by decide, Tryz.func239.trans (congrArg some (by kernel_rfl))⟩
  t0 := Tryz.underlying0
  a0 := Tryz.isAgg0
  z0 := Tryz.sizeOf0
  v0 := Tryz.zeroValue0
  t24 := Tryz.underlying128
  a24 := Tryz.isAgg128
  z24 := Tryz.sizeOf128
  v24 := Tryz.zeroValue128
  t26 := Tryz.underlying9
  a26 := Tryz.isAgg9
  z26 := Tryz.sizeOf9
  v26 := Tryz.zeroValue9
  t28 := Tryz.underlying196
  a28 := Tryz.isAgg196
  z28 := Tryz.sizeOf196
  v28 := Tryz.zeroValue196
  i26 := by kernel_rfl }
def Tryz.sort175_ren : Go.Shelf.Ren := ⟨fun | 6 => 175 | 8 => 161 | 9 => 240 | 19 => 223 | 20 => 224 | 21 => 289 | 22 => 290 | 23 => 291 | 24 => 292 | 25 => 293 | 26 => 294 | 27 => 295 | 28 => 296 | 29 => 297 | 36 => 327 | 31 => 270 | 32 => 271 | 37 => 328 | 38 => 329 | 39 => 330 | 41 => 359 | n => n, fun | 27 => 128 | 29 => 9 | 3 => 3 | 32 => 105 | 26 => 128 | 0 => 0 | 44 => 300 | 46 => 141 | 4 => 4 | 36 => 293 | 35 => 292 | 41 => 297 | 5 => 5 | 9 => 9 | 53 => 352 | 57 => 355 | 63 => 391 | 64 => 392 | n => n, fun | n => n⟩
theorem Tryz.sort175 : Go.Proofs.SlLaysM.n6 Tryz.prog Tryz.sort175_ren := {
  mixed := by kernel_rfl
  f6 := ⟨Tryz.f175.name, by decide, Tryz.func175.trans (congrArg some (by kernel_rfl))⟩
  f8 := Tryz.func161.trans (congrArg some (by kernel_rfl))
  f9 := ⟨Tryz.f240.name, by decide, Tryz.func240.trans (congrArg some (by kernel_rfl))⟩
  f19 := Tryz.func223.trans (congrArg some (by kernel_rfl))
  f20 := Tryz.func224.trans (congrArg some (by kernel_rfl))
  f21 := ⟨Tryz.f289.name, by decide, Tryz.func289.trans (congrArg some (by kernel_rfl))⟩
  f22 := ⟨Tryz.f290.name, by decide, Tryz.func290.trans (congrArg some (by kernel_rfl))⟩
  f23 := ⟨Tryz.f291.name, by decide, Tryz.func291.trans (congrArg some (by kernel_rfl))⟩
  f24 := ⟨Tryz.f292.name, by decide, Tryz.func292.trans (congrArg some (by kernel_rfl))⟩
  f25 := ⟨Tryz.f293.name, by decide, Tryz.func293.trans (congrArg some (by kernel_rfl))⟩
  f26 := ⟨Tryz.f294.name, by decide, Tryz.func294.trans (congrArg some (by kernel_rfl))⟩
  f27 := ⟨Tryz.f295.name, by decide, Tryz.func295.trans (congrArg some (by kernel_rfl))⟩
  f28 := ⟨Tryz.f296.name, by decide, Tryz.func296.trans (congrArg some (by kernel_rfl))⟩
  f29 := ⟨Tryz.f297.name, by decide, Tryz.func297.trans (congrArg some (by kernel_rfl))⟩
  f31 := Tryz.func270.trans (congrArg some (by kernel_rfl))
  f32 := Tryz.func271.trans (congrArg some (by kernel_rfl))
  f36 := ⟨Tryz.f327.name, by decide, Tryz.func327.trans (congrArg some (by kernel_rfl))⟩
  f37 := ⟨Tryz.f328.name, by decide, Tryz.func328.trans (congrArg some (by kernel_rfl))⟩
  f38 := ⟨Tryz.f329.name, by decide, Tryz.func329.trans (congrArg some (by kernel_rfl))⟩
  f39 := ⟨Tryz.f330.name, by decide, Tryz.func330.trans (congrArg some (by kernel_rfl))⟩
  f41 := ⟨Tryz.f359.name, by decide, Tryz.func359.trans (congrArg some (by kernel_rfl))⟩
  t0 := Tryz.underlying0
  a0 := Tryz.isAgg0
  z0 := Tryz.sizeOf0
  v0 := Tryz.zeroValue0
  t3 := Tryz.underlying3
  a3 := Tryz.isAgg3
  z3 := Tryz.sizeOf3
  v3 := Tryz.zeroValue3
  t4 := Tryz.underlying4
  a4 := Tryz.isAgg4
  z4 := Tryz.sizeOf4
  v4 := Tryz.zeroValue4
  t5 := Tryz.underlying5
  a5 := Tryz.isAgg5
  z5 := Tryz.sizeOf5
  v5 := Tryz.zeroValue5
  t9 := Tryz.underlying9
  a9 := Tryz.isAgg9
  z9 := Tryz.sizeOf9
  v9 := Tryz.zeroValue9
  t26 := Tryz.underlying128
  a26 := Tryz.isAgg128
  z26 := Tryz.sizeOf128
  v26 := Tryz.zeroValue128
  t27 := Tryz.underlying128
  a27 := Tryz.isAgg128
  z27 := Tryz.sizeOf128
  v27 := Tryz.zeroValue128
  t29 := Tryz.underlying9
  a29 := Tryz.isAgg9
  z29 := Tryz.sizeOf9
  v29 := Tryz.zeroValue9
  t32 := Tryz.underlying105
  a32 := Tryz.isAgg105
  z32 := Tryz.sizeOf105
  v32 := Tryz.zeroValue105
  t35 := Tryz.underlying292
  a35 := Tryz.isAgg292
  z35 := Tryz.sizeOf292
  v35 := Tryz.zeroValue292
  t36 := Tryz.underlying293
  a36 := Tryz.isAgg293
  z36 := Tryz.sizeOf293
  v36 := Tryz.zeroValue293
  t41 := Tryz.underlying297
  a41 := Tryz.isAgg297
  z41 := Tryz.sizeOf297
  v41 := Tryz.zeroValue297
  t44 := Tryz.underlying300
  a44 := Tryz.isAgg300
  z44 := Tryz.sizeOf300
  v44 := Tryz.zeroValue300
  t46 := Tryz.underlying141
  a46 := Tryz.isAgg141
  z46 := Tryz.sizeOf141
  v46 := Tryz.zeroValue141
  t53 := Tryz.underlying352
  a53 := Tryz.isAgg352
  z53 := Tryz.sizeOf352
  v53 := Tryz.zeroValue352
  t57 := Tryz.underlying355
  a57 := Tryz.isAgg355
  z57 := Tryz.sizeOf355
  v57 := Tryz.zeroValue355
  t63 := Tryz.underlying391
  a63 := Tryz.isAgg391
  z63 := Tryz.sizeOf391
  v63 := Tryz.zeroValue391
  t64 := Tryz.underlying392
  a64 := Tryz.isAgg392
  z64 := Tryz.sizeOf392
  v64 := Tryz.zeroValue392 }
theorem Tryz.sorts113 (m : Nat) : AnyZ.SortsIn Tryz.prog Tryz.sorted113_ren Fence.wide m :=
  ⟨fun blk off cap ss W hH hblk hsz => callsIn_wide.2 (AnyM.slices_Sort_string Tryz.sort175 blk off cap ss W hH hblk hsz),
   fun p cap W => callsIn_wide.2 (AnyM.slices_Sort_string_none Tryz.sort175 p cap W)⟩
theorem Tryz.maps_Keys_114 (mb : Option Nat) (W : World) : CallsIn Fence.wide 5 Tryz.prog 114 #[.map mb] W fun e w' => e = .returned (.func (.func 176) #[] #[.pointer (some ⟨W.heap.size, 0, none⟩)]) ∧ w' = W.alloc (.cells #[.map mb] 68) :=
  AnyZ.keys_in Tryz.keys114 Fence.wide 5 trivial rfl mb W
theorem Tryz.slices_Sorted_keys_113_114 {H : Type} (b nn : Nat) (D0 : DataW H) (R : Value → Option (DataW H × List MemPlace)) (w : World) (hown : w.ownsMap Tryz.prog 9 R b nn D0) (hmax : Maps.size D0 ≤ maxLen) (hbytes : Maps.size D0 * 16 ≤ 140737488355328) :
    CallsIn Fence.wide 5 Tryz.prog 113 #[.func (.func 176) #[] #[.pointer (some ⟨w.heap.size, 0, none⟩)]] (w.alloc (.cells #[.map (some b)] 68)) fun e w' => ∃ (v : Value) (ss : List (List UInt8)), e = .returned v ∧ ss.Perm (strKeys D0) ∧
      w'.ownsRow (w.alloc (.cells #[.map (some b)] 68)).heap.size 9 1 v ss.length ((ss.mergeSort (fun x y => decide (x ≤ y))).map encStr) ∧ (v = .slice none 0 0 ↔ ss = []) ∧ Below (w.alloc (.cells #[.map (some b)] 68)).heap.size (w.alloc (.cells #[.map (some b)] 68)) w' := by
  have hbl := hown.lt
  have hseq : SeqGives Fence.wide 2 Tryz.prog 176 #[.pointer (some ⟨w.heap.size, 0, none⟩)] encStr (fun ss => ss.Perm (strKeys D0)) (Maps.size D0) (w.alloc (.cells #[.map (some b)] 68)) :=
    AnyZ.keys_gives (ρ := Tryz.keys114_ren) { Tryz.keys114 with } Fence.wide _ trivial rfl (by omega) w.heap.size b nn D0 _ (by simp) (by simp) (by
      obtain ⟨es, clock, hb, Ft, hs, hD⟩ := hown
      exact ⟨es, clock, (Below.heap_alloc _ _ b hbl).trans hb, Ft, hs, hD⟩)
  exact AnyZ.sorted_in Tryz.sorted113 Fence.wide 5 trivial trivial trivial trivial rfl (by omega) (Tryz.sorts113 _) (enters_of Tryz.func175 (by kernel_rfl) rfl) 176 #[.pointer (some ⟨w.heap.size, 0, none⟩)] trivial (enters_of Tryz.func176 (by kernel_rfl) rfl) _ _ hmax hbytes _ hseq
end Go.Proofs
