/-
  The contracts of maps.Keys and slices.Sorted at this program, at keys that are ints: the keys of a map in order.
-/
import Derived.Shelf.SlIterI.Nil
import Derived.Shelf.SortM.Plain
import Derived.Shelf.SortM.SortNone
import Derived.Ground.GgzProg
import Derived.Ground.SlgmProg
import Derived.Test.YtgddgipjpdjoaaaGreatDoorProg
namespace Go.Proofs
open Go.Shelf
def Tryz.keysI133_ren : Go.Shelf.Ren := ⟨fun | 7 => 133 | 10 => 211 | n => n, fun | 23 => 249 | 26 => 3 | 3 => 250 | 28 => 247 | 0 => 0 | 27 => 246 | 33 => 180 | 4 => 4 | n => n, fun | n => n⟩
theorem Tryz.keysI133 : Go.Proofs.SlLaysZI.n7 Tryz.prog Tryz.keysI133_ren := {
 mixed := by kernel_rfl
 f7 := ⟨Tryz.f133.name, by decide, Tryz.func133.trans (congrArg some (by kernel_rfl))⟩
 f10 := ⟨Tryz.f211.name, by decide, Tryz.func211.trans (congrArg some (by kernel_rfl))⟩
 t0 := Tryz.underlying0
 a0 := Tryz.isAgg0
 z0 := Tryz.sizeOf0
 v0 := Tryz.zeroValue0
 t4 := Tryz.underlying4
 a4 := Tryz.isAgg4
 z4 := Tryz.sizeOf4
 v4 := Tryz.zeroValue4
 t23 := Tryz.underlying249
 a23 := Tryz.isAgg249
 z23 := Tryz.sizeOf249
 v23 := Tryz.zeroValue249
 t26 := Tryz.underlying3
 a26 := Tryz.isAgg3
 z26 := Tryz.sizeOf3
 v26 := Tryz.zeroValue3
 t27 := Tryz.underlying246
 a27 := Tryz.isAgg246
 z27 := Tryz.sizeOf246
 v27 := Tryz.zeroValue246
 t28 := Tryz.underlying247
 a28 := Tryz.isAgg247
 z28 := Tryz.sizeOf247
 v28 := Tryz.zeroValue247
 t33 := Tryz.underlying180
 a33 := Tryz.isAgg180
 z33 := Tryz.sizeOf180
 v33 := Tryz.zeroValue180 }
def Tryz.keysI134_ren : Go.Shelf.Ren := ⟨fun | 7 => 134 | 10 => 212 | n => n, fun | 23 => 254 | 26 => 3 | 3 => 255 | 28 => 247 | 0 => 0 | 27 => 246 | 33 => 180 | 4 => 4 | n => n, fun | n => n⟩
theorem Tryz.keysI134 : Go.Proofs.SlLaysZI.n7 Tryz.prog Tryz.keysI134_ren := {
 mixed := by kernel_rfl
 f7 := ⟨Tryz.f134.name, by decide, Tryz.func134.trans (congrArg some (by kernel_rfl))⟩
 f10 := ⟨Tryz.f212.name, by decide, Tryz.func212.trans (congrArg some (by kernel_rfl))⟩
 t0 := Tryz.underlying0
 a0 := Tryz.isAgg0
 z0 := Tryz.sizeOf0
 v0 := Tryz.zeroValue0
 t4 := Tryz.underlying4
 a4 := Tryz.isAgg4
 z4 := Tryz.sizeOf4
 v4 := Tryz.zeroValue4
 t23 := Tryz.underlying254
 a23 := Tryz.isAgg254
 z23 := Tryz.sizeOf254
 v23 := Tryz.zeroValue254
 t26 := Tryz.underlying3
 a26 := Tryz.isAgg3
 z26 := Tryz.sizeOf3
 v26 := Tryz.zeroValue3
 t27 := Tryz.underlying246
 a27 := Tryz.isAgg246
 z27 := Tryz.sizeOf246
 v27 := Tryz.zeroValue246
 t28 := Tryz.underlying247
 a28 := Tryz.isAgg247
 z28 := Tryz.sizeOf247
 v28 := Tryz.zeroValue247
 t33 := Tryz.underlying180
 a33 := Tryz.isAgg180
 z33 := Tryz.sizeOf180
 v33 := Tryz.zeroValue180 }
def Tryz.sortedI132_ren : Go.Shelf.Ren := ⟨fun | 6 => 132 | 8 => 210 | 9 => 62 | 11 => 254 | 13 => 126 | 12 => 125 | 23 => 203 | 24 => 204 | 14 => 194 | 15 => 195 | 16 => 196 | 17 => 197 | 18 => 198 | 19 => 199 | 20 => 200 | 21 => 201 | 22 => 202 | 25 => 245 | 26 => 246 | 27 => 247 | 28 => 248 | 29 => 249 | 30 => 250 | 31 => 276 | n => n, fun | 26 => 3 | 28 => 247 | 24 => 44 | 0 => 0 | 3 => 3 | 37 => 233 | 48 => 217 | 50 => 324 | 4 => 4 | 40 => 317 | 39 => 316 | 45 => 107 | 5 => 5 | 9 => 9 | 51 => 350 | 55 => 354 | 57 => 375 | 58 => 200 | 33 => 180 | n => n, fun | n => n⟩
theorem Tryz.sortedI132 : Go.Proofs.SlLaysZI.n6 Tryz.prog Tryz.sortedI132_ren := {
 mixed := by kernel_rfl
 f6 := ⟨Tryz.f132.name, by decide, Tryz.func132.trans (congrArg some (by kernel_rfl))⟩
 f8 := ⟨Tryz.f210.name, by decide, Tryz.func210.trans (congrArg some (by kernel_rfl))⟩
 f11 := ⟨Tryz.f254.name, by decide, Tryz.func254.trans (congrArg some (by kernel_rfl))⟩
 t0 := Tryz.underlying0
 a0 := Tryz.isAgg0
 z0 := Tryz.sizeOf0
 v0 := Tryz.zeroValue0
 t24 := Tryz.underlying44
 a24 := Tryz.isAgg44
 z24 := Tryz.sizeOf44
 v24 := Tryz.zeroValue44
 t26 := Tryz.underlying3
 a26 := Tryz.isAgg3
 z26 := Tryz.sizeOf3
 v26 := Tryz.zeroValue3
 t28 := Tryz.underlying247
 a28 := Tryz.isAgg247
 z28 := Tryz.sizeOf247
 v28 := Tryz.zeroValue247
 i26 := by kernel_rfl }
def Tryz.sortI62_ren : Go.Shelf.Ren := ⟨fun | 5 => 62 | 8 => 126 | 7 => 125 | 19 => 203 | 20 => 204 | 10 => 194 | 11 => 195 | 12 => 196 | 13 => 197 | 14 => 198 | 15 => 199 | 16 => 200 | 17 => 201 | 18 => 202 | 30 => 245 | 31 => 246 | 32 => 247 | 33 => 248 | 34 => 249 | 35 => 250 | 40 => 276 | n => n, fun | 23 => 44 | 25 => 3 | 3 => 3 | 32 => 233 | 22 => 44 | 0 => 0 | 44 => 217 | 46 => 324 | 4 => 4 | 36 => 317 | 35 => 316 | 41 => 107 | 5 => 5 | 9 => 9 | 53 => 350 | 57 => 354 | 63 => 375 | 64 => 200 | n => n, fun | n => n⟩
theorem Tryz.sortI62 : Go.Proofs.SlLaysM.n5 Tryz.prog Tryz.sortI62_ren := {
 mixed := by kernel_rfl
 f5 := ⟨Tryz.f62.name, by decide, Tryz.func62.trans (congrArg some (by kernel_rfl))⟩
 f7 := ⟨Tryz.f125.name, by decide, Tryz.func125.trans (congrArg some (by kernel_rfl))⟩
 f8 := Tryz.func126.trans (congrArg some (by kernel_rfl))
 f10 := ⟨Tryz.f194.name, by decide, Tryz.func194.trans (congrArg some (by kernel_rfl))⟩
 f11 := ⟨Tryz.f195.name, by decide, Tryz.func195.trans (congrArg some (by kernel_rfl))⟩
 f12 := ⟨Tryz.f196.name, by decide, Tryz.func196.trans (congrArg some (by kernel_rfl))⟩
 f13 := ⟨Tryz.f197.name, by decide, Tryz.func197.trans (congrArg some (by kernel_rfl))⟩
 f14 := ⟨Tryz.f198.name, by decide, Tryz.func198.trans (congrArg some (by kernel_rfl))⟩
 f15 := ⟨Tryz.f199.name, by decide, Tryz.func199.trans (congrArg some (by kernel_rfl))⟩
 f16 := ⟨Tryz.f200.name, by decide, Tryz.func200.trans (congrArg some (by kernel_rfl))⟩
 f17 := ⟨Tryz.f201.name, by decide, Tryz.func201.trans (congrArg some (by kernel_rfl))⟩
 f18 := ⟨Tryz.f202.name, by decide, Tryz.func202.trans (congrArg some (by kernel_rfl))⟩
 f19 := Tryz.func203.trans (congrArg some (by kernel_rfl))
 f20 := Tryz.func204.trans (congrArg some (by kernel_rfl))
 f30 := ⟨Tryz.f245.name, by decide, Tryz.func245.trans (congrArg some (by kernel_rfl))⟩
 f31 := Tryz.func246.trans (congrArg some (by kernel_rfl))
 f32 := Tryz.func247.trans (congrArg some (by kernel_rfl))
 f33 := ⟨Tryz.f248.name, by decide, Tryz.func248.trans (congrArg some (by kernel_rfl))⟩
 f34 := ⟨Tryz.f249.name, by decide, Tryz.func249.trans (congrArg some (by kernel_rfl))⟩
 f35 := ⟨Tryz.f250.name, by decide, Tryz.func250.trans (congrArg some (by kernel_rfl))⟩
 f40 := ⟨Tryz.f276.name, by decide, Tryz.func276.trans (congrArg some (by kernel_rfl))⟩
 t0 := Tryz.underlying0
 a0 := Tryz.isAgg0
 z0 := Tryz.sizeOf0
 v0 := Tryz.zeroValue0
 t3 := Tryz.underlying3
 a3 := Tryz.isAgg3
 z3 := Tryz.sizeOf3
 v3 := Tryz.zeroValue3
 t4 := Tryz.underlying4
 a4 := Tryz.isAgg4
 z4 := Tryz.sizeOf4
 v4 := Tryz.zeroValue4
 t5 := Tryz.underlying5
 a5 := Tryz.isAgg5
 z5 := Tryz.sizeOf5
 v5 := Tryz.zeroValue5
 t9 := Tryz.underlying9
 a9 := Tryz.isAgg9
 z9 := Tryz.sizeOf9
 v9 := Tryz.zeroValue9
 t22 := Tryz.underlying44
 a22 := Tryz.isAgg44
 z22 := Tryz.sizeOf44
 v22 := Tryz.zeroValue44
 t23 := Tryz.underlying44
 a23 := Tryz.isAgg44
 z23 := Tryz.sizeOf44
 v23 := Tryz.zeroValue44
 t25 := Tryz.underlying3
 a25 := Tryz.isAgg3
 z25 := Tryz.sizeOf3
 v25 := Tryz.zeroValue3
 t32 := Tryz.underlying233
 a32 := Tryz.isAgg233
 z32 := Tryz.sizeOf233
 v32 := Tryz.zeroValue233
 t35 := Tryz.underlying316
 a35 := Tryz.isAgg316
 z35 := Tryz.sizeOf316
 v35 := Tryz.zeroValue316
 t36 := Tryz.underlying317
 a36 := Tryz.isAgg317
 z36 := Tryz.sizeOf317
 v36 := Tryz.zeroValue317
 t41 := Tryz.underlying107
 a41 := Tryz.isAgg107
 z41 := Tryz.sizeOf107
 v41 := Tryz.zeroValue107
 t44 := Tryz.underlying217
 a44 := Tryz.isAgg217
 z44 := Tryz.sizeOf217
 v44 := Tryz.zeroValue217
 t46 := Tryz.underlying324
 a46 := Tryz.isAgg324
 z46 := Tryz.sizeOf324
 v46 := Tryz.zeroValue324
 t53 := Tryz.underlying350
 a53 := Tryz.isAgg350
 z53 := Tryz.sizeOf350
 v53 := Tryz.zeroValue350
 t57 := Tryz.underlying354
 a57 := Tryz.isAgg354
 z57 := Tryz.sizeOf354
 v57 := Tryz.zeroValue354
 t63 := Tryz.underlying375
 a63 := Tryz.isAgg375
 z63 := Tryz.sizeOf375
 v63 := Tryz.zeroValue375
 t64 := Tryz.underlying200
 a64 := Tryz.isAgg200
 z64 := Tryz.sizeOf200
 v64 := Tryz.zeroValue200 }
open Go.RowKit Go.Maps Go.Sort
theorem Tryz.sortsI132 (m : Nat) : AnyZI.SortsIn Tryz.prog Tryz.sortedI132_ren Fence.wide m :=
 ⟨fun blk off cap ss W hH hblk hsz => callsIn_wide.2 (AnyM.slices_Sort_int Tryz.sortI62 blk off cap ss W hH hblk hsz),
  fun p cap W => callsIn_wide.2 (AnyM.slices_Sort_int_none Tryz.sortI62 p cap W)⟩
theorem Tryz.maps_KeysI_133 (mb : Option Nat) (W : World) : CallsIn Fence.wide 5 Tryz.prog 133 #[.map mb] W fun e w' => e = .returned (.func (.func 211) #[] #[.pointer (some ⟨W.heap.size, 0, none⟩)]) ∧ w' = W.alloc (.cells #[.map mb] 249) :=
 AnyZI.keys_in Tryz.keysI133 Fence.wide 5 trivial rfl mb W
set_option maxHeartbeats 1000000 in
theorem Tryz.slices_SortedI_keys_132_133 {H : Type} (b nn : Nat) (D0 : DataW H) (R : Value → Option (DataW H × List MemPlace)) (w : World) (hown : w.ownsMap Tryz.prog 3 R b nn D0) (hmax : Maps.size D0 ≤ maxLen) (hbytes : Maps.size D0 * 8 ≤ 140737488355328) :
   CallsIn Fence.wide 5 Tryz.prog 132 #[.func (.func 211) #[] #[.pointer (some ⟨w.heap.size, 0, none⟩)]] (w.alloc (.cells #[.map (some b)] 249)) fun e w' => ∃ (v : Value) (ss : List Int), e = .returned v ∧ ss.Perm (intKeys D0) ∧
     w'.ownsRow (w.alloc (.cells #[.map (some b)] 249)).heap.size 3 1 v ss.length ((ss.mergeSort (fun x y => decide (x ≤ y))).map encZ) ∧ (v = .slice none 0 0 ↔ ss = []) ∧ Below (w.alloc (.cells #[.map (some b)] 249)).heap.size (w.alloc (.cells #[.map (some b)] 249)) w' := by
 have hbl := hown.lt
 have hseq : SeqGives Fence.wide 2 Tryz.prog 211 #[.pointer (some ⟨w.heap.size, 0, none⟩)] encZ (fun ss => ss.Perm (intKeys D0)) (Maps.size D0) (w.alloc (.cells #[.map (some b)] 249)) :=
   AnyZI.keys_gives (ρ := Tryz.keysI133_ren) { Tryz.keysI133 with } Fence.wide _ trivial rfl (by omega) w.heap.size b nn D0 _ (by simp) (by simp) (by
     obtain ⟨es, clock, hb, Ft, hs, hD⟩ := hown
     exact ⟨es, clock, (Below.heap_alloc _ _ b hbl).trans hb, Ft, hs, hD⟩)
 exact AnyZI.sorted_in Tryz.sortedI132 Fence.wide 5 trivial trivial trivial trivial rfl (by omega) (Tryz.sortsI132 _) (enters_of Tryz.func62 (by kernel_rfl) rfl) 211 #[.pointer (some ⟨w.heap.size, 0, none⟩)] trivial (enters_of Tryz.func211 (by kernel_rfl) rfl) _ _ hmax hbytes _ hseq
theorem Tryz.maps_KeysI_134 (mb : Option Nat) (W : World) : CallsIn Fence.wide 5 Tryz.prog 134 #[.map mb] W fun e w' => e = .returned (.func (.func 212) #[] #[.pointer (some ⟨W.heap.size, 0, none⟩)]) ∧ w' = W.alloc (.cells #[.map mb] 254) :=
 AnyZI.keys_in Tryz.keysI134 Fence.wide 5 trivial rfl mb W
set_option maxHeartbeats 1000000 in
theorem Tryz.slices_SortedI_keys_132_134 {H : Type} (b nn : Nat) (D0 : DataW H) (R : Value → Option (DataW H × List MemPlace)) (w : World) (hown : w.ownsMap Tryz.prog 3 R b nn D0) (hmax : Maps.size D0 ≤ maxLen) (hbytes : Maps.size D0 * 8 ≤ 140737488355328) :
   CallsIn Fence.wide 5 Tryz.prog 132 #[.func (.func 212) #[] #[.pointer (some ⟨w.heap.size, 0, none⟩)]] (w.alloc (.cells #[.map (some b)] 254)) fun e w' => ∃ (v : Value) (ss : List Int), e = .returned v ∧ ss.Perm (intKeys D0) ∧
     w'.ownsRow (w.alloc (.cells #[.map (some b)] 254)).heap.size 3 1 v ss.length ((ss.mergeSort (fun x y => decide (x ≤ y))).map encZ) ∧ (v = .slice none 0 0 ↔ ss = []) ∧ Below (w.alloc (.cells #[.map (some b)] 254)).heap.size (w.alloc (.cells #[.map (some b)] 254)) w' := by
 have hbl := hown.lt
 have hseq : SeqGives Fence.wide 2 Tryz.prog 212 #[.pointer (some ⟨w.heap.size, 0, none⟩)] encZ (fun ss => ss.Perm (intKeys D0)) (Maps.size D0) (w.alloc (.cells #[.map (some b)] 254)) :=
   AnyZI.keys_gives (ρ := Tryz.keysI134_ren) { Tryz.keysI134 with } Fence.wide _ trivial rfl (by omega) w.heap.size b nn D0 _ (by simp) (by simp) (by
     obtain ⟨es, clock, hb, Ft, hs, hD⟩ := hown
     exact ⟨es, clock, (Below.heap_alloc _ _ b hbl).trans hb, Ft, hs, hD⟩)
 exact AnyZI.sorted_in Tryz.sortedI132 Fence.wide 5 trivial trivial trivial trivial rfl (by omega) (Tryz.sortsI132 _) (enters_of Tryz.func62 (by kernel_rfl) rfl) 212 #[.pointer (some ⟨w.heap.size, 0, none⟩)] trivial (enters_of Tryz.func212 (by kernel_rfl) rfl) _ _ hmax hbytes _ hseq
end Go.Proofs
