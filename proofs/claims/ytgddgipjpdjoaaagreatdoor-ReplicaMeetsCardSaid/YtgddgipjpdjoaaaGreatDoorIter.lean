/-
  The contracts of maps.Keys and slices.Sorted at this program: the keys of a map in order.
-/
import Derived.Shelf.SlIter.Nil
import Derived.Shelf.SortM.Plain
import Derived.Shelf.SortM.SortNone
import Derived.Ground.GgzProg
import Derived.Ground.SlgmProg
import Derived.Test.YtgddgipjpdjoaaaGreatDoorProg
namespace Go.Proofs
open Go.Shelf
def Tryz.keys131_ren : Go.Shelf.Ren := ⟨fun | 7 => 131 | 10 => 209 | n => n, fun | 23 => 239 | 26 => 9 | 3 => 240 | 28 => 237 | 0 => 0 | 27 => 236 | 33 => 51 | 4 => 4 | n => n, fun | n => n⟩
theorem Tryz.keys131 : Go.Proofs.SlLaysZ.n7 Tryz.prog Tryz.keys131_ren := {
 mixed := by kernel_rfl
 f7 := ⟨Tryz.f131.name, by decide, Tryz.func131.trans (congrArg some (by kernel_rfl))⟩
 f10 := ⟨Tryz.f209.name, by decide, Tryz.func209.trans (congrArg some (by kernel_rfl))⟩
 t0 := Tryz.underlying0
 a0 := Tryz.isAgg0
 z0 := Tryz.sizeOf0
 v0 := Tryz.zeroValue0
 t4 := Tryz.underlying4
 a4 := Tryz.isAgg4
 z4 := Tryz.sizeOf4
 v4 := Tryz.zeroValue4
 t23 := Tryz.underlying239
 a23 := Tryz.isAgg239
 z23 := Tryz.sizeOf239
 v23 := Tryz.zeroValue239
 t26 := Tryz.underlying9
 a26 := Tryz.isAgg9
 z26 := Tryz.sizeOf9
 v26 := Tryz.zeroValue9
 t27 := Tryz.underlying236
 a27 := Tryz.isAgg236
 z27 := Tryz.sizeOf236
 v27 := Tryz.zeroValue236
 t28 := Tryz.underlying237
 a28 := Tryz.isAgg237
 z28 := Tryz.sizeOf237
 v28 := Tryz.zeroValue237
 t33 := Tryz.underlying51
 a33 := Tryz.isAgg51
 z33 := Tryz.sizeOf51
 v33 := Tryz.zeroValue51 }
def Tryz.sorted130_ren : Go.Shelf.Ren := ⟨fun | 6 => 130 | 8 => 207 | 9 => 208 | 11 => 252 | 13 => 126 | 12 => 253 | 23 => 203 | 24 => 204 | 14 => 277 | 15 => 278 | 16 => 279 | 17 => 280 | 18 => 281 | 19 => 282 | 20 => 283 | 21 => 284 | 22 => 285 | 25 => 300 | 26 => 246 | 27 => 247 | 28 => 301 | 29 => 302 | 30 => 303 | 31 => 313 | n => n, fun | 26 => 9 | 28 => 237 | 24 => 139 | 0 => 0 | 3 => 3 | 37 => 233 | 48 => 217 | 50 => 324 | 4 => 4 | 40 => 317 | 39 => 316 | 45 => 107 | 5 => 5 | 9 => 9 | 51 => 350 | 55 => 354 | 57 => 375 | 58 => 200 | 33 => 51 | n => n, fun | n => n⟩
theorem Tryz.sorted130 : Go.Proofs.SlLaysZ.n6 Tryz.prog Tryz.sorted130_ren := {
 mixed := by kernel_rfl
 f6 := ⟨Tryz.f130.name, by decide, Tryz.func130.trans (congrArg some (by kernel_rfl))⟩
 f8 := ⟨Tryz.f207.name, by decide, Tryz.func207.trans (congrArg some (by kernel_rfl))⟩
 f11 := ⟨Tryz.f252.name, by decide, Tryz.func252.trans (congrArg some (by kernel_rfl))⟩
 t0 := Tryz.underlying0
 a0 := Tryz.isAgg0
 z0 := Tryz.sizeOf0
 v0 := Tryz.zeroValue0
 t24 := Tryz.underlying139
 a24 := Tryz.isAgg139
 z24 := Tryz.sizeOf139
 v24 := Tryz.zeroValue139
 t26 := Tryz.underlying9
 a26 := Tryz.isAgg9
 z26 := Tryz.sizeOf9
 v26 := Tryz.zeroValue9
 t28 := Tryz.underlying237
 a28 := Tryz.isAgg237
 z28 := Tryz.sizeOf237
 v28 := Tryz.zeroValue237
 i26 := by kernel_rfl }
def Tryz.sort208_ren : Go.Shelf.Ren := ⟨fun | 6 => 208 | 8 => 126 | 9 => 253 | 19 => 203 | 20 => 204 | 21 => 277 | 22 => 278 | 23 => 279 | 24 => 280 | 25 => 281 | 26 => 282 | 27 => 283 | 28 => 284 | 29 => 285 | 36 => 300 | 31 => 246 | 32 => 247 | 37 => 301 | 38 => 302 | 39 => 303 | 41 => 313 | n => n, fun | 27 => 139 | 29 => 9 | 3 => 3 | 32 => 233 | 26 => 139 | 0 => 0 | 44 => 217 | 46 => 324 | 4 => 4 | 36 => 317 | 35 => 316 | 41 => 107 | 5 => 5 | 9 => 9 | 53 => 350 | 57 => 354 | 63 => 375 | 64 => 200 | n => n, fun | n => n⟩
theorem Tryz.sort208 : Go.Proofs.SlLaysM.n6 Tryz.prog Tryz.sort208_ren := {
 mixed := by kernel_rfl
 f6 := ⟨Tryz.f208.name, by decide, Tryz.func208.trans (congrArg some (by kernel_rfl))⟩
 f8 := Tryz.func126.trans (congrArg some (by kernel_rfl))
 f9 := ⟨Tryz.f253.name, by decide, Tryz.func253.trans (congrArg some (by kernel_rfl))⟩
 f19 := Tryz.func203.trans (congrArg some (by kernel_rfl))
 f20 := Tryz.func204.trans (congrArg some (by kernel_rfl))
 f21 := ⟨Tryz.f277.name, by decide, Tryz.func277.trans (congrArg some (by kernel_rfl))⟩
 f22 := ⟨Tryz.f278.name, by decide, Tryz.func278.trans (congrArg some (by kernel_rfl))⟩
 f23 := ⟨Tryz.f279.name, by decide, Tryz.func279.trans (congrArg some (by kernel_rfl))⟩
 f24 := ⟨Tryz.f280.name, by decide, Tryz.func280.trans (congrArg some (by kernel_rfl))⟩
 f25 := ⟨Tryz.f281.name, by decide, Tryz.func281.trans (congrArg some (by kernel_rfl))⟩
 f26 := ⟨Tryz.f282.name, by decide, Tryz.func282.trans (congrArg some (by kernel_rfl))⟩
 f27 := ⟨Tryz.f283.name, by decide, Tryz.func283.trans (congrArg some (by kernel_rfl))⟩
 f28 := ⟨Tryz.f284.name, by decide, Tryz.func284.trans (congrArg some (by kernel_rfl))⟩
 f29 := ⟨Tryz.f285.name, by decide, Tryz.func285.trans (congrArg some (by kernel_rfl))⟩
 f31 := Tryz.func246.trans (congrArg some (by kernel_rfl))
 f32 := Tryz.func247.trans (congrArg some (by kernel_rfl))
 f36 := ⟨Tryz.f300.name, by decide, Tryz.func300.trans (congrArg some (by kernel_rfl))⟩
 f37 := ⟨Tryz.f301.name, by decide, Tryz.func301.trans (congrArg some (by kernel_rfl))⟩
 f38 := ⟨Tryz.f302.name, by decide, Tryz.func302.trans (congrArg some (by kernel_rfl))⟩
 f39 := ⟨Tryz.f303.name, by decide, Tryz.func303.trans (congrArg some (by kernel_rfl))⟩
 f41 := ⟨Tryz.f313.name, by decide, Tryz.func313.trans (congrArg some (by kernel_rfl))⟩
 t0 := Tryz.underlying0
 a0 := Tryz.isAgg0
 z0 := Tryz.sizeOf0
 v0 := Tryz.zeroValue0
 t3 := Tryz.underlying3
 a3 := Tryz.isAgg3
 z3 := Tryz.sizeOf3
 v3 := Tryz.zeroValue3
 t4 := Tryz.underlying4
 a4 := Tryz.isAgg4
 z4 := Tryz.sizeOf4
 v4 := Tryz.zeroValue4
 t5 := Tryz.underlying5
 a5 := Tryz.isAgg5
 z5 := Tryz.sizeOf5
 v5 := Tryz.zeroValue5
 t9 := Tryz.underlying9
 a9 := Tryz.isAgg9
 z9 := Tryz.sizeOf9
 v9 := Tryz.zeroValue9
 t26 := Tryz.underlying139
 a26 := Tryz.isAgg139
 z26 := Tryz.sizeOf139
 v26 := Tryz.zeroValue139
 t27 := Tryz.underlying139
 a27 := Tryz.isAgg139
 z27 := Tryz.sizeOf139
 v27 := Tryz.zeroValue139
 t29 := Tryz.underlying9
 a29 := Tryz.isAgg9
 z29 := Tryz.sizeOf9
 v29 := Tryz.zeroValue9
 t32 := Tryz.underlying233
 a32 := Tryz.isAgg233
 z32 := Tryz.sizeOf233
 v32 := Tryz.zeroValue233
 t35 := Tryz.underlying316
 a35 := Tryz.isAgg316
 z35 := Tryz.sizeOf316
 v35 := Tryz.zeroValue316
 t36 := Tryz.underlying317
 a36 := Tryz.isAgg317
 z36 := Tryz.sizeOf317
 v36 := Tryz.zeroValue317
 t41 := Tryz.underlying107
 a41 := Tryz.isAgg107
 z41 := Tryz.sizeOf107
 v41 := Tryz.zeroValue107
 t44 := Tryz.underlying217
 a44 := Tryz.isAgg217
 z44 := Tryz.sizeOf217
 v44 := Tryz.zeroValue217
 t46 := Tryz.underlying324
 a46 := Tryz.isAgg324
 z46 := Tryz.sizeOf324
 v46 := Tryz.zeroValue324
 t53 := Tryz.underlying350
 a53 := Tryz.isAgg350
 z53 := Tryz.sizeOf350
 v53 := Tryz.zeroValue350
 t57 := Tryz.underlying354
 a57 := Tryz.isAgg354
 z57 := Tryz.sizeOf354
 v57 := Tryz.zeroValue354
 t63 := Tryz.underlying375
 a63 := Tryz.isAgg375
 z63 := Tryz.sizeOf375
 v63 := Tryz.zeroValue375
 t64 := Tryz.underlying200
 a64 := Tryz.isAgg200
 z64 := Tryz.sizeOf200
 v64 := Tryz.zeroValue200 }
def Tryz.keys144_ren : Go.Shelf.Ren := ⟨fun | 7 => 144 | 10 => 217 | n => n, fun | 23 => 150 | 26 => 9 | 3 => 276 | 28 => 237 | 0 => 0 | 27 => 236 | 33 => 51 | 4 => 4 | n => n, fun | n => n⟩
theorem Tryz.keys144 : Go.Proofs.SlLaysZ.n7 Tryz.prog Tryz.keys144_ren := {
 mixed := by kernel_rfl
 f7 := ⟨Tryz.f144.name, by decide, Tryz.func144.trans (congrArg some (by kernel_rfl))⟩
 f10 := ⟨Tryz.f217.name, by decide, Tryz.func217.trans (congrArg some (by kernel_rfl))⟩
 t0 := Tryz.underlying0
 a0 := Tryz.isAgg0
 z0 := Tryz.sizeOf0
 v0 := Tryz.zeroValue0
 t4 := Tryz.underlying4
 a4 := Tryz.isAgg4
 z4 := Tryz.sizeOf4
 v4 := Tryz.zeroValue4
 t23 := Tryz.underlying150
 a23 := Tryz.isAgg150
 z23 := Tryz.sizeOf150
 v23 := Tryz.zeroValue150
 t26 := Tryz.underlying9
 a26 := Tryz.isAgg9
 z26 := Tryz.sizeOf9
 v26 := Tryz.zeroValue9
 t27 := Tryz.underlying236
 a27 := Tryz.isAgg236
 z27 := Tryz.sizeOf236
 v27 := Tryz.zeroValue236
 t28 := Tryz.underlying237
 a28 := Tryz.isAgg237
 z28 := Tryz.sizeOf237
 v28 := Tryz.zeroValue237
 t33 := Tryz.underlying51
 a33 := Tryz.isAgg51
 z33 := Tryz.sizeOf51
 v33 := Tryz.zeroValue51 }
open Go.RowKit Go.Maps Go.Sort
theorem Tryz.sorts130 (m : Nat) : AnyZ.SortsIn Tryz.prog Tryz.sorted130_ren Fence.wide m :=
 ⟨fun blk off cap ss W hH hblk hsz => callsIn_wide.2 (AnyM.slices_Sort_string Tryz.sort208 blk off cap ss W hH hblk hsz),
  fun p cap W => callsIn_wide.2 (AnyM.slices_Sort_string_none Tryz.sort208 p cap W)⟩
theorem Tryz.maps_Keys_131 (mb : Option Nat) (W : World) : CallsIn Fence.wide 5 Tryz.prog 131 #[.map mb] W fun e w' => e = .returned (.func (.func 209) #[] #[.pointer (some ⟨W.heap.size, 0, none⟩)]) ∧ w' = W.alloc (.cells #[.map mb] 239) :=
 AnyZ.keys_in Tryz.keys131 Fence.wide 5 trivial rfl mb W
set_option maxHeartbeats 1000000 in
theorem Tryz.slices_Sorted_keys_130_131 {H : Type} (b nn : Nat) (D0 : DataW H) (R : Value → Option (DataW H × List MemPlace)) (w : World) (hown : w.ownsMap Tryz.prog 9 R b nn D0) (hmax : Maps.size D0 ≤ maxLen) (hbytes : Maps.size D0 * 16 ≤ 140737488355328) :
   CallsIn Fence.wide 5 Tryz.prog 130 #[.func (.func 209) #[] #[.pointer (some ⟨w.heap.size, 0, none⟩)]] (w.alloc (.cells #[.map (some b)] 239)) fun e w' => ∃ (v : Value) (ss : List (List UInt8)), e = .returned v ∧ ss.Perm (strKeys D0) ∧
     w'.ownsRow (w.alloc (.cells #[.map (some b)] 239)).heap.size 9 1 v ss.length ((ss.mergeSort (fun x y => decide (x ≤ y))).map encStr) ∧ (v = .slice none 0 0 ↔ ss = []) ∧ Below (w.alloc (.cells #[.map (some b)] 239)).heap.size (w.alloc (.cells #[.map (some b)] 239)) w' := by
 have hbl := hown.lt
 have hseq : SeqGives Fence.wide 2 Tryz.prog 209 #[.pointer (some ⟨w.heap.size, 0, none⟩)] encStr (fun ss => ss.Perm (strKeys D0)) (Maps.size D0) (w.alloc (.cells #[.map (some b)] 239)) :=
   AnyZ.keys_gives (ρ := Tryz.keys131_ren) { Tryz.keys131 with } Fence.wide _ trivial rfl (by omega) w.heap.size b nn D0 _ (by simp) (by simp) (by
     obtain ⟨es, clock, hb, Ft, hs, hD⟩ := hown
     exact ⟨es, clock, (Below.heap_alloc _ _ b hbl).trans hb, Ft, hs, hD⟩)
 exact AnyZ.sorted_in Tryz.sorted130 Fence.wide 5 trivial trivial trivial trivial rfl (by omega) (Tryz.sorts130 _) (enters_of Tryz.func208 (by kernel_rfl) rfl) 209 #[.pointer (some ⟨w.heap.size, 0, none⟩)] trivial (enters_of Tryz.func209 (by kernel_rfl) rfl) _ _ hmax hbytes _ hseq
theorem Tryz.maps_Keys_144 (mb : Option Nat) (W : World) : CallsIn Fence.wide 5 Tryz.prog 144 #[.map mb] W fun e w' => e = .returned (.func (.func 217) #[] #[.pointer (some ⟨W.heap.size, 0, none⟩)]) ∧ w' = W.alloc (.cells #[.map mb] 150) :=
 AnyZ.keys_in Tryz.keys144 Fence.wide 5 trivial rfl mb W
set_option maxHeartbeats 1000000 in
theorem Tryz.slices_Sorted_keys_130_144 {H : Type} (b nn : Nat) (D0 : DataW H) (R : Value → Option (DataW H × List MemPlace)) (w : World) (hown : w.ownsMap Tryz.prog 9 R b nn D0) (hmax : Maps.size D0 ≤ maxLen) (hbytes : Maps.size D0 * 16 ≤ 140737488355328) :
   CallsIn Fence.wide 5 Tryz.prog 130 #[.func (.func 217) #[] #[.pointer (some ⟨w.heap.size, 0, none⟩)]] (w.alloc (.cells #[.map (some b)] 150)) fun e w' => ∃ (v : Value) (ss : List (List UInt8)), e = .returned v ∧ ss.Perm (strKeys D0) ∧
     w'.ownsRow (w.alloc (.cells #[.map (some b)] 150)).heap.size 9 1 v ss.length ((ss.mergeSort (fun x y => decide (x ≤ y))).map encStr) ∧ (v = .slice none 0 0 ↔ ss = []) ∧ Below (w.alloc (.cells #[.map (some b)] 150)).heap.size (w.alloc (.cells #[.map (some b)] 150)) w' := by
 have hbl := hown.lt
 have hseq : SeqGives Fence.wide 2 Tryz.prog 217 #[.pointer (some ⟨w.heap.size, 0, none⟩)] encStr (fun ss => ss.Perm (strKeys D0)) (Maps.size D0) (w.alloc (.cells #[.map (some b)] 150)) :=
   AnyZ.keys_gives (ρ := Tryz.keys144_ren) { Tryz.keys144 with } Fence.wide _ trivial rfl (by omega) w.heap.size b nn D0 _ (by simp) (by simp) (by
     obtain ⟨es, clock, hb, Ft, hs, hD⟩ := hown
     exact ⟨es, clock, (Below.heap_alloc _ _ b hbl).trans hb, Ft, hs, hD⟩)
 exact AnyZ.sorted_in Tryz.sorted130 Fence.wide 5 trivial trivial trivial trivial rfl (by omega) (Tryz.sorts130 _) (enters_of Tryz.func208 (by kernel_rfl) rfl) 217 #[.pointer (some ⟨w.heap.size, 0, none⟩)] trivial (enters_of Tryz.func217 (by kernel_rfl) rfl) _ _ hmax hbytes _ hseq
end Go.Proofs
