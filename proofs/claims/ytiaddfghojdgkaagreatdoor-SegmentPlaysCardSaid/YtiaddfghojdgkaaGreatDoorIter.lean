/-
  The contracts of maps.Keys and slices.Sorted at this program: the keys of a map in order.
-/
import Derived.Shelf.SlIter.Nil
import Derived.Shelf.SortM.Plain
import Derived.Shelf.SortM.SortNone
import Derived.Ground.GgzProg
import Derived.Ground.SlgmProg
import Derived.Test.YtiaddfghojdgkaaGreatDoorProg
namespace Go.Proofs
open Go.Shelf
def Tryz.keys153_ren : Go.Shelf.Ren := ⟨fun | 7 => 153 | 10 => 241 | n => n, fun | 23 => 168 | 26 => 9 | 3 => 171 | 28 => 231 | 0 => 0 | 27 => 230 | 33 => 70 | 4 => 4 | n => n, fun | n => n⟩
theorem Tryz.keys153 : Go.Proofs.SlLaysZ.n7 Tryz.prog Tryz.keys153_ren := {
  mixed := by kernel_rfl
  f7 := ⟨Tryz.f153.name, by decide, Tryz.func153.trans (congrArg some (by kernel_rfl))⟩
  f10 := ⟨Tryz.f241.name, by decide, Tryz.func241.trans (congrArg some (by kernel_rfl))⟩
  t0 := Tryz.underlying0
  a0 := Tryz.isAgg0
  z0 := Tryz.sizeOf0
  v0 := Tryz.zeroValue0
  t4 := Tryz.underlying4
  a4 := Tryz.isAgg4
  z4 := Tryz.sizeOf4
  v4 := Tryz.zeroValue4
  t23 := Tryz.underlying168
  a23 := Tryz.isAgg168
  z23 := Tryz.sizeOf168
  v23 := Tryz.zeroValue168
  t26 := Tryz.underlying9
  a26 := Tryz.isAgg9
  z26 := Tryz.sizeOf9
  v26 := Tryz.zeroValue9
  t27 := Tryz.underlying230
  a27 := Tryz.isAgg230
  z27 := Tryz.sizeOf230
  v27 := Tryz.zeroValue230
  t28 := Tryz.underlying231
  a28 := Tryz.isAgg231
  z28 := Tryz.sizeOf231
  v28 := Tryz.zeroValue231
  t33 := Tryz.underlying70
  a33 := Tryz.isAgg70
  z33 := Tryz.sizeOf70
  v33 := Tryz.zeroValue70 }
def Tryz.sorted152_ren : Go.Shelf.Ren := ⟨fun | 6 => 152 | 8 => 239 | 9 => 240 | 11 => 312 | 13 => 224 | 12 => 313 | 23 => 296 | 24 => 297 | 14 => 351 | 15 => 352 | 16 => 353 | 17 => 354 | 18 => 355 | 19 => 356 | 20 => 357 | 21 => 358 | 22 => 359 | 25 => 371 | 26 => 336 | 27 => 337 | 28 => 372 | 29 => 373 | 30 => 374 | 31 => 377 | n => n, fun | 26 => 9 | 28 => 231 | 24 => 117 | 0 => 0 | 3 => 3 | 37 => 304 | 48 => 284 | 50 => 378 | 4 => 4 | 40 => 371 | 39 => 370 | 45 => 155 | 5 => 5 | 9 => 9 | 51 => 404 | 55 => 408 | 57 => 430 | 58 => 219 | 33 => 70 | n => n, fun | n => n⟩
theorem Tryz.sorted152 : Go.Proofs.SlLaysZ.n6 Tryz.prog Tryz.sorted152_ren := {
  mixed := by kernel_rfl
  f6 := ⟨Tryz.f152.name, by decide, Tryz.func152.trans (congrArg some (by kernel_rfl))⟩
  f8 := ⟨Tryz.f239.name, by decide, Tryz.func239.trans (congrArg some (by kernel_rfl))⟩
  f11 := ⟨Tryz.f312.name, by decide, Tryz.func312.trans (congrArg some (by kernel_rfl))⟩
  t0 := Tryz.underlying0
  a0 := Tryz.isAgg0
  z0 := Tryz.sizeOf0
  v0 := Tryz.zeroValue0
  t24 := Tryz.underlying117
  a24 := Tryz.isAgg117
  z24 := Tryz.sizeOf117
  v24 := Tryz.zeroValue117
  t26 := Tryz.underlying9
  a26 := Tryz.isAgg9
  z26 := Tryz.sizeOf9
  v26 := Tryz.zeroValue9
  t28 := Tryz.underlying231
  a28 := Tryz.isAgg231
  z28 := Tryz.sizeOf231
  v28 := Tryz.zeroValue231
  i26 := by kernel_rfl }
def Tryz.sort240_ren : Go.Shelf.Ren := ⟨fun | 6 => 240 | 8 => 224 | 9 => 313 | 19 => 296 | 20 => 297 | 21 => 351 | 22 => 352 | 23 => 353 | 24 => 354 | 25 => 355 | 26 => 356 | 27 => 357 | 28 => 358 | 29 => 359 | 36 => 371 | 31 => 336 | 32 => 337 | 37 => 372 | 38 => 373 | 39 => 374 | 41 => 377 | n => n, fun | 27 => 117 | 29 => 9 | 3 => 3 | 32 => 304 | 26 => 117 | 0 => 0 | 44 => 284 | 46 => 378 | 4 => 4 | 36 => 371 | 35 => 370 | 41 => 155 | 5 => 5 | 9 => 9 | 53 => 404 | 57 => 408 | 63 => 430 | 64 => 219 | n => n, fun | n => n⟩
theorem Tryz.sort240 : Go.Proofs.SlLaysM.n6 Tryz.prog Tryz.sort240_ren := {
  mixed := by kernel_rfl
  f6 := ⟨Tryz.f240.name, by decide, Tryz.func240.trans (congrArg some (by kernel_rfl))⟩
  f8 := Tryz.func224.trans (congrArg some (by kernel_rfl))
  f9 := ⟨Tryz.f313.name, by decide, Tryz.func313.trans (congrArg some (by kernel_rfl))⟩
  f19 := Tryz.func296.trans (congrArg some (by kernel_rfl))
  f20 := Tryz.func297.trans (congrArg some (by kernel_rfl))
  f21 := ⟨Tryz.f351.name, by decide, Tryz.func351.trans (congrArg some (by kernel_rfl))⟩
  f22 := ⟨Tryz.f352.name, by decide, Tryz.func352.trans (congrArg some (by kernel_rfl))⟩
  f23 := ⟨Tryz.f353.name, by decide, Tryz.func353.trans (congrArg some (by kernel_rfl))⟩
  f24 := ⟨Tryz.f354.name, by decide, Tryz.func354.trans (congrArg some (by kernel_rfl))⟩
  f25 := ⟨Tryz.f355.name, by decide, Tryz.func355.trans (congrArg some (by kernel_rfl))⟩
  f26 := ⟨Tryz.f356.name, by decide, Tryz.func356.trans (congrArg some (by kernel_rfl))⟩
  f27 := ⟨Tryz.f357.name, by decide, Tryz.func357.trans (congrArg some (by kernel_rfl))⟩
  f28 := ⟨Tryz.f358.name, by decide, Tryz.func358.trans (congrArg some (by kernel_rfl))⟩
  f29 := ⟨Tryz.f359.name, by decide, Tryz.func359.trans (congrArg some (by kernel_rfl))⟩
  f31 := Tryz.func336.trans (congrArg some (by kernel_rfl))
  f32 := Tryz.func337.trans (congrArg some (by kernel_rfl))
  f36 := ⟨Tryz.f371.name, by decide, Tryz.func371.trans (congrArg some (by kernel_rfl))⟩
  f37 := ⟨Tryz.f372.name, by decide, Tryz.func372.trans (congrArg some (by kernel_rfl))⟩
  f38 := ⟨Tryz.f373.name, by decide, Tryz.func373.trans (congrArg some (by kernel_rfl))⟩
  f39 := ⟨Tryz.f374.name, by decide, Tryz.func374.trans (congrArg some (by kernel_rfl))⟩
  f41 := ⟨Tryz.f377.name, by decide, Tryz.func377.trans (congrArg some (by kernel_rfl))⟩
  t0 := Tryz.underlying0
  a0 := Tryz.isAgg0
  z0 := Tryz.sizeOf0
  v0 := Tryz.zeroValue0
  t3 := Tryz.underlying3
  a3 := Tryz.isAgg3
  z3 := Tryz.sizeOf3
  v3 := Tryz.zeroValue3
  t4 := Tryz.underlying4
  a4 := Tryz.isAgg4
  z4 := Tryz.sizeOf4
  v4 := Tryz.zeroValue4
  t5 := Tryz.underlying5
  a5 := Tryz.isAgg5
  z5 := Tryz.sizeOf5
  v5 := Tryz.zeroValue5
  t9 := Tryz.underlying9
  a9 := Tryz.isAgg9
  z9 := Tryz.sizeOf9
  v9 := Tryz.zeroValue9
  t26 := Tryz.underlying117
  a26 := Tryz.isAgg117
  z26 := Tryz.sizeOf117
  v26 := Tryz.zeroValue117
  t27 := Tryz.underlying117
  a27 := Tryz.isAgg117
  z27 := Tryz.sizeOf117
  v27 := Tryz.zeroValue117
  t29 := Tryz.underlying9
  a29 := Tryz.isAgg9
  z29 := Tryz.sizeOf9
  v29 := Tryz.zeroValue9
  t32 := Tryz.underlying304
  a32 := Tryz.isAgg304
  z32 := Tryz.sizeOf304
  v32 := Tryz.zeroValue304
  t35 := Tryz.underlying370
  a35 := Tryz.isAgg370
  z35 := Tryz.sizeOf370
  v35 := Tryz.zeroValue370
  t36 := Tryz.underlying371
  a36 := Tryz.isAgg371
  z36 := Tryz.sizeOf371
  v36 := Tryz.zeroValue371
  t41 := Tryz.underlying155
  a41 := Tryz.isAgg155
  z41 := Tryz.sizeOf155
  v41 := Tryz.zeroValue155
  t44 := Tryz.underlying284
  a44 := Tryz.isAgg284
  z44 := Tryz.sizeOf284
  v44 := Tryz.zeroValue284
  t46 := Tryz.underlying378
  a46 := Tryz.isAgg378
  z46 := Tryz.sizeOf378
  v46 := Tryz.zeroValue378
  t53 := Tryz.underlying404
  a53 := Tryz.isAgg404
  z53 := Tryz.sizeOf404
  v53 := Tryz.zeroValue404
  t57 := Tryz.underlying408
  a57 := Tryz.isAgg408
  z57 := Tryz.sizeOf408
  v57 := Tryz.zeroValue408
  t63 := Tryz.underlying430
  a63 := Tryz.isAgg430
  z63 := Tryz.sizeOf430
  v63 := Tryz.zeroValue430
  t64 := Tryz.underlying219
  a64 := Tryz.isAgg219
  z64 := Tryz.sizeOf219
  v64 := Tryz.zeroValue219 }
def Tryz.keys228_ren : Go.Shelf.Ren := ⟨fun | 7 => 228 | 10 => 300 | n => n, fun | 23 => 307 | 26 => 9 | 3 => 308 | 28 => 231 | 0 => 0 | 27 => 230 | 33 => 70 | 4 => 4 | n => n, fun | n => n⟩
theorem Tryz.keys228 : Go.Proofs.SlLaysZ.n7 Tryz.prog Tryz.keys228_ren := {
  mixed := by kernel_rfl
  f7 := ⟨Tryz.f228.name, by decide, Tryz.func228.trans (congrArg some (by kernel_rfl))⟩
  f10 := ⟨Tryz.f300.name, by decide, Tryz.func300.trans (congrArg some (by kernel_rfl))⟩
  t0 := Tryz.underlying0
  a0 := Tryz.isAgg0
  z0 := Tryz.sizeOf0
  v0 := Tryz.zeroValue0
  t4 := Tryz.underlying4
  a4 := Tryz.isAgg4
  z4 := Tryz.sizeOf4
  v4 := Tryz.zeroValue4
  t23 := Tryz.underlying307
  a23 := Tryz.isAgg307
  z23 := Tryz.sizeOf307
  v23 := Tryz.zeroValue307
  t26 := Tryz.underlying9
  a26 := Tryz.isAgg9
  z26 := Tryz.sizeOf9
  v26 := Tryz.zeroValue9
  t27 := Tryz.underlying230
  a27 := Tryz.isAgg230
  z27 := Tryz.sizeOf230
  v27 := Tryz.zeroValue230
  t28 := Tryz.underlying231
  a28 := Tryz.isAgg231
  z28 := Tryz.sizeOf231
  v28 := Tryz.zeroValue231
  t33 := Tryz.underlying70
  a33 := Tryz.isAgg70
  z33 := Tryz.sizeOf70
  v33 := Tryz.zeroValue70 }
open Go.RowKit Go.Maps Go.Sort
theorem Tryz.sorts152 (m : Nat) : AnyZ.SortsIn Tryz.prog Tryz.sorted152_ren Fence.wide m :=
  ⟨fun blk off cap ss W hH hblk hsz => callsIn_wide.2 (AnyM.slices_Sort_string Tryz.sort240 blk off cap ss W hH hblk hsz),
   fun p cap W => callsIn_wide.2 (AnyM.slices_Sort_string_none Tryz.sort240 p cap W)⟩
theorem Tryz.maps_Keys_153 (mb : Option Nat) (W : World) : CallsIn Fence.wide 5 Tryz.prog 153 #[.map mb] W fun e w' => e = .returned (.func (.func 241) #[] #[.pointer (some ⟨W.heap.size, 0, none⟩)]) ∧ w' = W.alloc (.cells #[.map mb] 168) :=
  AnyZ.keys_in Tryz.keys153 Fence.wide 5 trivial rfl mb W
set_option maxHeartbeats 1000000 in
theorem Tryz.slices_Sorted_keys_152_153 {H : Type} (b nn : Nat) (D0 : DataW H) (R : Value → Option (DataW H × List MemPlace)) (w : World) (hown : w.ownsMap Tryz.prog 9 R b nn D0) (hmax : Maps.size D0 ≤ maxLen) (hbytes : Maps.size D0 * 16 ≤ 140737488355328) :
    CallsIn Fence.wide 5 Tryz.prog 152 #[.func (.func 241) #[] #[.pointer (some ⟨w.heap.size, 0, none⟩)]] (w.alloc (.cells #[.map (some b)] 168)) fun e w' => ∃ (v : Value) (ss : List (List UInt8)), e = .returned v ∧ ss.Perm (strKeys D0) ∧
      w'.ownsRow (w.alloc (.cells #[.map (some b)] 168)).heap.size 9 1 v ss.length ((ss.mergeSort (fun x y => decide (x ≤ y))).map encStr) ∧ (v = .slice none 0 0 ↔ ss = []) ∧ Below (w.alloc (.cells #[.map (some b)] 168)).heap.size (w.alloc (.cells #[.map (some b)] 168)) w' := by
  have hbl := hown.lt
  have hseq : SeqGives Fence.wide 2 Tryz.prog 241 #[.pointer (some ⟨w.heap.size, 0, none⟩)] encStr (fun ss => ss.Perm (strKeys D0)) (Maps.size D0) (w.alloc (.cells #[.map (some b)] 168)) :=
    AnyZ.keys_gives (ρ := Tryz.keys153_ren) { Tryz.keys153 with } Fence.wide _ trivial rfl (by omega) w.heap.size b nn D0 _ (by simp) (by simp) (by
      obtain ⟨es, clock, hb, Ft, hs, hD⟩ := hown
      exact ⟨es, clock, (Below.heap_alloc _ _ b hbl).trans hb, Ft, hs, hD⟩)
  exact AnyZ.sorted_in Tryz.sorted152 Fence.wide 5 trivial trivial trivial trivial rfl (by omega) (Tryz.sorts152 _) (enters_of Tryz.func240 (by kernel_rfl) rfl) 241 #[.pointer (some ⟨w.heap.size, 0, none⟩)] trivial (enters_of Tryz.func241 (by kernel_rfl) rfl) _ _ hmax hbytes _ hseq
set_option maxHeartbeats 1000000 in
theorem Tryz.slices_Sorted_keys_nil_152_153 (w : World) :
    CallsIn Fence.wide 5 Tryz.prog 152 #[.func (.func 241) #[] #[.pointer (some ⟨w.heap.size, 0, none⟩)]] (w.alloc (.cells #[.map none] 168)) fun e w' => ∃ (v : Value) (ss : List (List UInt8)), e = .returned v ∧ ss = [] ∧
      w'.ownsRow (w.alloc (.cells #[.map none] 168)).heap.size 9 1 v ss.length ((ss.mergeSort (fun x y => decide (x ≤ y))).map encStr) ∧ (v = .slice none 0 0 ↔ ss = []) ∧ Below (w.alloc (.cells #[.map none] 168)).heap.size (w.alloc (.cells #[.map none] 168)) w' := by
  have hseq : SeqGives Fence.wide 2 Tryz.prog 241 #[.pointer (some ⟨w.heap.size, 0, none⟩)] encStr (fun ss : List (List UInt8) => ss = []) 0 (w.alloc (.cells #[.map none] 168)) :=
    AnyZ.keys_gives_nil (ρ := Tryz.keys153_ren) { Tryz.keys153 with } Fence.wide _ trivial rfl w.heap.size _ (by simp) (by simp)
  exact AnyZ.sorted_in Tryz.sorted152 Fence.wide 5 trivial trivial trivial trivial rfl (by omega) (Tryz.sorts152 _) (enters_of Tryz.func240 (by kernel_rfl) rfl) 241 #[.pointer (some ⟨w.heap.size, 0, none⟩)] trivial (enters_of Tryz.func241 (by kernel_rfl) rfl) _ 0 (Nat.zero_le _) (by omega) _ hseq
theorem Tryz.maps_Keys_228 (mb : Option Nat) (W : World) : CallsIn Fence.wide 5 Tryz.prog 228 #[.map mb] W fun e w' => e = .returned (.func (.func 300) #[] #[.pointer (some ⟨W.heap.size, 0, none⟩)]) ∧ w' = W.alloc (.cells #[.map mb] 307) :=
  AnyZ.keys_in Tryz.keys228 Fence.wide 5 trivial rfl mb W
set_option maxHeartbeats 1000000 in
theorem Tryz.slices_Sorted_keys_152_228 {H : Type} (b nn : Nat) (D0 : DataW H) (R : Value → Option (DataW H × List MemPlace)) (w : World) (hown : w.ownsMap Tryz.prog 9 R b nn D0) (hmax : Maps.size D0 ≤ maxLen) (hbytes : Maps.size D0 * 16 ≤ 140737488355328) :
    CallsIn Fence.wide 5 Tryz.prog 152 #[.func (.func 300) #[] #[.pointer (some ⟨w.heap.size, 0, none⟩)]] (w.alloc (.cells #[.map (some b)] 307)) fun e w' => ∃ (v : Value) (ss : List (List UInt8)), e = .returned v ∧ ss.Perm (strKeys D0) ∧
      w'.ownsRow (w.alloc (.cells #[.map (some b)] 307)).heap.size 9 1 v ss.length ((ss.mergeSort (fun x y => decide (x ≤ y))).map encStr) ∧ (v = .slice none 0 0 ↔ ss = []) ∧ Below (w.alloc (.cells #[.map (some b)] 307)).heap.size (w.alloc (.cells #[.map (some b)] 307)) w' := by
  have hbl := hown.lt
  have hseq : SeqGives Fence.wide 2 Tryz.prog 300 #[.pointer (some ⟨w.heap.size, 0, none⟩)] encStr (fun ss => ss.Perm (strKeys D0)) (Maps.size D0) (w.alloc (.cells #[.map (some b)] 307)) :=
    AnyZ.keys_gives (ρ := Tryz.keys228_ren) { Tryz.keys228 with } Fence.wide _ trivial rfl (by omega) w.heap.size b nn D0 _ (by simp) (by simp) (by
      obtain ⟨es, clock, hb, Ft, hs, hD⟩ := hown
      exact ⟨es, clock, (Below.heap_alloc _ _ b hbl).trans hb, Ft, hs, hD⟩)
  exact AnyZ.sorted_in Tryz.sorted152 Fence.wide 5 trivial trivial trivial trivial rfl (by omega) (Tryz.sorts152 _) (enters_of Tryz.func240 (by kernel_rfl) rfl) 300 #[.pointer (some ⟨w.heap.size, 0, none⟩)] trivial (enters_of Tryz.func300 (by kernel_rfl) rfl) _ _ hmax hbytes _ hseq
set_option maxHeartbeats 1000000 in
theorem Tryz.slices_Sorted_keys_nil_152_228 (w : World) :
    CallsIn Fence.wide 5 Tryz.prog 152 #[.func (.func 300) #[] #[.pointer (some ⟨w.heap.size, 0, none⟩)]] (w.alloc (.cells #[.map none] 307)) fun e w' => ∃ (v : Value) (ss : List (List UInt8)), e = .returned v ∧ ss = [] ∧
      w'.ownsRow (w.alloc (.cells #[.map none] 307)).heap.size 9 1 v ss.length ((ss.mergeSort (fun x y => decide (x ≤ y))).map encStr) ∧ (v = .slice none 0 0 ↔ ss = []) ∧ Below (w.alloc (.cells #[.map none] 307)).heap.size (w.alloc (.cells #[.map none] 307)) w' := by
  have hseq : SeqGives Fence.wide 2 Tryz.prog 300 #[.pointer (some ⟨w.heap.size, 0, none⟩)] encStr (fun ss : List (List UInt8) => ss = []) 0 (w.alloc (.cells #[.map none] 307)) :=
    AnyZ.keys_gives_nil (ρ := Tryz.keys228_ren) { Tryz.keys228 with } Fence.wide _ trivial rfl w.heap.size _ (by simp) (by simp)
  exact AnyZ.sorted_in Tryz.sorted152 Fence.wide 5 trivial trivial trivial trivial rfl (by omega) (Tryz.sorts152 _) (enters_of Tryz.func240 (by kernel_rfl) rfl) 300 #[.pointer (some ⟨w.heap.size, 0, none⟩)] trivial (enters_of Tryz.func300 (by kernel_rfl) rfl) _ 0 (Nat.zero_le _) (by omega) _ hseq
end Go.Proofs
