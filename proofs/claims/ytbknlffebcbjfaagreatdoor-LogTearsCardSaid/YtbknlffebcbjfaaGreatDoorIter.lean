/-
  The contracts of maps.Keys and slices.Sorted at this program: the keys of a map in order.
-/
import Derived.Shelf.SlIter.Nil
import Derived.Shelf.SortM.Plain
import Derived.Shelf.SortM.SortNone
import Derived.Ground.GgzProg
import Derived.Ground.SlgmProg
import Derived.Test.YtbknlffebcbjfaaGreatDoorProg
namespace Go.Proofs
open Go.Shelf
def Tryz.keys89_ren : Go.Shelf.Ren := ⟨fun | 7 => 89 | 10 => 128 | n => n, fun | 23 => 138 | 26 => 9 | 3 => 143 | 28 => 148 | 0 => 0 | 27 => 147 | 33 => 150 | 4 => 4 | n => n, fun | n => n⟩
theorem Tryz.keys89 : Go.Proofs.SlLaysZ.n7 Tryz.prog Tryz.keys89_ren := {
  mixed := by kernel_rfl
  f7 := ⟨Tryz.f89.name, by decide, Tryz.func89.trans (congrArg some (by kernel_rfl))⟩
  f10 := ⟨Tryz.f128.name, by decide, Tryz.func128.trans (congrArg some (by kernel_rfl))⟩
  t0 := Tryz.underlying0
  a0 := Tryz.isAgg0
  z0 := Tryz.sizeOf0
  v0 := Tryz.zeroValue0
  t4 := Tryz.underlying4
  a4 := Tryz.isAgg4
  z4 := Tryz.sizeOf4
  v4 := Tryz.zeroValue4
  t23 := Tryz.underlying138
  a23 := Tryz.isAgg138
  z23 := Tryz.sizeOf138
  v23 := Tryz.zeroValue138
  t26 := Tryz.underlying9
  a26 := Tryz.isAgg9
  z26 := Tryz.sizeOf9
  v26 := Tryz.zeroValue9
  t27 := Tryz.underlying147
  a27 := Tryz.isAgg147
  z27 := Tryz.sizeOf147
  v27 := Tryz.zeroValue147
  t28 := Tryz.underlying148
  a28 := Tryz.isAgg148
  z28 := Tryz.sizeOf148
  v28 := Tryz.zeroValue148
  t33 := Tryz.underlying150
  a33 := Tryz.isAgg150
  z33 := Tryz.sizeOf150
  v33 := Tryz.zeroValue150 }
def Tryz.sorted88_ren : Go.Shelf.Ren := ⟨fun | 6 => 88 | 8 => 126 | 9 => 127 | 11 => 155 | 13 => 157 | 12 => 156 | 23 => 195 | 24 => 196 | 14 => 186 | 15 => 187 | 16 => 188 | 17 => 189 | 18 => 190 | 19 => 191 | 20 => 192 | 21 => 193 | 22 => 194 | 25 => 208 | 26 => 209 | 27 => 210 | 28 => 211 | 29 => 212 | 30 => 213 | 31 => 220 | n => n, fun | 26 => 9 | 28 => 148 | 24 => 85 | 0 => 0 | 3 => 3 | 37 => 197 | 48 => 193 | 50 => 241 | 4 => 4 | 40 => 234 | 39 => 233 | 45 => 162 | 5 => 5 | 9 => 9 | 51 => 253 | 55 => 257 | 57 => 271 | 58 => 152 | 33 => 150 | n => n, fun | n => n⟩
theorem Tryz.sorted88 : Go.Proofs.SlLaysZ.n6 Tryz.prog Tryz.sorted88_ren := {
  mixed := by kernel_rfl
  f6 := ⟨Tryz.f88.name, by decide, Tryz.func88.trans (congrArg some (by kernel_rfl))⟩
  f8 := ⟨Tryz.f126.name, by decide, Tryz.func126.trans (congrArg some (by kernel_rfl))⟩
  f11 := ⟨Tryz.f155.name, by decide, Tryz.func155.trans (congrArg some (by kernel_rfl))⟩
  t0 := Tryz.underlying0
  a0 := Tryz.isAgg0
  z0 := Tryz.sizeOf0
  v0 := Tryz.zeroValue0
  t24 := Tryz.underlying85
  a24 := Tryz.isAgg85
  z24 := Tryz.sizeOf85
  v24 := Tryz.zeroValue85
  t26 := Tryz.underlying9
  a26 := Tryz.isAgg9
  z26 := Tryz.sizeOf9
  v26 := Tryz.zeroValue9
  t28 := Tryz.underlying148
  a28 := Tryz.isAgg148
  z28 := Tryz.sizeOf148
  v28 := Tryz.zeroValue148
  i26 := by kernel_rfl }
def Tryz.sort127_ren : Go.Shelf.Ren := ⟨fun | 6 => 127 | 8 => 157 | 9 => 156 | 19 => 195 | 20 => 196 | 21 => 186 | 22 => 187 | 23 => 188 | 24 => 189 | 25 => 190 | 26 => 191 | 27 => 192 | 28 => 193 | 29 => 194 | 36 => 208 | 31 => 209 | 32 => 210 | 37 => 211 | 38 => 212 | 39 => 213 | 41 => 220 | n => n, fun | 27 => 85 | 29 => 9 | 3 => 3 | 32 => 197 | 26 => 85 | 0 => 0 | 44 => 193 | 46 => 241 | 4 => 4 | 36 => 234 | 35 => 233 | 41 => 162 | 5 => 5 | 9 => 9 | 53 => 253 | 57 => 257 | 63 => 271 | 64 => 152 | n => n, fun | n => n⟩
theorem Tryz.sort127 : Go.Proofs.SlLaysM.n6 Tryz.prog Tryz.sort127_ren := {
  mixed := by kernel_rfl
  f6 := ⟨Tryz.f127.name, by decide, Tryz.func127.trans (congrArg some (by kernel_rfl))⟩
  f8 := Tryz.func157.trans (congrArg some (by kernel_rfl))
  f9 := ⟨Tryz.f156.name, by decide, Tryz.func156.trans (congrArg some (by kernel_rfl))⟩
  f19 := Tryz.func195.trans (congrArg some (by kernel_rfl))
  f20 := Tryz.func196.trans (congrArg some (by kernel_rfl))
  f21 := ⟨Tryz.f186.name, by decide, Tryz.func186.trans (congrArg some (by kernel_rfl))⟩
  f22 := ⟨Tryz.f187.name, by decide, Tryz.func187.trans (congrArg some (by kernel_rfl))⟩
  f23 := ⟨Tryz.f188.name, by decide, Tryz.func188.trans (congrArg some (by kernel_rfl))⟩
  f24 := ⟨Tryz.f189.name, by decide, Tryz.func189.trans (congrArg some (by kernel_rfl))⟩
  f25 := ⟨Tryz.f190.name, by decide, Tryz.func190.trans (congrArg some (by kernel_rfl))⟩
  f26 := ⟨Tryz.f191.name, by decide, Tryz.func191.trans (congrArg some (by kernel_rfl))⟩
  f27 := ⟨Tryz.f192.name, by decide, Tryz.func192.trans (congrArg some (by kernel_rfl))⟩
  f28 := ⟨Tryz.f193.name, by decide, Tryz.func193.trans (congrArg some (by kernel_rfl))⟩
  f29 := ⟨Tryz.f194.name, by decide, Tryz.func194.trans (congrArg some (by kernel_rfl))⟩
  f31 := Tryz.func209.trans (congrArg some (by kernel_rfl))
  f32 := Tryz.func210.trans (congrArg some (by kernel_rfl))
  f36 := ⟨Tryz.f208.name, by decide, Tryz.func208.trans (congrArg some (by kernel_rfl))⟩
  f37 := ⟨Tryz.f211.name, by decide, Tryz.func211.trans (congrArg some (by kernel_rfl))⟩
  f38 := ⟨Tryz.f212.name, by decide, Tryz.func212.trans (congrArg some (by kernel_rfl))⟩
  f39 := ⟨Tryz.f213.name, by decide, Tryz.func213.trans (congrArg some (by kernel_rfl))⟩
  f41 := ⟨Tryz.f220.name, by decide, Tryz.func220.trans (congrArg some (by kernel_rfl))⟩
  t0 := Tryz.underlying0
  a0 := Tryz.isAgg0
  z0 := Tryz.sizeOf0
  v0 := Tryz.zeroValue0
  t3 := Tryz.underlying3
  a3 := Tryz.isAgg3
  z3 := Tryz.sizeOf3
  v3 := Tryz.zeroValue3
  t4 := Tryz.underlying4
  a4 := Tryz.isAgg4
  z4 := Tryz.sizeOf4
  v4 := Tryz.zeroValue4
  t5 := Tryz.underlying5
  a5 := Tryz.isAgg5
  z5 := Tryz.sizeOf5
  v5 := Tryz.zeroValue5
  t9 := Tryz.underlying9
  a9 := Tryz.isAgg9
  z9 := Tryz.sizeOf9
  v9 := Tryz.zeroValue9
  t26 := Tryz.underlying85
  a26 := Tryz.isAgg85
  z26 := Tryz.sizeOf85
  v26 := Tryz.zeroValue85
  t27 := Tryz.underlying85
  a27 := Tryz.isAgg85
  z27 := Tryz.sizeOf85
  v27 := Tryz.zeroValue85
  t29 := Tryz.underlying9
  a29 := Tryz.isAgg9
  z29 := Tryz.sizeOf9
  v29 := Tryz.zeroValue9
  t32 := Tryz.underlying197
  a32 := Tryz.isAgg197
  z32 := Tryz.sizeOf197
  v32 := Tryz.zeroValue197
  t35 := Tryz.underlying233
  a35 := Tryz.isAgg233
  z35 := Tryz.sizeOf233
  v35 := Tryz.zeroValue233
  t36 := Tryz.underlying234
  a36 := Tryz.isAgg234
  z36 := Tryz.sizeOf234
  v36 := Tryz.zeroValue234
  t41 := Tryz.underlying162
  a41 := Tryz.isAgg162
  z41 := Tryz.sizeOf162
  v41 := Tryz.zeroValue162
  t44 := Tryz.underlying193
  a44 := Tryz.isAgg193
  z44 := Tryz.sizeOf193
  v44 := Tryz.zeroValue193
  t46 := Tryz.underlying241
  a46 := Tryz.isAgg241
  z46 := Tryz.sizeOf241
  v46 := Tryz.zeroValue241
  t53 := Tryz.underlying253
  a53 := Tryz.isAgg253
  z53 := Tryz.sizeOf253
  v53 := Tryz.zeroValue253
  t57 := Tryz.underlying257
  a57 := Tryz.isAgg257
  z57 := Tryz.sizeOf257
  v57 := Tryz.zeroValue257
  t63 := Tryz.underlying271
  a63 := Tryz.isAgg271
  z63 := Tryz.sizeOf271
  v63 := Tryz.zeroValue271
  t64 := Tryz.underlying152
  a64 := Tryz.isAgg152
  z64 := Tryz.sizeOf152
  v64 := Tryz.zeroValue152 }
open Go.RowKit Go.Maps Go.Sort
theorem Tryz.sorts88 (m : Nat) : AnyZ.SortsIn Tryz.prog Tryz.sorted88_ren Fence.wide m :=
  ⟨fun blk off cap ss W hH hblk hsz => callsIn_wide.2 (AnyM.slices_Sort_string Tryz.sort127 blk off cap ss W hH hblk hsz),
   fun p cap W => callsIn_wide.2 (AnyM.slices_Sort_string_none Tryz.sort127 p cap W)⟩
theorem Tryz.maps_Keys_89 (mb : Option Nat) (W : World) : CallsIn Fence.wide 5 Tryz.prog 89 #[.map mb] W fun e w' => e = .returned (.func (.func 128) #[] #[.pointer (some ⟨W.heap.size, 0, none⟩)]) ∧ w' = W.alloc (.cells #[.map mb] 138) :=
  AnyZ.keys_in Tryz.keys89 Fence.wide 5 trivial rfl mb W
set_option maxHeartbeats 1000000 in
theorem Tryz.slices_Sorted_keys_88_89 {H : Type} (b nn : Nat) (D0 : DataW H) (R : Value → Option (DataW H × List MemPlace)) (w : World) (hown : w.ownsMap Tryz.prog 9 R b nn D0) (hmax : Maps.size D0 ≤ maxLen) (hbytes : Maps.size D0 * 16 ≤ 140737488355328) :
    CallsIn Fence.wide 5 Tryz.prog 88 #[.func (.func 128) #[] #[.pointer (some ⟨w.heap.size, 0, none⟩)]] (w.alloc (.cells #[.map (some b)] 138)) fun e w' => ∃ (v : Value) (ss : List (List UInt8)), e = .returned v ∧ ss.Perm (strKeys D0) ∧
      w'.ownsRow (w.alloc (.cells #[.map (some b)] 138)).heap.size 9 1 v ss.length ((ss.mergeSort (fun x y => decide (x ≤ y))).map encStr) ∧ (v = .slice none 0 0 ↔ ss = []) ∧ Below (w.alloc (.cells #[.map (some b)] 138)).heap.size (w.alloc (.cells #[.map (some b)] 138)) w' := by
  have hbl := hown.lt
  have hseq : SeqGives Fence.wide 2 Tryz.prog 128 #[.pointer (some ⟨w.heap.size, 0, none⟩)] encStr (fun ss => ss.Perm (strKeys D0)) (Maps.size D0) (w.alloc (.cells #[.map (some b)] 138)) :=
    AnyZ.keys_gives (ρ := Tryz.keys89_ren) { Tryz.keys89 with } Fence.wide _ trivial rfl (by omega) w.heap.size b nn D0 _ (by simp) (by simp) (by
      obtain ⟨es, clock, hb, Ft, hs, hD⟩ := hown
      exact ⟨es, clock, (Below.heap_alloc _ _ b hbl).trans hb, Ft, hs, hD⟩)
  exact AnyZ.sorted_in Tryz.sorted88 Fence.wide 5 trivial trivial trivial trivial rfl (by omega) (Tryz.sorts88 _) (enters_of Tryz.func127 (by kernel_rfl) rfl) 128 #[.pointer (some ⟨w.heap.size, 0, none⟩)] trivial (enters_of Tryz.func128 (by kernel_rfl) rfl) _ _ hmax hbytes _ hseq
set_option maxHeartbeats 1000000 in
theorem Tryz.slices_Sorted_keys_nil_88_89 (w : World) :
    CallsIn Fence.wide 5 Tryz.prog 88 #[.func (.func 128) #[] #[.pointer (some ⟨w.heap.size, 0, none⟩)]] (w.alloc (.cells #[.map none] 138)) fun e w' => ∃ (v : Value) (ss : List (List UInt8)), e = .returned v ∧ ss = [] ∧
      w'.ownsRow (w.alloc (.cells #[.map none] 138)).heap.size 9 1 v ss.length ((ss.mergeSort (fun x y => decide (x ≤ y))).map encStr) ∧ (v = .slice none 0 0 ↔ ss = []) ∧ Below (w.alloc (.cells #[.map none] 138)).heap.size (w.alloc (.cells #[.map none] 138)) w' := by
  have hseq : SeqGives Fence.wide 2 Tryz.prog 128 #[.pointer (some ⟨w.heap.size, 0, none⟩)] encStr (fun ss : List (List UInt8) => ss = []) 0 (w.alloc (.cells #[.map none] 138)) :=
    AnyZ.keys_gives_nil (ρ := Tryz.keys89_ren) { Tryz.keys89 with } Fence.wide _ trivial rfl w.heap.size _ (by simp) (by simp)
  exact AnyZ.sorted_in Tryz.sorted88 Fence.wide 5 trivial trivial trivial trivial rfl (by omega) (Tryz.sorts88 _) (enters_of Tryz.func127 (by kernel_rfl) rfl) 128 #[.pointer (some ⟨w.heap.size, 0, none⟩)] trivial (enters_of Tryz.func128 (by kernel_rfl) rfl) _ 0 (Nat.zero_le _) (by omega) _ hseq
end Go.Proofs
