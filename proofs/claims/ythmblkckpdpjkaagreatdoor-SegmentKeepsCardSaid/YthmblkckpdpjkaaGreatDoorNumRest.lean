/-
  The walks of num.PutInt, TakeInt, PutText, Fixed.
-/
import Derived.Test.YthmblkckpdpjkaaGreatDoorNumTake
namespace Go.Proofs.YthmblkckpdpjkaaGreatDoor
open Go.RowKit Go.Shelf

/-- Put's answer, named. -/
theorem numPutS (n : Int) (w : World) :
    Calls Tryz.prog 77 #[.int .i64 n] w fun e w' => ∃ r : ByteArray, e = .returned (.string r) ∧ Hid (r.data.toList = Num.put (Num.held n)) ∧ r.size ≤ 6 ∧ Below w.heap.size w w' := by
  refine (numPut_any n w).mono ?_
  rintro e w1 ⟨rfl, hb⟩
  have h6 := Num.put_le6 _ (Num.held_le n)
  exact ⟨_, rfl, rfl, by rw [Lib.size_eq]; exact h6, hb⟩
theorem zig_bits (h : Int) (h1 : -549755813888 ≤ h) (h2 : h ≤ 549755813888) : bits .xor .i64 (h * 2) (h / 9223372036854775808) = ((Num.zig h : Nat) : Int) := by
  unfold Num.zig
  split
  · rw [show h / 9223372036854775808 = 0 by omega, xor_zero _ (by omega) (by omega)]; omega
  · rw [show h / 9223372036854775808 = -1 by omega, xor_ones _ (by omega) (by omega)]; omega
theorem zag_bits (m : Nat) (hm : m ≤ 1099511627776) : bits .xor .i64 ((m : Int) / 2) (wrap64 (-bits .and .i64 (m : Int) 1)) = Num.zag m := by
  rw [and64_1 m (by omega)]
  unfold Num.zag
  rcases Nat.mod_two_eq_zero_or_one m with h | h
  · rw [h, if_pos rfl, show wrap64 (-((0 : Nat) : Int)) = 0 by rw [IntWalk.wrap64_in] <;> omega, xor_zero _ (by omega) (by omega)]; omega
  · rw [h, if_neg (by omega), show wrap64 (-((1 : Nat) : Int)) = -1 by rw [IntWalk.wrap64_in] <;> omega, xor_ones _ (by omega) (by omega)]; omega
theorem putInt_any (n : Int) (w : World) :
    Calls Tryz.prog 142 #[.int .i64 n] w fun e w' => ∃ r : ByteArray, e = .returned (.string r) ∧ Hid (r.data.toList = Num.putInt n) ∧ r.size ≤ 6 ∧ Below w.heap.size w w' := by
  have hh := Num.heldInt_le n
  have hz := Num.zig_le n
  have HC := Lib.hid (intHold_any n w)
  have HP := Lib.hid (show Num.putInt n = Num.put (Num.zig (Num.heldInt n)) from rfl)
  obtain ⟨h, hhe⟩ : ∃ h, Num.heldInt n = h := ⟨_, rfl⟩
  rw [hhe] at hh HC HP hz
  clear hhe
  go_enter Tryz.func142, Tryz.ntmps142
  go_wp2_with fail
  refine HC.out.mono ?_
  rintro e w1 ⟨rfl, rfl⟩
  clear HC
  go_wp2_with fail
  rw [zig_bits h hh.1 hh.2]
  refine (numPutS _ w).mono ?_
  rintro e w1 ⟨r, rfl, hr, hr6, hb⟩
  rw [Num.held_of _ hz] at hr
  go_wp2
  go_ret
  exact ⟨r, rfl, hr.out.trans HP.out.symm, hr6, hb⟩
theorem takeInt_any (s : ByteArray) (w : World) (hs : s.size ≤ 1000000000000) :
    Calls Tryz.prog 180 #[.string s] w fun e w' => ∃ (n : Int) (r : ByteArray) (c : Nat), e = .returned (.tuple #[.int .i64 n, .string r, .int .i64 c]) ∧ Hid (Num.takeInt s.data.toList = (n, r.data.toList, c)) ∧ Below w.heap.size w w' := by
  go_enter Tryz.func180, Tryz.ntmps180
  go_wp2_with fail
  refine (numTake_any s w hs).mono ?_
  rintro e w1 ⟨n, r, c, rfl, HT, hb⟩
  have hn : n ≤ 1099511627776 := by have := (Num.take_le s.data.toList).1; rw [HT.out] at this; exact this
  have hz := zag_bits n hn
  have HF := Lib.hid (show Num.takeInt s.data.toList = (Num.zag n, r.data.toList, c) by unfold Num.takeInt; rw [HT.out])
  go_wp2
  go_ret3
  exact ⟨_, r, c, rfl, HF, hb⟩
theorem putText_any (s : ByteArray) (w : World) (hs : s.size ≤ 1000000000000) :
    Calls Tryz.prog 141 #[.string s] w fun e w' => ∃ r : ByteArray, e = .returned (.string r) ∧ Hid (r.data.toList = Num.putText s.data.toList) ∧ r.size ≤ s.size + 6 ∧ Below w.heap.size w w' := by
  have HP := Lib.hid (show Num.putText s.data.toList = Num.put (Num.held (s.size : Int)) ++ s.data.toList by rw [Lib.size_eq]; rfl)
  go_enter Tryz.func141, Tryz.ntmps141
  go_wp2_with fail
  refine (numPutS _ w).mono ?_
  rintro e w1 ⟨r, rfl, HR, hr6, hb⟩
  obtain ⟨q, hq, hq2, hq3⟩ := str_of (Num.putText s.data.toList)
  have hadd : ∀ w, (Op.stringOp .add r s).run Tryz.prog w = .ok (.string q) w := fun w => add_lists w r s q (by omega) (by rw [HR.out, hq2, HP.out])
  have hqs : q.size ≤ s.size + 6 := by rw [hq3, HP.out, ← HR.out, List.length_append, ← Lib.size_eq, ← Lib.size_eq]; omega
  have HQ := Lib.hid hq2
  clear hq hq2 hq3 HR HP
  go_wp2
  go_ret
  exact ⟨q, rfl, HQ, hqs, hb⟩
theorem fixed_cells (n : Nat) (hn : n < 4294967296) : [Value.int .u8 ((n : Int) / 16777216), .int .u8 ((n : Int) / 65536 % 256), .int .u8 ((n : Int) / 256 % 256), .int .u8 ((n : Int) % 256)] = Lib.byteCells (Num.fixed n) := by
  simp only [Num.fixed, Lib.byteCells, List.map_cons, List.map_nil, Num.toU8_mod]
  congr 2
  omega
set_option maxRecDepth 100000 in
theorem fixed_any (n : Nat) (w : World) (hn : n < 4294967296) :
    Calls Tryz.prog 107 #[.int .u32 n] w fun e w' => ∃ r : ByteArray, e = .returned (.string r) ∧ Hid (r.data.toList = Num.fixed n) ∧ r.size = 4 ∧ Below w.heap.size w w' := by
  have hown : (w.alloc (.cells #[.int .u8 ((n : Int) / 16777216), .int .u8 ((n : Int) / 65536 % 256), .int .u8 ((n : Int) / 256 % 256), .int .u8 ((n : Int) % 256)] 5)).ownsRow w.heap.size 5 1 (.slice (some ⟨w.heap.size, 0, none⟩) 4 4) (Num.fixed n).length (Lib.byteCells (Num.fixed n)) :=
    ⟨rfl, .inr ⟨w.heap.size, 4, _, rfl, Nat.le_refl _, heap_alloc_new w _, Nat.le_refl _, by decide, rfl, fixed_cells n hn⟩⟩
  have hstr := run_string_owned hown
  clear hown
  obtain ⟨q, hq, hq2, hq3⟩ := str_of (Num.fixed n)
  rw [hq] at hstr
  have HQ := Lib.hid hq2
  clear hq hq2
  go_enter Tryz.func107, Tryz.ntmps107
  go_wp2
  go_ret
  exact ⟨q, rfl, HQ, hq3, (Below.refl _ _).alloc (Nat.le_refl _) _⟩
end Go.Proofs.YthmblkckpdpjkaaGreatDoor
