/-
  The walks of num.TakeText, TakeFixed.
-/
import Derived.Test.YthmblkckpdpjkaaGreatDoorNumRest
namespace Go.Proofs.YthmblkckpdpjkaaGreatDoor
open Go.RowKit Go.Shelf

theorem extract_front (s : ByteArray) (n : Nat) : (s.extract 0 n).data.toList = s.data.toList.take n := by simp [ByteArray.data_extract, List.extract_eq_take_drop]
theorem extract_front_size (s : ByteArray) (n : Nat) (h : n ≤ s.size) : (s.extract 0 n).size = n := by simp [ByteArray.size_extract, h]

set_option maxHeartbeats 1000000 in
theorem takeText_any (s : ByteArray) (long : Int) (w : World) (hs : s.size ≤ 1000000000000) :
    Calls Tryz.prog 179 #[.string s, .int .i64 long] w fun e w' => ∃ (a r : ByteArray) (c : Nat), e = .returned (.tuple #[.string a, .string r, .int .i64 c]) ∧ Hid (Num.takeText s.data.toList long = (a.data.toList, r.data.toList, c)) ∧ Below w.heap.size w w' := by
  go_enter Tryz.func179, Tryz.ntmps179
  go_wp2_with fail
  refine (numTake_any s w hs).mono ?_
  rintro e w1 ⟨n, r, c, rfl, HT, hb⟩
  have HU := Lib.hid (show Num.takeText s.data.toList long = if c ≠ 0 then ([], [], c) else if long < (n : Int) then ([], [], 4) else if r.data.toList.length < n then ([], [], 3) else (r.data.toList.take n, r.data.toList.drop n, 0) by unfold Num.takeText; rw [HT.out])
  have hrs : r.size ≤ s.size := by have := (Num.take_le s.data.toList).2.1; rw [HT.out, ← Lib.size_eq, ← Lib.size_eq] at this; exact this
  have hn : n ≤ 1099511627776 := by have := (Num.take_le s.data.toList).1; rw [HT.out] at this; exact this
  clear HT
  by_cases hc : c = 0
  · subst hc
    by_cases h1 : long < (n : Int)
    · have HF := Lib.hid (show Num.takeText s.data.toList long = ([], [], 4) by rw [HU.out, if_neg (by simp), if_pos h1])
      go_wp2
      go_ret3
      exact ⟨_, _, 4, rfl, HF, hb⟩
    · by_cases h2 : (r.size : Int) < (n : Int)
      · have HF := Lib.hid (show Num.takeText s.data.toList long = ([], [], 3) by rw [HU.out, if_neg (by simp), if_neg h1, if_pos (by rw [← Lib.size_eq]; omega)])
        go_wp2
        go_ret3
        exact ⟨_, _, 3, rfl, HF, hb⟩
      · have h3 : (n : Int) ≤ r.size := by omega
        have HF := Lib.hid (show Num.takeText s.data.toList long = ((r.extract 0 n).data.toList, (r.extract n r.size).data.toList, 0) by
          rw [HU.out, if_neg (by simp), if_neg h1, if_neg (by rw [← Lib.size_eq]; omega), extract_front, extract_to])
        go_wp2
        go_quiet (fail)
        go_wp2
        go_ret3
        exact ⟨_, _, 0, rfl, HF, below_drewN hb _⟩
  · have hc1 : ((c : Int) != 0) = true := by simp; omega
    have HF := Lib.hid (show Num.takeText s.data.toList long = ([], [], c) by rw [HU.out, if_pos hc])
    go_wp2
    go_ret3
    exact ⟨_, _, c, rfl, HF, hb⟩

def fx (l : List UInt8) : Nat := l.foldl (fun n c => n * 256 + c.toNat) 0
theorem fx_snoc (l : List UInt8) (c : UInt8) : fx (l ++ [c]) = fx l * 256 + c.toNat := by simp [fx]
theorem fx_lt_from : ∀ (l : List UInt8) (m : Nat), l.foldl (fun n c => n * 256 + c.toNat) m < (m + 1) * 256 ^ l.length
  | [], m => by simp
  | c :: l, m => by
    have h := fx_lt_from l (m * 256 + c.toNat)
    have hc := c.toNat_lt
    have h2 : (m * 256 + c.toNat + 1) * 256 ^ l.length ≤ ((m + 1) * 256) * 256 ^ l.length := Nat.mul_le_mul_right _ (by omega)
    rw [List.length_cons, Nat.pow_succ, Nat.mul_comm (256 ^ l.length), ← Nat.mul_assoc]
    exact Nat.lt_of_lt_of_le h h2
theorem fx_lt (l : List UInt8) : fx l < 256 ^ l.length := by have := fx_lt_from l 0; rw [Nat.zero_add, Nat.one_mul] at this; exact this
theorem fix_or (n c : Nat) (hn : n < 16777216) (hc : c < 256) : bits .or .u32 ((n : Int) * 256) c = ((n * 256 + c : Nat) : Int) := by
  have := or_high .u32 32 (by decide) wraps_u32 c n 8 hc (by omega) (by omega)
  rw [show n * 2 ^ 8 = n * 256 from rfl] at this
  rw [show (n : Int) * 256 = ((n * 256 : Nat) : Int) by omega, this]
theorem takeFixed_fx (l : List UInt8) (h : 4 ≤ l.length) : Num.takeFixed l = (fx (l.take 4), l.drop 4, 0) := by
  match l, h with
  | a :: b :: c :: d :: r, _ =>
    simp only [Num.takeFixed, fx, List.take_succ_cons, List.take_zero, List.foldl_cons, List.foldl_nil, List.drop_succ_cons, List.drop_zero, Nat.zero_mul, Nat.zero_add]
set_option maxHeartbeats 1000000 in
set_option maxRecDepth 100000 in
theorem takeFixed_any (s : ByteArray) (w : World) (hs : s.size ≤ 1000000000000) :
    Calls Tryz.prog 147 #[.string s] w fun e w' => ∃ (n : Nat) (r : ByteArray) (c : Nat), e = .returned (.tuple #[.int .u32 n, .string r, .int .i64 c]) ∧ Hid (Num.takeFixed s.data.toList = (n, r.data.toList, c)) ∧ n < 4294967296 ∧ Below w.heap.size w w' := by
  by_cases h4 : s.size < 4
  · have HF := Lib.hid (Num.takeFixed_short s.data.toList (by rw [← Lib.size_eq]; exact h4))
    go_enter Tryz.func147, Tryz.ntmps147
    go_wp2
    go_ret3
    exact ⟨0, _, 3, rfl, HF, by omega, Below.refl _ _⟩
  · obtain ⟨q, hq⟩ : ∃ q, s.extract 0 4 = q := ⟨_, rfl⟩
    have hqs : q.size = 4 := by rw [← hq]; exact extract_front_size s 4 (by omega)
    have HQ := Lib.hid (show q.data.toList = s.data.toList.take 4 by rw [← hq, extract_front])
    have hcv := Lib.run_convert_string_bytes (P := Tryz.prog) w 9 124 5 q (u := .string) Tryz.underlying9 Tryz.underlying124 Tryz.underlying5
    have hB : ∀ j, j < q.size → (Lib.bytesWorld w 5 q).cell? ⟨w.heap.size, j, none⟩ = some (.int .u8 (q.data.toList.getD j 0).toNat) := fun j hj => Lib.bytesWorld_cell w 5 q j hj
    have hbw0 := below_bytes w 5 q
    obtain ⟨W1, hW1⟩ : ∃ W1, W1 = Lib.bytesWorld w 5 q := ⟨_, rfl⟩
    rw [← hW1] at hcv hB hbw0
    clear hW1
    have HB := Lib.hid hB
    clear hB
    go_enter Tryz.func147, Tryz.ntmps147
    go_wp2
    go_loopw [5, 15] (fun nv iv wr => ∃ (i n : Nat), nv = .int .u32 (n : Int) ∧ iv = .int .i64 (i : Int) ∧ i ≤ 4 ∧ n = fx (q.data.toList.take i) ∧ wr = W1) (fun _ iv _ => 4 - (intOf iv).toNat)
    case atStart => exact ⟨0, 0, rfl, rfl, by omega, rfl, rfl⟩
    case round =>
      obtain ⟨i, n, rfl, rfl, hi, hn, rfl⟩ := hrel
      have HN := Lib.hid hn
      clear hn
      by_cases hp : i < 4
      · have hc := HB.out i (by omega)
        obtain ⟨c, hcc, hdr⟩ := getD_at q i (by omega)
        rw [hcc] at hc
        have hlen : (q.data.toList.take i).length = i := by rw [List.length_take, ← Lib.size_eq, hqs]; omega
        have hn4 : n < 16777216 := by
          have h1 := fx_lt (q.data.toList.take i)
          rw [hlen, ← HN.out] at h1
          have h2 := Nat.pow_le_pow_right (n := 256) (by decide) (show i ≤ 3 by omega)
          have h3 : (256 : Nat) ^ 3 = 16777216 := by decide
          omega
        have hcl : c.toNat < 256 := c.toNat_lt
        have HF := Lib.hid (show n * 256 + c.toNat = fx (q.data.toList.take (i + 1)) by
          rw [HN.out, ← fx_snoc]
          congr 1
          rw [List.take_add_one, ← List.head?_drop, hdr]; rfl)
        obtain ⟨k, hk⟩ : ∃ k, c.toNat = k := ⟨_, rfl⟩
        rw [hk] at hc hcl HF
        have hO := fix_or n k hn4 hcl
        clear hdr hcc hk hlen HN
        go_wp2
        exact ⟨⟨i + 1, n * 256 + k, by simp, by go_num, by omega, HF.out, trivial⟩, by simp [intOf]; omega⟩
      · obtain rfl : i = 4 := by omega
        have HF := Lib.hid (show Num.takeFixed s.data.toList = (n, (s.extract 4 s.size).data.toList, 0) by
          rw [takeFixed_fx _ (by rw [← Lib.size_eq]; omega), HN.out, HQ.out, extract_to, List.take_take]; rfl)
        have hn4 : n < 4294967296 := by
          have h1 := fx_lt (q.data.toList.take 4)
          rw [← HN.out] at h1
          have h2 : (q.data.toList.take 4).length ≤ 4 := by rw [List.length_take]; omega
          have h3 := Nat.pow_le_pow_right (n := 256) (by decide) h2
          have h4 : (256 : Nat) ^ 4 = 4294967296 := by decide
          omega
        clear HN
        go_wp2
        go_quiet (fail)
        go_wp2
        go_ret3
        exact ⟨n, _, 0, rfl, HF, hn4, below_drewN hbw0 _⟩
end Go.Proofs.YthmblkckpdpjkaaGreatDoor
