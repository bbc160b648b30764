/-
  The walk of num.Take: at every text.
-/
import Derived.Test.YthmblkckpdpjkaaGreatDoorNumPut
import Derived.Test.YthmblkckpdpjkaaGreatDoorBits
import Derived.BigQuiet
namespace Go.Proofs.YthmblkckpdpjkaaGreatDoor
open Go.RowKit Go.Shelf

theorem extract_to (s : ByteArray) (i : Nat) : (s.extract i s.size).data.toList = s.data.toList.drop i := Lib.extract_to_end s i
theorem extract_to_size (s : ByteArray) (i : Nat) : (s.extract i s.size).size = s.size - i := by simp [ByteArray.size_extract]

set_option maxHeartbeats 1000000 in
set_option maxRecDepth 100000 in
theorem numTake_any (s : ByteArray) (w : World) (hs : s.size ≤ 1000000000000) :
    Calls Tryz.prog 48 #[.string s] w fun e w' => ∃ (n : Nat) (r : ByteArray) (c : Nat), e = .returned (.tuple #[.int .i64 n, .string r, .int .i64 c]) ∧ Hid (Num.take s.data.toList = (n, r.data.toList, c)) ∧ Below w.heap.size w w' := by
  have hcv := Lib.run_convert_string_bytes (P := Tryz.prog) w 9 124 5 s (u := .string) Tryz.underlying9 Tryz.underlying124 Tryz.underlying5
  have hB : ∀ j, j < s.size → (Lib.bytesWorld w 5 s).cell? ⟨w.heap.size, j, none⟩ = some (.int .u8 (s.data.toList.getD j 0).toNat) := fun j hj => Lib.bytesWorld_cell w 5 s j hj
  have hbw0 := below_bytes w 5 s
  obtain ⟨W1, hW1⟩ : ∃ W1, W1 = Lib.bytesWorld w 5 s := ⟨_, rfl⟩
  rw [← hW1] at hcv hB hbw0
  clear hW1
  have HB := Lib.hid hB
  clear hB
  have HS := Lib.hid (show Num.takeF 0 0 (s.data.toList.drop 0) = Num.take s.data.toList from rfl)
  have HL := Lib.hid (Lib.size_eq s)
  go_enter Tryz.func48, Tryz.ntmps48
  go_wp2
  go_loopw [5, 11] (fun nv iv wr => ∃ (i n : Nat), nv = .int .i64 (n : Int) ∧ iv = .int .i64 (i : Int) ∧ i ≤ s.size ∧ i ≤ 6 ∧ n < 128 ^ i ∧ wr = W1 ∧ Num.takeF i n (s.data.toList.drop i) = Num.take s.data.toList) (fun _ iv _ => s.size - (intOf iv).toNat)
  case atStart => exact ⟨0, 0, rfl, rfl, by omega, by omega, by omega, rfl, HS.out⟩
  case round =>
    obtain ⟨i, n, rfl, rfl, hi, hi6, hn, rfl, hT⟩ := hrel
    have HT := Lib.hid hT
    clear hT HS
    by_cases hp : i < s.size
    · have hc := HB.out i hp
      obtain ⟨c, hcc, hdr⟩ := getD_at s i hp
      rw [hcc] at hc
      have HD := Lib.hid (HT.out.symm.trans (congrArg (Num.takeF i n) hdr))
      clear hdr hcc
      have hcl : c.toNat < 256 := c.toNat_lt
      obtain ⟨k, hk⟩ : ∃ k, c.toNat = k := ⟨_, rfl⟩
      rw [hk] at hc hcl
      by_cases h6 : i = 6
      · subst h6
        have HF := Lib.hid (show Num.take s.data.toList = (0, [], 2) by rw [HD.out, Num.takeF, if_pos rfl])
        clear hn
        go_wp2
        go_ret3
        exact ⟨0, _, 2, rfl, HF.out, hbw0⟩
      · have h6' : ((i : Int) == 6) = false := by simp; omega
        have hO := take_or n k i hcl (by omega) hn
        have hN := take_next n k i hn
        have hA := and8_128 k hcl
        have HN := Lib.hid hN
        have hm0 : n + k % 128 * 128 ^ i < 4611686018427387904 := by
          have h1 := Nat.pow_le_pow_right (n := 128) (by decide) (show i + 1 ≤ 6 by omega)
          have h2 : (128 : Nat) ^ 6 = 4398046511104 := by decide
          omega
        obtain ⟨m, hm⟩ : ∃ m, n + k % 128 * 128 ^ i = m := ⟨_, rfl⟩
        rw [hm] at hO HN hm0
        have HM := Lib.hid hm
        have HK := Lib.hid hk
        clear hm hk hN hn
        by_cases hc8 : 128 ≤ k
        · rw [decide_eq_true hc8] at hA
          have HF := Lib.hid (show Num.takeF (i + 1) m (s.data.toList.drop (i + 1)) = Num.take s.data.toList by
            rw [HD.out, Num.takeF, if_neg h6, if_pos (by rw [HK.out]; exact hc8), HK.out, HM.out])
          go_wp2
          exact ⟨⟨i + 1, m, rfl, by go_num, by omega, by omega, HN.out, trivial, HF.out⟩, by simp [intOf]; omega⟩
        · rw [decide_eq_false hc8] at hA
          have HD2 := Lib.hid (show Num.take s.data.toList = if k = 0 ∧ 0 < i then (0, [], 2) else if 1099511627776 < m then (0, [], 4) else (m, s.data.toList.drop (i + 1), 0) by
            rw [HD.out, Num.takeF, if_neg h6, if_neg (by rw [HK.out]; exact hc8), HK.out, HM.out])
          by_cases hz : k = 0 ∧ 0 < i
          · obtain ⟨hz1, hz2⟩ := hz
            subst hz1
            have hi0 : (0 : Int) < i := by omega
            have HF := Lib.hid (show Num.take s.data.toList = (0, [], 2) by rw [HD2.out, if_pos ⟨rfl, hz2⟩])
            clear HD HD2 HM HK HT
            go_wp2
            go_ret3
            exact ⟨0, _, 2, rfl, HF.out, hbw0⟩
          · have hzb : ((k : Int) == 0) = false ∨ (((k : Int) == 0) = true ∧ ¬ (0 : Int) < i) := by
              by_cases hk0 : k = 0
              · right; simp [hk0]; omega
              · left; simp; omega
            by_cases hm1 : 1099511627776 < m
            · have hm2 : (1099511627776 : Int) < m := by omega
              have HF := Lib.hid (show Num.take s.data.toList = (0, [], 4) by rw [HD2.out, if_neg hz, if_pos hm1])
              clear HD HD2 HM HK HT hz
              rcases hzb with hzb | ⟨hzb, hzc⟩
              · go_wp2
                go_ret3
                exact ⟨0, _, 4, rfl, HF.out, hbw0⟩
              · go_wp2
                go_ret3
                exact ⟨0, _, 4, rfl, HF.out, hbw0⟩
            · have hm2 : ¬ (1099511627776 : Int) < m := by omega
              have HF := Lib.hid (show Num.take s.data.toList = (m, (s.extract (i + 1) s.size).data.toList, 0) by rw [HD2.out, if_neg hz, if_neg hm1, extract_to])
              clear HD HD2 HM HK HT hz
              rcases hzb with hzb | ⟨hzb, hzc⟩
              · go_wp2
                go_quiet (fail)
                go_wp2
                go_ret3
                exact ⟨m, _, 0, rfl, HF.out, below_drewN hbw0 _⟩
              · go_wp2
                go_quiet (fail)
                go_wp2
                go_ret3
                exact ⟨m, _, 0, rfl, HF.out, below_drewN hbw0 _⟩
    · obtain rfl : i = s.size := by omega
      have HF := Lib.hid (show Num.take s.data.toList = (0, [], 3) by rw [← HT.out, List.drop_of_length_le (by have := HL.out; omega)]; rfl)
      go_wp2
      go_ret3
      exact ⟨0, _, 3, rfl, HF.out, hbw0⟩
end Go.Proofs.YthmblkckpdpjkaaGreatDoor
