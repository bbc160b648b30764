/-
  The walk of the document's answer to layer 1 (bucketlineref1): size.
-/
import Derived.Test.YtiaddfghojdgkaaGreatDoorNums
namespace Go.Proofs.YtiaddfghojdgkaaGreatDoor
open Go.RowKit Go.Shelf

theorem getD_byte (s : ByteArray) (i : Nat) (h : i < s.size) : s.data.toList.getD i 0 = s[i] := by
  have h2 : i < s.data.toList.length := by rw [← Lib.size_eq]; exact h
  rw [List.getD_eq_getElem?_getD, List.getElem?_eq_getElem h2]; rfl
theorem getD_none (s : ByteArray) (i : Nat) (h : ¬ i < s.size) : s.data.toList.getD i 0 = 0 := by
  have h2 : ¬ i < s.data.toList.length := by rw [← Lib.size_eq]; exact h
  rw [List.getD_eq_getElem?_getD, List.getElem?_eq_none (by omega)]; rfl
/-- The token, by numbers. -/
def tokN (n b0 b1 b2 b3 : Nat) : Int × Nat :=
  let d := Lib.decodeN n b0 b1 b2 b3
  if d.1 = 65533 ∧ d.2 = 1 then (-1, 1) else ((d.1 : Int), d.2)
theorem tok_N (s : ByteArray) : Txt.tok s.data.toList = tokN s.size (s.data.toList.getD 0 0).toNat (s.data.toList.getD 1 0).toNat (s.data.toList.getD 2 0).toNat (s.data.toList.getD 3 0).toNat := by
  rw [Lib.size_eq]; rfl

theorem tokN_one (n b0 b1 b2 b3 : Nat) (h : b0 < 128) : tokN n b0 b1 b2 b3 = ((b0 : Int), 1) := by
  have : ¬ (b0 = 65533) := by omega
  simp [tokN, Lib.decodeN, h, this]
theorem tokN_of (n b0 b1 b2 b3 v k : Nat) (h : Lib.decodeN n b0 b1 b2 b3 = (v, k)) (hk : k ≠ 1) : tokN n b0 b1 b2 b3 = ((v : Int), k) := by simp [tokN, h, hk]
theorem tokN_bad (n b0 b1 b2 b3 : Nat) (h : Lib.decodeN n b0 b1 b2 b3 = (65533, 1)) : tokN n b0 b1 b2 b3 = (-1, 1) := by simp [tokN, h]
theorem tokN_lead (n b0 b1 b2 b3 : Nat) (h : 128 ≤ b0) (h2 : b0 < 192 ∨ 248 ≤ b0) : tokN n b0 b1 b2 b3 = (-1, 1) := by
  refine tokN_bad _ _ _ _ _ ?_
  simp only [Lib.decodeN]
  rw [if_neg (by omega), if_neg (by omega), if_neg (by omega), if_neg (by omega)]
theorem tokN_two_bad (n b0 b1 b2 b3 : Nat) (h1 : 192 ≤ b0) (h2 : b0 < 224) (h : n < 2 ∨ b1 < 128 ∨ 192 ≤ b1 ∨ b0 < 194) : tokN n b0 b1 b2 b3 = (-1, 1) := by
  refine tokN_bad _ _ _ _ _ ?_
  simp only [Lib.decodeN]
  rw [if_neg (by omega)]
  by_cases g : b0 / 32 = 6 ∧ (1 < n ∧ b1 / 64 = 2)
  · rw [if_pos g, if_neg (by omega)]
  · rw [if_neg g, if_neg (by omega), if_neg (by omega)]
theorem tokN_two (n b0 b1 b2 b3 : Nat) (h1 : 194 ≤ b0) (h2 : b0 < 224) (hn : 2 ≤ n) (h3 : 128 ≤ b1) (h4 : b1 < 192) : tokN n b0 b1 b2 b3 = (((b0 : Int) - 192) * 64 + b1 - 128, 2) := by
  rw [tokN_of n b0 b1 b2 b3 (b0 % 32 * 64 + b1 % 64) 2 (by simp only [Lib.decodeN]; rw [if_neg (by omega), if_pos (by omega), if_pos (by omega)]) (by decide)]
  refine Prod.ext ?_ rfl
  simp only; omega
def three (b0 b1 b2 : Nat) : Int := (((b0 : Int) - 224) * 64 + b1 - 128) * 64 + b2 - 128
theorem tokN_three_bad (n b0 b1 b2 b3 : Nat) (h1 : 224 ≤ b0) (h2 : b0 < 240) (h : n < 3 ∨ b1 < 128 ∨ 192 ≤ b1 ∨ b2 < 128 ∨ 192 ≤ b2 ∨ three b0 b1 b2 < 2048 ∨ (55296 ≤ three b0 b1 b2 ∧ three b0 b1 b2 ≤ 57343)) : tokN n b0 b1 b2 b3 = (-1, 1) := by
  unfold three at h
  refine tokN_bad _ _ _ _ _ ?_
  simp only [Lib.decodeN]
  rw [if_neg (by omega), if_neg (by omega)]
  by_cases g : b0 / 16 = 14 ∧ (1 < n ∧ b1 / 64 = 2) ∧ (2 < n ∧ b2 / 64 = 2)
  · rw [if_pos g, if_neg (by omega)]
  · rw [if_neg g, if_neg (by omega)]
theorem tokN_three (n b0 b1 b2 b3 : Nat) (h1 : 224 ≤ b0) (h2 : b0 < 240) (hn : 3 ≤ n) (h3 : 128 ≤ b1) (h4 : b1 < 192) (h5 : 128 ≤ b2) (h6 : b2 < 192) (h7 : 2048 ≤ three b0 b1 b2) (h8 : three b0 b1 b2 < 55296 ∨ 57343 < three b0 b1 b2) :
    tokN n b0 b1 b2 b3 = (three b0 b1 b2, 3) := by
  unfold three at h7 h8 ⊢
  rw [tokN_of n b0 b1 b2 b3 (b0 % 16 * 4096 + b1 % 64 * 64 + b2 % 64) 3 (by simp only [Lib.decodeN]; rw [if_neg (by omega), if_neg (by omega), if_pos (by omega), if_pos (by omega)]) (by decide)]
  refine Prod.ext ?_ rfl
  simp only; omega
def four (b0 b1 b2 b3 : Nat) : Int := ((((b0 : Int) - 240) * 64 + b1 - 128) * 64 + b2 - 128) * 64 + b3 - 128
theorem tokN_four_bad (n b0 b1 b2 b3 : Nat) (h1 : 240 ≤ b0) (h2 : b0 < 248) (h : n < 4 ∨ b1 < 128 ∨ 192 ≤ b1 ∨ b2 < 128 ∨ 192 ≤ b2 ∨ b3 < 128 ∨ 192 ≤ b3 ∨ four b0 b1 b2 b3 < 65536 ∨ 1114111 < four b0 b1 b2 b3) : tokN n b0 b1 b2 b3 = (-1, 1) := by
  unfold four at h
  refine tokN_bad _ _ _ _ _ ?_
  simp only [Lib.decodeN]
  rw [if_neg (by omega), if_neg (by omega), if_neg (by omega)]
  by_cases g : b0 / 8 = 30 ∧ (1 < n ∧ b1 / 64 = 2) ∧ (2 < n ∧ b2 / 64 = 2) ∧ (3 < n ∧ b3 / 64 = 2)
  · rw [if_pos g, if_neg (by omega)]
  · rw [if_neg g]
theorem tokN_four (n b0 b1 b2 b3 : Nat) (h1 : 240 ≤ b0) (h2 : b0 < 248) (hn : 4 ≤ n) (h3 : 128 ≤ b1) (h4 : b1 < 192) (h5 : 128 ≤ b2) (h6 : b2 < 192) (h7 : 128 ≤ b3) (h8 : b3 < 192) (h9 : 65536 ≤ four b0 b1 b2 b3) (ha : four b0 b1 b2 b3 ≤ 1114111) :
    tokN n b0 b1 b2 b3 = (four b0 b1 b2 b3, 4) := by
  unfold four at h9 ha ⊢
  rw [tokN_of n b0 b1 b2 b3 (b0 % 8 * 262144 + b1 % 64 * 4096 + b2 % 64 * 64 + b3 % 64) 4 (by simp only [Lib.decodeN]; rw [if_neg (by omega), if_neg (by omega), if_neg (by omega), if_pos (by omega), if_pos (by omega)]) (by decide)]
  refine Prod.ext ?_ rfl
  simp only; omega
theorem ret_size {l : List UInt8} {n b0 b1 b2 b3 : Nat} {x y : Int} (h : Txt.tok l = tokN n b0 b1 b2 b3) (h2 : tokN n b0 b1 b2 b3 = (y, x.toNat)) (hx : 0 ≤ x) :
    Ending.returned (.tuple #[.int .i64 x, .int .i64 y]) = .returned (.tuple #[.int .i64 ((Txt.tok l).2 : Int), .int .i64 (Txt.tok l).1]) := by
  rw [h, h2]; simp only; rw [Int.toNat_of_nonneg hx]

set_option maxHeartbeats 2000000 in
set_option maxRecDepth 100000 in
theorem size_any (s : ByteArray) (w : World) (hs : s.size ≤ 1000000000000) (h0 : 0 < s.size) :
    Calls Tryz.prog 311 #[.string s] w fun e w' => e = .returned (.tuple #[.int .i64 ((Txt.tok s.data.toList).2 : Int), .int .i64 (Txt.tok s.data.toList).1]) ∧ w = w' := by
  have HT := Lib.hid (tok_N s)
  have e0 := getD_byte s 0 h0
  rw [e0] at HT
  clear e0
  obtain ⟨b0, hb0⟩ : ∃ b : Nat, b = s[0].toNat := ⟨_, rfl⟩
  have lt0 : b0 < 256 := by rw [hb0]; exact s[0].toNat_lt
  have ix0 : s[0].toNat = b0 := hb0.symm
  rw [ix0] at HT
  clear hb0
  by_cases c1 : b0 < 128
  · go_enter Tryz.func311, Tryz.ntmps311
    go_wp2
    go_ret2
    exact ⟨ret_size HT.out (tokN_one _ _ _ _ _ c1) (by omega), rfl⟩
  by_cases c2 : b0 < 192 ∨ 248 ≤ b0
  · rcases c2 with c2 | c2
    · go_enter Tryz.func311, Tryz.ntmps311
      go_wp2
      go_ret2
      exact ⟨ret_size HT.out (tokN_lead _ _ _ _ _ (by omega) (.inl c2)) (by omega), rfl⟩
    · go_enter Tryz.func311, Tryz.ntmps311
      go_wp2
      go_ret2
      exact ⟨ret_size HT.out (tokN_lead _ _ _ _ _ (by omega) (.inr c2)) (by omega), rfl⟩
  have c3 : 192 ≤ b0 := by omega
  have c4 : b0 < 248 := by omega
  clear c1 c2
  by_cases d1 : b0 < 224
  ·
    by_cases nn : s.size < 2
    ·
      go_enter Tryz.func311, Tryz.ntmps311
      go_wp2
      all_goals
        go_ret2
        exact ⟨ret_size HT.out (tokN_two_bad _ _ _ _ _ c3 d1 (by omega)) (by omega), rfl⟩
    have h1 : 1 < s.size := by omega
    have e1 := getD_byte s 1 h1
    rw [e1] at HT
    obtain ⟨b1, hb1⟩ : ∃ b : Nat, b = s[1].toNat := ⟨_, rfl⟩
    have lt1 : b1 < 256 := by rw [hb1]; exact s[1].toNat_lt
    have ix1 : s[1].toNat = b1 := hb1.symm
    rw [ix1] at HT
    clear hb1 e1
    clear nn
    by_cases g1 : b1 < 128
    ·
      go_enter Tryz.func311, Tryz.ntmps311
      go_wp2
      refine wp_loop_rounds 1 ?_
      rw [rounds_succ]
      go_wp2
      all_goals
        go_ret2
        exact ⟨ret_size HT.out (tokN_two_bad _ _ _ _ _ c3 d1 (by omega)) (by omega), rfl⟩
    by_cases f1 : 192 ≤ b1
    ·
      go_enter Tryz.func311, Tryz.ntmps311
      go_wp2
      refine wp_loop_rounds 1 ?_
      rw [rounds_succ]
      go_wp2
      all_goals
        go_ret2
        exact ⟨ret_size HT.out (tokN_two_bad _ _ _ _ _ c3 d1 (by omega)) (by omega), rfl⟩
    by_cases v1 : b0 < 194
    ·
      go_enter Tryz.func311, Tryz.ntmps311
      go_wp2
      refine wp_loop_rounds 2 ?_
      rw [rounds_succ]
      go_wp2
      rw [rounds_succ]
      go_wp2
      all_goals
        go_ret2
        exact ⟨ret_size HT.out (tokN_two_bad _ _ _ _ _ c3 d1 (by omega)) (by omega), rfl⟩
    ·
      go_enter Tryz.func311, Tryz.ntmps311
      go_wp2
      refine wp_loop_rounds 2 ?_
      rw [rounds_succ]
      go_wp2
      rw [rounds_succ]
      go_wp2
      all_goals
        go_ret2
        exact ⟨ret_size HT.out (tokN_two _ _ _ _ _ (by omega) d1 (by omega) (by omega) (by omega)) (by omega), rfl⟩
  have c5 : 224 ≤ b0 := by omega
  clear d1 c3
  by_cases d2 : b0 < 240
  ·
    by_cases nn : s.size < 3
    ·
      go_enter Tryz.func311, Tryz.ntmps311
      go_wp2
      all_goals
        go_ret2
        exact ⟨ret_size HT.out (tokN_three_bad _ _ _ _ _ c5 d2 (by omega)) (by omega), rfl⟩
    have h1 : 1 < s.size := by omega
    have e1 := getD_byte s 1 h1
    rw [e1] at HT
    obtain ⟨b1, hb1⟩ : ∃ b : Nat, b = s[1].toNat := ⟨_, rfl⟩
    have lt1 : b1 < 256 := by rw [hb1]; exact s[1].toNat_lt
    have ix1 : s[1].toNat = b1 := hb1.symm
    rw [ix1] at HT
    clear hb1 e1
    have h2 : 2 < s.size := by omega
    have e2 := getD_byte s 2 h2
    rw [e2] at HT
    obtain ⟨b2, hb2⟩ : ∃ b : Nat, b = s[2].toNat := ⟨_, rfl⟩
    have lt2 : b2 < 256 := by rw [hb2]; exact s[2].toNat_lt
    have ix2 : s[2].toNat = b2 := hb2.symm
    rw [ix2] at HT
    clear hb2 e2
    clear nn
    by_cases g1 : b1 < 128
    ·
      go_enter Tryz.func311, Tryz.ntmps311
      go_wp2
      refine wp_loop_rounds 1 ?_
      rw [rounds_succ]
      go_wp2
      all_goals
        go_ret2
        exact ⟨ret_size HT.out (tokN_three_bad _ _ _ _ _ c5 d2 (by omega)) (by omega), rfl⟩
    by_cases f1 : 192 ≤ b1
    ·
      go_enter Tryz.func311, Tryz.ntmps311
      go_wp2
      refine wp_loop_rounds 1 ?_
      rw [rounds_succ]
      go_wp2
      all_goals
        go_ret2
        exact ⟨ret_size HT.out (tokN_three_bad _ _ _ _ _ c5 d2 (by omega)) (by omega), rfl⟩
    by_cases g2 : b2 < 128
    ·
      go_enter Tryz.func311, Tryz.ntmps311
      go_wp2
      refine wp_loop_rounds 2 ?_
      rw [rounds_succ]
      go_wp2
      rw [rounds_succ]
      go_wp2
      all_goals
        go_ret2
        exact ⟨ret_size HT.out (tokN_three_bad _ _ _ _ _ c5 d2 (by omega)) (by omega), rfl⟩
    by_cases f2 : 192 ≤ b2
    ·
      go_enter Tryz.func311, Tryz.ntmps311
      go_wp2
      refine wp_loop_rounds 2 ?_
      rw [rounds_succ]
      go_wp2
      rw [rounds_succ]
      go_wp2
      all_goals
        go_ret2
        exact ⟨ret_size HT.out (tokN_three_bad _ _ _ _ _ c5 d2 (by omega)) (by omega), rfl⟩
    have V := Lib.hid (show three b0 b1 b2 = three b0 b1 b2 from rfl)
    by_cases v1 : three b0 b1 b2 < 2048
    ·
      have hbad := Lib.hid (tokN_three_bad s.size b0 b1 b2 (s.data.toList.getD 3 0).toNat c5 d2 (by omega))
      unfold three at v1
      go_enter Tryz.func311, Tryz.ntmps311
      go_wp2
      refine wp_loop_rounds 3 ?_
      rw [rounds_succ]
      go_wp2
      rw [rounds_succ]
      go_wp2
      rw [rounds_succ]
      go_wp2
      all_goals
        go_ret2
        exact ⟨ret_size HT.out (hbad.out) (by omega), rfl⟩
    by_cases v2 : 55296 ≤ three b0 b1 b2 ∧ three b0 b1 b2 ≤ 57343
    ·
      have hbad := Lib.hid (tokN_three_bad s.size b0 b1 b2 (s.data.toList.getD 3 0).toNat c5 d2 (by omega))
      unfold three at v1 v2
      obtain ⟨v2, v3⟩ := v2
      go_enter Tryz.func311, Tryz.ntmps311
      go_wp2
      refine wp_loop_rounds 3 ?_
      rw [rounds_succ]
      go_wp2
      rw [rounds_succ]
      go_wp2
      rw [rounds_succ]
      go_wp2
      all_goals
        go_ret2
        exact ⟨ret_size HT.out (hbad.out) (by omega), rfl⟩
    have hgood := Lib.hid (tokN_three s.size b0 b1 b2 (s.data.toList.getD 3 0).toNat c5 d2 (by omega) (by omega) (by omega) (by omega) (by omega) (by omega) (by omega))
    unfold three at v1 v2 hgood
    by_cases v4 : (((b0 : Int) - 224) * 64 + b1 - 128) * 64 + b2 - 128 < 55296
    ·
      clear v2
      go_enter Tryz.func311, Tryz.ntmps311
      go_wp2
      refine wp_loop_rounds 3 ?_
      rw [rounds_succ]
      go_wp2
      rw [rounds_succ]
      go_wp2
      rw [rounds_succ]
      go_wp2
      all_goals
        go_ret2
        exact ⟨ret_size HT.out (hgood.out) (by omega), rfl⟩
    ·
      have v5 : 57343 < (((b0 : Int) - 224) * 64 + b1 - 128) * 64 + b2 - 128 := by omega
      clear v2
      go_enter Tryz.func311, Tryz.ntmps311
      go_wp2
      refine wp_loop_rounds 3 ?_
      rw [rounds_succ]
      go_wp2
      rw [rounds_succ]
      go_wp2
      rw [rounds_succ]
      go_wp2
      all_goals
        go_ret2
        exact ⟨ret_size HT.out (hgood.out) (by omega), rfl⟩
  have c6 : 240 ≤ b0 := by omega
  clear d2 c5
  by_cases nn : s.size < 4
  ·
    go_enter Tryz.func311, Tryz.ntmps311
    go_wp2
    all_goals
      go_ret2
      exact ⟨ret_size HT.out (tokN_four_bad _ _ _ _ _ c6 c4 (by omega)) (by omega), rfl⟩
  have h1 : 1 < s.size := by omega
  have e1 := getD_byte s 1 h1
  rw [e1] at HT
  obtain ⟨b1, hb1⟩ : ∃ b : Nat, b = s[1].toNat := ⟨_, rfl⟩
  have lt1 : b1 < 256 := by rw [hb1]; exact s[1].toNat_lt
  have ix1 : s[1].toNat = b1 := hb1.symm
  rw [ix1] at HT
  clear hb1 e1
  have h2 : 2 < s.size := by omega
  have e2 := getD_byte s 2 h2
  rw [e2] at HT
  obtain ⟨b2, hb2⟩ : ∃ b : Nat, b = s[2].toNat := ⟨_, rfl⟩
  have lt2 : b2 < 256 := by rw [hb2]; exact s[2].toNat_lt
  have ix2 : s[2].toNat = b2 := hb2.symm
  rw [ix2] at HT
  clear hb2 e2
  have h3 : 3 < s.size := by omega
  have e3 := getD_byte s 3 h3
  rw [e3] at HT
  obtain ⟨b3, hb3⟩ : ∃ b : Nat, b = s[3].toNat := ⟨_, rfl⟩
  have lt3 : b3 < 256 := by rw [hb3]; exact s[3].toNat_lt
  have ix3 : s[3].toNat = b3 := hb3.symm
  rw [ix3] at HT
  clear hb3 e3
  clear nn
  by_cases g1 : b1 < 128
  ·
    go_enter Tryz.func311, Tryz.ntmps311
    go_wp2
    refine wp_loop_rounds 1 ?_
    rw [rounds_succ]
    go_wp2
    all_goals
      go_ret2
      exact ⟨ret_size HT.out (tokN_four_bad _ _ _ _ _ c6 c4 (by omega)) (by omega), rfl⟩
  by_cases f1 : 192 ≤ b1
  ·
    go_enter Tryz.func311, Tryz.ntmps311
    go_wp2
    refine wp_loop_rounds 1 ?_
    rw [rounds_succ]
    go_wp2
    all_goals
      go_ret2
      exact ⟨ret_size HT.out (tokN_four_bad _ _ _ _ _ c6 c4 (by omega)) (by omega), rfl⟩
  by_cases g2 : b2 < 128
  ·
    go_enter Tryz.func311, Tryz.ntmps311
    go_wp2
    refine wp_loop_rounds 2 ?_
    rw [rounds_succ]
    go_wp2
    rw [rounds_succ]
    go_wp2
    all_goals
      go_ret2
      exact ⟨ret_size HT.out (tokN_four_bad _ _ _ _ _ c6 c4 (by omega)) (by omega), rfl⟩
  by_cases f2 : 192 ≤ b2
  ·
    go_enter Tryz.func311, Tryz.ntmps311
    go_wp2
    refine wp_loop_rounds 2 ?_
    rw [rounds_succ]
    go_wp2
    rw [rounds_succ]
    go_wp2
    all_goals
      go_ret2
      exact ⟨ret_size HT.out (tokN_four_bad _ _ _ _ _ c6 c4 (by omega)) (by omega), rfl⟩
  by_cases g3 : b3 < 128
  ·
    go_enter Tryz.func311, Tryz.ntmps311
    go_wp2
    refine wp_loop_rounds 3 ?_
    rw [rounds_succ]
    go_wp2
    rw [rounds_succ]
    go_wp2
    rw [rounds_succ]
    go_wp2
    all_goals
      go_ret2
      exact ⟨ret_size HT.out (tokN_four_bad _ _ _ _ _ c6 c4 (by omega)) (by omega), rfl⟩
  by_cases f3 : 192 ≤ b3
  ·
    go_enter Tryz.func311, Tryz.ntmps311
    go_wp2
    refine wp_loop_rounds 3 ?_
    rw [rounds_succ]
    go_wp2
    rw [rounds_succ]
    go_wp2
    rw [rounds_succ]
    go_wp2
    all_goals
      go_ret2
      exact ⟨ret_size HT.out (tokN_four_bad _ _ _ _ _ c6 c4 (by omega)) (by omega), rfl⟩
  have V := Lib.hid (show four b0 b1 b2 b3 = four b0 b1 b2 b3 from rfl)
  by_cases v1 : four b0 b1 b2 b3 < 65536
  ·
    have hbad := Lib.hid (tokN_four_bad s.size b0 b1 b2 b3 c6 c4 (by omega))
    unfold four at v1
    go_enter Tryz.func311, Tryz.ntmps311
    go_wp2
    refine wp_loop_rounds 4 ?_
    rw [rounds_succ]
    go_wp2
    rw [rounds_succ]
    go_wp2
    rw [rounds_succ]
    go_wp2
    rw [rounds_succ]
    go_wp2
    all_goals
      go_ret2
      exact ⟨ret_size HT.out (hbad.out) (by omega), rfl⟩
  by_cases v2 : 1114111 < four b0 b1 b2 b3
  ·
    have hbad := Lib.hid (tokN_four_bad s.size b0 b1 b2 b3 c6 c4 (by omega))
    unfold four at v1 v2
    go_enter Tryz.func311, Tryz.ntmps311
    go_wp2
    refine wp_loop_rounds 4 ?_
    rw [rounds_succ]
    go_wp2
    rw [rounds_succ]
    go_wp2
    rw [rounds_succ]
    go_wp2
    rw [rounds_succ]
    go_wp2
    all_goals
      go_ret2
      exact ⟨ret_size HT.out (hbad.out) (by omega), rfl⟩
  have hgood := Lib.hid (tokN_four s.size b0 b1 b2 b3 c6 c4 (by omega) (by omega) (by omega) (by omega) (by omega) (by omega) (by omega) (by omega) (by omega))
  unfold four at v1 v2 hgood
  go_enter Tryz.func311, Tryz.ntmps311
  go_wp2
  refine wp_loop_rounds 4 ?_
  rw [rounds_succ]
  go_wp2
  rw [rounds_succ]
  go_wp2
  rw [rounds_succ]
  go_wp2
  rw [rounds_succ]
  go_wp2
  all_goals
    go_ret2
    exact ⟨ret_size HT.out (hgood.out) (by omega), rfl⟩
end Go.Proofs.YtiaddfghojdgkaaGreatDoor
