/-
  The walks of the document's answer to layer 2 (bucketlineref2).
-/
import Derived.Test.YtiaddfghojdgkaaGreatDoorSegs
namespace Go.Proofs.YtiaddfghojdgkaaGreatDoor
open Go.RowKit Go.Shelf

theorem held_max (n : Int) : max 0 (min n 1099511627776) = ((Num.held n : Nat) : Int) := by
  unfold Num.held
  split
  · omega
  split <;> omega
set_option maxHeartbeats 1000000 in
set_option maxRecDepth 100000 in
theorem rput_any (n : Int) (w : World) :
    Calls Tryz.prog 166 #[.int .i64 n] w fun e w' => ∃ r : ByteArray, e = .returned (.string r) ∧ Hid (r.data.toList = Num.put (Num.held n)) ∧ r.size ≤ 6 ∧ Below w.heap.size w w' := by
  have hh := Num.held_le n
  have hl6 := Num.put_le6 _ hh
  have hmx := held_max n
  obtain ⟨h, hhe⟩ : ∃ h, Num.held n = h := ⟨_, rfl⟩
  rw [hhe] at hh hl6 hmx ⊢
  clear hhe
  go_enter Tryz.func166, Tryz.ntmps166
  go_wp2
  go_loopw [0, 3] (fun nv bv wr => ∃ (m : Nat) (acc : List UInt8), nv = .int .i64 (m : Int) ∧ m ≤ 1099511627776 ∧ wr.ownsRow w.heap.size 5 1 bv acc.length (Lib.byteCells acc) ∧ Below w.heap.size w wr ∧ acc ++ Num.put m = Num.put h) (fun nv _ _ => (intOf nv).toNat)
  case atStart => exact ⟨h, [], rfl, hh, World.ownsRow_nil _ _ _ _, Below.refl _ _, rfl⟩
  case round =>
    obtain ⟨m, acc, rfl, hm, hown, hbw, hacc⟩ := hrel
    have HA := Lib.hid hacc
    have hal : acc.length ≤ 6 := by rw [← hacc, List.length_append] at hl6; omega
    have hbs := hbw.size
    clear hacc hmx
    by_cases hp : (128 : Int) ≤ m
    · go_wp2_with (at_builtin; refine wpList_append_new rfl _ _ _ rfl byteT rfl hown hbw hbs _ _ rfl rfl (by simp [Value.oneCell']) (by omega) ?_)
      intro v' w2 hown' _ hbw2 _
      rw [byteCells_snoc acc (m % 128 + 128).toUInt8 _ (by rw [Num.toU8_nat _ (by omega)]; omega)] at hown'
      have HF := Lib.hid (show (acc ++ [(m % 128 + 128).toUInt8]) ++ Num.put (m / 128) = Num.put h by rw [← HA.out, Num.put_large m (by omega)]; simp)
      clear hown HA
      go_wp2
      exact ⟨⟨m / 128, acc ++ [(m % 128 + 128).toUInt8], by go_num, by omega, by simpa using hown', hbw2, HF.out⟩, by simp [intOf]; omega⟩
    · go_wp2_with (at_builtin; refine wpList_append_new rfl _ _ _ rfl byteT rfl hown hbw hbs _ _ rfl rfl (by simp [Value.oneCell']) (by omega) ?_)
      intro v' w2 hown' _ hbw2 _
      rw [byteCells_snoc acc m.toUInt8 _ (by rw [Num.toU8_nat _ (by omega)])] at hown'
      have HF := Lib.hid (show acc ++ [m.toUInt8] = Num.put h by rw [← HA.out, Num.put_small m (by omega)])
      have hstr := run_string_owned (acc := acc ++ [m.toUInt8]) (by simpa using hown')
      clear hown HA
      go_wp2
      go_ret
      rw [HF.out]
      exact ⟨_, rfl, Lib.hid rfl, by rw [Lib.size_eq]; exact hl6, hbw2⟩
set_option maxHeartbeats 1000000 in
set_option maxRecDepth 100000 in
theorem rtake_any (s : ByteArray) (w : World) (hs : s.size ≤ 1000000000000) :
    Calls Tryz.prog 81 #[.string s] w fun e w' => ∃ (n : Nat) (r : ByteArray) (c : Nat), e = .returned (.tuple #[.int .i64 n, .string r, .int .i64 c]) ∧ Hid (Num.take s.data.toList = (n, r.data.toList, c)) ∧ Below w.heap.size w w' := by
  have HS := Lib.hid (show Num.takeF 0 0 (s.data.toList.drop 0) = Num.take s.data.toList from rfl)
  have HL := Lib.hid (Lib.size_eq s)
  go_enter Tryz.func81, Tryz.ntmps81
  go_wp2
  go_loopw [5, 6, 7] (fun nv uv iv wr => ∃ (i n u : Nat), nv = .int .i64 (n : Int) ∧ uv = .int .i64 (u : Int) ∧ iv = .int .i64 (i : Int) ∧ i ≤ s.size ∧ i ≤ 6 ∧ Hid (u = 128 ^ i) ∧ u ≤ 4398046511104 ∧ n < u ∧ wr = w ∧ Num.takeF i n (s.data.toList.drop i) = Num.take s.data.toList) (fun _ _ iv _ => s.size - (intOf iv).toNat)
  case atStart => exact ⟨0, 0, 1, rfl, rfl, rfl, by omega, by omega, Lib.hid rfl, by omega, by omega, rfl, HS.out⟩
  case round =>
    obtain ⟨i, n, u, rfl, rfl, rfl, hi, hi6, hu, hu1, hn, rfl, hT⟩ := hrel
    have HT := Lib.hid hT
    clear hT HS
    by_cases hp : i < s.size
    · have HD := Lib.hid (HT.out.symm.trans (congrArg (Num.takeF i n) (drop_head s i hp)))
      obtain ⟨c, hc⟩ : ∃ c, s[i] = c := ⟨_, rfl⟩
      rw [hc] at HD
      have hcl : c.toNat < 256 := c.toNat_lt
      obtain ⟨k, hk⟩ : ∃ k, c.toNat = k := ⟨_, rfl⟩
      rw [hk] at hcl
      by_cases h6 : i = 6
      · subst h6
        have HF := Lib.hid (show Num.take s.data.toList = (0, [], 2) by rw [HD.out, Num.takeF, if_pos rfl])
        clear hc hk
        go_wp2
        go_ret3
        exact ⟨0, _, 2, rfl, HF, Below.refl _ _⟩
      · have h6' : ((i : Int) == 6) = false := by simp; omega
        obtain ⟨P, hP⟩ : ∃ P : Nat, k % 128 * u = P := ⟨_, rfl⟩
        have hPl : P ≤ 127 * u := by rw [← hP]; exact Nat.mul_le_mul_right _ (by omega)
        have hO1 : wrap64 ((k : Int) % 128 * (u : Int)) = (P : Int) := (IntWalk.wrap64_in _ (by rw [show (k : Int) % 128 * (u : Int) = ((k % 128 * u : Nat) : Int) by simp, hP]; omega)).trans (by rw [show (k : Int) % 128 * (u : Int) = ((k % 128 * u : Nat) : Int) by simp, hP])
        have hO2 : wrap64 ((n : Int) + (P : Int)) = ((n + P : Nat) : Int) := (IntWalk.wrap64_in _ (by omega)).trans (by omega)
        have hO3 : wrap64 ((u : Int) * 128) = ((u * 128 : Nat) : Int) := (IntWalk.wrap64_in _ (by omega)).trans (by omega)
        have HU := Lib.hid (show u * 128 = 128 ^ (i + 1) by rw [hu.out, Nat.pow_succ])
        have HP := Lib.hid (show n + k % 128 * 128 ^ i = n + P by rw [← hu.out, hP])
        have HK := Lib.hid hk
        have hk2 : s[i].toNat = k := by rw [hc]; exact hk
        clear hP hc hk
        by_cases hc8 : 128 ≤ k
        · have hc8i : (128 : Int) ≤ (k : Int) := by omega
          have HF := Lib.hid (show Num.takeF (i + 1) (n + P) (s.data.toList.drop (i + 1)) = Num.take s.data.toList by
            rw [HD.out, Num.takeF, if_neg h6, if_pos (by rw [HK.out]; exact hc8), HK.out, HP.out])
          have hu2 : u * 128 ≤ 4398046511104 := by
            rw [HU.out]
            exact Nat.pow_le_pow_right (n := 128) (j := 6) (by decide) (by omega)
          have HI := Lib.hid (show Value.int .i64 ((n : Int) + (P : Int)) = .int .i64 ((n + P : Nat) : Int) ∧ Value.int .i64 ((u : Int) * 128) = .int .i64 ((u * 128 : Nat) : Int) ∧ Value.int .i64 ((i : Int) + 1) = .int .i64 ((i + 1 : Nat) : Int) ∧ n + P < u * 128 from ⟨by rw [Int.natCast_add], by rw [Int.natCast_mul]; rfl, by rw [Int.natCast_add]; rfl, by omega⟩)
          go_wp2
          exact ⟨⟨i + 1, n + P, u * 128, HI.out.1, HI.out.2.1, HI.out.2.2.1, by omega, by omega, HU, hu2, HI.out.2.2.2, trivial, HF.out⟩, by simp [intOf]; omega⟩
        · have hc8i : ¬ (128 : Int) ≤ (k : Int) := by omega
          obtain ⟨m, hm⟩ : ∃ m, n + P = m := ⟨_, rfl⟩
          rw [hm] at hO2 HP
          have hmb : m ≤ 600000000000000 := by omega
          have HD2 := Lib.hid (show Num.take s.data.toList = if k = 0 ∧ 0 < i then (0, [], 2) else if 1099511627776 < m then (0, [], 4) else (m, s.data.toList.drop (i + 1), 0) by
            rw [HD.out, Num.takeF, if_neg h6, if_neg (by rw [HK.out]; exact hc8), HK.out, HP.out])
          clear HD HP HU HK HT hPl hm
          by_cases hz : k = 0 ∧ 0 < i
          · obtain ⟨hz1, hz2⟩ := hz
            have HF := Lib.hid (show Num.take s.data.toList = (0, [], 2) by rw [HD2.out, if_pos ⟨hz1, hz2⟩])
            have hi0 : (0 : Int) < i := by omega
            have hkz : s[i].toNat = 0 := hk2.trans hz1
            clear HD2 hk2
            subst hz1
            go_wp2
            go_ret3
            exact ⟨0, _, 2, rfl, HF, Below.refl _ _⟩
          · have hzb : ((k : Int) == 0) = false ∨ (((k : Int) == 0) = true ∧ ¬ (0 : Int) < i) := by
              by_cases hk0 : k = 0
              · right; simp [hk0]; omega
              · left; simp; omega
            by_cases hm1 : 1099511627776 < m
            · have hm2 : (1099511627776 : Int) < m := by omega
              have HF := Lib.hid (show Num.take s.data.toList = (0, [], 4) by rw [HD2.out, if_neg hz, if_pos hm1])
              clear HD2 hz
              rcases hzb with hzb | ⟨hzb, hzc⟩
              · go_wp2
                all_goals go_ret3
                all_goals exact ⟨0, _, 4, rfl, HF, Below.refl _ _⟩
              · go_wp2
                all_goals go_ret3
                all_goals exact ⟨0, _, 4, rfl, HF, Below.refl _ _⟩
            · have hm2 : ¬ (1099511627776 : Int) < m := by omega
              have HF := Lib.hid (show Num.take s.data.toList = (m, (s.extract (i + 1) s.size).data.toList, 0) by rw [HD2.out, if_neg hz, if_neg hm1, extract_to])
              clear HD2 hz
              rcases hzb with hzb | ⟨hzb, hzc⟩
              · go_wp2
                all_goals go_quiet (fail)
                all_goals go_wp2
                all_goals go_ret3
                all_goals exact ⟨m, _, 0, rfl, HF, below_drewN (Below.refl _ _) _⟩
              · go_wp2
                all_goals go_quiet (fail)
                all_goals go_wp2
                all_goals go_ret3
                all_goals exact ⟨m, _, 0, rfl, HF, below_drewN (Below.refl _ _) _⟩
    · obtain rfl : i = s.size := by omega
      have HF := Lib.hid (show Num.take s.data.toList = (0, [], 3) by rw [← HT.out, List.drop_of_length_le (by have := HL.out; omega)]; rfl)
      go_wp2
      go_ret3
      exact ⟨0, _, 3, rfl, HF, Below.refl _ _⟩
set_option maxRecDepth 100000 in
theorem rputInt_any (n : Int) (w : World) :
    Calls Tryz.prog 324 #[.int .i64 n] w fun e w' => ∃ r : ByteArray, e = .returned (.string r) ∧ Hid (r.data.toList = Num.putInt n) ∧ r.size ≤ 6 ∧ Below w.heap.size w w' := by
  have hh := Num.heldInt_le n
  have hz := Num.zig_le n
  have hmx : max (-549755813888) (min n 549755813888) = Num.heldInt n := by
    unfold Num.heldInt
    split
    · omega
    split <;> omega
  have HP := Lib.hid (show Num.putInt n = Num.put (Num.zig (Num.heldInt n)) from rfl)
  obtain ⟨h, hhe⟩ : ∃ h, Num.heldInt n = h := ⟨_, rfl⟩
  rw [hhe] at hh hmx HP hz
  clear hhe
  obtain ⟨z, hzd⟩ : ∃ z, Num.zig h = z := ⟨_, rfl⟩
  have hze : (0 ≤ h ∧ (z : Int) = 2 * h) ∨ (¬ 0 ≤ h ∧ (z : Int) = -2 * h - 1) := by
    rw [← hzd]
    unfold Num.zig
    by_cases h0 : 0 ≤ h
    · left; rw [if_pos h0]; omega
    · right; rw [if_neg h0]; omega
  rw [hzd] at HP hz
  clear hzd
  rcases hze with ⟨h0, hzi⟩ | ⟨h0, hzi⟩
  · have HZ := Lib.hid hzi
    have HZ2 := Lib.hid hz
    clear hzi hz
    go_enter Tryz.func324, Tryz.ntmps324
    go_wp2_with fail
    refine (rput_any _ w).mono ?_
    rintro e w1 ⟨r, rfl, hr, hr6, hb⟩
    have HR := Lib.hid (show r.data.toList = Num.putInt n by
      rw [hr.out, HP.out]
      exact congrArg Num.put ((congrArg Num.held (by have := HZ.out; omega)).trans (Num.held_of z HZ2.out)))
    clear hr
    go_wp2
    go_ret
    exact ⟨r, rfl, HR, hr6, hb⟩
  · have HZ := Lib.hid hzi
    have HZ2 := Lib.hid hz
    clear hzi hz
    go_enter Tryz.func324, Tryz.ntmps324
    go_wp2_with fail
    refine (rput_any _ w).mono ?_
    rintro e w1 ⟨r, rfl, hr, hr6, hb⟩
    have HR := Lib.hid (show r.data.toList = Num.putInt n by
      rw [hr.out, HP.out]
      exact congrArg Num.put ((congrArg Num.held (by have := HZ.out; omega)).trans (Num.held_of z HZ2.out)))
    clear hr
    go_wp2
    go_ret
    exact ⟨r, rfl, HR, hr6, hb⟩
set_option maxRecDepth 100000 in
theorem rtakeInt_any (s : ByteArray) (w : World) (hs : s.size ≤ 1000000000000) :
    Calls Tryz.prog 254 #[.string s] w fun e w' => ∃ (n : Int) (r : ByteArray) (c : Nat), e = .returned (.tuple #[.int .i64 n, .string r, .int .i64 c]) ∧ Hid (c = 0 ∧ Num.takeInt s.data.toList = (n, r.data.toList, 0) ∨ c ≠ 0 ∧ n = 0 ∧ r = ⟨#[]⟩ ∧ (Num.takeInt s.data.toList).2.2 = c) ∧ Below w.heap.size w w' := by
  go_enter Tryz.func254, Tryz.ntmps254
  go_wp2_with fail
  refine (rtake_any s w hs).mono ?_
  rintro e w1 ⟨n, r, c, rfl, HT, hb⟩
  have hn : n ≤ 1099511627776 := by have := (Num.take_le s.data.toList).1; rw [HT.out] at this; exact this
  by_cases hc : c = 0
  · subst hc
    have HF := Lib.hid (show Num.takeInt s.data.toList = (Num.zag n, r.data.toList, 0) by unfold Num.takeInt; rw [HT.out])
    by_cases h2 : n % 2 = 0
    · have hm : (n : Int) % 2 = 0 := by omega
      have hz : Num.zag n = (n : Int) / 2 := by unfold Num.zag; rw [if_pos h2]; omega
      rw [hz] at HF
      clear HT h2 hz
      go_wp2
      all_goals go_ret3
      all_goals exact ⟨_, _, 0, rfl, Lib.hid (.inl ⟨rfl, HF.out⟩), hb⟩
    · have hm : ¬ (n : Int) % 2 = 0 := by omega
      have hmb : ((n : Int) % 2 == 0) = false := by rw [beq_eq_false_iff_ne]; exact hm
      have hw : wrap64 ((n : Int) + 1) = (n : Int) + 1 := IntWalk.wrap64_in _ (by omega)
      have hw2 : wrap64 (-((n : Int) + 1)) = -((n : Int) + 1) := IntWalk.wrap64_in _ (by omega)
      have hw3 : wrap64 (-((n : Int) + 1).tdiv 2) = -((n : Int) + 1).tdiv 2 := IntWalk.wrap64_in _ (by rw [Int.tdiv_eq_ediv_of_nonneg (by omega)]; omega)
      have hz : Num.zag n = -((n : Int) + 1).tdiv 2 := by
        unfold Num.zag; rw [if_neg h2, Int.tdiv_eq_ediv_of_nonneg (by omega)]; omega
      rw [hz] at HF
      clear HT h2 hz
      go_wp2
      all_goals go_ret3
      all_goals exact ⟨_, _, 0, rfl, Lib.hid (.inl ⟨rfl, by first | exact HF.out | (rw [hw3]; exact HF.out)⟩), hb⟩
  · have hc1 : ((c : Int) != 0) = true := by simp; omega
    have HF := Lib.hid (show (Num.takeInt s.data.toList).2.2 = c by unfold Num.takeInt; rw [HT.out])
    have HC := Lib.hid hc
    clear HT hc
    go_wp2
    go_ret3
    exact ⟨_, _, c, rfl, Lib.hid (.inr ⟨HC.out, rfl, rfl, HF.out⟩), hb⟩
theorem rputText_any (s : ByteArray) (w : World) (hs : s.size ≤ 1000000000000) :
    Calls Tryz.prog 283 #[.string s] w fun e w' => ∃ r : ByteArray, e = .returned (.string r) ∧ Hid (r.data.toList = Num.putText s.data.toList) ∧ r.size ≤ s.size + 6 ∧ Below w.heap.size w w' := by
  have HP := Lib.hid (show Num.putText s.data.toList = Num.put (Num.held (s.size : Int)) ++ s.data.toList by rw [Lib.size_eq]; rfl)
  go_enter Tryz.func283, Tryz.ntmps283
  go_wp2_with fail
  refine (rput_any _ w).mono ?_
  rintro e w1 ⟨r, rfl, HR, hr6, hb⟩
  obtain ⟨q, hq, hq2, hq3⟩ := str_of (Num.putText s.data.toList)
  have hadd : ∀ w, (Op.stringOp .add r s).run Tryz.prog w = .ok (.string q) w := fun w => add_lists w r s q (by omega) (by rw [HR.out, hq2, HP.out])
  have hqs : q.size ≤ s.size + 6 := by rw [hq3, HP.out, ← HR.out, List.length_append, ← Lib.size_eq, ← Lib.size_eq]; omega
  have HQ := Lib.hid hq2
  clear hq hq2 hq3 HR HP
  go_wp2
  go_ret
  exact ⟨q, rfl, HQ, hqs, hb⟩
set_option maxRecDepth 100000 in
theorem rfixed_any (n : Nat) (w : World) (hn : n < 4294967296) :
    Calls Tryz.prog 281 #[.int .u32 n] w fun e w' => ∃ r : ByteArray, e = .returned (.string r) ∧ Hid (r.data.toList = Num.fixed n) ∧ r.size = 4 ∧ Below w.heap.size w w' := by
  have hown : (w.alloc (.cells #[.int .u8 ((n : Int) / 16777216), .int .u8 ((n : Int) / 65536 % 256), .int .u8 ((n : Int) / 256 % 256), .int .u8 ((n : Int) % 256)] 5)).ownsRow w.heap.size 5 1 (.slice (some ⟨w.heap.size, 0, none⟩) 4 4) (Num.fixed n).length (Lib.byteCells (Num.fixed n)) :=
    ⟨rfl, .inr ⟨w.heap.size, 4, _, rfl, Nat.le_refl _, heap_alloc_new w _, Nat.le_refl _, by decide, rfl, fixed_cells n hn⟩⟩
  have hstr := run_string_owned hown
  clear hown
  obtain ⟨q, hq, hq2, hq3⟩ := str_of (Num.fixed n)
  rw [hq] at hstr
  have HQ := Lib.hid hq2
  clear hq hq2
  go_enter Tryz.func281, Tryz.ntmps281
  go_wp2
  go_ret
  exact ⟨q, rfl, HQ, hq3, (Below.refl _ _).alloc (Nat.le_refl _) _⟩
set_option maxHeartbeats 1000000 in
theorem rtakeText_any (s : ByteArray) (long : Int) (w : World) (hs : s.size ≤ 1000000000000) :
    Calls Tryz.prog 253 #[.string s, .int .i64 long] w fun e w' => ∃ (a r : ByteArray) (c : Nat), e = .returned (.tuple #[.string a, .string r, .int .i64 c]) ∧ Hid (Num.takeText s.data.toList long = (a.data.toList, r.data.toList, c)) ∧ Below w.heap.size w w' := by
  go_enter Tryz.func253, Tryz.ntmps253
  go_wp2_with fail
  refine (rtake_any s w hs).mono ?_
  rintro e w1 ⟨n, r, c, rfl, HT, hb⟩
  have HU := Lib.hid (show Num.takeText s.data.toList long = if c ≠ 0 then ([], [], c) else if long < (n : Int) then ([], [], 4) else if r.data.toList.length < n then ([], [], 3) else (r.data.toList.take n, r.data.toList.drop n, 0) by unfold Num.takeText; rw [HT.out])
  have hrs : r.size ≤ s.size := by have := (Num.take_le s.data.toList).2.1; rw [HT.out, ← Lib.size_eq, ← Lib.size_eq] at this; exact this
  have hn : n ≤ 1099511627776 := by have := (Num.take_le s.data.toList).1; rw [HT.out] at this; exact this
  clear HT
  by_cases hc : c = 0
  · subst hc
    by_cases h1 : long < (n : Int)
    · have HF := Lib.hid (show Num.takeText s.data.toList long = ([], [], 4) by rw [HU.out, if_neg (by simp), if_pos h1])
      go_wp2
      go_ret3
      exact ⟨_, _, 4, rfl, HF, hb⟩
    · by_cases h2 : (r.size : Int) < (n : Int)
      · have HF := Lib.hid (show Num.takeText s.data.toList long = ([], [], 3) by rw [HU.out, if_neg (by simp), if_neg h1, if_pos (by rw [← Lib.size_eq]; omega)])
        go_wp2
        go_ret3
        exact ⟨_, _, 3, rfl, HF, hb⟩
      · have h3 : (n : Int) ≤ r.size := by omega
        have HF := Lib.hid (show Num.takeText s.data.toList long = ((r.extract 0 n).data.toList, (r.extract n r.size).data.toList, 0) by
          rw [HU.out, if_neg (by simp), if_neg h1, if_neg (by rw [← Lib.size_eq]; omega), extract_front, extract_to])
        go_wp2
        go_quiet (fail)
        go_wp2
        go_ret3
        exact ⟨_, _, 0, rfl, HF, below_drewN hb _⟩
  · have hc1 : ((c : Int) != 0) = true := by simp; omega
    have HF := Lib.hid (show Num.takeText s.data.toList long = ([], [], c) by rw [HU.out, if_pos hc])
    go_wp2
    go_ret3
    exact ⟨_, _, c, rfl, HF, hb⟩
set_option maxHeartbeats 1000000 in
set_option maxRecDepth 100000 in
theorem rtakeFixed_any (s : ByteArray) (w : World) (hs : s.size ≤ 1000000000000) :
    Calls Tryz.prog 197 #[.string s] w fun e w' => ∃ (n : Nat) (r : ByteArray) (c : Nat), e = .returned (.tuple #[.int .u32 n, .string r, .int .i64 c]) ∧ Hid (Num.takeFixed s.data.toList = (n, r.data.toList, c)) ∧ n < 4294967296 ∧ Below w.heap.size w w' := by
  by_cases h4 : s.size < 4
  · have HF := Lib.hid (Num.takeFixed_short s.data.toList (by rw [← Lib.size_eq]; exact h4))
    go_enter Tryz.func197, Tryz.ntmps197
    go_wp2
    go_ret3
    exact ⟨0, _, 3, rfl, HF, by omega, Below.refl _ _⟩
  · have HL := Lib.hid (Lib.size_eq s)
    go_enter Tryz.func197, Tryz.ntmps197
    go_wp2
    go_loopw [5, 6] (fun nv iv wr => ∃ (i n : Nat), nv = .int .u32 (n : Int) ∧ iv = .int .i64 (i : Int) ∧ i ≤ 4 ∧ n = fx (s.data.toList.take i) ∧ wr = w) (fun _ iv _ => 4 - (intOf iv).toNat)
    case atStart => exact ⟨0, 0, rfl, rfl, by omega, rfl, rfl⟩
    case round =>
      obtain ⟨i, n, rfl, rfl, hi, hn, rfl⟩ := hrel
      have HN := Lib.hid hn
      clear hn
      have hlen : (s.data.toList.take i).length = i := by rw [List.length_take, ← Lib.size_eq]; omega
      by_cases hp : i < 4
      · have hps : i < s.size := by omega
        have hn4 : n < 16777216 := by
          have h1 := fx_lt (s.data.toList.take i)
          rw [hlen, ← HN.out] at h1
          have h2 := Nat.pow_le_pow_right (n := 256) (by decide) (show i ≤ 3 by omega)
          have h3 : (256 : Nat) ^ 3 = 16777216 := by decide
          omega
        obtain ⟨c, hc⟩ : ∃ c, s[i] = c := ⟨_, rfl⟩
        have hcl : c.toNat < 256 := c.toNat_lt
        have HF := Lib.hid (show n * 256 + c.toNat = fx (s.data.toList.take (i + 1)) by
          rw [HN.out, ← fx_snoc]
          congr 1
          rw [List.take_add_one, ← List.head?_drop, drop_head s i hps, hc]; rfl)
        obtain ⟨k, hk⟩ : ∃ k, c.toNat = k := ⟨_, rfl⟩
        have hk2 : s[i].toNat = k := by rw [hc]; exact hk
        rw [hk] at hcl HF
        have hO := fix_or n k hn4 hcl
        clear hc hk hlen HN
        go_wp2
        exact ⟨⟨i + 1, n * 256 + k, by simp, by go_num, by omega, HF.out, trivial⟩, by simp [intOf]; omega⟩
      · obtain rfl : i = 4 := by omega
        have HF := Lib.hid (show Num.takeFixed s.data.toList = (n, (s.extract 4 s.size).data.toList, 0) by
          rw [takeFixed_fx _ (by rw [← Lib.size_eq]; omega), HN.out, extract_to])
        have hn4 : n < 4294967296 := by
          have h1 := fx_lt (s.data.toList.take 4)
          rw [hlen, ← HN.out] at h1
          exact h1
        clear HN hlen
        go_wp2
        go_quiet (fail)
        go_wp2
        go_ret3
        exact ⟨n, _, 0, rfl, HF, hn4, below_drewN (Below.refl _ _) _⟩
end Go.Proofs.YtiaddfghojdgkaaGreatDoor
