/-
  The walks of the document's answers to layers 3 and 4 (bucketlineref3, bucketlineref4).
-/
import Derived.Test.YtiaddfghojdgkaaGreatDoorRNum
namespace Go.Proofs.YtiaddfghojdgkaaGreatDoor
open Go.RowKit Go.Shelf

theorem cells_sliceV {w : World} {v : Value} {sz n : Nat} {xs : List Value} (h : Cells w v sz n xs) : ∃ va vc, v = .slice va n vc := by
  rcases cellsNil h with ⟨h0, a, c, rfl⟩ | ⟨b, o, c, rfl⟩
  · exact ⟨a, c, by rw [h0]⟩
  · exact ⟨_, _, rfl⟩
def Crc.stepK : Nat → Nat → Nat
  | 0, r => r
  | k + 1, r => Crc.stepK k (Crc.step r)
theorem Crc.stepK8 (r c : Nat) (hc : c < 256) : Crc.stepK 8 (r ^^^ c) = Crc.byte r c := by rw [← Crc.bits_byte r c hc]; rfl
theorem Crc.step_lt' {r : Nat} (h : r < 4294967296) : Crc.step r < 4294967296 := by
  unfold Crc.step
  split
  · exact Nat.xor_lt_two_pow (n := 32) (by omega) (by decide)
  · omega
set_option maxHeartbeats 2000000 in
set_option maxRecDepth 100000 in
theorem rupdate_any (sum : Nat) (s : ByteArray) (w : World) (hs : s.size ≤ 1000000000000) (hsum : sum < 4294967296) :
    Calls Tryz.prog 275 #[.int .u32 sum, .string s] w fun e w' => e = .returned (.int .u32 (Crc.upd sum s.data.toList : Nat)) ∧ w' = w := by
  have hX0 : bits .xor .u32 IntKind.u32.max (sum : Int) = ((4294967295 ^^^ sum : Nat) : Int) := xor32 4294967295 sum (by omega) hsum
  have hr0 : 4294967295 ^^^ sum < 4294967296 := Crc.xor_lt (by omega) hsum
  have HU := Lib.hid (show 4294967295 ^^^ Crc.run (Crc.run (4294967295 ^^^ sum) []) (s.data.toList.drop 0) = Crc.upd sum s.data.toList from rfl)
  obtain ⟨r0, hr00⟩ : ∃ r0, 4294967295 ^^^ sum = r0 := ⟨_, rfl⟩
  rw [hr00] at hX0 hr0 HU
  clear hr00
  go_enter Tryz.func275, Tryz.ntmps275
  go_wp2
  go_loopw [5, 6] (fun rv iv wr => ∃ (i r : Nat), rv = .int .u32 (r : Int) ∧ iv = .int .i64 (i : Int) ∧ i ≤ s.size ∧ r < 4294967296 ∧ 4294967295 ^^^ Crc.run r (s.data.toList.drop i) = Crc.upd sum s.data.toList ∧ wr = w) (fun _ iv _ => s.size - (intOf iv).toNat)
  case atStart => exact ⟨0, r0, rfl, rfl, by omega, hr0, HU.out, rfl⟩
  case round =>
    obtain ⟨i, r, rfl, rfl, hi, hr, hrun, rfl⟩ := hrel
    have HR := Lib.hid hrun
    clear hrun HU hX0
    by_cases hp : i < s.size
    · obtain ⟨c, hc⟩ : ∃ c, s[i] = c := ⟨_, rfl⟩
      have hcl : c.toNat < 256 := c.toNat_lt
      have HF := Lib.hid (show 4294967295 ^^^ Crc.run (Crc.byte r c.toNat) (s.data.toList.drop (i + 1)) = Crc.upd sum s.data.toList by rw [← HR.out, drop_head s i hp, hc]; rfl)
      obtain ⟨k, hk⟩ : ∃ k, c.toNat = k := ⟨_, rfl⟩
      have hk2 : s[i].toNat = k := by rw [hc]; exact hk
      rw [hk] at hcl HF
      clear hc hk HR
      have hX1 : bits .xor .u32 (r : Int) (k : Int) = ((r ^^^ k : Nat) : Int) := xor32 r k hr (by omega)
      have hr1 : r ^^^ k < 4294967296 := Crc.xor_lt hr (by omega)
      have H8 := Lib.hid (Crc.stepK8 r k hcl)
      obtain ⟨r1, hr1e⟩ : ∃ r1, r ^^^ k = r1 := ⟨_, rfl⟩
      rw [hr1e] at hX1 hr1 H8
      clear hr1e
      go_wp2
      go_loopw [5, 7] (fun rv jv wx => ∃ (j q : Nat), rv = .int .u32 (q : Int) ∧ jv = .int .i64 (j : Int) ∧ j ≤ 8 ∧ q < 4294967296 ∧ Hid (Crc.stepK (8 - j) q = Crc.byte r k) ∧ wx = wr) (fun _ jv _ => 8 - (intOf jv).toNat)
      case atStart => exact ⟨0, r1, rfl, rfl, by omega, hr1, H8, rfl⟩
      case round =>
        obtain ⟨j, q, rfl, rfl, hj, hq, hst, rfl⟩ := hrel
        by_cases hj8 : j < 8
        · have hA := and32_1 q hq
          have HS := Lib.hid (show Crc.stepK (8 - (j + 1)) (Crc.step q) = Crc.byte r k by
            rw [← hst.out, show 8 - j = (8 - (j + 1)) + 1 by omega]; rfl)
          have hsl := Crc.step_lt' hq
          rcases Nat.mod_two_eq_zero_or_one q with h2 | h2
          · rw [h2] at hA
            have hse : Crc.step q = q / 2 := by unfold Crc.step; rw [if_neg (by omega)]
            rw [hse] at HS hsl
            clear h2 hse
            go_wp2
            exact ⟨⟨j + 1, q / 2, by go_num, by go_num, by omega, hsl, HS, trivial⟩, by simp [intOf]; omega⟩
          · rw [h2] at hA
            have hse : Crc.step q = (q / 2) ^^^ 3988292384 := by unfold Crc.step; rw [if_pos h2]
            have hX2 : bits .xor .u32 ((q : Int) / 2) 3988292384 = (((q / 2) ^^^ 3988292384 : Nat) : Int) := xor32 (q / 2) 3988292384 (by omega) (by decide)
            rw [hse] at HS hsl
            obtain ⟨z, hz⟩ : ∃ z, (q / 2) ^^^ 3988292384 = z := ⟨_, rfl⟩
            rw [hz] at HS hsl hX2
            clear h2 hse hz
            go_wp2
            exact ⟨⟨j + 1, z, by go_num, by go_num, by omega, hsl, HS, trivial⟩, by simp [intOf]; omega⟩
        · obtain rfl : j = 8 := by omega
          have hqe : q = Crc.byte r k := hst.out
          have HF2 := Lib.hid (show 4294967295 ^^^ Crc.run q (s.data.toList.drop (i + 1)) = Crc.upd sum s.data.toList by rw [hqe]; exact HF.out)
          clear hqe hst HF H8
          go_wp2
          exact ⟨⟨i + 1, q, rfl, by go_num, by omega, hq, HF2.out, trivial⟩, by simp [intOf]; omega⟩
    · obtain rfl : i = s.size := by omega
      have hX1 : bits .xor .u32 IntKind.u32.max (r : Int) = ((4294967295 ^^^ r : Nat) : Int) := xor32 4294967295 r (by omega) hr
      have HF := Lib.hid (show 4294967295 ^^^ r = Crc.upd sum s.data.toList by rw [← HR.out, List.drop_of_length_le (by rw [← Lib.size_eq]; omega)]; rfl)
      obtain ⟨q, hq⟩ : ∃ q, 4294967295 ^^^ r = q := ⟨_, rfl⟩
      rw [hq] at hX1 HF
      clear hq HR
      go_wp2
      go_ret
      rw [← HF.out]
      exact ⟨rfl, rfl⟩
theorem rsum_any (s : ByteArray) (w : World) (hs : s.size ≤ 1000000000000) :
    Calls Tryz.prog 198 #[.string s] w fun e w' => e = .returned (.int .u32 (Crc.sum s.data.toList : Nat)) ∧ w' = w := by
  have HC := Lib.hid (rupdate_any 0 s w hs (by decide))
  go_enter Tryz.func198, Tryz.ntmps198
  go_wp2_with fail
  refine HC.out.mono ?_
  rintro e w1 ⟨rfl, rfl⟩
  go_wp2
  go_ret
  exact ⟨rfl, rfl⟩
set_option maxHeartbeats 1000000 in
theorem rframePut_any (s : ByteArray) (w : World) (hs : s.size ≤ 1000000000000) :
    Calls Tryz.prog 211 #[.string s] w fun e w' => ∃ (r : ByteArray) (c : Nat), e = .returned (.tuple #[.string r, .int .i64 c]) ∧ Hid (Frm.put s.data.toList = (r.data.toList, c)) ∧ r.size ≤ 8008 ∧ Below w.heap.size w w' := by
  have HL := Lib.hid (list_nil s)
  have HZ := Lib.hid (Lib.size_eq s)
  by_cases h0 : s.size = 0
  · have HF := Lib.hid (show Frm.put s.data.toList = ([], 2) by rw [Frm.put, if_pos (HL.out.2 h0)])
    have h0i : ((s.size : Int) == 0) = true := by rw [beq_iff_eq]; omega
    clear h0
    go_enter Tryz.func211, Tryz.ntmps211
    go_wp2
    go_ret2
    exact ⟨_, 2, rfl, HF, by decide, Below.refl _ _⟩
  · have h0i : ((s.size : Int) == 0) = false := by rw [beq_eq_false_iff_ne]; omega
    by_cases h1 : (8000 : Int) < s.size
    · have HF := Lib.hid (show Frm.put s.data.toList = ([], 4) by rw [Frm.put, if_neg (fun h => h0 (HL.out.1 h)), if_pos (by rw [← HZ.out]; omega)])
      go_enter Tryz.func211, Tryz.ntmps211
      go_wp2
      go_ret2
      exact ⟨_, 4, rfl, HF, by decide, Below.refl _ _⟩
    · have HF := Lib.hid (show Frm.put s.data.toList = (Frm.framed s.data.toList, 0) by rw [Frm.put, if_neg (fun h => h0 (HL.out.1 h)), if_neg (by rw [← HZ.out]; omega)])
      have hs8 : s.size ≤ 8000 := by omega
      go_enter Tryz.func211, Tryz.ntmps211
      go_wp2_with fail
      refine (rfixed_any s.size w (by omega)).mono ?_
      rintro e w1 ⟨q, rfl, HQ, hq4, b1⟩
      obtain ⟨C, hC, hC2, hC3⟩ := str_of (q.data.toList ++ s.data.toList)
      have haddc : ∀ w, (Op.stringOp .add q s).run Tryz.prog w = .ok (.string C) w := fun w => add_lists w q s C (by omega) hC2.symm
      have hCs : C.size ≤ 8004 := by rw [hC3, List.length_append, ← Lib.size_eq, ← Lib.size_eq]; omega
      have HSU := Lib.hid (rsum_any C w1 (by omega))
      have HCl := Lib.hid hC2
      clear hC hC2 hC3
      go_wp2_with fail
      refine HSU.out.mono ?_
      rintro e w2 ⟨rfl, rfl⟩
      have hlt : Crc.sum C.data.toList < 4294967296 := Crc.upd_lt (by decide) _
      obtain ⟨cs, hcs⟩ : ∃ cs, Crc.sum C.data.toList = cs := ⟨_, rfl⟩
      rw [hcs] at hlt ⊢
      clear HSU
      go_wp2_with fail
      refine (rfixed_any cs w2 hlt).mono ?_
      rintro e w4 ⟨f, rfl, HFx, hf4, b4⟩
      have hb4 : Below w.heap.size w w4 := Below.up b1 (Nat.le_refl _) b4
      obtain ⟨A, hA, hA2, hA3⟩ := str_of (q.data.toList ++ f.data.toList)
      obtain ⟨B, hB, hB2, hB3⟩ := str_of (q.data.toList ++ (f.data.toList ++ s.data.toList))
      have hadd1 : ∀ w, (Op.stringOp .add q f).run Tryz.prog w = .ok (.string A) w := fun w => add_lists w q f A (by omega) hA2.symm
      have hAs : A.size = 8 := by rw [hA3, List.length_append, ← Lib.size_eq, ← Lib.size_eq]; omega
      have hadd2 : ∀ w, (Op.stringOp .add A s).run Tryz.prog w = .ok (.string B) w := fun w => add_lists w A s B (by omega) (by rw [hA2, hB2]; simp)
      have hBs : B.size ≤ 8008 := by rw [hB3, List.length_append, List.length_append, ← Lib.size_eq, ← Lib.size_eq, ← Lib.size_eq]; omega
      have HF2 := Lib.hid (show Frm.put s.data.toList = (B.data.toList, 0) by
        rw [HF.out, hB2, HFx.out, HQ.out, ← hcs, HCl.out, HQ.out, HZ.out]; rfl)
      clear hA hB hA2 hB2 hA3 hB3 HF HQ HFx HCl hcs b1 b4
      go_wp2
      go_ret2
      exact ⟨B, 0, rfl, HF2, hBs, hb4⟩
set_option maxHeartbeats 1000000 in
theorem rframeTake_any (s : ByteArray) (w : World) (hs : s.size ≤ 1000000000000) :
    Calls Tryz.prog 163 #[.string s] w fun e w' => ∃ (a r : ByteArray) (c : Nat), e = .returned (.tuple #[.string a, .string r, .int .i64 c]) ∧ Hid (Frm.take s.data.toList = (a.data.toList, r.data.toList, c)) ∧ Below w.heap.size w w' := by
  have HZ := Lib.hid (Lib.size_eq s)
  by_cases h8 : s.size < 8
  · have HF := Lib.hid (show Frm.take s.data.toList = ([], [], 3) by rw [Frm.take, if_pos (by rw [← HZ.out]; exact h8)])
    go_enter Tryz.func163, Tryz.ntmps163
    go_wp2
    go_ret3
    exact ⟨_, _, 3, rfl, HF, Below.refl _ _⟩
  · have HU := Lib.hid (show Frm.take s.data.toList = _ by rw [Frm.take, if_neg (by rw [← HZ.out]; exact h8)])
    go_enter Tryz.func163, Tryz.ntmps163
    go_wp2_with fail
    refine (rtakeFixed_any s w hs).mono ?_
    rintro e w1 ⟨n, r, c, rfl, HT, hn, b1⟩
    obtain ⟨n', hn'⟩ := Num.takeFixed_of s.data.toList (by rw [← HZ.out]; omega)
    have hT := HT.out
    rw [hn'.1] at hT
    simp only [Prod.mk.injEq] at hT
    obtain ⟨rfl, hr, rfl⟩ := hT
    have hrs : r.size = s.size - 4 := by rw [Lib.size_eq, ← hr, List.length_drop, ← HZ.out]
    go_wp2_with fail
    refine (rtakeFixed_any r w1 (by omega)).mono ?_
    rintro e w2 ⟨m, q, c2, rfl, HT2, hm, b2⟩
    have hb2 := Below.up b1 (Nat.le_refl _) b2
    obtain ⟨m', hm'⟩ := Num.takeFixed_of r.data.toList (by rw [← Lib.size_eq]; omega)
    have hT2 := HT2.out
    rw [hm'.1] at hT2
    simp only [Prod.mk.injEq] at hT2
    obtain ⟨rfl, hq, rfl⟩ := hT2
    have hqs : q.size ≤ s.size := by rw [Lib.size_eq, ← hq, List.length_drop, ← Lib.size_eq]; omega
    have HU2 := Lib.hid (show Frm.take s.data.toList = if n' = 0 then ([], [], 2) else if 8000 < n' then ([], [], 4) else if q.data.toList.length < n' then ([], [], 3) else
        if Crc.sum (s.data.toList.take 4 ++ q.data.toList.take n') ≠ m' then ([], [], 5) else (q.data.toList.take n', q.data.toList.drop n', 0) by
      have e8 : s.data.toList.drop 8 = q.data.toList := by rw [← hq, ← hr, List.drop_drop]
      rw [HU.out, hn'.1, e8, hr, hm'.1])
    clear HU HT HT2 hq hr hn' hm' b1 b2 hrs
    by_cases h1 : n' = 0
    · subst h1
      have HF := Lib.hid (show Frm.take s.data.toList = ([], [], 2) by rw [HU2.out, if_pos rfl])
      go_wp2
      go_ret3
      exact ⟨_, _, 2, rfl, HF, hb2⟩
    · have h1b : ((n' : Int) == 0) = false := by simp; omega
      by_cases h2 : (8000 : Int) < n'
      · have HF := Lib.hid (show Frm.take s.data.toList = ([], [], 4) by rw [HU2.out, if_neg h1, if_pos (by omega)])
        go_wp2
        go_ret3
        exact ⟨_, _, 4, rfl, HF, hb2⟩
      · by_cases h3 : (q.size : Int) < n'
        · have HF := Lib.hid (show Frm.take s.data.toList = ([], [], 3) by rw [HU2.out, if_neg h1, if_neg (by omega), if_pos (by rw [← Lib.size_eq]; omega)])
          go_wp2
          go_ret3
          exact ⟨_, _, 3, rfl, HF, hb2⟩
        · have h4 : (n' : Int) ≤ q.size := by omega
          have h5 : n' ≤ 8000 := by omega
          obtain ⟨P, hP⟩ : ∃ P, q.extract 0 n' = P := ⟨_, rfl⟩
          obtain ⟨R, hR⟩ : ∃ R, q.extract n' q.size = R := ⟨_, rfl⟩
          obtain ⟨H, hH⟩ : ∃ H, s.extract 0 4 = H := ⟨_, rfl⟩
          have hPl : P.data.toList = q.data.toList.take n' := by rw [← hP, extract_front]
          have hRl : R.data.toList = q.data.toList.drop n' := by rw [← hR, extract_to]
          have hHl : H.data.toList = s.data.toList.take 4 := by rw [← hH, extract_front]
          have hPs : P.size = n' := by rw [← hP]; exact extract_front_size q n' (by omega)
          have hHs : H.size = 4 := by rw [← hH]; exact extract_front_size s 4 (by omega)
          obtain ⟨C, hC, hC2, hC3⟩ := str_of (H.data.toList ++ P.data.toList)
          have hadd : ∀ w, (Op.stringOp .add H P).run Tryz.prog w = .ok (.string C) w := fun w => add_lists w H P C (by omega) hC2.symm
          have hCs : C.size ≤ 8004 := by rw [hC3, List.length_append, ← Lib.size_eq, ← Lib.size_eq]; omega
          have HU3 := Lib.hid (show Frm.take s.data.toList = if Crc.sum C.data.toList ≠ m' then ([], [], 5) else (P.data.toList, R.data.toList, 0) by
            rw [HU2.out, if_neg h1, if_neg (by omega), if_neg (by rw [← Lib.size_eq]; omega), hC2, hPl, hRl, hHl])
          have HSM := Lib.hid (fun n => rsum_any C (w2.drewN n) (by omega))
          have HSM0 := Lib.hid (rsum_any C w2 (by omega))
          have HPS := Lib.hid hPs
          clear HU2 hPl hRl hHl hC hC2 hC3 hPs
          go_wp2_with fail
          refine HSM0.out.mono ?_
          rintro e w3 ⟨rfl, rfl⟩
          obtain ⟨cs, hcs⟩ : ∃ cs, Crc.sum C.data.toList = cs := ⟨_, rfl⟩
          rw [hcs] at HU3 ⊢
          clear HSM HSM0
          by_cases h6 : cs = m'
          · have h6b := bne_false h6
            have HF := Lib.hid (show Frm.take s.data.toList = (P.data.toList, R.data.toList, 0) by rw [HU3.out, if_neg (by simpa using h6)])
            go_wp2
            go_quiet (fail)
            go_wp2
            go_ret3
            exact ⟨P, R, 0, rfl, HF, below_drewN hb2 _⟩
          · have h6b := bne_true h6
            have HF := Lib.hid (show Frm.take s.data.toList = ([], [], 5) by rw [HU3.out, if_pos h6])
            go_wp2
            go_ret3
            exact ⟨_, _, 5, rfl, HF, hb2⟩
set_option maxHeartbeats 2000000 in
set_option maxRecDepth 100000 in
theorem rscan_any (s : ByteArray) (w : World) (hs : s.size ≤ 1073741824) :
    Calls Tryz.prog 80 #[.string s] w fun e w' => ∃ v at_, e = .returned (.tuple #[v, .int .i64 at_]) ∧ w'.ownsRow w.heap.size 9 1 v (Frm.scan s.data.toList).1.length (strCells (Frm.scan s.data.toList).1) ∧ Below w.heap.size w w' := by
  have HC := Lib.hid (Frm.scan_count s.data.toList.length s.data.toList (Nat.le_refl _))
  have HZ := Lib.hid (Lib.size_eq s)
  go_enter Tryz.func80, Tryz.ntmps80
  go_wp2
  go_loopw [4, 5] (fun ov lv wr => ∃ (v : Value) (acc : List (List UInt8)) (L : ByteArray), v = ov ∧ lv = .string L ∧ L.size ≤ s.size ∧ wr.ownsRow w.heap.size 9 1 v acc.length (strCells acc) ∧ Below w.heap.size w wr ∧ Hid (acc ++ (Frm.scan L.data.toList).1 = (Frm.scan s.data.toList).1)) (fun _ lv _ => strSize lv)
  case atStart => exact ⟨_, [], s, rfl, rfl, Nat.le_refl _, World.ownsRow_nil _ _ _ _, Below.refl _ _, Lib.hid rfl⟩
  case round =>
    obtain ⟨v, acc, L, rfl, rfl, hL, hown, hbw, hacc⟩ := hrel
    have hal : acc.length ≤ 200000000 := by
      have h1 := congrArg List.length hacc.out
      rw [List.length_append] at h1
      have h2 := HC.out
      have h3 := HZ.out
      omega
    have HO := Lib.hid hown
    clear hown
    go_wp2_with fail
    refine (rframeTake_any L wr (by omega)).mono ?_
    rintro e w1 ⟨P, R, c, rfl, HT, b1⟩
    have hbw1 := Below.up hbw (Nat.le_refl _) b1
    have hown1 := owns_next HO.out b1
    have hbs := hbw1.size
    clear b1 HO hbw
    by_cases hc : c = 0
    · subst hc
      have h0 : (Frm.take L.data.toList).2.2 = 0 := by rw [HT.out]
      have HA := Lib.hid (show (acc ++ [P.data.toList]) ++ (Frm.scan R.data.toList).1 = (Frm.scan s.data.toList).1 by
        rw [← hacc.out, Frm.scan_go _ h0, HT.out]; simp)
      have hle := (Frm.take_le L.data.toList).2.2 h0
      rw [HT.out] at hle
      have hlt : R.size < L.size := by have h9 := hle.2.2.1; simp only at h9; rw [Lib.size_eq, Lib.size_eq]; omega
      clear h0 hle HT hacc
      go_wp2_with (at_builtin; refine wpList_append_new rfl _ _ _ rfl strT rfl hown1 hbw1 hbs _ _ rfl rfl (by simp [Value.oneCell']) (by omega) ?_)
      intro v' w2 hown' _ hbw2 _
      have HO2 := Lib.hid (show w2.ownsRow w.heap.size 9 1 v' (acc ++ [P.data.toList]).length (strCells (acc ++ [P.data.toList])) by
        rw [List.length_append]
        have e : strCells (acc ++ [P.data.toList]) = strCells acc ++ [.string P] := by simp [strCells]
        rw [e]; exact hown')
      clear hown1 hown'
      go_wp2
      exact ⟨⟨v', _, R, rfl, rfl, by omega, HO2.out, hbw2, HA⟩, by simpa [strSize] using hlt⟩
    · have hc1 : ((c : Int) != 0) = true := by simp; omega
      have HF := Lib.hid (show acc = (Frm.scan s.data.toList).1 by
        rw [← hacc.out, Frm.scan_stop _ (by rw [HT.out]; exact hc)]; simp)
      have HO2 := Lib.hid hown1
      clear hc HT hacc hown1
      go_wp2
      go_ret2
      rw [← HF.out]
      exact ⟨v, _, rfl, HO2.out, hbw1⟩
set_option maxHeartbeats 2000000 in
set_option maxRecDepth 100000 in
theorem rrow_any (v : Value) (ws : List (List UInt8)) (w : World) (hc : Cells w v 1 ws.length (strCells ws)) (hn : ws.length ≤ 1000000) (hx : ∀ p ∈ ws, Frm.good p) :
    Calls Tryz.prog 168 #[v] w fun e w' => ∃ r : ByteArray, e = .returned (.tuple #[.string r, .int .i64 0]) ∧ Hid (r.data.toList = ws.flatMap Frm.framed) ∧ Below w.heap.size w w' := by
  have HX := Lib.hid hx
  obtain ⟨va, vc, rfl⟩ := cells_sliceV hc
  have HC := Lib.hid hc
  clear hx hc
  go_enter Tryz.func168, Tryz.ntmps168
  go_wp2
  go_loopw [4, 5] (fun sv iv wr => ∃ (i : Nat) (A : ByteArray), sv = .string A ∧ iv = .int .i64 i ∧ i ≤ ws.length ∧ Below w.heap.size w wr ∧ Hid (A.data.toList ++ (ws.drop i).flatMap Frm.framed = ws.flatMap Frm.framed) ∧ A.size ≤ i * 8008) (fun _ iv _ => ws.length - (intOf iv).toNat)
  case atStart => exact ⟨0, ⟨#[]⟩, rfl, rfl, by omega, Below.refl _ _, Lib.hid rfl, Nat.zero_le _⟩
  case round =>
    obtain ⟨i, A, rfl, rfl, hi, hbw, hacc, hAs⟩ := hrel
    by_cases hp : i < ws.length
    · obtain ⟨b', o', c', hv, hcell⟩ := strAt HC.out i hp
      cases hv
      have hcell2 := cell_kept hbw (Nat.le_refl _) hcell
      have hgood := HX.out _ (List.getElem_mem hp)
      have hdr : ws.drop i = ws[i] :: ws.drop (i + 1) := List.drop_eq_getElem_cons hp
      obtain ⟨x, hx⟩ : ∃ x, ws[i] = x := ⟨_, rfl⟩
      rw [hx] at hcell2 hdr hgood
      obtain ⟨X, hX, hXl, hXs⟩ := str_of x
      rw [hX] at hcell2
      have hXm : X.size ≤ 1000000 := by have := hgood.2; omega
      have HP := Lib.hid (show Frm.put X.data.toList = (Frm.framed x, 0) by rw [hXl]; exact Frm.put_good hgood)
      have hfl : (Frm.framed x).length ≤ 8008 := by rw [Frm.framed_len]; have := hgood.2; omega
      have HN := Lib.hid (show (A.data.toList ++ Frm.framed x) ++ (ws.drop (i + 1)).flatMap Frm.framed = ws.flatMap Frm.framed by rw [← hacc.out, hdr]; simp)
      clear hcell hdr hgood hx hX hXl hXs hacc
      go_wp2_with fail
      refine (rframePut_any X wr (by omega)).mono ?_
      rintro e w2 ⟨r, cc, rfl, HR, hr8, b2⟩
      have hR := HR.out
      rw [HP.out] at hR
      simp only [Prod.mk.injEq] at hR
      obtain ⟨hr, rfl⟩ := hR
      have hbw2 := Below.up hbw (Nat.le_refl _) b2
      rw [hr] at HN hfl
      obtain ⟨B, hB, hB2, hB3⟩ := str_of (A.data.toList ++ r.data.toList)
      have hi6 : i * 8008 ≤ 8008000000 := by omega
      have hadd : ∀ w, (Op.stringOp .add A r).run Tryz.prog w = .ok (.string B) w := fun w => add_lists w A r B (by omega) hB2.symm
      rw [← hB2] at HN
      have hBs : B.size ≤ (i + 1) * 8008 := by rw [hB3, List.length_append, ← Lib.size_eq, ← Lib.size_eq]; omega
      clear HR HP hr b2 hB hB2 hB3 hfl
      go_wp2
      exact ⟨⟨i + 1, B, rfl, by go_num, by omega, hbw2, HN, hBs⟩, by simp [intOf]; omega⟩
    · obtain rfl : i = ws.length := by omega
      have HF := Lib.hid (show A.data.toList = ws.flatMap Frm.framed by rw [← hacc.out, List.drop_length]; simp)
      clear hacc
      go_wp2
      go_ret2
      exact ⟨A, rfl, HF, hbw⟩
end Go.Proofs.YtiaddfghojdgkaaGreatDoor
