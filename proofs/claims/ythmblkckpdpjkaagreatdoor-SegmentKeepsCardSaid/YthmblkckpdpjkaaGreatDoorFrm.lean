/-
  The walks of frame.Put, Take.
-/
import Derived.Test.YthmblkckpdpjkaaGreatDoorCrc
import Derived.Test.YthmblkckpdpjkaaGreatDoorFrmA
namespace Go.Proofs.YthmblkckpdpjkaaGreatDoor
open Go.RowKit Go.Shelf

theorem isEmpty_of (s : ByteArray) : s.toList.isEmpty = decide (s.size = 0) := by
  rw [Lib.toList_data]
  rw [Lib.size_eq]
  cases s.data.toList <;> simp
theorem list_nil (s : ByteArray) : s.data.toList = [] ↔ s.size = 0 := by rw [Lib.size_eq]; exact List.length_eq_zero_iff.symm

set_option maxHeartbeats 1000000 in
theorem framePut_any (s : ByteArray) (w : World) (hs : s.size ≤ 1000000000000) :
    Calls Tryz.prog 76 #[.string s] w fun e w' => ∃ (r : ByteArray) (c : Nat), e = .returned (.tuple #[.string r, .int .i64 c]) ∧ Hid (Frm.put s.data.toList = (r.data.toList, c)) ∧ r.size ≤ 8008 ∧ Below w.heap.size w w' := by
  have HL := Lib.hid (list_nil s)
  have HZ := Lib.hid (Lib.size_eq s)
  by_cases h0 : s.size = 0
  · have hemp : s.toList.isEmpty = true := by rw [isEmpty_of]; simp [h0]
    have HF := Lib.hid (show Frm.put s.data.toList = ([], 2) by rw [Frm.put, if_pos (HL.out.2 h0)])
    go_enter Tryz.func76, Tryz.ntmps76
    go_wp2
    go_ret2
    exact ⟨_, 2, rfl, HF, by decide, Below.refl _ _⟩
  · have hemp : s.toList.isEmpty = false := by rw [isEmpty_of]; simp [h0]
    by_cases h1 : (8000 : Int) < s.size
    · have HF := Lib.hid (show Frm.put s.data.toList = ([], 4) by rw [Frm.put, if_neg (fun h => h0 (HL.out.1 h)), if_pos (by rw [← HZ.out]; omega)])
      go_enter Tryz.func76, Tryz.ntmps76
      go_wp2
      go_ret2
      exact ⟨_, 4, rfl, HF, by decide, Below.refl _ _⟩
    · have HF := Lib.hid (show Frm.put s.data.toList = (Frm.framed s.data.toList, 0) by rw [Frm.put, if_neg (fun h => h0 (HL.out.1 h)), if_neg (by rw [← HZ.out]; omega)])
      have hs8 : s.size ≤ 8000 := by omega
      go_enter Tryz.func76, Tryz.ntmps76
      go_wp2_with fail
      refine (fixed_any s.size w (by omega)).mono ?_
      rintro e w1 ⟨q, rfl, HQ, hq4, b1⟩
      go_wp2_with fail
      refine (sum_any q w1 (by omega)).mono ?_
      rintro e w2 ⟨rfl, b2⟩
      go_wp2_with fail
      refine (update_any _ s w2 hs (Crc.sum_lt _)).mono ?_
      rintro e w3 ⟨rfl, b3⟩
      have HS := Lib.hid (Crc.upd_append 0 q.data.toList s.data.toList)
      have hlt : Crc.upd (Crc.sum q.data.toList) s.data.toList < 4294967296 := Crc.upd_lt (Crc.sum_lt _) _
      obtain ⟨cs, hcs⟩ : ∃ cs, Crc.upd (Crc.sum q.data.toList) s.data.toList = cs := ⟨_, rfl⟩
      rw [hcs] at hlt ⊢
      go_wp2_with fail
      refine (fixed_any cs w3 hlt).mono ?_
      rintro e w4 ⟨f, rfl, HFx, hf4, b4⟩
      have hb4 : Below w.heap.size w w4 := Below.up (Below.up (Below.up b1 (Nat.le_refl _) b2) (Nat.le_refl _) b3) (Nat.le_refl _) b4
      obtain ⟨A, hA, hA2, hA3⟩ := str_of (q.data.toList ++ f.data.toList)
      obtain ⟨B, hB, hB2, hB3⟩ := str_of (q.data.toList ++ (f.data.toList ++ s.data.toList))
      have hadd1 : ∀ w, (Op.stringOp .add q f).run Tryz.prog w = .ok (.string A) w := fun w => add_lists w q f A (by omega) hA2.symm
      have hAs : A.size = 8 := by rw [hA3, List.length_append, ← Lib.size_eq, ← Lib.size_eq]; omega
      have hadd2 : ∀ w, (Op.stringOp .add A s).run Tryz.prog w = .ok (.string B) w := fun w => add_lists w A s B (by omega) (by rw [hA2, hB2]; simp)
      have hBs : B.size ≤ 8008 := by rw [hB3, List.length_append, List.length_append, ← Lib.size_eq, ← Lib.size_eq, ← Lib.size_eq]; omega
      have HF2 := Lib.hid (show Frm.put s.data.toList = (B.data.toList, 0) by
        rw [HF.out, hB2, HFx.out, HQ.out, ← hcs, Crc.sum, HS.out, HQ.out, HZ.out]; rfl)
      clear hA hB hA2 hB2 hA3 hB3 HF HQ HFx HS hcs b1 b2 b3 b4
      go_wp2
      go_ret2
      exact ⟨B, 0, rfl, HF2, hBs, hb4⟩

theorem bne_true {a b : Nat} (h : a ≠ b) : ((a : Int) != (b : Int)) = true := by simp; omega
theorem bne_false {a b : Nat} (h : a = b) : ((a : Int) != (b : Int)) = false := by simp [h]
set_option maxHeartbeats 1000000 in
theorem frameTake_any (s : ByteArray) (w : World) (hs : s.size ≤ 1000000000000) :
    Calls Tryz.prog 115 #[.string s] w fun e w' => ∃ (a r : ByteArray) (c : Nat), e = .returned (.tuple #[.string a, .string r, .int .i64 c]) ∧ Hid (Frm.take s.data.toList = (a.data.toList, r.data.toList, c)) ∧ Below w.heap.size w w' := by
  have HZ := Lib.hid (Lib.size_eq s)
  by_cases h8 : s.size < 8
  · have HF := Lib.hid (show Frm.take s.data.toList = ([], [], 3) by rw [Frm.take, if_pos (by rw [← HZ.out]; exact h8)])
    go_enter Tryz.func115, Tryz.ntmps115
    go_wp2
    go_ret3
    exact ⟨_, _, 3, rfl, HF, Below.refl _ _⟩
  · have HU := Lib.hid (show Frm.take s.data.toList = _ by rw [Frm.take, if_neg (by rw [← HZ.out]; exact h8)])
    go_enter Tryz.func115, Tryz.ntmps115
    go_wp2_with fail
    refine (takeFixed_any s w hs).mono ?_
    rintro e w1 ⟨n, r, c, rfl, HT, hn, b1⟩
    obtain ⟨n', hn'⟩ := Num.takeFixed_of s.data.toList (by rw [← HZ.out]; omega)
    have hT := HT.out
    rw [hn'.1] at hT
    simp only [Prod.mk.injEq] at hT
    obtain ⟨rfl, hr, rfl⟩ := hT
    have hrs : r.size = s.size - 4 := by rw [Lib.size_eq, ← hr, List.length_drop, ← HZ.out]
    go_wp2_with fail
    refine (takeFixed_any r w1 (by omega)).mono ?_
    rintro e w2 ⟨m, q, c2, rfl, HT2, hm, b2⟩
    have hb2 := Below.up b1 (Nat.le_refl _) b2
    obtain ⟨m', hm'⟩ := Num.takeFixed_of r.data.toList (by rw [← Lib.size_eq]; omega)
    have hT2 := HT2.out
    rw [hm'.1] at hT2
    simp only [Prod.mk.injEq] at hT2
    obtain ⟨rfl, hq, rfl⟩ := hT2
    have hqs : q.size ≤ s.size := by rw [Lib.size_eq, ← hq, List.length_drop, ← Lib.size_eq]; omega
    have HU2 := Lib.hid (show Frm.take s.data.toList = if n' = 0 then ([], [], 2) else if 8000 < n' then ([], [], 4) else if q.data.toList.length < n' then ([], [], 3) else
        if Crc.sum (s.data.toList.take 4 ++ q.data.toList.take n') ≠ m' then ([], [], 5) else (q.data.toList.take n', q.data.toList.drop n', 0) by
      have e8 : s.data.toList.drop 8 = q.data.toList := by rw [← hq, ← hr, List.drop_drop]
      rw [HU.out, hn'.1, e8, hr, hm'.1])
    clear HU HT HT2 hq hr hn' hm' b1 b2 hrs
    by_cases h1 : n' = 0
    · subst h1
      have HF := Lib.hid (show Frm.take s.data.toList = ([], [], 2) by rw [HU2.out, if_pos rfl])
      go_wp2
      go_ret3
      exact ⟨_, _, 2, rfl, HF, hb2⟩
    · have h1b : ((n' : Int) == 0) = false := by simp; omega
      by_cases h2 : (8000 : Int) < n'
      · have HF := Lib.hid (show Frm.take s.data.toList = ([], [], 4) by rw [HU2.out, if_neg h1, if_pos (by omega)])
        go_wp2
        go_ret3
        exact ⟨_, _, 4, rfl, HF, hb2⟩
      · by_cases h3 : (q.size : Int) < n'
        · have HF := Lib.hid (show Frm.take s.data.toList = ([], [], 3) by rw [HU2.out, if_neg h1, if_neg (by omega), if_pos (by rw [← Lib.size_eq]; omega)])
          go_wp2
          go_ret3
          exact ⟨_, _, 3, rfl, HF, hb2⟩
        · have h4 : (n' : Int) ≤ q.size := by omega
          have h5 : n' ≤ 8000 := by omega
          obtain ⟨P, hP⟩ : ∃ P, q.extract 0 n' = P := ⟨_, rfl⟩
          obtain ⟨R, hR⟩ : ∃ R, q.extract n' q.size = R := ⟨_, rfl⟩
          obtain ⟨H, hH⟩ : ∃ H, s.extract 0 4 = H := ⟨_, rfl⟩
          have hPl : P.data.toList = q.data.toList.take n' := by rw [← hP, extract_front]
          have hRl : R.data.toList = q.data.toList.drop n' := by rw [← hR, extract_to]
          have hHl : H.data.toList = s.data.toList.take 4 := by rw [← hH, extract_front]
          have hPs : P.size = n' := by rw [← hP]; exact extract_front_size q n' (by omega)
          have hHs : H.size = 4 := by rw [← hH]; exact extract_front_size s 4 (by omega)
          have HU3 := Lib.hid (show Frm.take s.data.toList = if Crc.upd (Crc.sum H.data.toList) P.data.toList ≠ m' then ([], [], 5) else (P.data.toList, R.data.toList, 0) by
            rw [HU2.out, if_neg h1, if_neg (by omega), if_neg (by rw [← Lib.size_eq]; omega), hPl, hRl, hHl, show Crc.upd (Crc.sum (s.data.toList.take 4)) (q.data.toList.take n') = Crc.sum (s.data.toList.take 4 ++ q.data.toList.take n') from Crc.upd_append 0 _ _])
          clear HU2 hPl hRl hHl
          go_wp2
          go_quiet (fail)
          go_wp2_with fail
          refine (sum_any H _ (by omega)).mono ?_
          rintro e w3 ⟨rfl, b3⟩
          go_wp2_with fail
          refine (update_any _ P w3 (by omega) (Crc.sum_lt _)).mono ?_
          rintro e w4 ⟨rfl, b4⟩
          obtain ⟨cs, hcs⟩ : ∃ cs, Crc.upd (Crc.sum H.data.toList) P.data.toList = cs := ⟨_, rfl⟩
          rw [hcs] at HU3 ⊢
          have hb4 := Below.up (Below.up (below_drewN hb2 _) (Nat.le_refl _) b3) (Nat.le_refl _) b4
          by_cases h6 : cs = m'
          · have h6b := bne_false h6
            have HF := Lib.hid (show Frm.take s.data.toList = (P.data.toList, R.data.toList, 0) by rw [HU3.out, if_neg (by simpa using h6)])
            go_wp2
            go_ret3
            exact ⟨P, R, 0, rfl, HF, hb4⟩
          · have h6b := bne_true h6
            have HF := Lib.hid (show Frm.take s.data.toList = ([], [], 5) by rw [HU3.out, if_pos h6])
            go_wp2
            go_ret3
            exact ⟨_, _, 5, rfl, HF, hb4⟩
end Go.Proofs.YthmblkckpdpjkaaGreatDoor
