/-
  The walk of the document's answer to layer 6: Take.
-/
import Derived.Test.YtiaddfghojdgkaaGreatDoorRBat
namespace Go.Proofs.YtiaddfghojdgkaaGreatDoor
open Go.RowKit Go.Shelf

set_option maxHeartbeats 4000000 in
set_option maxRecDepth 100000 in
theorem rrecTake_any (s : ByteArray) (w : World) (hs : s.size ≤ 1000000) :
    Calls Tryz.prog 82 #[.string s] w fun e w' => ∃ (p ep : Int) (S : ByteArray) (ex se sq : Int) (v : Value) (es : List Evt.Event) (r : ByteArray) (c : Nat), e = .returned (.tuple #[.agg #[.int .i64 p, .int .i64 ep, .string S, .int .i64 ex, .int .i64 se, .int .i64 sq, v], .string r, .int .i64 (c : Int)]) ∧
      Hid (Evt.take s.data.toList = (⟨p, ep, ⟨S.data.toList, ex, se, sq, es⟩⟩, r.data.toList, c)) ∧ w'.ownsRow w.heap.size 222 2 v es.length (evCells es) ∧ S.size ≤ 1000000 ∧ Small es ∧ es.length ≤ 8 ∧ r.size ≤ s.size ∧ Below w.heap.size w w' := by
  obtain ⟨W, hW⟩ : ∃ W, W = w.alloc (.cells #[.int .i64 0, .int .i64 0, .string ⟨#[]⟩, .int .i64 0, .int .i64 0, .int .i64 0, .slice none 0 0] 61) := ⟨_, rfl⟩
  have z0 : EB w.heap.size 0 0 ⟨#[]⟩ 0 0 0 (.slice none 0 0) W := by rw [hW]; exact heap_alloc_new w _
  have hb0 : Below w.heap.size w W := by rw [hW]; exact (Below.refl _ _).alloc (Nat.le_refl _) _
  have HW := Lib.hid hW
  have HT1 := Lib.hid (rtake_any s W (by omega))
  clear hW
  go_enter Tryz.func82, Tryz.ntmps82
  go_upto_region 1 with fail
  rw [← HW.out]
  go_wp2_with fail
  refine HT1.out.mono ?_
  rintro e w2 ⟨n1, r1, c1, rfl, H1, b1⟩
  have hr1 : r1.size ≤ s.size := by have := (Num.take_le s.data.toList).2.1; rw [H1.out, ← Lib.size_eq, ← Lib.size_eq] at this; exact this
  have Z2 := z0.next b1
  have hb2 := Below.up hb0 (Nat.le_refl _) b1
  clear HT1 HW z0 hb0 b1
  by_cases hc1 : ¬ c1 = 0
  · have hcb : ((c1 : Int) != 0) = true := by simp; omega
    have HT := Lib.hid (show Evt.take s.data.toList = (Evt.zeroN, [], c1) by
      unfold Evt.take; simp only; rw [H1.out]; simp only; rw [if_pos hc1])
    have HP := Lib.hid (Z2.put7 0 0 ⟨#[]⟩ 0 0 0 (.slice none 0 0))
    have HBN := Lib.hid (hb2.trans (below_of_grown HP.out.2 (Nat.le_refl _) hb2.size))
    obtain ⟨z0, z1, z2, z3, z4, z5, z6⟩ := Z2.cells
    have g0 := Z2.frozen 0
    have g1 := Z2.frozen 1
    have g2 := Z2.frozen 2
    have g3 := Z2.frozen 3
    have g4 := Z2.frozen 4
    have g5 := Z2.frozen 5
    have g6 := Z2.frozen 6
    clear H1
    go_wp2
    (try simp only [Exit.inBlock, Exit.then])
    refine bodyPost_ret (results_cell3 rfl _ _ w.heap.size _ _ _ _ rfl HP.out.1 Tryz.underlying61 rfl entry_size) rfl ?_
    exact ⟨0, 0, ⟨#[]⟩, 0, 0, 0, _, [], ⟨#[]⟩, c1, rfl, HT, World.ownsRow_nil _ _ _ _, Nat.zero_le _, (fun e he => by cases he), by simp, Nat.zero_le _, HBN.out⟩
  have hc1 := Classical.not_not.mp hc1
  subst hc1
  have HT2 := Lib.hid (rtake_any r1 w2 (by omega))
  go_wp2_with fail
  refine HT2.out.mono ?_
  rintro e w4 ⟨n2, r2, c2, rfl, H2, b2⟩
  have hr2 : r2.size ≤ r1.size := by have := (Num.take_le r1.data.toList).2.1; rw [H2.out, ← Lib.size_eq, ← Lib.size_eq] at this; exact this
  have Z4 := Z2.next b2
  have hb4 := Below.up hb2 (Nat.le_refl _) b2
  clear HT2 Z2 hb2 b2
  by_cases hc2 : ¬ c2 = 0
  · have hcb : ((c2 : Int) != 0) = true := by simp; omega
    have HT := Lib.hid (show Evt.take s.data.toList = (Evt.zeroN, [], c2) by
      unfold Evt.take; simp only; rw [H1.out]; simp only; rw [if_neg (by simp), H2.out]; simp only; rw [if_pos hc2])
    have HP := Lib.hid (Z4.put7 0 0 ⟨#[]⟩ 0 0 0 (.slice none 0 0))
    have HBN := Lib.hid (hb4.trans (below_of_grown HP.out.2 (Nat.le_refl _) hb4.size))
    obtain ⟨z0, z1, z2, z3, z4, z5, z6⟩ := Z4.cells
    have g0 := Z4.frozen 0
    have g1 := Z4.frozen 1
    have g2 := Z4.frozen 2
    have g3 := Z4.frozen 3
    have g4 := Z4.frozen 4
    have g5 := Z4.frozen 5
    have g6 := Z4.frozen 6
    clear H1 H2
    go_wp2
    (try simp only [Exit.inBlock, Exit.then])
    refine bodyPost_ret (results_cell3 rfl _ _ w.heap.size _ _ _ _ rfl HP.out.1 Tryz.underlying61 rfl entry_size) rfl ?_
    exact ⟨0, 0, ⟨#[]⟩, 0, 0, 0, _, [], ⟨#[]⟩, c2, rfl, HT, World.ownsRow_nil _ _ _ _, Nat.zero_le _, (fun e he => by cases he), by simp, Nat.zero_le _, HBN.out⟩
  have hc2 := Classical.not_not.mp hc2
  subst hc2
  have HT3 := Lib.hid (rtakeBatch_any r2 w4 (by omega))
  go_wp2_with fail
  refine HT3.out.mono ?_
  rintro e w6 ⟨S, ex, se, sq, v, es, r3, c3, rfl, H3, own6, hSs, hsm, hes, hr3, b3⟩
  obtain ⟨sa, sl, sc, rfl⟩ := slice_of_owns own6
  have Z6 := Z4.next b3
  have hb6 := Below.up hb4 (Nat.le_refl _) b3
  have own6' := ownsRow_low own6 (show w.heap.size ≤ w4.heap.size from hb4.size)
  have Z7 := Z6.kept (World.grownBy_alloc w6 (.cells #[.string S, .int .i64 ex, .int .i64 se, .int .i64 sq, .slice sa sl sc] 59) none) (by simp)
  have hb7 := hb6.alloc hb6.size (.cells #[.string S, .int .i64 ex, .int .i64 se, .int .i64 sq, .slice sa sl sc] 59)
  have own7 := own6'.alloc (.cells #[.string S, .int .i64 ex, .int .i64 se, .int .i64 sq, .slice sa sl sc] 59)
  have HZ7 := Lib.hid (And.intro Z7 (And.intro own7 hb7))
  clear HT3 Z4 hb4 b3 own6 Z7 own7 hb7
  by_cases hc3 : ¬ c3 = 0
  · have hcb : ((c3 : Int) != 0) = true := by simp; omega
    have HT := Lib.hid (show Evt.take s.data.toList = (Evt.zeroN, [], c3) by
      unfold Evt.take; simp only; rw [H1.out]; simp only; rw [if_neg (by simp), H2.out]; simp only; rw [if_neg (by simp), H3.out]; simp only; rw [if_pos hc3])
    have Z7 := HZ7.out.1
    have hb7 := HZ7.out.2.2
    have HP := Lib.hid (Z7.put7 0 0 ⟨#[]⟩ 0 0 0 (.slice none 0 0))
    have HBN := Lib.hid (hb7.trans (below_of_grown HP.out.2 (Nat.le_refl _) hb7.size))
    obtain ⟨z0, z1, z2, z3, z4, z5, z6⟩ := Z7.cells
    have g0 := Z7.frozen 0
    have g1 := Z7.frozen 1
    have g2 := Z7.frozen 2
    have g3 := Z7.frozen 3
    have g4 := Z7.frozen 4
    have g5 := Z7.frozen 5
    have g6 := Z7.frozen 6
    clear H1 H2 H3
    go_wp2
    (try simp only [Exit.inBlock, Exit.then])
    refine bodyPost_ret (results_cell3 rfl _ _ w.heap.size _ _ _ _ rfl HP.out.1 Tryz.underlying61 rfl entry_size) rfl ?_
    exact ⟨0, 0, ⟨#[]⟩, 0, 0, 0, _, [], ⟨#[]⟩, c3, rfl, HT, World.ownsRow_nil _ _ _ _, Nat.zero_le _, (fun e he => by cases he), by simp, Nat.zero_le _, HBN.out⟩
  have hc3 := Classical.not_not.mp hc3
  subst hc3
  have HT0 := Lib.hid (show Evt.take s.data.toList = if Evt.rightN ⟨n1, n2, ⟨S.data.toList, ex, se, sq, es⟩⟩ then (⟨n1, n2, ⟨S.data.toList, ex, se, sq, es⟩⟩, r3.data.toList, 0) else (Evt.zeroN, [], 2) by
    unfold Evt.take; simp only; rw [H1.out]; simp only; rw [if_neg (by simp), H2.out]; simp only; rw [if_neg (by simp), H3.out]; simp only; rw [if_neg (by simp)])
  clear H1 H2 H3 Z6 hb6 own6'
  obtain ⟨W8, hW8⟩ : ∃ W8, W8 = (w6.alloc (.cells #[.string S, .int .i64 ex, .int .i64 se, .int .i64 sq, .slice sa sl sc] 59)).alloc (.cells #[.int .i64 (n1 : Int), .int .i64 (n2 : Int), .string S, .int .i64 ex, .int .i64 se, .int .i64 sq, .slice sa sl sc] 61) := ⟨_, rfl⟩
  obtain ⟨B8, hB8⟩ : ∃ B8, B8 = w6.heap.size + 1 := ⟨_, rfl⟩
  have e8 : EB B8 (n1 : Int) (n2 : Int) S ex se sq (.slice sa sl sc) W8 := by
    have := heap_alloc_new (w6.alloc (.cells #[.string S, .int .i64 ex, .int .i64 se, .int .i64 sq, .slice sa sl sc] 59)) (.cells #[.int .i64 (n1 : Int), .int .i64 (n2 : Int), .string S, .int .i64 ex, .int .i64 se, .int .i64 sq, .slice sa sl sc] 61)
    rw [World.size_alloc] at this
    rw [hW8, hB8]; exact this
  have z8 : EB w.heap.size 0 0 ⟨#[]⟩ 0 0 0 (.slice none 0 0) W8 := by rw [hW8]; exact EB.kept HZ7.out.1 (World.grownBy_alloc _ _ none) (by simp)
  have o8 : W8.ownsRow w.heap.size 222 2 (.slice sa sl sc) es.length (evCells es) := by rw [hW8]; exact HZ7.out.2.1.alloc _
  have hb8 : Below w.heap.size w W8 := by rw [hW8]; exact HZ7.out.2.2.alloc HZ7.out.2.2.size _
  have HW8 := Lib.hid (And.intro hW8 hB8)
  have HRT := Lib.hid (rrecRight_any (n1 : Int) (n2 : Int) S ex se sq _ es W8 hSs (cells_of_owns o8) (by omega) hsm)
  clear hW8 hB8 HZ7
  go_upto_region 11 with fail
  (try rw [World.size_alloc])
  rw [← HW8.out.1, ← HW8.out.2]
  clear HW8
  obtain ⟨k0, k1, k2, k3, k4, k5, k6⟩ := e8.cells
  go_wp2_with fail
  refine HRT.out.mono ?_
  rintro e w9 ⟨rfl, b9⟩
  have z9 := z8.next b9
  have e9 := e8.next b9
  have o9 := owns_next o8 b9
  have hb9 := Below.up hb8 (Nat.le_refl _) b9
  clear HRT k0 k1 k2 k3 k4 k5 k6 b9 z8 e8 o8 hb8
  cases hr : Evt.rightN ⟨n1, n2, ⟨S.data.toList, ex, se, sq, es⟩⟩ with
  | true =>
    have HT := Lib.hid (show Evt.take s.data.toList = (⟨n1, n2, ⟨S.data.toList, ex, se, sq, es⟩⟩, r3.data.toList, 0) by rw [HT0.out, if_pos hr])
    have HP := Lib.hid (z9.put7 (n1 : Int) (n2 : Int) S ex se sq (.slice sa sl sc))
    have HON := Lib.hid (o9.kept HP.out.2 (.inr (cells_not_row z9 (by decide) o9).symm))
    have HBN := Lib.hid (hb9.trans (below_of_grown HP.out.2 (Nat.le_refl _) hb9.size))
    obtain ⟨z0, z1, z2, z3, z4, z5, z6⟩ := z9.cells
    obtain ⟨k0, k1, k2, k3, k4, k5, k6⟩ := e9.cells
    have g0 := z9.frozen 0
    have g1 := z9.frozen 1
    have g2 := z9.frozen 2
    have g3 := z9.frozen 3
    have g4 := z9.frozen 4
    have g5 := z9.frozen 5
    have g6 := z9.frozen 6
    clear HT0 hr e9 z9 o9 hb9
    go_wp2
    (try simp only [Exit.inBlock, Exit.then])
    refine bodyPost_ret (results_cell3 rfl _ _ w.heap.size _ _ _ _ rfl HP.out.1 Tryz.underlying61 rfl entry_size) rfl ?_
    exact ⟨n1, n2, S, ex, se, sq, _, es, r3, 0, rfl, HT, HON.out, hSs, hsm, hes, by omega, HBN.out⟩
  | false =>
    have HT := Lib.hid (show Evt.take s.data.toList = (Evt.zeroN, [], 2) by rw [HT0.out, if_neg (by rw [hr]; simp)])
    have HP := Lib.hid (z9.put7 0 0 ⟨#[]⟩ 0 0 0 (.slice none 0 0))
    have HBN := Lib.hid (hb9.trans (below_of_grown HP.out.2 (Nat.le_refl _) hb9.size))
    obtain ⟨z0, z1, z2, z3, z4, z5, z6⟩ := z9.cells
    have g0 := z9.frozen 0
    have g1 := z9.frozen 1
    have g2 := z9.frozen 2
    have g3 := z9.frozen 3
    have g4 := z9.frozen 4
    have g5 := z9.frozen 5
    have g6 := z9.frozen 6
    clear HT0 hr o9
    go_wp2
    (try simp only [Exit.inBlock, Exit.then])
    refine bodyPost_ret (results_cell3 rfl _ _ w.heap.size _ _ _ _ rfl HP.out.1 Tryz.underlying61 rfl entry_size) rfl ?_
    exact ⟨0, 0, ⟨#[]⟩, 0, 0, 0, _, [], ⟨#[]⟩, 2, rfl, HT, World.ownsRow_nil _ _ _ _, Nat.zero_le _, (fun e he => by cases he), by simp, Nat.zero_le _, HBN.out⟩
end Go.Proofs.YtiaddfghojdgkaaGreatDoor
