/-
  The walks of the searches among a log's parts (layer 11): slices.IndexFunc, slices.ContainsFunc; Truncate.
-/
import Derived.Test.YtbknlffebcbjfaaGreatDoorLogQ
namespace Go.Proofs.YtbknlffebcbjfaaGreatDoor
open Go.RowKit Go.Shelf

theorem Lg.keepP_go {last : Int} {ms : List (Int × Int)} {i : Nat} {x y : Int} (hi : i < ms.length) (hx : ms[i] = (x, y)) (hy : y ≤ last) (h : Lg.keepP last ms = i + Lg.keepP last (ms.drop i)) : Lg.keepP last ms = (i + 1) + Lg.keepP last (ms.drop (i + 1)) := by
  rw [h, List.drop_eq_getElem_cons hi, hx]
  unfold Lg.keepP
  rw [List.takeWhile_cons, if_pos (by simpa using hy), List.length_cons]; omega
theorem Lg.keepP_stop {last : Int} {ms : List (Int × Int)} {i : Nat} {x y : Int} (hi : i < ms.length) (hx : ms[i] = (x, y)) (hy : ¬ y ≤ last) (h : Lg.keepP last ms = i + Lg.keepP last (ms.drop i)) : Lg.keepP last ms = i := by
  rw [h, List.drop_eq_getElem_cons hi, hx]
  unfold Lg.keepP
  rw [List.takeWhile_cons, if_neg (by simpa using hy), List.length_nil]; omega
theorem Lg.keepP_end {last : Int} {ms : List (Int × Int)} {i : Nat} (hi : ms.length ≤ i) (h : Lg.keepP last ms = i + Lg.keepP last (ms.drop i)) : Lg.keepP last ms = i := by
  rw [h, List.drop_eq_nil_of_le hi]; rfl
set_option maxHeartbeats 1000000 in
theorem truncFn_any (bx : Nat) (last x y : Int) (w : World) (hb : w.cell? ⟨bx, 0, none⟩ = some (.int .i64 last)) :
    Calls Tryz.prog 86 #[.agg #[.int .i64 x, .int .i64 y], .pointer (some ⟨bx, 0, none⟩)] w fun e w' => e = .returned (.bool (decide (last < y))) ∧ Below w.heap.size w w' := by
  have ba : Below w.heap.size w (w.alloc (.cells #[.int .i64 x, .int .i64 y] 130)) := (Below.refl _ _).alloc (Nat.le_refl _) _
  have hb := cell_kept ba (Nat.le_refl _) hb
  have HB := Lib.hid ba
  clear ba
  go_enter Tryz.func86, Tryz.ntmps86
  go_wp2
  go_ret
  exact ⟨rfl, HB.out⟩
set_option maxHeartbeats 1000000 in
theorem openFn_any (bx : Nat) (n x y : Int) (w : World) (hb : w.cell? ⟨bx, 0, none⟩ = some (.int .i64 n)) :
    Calls Tryz.prog 79 #[.agg #[.int .i64 x, .int .i64 y], .pointer (some ⟨bx, 0, none⟩)] w fun e w' => e = .returned (.bool (x == n)) ∧ Below w.heap.size w w' := by
  have ba : Below w.heap.size w (w.alloc (.cells #[.int .i64 x, .int .i64 y] 130)) := (Below.refl _ _).alloc (Nat.le_refl _) _
  have hb := cell_kept ba (Nat.le_refl _) hb
  have HB := Lib.hid ba
  clear ba
  go_enter Tryz.func79, Tryz.ntmps79
  go_wp2
  go_ret
  exact ⟨rfl, HB.out⟩
set_option maxHeartbeats 2000000 in
set_option maxRecDepth 100000 in
theorem indexKeep_any (v : Value) (ms : List (Int × Int)) (bx : Nat) (last : Int) (w : World) (hc : Cells w v 2 ms.length (partCells ms)) (hn : ms.length ≤ 1000000) (hb : w.cell? ⟨bx, 0, none⟩ = some (.int .i64 last)) :
    Calls Tryz.prog 85 #[v, .func (.func 86) #[] #[.pointer (some ⟨bx, 0, none⟩)]] w fun e w' => ∃ r : Int, e = .returned (.int .i64 r) ∧ (Lg.keepP last ms < ms.length ∧ r = (Lg.keepP last ms : Int) ∨ Lg.keepP last ms = ms.length ∧ r = -1) ∧ Below w.heap.size w w' := by
  obtain ⟨va, vc, rfl⟩ := cells_slice hc
  have HC := Lib.hid hc
  have HBX := Lib.hid hb
  clear hc hb
  go_enter Tryz.func85, Tryz.ntmps85
  go_wp2
  go_loopw [8] (fun lv wr => ∃ i : Nat, lv = .int .i64 i ∧ i ≤ ms.length ∧ Below w.heap.size w wr ∧ Hid (Lg.keepP last ms = i + Lg.keepP last (ms.drop i))) (fun lv _ => ms.length - (intOf lv).toNat)
  case atStart => exact ⟨0, rfl, by omega, Below.refl _ _, Lib.hid (by simp)⟩
  case round =>
    obtain ⟨i, rfl, hi, hbw, HK⟩ := hrel
    by_cases hp : i < ms.length
    · obtain ⟨⟨x, y⟩, hx⟩ : ∃ x, ms[i] = x := ⟨_, rfl⟩
      obtain ⟨b, o, c, hv, q0, q1⟩ := partAt HC.out i hp hx
      cases hv
      have q0 := cell_kept hbw (Nat.le_refl _) q0
      have q1 := cell_kept hbw (Nat.le_refl _) q1
      have HF := Lib.hid (truncFn_any bx last x y wr (cell_kept hbw (Nat.le_refl _) HBX.out))
      have HX := Lib.hid hx
      have HBW := Lib.hid hbw
      clear hx hbw
      go_wp2_with fail
      refine HF.out.mono ?_
      rintro e w1 ⟨rfl, b1⟩
      have hb1 := Below.up HBW.out (Nat.le_refl _) b1
      by_cases hy : last < y
      · have HE := Lib.hid (Lg.keepP_stop hp HX.out (by omega) HK.out)
        have HB1 := Lib.hid hb1
        clear hb1 b1 HF HK HX
        go_wp2
        go_ret
        exact ⟨_, rfl, .inl ⟨by rw [HE.out]; omega, by rw [HE.out]⟩, HB1.out⟩
      · have HE := Lib.hid (Lg.keepP_go hp HX.out (by omega) HK.out)
        clear b1 HF HK HX
        go_wp2
        exact ⟨⟨i + 1, by go_num, by omega, hb1, HE⟩, by simp [intOf]; omega⟩
    · have HE := Lib.hid (Lg.keepP_end (by omega) HK.out)
      obtain rfl : i = ms.length := by omega
      clear HK
      go_wp2
      go_ret
      exact ⟨-1, rfl, .inr ⟨HE.out, rfl⟩, hbw⟩
set_option maxHeartbeats 2000000 in
set_option maxRecDepth 100000 in
theorem indexHas_any (v : Value) (ms : List (Int × Int)) (bx : Nat) (n : Int) (w : World) (hc : Cells w v 2 ms.length (partCells ms)) (hn : ms.length ≤ 1000000) (hb : w.cell? ⟨bx, 0, none⟩ = some (.int .i64 n)) :
    Calls Tryz.prog 85 #[v, .func (.func 79) #[] #[.pointer (some ⟨bx, 0, none⟩)]] w fun e w' => ∃ r : Int, e = .returned (.int .i64 r) ∧ Hid (decide (0 ≤ r) = ms.any fun p => p.1 == n) ∧ Below w.heap.size w w' := by
  obtain ⟨va, vc, rfl⟩ := cells_slice hc
  have HC := Lib.hid hc
  have HBX := Lib.hid hb
  clear hc hb
  go_enter Tryz.func85, Tryz.ntmps85
  go_wp2
  go_loopw [8] (fun lv wr => ∃ i : Nat, lv = .int .i64 i ∧ i ≤ ms.length ∧ Below w.heap.size w wr ∧ Hid ((ms.any fun p => p.1 == n) = (ms.drop i).any fun p => p.1 == n)) (fun lv _ => ms.length - (intOf lv).toNat)
  case atStart => exact ⟨0, rfl, by omega, Below.refl _ _, Lib.hid (by simp)⟩
  case round =>
    obtain ⟨i, rfl, hi, hbw, HK⟩ := hrel
    by_cases hp : i < ms.length
    · obtain ⟨⟨x, y⟩, hx⟩ : ∃ x, ms[i] = x := ⟨_, rfl⟩
      obtain ⟨b, o, c, hv, q0, q1⟩ := partAt HC.out i hp hx
      cases hv
      have q0 := cell_kept hbw (Nat.le_refl _) q0
      have q1 := cell_kept hbw (Nat.le_refl _) q1
      have HF := Lib.hid (openFn_any bx n x y wr (cell_kept hbw (Nat.le_refl _) HBX.out))
      have HX := Lib.hid (show (ms.any fun p => p.1 == n) = ((x == n) || (ms.drop (i + 1)).any fun p => p.1 == n) by rw [HK.out, List.drop_eq_getElem_cons hp, hx]; rfl)
      have HBW := Lib.hid hbw
      clear hx hbw HK
      go_wp2_with fail
      refine HF.out.mono ?_
      rintro e w1 ⟨rfl, b1⟩
      have hb1 := Below.up HBW.out (Nat.le_refl _) b1
      cases hy : x == n with
      | true =>
        have HE := Lib.hid (show (ms.any fun p => p.1 == n) = true by rw [HX.out, hy]; rfl)
        have HB1 := Lib.hid hb1
        clear hb1 b1 HF HX hy
        go_wp2
        go_ret
        exact ⟨_, rfl, Lib.hid (by rw [HE.out]; simp), HB1.out⟩
      | false =>
        have HE := Lib.hid (show (ms.any fun p => p.1 == n) = (ms.drop (i + 1)).any fun p => p.1 == n by rw [HX.out, hy]; rfl)
        clear b1 HF HX hy
        go_wp2
        exact ⟨⟨i + 1, by go_num, by omega, hb1, HE⟩, by simp [intOf]; omega⟩
    · have HE := Lib.hid (show (ms.any fun p => p.1 == n) = false by rw [HK.out, List.drop_eq_nil_of_le (by omega)]; rfl)
      obtain rfl : i = ms.length := by omega
      clear HK
      go_wp2
      go_ret
      exact ⟨-1, rfl, Lib.hid (by rw [HE.out]; rfl), hbw⟩
set_option maxHeartbeats 1000000 in
theorem containsHas_any (v : Value) (ms : List (Int × Int)) (bx : Nat) (n : Int) (w : World) (hc : Cells w v 2 ms.length (partCells ms)) (hn : ms.length ≤ 1000000) (hb : w.cell? ⟨bx, 0, none⟩ = some (.int .i64 n)) :
    Calls Tryz.prog 78 #[v, .func (.func 79) #[] #[.pointer (some ⟨bx, 0, none⟩)]] w fun e w' => e = .returned (.bool (ms.any fun p => p.1 == n)) ∧ Below w.heap.size w w' := by
  have HI := Lib.hid (indexHas_any v ms bx n w hc hn hb)
  clear hc hb
  go_enter Tryz.func78, Tryz.ntmps78
  go_wp2_with fail
  refine HI.out.mono ?_
  rintro e w1 ⟨r, rfl, HR, b1⟩
  have HB := Lib.hid b1
  clear b1 HI
  go_wp2
  go_ret
  exact ⟨by rw [← HR.out]; rfl, HB.out⟩
end Go.Proofs.YtbknlffebcbjfaaGreatDoor
