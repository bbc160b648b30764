/-
  The walks of the law package's same, sameInts, small.
-/
import Derived.Test.YthnhnaaihhagaaaDoorRefName
import Derived.Test.YthnhnaaihhagaaaDoorLine
namespace Go.Proofs.YthnhnaaihhagaaaDoor
open Go.RowKit Go.Shelf

theorem drewN_two (w : World) (n m : Nat) : (w.drewN n).drewN m = w.drewN (n + m) := by simp
/-- A row of cells is a slice value; where it has one: in a block. -/
theorem cells_slice {w : World} {v : Value} {n : Nat} {xs : List Value} (h : Cells w v 1 n xs) :
    ∃ oa ca, v = .slice oa n ca ∧ (0 < n → ∃ b o, oa = some ⟨b, o, none⟩ ∧ ∀ j u, xs[j]? = some u → w.cell? ⟨b, o + j, none⟩ = some u) := by
  rcases h.2 with ⟨rfl, a, c, rfl⟩ | ⟨b, o, c, rfl, h2⟩
  · exact ⟨a, c, rfl, fun h => absurd h (by omega)⟩
  · exact ⟨_, c, rfl, fun _ => ⟨b, o, rfl, h2⟩⟩
theorem list_ne_at {α : Type} [DecidableEq α] : ∀ (a b : List α) (i : Nat), a.drop i ≠ b.drop i → a ≠ b := fun a b i h e => h (by rw [e])
theorem drop_eq_step {α : Type} (a b : List α) (i : Nat) (ha : i < a.length) (hb : i < b.length) : a.drop i = b.drop i ↔ a[i] = b[i] ∧ a.drop (i + 1) = b.drop (i + 1) := by
  rw [List.drop_eq_getElem_cons ha, List.drop_eq_getElem_cons hb, List.cons.injEq]

set_option maxHeartbeats 2000000 in
set_option maxRecDepth 100000 in
theorem same_any (va vb : Value) (a b : List (List UInt8)) (w : World) (ha : Cells w va 1 a.length (strCells a)) (hb : Cells w vb 1 b.length (strCells b)) (hn : a.length ≤ 1000000000) (_hm : b.length ≤ 1000000000) :
    Calls Tryd.prog 21 #[va, vb] w fun e w' => e = .returned (.bool (decide (a = b))) ∧ ∃ n, w' = w.drewN n := by
  obtain ⟨oa, ca, rfl, hA⟩ := cells_slice ha
  obtain ⟨ob, cb, rfl, hB⟩ := cells_slice hb
  have HA := Lib.hid hA; have HB := Lib.hid hB
  clear hA hB ha hb
  by_cases hl : a.length = b.length
  · have nl : ((a.length : Int) != (b.length : Int)) = false := by rw [bne_eq_false_iff_eq]; omega
    have hl1 : a.length ≤ b.length := by omega
    have hl2 : b.length ≤ a.length := by omega
    have HL := Lib.hid hl
    clear hl
    go_enter Tryd.func21, Tryd.ntmps21
    go_wp2
    go_loopw [5] (fun lv wr => ∃ i nd : Nat, lv = .int .i64 i ∧ wr = w.drewN nd ∧ i ≤ a.length ∧ Hid (decide (a = b) = decide (a.drop i = b.drop i))) (fun lv _ => a.length - (intOf lv).toNat)
    case atStart => exact ⟨0, 0, rfl, rfl, by omega, Lib.hid (by simp)⟩
    case round =>
      obtain ⟨i, nd, rfl, rfl, hi, hh⟩ := hrel
      by_cases hp : i < a.length
      · have hpb : i < b.length := by omega
        obtain ⟨b1, o1, rfl, ha1⟩ := HA.out (by omega)
        obtain ⟨b2, o2, rfl, ha2⟩ := HB.out (by omega)
        have hc1 := ha1 i (.string ⟨a[i].toArray⟩) (by simp [strCells, List.getElem?_eq_getElem hp])
        have hc2 := ha2 i (.string ⟨b[i].toArray⟩) (by simp [strCells, List.getElem?_eq_getElem hpb])
        clear ha1 ha2
        have hst := drop_eq_step a b i hp hpb
        obtain ⟨x, hx⟩ : ∃ x, a[i] = x := ⟨_, rfl⟩
        obtain ⟨y, hy⟩ : ∃ y, b[i] = y := ⟨_, rfl⟩
        rw [hx] at hc1 hst
        rw [hy] at hc2 hst
        obtain ⟨X, hX⟩ : ∃ X : ByteArray, X = ⟨x.toArray⟩ := ⟨_, rfl⟩
        obtain ⟨Y, hY⟩ : ∃ Y : ByteArray, Y = ⟨y.toArray⟩ := ⟨_, rfl⟩
        rw [← hX] at hc1; rw [← hY] at hc2
        have hXl : X.toList = x := by rw [Lib.toList_data, hX]
        have hYl : Y.toList = y := by rw [Lib.toList_data, hY]
        by_cases hxy : x = y
        · have ne : (X.toList == Y.toList) = true := by rw [hXl, hYl, hxy]; simp
          have QF := Lib.hid (show decide (a = b) = decide (a.drop (i + 1) = b.drop (i + 1)) by rw [hh.out]; simp only [hst, hxy, true_and])
          clear hx hy hX hY hXl hYl hst hh hxy
          clear hl1 hl2 HL HA HB nl
          go_wp2
          go_quiet (fail)
          go_wp2
          exact ⟨⟨i + 1, _, by go_num, rfl, by omega, QF⟩, by simp [intOf]; omega⟩
        · have ne : (X.toList == Y.toList) = false := by rw [hXl, hYl, beq_eq_false_iff_ne]; exact hxy
          have QF := Lib.hid (show decide (a = b) = false by rw [hh.out]; simp only [hst, hxy, false_and, decide_false])
          clear hx hy hX hY hXl hYl hst hh hxy
          clear hl1 hl2 HL HA HB nl
          go_wp2
          go_quiet (fail)
          go_wp2
          go_ret
          exact ⟨ret_bool QF.out.symm, _, drewN_two _ _ _⟩
      · have QF := Lib.hid (show decide (a = b) = true by rw [hh.out, List.drop_eq_nil_of_le (by omega), List.drop_eq_nil_of_le (by omega)]; simp)
        clear hh
        go_wp2
        go_ret
        exact ⟨ret_bool QF.out.symm, _, rfl⟩
  · have nl : ((a.length : Int) != (b.length : Int)) = true := by rw [bne_iff_ne]; omega
    have HL := Lib.hid (show decide (a = b) = false by rw [decide_eq_false_iff_not]; intro e; exact hl (by rw [e]))
    clear hl
    go_enter Tryd.func21, Tryd.ntmps21
    go_wp2
    go_ret
    exact ⟨ret_bool HL.out.symm, 0, rfl⟩

set_option maxHeartbeats 2000000 in
set_option maxRecDepth 100000 in
theorem sameInts_any (va vb : Value) (a b : List Int) (w : World) (ha : Cells w va 1 a.length (intCells a)) (hb : Cells w vb 1 b.length (intCells b)) (hn : a.length ≤ 1000000000) (_hm : b.length ≤ 1000000000) :
    Calls Tryd.prog 17 #[va, vb] w fun e w' => e = .returned (.bool (decide (a = b))) ∧ ∃ n, w' = w.drewN n := by
  obtain ⟨oa, ca, rfl, hA⟩ := cells_slice ha
  obtain ⟨ob, cb, rfl, hB⟩ := cells_slice hb
  have HA := Lib.hid hA; have HB := Lib.hid hB
  clear hA hB ha hb
  by_cases hl : a.length = b.length
  · have nl : ((a.length : Int) != (b.length : Int)) = false := by rw [bne_eq_false_iff_eq]; omega
    have hl1 : a.length ≤ b.length := by omega
    have hl2 : b.length ≤ a.length := by omega
    have HL := Lib.hid hl
    clear hl
    go_enter Tryd.func17, Tryd.ntmps17
    go_wp2
    go_loopw [5] (fun lv wr => ∃ i nd : Nat, lv = .int .i64 i ∧ wr = w.drewN nd ∧ i ≤ a.length ∧ Hid (decide (a = b) = decide (a.drop i = b.drop i))) (fun lv _ => a.length - (intOf lv).toNat)
    case atStart => exact ⟨0, 0, rfl, rfl, by omega, Lib.hid (by simp)⟩
    case round =>
      obtain ⟨i, nd, rfl, rfl, hi, hh⟩ := hrel
      by_cases hp : i < a.length
      · have hpb : i < b.length := by omega
        obtain ⟨b1, o1, rfl, ha1⟩ := HA.out (by omega)
        obtain ⟨b2, o2, rfl, ha2⟩ := HB.out (by omega)
        have hc1 := ha1 i (.int .i64 a[i]) (by simp [intCells, List.getElem?_eq_getElem hp])
        have hc2 := ha2 i (.int .i64 b[i]) (by simp [intCells, List.getElem?_eq_getElem hpb])
        clear ha1 ha2
        have hst := drop_eq_step a b i hp hpb
        obtain ⟨x, hx⟩ : ∃ x, a[i] = x := ⟨_, rfl⟩
        obtain ⟨y, hy⟩ : ∃ y, b[i] = y := ⟨_, rfl⟩
        rw [hx] at hc1 hst
        rw [hy] at hc2 hst
        by_cases hxy : x = y
        · have ne : (x != y) = false := by rw [bne_eq_false_iff_eq]; exact hxy
          have QF := Lib.hid (show decide (a = b) = decide (a.drop (i + 1) = b.drop (i + 1)) by rw [hh.out]; simp only [hst, hxy, true_and])
          clear hx hy hst hh hxy
          clear hl1 hl2 HL HA HB nl
          go_wp2
          go_quiet (fail)
          go_wp2
          exact ⟨⟨i + 1, _, by go_num, rfl, by omega, QF⟩, by simp [intOf]; omega⟩
        · have ne : (x != y) = true := by rw [bne_iff_ne]; exact hxy
          have QF := Lib.hid (show decide (a = b) = false by rw [hh.out]; simp only [hst, hxy, false_and, decide_false])
          clear hx hy hst hh hxy
          clear hl1 hl2 HL HA HB nl
          go_wp2
          go_quiet (fail)
          go_wp2
          go_ret
          exact ⟨ret_bool QF.out.symm, _, drewN_two _ _ _⟩
      · have QF := Lib.hid (show decide (a = b) = true by rw [hh.out, List.drop_eq_nil_of_le (by omega), List.drop_eq_nil_of_le (by omega)]; simp)
        clear hh
        go_wp2
        go_ret
        exact ⟨ret_bool QF.out.symm, _, rfl⟩
  · have nl : ((a.length : Int) != (b.length : Int)) = true := by rw [bne_iff_ne]; omega
    have HL := Lib.hid (show decide (a = b) = false by rw [decide_eq_false_iff_not]; intro e; exact hl (by rw [e]))
    clear hl
    go_enter Tryd.func17, Tryd.ntmps17
    go_wp2
    go_ret
    exact ⟨ret_bool HL.out.symm, 0, rfl⟩

def smallL (a : List (List UInt8)) : Bool := decide (a.length ≤ 40) && a.all fun x => decide (x.length ≤ 300)
set_option maxHeartbeats 2000000 in
set_option maxRecDepth 100000 in
theorem small_any (va : Value) (a : List (List UInt8)) (w : World) (ha : Cells w va 1 a.length (strCells a)) :
    Calls Tryd.prog 18 #[va] w fun e w' => e = .returned (.bool (smallL a)) ∧ w = w' := by
  obtain ⟨oa, ca, rfl, hA⟩ := cells_slice ha
  have HA := Lib.hid hA
  clear hA ha
  by_cases h40 : a.length ≤ 40
  · have HF := Lib.hid (show smallL a = (a.drop 0).all fun x => decide (x.length ≤ 300) by simp [smallL, h40])
    go_enter Tryd.func18, Tryd.ntmps18
    go_wp2
    go_loop [3] (fun lv => ∃ i : Nat, lv = .int .i64 i ∧ i ≤ a.length ∧ Hid (smallL a = (a.drop i).all fun x => decide (x.length ≤ 300))) (fun lv => a.length - (intOf lv).toNat)
    case atStart => exact ⟨0, rfl, by omega, HF⟩
    case round =>
      obtain ⟨i, rfl, hi, hh⟩ := hrel
      clear HF
      by_cases hp : i < a.length
      · obtain ⟨b1, o1, rfl, hc1⟩ := HA.out (by omega)
        have hc1 := hc1 i (.string ⟨a[i].toArray⟩) (by simp [strCells, List.getElem?_eq_getElem hp])
        have hst : (a.drop i).all (fun x => decide (x.length ≤ 300)) = (decide (a[i].length ≤ 300) && (a.drop (i + 1)).all (fun x => decide (x.length ≤ 300))) := by rw [List.drop_eq_getElem_cons hp, List.all_cons]
        obtain ⟨x, hx⟩ : ∃ x, a[i] = x := ⟨_, rfl⟩
        rw [hx] at hc1 hst
        obtain ⟨X, hX⟩ : ∃ X : ByteArray, X = ⟨x.toArray⟩ := ⟨_, rfl⟩
        rw [← hX] at hc1
        have hXs : x.length = X.size := by rw [Lib.size_eq, hX]
        rw [hXs] at hst
        by_cases hx3 : X.size ≤ 300
        · have QF := Lib.hid (show smallL a = (a.drop (i + 1)).all fun x => decide (x.length ≤ 300) by rw [hh.out, hst]; simp [hx3])
          clear hx hX hXs hst hh
          go_wp2
          exact ⟨⟨i + 1, by go_num, by omega, QF⟩, by simp [intOf]; omega⟩
        · have QF := Lib.hid (show smallL a = false by rw [hh.out, hst]; simp [hx3])
          have hx4 : 300 < X.size := by omega
          clear hx hX hXs hst hh hx3
          go_wp2
          go_ret
          exact ⟨ret_bool QF.out.symm, rfl⟩
      · have QF := Lib.hid (show smallL a = true by rw [hh.out, List.drop_eq_nil_of_le (by omega)]; rfl)
        clear hh
        go_wp2
        go_ret
        exact ⟨ret_bool QF.out.symm, rfl⟩
  · have HF := Lib.hid (show smallL a = false by simp [smallL, h40])
    have h41 : 40 < a.length := by omega
    clear h40
    go_enter Tryd.func18, Tryd.ntmps18
    go_wp2
    go_ret
    exact ⟨ret_bool HF.out.symm, rfl⟩
end Go.Proofs.YthnhnaaihhagaaaDoor
