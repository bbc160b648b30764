/-
  The walk of the law TextParts.
-/
import Derived.Test.YthnhnaaihhagaaaDoorCopy
import Derived.Test.YthnhnaaihhagaaaDoorPlain
namespace Go.Proofs.YthnhnaaihhagaaaDoor
open Go.RowKit Go.Shelf

theorem intCells_append (a b : List Int) : intCells (a ++ b) = intCells a ++ intCells b := by simp [intCells]
theorem intCells_one (a : List Int) : ∀ u ∈ intCells a, u.oneCell' = true := by
  intro u hu
  obtain ⟨x, _, rfl⟩ := List.mem_map.1 hu
  rfl
theorem intCells_len (a : List Int) : (intCells a).length = a.length * 1 := by simp [intCells]
theorem add_lists (w : World) (a b : ByteArray) (c : ByteArray) (h : a.size + b.size ≤ 1000000) (hc : a.data.toList ++ b.data.toList = c.data.toList) : (Op.stringOp .add a b).run Tryd.prog w = .ok (.string c) w := by
  rw [run_string_add_sum w a b (by omega)]
  have : a ++ b = c := eq_of_list (by simpa using hc)
  rw [this]

set_option maxHeartbeats 4000000 in
set_option maxRecDepth 100000 in
theorem textParts_any (s t : ByteArray) (w : World) (hE : Env w) :
    Calls Tryd.prog 5 #[.string s, .string t] w fun e w' => e = .returned (.bool true) ∧ Below w.heap.size w w' := by
  obtain ⟨i0, hi, hz0, hz1, hz2⟩ := info_parts int_info
  go_enter Tryd.func5, Tryd.ntmps5
  go_wp2_with fail
  refine (shown_any w hE).mono ?_
  rintro e w1 ⟨rfl, b1⟩
  have hE1 := hE.next b1
  by_cases h6 : s.size ≤ 300
  · by_cases h7 : t.size ≤ 300
    · obtain ⟨SB, hSB⟩ : ∃ SB : ByteArray, SB.data.toList = s.data.toList ++ [124] := ⟨⟨(s.data.toList ++ [124]).toArray⟩, rfl⟩
      obtain ⟨SC, hSC⟩ : ∃ SC : ByteArray, SC.data.toList = s.data.toList ++ 124 :: t.data.toList := ⟨⟨(s.data.toList ++ 124 :: t.data.toList).toArray⟩, rfl⟩
      have hs1 : SB.size = s.size + 1 := by rw [Lib.size_eq, hSB, Lib.size_eq]; simp
      have hs2 : SC.size = s.size + 1 + t.size := by rw [Lib.size_eq, hSC, Lib.size_eq, Lib.size_eq]; simp; omega
      have hadd1 : ∀ w, (Op.stringOp .add s ⟨#[124]⟩).run Tryd.prog w = .ok (.string SB) w := fun w => add_lists w s ⟨#[124]⟩ SB (by have : (⟨#[124]⟩ : ByteArray).size = 1 := rfl; omega) (by rw [hSB])
      have hadd2 : ∀ w, (Op.stringOp .add SB t).run Tryd.prog w = .ok (.string SC) w := fun w => add_lists w SB t SC (by omega) (by rw [hSB, hSC]; simp)
      have H1 := Lib.hid (fun w hE => runes_any SB w hE (by omega))
      have H2 := Lib.hid (fun w hE => runes_any t w hE (by omega))
      have H3 := Lib.hid (fun w hE => runes_any SC w hE (by omega))
      have hla := toks_le SB.data.toList
      rw [← runes_len, ← Lib.size_eq] at hla
      have hlb := toks_le t.data.toList
      rw [← runes_len, ← Lib.size_eq] at hlb
      have hJ := runes_bar s.data.toList t.data.toList
      rw [← hSB, ← hSC] at hJ
      have HB := Lib.hid (runes_bounds SB.data.toList)
      have hW := runes_wide SB.data.toList
      rw [← Lib.size_eq, hs1] at hW
      rw [hJ] at H3
      clear hJ hSB hSC
      generalize Txt.runes SB.data.toList = A at *
      generalize Txt.runes t.data.toList = B at *
      rw [hs1] at hla
      clear hs1 hs2
      have hA9 : A.length ≤ 301 := by omega
      have hB9 : B.length ≤ 300 := by omega
      have HW := Lib.hid hW
      clear hW hla hlb
      go_wp2_with fail
      refine (H1.out w1 hE1).mono ?_
      rintro e w2 ⟨x, rfl, hx, b2⟩
      have hE2 := hE1.next b2
      have bb2 := Below.up b1 (Nat.le_refl _) b2
      have hx2 := cells_of_owns hx
      clear hx b1 b2 H1
      go_wp2_with fail
      refine (H2.out w2 hE2).mono ?_
      rintro e w3 ⟨y, rfl, hy, b3⟩
      have hE3 := hE2.next b3
      have bb3 := Below.up bb2 (Nat.le_refl _) b3
      have hx3 := hx2.next b3
      have hy3 := cells_of_owns hy
      clear hy b3 hx2 bb2 H2
      go_wp2_with fail
      refine (H3.out w3 hE3).mono ?_
      rintro e w4 ⟨z, rfl, hz, b4⟩
      have hE4 := hE3.next b4
      have bb4 := Below.up bb3 (Nat.le_refl _) b4
      have hx4 := hx3.next b4
      have hy4 := hy3.next b4
      have hz4 := cells_of_owns hz
      clear hz b4 hx3 hy3 bb3 H3 hadd1 hadd2 hE1 hE2 hE3
      obtain ⟨oa, ca, rfl, hA⟩ := cells_slice hx4
      have HA := Lib.hid hA
      clear hA
      go_wp2_with fail
      go_loopw [9, 10] (fun wv lv wr => ∃ i nd : Nat, wv = .int .i64 (wideN (A.take i) : Nat) ∧ lv = .int .i64 i ∧ wr = w4.drewN nd ∧ i ≤ A.length) (fun _ lv _ => A.length - (intOf lv).toNat)
      case atStart => exact ⟨0, 0, rfl, rfl, rfl, by omega⟩
      case round =>
        obtain ⟨i, nd, rfl, rfl, rfl, hil⟩ := hrel
        have hwl := wideN_take_le A i
        by_cases hp : i < A.length
        · obtain ⟨b1, o1, rfl, hc1⟩ := HA.out (by omega)
          have hc1 := hc1 i (.int .i64 A[i]) (by simp [intCells, List.getElem?_eq_getElem hp])
          have hst := wideN_step A i hp
          obtain ⟨g1, g2⟩ := HB.out A[i] (List.getElem_mem hp)
          obtain ⟨r, hr⟩ : ∃ r, A[i] = r := ⟨_, rfl⟩
          rw [hr] at hc1 hst g1 g2
          by_cases hw : 128 ≤ r
          · rw [if_pos hw] at hst
            have HS := Lib.hid hst
            clear hst hr
            go_wp2
            exact ⟨⟨i + 1, _, by rw [HS.out]; go_num, by go_num, rfl, by omega⟩, by simp [intOf]; omega⟩
          · rw [if_neg hw] at hst
            have HS := Lib.hid hst
            clear hst hr
            go_wp2
            exact ⟨⟨i + 1, _, by rw [HS.out]; go_num, by go_num, rfl, by omega⟩, by simp [intOf]; omega⟩
        · have hie : i = A.length := by omega
          subst hie
          rw [List.take_length] at hwl ⊢
          have hW := HW.out
          have c00 : Below w4.heap.size w4 (w4.drewN nd) := below_drewN (Below.refl _ _) nd
          obtain ⟨w5, hw5⟩ : ∃ w5, w4.drewN nd = w5 := ⟨_, rfl⟩
          rw [hw5] at c00 ⊢
          have hx5 := hx4.next c00
          have hy5 := hy4.next c00
          have hz5 := hz4.next c00
          have bb5 := Below.up bb4 (Nat.le_refl _) c00
          clear hx4 hy4 hz4 c00 hw5 bb4 HA HB
          have c0 : Below w5.heap.size w5 (w5.alloc (.cells #[] 3)) := (Below.refl _ _).alloc (Nat.le_refl _) _
          have o0 := owns_new w5 w5.heap.size 3 (Nat.le_refl _)
          go_wp2_with (at_builtin; refine wpList_append_cells rfl _ _ 29 rfl w5.heap.size 3 i0 (.int .i64 0) 8 Tryd.underlying29 hi hz0 hz1 hz2 rfl _ _ _ rfl o0 _ _ (intCells A) rfl (hx5.next c0) (intCells_one A) ?c1 ?c2 ?c3 ?_)
          case c1 => unfold maxLen; omega
          case c2 => omega
          case c3 => exact c0.size
          intro v6 w6 hown6 hg6
          have c6 : Below w5.heap.size w5 w6 := c0.grown hg6 c0.size (fun k hk => (o0.lt k hk).1)
          have hy6 := hy5.next c6
          go_wp2_with (at_builtin; refine wpList_append_cells rfl _ _ 29 rfl w5.heap.size 3 i0 (.int .i64 0) 8 Tryd.underlying29 hi hz0 hz1 hz2 rfl _ _ _ rfl hown6 _ _ (intCells B) rfl hy6 (intCells_one B) ?c1 ?c2 ?c3 ?_)
          case c1 => unfold maxLen; omega
          case c2 => omega
          case c3 => exact c6.size
          intro v7 w7 hown7 hg7
          have c7 : Below w5.heap.size w5 w7 := c6.grown hg7 c6.size (fun k hk => (hown6.lt k hk).1)
          have hz7 := hz5.next c7
          have hv7 : Cells w7 v7 1 (A ++ B).length (intCells (A ++ B)) := by
            have := cells_of_owns hown7
            rw [intCells_append, List.length_append]
            simpa using this
          have bb7 := Below.up bb5 (Nat.le_refl _) c7
          clear hown6 hg6 hown7 hg7 hy6 o0 c0 c6 c7 hy5 hx5 hz5 bb5
          go_wp2_with fail
          refine (sameInts_any z v7 (A ++ B) (A ++ B) w7 hz7 hv7 (by simp; omega) (by simp; omega)).mono ?_
          rintro e w8 ⟨rfl, n8, rfl⟩
          have bb8 := below_drewN bb7 n8
          rw [show decide (A ++ B = A ++ B) = true by simp]
          go_wp2
          go_ret
          refine ⟨ret_bool ?_, bb8⟩
          exact decide_eq_true (by omega)
    · have h8 : 300 < t.size := by omega
      clear h7
      go_wp2
      go_ret
      exact ⟨rfl, b1⟩
  · have h7 : 300 < s.size := by omega
    clear h6
    go_wp2
    go_ret
    exact ⟨rfl, b1⟩
end Go.Proofs.YthnhnaaihhagaaaDoor
