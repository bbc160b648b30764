/-
  The walk of the law TextJoins.
-/
import Derived.Test.YthnhnaaihhagaaaDoorLawParts
import Derived.Test.YthnhnaaihhagaaaDoorLawWords
namespace Go.Proofs.YthnhnaaihhagaaaDoor
open Go.RowKit Go.Shelf

theorem wordsV_tuple {w : World} {B : Nat} {v : Value} {u : Option (List (List UInt8))} (h : WordsV w B v u) : ∃ x n, v = .tuple #[x, .int .i64 n] := by
  cases u with
  | none => obtain rfl := h; exact ⟨_, _, rfl⟩
  | some a => obtain ⟨x, rfl, _⟩ := h; exact ⟨_, _, rfl⟩
theorem strCells_append (a b : List (List UInt8)) : strCells (a ++ b) = strCells a ++ strCells b := by simp [strCells]
theorem strCells_one (a : List (List UInt8)) : ∀ u ∈ strCells a, u.oneCell' = true := by
  intro u hu
  obtain ⟨x, _, rfl⟩ := List.mem_map.1 hu
  rfl

set_option maxHeartbeats 4000000 in
set_option maxRecDepth 100000 in
theorem textJoins_any (s t : ByteArray) (w : World) (hE : Env w) :
    Calls Tryd.prog 10 #[.string s, .string t] w fun e w' => e = .returned (.bool true) ∧ Below w.heap.size w w' := by
  obtain ⟨i0, hi, hz0, hz1, hz2⟩ := info_parts str_info
  go_enter Tryd.func10, Tryd.ntmps10
  go_wp2_with fail
  refine (shown_any w hE).mono ?_
  rintro e w1 ⟨rfl, b1⟩
  have hE1 := hE.next b1
  by_cases h6 : s.size ≤ 400
  · by_cases h7 : t.size ≤ 400
    · obtain ⟨SB, hSB⟩ : ∃ SB : ByteArray, SB.data.toList = s.data.toList ++ [32] := ⟨⟨(s.data.toList ++ [32]).toArray⟩, rfl⟩
      obtain ⟨SC, hSC⟩ : ∃ SC : ByteArray, SC.data.toList = s.data.toList ++ 32 :: t.data.toList := ⟨⟨(s.data.toList ++ 32 :: t.data.toList).toArray⟩, rfl⟩
      have hs1 : SB.size = s.size + 1 := by rw [Lib.size_eq, hSB, Lib.size_eq]; simp
      have hs2 : SC.size = s.size + 1 + t.size := by rw [Lib.size_eq, hSC, Lib.size_eq, Lib.size_eq]; simp; omega
      have hadd1 : ∀ w, (Op.stringOp .add s ⟨#[32]⟩).run Tryd.prog w = .ok (.string SB) w := fun w => add_lists w s ⟨#[32]⟩ SB (by have : (⟨#[32]⟩ : ByteArray).size = 1 := rfl; omega) (by rw [hSB])
      have hadd2 : ∀ w, (Op.stringOp .add SB t).run Tryd.prog w = .ok (.string SC) w := fun w => add_lists w SB t SC (by omega) (by rw [hSB, hSC]; simp)
      have H1 := Lib.hid (fun w hE => words_any s w hE (by omega))
      have H2 := Lib.hid (fun w hE => words_any t w hE (by omega))
      have H3 := Lib.hid (fun w hE => words_any SC w hE (by omega))
      have H4 := Lib.hid (fun w hE => name_any s w hE (by omega))
      have HL1 := Lib.hid (fun a h => words_len s.data.toList.length s.data.toList a (Nat.le_refl _) h)
      have HL2 := Lib.hid (fun a h => words_len t.data.toList.length t.data.toList a (Nat.le_refl _) h)
      have HJ := Lib.hid (fun a b h1 h2 => words_two_lines s.data.toList t.data.toList a b h1 h2)
      have HN := Lib.hid (fun h => name_words s.data.toList h)
      have HLN := Lib.hid (fun h => name_line s.data.toList h)
      have hs9 : s.data.toList.length ≤ 400 := by rw [← Lib.size_eq]; exact h6
      have ht9 : t.data.toList.length ≤ 400 := by rw [← Lib.size_eq]; exact h7
      rw [← hSC] at HJ
      clear hSB hSC hs1 hs2
      generalize Txt.words s.data.toList = u1 at *
      generalize Txt.words t.data.toList = u2 at *
      generalize Txt.words SC.data.toList = u3 at *
      generalize hnm : Txt.name s.data.toList = nm at *
      go_wp2_with fail
      refine (H1.out w1 hE1).mono ?_
      rintro e w2 ⟨⟨v2, rfl, hv2⟩, b2⟩
      have hE2 := hE1.next b2
      have bb2 := Below.up b1 (Nat.le_refl _) b2
      clear b1 b2
      cases u1 with
      | none =>
        obtain rfl := hv2
        go_wp2_with fail
        refine (H2.out _ hE2).mono ?_
        rintro e w3 ⟨⟨v3, rfl, hv3⟩, b3⟩
        obtain ⟨x3, n3, rfl⟩ := wordsV_tuple hv3
        clear hv3
        have hE3 := hE2.next b3
        have bb3 := Below.up bb2 (Nat.le_refl _) b3
        clear b3 bb2
        go_wp2_with fail
        refine (H3.out _ hE3).mono ?_
        rintro e w4 ⟨⟨v4, rfl, hv4⟩, b4⟩
        obtain ⟨x4, n4, rfl⟩ := wordsV_tuple hv4
        clear hv4
        have hE4 := hE3.next b4
        have bb4 := Below.up bb3 (Nat.le_refl _) b4
        clear b4 bb3
        go_wp2_with fail
        refine (H1.out _ hE4).mono ?_
        rintro e w5 ⟨⟨v5, rfl, hv5⟩, b5⟩
        obtain rfl := hv5
        have hE5 := hE4.next b5
        have bb5 := Below.up bb4 (Nat.le_refl _) b5
        clear b5 bb4
        go_wp2_with fail
        refine (H4.out _ hE5).mono ?_
        rintro e w6 ⟨rfl, b6⟩
        have bb6 := Below.up bb5 (Nat.le_refl _) b6
        have hf : nm = false := by
          cases hn : nm with
          | false => rfl
          | true => exact absurd (HN.out hn) (by simp)
        subst hf
        go_wp2
        go_ret
        exact ⟨rfl, bb6⟩
      | some a =>
        obtain ⟨x2, rfl, hown2⟩ := hv2
        have hx2 := cells_of_owns hown2
        have hal := HL1.out a rfl
        clear hown2
        go_wp2_with fail
        refine (H2.out _ hE2).mono ?_
        rintro e w3 ⟨⟨v3, rfl, hv3⟩, b3⟩
        have hx3 := hx2.next b3
        have hE3 := hE2.next b3
        have bb3 := Below.up bb2 (Nat.le_refl _) b3
        clear b3 bb2 hx2
        cases u2 with
        | none =>
          obtain rfl := hv3
          go_wp2_with fail
          refine (H3.out _ hE3).mono ?_
          rintro e w4 ⟨⟨v4, rfl, hv4⟩, b4⟩
          obtain ⟨x4, n4, rfl⟩ := wordsV_tuple hv4
          clear hv4
          have hE4 := hE3.next b4
          have bb4 := Below.up bb3 (Nat.le_refl _) b4
          clear b4 bb3
          go_wp2_with fail
          refine (H1.out _ hE4).mono ?_
          rintro e w5 ⟨⟨v5, rfl, hv5⟩, b5⟩
          obtain ⟨x5, rfl, hown5⟩ := hv5
          have hx5 := cells_of_owns hown5
          have hE5 := hE4.next b5
          have bb5 := Below.up bb4 (Nat.le_refl _) b5
          clear b5 bb4 hown5
          go_wp2_with fail
          refine (H4.out _ hE5).mono ?_
          rintro e w6 ⟨rfl, b6⟩
          have hx6 := hx5.next b6
          have hE6 := hE5.next b6
          have bb6 := Below.up bb5 (Nat.le_refl _) b6
          clear b6 bb5 hx5
          cases nm with
          | false =>
            go_wp2
            go_ret
            exact ⟨rfl, bb6⟩
          | true =>
            obtain rfl := Option.some.inj (HN.out rfl)
            have hln := HLN.out rfl
            go_wp2_with fail
            refine (same_any x5 _ [s.data.toList] [s.data.toList] _ (hx6.next ((Below.refl _ _).alloc (Nat.le_refl _) _)) (cells_new w6 [.string s] 9 1 rfl) (by simp) (by simp)).mono ?_
            rintro e w7 ⟨rfl, n, rfl⟩
            have b7 : Below w6.heap.size w6 ((w6.alloc (.cells #[.string s] 9)).drewN n) := below_drewN ((Below.refl _ _).alloc (Nat.le_refl _) _) n
            have hx7 := hx6.next b7
            have hE7 := hE6.next b7
            have bb7 := Below.up bb6 (Nat.le_refl _) b7
            rw [show decide ([s.data.toList] = [s.data.toList]) = true by simp]
            go_wp2_with fail
            refine (line_any x5 [s.data.toList] _ hE7 hx7 (by simp) (by intro y hy; rw [List.mem_singleton] at hy; rw [hy]; omega)).mono ?_
            rintro e w8 ⟨rfl, b8⟩
            have bb8 := Below.up bb7 (Nat.le_refl _) b8
            rw [hln, show (⟨s.data.toList.toArray⟩ : ByteArray) = s from eq_of_list rfl]
            go_wp2
            go_ret
            exact ⟨rfl, bb8⟩
        | some b =>
          obtain ⟨y3, rfl, hown3⟩ := hv3
          have hy3 := cells_of_owns hown3
          have hbl := HL2.out b rfl
          have hu3 := HJ.out a b rfl rfl
          subst hu3
          go_wp2_with fail
          refine (H3.out _ hE3).mono ?_
          rintro e w4 ⟨⟨v4, rfl, hv4⟩, b4⟩
          obtain ⟨z4, rfl, hown4⟩ := hv4
          have hz4 := cells_of_owns hown4
          have hx4 := hx3.next b4
          have hy4 := hy3.next b4
          have hE40 := hE3.next b4
          have bb40 := Below.up bb3 (Nat.le_refl _) b4
          clear b4 bb3 hown3 hown4 hx3 hy3
          have c0 : Below w4.heap.size w4 (w4.alloc (.cells #[] 9)) := (Below.refl _ _).alloc (Nat.le_refl _) _
          have o0 := owns_new w4 w4.heap.size 9 (Nat.le_refl _)
          go_wp2_with (at_builtin; refine wpList_append_cells rfl _ _ 32 rfl w4.heap.size 9 i0 (.string ⟨#[]⟩) 16 Tryd.underlying32 hi hz0 hz1 hz2 rfl _ _ _ rfl o0 _ _ (strCells a) rfl (hx4.next c0) (strCells_one a) ?c1 ?c2 ?c3 ?_)
          case c1 => unfold maxLen; omega
          case c2 => omega
          case c3 => exact c0.size
          intro v5 w5 hown5 hg5
          have c5 : Below w4.heap.size w4 w5 := c0.grown hg5 c0.size (fun k hk => (o0.lt k hk).1)
          have hy5 := hy4.next c5
          go_wp2_with (at_builtin; refine wpList_append_cells rfl _ _ 32 rfl w4.heap.size 9 i0 (.string ⟨#[]⟩) 16 Tryd.underlying32 hi hz0 hz1 hz2 rfl _ _ _ rfl hown5 _ _ (strCells b) rfl hy5 (strCells_one b) ?c1 ?c2 ?c3 ?_)
          case c1 => unfold maxLen; omega
          case c2 => omega
          case c3 => exact c5.size
          intro v6 w6 hown6 hg6
          have c6 : Below w4.heap.size w4 w6 := c5.grown hg6 c5.size (fun k hk => (hown5.lt k hk).1)
          have hz6 := hz4.next c6
          have hv6 : Cells w6 v6 1 (a ++ b).length (strCells (a ++ b)) := by
            have := cells_of_owns hown6
            rw [strCells_append, List.length_append]
            simpa using this
          have hE6 := hE40.next c6
          have bb6 := Below.up bb40 (Nat.le_refl _) c6
          clear hown5 hg5 hown6 hg6 hy5 o0 c0 c5 hy4 hx4 hz4 c6 bb40 hE40
          go_wp2_with fail
          refine (same_any z4 v6 (a ++ b) (a ++ b) w6 hz6 hv6 (by simp; omega) (by simp; omega)).mono ?_
          rintro e w7 ⟨rfl, n7, rfl⟩
          have b7 : Below w6.heap.size w6 (w6.drewN n7) := below_drewN (Below.refl _ _) n7
          have hE4 := hE6.next b7
          have bb4 := Below.up bb6 (Nat.le_refl _) b7
          rw [show decide (a ++ b = a ++ b) = true by simp]
          clear b7 bb6 hz6 hv6
          go_wp2_with fail
          refine (H1.out _ hE4).mono ?_
          rintro e w15 ⟨⟨v5, rfl, hv5⟩, b5⟩
          obtain ⟨x5, rfl, hown5⟩ := hv5
          have hx5 := cells_of_owns hown5
          have hE15 := hE4.next b5
          have bb15 := Below.up bb4 (Nat.le_refl _) b5
          clear b5 bb4 hown5
          go_wp2_with fail
          refine (H4.out _ hE15).mono ?_
          rintro e w16 ⟨rfl, b16⟩
          have hx6 := hx5.next b16
          have hE16 := hE15.next b16
          have bb16 := Below.up bb15 (Nat.le_refl _) b16
          clear b16 bb15 hx5
          cases nm with
          | false =>
            go_wp2
            go_ret
            exact ⟨rfl, bb16⟩
          | true =>
            obtain rfl := Option.some.inj (HN.out rfl)
            have hln := HLN.out rfl
            go_wp2_with fail
            refine (same_any x5 _ [s.data.toList] [s.data.toList] _ (hx6.next ((Below.refl _ _).alloc (Nat.le_refl _) _)) (cells_new w16 [.string s] 9 1 rfl) (by simp) (by simp)).mono ?_
            rintro e w17 ⟨rfl, n, rfl⟩
            have b17 : Below w16.heap.size w16 ((w16.alloc (.cells #[.string s] 9)).drewN n) := below_drewN ((Below.refl _ _).alloc (Nat.le_refl _) _) n
            have hx7 := hx6.next b17
            have hE17 := hE16.next b17
            have bb17 := Below.up bb16 (Nat.le_refl _) b17
            rw [show decide ([s.data.toList] = [s.data.toList]) = true by simp]
            go_wp2_with fail
            refine (line_any x5 [s.data.toList] _ hE17 hx7 (by simp) (by intro y hy; rw [List.mem_singleton] at hy; rw [hy]; omega)).mono ?_
            rintro e w8 ⟨rfl, b8⟩
            have bb8 := Below.up bb17 (Nat.le_refl _) b8
            rw [hln, show (⟨s.data.toList.toArray⟩ : ByteArray) = s from eq_of_list rfl]
            go_wp2
            go_ret
            exact ⟨rfl, bb8⟩
    · have h8 : 400 < t.size := by omega
      clear h7
      go_wp2
      go_ret
      exact ⟨rfl, b1⟩
  · have h7 : 400 < s.size := by omega
    clear h6
    go_wp2
    go_ret
    exact ⟨rfl, b1⟩
end Go.Proofs.YthnhnaaihhagaaaDoor
