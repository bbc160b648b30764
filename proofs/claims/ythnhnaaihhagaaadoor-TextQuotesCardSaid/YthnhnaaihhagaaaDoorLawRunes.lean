/-
  The walk of the law TextRunes.
-/
import Derived.Test.YthnhnaaihhagaaaDoorShown
namespace Go.Proofs.YthnhnaaihhagaaaDoor
open Go.RowKit Go.Shelf

set_option maxHeartbeats 2000000 in
set_option maxRecDepth 100000 in
theorem textRunes_any (s : ByteArray) (w : World) (hE : Env w) :
    Calls Tryd.prog 8 #[.string s] w fun e w' => e = .returned (.bool true) ∧ Below w.heap.size w w' := by
  go_enter Tryd.func8, Tryd.ntmps8
  go_wp2_with fail
  refine (shown_any w hE).mono ?_
  rintro e w1 ⟨rfl, b1⟩
  have hE1 := hE.next b1
  by_cases h6 : s.size ≤ 600
  · have hl := toks_le s.data.toList
    rw [← runes_len, ← Lib.size_eq] at hl
    have hl9 : (Txt.runes s.data.toList).length ≤ 1000000000 := by omega
    have H1 := Lib.hid (fun w hE => runes_any s w hE (by omega))
    have H2 := Lib.hid (fun w => refRunes_any s w (by omega))
    have H3 := Lib.hid (fun w hE => name_any s w hE (by omega))
    have H4 := Lib.hid (fun w => refName_any s w (by omega))
    generalize Txt.runes s.data.toList = rs at *
    generalize Txt.name s.data.toList = nm at *
    clear hl
    go_wp2_with fail
    refine (H1.out w1 hE1).mono ?_
    rintro e w2 ⟨x, rfl, hx, b2⟩
    have hE2 := hE1.next b2
    have bb2 := Below.up b1 (Nat.le_refl _) b2
    have hx2 := cells_of_owns hx
    clear hx b1 b2
    go_wp2_with fail
    refine (H2.out w2).mono ?_
    rintro e w3 ⟨y, rfl, hy, b3⟩
    have hE3 := hE2.next b3
    have bb3 := Below.up bb2 (Nat.le_refl _) b3
    have hx3 := hx2.next b3
    have hy3 := cells_of_owns hy
    clear hy b3 hx2 bb2
    go_wp2_with fail
    refine (sameInts_any x y rs rs w3 hx3 hy3 hl9 hl9).mono ?_
    rintro e w4 ⟨rfl, n, rfl⟩
    have b4 : Below w3.heap.size w3 (w3.drewN n) := below_drewN (Below.refl _ _) n
    have hE4 := hE3.next b4
    have bb4 := Below.up bb3 (Nat.le_refl _) b4
    rw [show decide (rs = rs) = true by simp]
    clear bb3 b4 hx3 hy3
    go_wp2_with fail
    refine (H3.out _ hE4).mono ?_
    rintro e w5 ⟨rfl, b5⟩
    have bb5 := Below.up bb4 (Nat.le_refl _) b5
    clear b5 bb4
    go_wp2_with fail
    refine (H4.out w5).mono ?_
    rintro e w6 ⟨rfl, b6⟩
    have bb6 := Below.up bb5 (Nat.le_refl _) b6
    clear b6 bb5
    cases nm
    all_goals
      go_wp2
      go_ret
      exact ⟨rfl, bb6⟩
  · have h7 : 600 < s.size := by omega
    clear h6
    go_wp2
    go_ret
    exact ⟨rfl, b1⟩

set_option maxHeartbeats 2000000 in
set_option maxRecDepth 100000 in
theorem textQuotes_any (s : ByteArray) (w : World) (hE : Env w) :
    Calls Tryd.prog 3 #[.string s] w fun e w' => e = .returned (.bool true) ∧ Below w.heap.size w w' := by
  go_enter Tryd.func3, Tryd.ntmps3
  go_wp2_with fail
  refine (shown_any w hE).mono ?_
  rintro e w1 ⟨rfl, b1⟩
  have hE1 := hE.next b1
  by_cases h6 : s.size ≤ 600
  · have H1 := Lib.hid (fun w hE => unquote_any s w hE (by omega))
    have H2 := Lib.hid (fun w hE => refUnquote_any s w hE (by omega))
    have H3 := Lib.hid (fun w hE => quote_any s w hE (by omega))
    have H4 := Lib.hid (fun w => refQuote_any s w (by omega))
    rw [unq_same] at H1
    generalize Txt.unq Txt.dgR s.data.toList = u at *
    obtain ⟨Q, hQ⟩ : ∃ Q : ByteArray, (⟨(Txt.quote s.data.toList).toArray⟩ : ByteArray) = Q := ⟨_, rfl⟩
    rw [hQ] at H3 H4
    clear hQ
    cases u
    all_goals
      simp only [eV] at H1 H2
      go_wp2_with fail
      refine (H1.out w1 hE1).mono ?_
      rintro e w2 ⟨rfl, b2⟩
      have hE2 := hE1.next b2
      have bb2 := Below.up b1 (Nat.le_refl _) b2
      clear b2
      go_wp2_with fail
      refine (H2.out w2 hE2).mono ?_
      rintro e w3 ⟨rfl, b3⟩
      have hE3 := hE2.next b3
      have bb3 := Below.up bb2 (Nat.le_refl _) b3
      clear b3 bb2
      go_wp2_with fail
      refine (H3.out w3 hE3).mono ?_
      rintro e w4 ⟨rfl, b4⟩
      have bb4 := Below.up bb3 (Nat.le_refl _) b4
      clear b4 bb3
      go_wp2_with fail
      refine (H4.out w4).mono ?_
      rintro e w5 ⟨rfl, n, rfl⟩
      have bb5 := below_drewN bb4 n
      go_wp2
      go_ret
      exact ⟨rfl, bb5⟩
  · have h7 : 600 < s.size := by omega
    clear h6
    go_wp2
    go_ret
    exact ⟨rfl, b1⟩
end Go.Proofs.YthnhnaaihhagaaaDoor
