/-
  The walks of the reference's Name and bare: over the numbers of the text's tokens.
-/
import Derived.Test.YthnhnaaihhagaaaDoorRunes
import Derived.Test.YthnhnaaihhagaaaDoorBare
namespace Go.Proofs.YthnhnaaihhagaaaDoor
open Go.RowKit Go.Shelf

theorem runes_len (l : List UInt8) : (Txt.runes l).length = (Txt.toks l).length := by simp [Txt.runes]
theorem runes_all (l : List UInt8) (p : Int → Bool) : ((Txt.toks l).all fun t => p t.1) = (Txt.runes l).all p := by simp [Txt.runes, List.all_map]; rfl
theorem toks_le (l : List UInt8) : (Txt.toks l).length ≤ l.length := by
  have h : ∀ (n : Nat) (l : List UInt8), l.length ≤ n → (Txt.toks l).length ≤ l.length := by
    intro n
    induction n with
    | zero => intro l hl; obtain rfl : l = [] := List.eq_nil_of_length_eq_zero (by omega); simp [Txt.toks_nil]
    | succ n ih =>
      intro l hl
      cases l with
      | nil => simp [Txt.toks_nil]
      | cons b t =>
        have hw := Txt.tok_width b t
        rw [Txt.toks_cons]
        have := ih ((b :: t).drop (Txt.tok (b :: t)).2) (by simp only [List.length_drop, List.length_cons] at *; omega)
        simp only [List.length_drop, List.length_cons] at *; omega
  exact h _ l (Nat.le_refl _)
/-- A cell of a row of numbers. -/
theorem int_at {w : World} {v : Value} {rs : List Int} (h : Cells w v 1 rs.length (intCells rs)) (i : Nat) (hi : i < rs.length) :
    ∃ b o c, v = .slice (some ⟨b, o, none⟩) rs.length c ∧ w.cell? ⟨b, o + i, none⟩ = some (.int .i64 rs[i]) := by
  rcases h.2 with ⟨h0, _⟩ | ⟨b, o, c, h1, h2⟩
  · omega
  · exact ⟨b, o, c, h1, h2 i _ (by simp [intCells, List.getElem?_eq_getElem hi])⟩
theorem named_no {r : Int} (h : ¬ ((97 ≤ r ∧ r ≤ 122) ∨ (65 ≤ r ∧ r ≤ 90) ∨ (48 ≤ r ∧ r ≤ 57) ∨ r = 45 ∨ r = 95 ∨ r = 46 ∨ 160 ≤ r)) : Txt.named r = false := by
  rw [Bool.eq_false_iff]; simp only [Txt.named, ne_eq, Bool.or_eq_true, decide_eq_true_eq, beq_iff_eq]; omega
theorem named_yes {r : Int} (h : (97 ≤ r ∧ r ≤ 122) ∨ (65 ≤ r ∧ r ≤ 90) ∨ (48 ≤ r ∧ r ≤ 57) ∨ r = 45 ∨ r = 95 ∨ r = 46 ∨ 160 ≤ r) : Txt.named r = true := by
  simp only [Txt.named, Bool.or_eq_true, decide_eq_true_eq, beq_iff_eq]; omega
theorem named_cases {r : Int} (h : Txt.named r = true) : (97 ≤ r ∧ r ≤ 122) ∨ (¬ 97 ≤ r ∧ 65 ≤ r ∧ r ≤ 90) ∨ (¬ 97 ≤ r ∧ ¬ 65 ≤ r ∧ 48 ≤ r ∧ r ≤ 57) ∨ r = 45 ∨ r = 95 ∨ r = 46 ∨
    (97 ≤ r ∧ ¬ r ≤ 122 ∧ 65 ≤ r ∧ ¬ r ≤ 90 ∧ 48 ≤ r ∧ ¬ r ≤ 57 ∧ ¬ r < 160 ∧ (r != 45) = true ∧ (r != 95) = true ∧ (r != 46) = true) := by
  simp only [Txt.named, Bool.or_eq_true, decide_eq_true_eq, beq_iff_eq] at h
  simp only [bne_iff_ne, ne_eq]
  omega
theorem named_gaps {r : Int} (h : Txt.named r = false) : (r != 45) = true ∧ (r != 95) = true ∧ (r != 46) = true ∧ r < 160 ∧
    ((¬ 97 ≤ r ∧ ¬ 65 ≤ r ∧ ¬ 48 ≤ r) ∨ (¬ 97 ≤ r ∧ ¬ 65 ≤ r ∧ 48 ≤ r ∧ ¬ r ≤ 57) ∨ (¬ 97 ≤ r ∧ 65 ≤ r ∧ ¬ r ≤ 90 ∧ 48 ≤ r ∧ ¬ r ≤ 57) ∨ (97 ≤ r ∧ ¬ r ≤ 122 ∧ 65 ≤ r ∧ ¬ r ≤ 90 ∧ 48 ≤ r ∧ ¬ r ≤ 57)) := by
  rw [Bool.eq_false_iff] at h
  simp only [Txt.named, ne_eq, Bool.or_eq_true, decide_eq_true_eq, beq_iff_eq] at h
  simp only [bne_iff_ne, ne_eq]
  omega
theorem plain_no {r : Int} (h : r < 33 ∨ r = 34 ∨ r = 127) : Txt.plainTok r = false := by
  simp [Txt.plainTok]; omega
theorem plain_yes {r : Int} (h : ¬ (r < 33 ∨ r = 34 ∨ r = 127)) : Txt.plainTok r = true := by
  simp [Txt.plainTok]; omega
theorem all_drop_step (p : Int → Bool) (rs : List Int) (i : Nat) (hi : i < rs.length) : (rs.drop i).all p = (p rs[i] && (rs.drop (i + 1)).all p) := by
  rw [List.drop_eq_getElem_cons hi, List.all_cons]

set_option maxHeartbeats 2000000 in
set_option maxRecDepth 100000 in
theorem refName_any (s : ByteArray) (w : World) (hs : s.size ≤ 1000000000000) :
    Calls Tryd.prog 26 #[.string s] w fun e w' => e = .returned (.bool (Txt.name s.data.toList)) ∧ Below w.heap.size w w' := by
  have hl := toks_le s.data.toList
  rw [← runes_len, ← Lib.size_eq] at hl
  have hN : Txt.name s.data.toList = (decide (1 ≤ (Txt.runes s.data.toList).length) && decide ((Txt.runes s.data.toList).length ≤ 32) && (Txt.runes s.data.toList).all Txt.named) := by
    rw [Txt.name, runes_all, ← runes_len]
  have HR := Lib.hid (refRunes_any s w hs)
  generalize Txt.runes s.data.toList = rs at *
  have HN := Lib.hid hN; clear hN
  go_enter Tryd.func26, Tryd.ntmps26
  go_wp2_with fail
  refine HR.out.mono ?_
  rintro e w1 ⟨v, rfl, hown, hb⟩
  have hcl := cells_of_owns hown
  clear hown HR
  by_cases h1 : 1 ≤ rs.length
  · obtain ⟨b, o, c, rfl, _⟩ := int_at hcl 0 (by omega)
    by_cases h32 : rs.length ≤ 32
    · have HF := Lib.hid (show Txt.name s.data.toList = (rs.drop 0).all Txt.named by rw [HN.out]; simp [h1, h32])
      clear HN
      go_wp2
      go_loop [4] (fun lv => ∃ i : Nat, lv = .int .i64 i ∧ i ≤ rs.length ∧ Txt.name s.data.toList = (rs.drop i).all Txt.named) (fun lv => rs.length - (intOf lv).toNat)
      case atStart => exact ⟨0, rfl, by omega, HF.out⟩
      case round =>
        obtain ⟨i, rfl, hi, hh⟩ := hrel
        have HA := Lib.hid hh; clear hh HF
        by_cases hp : i < rs.length
        · obtain ⟨b', o', c', hv, hcell⟩ := int_at hcl i hp
          cases hv
          obtain ⟨r, hr⟩ : ∃ r, rs[i] = r := ⟨_, rfl⟩
          rw [hr] at hcell
          have HS := Lib.hid (show Txt.name s.data.toList = (Txt.named r && (rs.drop (i + 1)).all Txt.named) by rw [HA.out, all_drop_step _ _ _ hp, hr])
          clear hr HA
          by_cases hnm : Txt.named r = true
          · have QF := Lib.hid (show Txt.name s.data.toList = (rs.drop (i + 1)).all Txt.named by rw [HS.out, hnm, Bool.true_and])
            have h7 := named_cases hnm
            clear hnm HS
            rcases h7 with ⟨h1, h2⟩ | ⟨h0, h1, h2⟩ | ⟨h0, h00, h1, h2⟩ | rfl | rfl | rfl | ⟨h1, h2, h3, h4, h5, h6, h7, h8, h9, h10⟩
            all_goals
              go_wp2
              exact ⟨⟨i + 1, by go_num, by omega, QF.out⟩, by simp [intOf]; omega⟩
          · have hpf : Txt.named r = false := by simpa using hnm
            have QF := Lib.hid (show Txt.name s.data.toList = false by rw [HS.out, hpf]; simp)
            have h4 := named_gaps hpf
            clear hnm hpf HS
            obtain ⟨h7, h8, h9, h10, h4⟩ := h4
            rcases h4 with ⟨h1, h2, h3⟩ | ⟨h1, h2, h3, h4⟩ | ⟨h1, h2, h3, h4, h5⟩ | ⟨h1, h2, h3, h4, h5, h6⟩
            all_goals
              go_wp2
              go_ret
              exact ⟨ret_bool QF.out.symm, hb⟩
        · go_wp2
          go_ret
          refine ⟨ret_bool ?_, hb⟩
          rw [HA.out, List.drop_eq_nil_of_le (by omega)]; rfl
    · have HF := Lib.hid (show Txt.name s.data.toList = false by rw [HN.out]; simp [h32])
      clear HN
      go_wp2
      go_ret
      exact ⟨ret_bool HF.out.symm, hb⟩
  · have h0 : rs = [] := List.eq_nil_of_length_eq_zero (by omega)
    subst h0
    have hv : (∃ a c, v = .slice a 0 c) ∨ ∃ b o c, v = .slice (some ⟨b, o, none⟩) 0 c := by
      rcases hcl.2 with ⟨_, h⟩ | ⟨b, o, c, h, _⟩
      · exact .inl h
      · exact .inr ⟨b, o, c, h⟩
    have HF := Lib.hid (show Txt.name s.data.toList = false by rw [HN.out]; rfl)
    clear HN hcl
    rcases hv with ⟨a, c, rfl⟩ | ⟨b, o, c, rfl⟩
    all_goals
      go_wp2
      go_ret
      exact ⟨ret_bool HF.out.symm, hb⟩

set_option maxHeartbeats 2000000 in
set_option maxRecDepth 100000 in
theorem refBare_any (s : ByteArray) (w : World) (hs : s.size ≤ 1000000000000) :
    Calls Tryd.prog 43 #[.string s] w fun e w' => e = .returned (.bool (Txt.bare s.data.toList)) ∧ Below w.heap.size w w' := by
  have hl := toks_le s.data.toList
  rw [← runes_len, ← Lib.size_eq] at hl
  have hN : Txt.bare s.data.toList = (!s.data.toList.isEmpty && (Txt.runes s.data.toList).all Txt.plainTok) := by
    rw [Txt.bare, runes_all]
  have HR := Lib.hid (refRunes_any s w hs)
  generalize Txt.runes s.data.toList = rs at *
  have HN := Lib.hid hN; clear hN
  go_enter Tryd.func43, Tryd.ntmps43
  go_wp2_with fail
  refine HR.out.mono ?_
  rintro e w1 ⟨v, rfl, hown, hb⟩
  have hcl := cells_of_owns hown
  clear hown HR
  have hv : (rs.length = 0 ∧ ∃ a c, v = .slice a 0 c) ∨ ∃ b o c, v = .slice (some ⟨b, o, none⟩) rs.length c := by
    rcases hcl.2 with ⟨h, h'⟩ | ⟨b, o, c, h, _⟩
    · exact .inl ⟨h, h'⟩
    · exact .inr ⟨b, o, c, h⟩
  have HF := Lib.hid (show Txt.bare s.data.toList = (!s.data.toList.isEmpty && (rs.drop 0).all Txt.plainTok) by rw [HN.out]; simp)
  clear HN
  have hlv : ∃ b, s.toList.isEmpty = b := ⟨_, rfl⟩
  obtain ⟨em, hem⟩ := hlv
  have HE := Lib.hid (show s.data.toList.isEmpty = em by rw [← hem, Lib.toList_data])
  rcases hv with ⟨h0, a0, c0, rfl⟩ | ⟨b, o, c, rfl⟩
  · have h0' : rs = [] := List.eq_nil_of_length_eq_zero h0
    subst h0'
    clear hcl
    go_wp2
    go_loop [4] (fun lv => lv = .int .i64 0) (fun _ => 0)
    case atStart => rfl
    case round =>
      subst hrel
      go_wp2
      go_ret
      refine ⟨ret_bool ?_, hb⟩
      rw [HF.out, HE.out]; simp
  · go_wp2
    go_loop [4] (fun lv => ∃ i : Nat, lv = .int .i64 i ∧ i ≤ rs.length ∧ Txt.bare s.data.toList = (!s.data.toList.isEmpty && (rs.drop i).all Txt.plainTok)) (fun lv => rs.length - (intOf lv).toNat)
    case atStart => exact ⟨0, rfl, by omega, HF.out⟩
    case round =>
      obtain ⟨i, rfl, hi, hh⟩ := hrel
      have HA := Lib.hid hh; clear hh HF
      by_cases hp : i < rs.length
      · obtain ⟨b', o', c', hv, hcell⟩ := int_at hcl i hp
        cases hv
        obtain ⟨r, hr⟩ : ∃ r, rs[i] = r := ⟨_, rfl⟩
        rw [hr] at hcell
        have HS := Lib.hid (show Txt.bare s.data.toList = (!s.data.toList.isEmpty && (Txt.plainTok r && (rs.drop (i + 1)).all Txt.plainTok)) by rw [HA.out, all_drop_step _ _ _ hp, hr])
        clear hr HA
        by_cases hpl : Txt.plainTok r = true
        · have h3 : ¬ r < 33 ∧ r ≠ 34 ∧ r ≠ 127 := by simp [Txt.plainTok] at hpl; omega
          obtain ⟨h33, h34, h127⟩ := h3
          have n34 : (r == 34) = false := by rw [beq_eq_false_iff_ne]; exact h34
          have n127 : (r == 127) = false := by rw [beq_eq_false_iff_ne]; exact h127
          have QF := Lib.hid (show Txt.bare s.data.toList = (!s.data.toList.isEmpty && (rs.drop (i + 1)).all Txt.plainTok) by rw [HS.out, hpl, Bool.true_and])
          clear h34 h127 hpl HS
          go_wp2
          exact ⟨⟨i + 1, by go_num, by omega, QF.out⟩, by simp [intOf]; omega⟩
        · have hpf : Txt.plainTok r = false := by simpa using hpl
          have QF := Lib.hid (show Txt.bare s.data.toList = false by rw [HS.out, hpf]; simp)
          have h3 : r < 33 ∨ (¬ r < 33 ∧ r = 34) ∨ (¬ r < 33 ∧ r = 127) := by simp [Txt.plainTok] at hpf; omega
          clear hpl hpf HS
          rcases h3 with h33 | ⟨h33, rfl⟩ | ⟨h33, rfl⟩
          all_goals
            go_wp2
            go_ret
            exact ⟨ret_bool QF.out.symm, hb⟩
      · go_wp2
        go_ret
        refine ⟨ret_bool ?_, hb⟩
        rw [HA.out, List.drop_eq_nil_of_le (by omega), HE.out]; simp
end Go.Proofs.YthnhnaaihhagaaaDoor
