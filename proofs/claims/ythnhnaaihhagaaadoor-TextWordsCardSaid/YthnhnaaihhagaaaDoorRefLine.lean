/-
  The walk of the reference's Line.
-/
import Derived.Test.YthnhnaaihhagaaaDoorLine
import Derived.Test.YthnhnaaihhagaaaDoorUnquote
namespace Go.Proofs.YthnhnaaihhagaaaDoor
open Go.RowKit Go.Shelf

set_option maxHeartbeats 2000000 in
set_option maxRecDepth 100000 in
theorem refLine_any (v : Value) (ws : List (List UInt8)) (w : World) (hc : Cells w v 1 ws.length (strCells ws)) (hn : ws.length ≤ 1000000) (hx : ∀ x ∈ ws, x.length ≤ 1000000) :
    Calls Tryd.prog 23 #[v] w fun e w' => e = .returned (.string ⟨(Txt.line ws).toArray⟩) ∧ Below w.heap.size w w' := by
  have HX := Lib.hid hx
  have HL := Lib.hid (lineF_zero ws)
  clear hx
  rcases cells_nil hc with ⟨rfl, a0, c0, rfl⟩ | ⟨b, o, c, rfl⟩
  · go_enter Tryd.func23, Tryd.ntmps23
    go_wp2
    go_loop [3, 4] (fun sv lv => sv = .string ⟨#[]⟩ ∧ lv = .int .i64 0) (fun _ _ => 0)
    case atStart => exact ⟨rfl, rfl⟩
    case round =>
      obtain ⟨rfl, rfl⟩ := hrel
      go_wp2
      go_ret
      exact ⟨rfl, Below.refl _ _⟩
  · go_enter Tryd.func23, Tryd.ntmps23
    go_wp2
    go_loopw [3, 4] (fun sv lv wr => ∃ (i : Nat) (acc : ByteArray), lv = .int .i64 i ∧ sv = .string acc ∧ Below w.heap.size w wr ∧ acc.data.toList ++ lineF i (ws.drop i) = Txt.line ws ∧ acc.size ≤ i * 4000003 ∧ i ≤ ws.length) (fun _ lv _ => ws.length - (intOf lv).toNat)
    case atStart => exact ⟨0, _, rfl, rfl, Below.refl _ _, HL.out, by simp [ByteArray.size], by omega⟩
    case round =>
      obtain ⟨i, acc, rfl, rfl, hbw, hacc, hal, hi⟩ := hrel
      have HA := Lib.hid hacc; clear hacc
      have hbs := hbw.size
      by_cases hp : i < ws.length
      · obtain ⟨b', o', c', hv, hcell⟩ := str_at hc i hp
        cases hv
        have hcell2 := cell_kept hbw (Nat.le_refl _) hcell
        have hST := lineF_step ws i hp
        have hxl := HX.out _ (List.getElem_mem hp)
        obtain ⟨x, hx⟩ : ∃ x, ws[i] = x := ⟨_, rfl⟩
        rw [hx] at hcell2 hST hxl
        obtain ⟨X, hX⟩ : ∃ X : ByteArray, X = ⟨x.toArray⟩ := ⟨_, rfl⟩
        rw [← hX] at hcell2
        have hXl : X.data.toList = x := by rw [hX]
        have hXs : X.size = x.length := by rw [Lib.size_eq, hXl]
        have hXm : X.size ≤ 1000000 := by omega
        have FIN := Lib.hid (show ∀ acc' : ByteArray, acc'.data.toList = acc.data.toList ++ ((if i = 0 then [] else [32]) ++ Txt.word x) → acc'.data.toList ++ lineF (i + 1) (ws.drop (i + 1)) = Txt.line ws ∧ acc'.size ≤ (i + 1) * 4000003 from fun acc' h => ⟨by
            rw [h, ← HA.out, hST]; simp, by
            have h1 := word_len x
            have h2 : (if i = 0 then ([] : List UInt8) else [32]).length ≤ 1 := by split <;> simp
            rw [Lib.size_eq, h, List.length_append, List.length_append, ← Lib.size_eq]; omega⟩)
        have HXL := Lib.hid hXl
        have hRB := Lib.hid (fun w => refBare_any X w (by omega))
        clear hcell hST hX hx hXl hXs hxl HX HL HA
        cases hbr : Txt.bare X.data.toList with
        | true =>
          by_cases h0 : i = 0
          · have HW := Lib.hid (show Txt.word x = X.data.toList by rw [← HXL.out, Txt.word, if_pos hbr])
            have HBR := Lib.hid hbr; clear hbr
            have hi0 : ¬ (0 : Int) < (i : Int) := by omega
            have H0 := Lib.hid h0; clear h0
            go_wp2_with fail
            refine (hRB.out _).mono ?_
            rintro e w2 ⟨rfl, b2⟩
            have hbw2 := Below.up hbw (Nat.le_refl _) b2
            have hcell3 := cell_kept b2 (Nat.le_refl _) hcell2
            have hs2 := hbw2.size
            rw [HBR.out]
            go_wp2
            have hF := FIN.out (acc ++ X) (by rw [HW.out, app_list]; simp [H0.out])
            exact ⟨⟨i + 1, _, by go_num, rfl, hbw2, hF.1, hF.2, by omega⟩, by simp [intOf]; omega⟩
          · have HW := Lib.hid (show Txt.word x = X.data.toList by rw [← HXL.out, Txt.word, if_pos hbr])
            have HBR := Lib.hid hbr; clear hbr
            have hi0 : (0 : Int) < (i : Int) := by omega
            go_wp2_with fail
            refine (hRB.out _).mono ?_
            rintro e w2 ⟨rfl, b2⟩
            have hbw2 := Below.up hbw (Nat.le_refl _) b2
            have hcell3 := cell_kept b2 (Nat.le_refl _) hcell2
            have hs2 := hbw2.size
            rw [HBR.out]
            go_wp2
            have hF := FIN.out (acc ++ ⟨#[32]⟩ ++ X) (by rw [HW.out, app_list, app_list]; simp [h0])
            exact ⟨⟨i + 1, _, by go_num, rfl, hbw2, hF.1, hF.2, by omega⟩, by simp [intOf]; omega⟩
        | false =>
          by_cases h0 : i = 0
          · have HW := Lib.hid (show Txt.word x = Txt.quote X.data.toList by rw [← HXL.out, Txt.word, if_neg (by simp [hbr])])
            have HBR := Lib.hid hbr; clear hbr
            have hi0 : ¬ (0 : Int) < (i : Int) := by omega
            have H0 := Lib.hid h0; clear h0
            go_wp2_with fail
            refine (hRB.out _).mono ?_
            rintro e w2 ⟨rfl, b2⟩
            have hbw2 := Below.up hbw (Nat.le_refl _) b2
            have hcell3 := cell_kept b2 (Nat.le_refl _) hcell2
            have hs2 := hbw2.size
            rw [HBR.out]
            have hql := quote_len X.data.toList
            rw [← Lib.size_eq] at hql
            go_wp2_with fail
            refine (refQuote_any X w2 (by omega)).mono ?_
            rintro e w4 ⟨rfl, n, rfl⟩
            have hbw4 := below_drewN hbw2 n
            have hqs : (⟨(Txt.quote X.data.toList).toArray⟩ : ByteArray).size ≤ 5000000 := by rw [Lib.size_eq]; simp only; omega
            obtain ⟨Q, hQ⟩ : ∃ Q : ByteArray, Q = ⟨(Txt.quote X.data.toList).toArray⟩ := ⟨_, rfl⟩
            have HQ := Lib.hid (show Q.data.toList = Txt.quote X.data.toList by rw [hQ])
            rw [← hQ] at hqs ⊢
            clear hQ hql
            go_wp2
            have hF := FIN.out (acc ++ Q) (by rw [HW.out, app_list, HQ.out]; simp [H0.out])
            exact ⟨⟨i + 1, _, by go_num, rfl, hbw4, hF.1, hF.2, by omega⟩, by simp [intOf]; omega⟩
          · have HW := Lib.hid (show Txt.word x = Txt.quote X.data.toList by rw [← HXL.out, Txt.word, if_neg (by simp [hbr])])
            have HBR := Lib.hid hbr; clear hbr
            have hi0 : (0 : Int) < (i : Int) := by omega
            go_wp2_with fail
            refine (hRB.out _).mono ?_
            rintro e w2 ⟨rfl, b2⟩
            have hbw2 := Below.up hbw (Nat.le_refl _) b2
            have hcell3 := cell_kept b2 (Nat.le_refl _) hcell2
            have hs2 := hbw2.size
            rw [HBR.out]
            have hql := quote_len X.data.toList
            rw [← Lib.size_eq] at hql
            go_wp2_with fail
            refine (refQuote_any X w2 (by omega)).mono ?_
            rintro e w4 ⟨rfl, n, rfl⟩
            have hbw4 := below_drewN hbw2 n
            have hqs : (⟨(Txt.quote X.data.toList).toArray⟩ : ByteArray).size ≤ 5000000 := by rw [Lib.size_eq]; simp only; omega
            obtain ⟨Q, hQ⟩ : ∃ Q : ByteArray, Q = ⟨(Txt.quote X.data.toList).toArray⟩ := ⟨_, rfl⟩
            have HQ := Lib.hid (show Q.data.toList = Txt.quote X.data.toList by rw [hQ])
            rw [← hQ] at hqs ⊢
            clear hQ hql
            go_wp2
            have hF := FIN.out (acc ++ ⟨#[32]⟩ ++ Q) (by rw [HW.out, app_list, app_list, HQ.out]; simp [h0])
            exact ⟨⟨i + 1, _, by go_num, rfl, hbw4, hF.1, hF.2, by omega⟩, by simp [intOf]; omega⟩
      · obtain rfl : i = ws.length := by omega
        have HQ := Lib.hid (show acc = ⟨(Txt.line ws).toArray⟩ by apply eq_of_list; rw [← HA.out, List.drop_length]; simp [lineF])
        clear HA
        go_wp2
        go_ret
        have e := HQ.out
        subst e
        exact ⟨rfl, hbw⟩
end Go.Proofs.YthnhnaaihhagaaaDoor
