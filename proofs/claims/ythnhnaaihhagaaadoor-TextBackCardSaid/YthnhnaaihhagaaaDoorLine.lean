/-
  The walks of text.Line and of the reference's Line.
-/
import Derived.Test.YthnhnaaihhagaaaDoorRefName
import Derived.Test.YthnhnaaihhagaaaDoorRefQuote
namespace Go.Proofs.YthnhnaaihhagaaaDoor
open Go.RowKit Go.Shelf


theorem qtoks_le : ∀ (ts : List (Int × List UInt8)), (∀ t ∈ ts, Txt.Shape t) → (Txt.qtoks ts).length ≤ 4 * (ts.flatMap (·.2)).length
  | [], _ => by simp [Txt.qtoks]
  | t :: ts, h => by
    have h1 := Txt.qtok_le (h t (by simp))
    have h2 := qtoks_le ts (fun u hu => h u (by simp [hu]))
    have e : Txt.qtoks (t :: ts) = Txt.qtok t ++ Txt.qtoks ts := rfl
    rw [e]
    simp only [List.length_append, List.flatMap_cons]; omega
theorem quote_len (l : List UInt8) : (Txt.quote l).length ≤ 4 * l.length + 2 := by
  have := qtoks_le (Txt.toks l) (Txt.shape_of l)
  rw [Txt.toks_flat] at this
  simp only [Txt.quote, Txt.qbody, List.length_cons, List.length_append, List.length_nil]; omega
theorem word_len (l : List UInt8) : (Txt.word l).length ≤ 4 * l.length + 2 := by
  unfold Txt.word
  split
  · omega
  · exact quote_len l
/-- A line, word by word: a blank ahead of each but the first. -/
def lineF (i : Nat) : List (List UInt8) → List UInt8
  | [] => []
  | w :: r => (if i = 0 then [] else [32]) ++ Txt.word w ++ lineF (i + 1) r
theorem lineF_succ : ∀ (ws : List (List UInt8)) (i : Nat) (x : List UInt8), lineF (i + 1) (x :: ws) = 32 :: Txt.line (x :: ws)
  | [], i, x => by simp [lineF, Txt.line]
  | y :: r, i, x => by
    rw [lineF, lineF_succ r (i + 1) y]
    simp [Txt.line]
theorem lineF_zero (ws : List (List UInt8)) : lineF 0 ws = Txt.line ws := by
  match ws with
  | [] => rfl
  | [x] => simp [lineF, Txt.line]
  | x :: y :: r =>
    rw [lineF, lineF_succ r 0 y]
    simp [Txt.line]
/-- A cell of a row of strings. -/
theorem str_at {w : World} {v : Value} {ws : List (List UInt8)} (h : Cells w v 1 ws.length (strCells ws)) (i : Nat) (hi : i < ws.length) :
    ∃ b o c, v = .slice (some ⟨b, o, none⟩) ws.length c ∧ w.cell? ⟨b, o + i, none⟩ = some (.string ⟨ws[i].toArray⟩) := by
  rcases h.2 with ⟨h0, _⟩ | ⟨b, o, c, h1, h2⟩
  · omega
  · exact ⟨b, o, c, h1, h2 i _ (by simp [strCells, List.getElem?_eq_getElem hi])⟩
theorem cells_nil {w : World} {v : Value} {ws : List (List UInt8)} (h : Cells w v 1 ws.length (strCells ws)) :
    (ws = [] ∧ ∃ a c, v = .slice a 0 c) ∨ ∃ b o c, v = .slice (some ⟨b, o, none⟩) ws.length c := by
  rcases h.2 with ⟨h0, h1⟩ | ⟨b, o, c, h1, _⟩
  · exact .inl ⟨List.eq_nil_of_length_eq_zero h0, h1⟩
  · exact .inr ⟨b, o, c, h1⟩
theorem lineF_step (ws : List (List UInt8)) (i : Nat) (hi : i < ws.length) : lineF i (ws.drop i) = (if i = 0 then [] else [32]) ++ Txt.word ws[i] ++ lineF (i + 1) (ws.drop (i + 1)) := by
  rw [List.drop_eq_getElem_cons hi]; rfl

set_option maxHeartbeats 2000000 in
set_option maxRecDepth 100000 in
theorem line_any (v : Value) (ws : List (List UInt8)) (w : World) (hE : Env w) (hc : Cells w v 1 ws.length (strCells ws)) (hn : ws.length ≤ 1000000) (hx : ∀ x ∈ ws, x.length ≤ 1000000) :
    Calls Tryd.prog 22 #[v] w fun e w' => e = .returned (.string ⟨(Txt.line ws).toArray⟩) ∧ Below w.heap.size w w' := by
  obtain ⟨g0, g1, g2, g3⟩ := hE.size
  have HX := Lib.hid hx
  have HL := Lib.hid (lineF_zero ws)
  have HE := Lib.hid hE
  clear hx hE
  rcases cells_nil hc with ⟨rfl, a0, c0, rfl⟩ | ⟨b, o, c, rfl⟩
  · go_enter Tryd.func22, Tryd.ntmps22
    go_wp2
    go_loopw [8] (fun lv wr => lv = .int .i64 0 ∧ Bld w.heap.size w.heap.size [] wr ∧ Below w.heap.size w wr) (fun _ _ => 0)
    case atStart => exact ⟨rfl, bld_fresh w, (Below.refl _ w).alloc (Nat.le_refl _) _⟩
    case round =>
      obtain ⟨rfl, hI, hbw⟩ := hrel
      have hbs := hbw.size
      go_wp2_with fail
      refine (bldString w.heap.size w.heap.size _ _ hI (by omega)).mono ?_
      rintro e w3 ⟨rfl, b3⟩
      go_wp2
      go_ret
      exact ⟨rfl, hbw.trans b3⟩
  · go_enter Tryd.func22, Tryd.ntmps22
    go_wp2
    go_loopw [8] (fun lv wr => ∃ (i : Nat) (acc : List UInt8), lv = .int .i64 i ∧ Bld w.heap.size w.heap.size acc wr ∧ Below w.heap.size w wr ∧ acc ++ lineF i (ws.drop i) = Txt.line ws ∧ acc.length ≤ i * 4000003 ∧ i ≤ ws.length ∧ Env wr) (fun lv _ => ws.length - (intOf lv).toNat)
    case atStart => exact ⟨0, [], rfl, bld_fresh w, (Below.refl _ w).alloc (Nat.le_refl _) _, HL.out, by simp, by omega, HE.out.from HE.out (Nat.le_refl _) ((Below.refl _ w).alloc (Nat.le_refl _) _)⟩
    case round =>
      obtain ⟨i, acc, rfl, hI, hbw, hacc, hal, hi, hEr⟩ := hrel
      have HA := Lib.hid hacc; clear hacc
      have hbs := hbw.size
      by_cases hp : i < ws.length
      · obtain ⟨b', o', c', hv, hcell⟩ := str_at hc i hp
        cases hv
        have hcell2 := cell_kept hbw (Nat.le_refl _) hcell
        have hST := lineF_step ws i hp
        have hxl := HX.out _ (List.getElem_mem hp)
        obtain ⟨x, hx⟩ : ∃ x, ws[i] = x := ⟨_, rfl⟩
        rw [hx] at hcell2 hST hxl
        obtain ⟨X, hX⟩ : ∃ X : ByteArray, X = ⟨x.toArray⟩ := ⟨_, rfl⟩
        rw [← hX] at hcell2
        have hXl : X.data.toList = x := by rw [hX]
        have hXs : X.size = x.length := by rw [Lib.size_eq, hXl]
        have hXm : X.size ≤ 1000000 := by omega
        have FIN := Lib.hid (show ∀ acc', acc' = acc ++ ((if i = 0 then [] else [32]) ++ Txt.word x) → acc' ++ lineF (i + 1) (ws.drop (i + 1)) = Txt.line ws ∧ acc'.length ≤ (i + 1) * 4000003 from fun acc' h => ⟨by
            rw [h, ← HA.out, hST]; simp, by
            have h1 := word_len x
            have h2 : (if i = 0 then ([] : List UInt8) else [32]).length ≤ 1 := by split <;> simp
            rw [h, List.length_append, List.length_append]; omega⟩)
        have HXL := Lib.hid hXl
        clear hcell hST hX hx hXl hXs hxl HX HL HA
        cases hbr : Txt.bare X.data.toList with
        | true =>
          by_cases h0 : i = 0
          · have HW := Lib.hid (show Txt.word x = X.data.toList by rw [← HXL.out, Txt.word, if_pos hbr])
            have HBR := Lib.hid hbr; clear hbr
            have hi0 : ¬ (0 : Int) < (i : Int) := by omega
            have H0 := Lib.hid h0; clear h0
            go_wp2_with fail
            refine (bare_any X wr hEr (by omega)).mono ?_
            rintro e w2 ⟨rfl, b2⟩
            have hI2 := hI.next b2; have hbw2 := Below.up hbw (Nat.le_refl _) b2; have hE2 := hEr.next b2
            have hs2 := hbw2.size
            rw [HBR.out]
            go_wp2_with fail
            refine (writeString w.heap.size w.heap.size acc X w2 hI2 (by omega) (by omega)).mono ?_
            rintro e w3 ⟨rfl, h3, b3, _⟩
            have hbw3 := hbw2.trans b3
            have hF := FIN.out _ (show acc ++ X.data.toList = _ by rw [HW.out]; simp [H0.out])
            have HF := Lib.hid hF
            have hE3 := HE.out.from HE.out (Nat.le_refl _) hbw3
            clear hF b3
            go_wp2
            exact ⟨⟨i + 1, _, by go_num, h3, hbw3, HF.out.1, HF.out.2, by omega, hE3⟩, by simp [intOf]; omega⟩
          · have HW := Lib.hid (show Txt.word x = X.data.toList by rw [← HXL.out, Txt.word, if_pos hbr])
            have HBR := Lib.hid hbr; clear hbr
            have hi0 : (0 : Int) < (i : Int) := by omega
            go_wp2_with fail
            refine (writeByte w.heap.size w.heap.size acc 32 wr hI (by omega) (by omega)).mono ?_
            rintro e w1 ⟨rfl, h1, b1, _⟩
            have hbw1 := hbw.trans b1; have hE1 := HE.out.from HE.out (Nat.le_refl _) hbw1
            have hs1 := hbw1.size
            clear b1
            go_wp2_with fail
            refine (bare_any X w1 hE1 (by omega)).mono ?_
            rintro e w2 ⟨rfl, b2⟩
            have hI2 := h1.next b2; have hbw2 := Below.up hbw1 (Nat.le_refl _) b2; have hE2 := hE1.next b2
            have hs2 := hbw2.size
            rw [HBR.out]
            go_wp2_with fail
            refine (writeString w.heap.size w.heap.size (acc ++ [32]) X w2 hI2 (by simp; omega) (by omega)).mono ?_
            rintro e w3 ⟨rfl, h3, b3, _⟩
            have hbw3 := hbw2.trans b3
            have hF := FIN.out _ (show (acc ++ [32]) ++ X.data.toList = _ by rw [HW.out]; simp [h0])
            have HF := Lib.hid hF
            have hE3 := HE.out.from HE.out (Nat.le_refl _) hbw3
            clear hF b3
            go_wp2
            exact ⟨⟨i + 1, _, by go_num, h3, hbw3, HF.out.1, HF.out.2, by omega, hE3⟩, by simp [intOf]; omega⟩
        | false =>
          by_cases h0 : i = 0
          · have HW := Lib.hid (show Txt.word x = Txt.quote X.data.toList by rw [← HXL.out, Txt.word, if_neg (by simp [hbr])])
            have hql := quote_len X.data.toList
            rw [← Lib.size_eq] at hql
            have HBR := Lib.hid hbr; clear hbr
            have hi0 : ¬ (0 : Int) < (i : Int) := by omega
            have H0 := Lib.hid h0; clear h0
            go_wp2_with fail
            refine (bare_any X wr hEr (by omega)).mono ?_
            rintro e w2 ⟨rfl, b2⟩
            have hI2 := hI.next b2; have hbw2 := Below.up hbw (Nat.le_refl _) b2; have hE2 := hEr.next b2
            have hs2 := hbw2.size
            rw [HBR.out]
            go_wp2_with fail
            refine (quote_any X w2 hE2 (by omega)).mono ?_
            rintro e w4 ⟨rfl, b4⟩
            have hI4 := hI2.next b4; have hbw4 := Below.up hbw2 (Nat.le_refl _) b4
            have hs4 := hbw4.size
            have hqs : (⟨(Txt.quote X.data.toList).toArray⟩ : ByteArray).size ≤ 5000000 := by rw [Lib.size_eq]; simp only; omega
            obtain ⟨Q, hQ⟩ : ∃ Q : ByteArray, Q = ⟨(Txt.quote X.data.toList).toArray⟩ := ⟨_, rfl⟩
            have HQ := Lib.hid (show Q.data.toList = Txt.quote X.data.toList by rw [hQ])
            rw [← hQ] at hqs ⊢
            clear hQ hql
            go_wp2_with fail
            refine (writeString w.heap.size w.heap.size acc Q w4 hI4 (by omega) (by omega)).mono ?_
            rintro e w3 ⟨rfl, h3, b3, _⟩
            have hbw3 := hbw4.trans b3
            have hF := FIN.out _ (show acc ++ Q.data.toList = _ by rw [HW.out, HQ.out]; simp [H0.out])
            have HF := Lib.hid hF
            have hE3 := HE.out.from HE.out (Nat.le_refl _) hbw3
            clear hF b3
            go_wp2
            exact ⟨⟨i + 1, _, by go_num, h3, hbw3, HF.out.1, HF.out.2, by omega, hE3⟩, by simp [intOf]; omega⟩
          · have HW := Lib.hid (show Txt.word x = Txt.quote X.data.toList by rw [← HXL.out, Txt.word, if_neg (by simp [hbr])])
            have hql := quote_len X.data.toList
            rw [← Lib.size_eq] at hql
            have HBR := Lib.hid hbr; clear hbr
            have hi0 : (0 : Int) < (i : Int) := by omega
            go_wp2_with fail
            refine (writeByte w.heap.size w.heap.size acc 32 wr hI (by omega) (by omega)).mono ?_
            rintro e w1 ⟨rfl, h1, b1, _⟩
            have hbw1 := hbw.trans b1; have hE1 := HE.out.from HE.out (Nat.le_refl _) hbw1
            have hs1 := hbw1.size
            clear b1
            go_wp2_with fail
            refine (bare_any X w1 hE1 (by omega)).mono ?_
            rintro e w2 ⟨rfl, b2⟩
            have hI2 := h1.next b2; have hbw2 := Below.up hbw1 (Nat.le_refl _) b2; have hE2 := hE1.next b2
            have hs2 := hbw2.size
            rw [HBR.out]
            go_wp2_with fail
            refine (quote_any X w2 hE2 (by omega)).mono ?_
            rintro e w4 ⟨rfl, b4⟩
            have hI4 := hI2.next b4; have hbw4 := Below.up hbw2 (Nat.le_refl _) b4
            have hs4 := hbw4.size
            have hqs : (⟨(Txt.quote X.data.toList).toArray⟩ : ByteArray).size ≤ 5000000 := by rw [Lib.size_eq]; simp only; omega
            obtain ⟨Q, hQ⟩ : ∃ Q : ByteArray, Q = ⟨(Txt.quote X.data.toList).toArray⟩ := ⟨_, rfl⟩
            have HQ := Lib.hid (show Q.data.toList = Txt.quote X.data.toList by rw [hQ])
            rw [← hQ] at hqs ⊢
            clear hQ hql
            go_wp2_with fail
            refine (writeString w.heap.size w.heap.size (acc ++ [32]) Q w4 hI4 (by simp; omega) (by omega)).mono ?_
            rintro e w3 ⟨rfl, h3, b3, _⟩
            have hbw3 := hbw4.trans b3
            have hF := FIN.out _ (show (acc ++ [32]) ++ Q.data.toList = _ by rw [HW.out, HQ.out]; simp [h0])
            have HF := Lib.hid hF
            have hE3 := HE.out.from HE.out (Nat.le_refl _) hbw3
            clear hF b3
            go_wp2
            exact ⟨⟨i + 1, _, by go_num, h3, hbw3, HF.out.1, HF.out.2, by omega, hE3⟩, by simp [intOf]; omega⟩
      · obtain rfl : i = ws.length := by omega
        have HQ := Lib.hid (show acc = Txt.line ws by rw [← HA.out, List.drop_length]; simp [lineF])
        clear HA
        go_wp2_with fail
        refine (bldString w.heap.size w.heap.size _ _ hI (by omega)).mono ?_
        rintro e w3 ⟨rfl, b3⟩
        go_wp2
        go_ret
        have e := HQ.out
        subst e
        exact ⟨rfl, hbw.trans b3⟩
end Go.Proofs.YthnhnaaihhagaaaDoor
