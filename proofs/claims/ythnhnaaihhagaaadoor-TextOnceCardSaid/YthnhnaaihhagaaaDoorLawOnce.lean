/-
  The walk of the law TextOnce.
-/
import Derived.Test.YthnhnaaihhagaaaDoorShown
import Derived.Test.YthnhnaaihhagaaaDoorPlain
namespace Go.Proofs.YthnhnaaihhagaaaDoor
open Go.RowKit Go.Shelf

theorem unq_len (dg : UInt8 → Option Nat) (l x : List UInt8) (h : Txt.unq dg l = some x) : x.length ≤ l.length := by
  unfold Txt.unq at h
  split at h
  · cases h
  · split at h
    · rename_i t hi
      split at h
      · cases h
        have := inner_len dg _ _ _ (Nat.le_refl _) hi
        simp only [List.length_take, List.length_drop] at this
        omega
      · cases h
    · cases h
theorem unq_back (s : ByteArray) (x : List UInt8) (h : Txt.unq Txt.dgP s.data.toList = some x) : x.length ≤ s.size ∧ (⟨(Txt.quote x).toArray⟩ : ByteArray) = s := by
  refine ⟨by rw [Lib.size_eq]; exact unq_len _ _ _ h, eq_of_list ?_⟩
  exact (unq_iff _ reads_P _ _).1 h
theorem quote_same (s t : ByteArray) : ((⟨(Txt.quote s.data.toList).toArray⟩ : ByteArray) = ⟨(Txt.quote t.data.toList).toArray⟩) ↔ s = t := by
  constructor
  · intro h
    have h2 : Txt.quote s.data.toList = Txt.quote t.data.toList := congrArg (fun b : ByteArray => b.data.toList) h
    exact eq_of_list (quote_inj _ _ h2)
  · rintro rfl; rfl

set_option maxHeartbeats 2000000 in
set_option maxRecDepth 100000 in
theorem textOnce_any (s t : ByteArray) (w : World) (hE : Env w) :
    Calls Tryd.prog 4 #[.string s, .string t] w fun e w' => e = .returned (.bool true) ∧ Below w.heap.size w w' := by
  go_enter Tryd.func4, Tryd.ntmps4
  go_wp2_with fail
  refine (shown_any w hE).mono ?_
  rintro e w1 ⟨rfl, b1⟩
  have hE1 := hE.next b1
  by_cases h6 : s.size ≤ 400
  · by_cases h7 : t.size ≤ 400
    · have H1 := Lib.hid (fun w hE => unquote_any s w hE (by omega))
      have H2 := Lib.hid (fun w hE => quote_any s w hE (by omega))
      have H3 := Lib.hid (fun w hE => quote_any t w hE (by omega))
      have HI := Lib.hid (quote_same s t)
      have HX := Lib.hid (fun x (h : Txt.unq Txt.dgP s.data.toList = some x) => unq_back s x h)
      generalize Txt.unq Txt.dgP s.data.toList = u at *
      obtain ⟨Q, hQ⟩ : ∃ Q : ByteArray, (⟨(Txt.quote s.data.toList).toArray⟩ : ByteArray) = Q := ⟨_, rfl⟩
      obtain ⟨R, hR⟩ : ∃ R : ByteArray, (⟨(Txt.quote t.data.toList).toArray⟩ : ByteArray) = R := ⟨_, rfl⟩
      rw [hQ] at H2 HI
      rw [hR] at H3 HI
      clear hQ hR
      obtain ⟨b, hb1, hb2⟩ : ∃ b : Bool, (Q.toList == R.toList) = b ∧ (s.toList == t.toList) = b := by
        simp only [Lib.toList_data]
        by_cases h : s = t
        · exact ⟨true, by rw [HI.out.2 h]; simp, by rw [h]; simp⟩
        · exact ⟨false, by rw [beq_eq_false_iff_ne]; exact fun e => h (HI.out.1 (eq_of_list e)), by rw [beq_eq_false_iff_ne]; exact fun e => h (eq_of_list e)⟩
      clear HI
      cases u
      case none =>
        clear HX
        simp only [eV] at H1
        go_wp2_with fail
        refine (H1.out w1 hE1).mono ?_
        rintro e w2 ⟨rfl, b2⟩
        have hE2 := hE1.next b2
        have bb2 := Below.up b1 (Nat.le_refl _) b2
        clear b2
        go_wp2_with fail
        refine (H2.out w2 hE2).mono ?_
        rintro e w3 ⟨rfl, b3⟩
        have hE3 := hE2.next b3
        have bb3 := Below.up bb2 (Nat.le_refl _) b3
        clear b3 bb2
        go_wp2_with fail
        refine (H3.out w3 hE3).mono ?_
        rintro e w4 ⟨rfl, b4⟩
        have bb4 := Below.up bb3 (Nat.le_refl _) b4
        clear b4 bb3
        cases b
        all_goals
          go_wp2
          go_ret
          exact ⟨rfl, bb4⟩
      case some x =>
        obtain ⟨hx1, hx2⟩ := HX.out x rfl
        clear HX
        obtain ⟨X, hX⟩ : ∃ X : ByteArray, (⟨x.toArray⟩ : ByteArray) = X := ⟨_, rfl⟩
        have hXl : X.data.toList = x := by rw [← hX]
        have hXs : X.size ≤ 400 := by rw [Lib.size_eq, hXl]; omega
        rw [← hXl] at hx2
        have H4 := Lib.hid (fun w hE => quote_any X w hE (by omega))
        rw [hx2] at H4
        simp only [eV, hX] at H1
        clear hx1 hx2 hXl hX
        go_wp2_with fail
        refine (H1.out w1 hE1).mono ?_
        rintro e w2 ⟨rfl, b2⟩
        have hE2 := hE1.next b2
        have bb2 := Below.up b1 (Nat.le_refl _) b2
        clear b2
        go_wp2_with fail
        refine (H2.out w2 hE2).mono ?_
        rintro e w3 ⟨rfl, b3⟩
        have hE3 := hE2.next b3
        have bb3 := Below.up bb2 (Nat.le_refl _) b3
        clear b3 bb2
        go_wp2_with fail
        refine (H3.out w3 hE3).mono ?_
        rintro e w4 ⟨rfl, b4⟩
        have hE4 := hE3.next b4
        have bb4 := Below.up bb3 (Nat.le_refl _) b4
        clear b4 bb3
        cases b
        all_goals
          go_wp2_with fail
          refine (H4.out w4 hE4).mono ?_
          rintro e w5 ⟨rfl, b5⟩
          have bb5 := Below.up bb4 (Nat.le_refl _) b5
          go_wp2
          go_ret
          exact ⟨rfl, bb5⟩
    · have h8 : 400 < t.size := by omega
      clear h7
      go_wp2
      go_ret
      exact ⟨rfl, b1⟩
  · have h7 : 400 < s.size := by omega
    clear h6
    go_wp2
    go_ret
    exact ⟨rfl, b1⟩
end Go.Proofs.YthnhnaaihhagaaaDoor
