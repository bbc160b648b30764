/-
  The walks of the laws TextWords and TextBack.
-/
import Derived.Test.YthnhnaaihhagaaaDoorShown
import Derived.Test.YthnhnaaihhagaaaDoorPlain
import Derived.Test.YthnhnaaihhagaaaDoorRefLine
namespace Go.Proofs.YthnhnaaihhagaaaDoor
open Go.RowKit Go.Shelf

theorem small_of {ws : List (List UInt8)} (h : smallL ws = true) : ws.length ≤ 40 ∧ ∀ x ∈ ws, x.length ≤ 300 := by
  rw [smallL, Bool.and_eq_true] at h
  exact ⟨by simpa using h.1, fun x hx => by simpa using List.all_eq_true.1 h.2 x hx⟩
theorem line_len : ∀ ws : List (List UInt8), (∀ x ∈ ws, x.length ≤ 300) → (Txt.line ws).length ≤ ws.length * 1203
  | [], _ => by simp [Txt.line]
  | [w], h => by
    have := word_len w
    have := h w (by simp)
    simp only [Txt.line, List.length_cons, List.length_nil]; omega
  | w :: v :: r, h => by
    have h1 := word_len w
    have h2 := h w (by simp)
    have h3 := line_len (v :: r) (fun x hx => h x (by simp [hx]))
    simp only [Txt.line, List.length_append, List.length_cons] at h3 ⊢; omega
theorem words_len : ∀ (n : Nat) (s : List UInt8) (a : List (List UInt8)), s.length ≤ n → Txt.words s = some a → a.length ≤ s.length
  | _, [], a, _, h => by
    have : a = [] := by rw [words_nil [] rfl] at h; exact (Option.some.inj h).symm
    subst this; simp
  | 0, c :: r, _, hn, _ => by simp at hn
  | n + 1, c :: r, a, hn, h => by
    simp only [List.length_cons] at hn
    by_cases hb : Txt.blank c = true
    · rw [words_skip c r hb] at h
      have := words_len n r a (by omega) h
      simp only [List.length_cons]; omega
    · have hb' : Txt.blank c = false := by simpa using hb
      by_cases hc : c = 34
      · subst hc
        cases he : Txt.endF false 1 r with
        | none => rw [words_open r he] at h; cases h
        | some m =>
          have hm := endF_le r false 1 m he
          cases hx : ((34 :: r).drop m).head?.any (fun x => !Txt.blank x) with
          | true => rw [words_stuck r m he hx] at h; cases h
          | false =>
            cases hu : Txt.unquote ((34 :: r).take m) with
            | none => rw [words_wrong r m he hx hu] at h; cases h
            | some w =>
              rw [words_quoted r w m he hx hu] at h
              obtain ⟨a', h1, rfl⟩ := map_none h
              have := words_len n ((34 :: r).drop m) a' (by simp only [List.length_drop, List.length_cons]; omega) h1
              simp only [List.length_drop, List.length_cons] at this ⊢; omega
      · by_cases hm : (34 : UInt8) ∈ (c :: r).takeWhile (fun x => !Txt.blank x)
        · rw [words_bad c r hb' hc hm] at h; cases h
        · rw [words_bare c r hb' hc hm] at h
          obtain ⟨a', h1, rfl⟩ := map_none h
          have hlen : ((c :: r).dropWhile fun x => !Txt.blank x).length ≤ r.length := by
            rw [List.dropWhile_cons, if_pos (by simp [hb'])]; exact dropWhile_len _ r
          have := words_len n _ a' (by omega) h1
          simp only [List.length_cons]; omega
theorem cells_none (w : World) : Cells w (.slice none 0 0) 1 ([] : List (List UInt8)).length (strCells []) := ⟨rfl, .inl ⟨rfl, _, _, rfl⟩⟩

set_option maxHeartbeats 4000000 in
set_option maxRecDepth 100000 in
theorem textWords_any (s : ByteArray) (v : Value) (ws : List (List UInt8)) (w : World) (hE : Env w) (hc : Cells w v 1 ws.length (strCells ws)) :
    Calls Tryd.prog 6 #[.string s, v] w fun e w' => e = .returned (.bool true) ∧ Below w.heap.size w w' := by
  go_enter Tryd.func6, Tryd.ntmps6
  go_wp2_with fail
  refine (shown_any w hE).mono ?_
  rintro e w1 ⟨rfl, b1⟩
  have hE1 := hE.next b1
  have hc1 := hc.next b1
  clear hc
  go_wp2_with fail
  refine (small_any v ws w1 hc1).mono ?_
  rintro e w2 ⟨rfl, rfl⟩
  cases hsm : smallL ws with
  | false =>
    go_wp2
    go_ret
    exact ⟨rfl, b1⟩
  | true =>
    obtain ⟨hn, hx⟩ := small_of hsm
    clear hsm
    have H3 := Lib.hid (fun w hE hc => line_any v ws w hE hc (by omega) (fun x h => Nat.le_trans (hx x h) (by omega)))
    have H4 := Lib.hid (fun w hc => refLine_any v ws w hc (by omega) (fun x h => Nat.le_trans (hx x h) (by omega)))
    obtain ⟨L, hL⟩ : ∃ L : ByteArray, (⟨(Txt.line ws).toArray⟩ : ByteArray) = L := ⟨_, rfl⟩
    rw [hL] at H3 H4
    clear hL hx
    by_cases h6 : s.size ≤ 600
    · have H1 := Lib.hid (fun w hE => words_any s w hE (by omega))
      have H2 := Lib.hid (fun w hE => refWords_any s w hE (by omega))
      have HL := Lib.hid (fun a h => words_len s.data.toList.length s.data.toList a (Nat.le_refl _) h)
      have hs9 : s.data.toList.length ≤ 600 := by rw [← Lib.size_eq]; exact h6
      generalize Txt.words s.data.toList = u at *
      go_wp2_with fail
      refine (H1.out w1 hE1).mono ?_
      rintro e w3 ⟨⟨x, rfl, hx⟩, b3⟩
      have hE3 := hE1.next b3
      have hc3 := hc1.next b3
      have bb3 := Below.up b1 (Nat.le_refl _) b3
      clear b3 hc1 b1 H1
      cases u
      case none =>
        clear HL
        obtain rfl := hx
        go_wp2_with fail
        refine (H2.out w3 hE3).mono ?_
        rintro e w4 ⟨⟨y, rfl, hy⟩, b4⟩
        obtain rfl := hy
        have hE4 := hE3.next b4
        have hc4 := hc3.next b4
        have bb4 := Below.up bb3 (Nat.le_refl _) b4
        clear b4 hc3 bb3 H2
        go_wp2_with fail
        refine (same_any _ _ [] [] w4 (cells_none w4) (cells_none w4) (by decide) (by decide)).mono ?_
        rintro e w5 ⟨rfl, n, rfl⟩
        have b5 : Below w4.heap.size w4 (w4.drewN n) := below_drewN (Below.refl _ _) n
        have hE5 := hE4.next b5
        have hc5 := hc4.next b5
        have bb5 := Below.up bb4 (Nat.le_refl _) b5
        rw [show decide (([] : List (List UInt8)) = []) = true from rfl]
        clear b5 hc4 bb4
        go_wp2_with fail
        refine (H3.out _ hE5 hc5).mono ?_
        rintro e w6 ⟨rfl, b6⟩
        have hc6 := hc5.next b6
        have bb6 := Below.up bb5 (Nat.le_refl _) b6
        clear b6 hc5 bb5
        go_wp2_with fail
        refine (H4.out _ hc6).mono ?_
        rintro e w7 ⟨rfl, b7⟩
        have bb7 := Below.up bb6 (Nat.le_refl _) b7
        go_wp2
        go_ret
        exact ⟨rfl, bb7⟩
      case some us =>
        have hul := HL.out us rfl
        clear HL
        obtain ⟨x, rfl, hown⟩ := hx
        have hx3 := cells_of_owns hown
        clear hown
        go_wp2_with fail
        refine (H2.out w3 hE3).mono ?_
        rintro e w4 ⟨⟨y, rfl, hy⟩, b4⟩
        obtain ⟨y, rfl, hown⟩ := hy
        have hy4 := cells_of_owns hown
        have hx4 := hx3.next b4
        have hE4 := hE3.next b4
        have hc4 := hc3.next b4
        have bb4 := Below.up bb3 (Nat.le_refl _) b4
        clear b4 hc3 bb3 H2 hown hx3
        go_wp2_with fail
        refine (same_any x y us us w4 hx4 hy4 (by omega) (by omega)).mono ?_
        rintro e w5 ⟨rfl, n, rfl⟩
        have b5 : Below w4.heap.size w4 (w4.drewN n) := below_drewN (Below.refl _ _) n
        have hE5 := hE4.next b5
        have hc5 := hc4.next b5
        have bb5 := Below.up bb4 (Nat.le_refl _) b5
        rw [show decide (us = us) = true by simp]
        clear b5 hc4 bb4 hx4 hy4
        go_wp2_with fail
        refine (H3.out _ hE5 hc5).mono ?_
        rintro e w6 ⟨rfl, b6⟩
        have hc6 := hc5.next b6
        have bb6 := Below.up bb5 (Nat.le_refl _) b6
        clear b6 hc5 bb5
        go_wp2_with fail
        refine (H4.out _ hc6).mono ?_
        rintro e w7 ⟨rfl, b7⟩
        have bb7 := Below.up bb6 (Nat.le_refl _) b7
        go_wp2
        go_ret
        exact ⟨rfl, bb7⟩
    · have h7 : 600 < s.size := by omega
      clear h6
      go_wp2
      go_ret
      exact ⟨rfl, b1⟩

set_option maxHeartbeats 4000000 in
set_option maxRecDepth 100000 in
theorem textBack_any (s : ByteArray) (v : Value) (ws : List (List UInt8)) (w : World) (hE : Env w) (hc : Cells w v 1 ws.length (strCells ws)) :
    Calls Tryd.prog 7 #[.string s, v] w fun e w' => e = .returned (.bool true) ∧ Below w.heap.size w w' := by
  go_enter Tryd.func7, Tryd.ntmps7
  go_wp2_with fail
  refine (shown_any w hE).mono ?_
  rintro e w1 ⟨rfl, b1⟩
  have hE1 := hE.next b1
  have hc1 := hc.next b1
  clear hc
  go_wp2_with fail
  refine (small_any v ws w1 hc1).mono ?_
  rintro e w2 ⟨rfl, rfl⟩
  cases hsm : smallL ws with
  | false =>
    go_wp2
    go_ret
    exact ⟨rfl, b1⟩
  | true =>
    obtain ⟨hn, hx⟩ := small_of hsm
    clear hsm
    by_cases h6 : s.size ≤ 600
    · have hll := line_len ws hx
      have HW := Lib.hid (words_line ws)
      have H3 := Lib.hid (fun w hE hc => line_any v ws w hE hc (by omega) (fun x h => Nat.le_trans (hx x h) (by omega)))
      obtain ⟨L, hL⟩ : ∃ L : ByteArray, (⟨(Txt.line ws).toArray⟩ : ByteArray) = L := ⟨_, rfl⟩
      have hLl : L.data.toList = Txt.line ws := by rw [← hL]
      have hLs : L.size ≤ 50000 := by rw [Lib.size_eq, hLl]; omega
      have H4 := Lib.hid (fun w hE => words_any L w hE (by omega))
      rw [hLl, HW.out] at H4
      rw [hL] at H3
      clear hL hLl hll hx HW
      have H1 := Lib.hid (fun w hE => quote_any s w hE (by omega))
      obtain ⟨Q, hQ⟩ : ∃ Q : ByteArray, (⟨(Txt.quote s.data.toList).toArray⟩ : ByteArray) = Q := ⟨_, rfl⟩
      have hQl : Q.data.toList = Txt.quote s.data.toList := by rw [← hQ]
      have hql := quote_len s.data.toList
      rw [← Lib.size_eq] at hql
      have hQs : Q.size ≤ 10000 := by rw [Lib.size_eq, hQl]; omega
      have H2 := Lib.hid (fun w hE => unquote_any Q w hE (by omega))
      rw [show Txt.unq Txt.dgP Q.data.toList = some s.data.toList from (by rw [hQl]; exact unq_quote _ reads_P _)] at H2
      simp only [eV] at H2
      rw [show (⟨s.data.toList.toArray⟩ : ByteArray) = s from eq_of_list rfl] at H2
      rw [hQ] at H1
      have HB := Lib.hid (show ∀ (i : Nat) (h : i < Q.size), 32 ≤ Q[i].toNat ∧ Q[i].toNat ≠ 127 from fun i h => by
        have := quote_bytes s.data.toList Q[i] (by rw [← hQl]; exact List.getElem_mem (l := Q.data.toList) (n := i) (by rw [← Lib.size_eq]; exact h))
        exact this)
      clear hQ hQl hql
      go_wp2_with fail
      refine (H1.out w1 hE1).mono ?_
      rintro e w3 ⟨rfl, b3⟩
      have hE3 := hE1.next b3
      have hc3 := hc1.next b3
      have bb3 := Below.up b1 (Nat.le_refl _) b3
      clear b3 hc1 b1 H1
      go_wp2_with fail
      refine (H2.out w3 hE3).mono ?_
      rintro e w4 ⟨rfl, b4⟩
      have hE4 := hE3.next b4
      have hc4 := hc3.next b4
      have bb4 := Below.up bb3 (Nat.le_refl _) b4
      clear b4 hc3 bb3 H2
      go_wp2_with fail
      refine (H3.out w4 hE4 hc4).mono ?_
      rintro e w5 ⟨rfl, b5⟩
      have hE5 := hE4.next b5
      have hc5 := hc4.next b5
      have bb5 := Below.up bb4 (Nat.le_refl _) b5
      clear b5 hc4 bb4 H3
      go_wp2_with fail
      refine (H4.out w5 hE5).mono ?_
      rintro e w6 ⟨⟨x, rfl, hx⟩, b6⟩
      obtain ⟨x, rfl, hown⟩ := hx
      have hx6 := cells_of_owns hown
      have hc6 := hc5.next b6
      have bb6 := Below.up bb5 (Nat.le_refl _) b6
      clear b6 hc5 bb5 H4 hown hE3 hE4 hE5
      go_wp2_with fail
      go_loop [12] (fun lv => ∃ i : Nat, lv = .int .i64 i ∧ i ≤ Q.size) (fun lv => Q.size - (intOf lv).toNat)
      case atStart => exact ⟨0, rfl, by omega⟩
      case round =>
        obtain ⟨i, rfl, hi⟩ := hrel
        by_cases hp : i < Q.size
        · obtain ⟨q1, q2⟩ := HB.out i hp
          have n1 : ¬ ((Q[i].toNat : Int) < 32) := by omega
          have n2 : ((Q[i].toNat : Int) == 127) = false := by rw [beq_eq_false_iff_ne]; omega
          clear q1 q2
          go_wp2
          exact ⟨⟨i + 1, by go_num, by omega⟩, by simp [intOf]; omega⟩
        · go_wp2_with fail
          refine (same_any x v ws ws w6 hx6 hc6 (by omega) (by omega)).mono ?_
          rintro e w7 ⟨rfl, n, rfl⟩
          have bb7 := below_drewN bb6 n
          rw [show decide (ws = ws) = true by simp]
          go_wp2
          go_ret
          exact ⟨rfl, bb7⟩
    · have h7 : 600 < s.size := by omega
      clear h6
      go_wp2
      go_ret
      exact ⟨rfl, b1⟩
end Go.Proofs.YthnhnaaihhagaaaDoor
