/-
  The walk of event.Fits: at every batch.
-/
import Derived.Test.YthmblkckpdpjkaaGreatDoorEvt
namespace Go.Proofs.YthmblkckpdpjkaaGreatDoor
open Go.RowKit Go.Shelf

set_option maxHeartbeats 2000000 in
set_option maxRecDepth 100000 in
theorem fits_any (S : ByteArray) (ex se sq : Int) (v : Value) (es : List Evt.Event) (w : World) (hE : Env w) (hS : S.size ≤ 1000000) (hc : Evs w v es) (hn : es.length ≤ 1000000) (hx : Small es) :
    Calls Tryz.prog 86 #[.agg #[.string S, .int .i64 ex, .int .i64 se, .int .i64 sq, v]] w fun e w' => e = .returned (.int .i64 (Evt.fits ⟨S.data.toList, ex, se, sq, es⟩ : Nat)) ∧ Below w.heap.size w w' := by
  have HF := Lib.hid (show Evt.fits ⟨S.data.toList, ex, se, sq, es⟩ = if (Txt.name S.data.toList && decide (-1 ≤ ex) && decide (ex ≤ 274877906944) && Evt.number se && Evt.number sq && !es.isEmpty) = false then 1 else if 8 < es.length then 4 else if es.all Evt.right = false then 1 else 0 from rfl)
  obtain ⟨F, hF⟩ : ∃ F, Evt.fits ⟨S.data.toList, ex, se, sq, es⟩ = F := ⟨_, rfl⟩
  rw [hF] at HF ⊢
  clear hF
  have HX := Lib.hid hx
  clear hx
  obtain ⟨sa, sl, sc, rfl, hsl⟩ : ∃ sa sl sc, v = .slice sa sl sc ∧ sl = es.length := by
    rcases cellsNil hc with ⟨h0, a0, c0, rfl⟩ | ⟨b, o, c, rfl⟩
    · exact ⟨a0, 0, c0, rfl, h0.symm⟩
    · exact ⟨_, _, _, rfl, rfl⟩
  have HSL := Lib.hid hsl
  have hsb : sl ≤ 1000000 := by omega
  clear hsl
  have hb0 : Below w.heap.size w (w.alloc (.cells #[.string S, .int .i64 ex, .int .i64 se, .int .i64 sq, .slice sa sl sc] 36)) := (Below.refl _ _).alloc (Nat.le_refl _) _
  have k0 : (w.alloc (.cells #[.string S, .int .i64 ex, .int .i64 se, .int .i64 sq, .slice sa sl sc] 36)).cell? ⟨w.heap.size, 1, none⟩ = some (.int .i64 ex) := by simp
  have k1 : (w.alloc (.cells #[.string S, .int .i64 ex, .int .i64 se, .int .i64 sq, .slice sa sl sc] 36)).cell? ⟨w.heap.size, 2, none⟩ = some (.int .i64 se) := by simp
  have k2 : (w.alloc (.cells #[.string S, .int .i64 ex, .int .i64 se, .int .i64 sq, .slice sa sl sc] 36)).cell? ⟨w.heap.size, 3, none⟩ = some (.int .i64 sq) := by simp
  have k3 : (w.alloc (.cells #[.string S, .int .i64 ex, .int .i64 se, .int .i64 sq, .slice sa sl sc] 36)).cell? ⟨w.heap.size, 4, none⟩ = some (.slice sa sl sc) := by simp
  have HK0 := Lib.hid k0; have HK1 := Lib.hid k1; have HK2 := Lib.hid k2; have HK3 := Lib.hid k3
  clear k0 k1 k2 k3
  go_enter Tryz.func86, Tryz.ntmps86
  go_wp2_with fail
  refine (name_any S _ (hE.next hb0) (by omega)).mono ?_
  rintro e w1 ⟨rfl, b1⟩
  have hbw := Below.up hb0 (Nat.le_refl _) b1
  have hE1 := hE.next hbw
  have k0 := cell_kept b1 (Nat.le_refl _) HK0.out
  have k1 := cell_kept b1 (Nat.le_refl _) HK1.out
  have k2 := cell_kept b1 (Nat.le_refl _) HK2.out
  have k3 := cell_kept b1 (Nat.le_refl _) HK3.out
  have hc1 := Cells.next hc hbw
  have HC := Lib.hid hc1
  clear HK0 HK1 HK2 HK3 hb0 b1 hc hc1
  cases hnm : Txt.name S.data.toList with
  | false =>
    have HR := Lib.hid (show F = 1 by rw [HF.out, hnm]; rfl)
    clear hnm HF
    go_wp2
    go_ret
    exact ⟨ret_i64 (by rw [HR.out]; rfl), hbw⟩
  | true =>
    rw [hnm] at HF
    clear hnm
    by_cases h1 : ex < -1
    · have HR := Lib.hid (show F = 1 by rw [HF.out, decide_eq_false (show ¬ -1 ≤ ex by omega)]; rfl)
      clear HF
      go_wp2
      go_ret
      exact ⟨ret_i64 (by rw [HR.out]; rfl), hbw⟩
    · by_cases h2 : 274877906944 < ex
      · have HR := Lib.hid (show F = 1 by rw [HF.out, decide_eq_false (show ¬ ex ≤ 274877906944 by omega)]; simp)
        clear HF
        go_wp2
        go_ret
        exact ⟨ret_i64 (by rw [HR.out]; rfl), hbw⟩
      · have HF2 := Lib.hid (show F = if (Evt.number se && Evt.number sq && !es.isEmpty) = false then 1 else if 8 < es.length then 4 else if es.all Evt.right = false then 1 else 0 by
          rw [HF.out, decide_eq_true (show -1 ≤ ex by omega), decide_eq_true (show ex ≤ 274877906944 by omega)]; simp only [Bool.true_and])
        clear HF
        go_wp2_with fail
        refine (fits1_any se w1).mono ?_
        rintro e w2 ⟨rfl, rfl⟩
        cases hns : Evt.number se with
        | false =>
          have HR := Lib.hid (show F = 1 by rw [HF2.out, hns]; rfl)
          clear hns HF2
          go_wp2
          go_ret
          exact ⟨ret_i64 (by rw [HR.out]; rfl), hbw⟩
        | true =>
          rw [hns] at HF2
          clear hns
          go_wp2_with fail
          refine (fits1_any sq w1).mono ?_
          rintro e w2 ⟨rfl, rfl⟩
          cases hnq : Evt.number sq with
          | false =>
            have HR := Lib.hid (show F = 1 by rw [HF2.out, hnq]; rfl)
            clear hnq HF2
            go_wp2
            go_ret
            exact ⟨ret_i64 (by rw [HR.out]; rfl), hbw⟩
          | true =>
            rw [hnq] at HF2
            clear hnq
            by_cases h0 : sl = 0
            · have HR := Lib.hid (show F = 1 by rw [HF2.out, List.eq_nil_of_length_eq_zero (show es.length = 0 by have := HSL.out; omega)]; rfl)
              have h0b : ((sl : Int) == 0) = true := by simp [h0]
              clear HF2 h0
              go_wp2
              go_ret
              exact ⟨ret_i64 (by rw [HR.out]; rfl), hbw⟩
            · have h0b : ((sl : Int) == 0) = false := by simp; omega
              have HF3 := Lib.hid (show F = if 8 < sl then 4 else if es.all Evt.right = false then 1 else 0 by
                rw [HF2.out, HSL.out]
                have : es.isEmpty = false := by
                  have hsl := HSL.out
                  cases es with
                  | nil => simp at hsl; omega
                  | cons => rfl
                rw [this]; simp)
              clear HF2
              by_cases h8 : (8 : Int) < sl
              · have HR := Lib.hid (show F = 4 by rw [HF3.out, if_pos (by omega)])
                clear HF3
                go_wp2
                go_ret
                exact ⟨ret_i64 (by rw [HR.out]; rfl), hbw⟩
              · have HF4 := Lib.hid (show F = if es.all Evt.right = false then 1 else 0 by rw [HF3.out, if_neg (by omega)])
                clear HF3
                go_wp2_with fail
                refine (containsFunc_any _ es w1 hE1 HC.out hn HX.out).mono ?_
                rintro e w3 ⟨rfl, b3⟩
                have hbw3 := Below.up hbw (Nat.le_refl _) b3
                cases hal : es.all Evt.right with
                | true =>
                  have HR := Lib.hid (show F = 0 by rw [HF4.out, hal]; rfl)
                  clear hal HF4
                  go_wp2
                  go_ret
                  exact ⟨ret_i64 (by rw [HR.out]; rfl), hbw3⟩
                | false =>
                  have HR := Lib.hid (show F = 1 by rw [HF4.out, hal]; rfl)
                  clear hal HF4
                  go_wp2
                  go_ret
                  exact ⟨ret_i64 (by rw [HR.out]; rfl), hbw3⟩
end Go.Proofs.YthmblkckpdpjkaaGreatDoor
