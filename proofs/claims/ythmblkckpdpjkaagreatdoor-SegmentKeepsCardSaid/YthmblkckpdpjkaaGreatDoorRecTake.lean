/-
  The walk of record.Take: at every text.
-/
import Derived.Test.YthmblkckpdpjkaaGreatDoorRec
namespace Go.Proofs.YthmblkckpdpjkaaGreatDoor
open Go.RowKit Go.Shelf

theorem entry_size : (Tryz.prog.info? 38).map (·.size) = some 7 := by kernel_rfl
theorem EB.frozen {b : Nat} {p ep : Int} {S : ByteArray} {ex se sq : Int} {v : Value} {w : World} (h : EB b p ep S ex se sq v w) : ∀ i, w.frozen? ⟨b, i, none⟩ = false := fun i => Lib.frozen_of_heap h i
theorem EB.set0 {b : Nat} {p ep : Int} {S : ByteArray} {ex se sq : Int} {v : Value} {w : World} (h : EB b p ep S ex se sq v w) (p' : Int) : EB b p' ep S ex se sq v (w.setCell ⟨b, 0, none⟩ (.int .i64 p')) := setCell_at (i := 0) h _
theorem EB.set1 {b : Nat} {p ep : Int} {S : ByteArray} {ex se sq : Int} {v : Value} {w : World} (h : EB b p ep S ex se sq v w) (p' : Int) : EB b p p' S ex se sq v (w.setCell ⟨b, 1, none⟩ (.int .i64 p')) := setCell_at (i := 1) h _
theorem EB.set2 {b : Nat} {p ep : Int} {S : ByteArray} {ex se sq : Int} {v : Value} {w : World} (h : EB b p ep S ex se sq v w) (S' : ByteArray) : EB b p ep S' ex se sq v (w.setCell ⟨b, 2, none⟩ (.string S')) := setCell_at (i := 2) h _
theorem EB.set3 {b : Nat} {p ep : Int} {S : ByteArray} {ex se sq : Int} {v : Value} {w : World} (h : EB b p ep S ex se sq v w) (x : Int) : EB b p ep S x se sq v (w.setCell ⟨b, 3, none⟩ (.int .i64 x)) := setCell_at (i := 3) h _
theorem EB.set4 {b : Nat} {p ep : Int} {S : ByteArray} {ex se sq : Int} {v : Value} {w : World} (h : EB b p ep S ex se sq v w) (x : Int) : EB b p ep S ex x sq v (w.setCell ⟨b, 4, none⟩ (.int .i64 x)) := setCell_at (i := 4) h _
theorem EB.set5 {b : Nat} {p ep : Int} {S : ByteArray} {ex se sq : Int} {v : Value} {w : World} (h : EB b p ep S ex se sq v w) (x : Int) : EB b p ep S ex se x v (w.setCell ⟨b, 5, none⟩ (.int .i64 x)) := setCell_at (i := 5) h _
theorem EB.set6 {b : Nat} {p ep : Int} {S : ByteArray} {ex se sq : Int} {v : Value} {w : World} (h : EB b p ep S ex se sq v w) (x : Value) : EB b p ep S ex se sq x (w.setCell ⟨b, 6, none⟩ x) := setCell_at (i := 6) h _
/-- A batch is stored into an entry. -/
theorem EB.putB {b : Nat} {p ep : Int} {S0 : ByteArray} {e0 s0 q0 : Int} {v0 : Value} {w : World} (h : EB b p ep S0 e0 s0 q0 v0 w) (S : ByteArray) (ex se sq : Int) (v : Value) :
    EB b p ep S ex se sq v (((((w.setCell ⟨b, 2, none⟩ (.string S)).setCell ⟨b, 3, none⟩ (.int .i64 ex)).setCell ⟨b, 4, none⟩ (.int .i64 se)).setCell ⟨b, 5, none⟩ (.int .i64 sq)).setCell ⟨b, 6, none⟩ v) ∧
      w.grownBy (((((w.setCell ⟨b, 2, none⟩ (.string S)).setCell ⟨b, 3, none⟩ (.int .i64 ex)).setCell ⟨b, 4, none⟩ (.int .i64 se)).setCell ⟨b, 5, none⟩ (.int .i64 sq)).setCell ⟨b, 6, none⟩ v) (some b) := by
  have h1 := ((((h.set2 S).set3 ex).set4 se).set5 sq).set6 v
  exact ⟨h1, grown_trans (grown_trans (grown_trans (grown_trans (grown_set w b 2 (.string S)) (grown_set _ b 3 (.int .i64 ex))) (grown_set _ b 4 (.int .i64 se))) (grown_set _ b 5 (.int .i64 sq))) (grown_set _ b 6 v)⟩
/-- An entry is stored over another one. -/
theorem EB.put7 {b : Nat} {p0 ep0 : Int} {S0 : ByteArray} {e0 s0 q0 : Int} {v0 : Value} {w : World} (h : EB b p0 ep0 S0 e0 s0 q0 v0 w) (p ep : Int) (S : ByteArray) (ex se sq : Int) (v : Value) :
    EB b p ep S ex se sq v (((((((w.setCell ⟨b, 0, none⟩ (.int .i64 p)).setCell ⟨b, 1, none⟩ (.int .i64 ep)).setCell ⟨b, 2, none⟩ (.string S)).setCell ⟨b, 3, none⟩ (.int .i64 ex)).setCell ⟨b, 4, none⟩ (.int .i64 se)).setCell ⟨b, 5, none⟩ (.int .i64 sq)).setCell ⟨b, 6, none⟩ v) ∧
      w.grownBy (((((((w.setCell ⟨b, 0, none⟩ (.int .i64 p)).setCell ⟨b, 1, none⟩ (.int .i64 ep)).setCell ⟨b, 2, none⟩ (.string S)).setCell ⟨b, 3, none⟩ (.int .i64 ex)).setCell ⟨b, 4, none⟩ (.int .i64 se)).setCell ⟨b, 5, none⟩ (.int .i64 sq)).setCell ⟨b, 6, none⟩ v) (some b) := by
  have h1 := (h.set0 p).set1 ep
  have g := grown_trans (grown_set w b 0 (.int .i64 p)) (grown_set _ b 1 (.int .i64 ep))
  have h2 := h1.putB S ex se sq v
  exact ⟨h2.1, grown_trans g h2.2⟩

set_option maxHeartbeats 4000000 in
set_option maxRecDepth 100000 in
theorem recTake_any (s : ByteArray) (w : World) (hE : Env w) (hs : s.size ≤ 1000000) :
    Calls Tryz.prog 85 #[.string s] w fun e w' => ∃ (p ep : Int) (S : ByteArray) (ex se sq : Int) (v : Value) (es : List Evt.Event) (r : ByteArray) (c : Nat), e = .returned (.tuple #[.agg #[.int .i64 p, .int .i64 ep, .string S, .int .i64 ex, .int .i64 se, .int .i64 sq, v], .string r, .int .i64 (c : Int)]) ∧
      Hid (Evt.take s.data.toList = (⟨p, ep, ⟨S.data.toList, ex, se, sq, es⟩⟩, r.data.toList, c)) ∧ w'.ownsRow w.heap.size 77 2 v es.length (evCells es) ∧ S.size ≤ 1000000 ∧ Small es ∧ es.length ≤ 8 ∧ r.size ≤ s.size ∧ Below w.heap.size w w' := by
  have z0 : EB w.heap.size 0 0 ⟨#[]⟩ 0 0 0 (.slice none 0 0) ((w.alloc (.cells #[.int .i64 0, .int .i64 0, .string ⟨#[]⟩, .int .i64 0, .int .i64 0, .int .i64 0, .slice none 0 0] 38)).alloc (.cells #[.int .i64 0, .int .i64 0, .string ⟨#[]⟩, .int .i64 0, .int .i64 0, .int .i64 0, .slice none 0 0] 38)) :=
    EB.kept (heap_alloc_new w _) (World.grownBy_alloc _ _ none) (by simp)
  have e0 : EB (w.heap.size + 1) 0 0 ⟨#[]⟩ 0 0 0 (.slice none 0 0) ((w.alloc (.cells #[.int .i64 0, .int .i64 0, .string ⟨#[]⟩, .int .i64 0, .int .i64 0, .int .i64 0, .slice none 0 0] 38)).alloc (.cells #[.int .i64 0, .int .i64 0, .string ⟨#[]⟩, .int .i64 0, .int .i64 0, .int .i64 0, .slice none 0 0] 38)) := by
    have := heap_alloc_new (w.alloc (.cells #[.int .i64 0, .int .i64 0, .string ⟨#[]⟩, .int .i64 0, .int .i64 0, .int .i64 0, .slice none 0 0] 38)) (.cells #[.int .i64 0, .int .i64 0, .string ⟨#[]⟩, .int .i64 0, .int .i64 0, .int .i64 0, .slice none 0 0] 38)
    rw [World.size_alloc] at this
    exact this
  have hb0 : Below w.heap.size w ((w.alloc (.cells #[.int .i64 0, .int .i64 0, .string ⟨#[]⟩, .int .i64 0, .int .i64 0, .int .i64 0, .slice none 0 0] 38)).alloc (.cells #[.int .i64 0, .int .i64 0, .string ⟨#[]⟩, .int .i64 0, .int .i64 0, .int .i64 0, .slice none 0 0] 38)) :=
    ((Below.refl _ _).alloc (Nat.le_refl _) _).alloc (by simp) _
  have hs0 : ((w.alloc (.cells #[.int .i64 0, .int .i64 0, .string ⟨#[]⟩, .int .i64 0, .int .i64 0, .int .i64 0, .slice none 0 0] 38)).alloc (.cells #[.int .i64 0, .int .i64 0, .string ⟨#[]⟩, .int .i64 0, .int .i64 0, .int .i64 0, .slice none 0 0] 38)).heap.size = w.heap.size + 2 := by simp
  go_enter Tryz.func85, Tryz.ntmps85
  go_wp2_with fail
  obtain ⟨W1, hW1⟩ : ∃ W1, ((w.alloc (.cells #[.int .i64 0, .int .i64 0, .string ⟨#[]⟩, .int .i64 0, .int .i64 0, .int .i64 0, .slice none 0 0] 38)).alloc (.cells #[.int .i64 0, .int .i64 0, .string ⟨#[]⟩, .int .i64 0, .int .i64 0, .int .i64 0, .slice none 0 0] 38)) = W1 := ⟨_, rfl⟩
  rw [hW1] at z0 e0 hb0 hs0 ⊢
  clear hW1
  refine (numTake_any s W1 (by omega)).mono ?_
  rintro e w2 ⟨n1, r1, c1, rfl, H1, b1⟩
  have hr1 : r1.size ≤ s.size := by have := (Num.take_le s.data.toList).2.1; rw [H1.out, ← Lib.size_eq, ← Lib.size_eq] at this; exact this
  have z2 := z0.next b1
  have e2 := e0.next b1
  have hb2 := Below.up hb0 (Nat.le_refl _) b1
  have hs2 : w.heap.size + 2 ≤ w2.heap.size := by have := b1.size; omega
  obtain ⟨k0, k1, k2, k3, k4, k5, k6⟩ := e2.cells
  have f0 := e2.frozen 0
  -- the place is stored
  have e3 := e2.set0 (n1 : Int)
  have z3 := z2.kept (grown_set w2 (w.heap.size + 1) 0 (.int .i64 (n1 : Int))) (by simp)
  have hb3 : Below w.heap.size w (w2.setCell ⟨w.heap.size + 1, 0, none⟩ (.int .i64 (n1 : Int))) := hb2.setCell (p := ⟨w.heap.size + 1, 0, none⟩) (by simp) _
  have hs3 : w.heap.size + 2 ≤ (w2.setCell ⟨w.heap.size + 1, 0, none⟩ (.int .i64 (n1 : Int))).heap.size := by simp; omega
  have E3 := Lib.hid e3; have Z3 := Lib.hid z3; have HB3 := Lib.hid hb3; have HS3 := Lib.hid hs3
  clear e3 z3 hb3 hs3 z0 e0 z2 e2 hb0 hb2 hs2 hs0 b1
  by_cases hc1 : c1 = 0
  · subst hc1
    go_wp2_with fail
    obtain ⟨W3, hW3⟩ : ∃ W3, w2.setCell ⟨w.heap.size + 1, 0, none⟩ (.int .i64 (n1 : Int)) = W3 := ⟨_, rfl⟩
    rw [hW3] at E3 Z3 HB3 HS3 ⊢
    clear hW3 k0 k1 k2 k3 k4 k5 k6 f0
    refine (numTake_any r1 W3 (by omega)).mono ?_
    rintro e w4 ⟨n2, r2, c2, rfl, H2, b2⟩
    have hr2 : r2.size ≤ r1.size := by have := (Num.take_le r1.data.toList).2.1; rw [H2.out, ← Lib.size_eq, ← Lib.size_eq] at this; exact this
    have z4 := Z3.out.next b2
    have e4 := E3.out.next b2
    have hb4 := Below.up HB3.out (Nat.le_refl _) b2
    have hs4 : w.heap.size + 2 ≤ w4.heap.size := by have := b2.size; have := HS3.out; omega
    obtain ⟨k0, k1, k2, k3, k4, k5, k6⟩ := e4.cells
    have f1 := e4.frozen 1
    have e5 := e4.set1 (n2 : Int)
    have z5 := z4.kept (grown_set w4 (w.heap.size + 1) 1 (.int .i64 (n2 : Int))) (by simp)
    have hb5 : Below w.heap.size w (w4.setCell ⟨w.heap.size + 1, 1, none⟩ (.int .i64 (n2 : Int))) := hb4.setCell (p := ⟨w.heap.size + 1, 1, none⟩) (by simp) _
    have hs5 : w.heap.size + 2 ≤ (w4.setCell ⟨w.heap.size + 1, 1, none⟩ (.int .i64 (n2 : Int))).heap.size := by simp; omega
    have E5 := Lib.hid e5; have Z5 := Lib.hid z5; have HB5 := Lib.hid hb5; have HS5 := Lib.hid hs5
    clear e5 z5 hb5 hs5 z4 e4 hb4 hs4 b2 E3 Z3 HB3 HS3
    by_cases hc2 : c2 = 0
    · subst hc2
      go_wp2_with fail
      obtain ⟨W5, hW5⟩ : ∃ W5, w4.setCell ⟨w.heap.size + 1, 1, none⟩ (.int .i64 (n2 : Int)) = W5 := ⟨_, rfl⟩
      rw [hW5] at E5 Z5 HB5 HS5 ⊢
      clear hW5 k0 k1 k2 k3 k4 k5 k6 f1
      refine (takeBatch_any r2 W5 (hE.next HB5.out) (by omega)).mono ?_
      rintro e w6 ⟨S, ex, se, sq, v, es, r3, c3, rfl, H3, own6, hSs, hsm, hes, hr3, b3⟩
      obtain ⟨sa, sl, sc, rfl⟩ := slice_of_owns own6
      have z6 := Z5.out.next b3
      have e6 := E5.out.next b3
      have hb6 := Below.up HB5.out (Nat.le_refl _) b3
      have hs6 : w.heap.size + 2 ≤ w6.heap.size := by have := b3.size; have := HS5.out; omega
      have own6' := ownsRow_low own6 (show w.heap.size ≤ W5.heap.size by have := HS5.out; omega)
      obtain ⟨k0, k1, k2, k3, k4, k5, k6⟩ := e6.cells
      have f2 := e6.frozen 2
      have f3 := e6.frozen 3
      have f4 := e6.frozen 4
      have f5 := e6.frozen 5
      have f6 := e6.frozen 6
      have e7 := e6.putB S ex se sq (.slice sa sl sc)
      have own7 := own6'.kept e7.2 (.inr (cells_not_row e6 (by decide) own6').symm)
      have z7 := z6.kept e7.2 (by simp)
      have hb7 := hb6.trans (below_of_grown e7.2 (show w.heap.size ≤ w.heap.size + 1 by omega) hb6.size)
      have E7 := Lib.hid e7; have O7 := Lib.hid own7; have Z7 := Lib.hid z7; have HB7 := Lib.hid hb7
      clear e7 own7 z7 hb7 e6 own6 own6' z6 hb6 b3 E5 Z5 HB5 HS5
      by_cases hc3 : c3 = 0
      · subst hc3
        have HT0 := Lib.hid (show Evt.take s.data.toList = if Evt.rightN ⟨n1, n2, ⟨S.data.toList, ex, se, sq, es⟩⟩ then (⟨n1, n2, ⟨S.data.toList, ex, se, sq, es⟩⟩, r3.data.toList, 0) else (Evt.zeroN, [], 2) by
          unfold Evt.take; simp only; rw [H1.out]; simp only; rw [if_neg (by simp), H2.out]; simp only; rw [if_neg (by simp), H3.out]; simp only; rw [if_neg (by simp)])
        clear H1 H2 H3
        go_wp2_with fail
        obtain ⟨W7, hW7⟩ : ∃ W7, (((((w6.setCell ⟨w.heap.size + 1, 2, none⟩ (.string S)).setCell ⟨w.heap.size + 1, 3, none⟩ (.int .i64 ex)).setCell ⟨w.heap.size + 1, 4, none⟩ (.int .i64 se)).setCell ⟨w.heap.size + 1, 5, none⟩ (.int .i64 sq)).setCell ⟨w.heap.size + 1, 6, none⟩ (.slice sa sl sc)) = W7 := ⟨_, rfl⟩
        rw [hW7] at E7 O7 Z7 HB7 ⊢
        clear hW7 k0 k1 k2 k3 k4 k5 k6 f2 f3 f4 f5 f6
        refine (recRight_any (n1 : Int) (n2 : Int) S ex se sq _ es W7 (hE.next HB7.out) hSs (cells_of_owns O7.out) (by omega) hsm).mono ?_
        rintro e w8 ⟨rfl, b8⟩
        have e8 := E7.out.1.next b8
        have z8 := Z7.out.next b8
        have o8 := owns_next O7.out b8
        have hb8 := Below.up HB7.out (Nat.le_refl _) b8
        have hs8 := hb8.size
        obtain ⟨z0, z1, z2, z3, z4, z5, z6⟩ := z8.cells
        obtain ⟨k0, k1, k2, k3, k4, k5, k6⟩ := e8.cells
        have f0 := z8.frozen 0
        have f1 := z8.frozen 1
        have f2 := z8.frozen 2
        have f3 := z8.frozen 3
        have f4 := z8.frozen 4
        have f5 := z8.frozen 5
        have f6 := z8.frozen 6
        clear E7 O7 Z7 HB7 b8
        cases hr : Evt.rightN ⟨n1, n2, ⟨S.data.toList, ex, se, sq, es⟩⟩ with
        | true =>
          have HT := Lib.hid (show Evt.take s.data.toList = (⟨n1, n2, ⟨S.data.toList, ex, se, sq, es⟩⟩, r3.data.toList, 0) by rw [HT0.out, if_pos hr])
          have HP := Lib.hid (z8.put7 (n1 : Int) (n2 : Int) S ex se sq (.slice sa sl sc))
          have HON := Lib.hid (o8.kept HP.out.2 (.inr (cells_not_row z8 (by decide) o8).symm))
          have HBN := Lib.hid (hb8.trans (below_of_grown HP.out.2 (Nat.le_refl _) hs8))
          clear HT0 hr e8 z8 o8 hb8
          go_wp2
          (try simp only [Exit.inBlock, Exit.then])
          refine bodyPost_ret (results_cell3 rfl _ _ w.heap.size _ _ _ _ rfl HP.out.1 Tryz.underlying38 rfl entry_size) rfl ?_
          exact ⟨n1, n2, S, ex, se, sq, _, es, r3, 0, rfl, HT, HON.out, hSs, hsm, hes, by omega, HBN.out⟩
        | false =>
          have HT := Lib.hid (show Evt.take s.data.toList = (Evt.zeroN, [], 2) by rw [HT0.out, if_neg (by rw [hr]; simp)])
          have HP := Lib.hid (z8.put7 0 0 ⟨#[]⟩ 0 0 0 (.slice none 0 0))
          have HBN := Lib.hid (hb8.trans (below_of_grown HP.out.2 (Nat.le_refl _) hs8))
          clear HT0 hr e8 z8 o8 hb8
          go_wp2
          (try simp only [Exit.inBlock, Exit.then])
          refine bodyPost_ret (results_cell3 rfl _ _ w.heap.size _ _ _ _ rfl HP.out.1 Tryz.underlying38 rfl entry_size) rfl ?_
          exact ⟨0, 0, ⟨#[]⟩, 0, 0, 0, _, [], ⟨#[]⟩, 2, rfl, HT, World.ownsRow_nil _ _ _ _, Nat.zero_le _, (fun e he => by cases he), by simp, Nat.zero_le _, HBN.out⟩
      · have hcb : ((c3 : Int) != 0) = true := by simp; omega
        have HT := Lib.hid (show Evt.take s.data.toList = (Evt.zeroN, [], c3) by
          unfold Evt.take; simp only; rw [H1.out]; simp only; rw [if_neg (by simp), H2.out]; simp only; rw [if_neg (by simp), H3.out]; simp only; rw [if_pos hc3])
        have z8 := Z7.out
        have HP := Lib.hid (z8.put7 0 0 ⟨#[]⟩ 0 0 0 (.slice none 0 0))
        have HBN := Lib.hid (HB7.out.trans (below_of_grown HP.out.2 (Nat.le_refl _) HB7.out.size))
        obtain ⟨z0, z1, z2, z3, z4, z5, z6⟩ := z8.cells
        have g0 := z8.frozen 0
        have g1 := z8.frozen 1
        have g2 := z8.frozen 2
        have g3 := z8.frozen 3
        have g4 := z8.frozen 4
        have g5 := z8.frozen 5
        have g6 := z8.frozen 6
        clear H1 H2 H3 z8
        go_wp2
        (try simp only [Exit.inBlock, Exit.then])
        refine bodyPost_ret (results_cell3 rfl _ _ w.heap.size _ _ _ _ rfl HP.out.1 Tryz.underlying38 rfl entry_size) rfl ?_
        exact ⟨0, 0, ⟨#[]⟩, 0, 0, 0, _, [], ⟨#[]⟩, c3, rfl, HT, World.ownsRow_nil _ _ _ _, Nat.zero_le _, (fun e he => by cases he), by simp, Nat.zero_le _, HBN.out⟩
    · have hcb : ((c2 : Int) != 0) = true := by simp; omega
      have hcb' : ((c2 : Int) == 0) = false := by simp; omega
      have HT := Lib.hid (show Evt.take s.data.toList = (Evt.zeroN, [], c2) by
        unfold Evt.take; simp only; rw [H1.out]; simp only; rw [if_neg (by simp), H2.out]; simp only; rw [if_pos hc2])
      have z8 := Z5.out
      have HP := Lib.hid (z8.put7 0 0 ⟨#[]⟩ 0 0 0 (.slice none 0 0))
      have HBN := Lib.hid (HB5.out.trans (below_of_grown HP.out.2 (Nat.le_refl _) HB5.out.size))
      obtain ⟨z0, z1, z2, z3, z4, z5, z6⟩ := z8.cells
      have g0 := z8.frozen 0
      have g1 := z8.frozen 1
      have g2 := z8.frozen 2
      have g3 := z8.frozen 3
      have g4 := z8.frozen 4
      have g5 := z8.frozen 5
      have g6 := z8.frozen 6
      clear H1 H2 z8
      go_wp2
      (try simp only [Exit.inBlock, Exit.then])
      refine bodyPost_ret (results_cell3 rfl _ _ w.heap.size _ _ _ _ rfl HP.out.1 Tryz.underlying38 rfl entry_size) rfl ?_
      exact ⟨0, 0, ⟨#[]⟩, 0, 0, 0, _, [], ⟨#[]⟩, c2, rfl, HT, World.ownsRow_nil _ _ _ _, Nat.zero_le _, (fun e he => by cases he), by simp, Nat.zero_le _, HBN.out⟩
  · have hcb : ((c1 : Int) != 0) = true := by simp; omega
    have hcb' : ((c1 : Int) == 0) = false := by simp; omega
    have HT := Lib.hid (show Evt.take s.data.toList = (Evt.zeroN, [], c1) by
      unfold Evt.take; simp only; rw [H1.out]; simp only; rw [if_pos hc1])
    have z8 := Z3.out
    have HP := Lib.hid (z8.put7 0 0 ⟨#[]⟩ 0 0 0 (.slice none 0 0))
    have HBN := Lib.hid (HB3.out.trans (below_of_grown HP.out.2 (Nat.le_refl _) HB3.out.size))
    obtain ⟨z0, z1, z2, z3, z4, z5, z6⟩ := z8.cells
    have g0 := z8.frozen 0
    have g1 := z8.frozen 1
    have g2 := z8.frozen 2
    have g3 := z8.frozen 3
    have g4 := z8.frozen 4
    have g5 := z8.frozen 5
    have g6 := z8.frozen 6
    clear H1 z8
    go_wp2
    (try simp only [Exit.inBlock, Exit.then])
    refine bodyPost_ret (results_cell3 rfl _ _ w.heap.size _ _ _ _ rfl HP.out.1 Tryz.underlying38 rfl entry_size) rfl ?_
    exact ⟨0, 0, ⟨#[]⟩, 0, 0, 0, _, [], ⟨#[]⟩, c1, rfl, HT, World.ownsRow_nil _ _ _ _, Nat.zero_le _, (fun e he => by cases he), by simp, Nat.zero_le _, HBN.out⟩
end Go.Proofs.YthmblkckpdpjkaaGreatDoor
