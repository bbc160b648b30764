/-
  The walks of text.hex, text.Quote: the quote of a text.
-/
import Derived.Test.YthnhnaaihhagaaaDoorEnv
namespace Go.Proofs.YthnhnaaihhagaaaDoor
open Go.RowKit Go.Shelf

theorem digit_get : ∀ c : Fin 16, (⟨#[48, 49, 50, 51, 52, 53, 54, 55, 56, 57, 97, 98, 99, 100, 101, 102]⟩ : ByteArray)[c.val]'c.isLt = Txt.hexd c.val := by decide
set_option maxRecDepth 100000 in
theorem hex_any (B b : Nat) (l : List UInt8) (c : UInt8) (w : World) (h : Bld B b l w) (hlen : l.length ≤ 10000000000000) (hB : B ≤ w.heap.size) :
    Calls Tryd.prog 31 #[.pointer (some ⟨b, 0, none⟩), .int .u8 (c.toNat : Int)] w fun e w' => e = .returned (.tuple #[]) ∧ Bld B b (l ++ Txt.hexs c) w' ∧ Below B w w' ∧ Lib.OthersKept 5 (some b) w w' := by
  have hc := c.toNat_lt
  go_enter Tryd.func31, Tryd.ntmps31
  go_wp2_with fail
  refine (writeString B b l _ w h (by simp [ByteArray.size]; omega) hB).mono ?_
  rintro e w1 ⟨rfl, h1, b1, k1⟩
  go_wp2_with fail
  refine (writeByte B b _ _ w1 h1 (by simp; omega) (by have := b1.size; omega)).mono ?_
  rintro e w2 ⟨rfl, h2, b2, k2⟩
  go_wp2_with fail
  refine (writeByte B b _ _ w2 h2 (by simp; omega) (by have := b1.size; have := b2.size; omega)).mono ?_
  rintro e w3 ⟨rfl, h3, b3, k3⟩
  go_wp2
  go_end0
  refine ⟨rfl, ?_, (b1.trans b2).trans b3, (k1.trans k2).trans k3⟩
  have e1 := digit_get ⟨c.toNat / 16, by omega⟩
  have e2 := digit_get ⟨c.toNat % 16, by omega⟩
  simp only at e1 e2
  rw [e1, e2] at h3
  simpa [Txt.hexs] using h3

/-- What a token that is no sign is: the bytes that WriteRune writes. -/
theorem encode_of_shape {t : Int × List UInt8} (h : Txt.Shape t) (h0 : 0 ≤ t.1) : Lib.encodeRune t.1 = t.2 := by
  rcases h with ⟨h1, _⟩ | ⟨h1, h2, h3⟩ | ⟨_, _, h3, _⟩
  · omega
  · rw [h3, Lib.encodeRune, Lib.encodeRuneZ_one h1 (by omega)]; rfl
  · exact h3.symm

theorem qtok_bad (r : Int) (l : List UInt8) (h : Txt.bad r = true) : Txt.qtok (r, l) = Txt.hexs (l.headD 0) := by rw [Txt.qtok, if_pos h]
theorem qtok_10 (l : List UInt8) : Txt.qtok (((10 : Nat) : Int), l) = [92, 110] := rfl
theorem qtok_34 (l : List UInt8) : Txt.qtok (((34 : Nat) : Int), l) = [92, 34] := rfl
theorem qtok_92 (l : List UInt8) : Txt.qtok (((92 : Nat) : Int), l) = [92, 92] := rfl
theorem qtok_else (r : Int) (l : List UInt8) (h : Txt.bad r = false) (h1 : r ≠ 10) (h2 : r ≠ 34) (h3 : r ≠ 92) : Txt.qtok (r, l) = l := by
  rw [Txt.qtok, if_neg (by rw [h]; decide), if_neg h1, if_neg (by omega)]

set_option maxHeartbeats 1000000 in
set_option maxRecDepth 100000 in
theorem quote_any (s : ByteArray) (w : World) (hE : Env w) (hs : s.size ≤ 1000000000000) :
    Calls Tryd.prog 14 #[.string s] w fun e w' => e = .returned (.string ⟨(Txt.quote s.data.toList).toArray⟩) ∧ Below w.heap.size w w' := by
  obtain ⟨g0, g1, g2, g3⟩ := hE.size
  go_enter Tryd.func14, Tryd.ntmps14
  go_wp2_with fail
  refine (writeByte w.heap.size w.heap.size [] 34 _ (bld_fresh w) (by simp) (by simp)).mono ?_
  rintro e w1 ⟨rfl, h1, b1, k1⟩
  have b0 : Below w.heap.size w w1 := ((Below.refl _ w).alloc (Nat.le_refl _) _).trans b1
  have hsz1 := b1.size
  simp at hsz1
  have hE1 : Env w1 := (hE.from hE (Nat.le_refl _) b0)
  clear b1 k1
  have HE := Lib.hid hE; clear hE
  go_wp2_with fail
  go_loopw [] (fun wr => ∃ (pos : Nat) (acc : List UInt8), Bld w.heap.size w.heap.size acc wr ∧ wr.heap[w1.heap.size]? = some (.stringIter s pos) ∧ Below w.heap.size w wr ∧ acc ++ Txt.qtoks (Txt.toks (s.data.toList.drop pos)) = 34 :: Txt.qbody s.data.toList ∧ acc.length ≤ 4 * pos + 1 ∧ pos ≤ s.size ∧ Env wr) (fun wr => s.size - wr.iterPos w1.heap.size)
  case atStart =>
    have hit := World.iter_heap w1 s 0
    refine ⟨0, [34], (h1.alloc _ : Bld _ _ _ (w1.alloc (.stringIter s 0))), by simpa using hit, b0.alloc (by omega) _, by simp [Txt.qbody], by simp, by omega, ?_⟩
    exact hE1.next ((Below.refl _ _).alloc (Nat.le_refl _) _)
  case round =>
    obtain ⟨pos, acc, hI, hit, hbw, hacc, hal, hps, hEr⟩ := hrel
    have HA := Lib.hid hacc; clear hacc
    have hsz : w1.heap.size < wr.heap.size := (Array.getElem?_eq_some_iff.1 hit).1
    by_cases hp : pos < s.size
    · obtain ⟨r, n, k, hd, htk, hn1, hn2, hsh, hrk⟩ := next_tok s pos hp
      have hnx : ∀ ty, (Instr.next (.pointer (some ⟨w1.heap.size, 0, none⟩)) true ty).run Tryd.prog wr = _ := fun ty => Lib.run_next_any_at wr w1.heap.size s pos ty hit hp
      rw [hd] at hnx
      simp only at hnx
      have hI2 := hI.iterAt hit (pos + n)
      have hit2 := Lib.iterAt_heap wr w1.heap.size s pos (pos + n) hit
      have hbw2 := Lib.below_iterAt hbw (k := w1.heap.size) (by omega) s (pos + n)
      have hE2 := hEr.iterAt hit (pos + n)
      have hsz2 : w1.heap.size < (wr.iterAt w1.heap.size s (pos + n)).heap.size := by rw [Lib.iterAt_size]; omega
      have HD := Lib.hid hd; have HT := Lib.hid htk; have HH := Lib.hid hrk
      have hk0 : k ≤ 2147483647 := by have := decode_le s pos; rw [hd] at this; exact this
      have hln : ((s.data.toList.drop pos).take n).headD 0 = s[pos] := by
        obtain ⟨m, rfl⟩ : ∃ m, n = m + 1 := ⟨n - 1, by omega⟩
        rw [drop_head s pos hp]; rfl
      have HL := Lib.hid hln
      have FIN := Lib.hid (show ∀ W, Bld w.heap.size w.heap.size (acc ++ Txt.qtok (r, (s.data.toList.drop pos).take n)) W → W.heap[w1.heap.size]? = some (.stringIter s (pos + n)) → Below w.heap.size w W →
          (∃ (pos : Nat) (acc : List UInt8), Bld w.heap.size w.heap.size acc W ∧ W.heap[w1.heap.size]? = some (.stringIter s pos) ∧ Below w.heap.size w W ∧ acc ++ Txt.qtoks (Txt.toks (s.data.toList.drop pos)) = 34 :: Txt.qbody s.data.toList ∧ acc.length ≤ 4 * pos + 1 ∧ pos ≤ s.size ∧ Env W) ∧
          s.size - W.iterPos w1.heap.size < s.size - wr.iterPos w1.heap.size from fun W q1 q2 q3 => ⟨⟨pos + n, _, q1, q2, q3, by
            rw [← HA.out, htk, List.append_assoc]; rfl, by have := Txt.qtok_le hsh; simp only [List.length_append, List.length_take] at this ⊢; omega, hn2, HE.out.from HE.out (Nat.le_refl _) q3⟩, by
            simp only [World.iterPos, q2, hit]; omega⟩)
      clear hd htk hrk hln
      by_cases hbad : r = -1
      · obtain ⟨rfl, rfl⟩ : k = 65533 ∧ n = 1 := by have := HH.out; omega
        go_wp2_with fail
        refine (wrong_any s pos 65533 1 _ hE2 hs hp HD.out true (by rfl)).mono ?_
        rintro e W1 ⟨rfl, b1⟩
        have hI3 := hI2.next b1; have hit3 := heap_kept b1 (Nat.le_refl _) hit2; have hbw3 := Below.up hbw2 (by omega) b1; have hE3 := hE2.next b1
        have hsz3 := b1.size
        go_wp2_with fail
        refine (hex_any w.heap.size w.heap.size acc _ W1 hI3 (by omega) (by omega)).mono ?_
        rintro e W2 ⟨rfl, h2, b2, k2⟩
        have QF := Lib.hid (FIN.out W2 (by rw [qtok_bad _ _ (by rw [hbad]; rfl), HL.out]; exact h2) (k2.iter hit3 (by omega)) (hbw3.trans b2))
        clear h2 b2 k2
        go_wp2
        go_roundw
        case rel => exact QF.out.1
        case measure => exact QF.out.2
      · have hnw : ¬ (k = 65533 ∧ n = 1) := by have := HH.out; omega
        have hrk : r = k := by have := HH.out; omega
        have HW := Lib.hid hnw
        have HS := Lib.hid hsh
        clear hnw hbad hsh HH
        subst hrk
        by_cases h32 : k < 32
        · by_cases h10 : k = 10
          · subst h10
            go_wp2_with fail
            refine (wrong_any s pos 10 n _ hE2 hs hp HD.out false (by have := HW.out; simp <;> omega)).mono ?_
            rintro e W1 ⟨rfl, b1⟩
            have hI3 := hI2.next b1; have hit3 := heap_kept b1 (Nat.le_refl _) hit2; have hbw3 := Below.up hbw2 (by omega) b1
            have hsz3 := b1.size
            go_wp2_with fail
            refine (writeString w.heap.size w.heap.size acc _ W1 hI3 (by simp [ByteArray.size]; omega) (by omega)).mono ?_
            rintro e W2 ⟨rfl, h2, b2, k2⟩
            have QF := Lib.hid (FIN.out W2 (by rw [qtok_10]; exact h2) (k2.iter hit3 (by omega)) (hbw3.trans b2))
            clear h2 b2 k2
            go_wp2
            go_roundw
            case rel => exact QF.out.1
            case measure => exact QF.out.2
          · have n10 : ((k : Int) != 10) = true := by rw [bne_iff_ne]; omega
            go_wp2_with fail
            refine (wrong_any s pos k n _ hE2 hs hp HD.out false (by have := HW.out; simp <;> omega)).mono ?_
            rintro e W1 ⟨rfl, b1⟩
            have hI3 := hI2.next b1; have hit3 := heap_kept b1 (Nat.le_refl _) hit2; have hbw3 := Below.up hbw2 (by omega) b1
            have hsz3 := b1.size
            go_wp2_with fail
            refine (hex_any w.heap.size w.heap.size acc _ W1 hI3 (by omega) (by omega)).mono ?_
            rintro e W2 ⟨rfl, h2, b2, k2⟩
            have QF := Lib.hid (FIN.out W2 (by rw [qtok_bad _ _ (by simp [Txt.bad]; omega), HL.out]; exact h2) (k2.iter hit3 (by omega)) (hbw3.trans b2))
            clear h2 b2 k2
            go_wp2
            go_roundw
            case rel => exact QF.out.1
            case measure => exact QF.out.2
        · by_cases h127 : k = 127
          · subst h127
            go_wp2_with fail
            refine (wrong_any s pos 127 n _ hE2 hs hp HD.out false (by have := HW.out; simp <;> omega)).mono ?_
            rintro e W1 ⟨rfl, b1⟩
            have hI3 := hI2.next b1; have hit3 := heap_kept b1 (Nat.le_refl _) hit2; have hbw3 := Below.up hbw2 (by omega) b1
            have hsz3 := b1.size
            go_wp2_with fail
            refine (hex_any w.heap.size w.heap.size acc _ W1 hI3 (by omega) (by omega)).mono ?_
            rintro e W2 ⟨rfl, h2, b2, k2⟩
            have QF := Lib.hid (FIN.out W2 (by rw [qtok_bad _ _ rfl, HL.out]; exact h2) (k2.iter hit3 (by omega)) (hbw3.trans b2))
            clear h2 b2 k2
            go_wp2
            go_roundw
            case rel => exact QF.out.1
            case measure => exact QF.out.2
          · have n127 : ((k : Int) == 127) = false := by rw [beq_eq_false_iff_ne]; omega
            have n10 : ((k : Int) == 10) = false := by rw [beq_eq_false_iff_ne]; omega
            have nbad : Txt.bad (k : Int) = false := by simp [Txt.bad]; omega
            have NB := Lib.hid nbad; clear nbad
            by_cases h34 : k = 34
            · subst h34
              go_wp2_with fail
              refine (wrong_any s pos 34 n _ hE2 hs hp HD.out false (by have := HW.out; simp <;> omega)).mono ?_
              rintro e W1 ⟨rfl, b1⟩
              have hI3 := hI2.next b1; have hit3 := heap_kept b1 (Nat.le_refl _) hit2; have hbw3 := Below.up hbw2 (by omega) b1
              have hsz3 := b1.size
              go_wp2_with fail
              refine (writeByte w.heap.size w.heap.size acc 92 W1 hI3 (by omega) (by omega)).mono ?_
              rintro e W2 ⟨rfl, h2, b2, k2⟩
              have hit4 := k2.iter hit3 (by omega); have hbw4 := hbw3.trans b2; have hsz4 := b2.size
              clear k2
              go_wp2_with fail
              refine (writeByte w.heap.size w.heap.size _ 34 W2 h2 (by simp; omega) (by have := hbw4.size; omega)).mono ?_
              rintro e W3 ⟨rfl, h3, b3, k3⟩
              have QF := Lib.hid (FIN.out W3 (by rw [qtok_34]; simpa using h3) (k3.iter hit4 (by omega)) (hbw4.trans b3))
              clear h2 b2 h3 b3 k3
              go_wp2
              go_roundw
              case rel => exact QF.out.1
              case measure => exact QF.out.2
            · have n34 : ((k : Int) == 34) = false := by rw [beq_eq_false_iff_ne]; omega
              by_cases h92 : k = 92
              · subst h92
                go_wp2_with fail
                refine (wrong_any s pos 92 n _ hE2 hs hp HD.out false (by have := HW.out; simp <;> omega)).mono ?_
                rintro e W1 ⟨rfl, b1⟩
                have hI3 := hI2.next b1; have hit3 := heap_kept b1 (Nat.le_refl _) hit2; have hbw3 := Below.up hbw2 (by omega) b1
                have hsz3 := b1.size
                go_wp2_with fail
                refine (writeByte w.heap.size w.heap.size acc 92 W1 hI3 (by omega) (by omega)).mono ?_
                rintro e W2 ⟨rfl, h2, b2, k2⟩
                have hit4 := k2.iter hit3 (by omega); have hbw4 := hbw3.trans b2; have hsz4 := b2.size
                clear k2
                go_wp2_with fail
                refine (writeByte w.heap.size w.heap.size _ 92 W2 h2 (by simp; omega) (by have := hbw4.size; omega)).mono ?_
                rintro e W3 ⟨rfl, h3, b3, k3⟩
                have QF := Lib.hid (FIN.out W3 (by rw [qtok_92]; simpa using h3) (k3.iter hit4 (by omega)) (hbw4.trans b3))
                clear h2 b2 h3 b3 k3
                go_wp2
                go_roundw
                case rel => exact QF.out.1
                case measure => exact QF.out.2
              · have n92 : ((k : Int) == 92) = false := by rw [beq_eq_false_iff_ne]; omega
                go_wp2_with fail
                refine (wrong_any s pos k n _ hE2 hs hp HD.out false (by have := HW.out; simp <;> omega)).mono ?_
                rintro e W1 ⟨rfl, b1⟩
                have hI3 := hI2.next b1; have hit3 := heap_kept b1 (Nat.le_refl _) hit2; have hbw3 := Below.up hbw2 (by omega) b1
                have hsz3 := b1.size
                go_wp2_with fail
                refine (writeRune w.heap.size w.heap.size acc (k : Int) (by omega) (by omega) W1 hI3 (by omega) (by omega)).mono ?_
                rintro e W2 ⟨rfl, h2, b2, k2⟩
                have QF := Lib.hid (FIN.out W2 (by rw [qtok_else _ _ NB.out (by omega) (by omega) (by omega), show (s.data.toList.drop pos).take n = _ from (encode_of_shape HS.out (by simp)).symm]; exact h2) (k2.iter hit3 (by omega)) (hbw3.trans b2))
                clear h2 b2 k2
                go_wp2
                go_roundw
                case rel => exact QF.out.1
                case measure => exact QF.out.2
    · have hnx : ∀ ty, (Instr.next (.pointer (some ⟨w1.heap.size, 0, none⟩)) true ty).run Tryd.prog wr = _ := fun ty => Lib.run_next_end_at wr w1.heap.size s pos ty hit hp
      go_wp2_with fail
      refine (writeByte w.heap.size w.heap.size acc 34 _ hI (by omega) (by omega)).mono ?_
      rintro e w2 ⟨rfl, h2, b2, k2⟩
      go_wp2_with fail
      refine (bldString w.heap.size w.heap.size _ _ h2 (by have := b2.size; omega)).mono ?_
      rintro e w3 ⟨rfl, b3⟩
      go_wp2
      go_ret
      have hq := HA.out
      rw [List.drop_eq_nil_of_le (by rw [← Lib.size_eq]; omega), Txt.toks_nil] at hq
      simp only [Txt.qtoks, List.flatMap_nil, List.append_nil] at hq
      subst hq
      exact ⟨rfl, (hbw.trans b2).trans b3⟩
end Go.Proofs.YthnhnaaihhagaaaDoor
