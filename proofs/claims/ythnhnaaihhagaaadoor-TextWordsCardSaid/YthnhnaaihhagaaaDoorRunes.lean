/-
  The walks of text.Runes and of the reference's Runes: the numbers of a text's tokens.
-/
import Derived.Test.YthnhnaaihhagaaaDoorName
import Derived.Test.YthnhnaaihhagaaaDoorSize
namespace Go.Proofs.YthnhnaaihhagaaaDoor
open Go.RowKit Go.Shelf

theorem int_info : (Tryd.prog.info? 3).map (fun i => (i.zero, i.size, i.bytes)) = some (some (.int .i64 0), 1, 8) := by kernel_rfl
def nums (ts : List (Int × List UInt8)) : List Int := ts.map (·.1)
theorem nums_cons (t : Int × List UInt8) (ts : List (Int × List UInt8)) : nums (t :: ts) = t.1 :: nums ts := rfl
theorem nums_len (ts : List (Int × List UInt8)) : (nums ts).length = ts.length := by simp [nums]
theorem intCells_snoc (l : List Int) (r : Int) : intCells (l ++ [r]) = intCells l ++ [.int .i64 r] := by simp [intCells]

set_option maxHeartbeats 1000000 in
set_option maxRecDepth 100000 in
theorem runes_any (s : ByteArray) (w : World) (hE : Env w) (hs : s.size ≤ 1000000000000) :
    Calls Tryd.prog 16 #[.string s] w fun e w' => ∃ v, e = .returned v ∧ w'.ownsRow w.heap.size 3 1 v (Txt.runes s.data.toList).length (intCells (Txt.runes s.data.toList)) ∧ Below w.heap.size w w' := by
  obtain ⟨i0, hi, hz0, hz1, hz2⟩ := info_parts int_info
  have HN := Lib.hid (show Txt.runes s.data.toList = nums (Txt.toks (s.data.toList.drop 0)) from rfl)
  go_enter Tryd.func16, Tryd.ntmps16
  go_wp2
  go_loopw [3] (fun v wr => ∃ (pos : Nat) (acc : List Int), wr.ownsRow w.heap.size 3 1 v acc.length (intCells acc) ∧ wr.heap[w.heap.size]? = some (.stringIter s pos) ∧ Below w.heap.size w wr ∧ acc ++ nums (Txt.toks (s.data.toList.drop pos)) = Txt.runes s.data.toList ∧ acc.length ≤ pos ∧ pos ≤ s.size ∧ Env wr) (fun _ wr => s.size - wr.iterPos w.heap.size)
  case atStart =>
    have hit := World.iter_heap w s 0
    exact ⟨0, [], World.ownsRow_nil _ _ _ _, by simpa using hit, (Below.refl _ _).alloc (Nat.le_refl _) _, HN.out.symm, by simp, by omega, hE.next ((Below.refl _ _).alloc (Nat.le_refl _) _)⟩
  case round =>
    obtain ⟨pos, acc, hown, hit, hbw, hacc, hal, hps, hEr⟩ := hrel
    have HA := Lib.hid hacc; clear hacc HN
    by_cases hp : pos < s.size
    · obtain ⟨r, n, k, W2, hnx, HD, HT, hn1, hn2, HS, HH, hk0, hit2, hbw2, hE2, hsz2, _, _, HO⟩ := range_step hit hbw (Nat.le_refl _) hEr hp
      have hown2 := HO.out _ _ _ _ _ _ hown
      clear hown HO
      have hw : ∃ bw : Bool, bw = (decide (k = 65533) && decide (n = 1)) ∧ (bw = true → r = -1) ∧ (bw = false → r = k) := by
        rcases HH.out with ⟨h1, h2, h3⟩ | ⟨h1, h2, h3⟩
        · exact ⟨true, (by simp [h2, h3]), (fun _ => h1), (fun h => by cases h)⟩
        · exact ⟨false, (by simp; omega), (fun h => by cases h), (fun _ => h2)⟩
      obtain ⟨bw, hb1, hb2, hb3⟩ := hw
      have HB2 := Lib.hid hb2; have HB3 := Lib.hid hb3
      clear hb2 hb3 HH
      go_wp2_with fail
      refine (wrong_any s pos k n _ hE2 hs hp HD.out bw hb1).mono ?_
      rintro e W1 ⟨rfl, b1⟩
      have hit3 := heap_kept b1 (Nat.le_refl _) hit2; have hbw3 := Below.up hbw2 (by omega) b1; have hE3 := hE2.next b1
      have hown3 := owns_next hown2 b1
      have hsz3 := b1.size
      clear hb1 b1 hown2
      cases bw
      · have hr := HB3.out rfl
        clear HB2 HB3
        go_wp2_with (at_builtin; refine wpList_append_own _ rfl _ _ 29 rfl w.heap.size 3 i0 (.int .i64 0) 1 8 Tryd.underlying29 hi hz0 hz1 hz2 rfl (by decide) _ _ _ rfl (hown3.alloc _) ⟨W1.heap.size, 0, none⟩ 1 1 [.int .i64 (k : Int)] rfl rfl ?c1 ?c2 ?c3 ?c4 ?c5 ?_)
        case c1 => exact cell_one_new _ _ _
        case c2 => intro u hu; simp at hu; subst hu; rfl
        case c3 => unfold maxLen; omega
        case c4 => omega
        case c5 => simp; omega
        intro v' w2 hown' hgrow _
        obtain ⟨q1, q2, q3, q4⟩ := append_keeps hown3 hgrow hbw3 hE
        have q5 := q4 _ _ _ hit3
        have QF := Lib.hid (show w2.ownsRow w.heap.size 3 1 v' (acc ++ [r]).length (intCells (acc ++ [r])) ∧ (acc ++ [r]) ++ nums (Txt.toks (s.data.toList.drop (pos + n))) = Txt.runes s.data.toList by
          refine ⟨?_, ?_⟩
          · rw [intCells_snoc, hr]; simpa using hown'
          · rw [← HA.out, HT.out, nums_cons]; simp)
        clear hown' hgrow q4
        go_wp2
        go_roundw
        case rel => exact ⟨pos + n, acc ++ [r], QF.out.1, q5, q1, QF.out.2, by simp; omega, hn2, q2⟩
        case measure => simp only [World.iterPos, q5, hit]; omega
      · have hr := HB2.out rfl
        clear HB2 HB3
        go_wp2_with (at_builtin; refine wpList_append_own _ rfl _ _ 29 rfl w.heap.size 3 i0 (.int .i64 0) 1 8 Tryd.underlying29 hi hz0 hz1 hz2 rfl (by decide) _ _ _ rfl (hown3.alloc _) ⟨W1.heap.size, 0, none⟩ 1 1 [.int .i64 (-1)] rfl rfl ?c1 ?c2 ?c3 ?c4 ?c5 ?_)
        case c1 => exact cell_one_new _ _ _
        case c2 => intro u hu; simp at hu; subst hu; rfl
        case c3 => unfold maxLen; omega
        case c4 => omega
        case c5 => simp; omega
        intro v' w2 hown' hgrow _
        obtain ⟨q1, q2, q3, q4⟩ := append_keeps hown3 hgrow hbw3 hE
        have q5 := q4 _ _ _ hit3
        have QF := Lib.hid (show w2.ownsRow w.heap.size 3 1 v' (acc ++ [r]).length (intCells (acc ++ [r])) ∧ (acc ++ [r]) ++ nums (Txt.toks (s.data.toList.drop (pos + n))) = Txt.runes s.data.toList by
          refine ⟨?_, ?_⟩
          · rw [intCells_snoc, hr]; simpa using hown'
          · rw [← HA.out, HT.out, nums_cons]; simp)
        clear hown' hgrow q4
        go_wp2
        go_roundw
        case rel => exact ⟨pos + n, acc ++ [r], QF.out.1, q5, q1, QF.out.2, by simp; omega, hn2, q2⟩
        case measure => simp only [World.iterPos, q5, hit]; omega
    · have hnx := range_end hit hp
      have hq := HA.out
      rw [toks_end s pos hp] at hq
      have HQ := Lib.hid hq; clear hq
      go_wp2
      go_ret
      refine ⟨_, rfl, ?_, hbw⟩
      rw [← HQ.out]; simpa [nums] using hown

/-- The first token from a place on. -/
theorem extract_drop (s : ByteArray) (pos : Nat) : (s.extract pos s.size).data.toList = s.data.toList.drop pos := Lib.extract_to_end s pos
theorem extract_size (s : ByteArray) (pos : Nat) (_h : pos ≤ s.size) : (s.extract pos s.size).size = s.size - pos := by simp [ByteArray.size_extract]
/-- The tokens from a place on, by the first one. -/
theorem toks_at (s : ByteArray) (pos : Nat) (h : pos < s.size) : ∃ (r : Int) (n : Nat), Txt.tok (s.data.toList.drop pos) = (r, n) ∧ Txt.toks (s.data.toList.drop pos) = (r, (s.data.toList.drop pos).take n) :: Txt.toks (s.data.toList.drop (pos + n)) ∧
    1 ≤ n ∧ pos + n ≤ s.size ∧ Txt.Shape (r, (s.data.toList.drop pos).take n) := by
  obtain ⟨b, t, e⟩ := drop_cons s pos h
  have hw := Txt.tok_width b t
  have hs := Txt.tok_shape b t
  have hl : (b :: t).length = s.size - pos := by rw [← e, List.length_drop, Array.length_toList]; rfl
  have hc := Txt.toks_cons b t
  rw [← e] at hw hs hc hl
  generalize Txt.tok (s.data.toList.drop pos) = d at *
  obtain ⟨r, n⟩ := d
  simp only at hw
  refine ⟨r, n, rfl, ?_, hw.1, by omega, hs⟩
  rw [hc, List.drop_drop]

set_option maxHeartbeats 1000000 in
set_option maxRecDepth 100000 in
theorem refRunes_any (s : ByteArray) (w : World) (hs : s.size ≤ 1000000000000) :
    Calls Tryd.prog 24 #[.string s] w fun e w' => ∃ v, e = .returned v ∧ w'.ownsRow w.heap.size 3 1 v (Txt.runes s.data.toList).length (intCells (Txt.runes s.data.toList)) ∧ Below w.heap.size w w' := by
  obtain ⟨i0, hi, hz0, hz1, hz2⟩ := info_parts int_info
  have HN := Lib.hid (show Txt.runes s.data.toList = nums (Txt.toks (s.data.toList.drop 0)) from rfl)
  go_enter Tryd.func24, Tryd.ntmps24
  go_wp2
  go_loopw [3, 4] (fun v i wr => ∃ (pos : Nat) (acc : List Int), i = .int .i64 pos ∧ wr.ownsRow w.heap.size 3 1 v acc.length (intCells acc) ∧ Below w.heap.size w wr ∧ acc ++ nums (Txt.toks (s.data.toList.drop pos)) = Txt.runes s.data.toList ∧ acc.length ≤ pos ∧ pos ≤ s.size) (fun _ i _ => s.size - (intOf i).toNat)
  case atStart =>
    exact ⟨0, [], rfl, World.ownsRow_nil _ _ _ _, Below.refl _ _, HN.out.symm, by simp, by omega⟩
  case round =>
    obtain ⟨pos, acc, rfl, hown, hbw, hacc, hal, hps⟩ := hrel
    have HA := Lib.hid hacc; clear hacc HN
    by_cases hp : pos < s.size
    · obtain ⟨r, n, ht, htk, hn1, hn2, hsh⟩ := toks_at s pos hp
      have HT := Lib.hid htk; have HK := Lib.hid ht
      clear htk ht hsh
      go_wp2_with fail
      refine (size_any (s.extract pos s.size) _ (by rw [extract_size s pos hps]; omega) (by rw [extract_size s pos hps]; omega)).mono ?_
      rintro e W1 ⟨rfl, rfl⟩
      rw [extract_drop, HK.out]
      have hbs := hbw.size
      go_wp2_with (at_builtin; refine wpList_append_own _ rfl _ _ 29 rfl w.heap.size 3 i0 (.int .i64 0) 1 8 Tryd.underlying29 hi hz0 hz1 hz2 rfl (by decide) _ _ _ rfl (hown.alloc _) ⟨wr.heap.size, 0, none⟩ 1 1 [.int .i64 r] rfl rfl ?c1 ?c2 ?c3 ?c4 ?c5 ?_)
      case c1 => exact cell_one_new _ _ _
      case c2 => intro u hu; simp at hu; subst hu; rfl
      case c3 => unfold maxLen; omega
      case c4 => omega
      case c5 => simp; omega
      intro v' w2 hown' hgrow _
      have q1 : Below w.heap.size w w2 := (hbw.alloc hbs _).grown hgrow (by simp; omega) (fun k hk => (hown.lt k hk).1)
      have QF := Lib.hid (show w2.ownsRow w.heap.size 3 1 v' (acc ++ [r]).length (intCells (acc ++ [r])) ∧ (acc ++ [r]) ++ nums (Txt.toks (s.data.toList.drop (pos + n))) = Txt.runes s.data.toList by
        refine ⟨?_, ?_⟩
        · rw [intCells_snoc]; simpa using hown'
        · rw [← HA.out, HT.out, nums_cons]; simp)
      clear hown' hgrow
      go_wp2
      go_roundw
      case rel => exact ⟨pos + n, acc ++ [r], by go_num, QF.out.1, q1, QF.out.2, by simp; omega, hn2⟩
      case measure => simp [intOf]; omega
    · have hq := HA.out
      rw [toks_end s pos hp] at hq
      have HQ := Lib.hid hq; clear hq
      go_wp2
      go_ret
      refine ⟨_, rfl, ?_, hbw⟩
      rw [← HQ.out]; simpa [nums] using hown
end Go.Proofs.YthnhnaaihhagaaaDoor
