/-
  The walks of text.bare, text.Runes, text.end.
-/
import Derived.Test.YthnhnaaihhagaaaDoorName
namespace Go.Proofs.YthnhnaaihhagaaaDoor
open Go.RowKit Go.Shelf

def plainAll (ts : List (Int × List UInt8)) : Bool := ts.all fun t => Txt.plainTok t.1
theorem plainAll_cons (t : Int × List UInt8) (ts : List (Int × List UInt8)) : plainAll (t :: ts) = (Txt.plainTok t.1 && plainAll ts) := rfl

set_option maxHeartbeats 1000000 in
set_option maxRecDepth 100000 in
theorem bare_any (s : ByteArray) (w : World) (hE : Env w) (hs : s.size ≤ 1000000000000) :
    Calls Tryd.prog 42 #[.string s] w fun e w' => e = .returned (.bool (Txt.bare s.data.toList)) ∧ Below w.heap.size w w' := by
  have HN := Lib.hid (show Txt.bare s.data.toList = (!s.data.toList.isEmpty && plainAll (Txt.toks (s.data.toList.drop 0))) from rfl)
  go_enter Tryd.func42, Tryd.ntmps42
  go_wp2
  go_loopw [] (fun wr => ∃ (pos : Nat), wr.heap[w.heap.size]? = some (.stringIter s pos) ∧ Below w.heap.size w wr ∧ Txt.bare s.data.toList = (!s.data.toList.isEmpty && plainAll (Txt.toks (s.data.toList.drop pos))) ∧ Env wr) (fun wr => s.size - wr.iterPos w.heap.size)
  case atStart =>
    have hit := World.iter_heap w s 0
    exact ⟨0, by simpa using hit, (Below.refl _ _).alloc (Nat.le_refl _) _, HN.out, hE.next ((Below.refl _ _).alloc (Nat.le_refl _) _)⟩
  case round =>
    obtain ⟨pos, hit, hbw, hnm, hEr⟩ := hrel
    have HA := Lib.hid hnm; clear hnm HN
    by_cases hp : pos < s.size
    · obtain ⟨r, n, k, W2, hnx, HD, HT, hn1, hn2, HS, HH, hk0, hit2, hbw2, hE2, hsz2, _, _, _⟩ := range_step hit hbw (Nat.le_refl _) hEr hp
      by_cases hbad : r = -1
      · obtain ⟨rfl, rfl⟩ : k = 65533 ∧ n = 1 := by have := HH.out; omega
        go_wp2_with fail
        refine (wrong_any s pos 65533 1 _ hE2 hs hp HD.out true (by rfl)).mono ?_
        rintro e W1 ⟨rfl, b1⟩
        go_wp2
        go_ret
        refine ⟨ret_bool ?_, Below.up hbw2 (by omega) b1⟩
        rw [HA.out, HT.out, plainAll_cons, hbad]; simp [Txt.plainTok]
      · have HW := Lib.hid (show ¬ (k = 65533 ∧ n = 1) by have := HH.out; omega)
        have hrk : r = k := by have := HH.out; omega
        clear HH hbad
        subst hrk
        by_cases hpl : Txt.plainTok (k : Int) = true
        · have h3 : ¬ (k : Int) < 33 ∧ (k : Int) ≠ 34 ∧ (k : Int) ≠ 127 := by simp [Txt.plainTok] at hpl; omega
          obtain ⟨h33, h34, h127⟩ := h3
          have n34 : ((k : Int) == 34) = false := by rw [beq_eq_false_iff_ne]; exact h34
          have n127 : ((k : Int) == 127) = false := by rw [beq_eq_false_iff_ne]; exact h127
          clear h34 h127
          have HP := Lib.hid hpl; clear hpl
          go_wp2_with fail
          refine (wrong_any s pos k n _ hE2 hs hp HD.out false (by have := HW.out; simp <;> omega)).mono ?_
          rintro e W1 ⟨rfl, b1⟩
          have hit3 := heap_kept b1 (Nat.le_refl _) hit2; have hbw3 := Below.up hbw2 (by omega) b1; have hE3 := hE2.next b1
          have QF := Lib.hid (show Txt.bare s.data.toList = (!s.data.toList.isEmpty && plainAll (Txt.toks (s.data.toList.drop (pos + n)))) by rw [HA.out, HT.out, plainAll_cons]; simp only [HP.out, Bool.true_and])
          clear b1
          go_wp2
          refine ⟨⟨pos + n, hit3, hbw3, QF.out, hE3⟩, ?_⟩
          simp only [World.iterPos, hit3, hit]; omega
        · have hpf : Txt.plainTok (k : Int) = false := by simpa using hpl
          have QF := Lib.hid (show Txt.bare s.data.toList = false by rw [HA.out, HT.out, plainAll_cons]; simp only [hpf, Bool.false_and, Bool.and_false])
          by_cases h33 : (k : Int) < 33
          · clear hpl hpf
            go_wp2
            go_ret
            exact ⟨ret_bool QF.out.symm, hbw2⟩
          · by_cases h34 : k = 34
            · subst h34; clear hpl hpf
              go_wp2
              go_ret
              exact ⟨ret_bool QF.out.symm, hbw2⟩
            · obtain rfl : k = 127 := by simp [Txt.plainTok] at hpf; omega
              clear hpl hpf
              go_wp2
              go_ret
              exact ⟨ret_bool QF.out.symm, hbw2⟩
    · have hnx := range_end hit hp
      have hq := HA.out
      rw [toks_end s pos hp] at hq
      have HQ := Lib.hid hq; clear hq
      go_wp2
      all_goals
        go_ret
        refine ⟨ret_bool ?_, hbw⟩
        rw [HQ.out]; simp [plainAll, Lib.toList_data]
end Go.Proofs.YthnhnaaihhagaaaDoor
