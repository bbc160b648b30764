/-
  The walks of text.named, text.Name.
-/
import Derived.Test.YthmblkckpdpjkaaGreatDoorEnv
namespace Go.Proofs.YthmblkckpdpjkaaGreatDoor
open Go.RowKit Go.Shelf

theorem ret_bool {a b : Bool} (h : a = b) : Ending.returned (.bool a) = .returned (.bool b) := by rw [h]
theorem beq_of {a b : Bool} (h : a = true ↔ b = true) : a = b := by cases a <;> cases b <;> simp_all

set_option maxHeartbeats 1000000 in
theorem named_any (r : Int) (w : World) (b : Bool) (hb : Txt.named r = b) : Calls Tryz.prog 79 #[.int .i32 r] w fun e w' => e = .returned (.bool b) ∧ w = w' := by
  subst hb
  go_enter Tryz.func79, Tryz.ntmps79
  go_wp2
  all_goals (go_ret; refine ⟨ret_bool ?_, rfl⟩; first | rfl | (refine beq_of ?_; simp only [Txt.named, Bool.or_eq_true, decide_eq_true_eq, beq_iff_eq, true_iff]; omega))

def allNamed (ts : List (Int × List UInt8)) : Bool := ts.all fun t => Txt.named t.1
/-- A name, from a place on: m tokens ahead of it, all of them of names. -/
def nameFrom (m : Nat) (ts : List (Int × List UInt8)) : Bool := decide (1 ≤ m + ts.length) && decide (m + ts.length ≤ 32) && allNamed ts
theorem nameFrom_more (m : Nat) (t : Int × List UInt8) (ts : List (Int × List UInt8)) (h : 32 ≤ m) : nameFrom m (t :: ts) = false := by
  simp [nameFrom]; omega
theorem nameFrom_not (m : Nat) (t : Int × List UInt8) (ts : List (Int × List UInt8)) (h : Txt.named t.1 = false) : nameFrom m (t :: ts) = false := by
  simp [nameFrom, allNamed, h]
theorem nameFrom_next (m : Nat) (t : Int × List UInt8) (ts : List (Int × List UInt8)) (h : Txt.named t.1 = true) : nameFrom m (t :: ts) = nameFrom (m + 1) ts := by
  have e : m + (t :: ts).length = m + 1 + ts.length := by simp only [List.length_cons]; omega
  simp only [nameFrom, allNamed, List.all_cons, h, Bool.true_and, e]

set_option maxHeartbeats 1000000 in
set_option maxRecDepth 100000 in
theorem name_any (s : ByteArray) (w : World) (hE : Env w) (hs : s.size ≤ 1000000000000) :
    Calls Tryz.prog 45 #[.string s] w fun e w' => e = .returned (.bool (Txt.name s.data.toList)) ∧ Below w.heap.size w w' := by
  have hN : Txt.name s.data.toList = nameFrom 0 (Txt.toks (s.data.toList.drop 0)) := by simp [Txt.name, nameFrom, allNamed]
  have HN := Lib.hid hN; clear hN
  go_enter Tryz.func45, Tryz.ntmps45
  go_wp2
  go_loopw [3] (fun v wr => ∃ (pos m : Nat), v = .int .i64 m ∧ m ≤ 32 ∧ wr.heap[w.heap.size]? = some (.stringIter s pos) ∧ Below w.heap.size w wr ∧ Txt.name s.data.toList = nameFrom m (Txt.toks (s.data.toList.drop pos)) ∧ Env wr) (fun _ wr => s.size - wr.iterPos w.heap.size)
  case atStart =>
    have hit := World.iter_heap w s 0
    exact ⟨0, 0, rfl, by omega, by simpa using hit, (Below.refl _ _).alloc (Nat.le_refl _) _, HN.out, hE.next ((Below.refl _ _).alloc (Nat.le_refl _) _)⟩
  case round =>
    obtain ⟨pos, m, rfl, hm, hit, hbw, hnm, hEr⟩ := hrel
    have HA := Lib.hid hnm; clear hnm HN
    have hsz : w.heap.size < wr.heap.size := (Array.getElem?_eq_some_iff.1 hit).1
    by_cases hp : pos < s.size
    · obtain ⟨r, n, k, hd, htk, hn1, hn2, hsh, hrk⟩ := next_tok s pos hp
      have hnx : ∀ ty, (Instr.next (.pointer (some ⟨w.heap.size, 0, none⟩)) true ty).run Tryz.prog wr = _ := fun ty => Lib.run_next_any_at wr w.heap.size s pos ty hit hp
      rw [hd] at hnx
      simp only at hnx
      have hit2 := Lib.iterAt_heap wr w.heap.size s pos (pos + n) hit
      have hbw2 := Lib.below_iterAt hbw (k := w.heap.size) (by omega) s (pos + n)
      have hE2 := hEr.iterAt hit (pos + n)
      have hsz2 : w.heap.size < (wr.iterAt w.heap.size s (pos + n)).heap.size := by rw [Lib.iterAt_size]; omega
      have HD := Lib.hid hd; have HT := Lib.hid htk; have HH := Lib.hid hrk
      clear hd htk hrk hsh
      by_cases h32 : m = 32
      · subst h32
        go_wp2
        go_ret
        exact ⟨ret_bool (by rw [HA.out, HT.out, nameFrom_more _ _ _ (by omega)]), hbw2⟩
      · by_cases hnk : Txt.named (k : Int) = true
        · have HNK := Lib.hid hnk; clear hnk
          go_wp2_with fail
          refine (named_any _ _ true HNK.out).mono ?_
          rintro e W0 ⟨rfl, rfl⟩
          by_cases hbad : r = -1
          · obtain ⟨rfl, rfl⟩ : k = 65533 ∧ n = 1 := by have := HH.out; omega
            go_wp2_with fail
            refine (wrong_any s pos 65533 1 _ hE2 hs hp HD.out true (by rfl)).mono ?_
            rintro e W1 ⟨rfl, b1⟩
            go_wp2
            go_ret
            exact ⟨ret_bool (by rw [HA.out, HT.out, nameFrom_not _ _ _ (by rw [hbad]; rfl)]), Below.up hbw2 (by omega) b1⟩
          · have HW := Lib.hid (show ¬ (k = 65533 ∧ n = 1) by have := HH.out; omega)
            have hrk : r = k := by have := HH.out; omega
            clear HH hbad
            subst hrk
            go_wp2_with fail
            refine (wrong_any s pos k n _ hE2 hs hp HD.out false (by have := HW.out; simp <;> omega)).mono ?_
            rintro e W1 ⟨rfl, b1⟩
            have hit3 := heap_kept b1 (Nat.le_refl _) hit2; have hbw3 := Below.up hbw2 (by omega) b1; have hE3 := hE2.next b1
            have QF := Lib.hid (show Txt.name s.data.toList = nameFrom (m + 1) (Txt.toks (s.data.toList.drop (pos + n))) by rw [HA.out, HT.out, nameFrom_next _ _ _ HNK.out])
            clear b1
            go_wp2
            go_roundw
            case rel => exact ⟨pos + n, m + 1, by go_num, by omega, hit3, hbw3, QF.out, hE3⟩
            case measure => simp only [World.iterPos, hit3, hit]; omega
        · have HNK := Lib.hid (show Txt.named (k : Int) = false by simpa using hnk); clear hnk
          go_wp2_with fail
          refine (named_any _ _ false HNK.out).mono ?_
          rintro e W0 ⟨rfl, rfl⟩
          go_wp2
          go_ret
          refine ⟨ret_bool ?_, hbw2⟩
          rw [HA.out, HT.out]
          rcases HH.out with ⟨h1, h2, _⟩ | ⟨_, h2, _⟩
          · rw [nameFrom_not _ _ _ (by rw [h1]; rfl)]
          · rw [nameFrom_not _ _ _ (by rw [h2]; exact HNK.out)]
    · have hnx : ∀ ty, (Instr.next (.pointer (some ⟨w.heap.size, 0, none⟩)) true ty).run Tryz.prog wr = _ := fun ty => Lib.run_next_end_at wr w.heap.size s pos ty hit hp
      go_wp2
      go_ret
      have hq := HA.out
      rw [List.drop_eq_nil_of_le (by rw [← Lib.size_eq]; omega), Txt.toks_nil] at hq
      refine ⟨ret_bool (beq_of ?_), hbw⟩
      rw [hq]; simp [nameFrom, allNamed]; omega
end Go.Proofs.YthmblkckpdpjkaaGreatDoor
