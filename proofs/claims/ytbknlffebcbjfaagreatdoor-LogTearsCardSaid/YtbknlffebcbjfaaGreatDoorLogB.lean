/-
  Plain Lean, no program in sight: a log under the acts of the law LogKeeps.
-/
import Derived.Test.YtbknlffebcbjfaaGreatDoorLawLTr
namespace Go.Proofs.YtbknlffebcbjfaaGreatDoor
open Go.RowKit Go.Shelf
namespace Lg
/-- A log behind so many acts. -/
structure Kept (i : Nat) (next : Int) (nums : List Int) (L : List Evt.Entry) (fs : List Dk.File) : Prop where
  holds : Holds fs next nums L
  len : L.length ≤ 12 * i
  eps : ∀ e ∈ L, e.epoch ≤ (i : Int)
  nxt : next ≤ 1 + 12 * (i : Int)
theorem kept_start : Kept 0 1 [] [] [] := ⟨held_nil, by simp, fun e he => (by cases he), by omega⟩
variable {i : Nat} {next : Int} {nums : List Int} {L : List Evt.Entry} {fs : List Dk.File}
theorem Kept.idle (h : Kept i next nums L fs) : Kept (i + 1) next nums L fs :=
  ⟨h.holds, by have := h.len; omega, fun e he => by have := h.eps e he; omega, by have := h.nxt; omega⟩
theorem Kept.app (room : Int) {n : Nat} (h : Kept i next nums L fs) (hi : i < 30) (hn : n < 12) : ∃ f2 next2 nums2 j c, appendF room (rowL L.length (1 + (i : Int)) n) (stateOf next nums L) fs = ((f2, stateOf next2 nums2 (L ++ (rowL L.length (1 + (i : Int)) n).take j)), c) ∧
    Kept (i + 1) next2 nums2 (L ++ (rowL L.length (1 + (i : Int)) n).take j) f2 ∧ j ≤ n ∧ (c = 0 ∧ j = n ∨ c = 8 ∨ c = 4) := by
  have hl := h.len
  have hx := h.nxt
  have hfo := row_on (ep := 1 + (i : Int)) (n := n) h.holds.fol (fun e he => by have := h.eps e he; omega) (by omega) (by omega) (by omega)
  have hr := rowL_len L.length (1 + (i : Int)) n
  obtain ⟨f2, next2, nums2, j, c, q1, q2, q3, q4, q5⟩ := h.holds.append_any room _ hfo (by rw [hr]; omega)
  rw [hr] at q3 q4 q5
  refine ⟨f2, next2, nums2, j, c, q1, ⟨q2, ?_, fun e he => ?_, by omega⟩, q3, q4⟩
  · rw [List.length_append, List.length_take, hr]; omega
  · rcases List.mem_append.1 he with he | he
    · have := h.eps e he; omega
    · have := rowL_epoch e (List.mem_of_mem_take he); omega
theorem Kept.cut (room : Int) (h : Kept i next nums L fs) (t : Nat) (ht : t ≤ L.length) : ∃ f nums2 m c, truncF room (t : Int) (stateOf next nums L) fs = ((f, stateOf next nums2 (L.take m)), c) ∧ Kept (i + 1) next nums2 (L.take m) f ∧ m ≤ L.length ∧ (c = 0 ∧ m = t ∨ c = 8) := by
  obtain ⟨f, nums2, t', c, q1, q2, q3⟩ := h.holds.trunc_any room t
  have he : L.take t' = L.take (min t' L.length) := by
    by_cases hx : t' ≤ L.length
    · rw [Nat.min_eq_left hx]
    · rw [Nat.min_eq_right (by omega), List.take_of_length_le (by omega), List.take_length]
  rw [he] at q1 q2
  refine ⟨f, nums2, min t' L.length, c, q1, ⟨q2, ?_, fun e he => ?_, ?_⟩, by omega, by omega⟩
  · have := h.len; rw [List.length_take]; omega
  · have := h.eps e (List.mem_of_mem_take he); omega
  · have := h.nxt; omega
theorem range_all {L : List Evt.Entry} {m : Int} (h : (L.length : Int) ≤ m) : rangeL 1 m L = L := by
  have := range_second (a := []) (b := L) (m := m) h
  simpa using this
end Lg
end Go.Proofs.YtbknlffebcbjfaaGreatDoor
