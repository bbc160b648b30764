/-
  What was appended one by one, appended at once: the same files.
-/
import Derived.Test.YtbknlffebcbjfaaGreatDoorLawLRa
namespace Go.Proofs.YtbknlffebcbjfaaGreatDoor
open Go.RowKit Go.Shelf
theorem Lg.OneByOne.again {n : Nat} {ep next : Int} {nums : List Int} {L : List Evt.Entry} {fs : List Dk.File} (h : Lg.OneByOne n ep next nums L fs) (hn : n ≤ 60) : Lg.appendF 1048576 L (Lg.stateOf 1 [] []) [] = ((fs, Lg.stateOf next nums L), 0) := by
  have hl := h.len
  have hb := h.plains.bytes
  obtain ⟨f2, next2, nums2, q1, q2, q3, q4⟩ := Lg.held_nil.append (room := 1048576) L (by rw [List.nil_append]; exact h.holds.fol) (by rw [List.nil_append]; omega) (by omega) (by rw [List.nil_append]; omega)
  rw [List.nil_append] at q1 q2 q4
  have hg := Lg.appendF_grown q1
  by_cases h0 : L = []
  · subst h0
    have hf := h.empty rfl
    subst hf
    have hm := h.many
    simp only [List.length_nil] at hl q4
    obtain ⟨e1, e2⟩ := h.grown.len hg (by omega)
    subst e1 e2
    rw [q1]
    have : f2 = [] := by
      have e := congrArg (fun x => x.1.1) q1
      simp [Lg.appendF] at e
      exact e.symm
    rw [this]
  · have l1 := h.holds.low
    have l2 := q2.low
    have l3 := h.holds.high
    simp only [List.length_nil] at q4
    have l4 := q2.high
    have hm := h.many
    obtain ⟨e1, e2⟩ := h.grown.len hg (by omega)
    subst e1 e2
    have hnn : nums ≠ [] := fun e => h0 (h.holds.lo e)
    have hf := h.holds.same q2 hnn
    subst hf
    exact q1
end Go.Proofs.YtbknlffebcbjfaaGreatDoor
