/-
  Plain Lean, no program in sight: the marks of a row of entries (layer 6): where each epoch begins.
-/
import Derived.Test.YtbknlffebcbjfaaGreatDoorLogA
namespace Go.Proofs.YtbknlffebcbjfaaGreatDoor.Mk

/-- The marks of a row behind an entry of an epoch; of one at the start: none. -/
def marksF : Option Int → List Evt.Entry → List (Int × Int)
  | _, [] => []
  | p, e :: l => (if p = some e.epoch then [] else [(e.epoch, e.pos)]) ++ marksF (some e.epoch) l
def marks (l : List Evt.Entry) : List (Int × Int) := marksF none l
/-- The epoch that marks tell of a place. -/
def told (q : Int) (n : Int) (ms : List (Int × Int)) : Int := ms.foldl (fun n m => if m.2 ≤ q then m.1 else n) n
theorem told_append (q n : Int) (a b : List (Int × Int)) : told q n (a ++ b) = told q (told q n a) b := by unfold told; rw [List.foldl_append]
theorem told_before : ∀ (l : List Evt.Entry) (pos x n q : Int) (p : Option Int), Evt.follows l pos x = true → q ≤ pos → told q n (marksF p l) = n
  | [], _, _, _, _, _, _, _ => rfl
  | e :: l, pos, x, n, q, p, hf, hq => by
    obtain ⟨h1, h2, h3, h4⟩ := Seg.follows_cons.1 hf
    rw [marksF, told_append, told_before l e.pos e.epoch _ q _ h4 (by omega)]
    split
    · rfl
    · simp only [told, List.foldl_cons, List.foldl_nil]
      rw [if_neg (by omega)]
theorem told_at : ∀ (l : List Evt.Entry) (pos x n q : Int) (p : Option Int), Evt.follows l pos x = true → (∀ y, p = some y → n = y) → pos < q → q ≤ pos + l.length → (l[(q - pos - 1).toNat]?).map (·.epoch) = some (told q n (marksF p l))
  | [], pos, _, _, q, _, _, _, h1, h2 => by simp only [List.length_nil] at h2; omega
  | e :: l, pos, x, n, q, p, hf, hp, hq, hl => by
    obtain ⟨h1, h2, h3, h4⟩ := Seg.follows_cons.1 hf
    have hn : told q n (if p = some e.epoch then [] else [(e.epoch, e.pos)]) = e.epoch := by
      split
      · rename_i h
        exact hp _ h
      · simp only [told, List.foldl_cons, List.foldl_nil]
        rw [if_pos (by omega)]
    rw [marksF, told_append, hn]
    by_cases hq1 : q ≤ e.pos
    · rw [told_before l e.pos e.epoch _ q _ h4 hq1, show (q - pos - 1).toNat = 0 by omega]
      rfl
    · have ih := told_at l e.pos e.epoch e.epoch q (some e.epoch) h4 (fun y hy => by cases hy; rfl) (by omega) (by rw [List.length_cons] at hl; omega)
      rw [← ih, show (q - pos - 1).toNat = (q - e.pos - 1).toNat + 1 by omega, List.getElem?_cons_succ]
/-- Marks tell each place's epoch. -/
theorem marks_tell {l : List Evt.Entry} (hf : Evt.follows l 0 0 = true) {q : Int} (h1 : 1 ≤ q) (h2 : q ≤ l.length) : (l[(q - 1).toNat]?).map (·.epoch) = some (told q 0 (marks l)) := by
  have := told_at l 0 0 0 q none hf (fun y hy => by cases hy) (by omega) (by omega)
  rwa [show q - 0 - 1 = q - 1 by omega] at this
theorem marks_len : ∀ (l : List Evt.Entry) (p : Option Int), (marksF p l).length ≤ l.length
  | [], _ => Nat.le_refl _
  | e :: l, p => by
    have := marks_len l (some e.epoch)
    rw [marksF, List.length_append, List.length_cons]
    split <;> simp only [List.length_nil, List.length_cons] <;> omega
end Go.Proofs.YtbknlffebcbjfaaGreatDoor.Mk
