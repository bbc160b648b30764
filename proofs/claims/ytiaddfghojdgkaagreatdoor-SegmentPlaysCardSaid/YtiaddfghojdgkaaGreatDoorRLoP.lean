/-
  Plain Lean, no program in sight: what the document's Load gathers, round by round, is what entF says.
-/
import Derived.Test.YtiaddfghojdgkaaGreatDoorPln
namespace Go.Proofs.YtiaddfghojdgkaaGreatDoor.Seg
open Go.Proofs.YtiaddfghojdgkaaGreatDoor (Evt.take)

theorem endOf_snoc : ∀ (ys : List Evt.Entry) (x : Evt.Entry) (p e : Int), endOf p e (ys ++ [x]) = (x.pos, x.epoch)
  | [], _, _, _ => rfl
  | y :: ys, x, p, e => by rw [List.cons_append, endOf, endOf_snoc ys x]
/-- Is a row one that goes on, as the document asks it: of all that was read, and it. -/
theorem goes_iff {ys : List Evt.Entry} {p e : Int} {s : List UInt8} (hf : Evt.follows ys p e = true) :
    goes (endOf p e ys).1 (endOf p e ys).2 s = true ↔ s.head? = some 101 ∧ (Evt.take (s.drop 1)).2.2 = 0 ∧ (Evt.take (s.drop 1)).2.1 = [] ∧ Evt.follows (ys ++ [(Evt.take (s.drop 1)).1]) p e = true := by
  rw [follows_append, follows_cons]
  simp only [goes, Bool.and_eq_true, beq_iff_eq, decide_eq_true_eq, List.isEmpty_iff]
  constructor
  · rintro ⟨⟨⟨⟨h1, h2⟩, h3⟩, h4⟩, h5⟩
    exact ⟨h1, h2, h3, hf, h4, h5, Evt.take_right _ h2, rfl⟩
  · rintro ⟨h1, h2, h3, _, h4, h5, _⟩
    exact ⟨⟨⟨⟨h1, h2⟩, h3⟩, h4⟩, h5⟩
/-- The loop's invariant: what was read, and what entF makes of the rest, is all. -/
def LoadInv (p e : Int) (rows : List (List UInt8)) (i : Nat) (ys : List Evt.Entry) : Prop :=
  Evt.follows ys p e = true ∧ ys ++ entF (endOf p e ys).1 (endOf p e ys).2 (rows.drop i) = entF p e rows
theorem loadInv_start (p e : Int) (rows : List (List UInt8)) : LoadInv p e rows 0 [] := ⟨rfl, rfl⟩
theorem loadInv_end {p e : Int} {rows : List (List UInt8)} {i : Nat} {ys : List Evt.Entry} (h : LoadInv p e rows i ys) (hi : rows.length ≤ i) : ys = entF p e rows := by
  rw [← h.2, List.drop_eq_nil_of_le hi]; simp [entF]
theorem loadInv_stop {p e : Int} {rows : List (List UInt8)} {i : Nat} {ys : List Evt.Entry} (h : LoadInv p e rows i ys) (hi : i < rows.length)
    (hs : ¬ (rows[i].head? = some 101 ∧ (Evt.take (rows[i].drop 1)).2.2 = 0 ∧ (Evt.take (rows[i].drop 1)).2.1 = [] ∧ Evt.follows (ys ++ [(Evt.take (rows[i].drop 1)).1]) p e = true)) : ys = entF p e rows := by
  rw [← h.2, List.drop_eq_getElem_cons hi, entF, if_neg (fun g => hs ((goes_iff h.1).1 g))]
  simp
theorem loadInv_go {p e : Int} {rows : List (List UInt8)} {i : Nat} {ys : List Evt.Entry} (h : LoadInv p e rows i ys) (hi : i < rows.length)
    (hs : rows[i].head? = some 101 ∧ (Evt.take (rows[i].drop 1)).2.2 = 0 ∧ (Evt.take (rows[i].drop 1)).2.1 = [] ∧ Evt.follows (ys ++ [(Evt.take (rows[i].drop 1)).1]) p e = true) : LoadInv p e rows (i + 1) (ys ++ [(Evt.take (rows[i].drop 1)).1]) := by
  refine ⟨hs.2.2.2, ?_⟩
  rw [← h.2, List.drop_eq_getElem_cons hi, entF, if_pos ((goes_iff h.1).2 hs), endOf_snoc, List.append_assoc]
  rfl
end Go.Proofs.YtiaddfghojdgkaaGreatDoor.Seg
