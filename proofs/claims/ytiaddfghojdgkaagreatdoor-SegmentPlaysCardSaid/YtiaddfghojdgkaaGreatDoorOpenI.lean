/-
  A row of numbers that is handed in.
-/
import Derived.Test.YtiaddfghojdgkaaGreatDoorOpenE
namespace Go.Proofs.YtiaddfghojdgkaaGreatDoor
open Go.RowKit Go.Shelf Go.ChangeShapes
theorem addr_zero (a : Addr) : a.add 0 = a := by cases a; simp [Addr.add]
theorem flat_one {α β : Type} (f : α → β) : ∀ l : List α, l.flatMap (fun i => [f i]) = l.map f
  | [] => rfl
  | x :: l => by rw [List.flatMap_cons, flat_one f l]; rfl
section
variable {H : Type} {enc : TypeId × Value → H} {W : World}
theorem open_introw {fuel : Nat} {v : Value} {x : DataW H × List MemPlace} (h : DataW.trod enc Tryz.prog W 0 (fun _ => true) true fuel 34 [v] = some x) : ∃ l : List Int, Cells W v 1 l.length (intCells l) ∧ ∀ n ∈ l, -9223372036854775808 ≤ n ∧ n ≤ 9223372036854775807 := by
  rcases open_ints Tryz.underlying34 Tryz.underlying3 (by kernel_rfl) h with ⟨hcs, _⟩ | ⟨a, n, c, zs, hcs, _, hl, _, hzl, _, hcell, hwf⟩
  · simp only [List.cons.injEq, and_true] at hcs
    subst hcs
    exact ⟨[], ⟨rfl, .inl ⟨rfl, _, _, rfl⟩⟩, fun n hn => by cases hn⟩
  · simp only [List.cons.injEq, and_true] at hcs
    subst hcs
    have hlz : n ≤ zs.length := by rw [hzl]; simp only [if_true]; exact hl
    have hc := cells_rows (w := W) (a := a) (len := n) (cap := c) (sz := 1) (fun i => [.int .i64 (zs.getD i 0)]) (fun i _ => rfl) (by omega) (fun i hi r hr => by
      obtain rfl : r = 0 := by omega
      rw [Nat.mul_one, addr_zero, hcell i (by omega)]; rfl)
    have e : (List.range n).flatMap (fun i => [Value.int .i64 (zs.getD i 0)]) = intCells (zs.take n) := by
      apply List.ext_getElem?
      intro j
      rw [flat_one (fun i => Value.int .i64 (zs.getD i 0))]
      by_cases hj : j < n
      · simp [intCells, List.getElem?_take_of_lt hj, hj, List.getElem?_eq_getElem (show j < zs.length by omega)]
      · rw [List.getElem?_eq_none (by simp; omega), List.getElem?_eq_none (by simp [intCells]; omega)]
    rw [e] at hc
    refine ⟨zs.take n, ?_, fun m hm => ?_⟩
    · rw [List.length_take, Nat.min_eq_left hlz]; exact hc
    · have h2 : (decide (IntKind.i64.min ≤ m) && decide (m ≤ IntKind.i64.max)) = true := hwf m (List.mem_of_mem_take hm)
      rw [Bool.and_eq_true, decide_eq_true_eq, decide_eq_true_eq] at h2
      have e1 : IntKind.i64.min = -9223372036854775808 := by decide
      have e2 : IntKind.i64.max = 9223372036854775807 := by decide
      rw [e1, e2] at h2
      exact h2
end
end Go.Proofs.YtiaddfghojdgkaaGreatDoor
