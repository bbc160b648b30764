/-
  The walks of the law package 11's begun, plain, pick, row, sameInts, sameMarks.
-/
import Derived.Test.YtgddgipjpdjoaaaGreatDoorAt
import Derived.Test.YtgddgipjpdjoaaaGreatDoorManP
import Derived.Test.YtgddgipjpdjoaaaGreatDoorLogPl
namespace Go.Proofs.YtgddgipjpdjoaaaGreatDoor
open Go.RowKit Go.Shelf
def markCells (ms : List (Int × Int)) : List Value := ms.flatMap fun m => [.int .i64 m.1, .int .i64 m.2]
theorem markCells_at : ∀ (ms : List (Int × Int)) (i : Nat) (hi : i < ms.length), (markCells ms)[i * 2]? = some (.int .i64 ms[i].1) ∧ (markCells ms)[i * 2 + 1]? = some (.int .i64 ms[i].2)
 | m :: ms, 0, _ => ⟨rfl, rfl⟩
 | m :: ms, i + 1, hi => by
   have := markCells_at ms i (by simpa using hi)
   have e : ∀ k, (markCells (m :: ms))[(i + 1) * 2 + k]? = (markCells ms)[i * 2 + k]? := fun k => by
     rw [show markCells (m :: ms) = .int .i64 m.1 :: .int .i64 m.2 :: markCells ms from rfl, show (i + 1) * 2 + k = (i * 2 + k) + 1 + 1 by omega]
     simp only [List.getElem?_cons_succ]
   have e0 := e 0
   simp only [Nat.add_zero] at e0
   simp only [e, e0, List.getElem_cons_succ]
   exact this
def KB (g : Nat) (w : World) : Prop := w.heap[g]? = some (.cells #[.string ⟨#[107]⟩, .string ⟨#[]⟩] 149 (0, 0))
theorem KB.evs {g : Nat} {w : World} (h : KB g w) : Evs w (.slice (some ⟨g, 0, none⟩) 1 1) [⟨[107], []⟩] := by
 refine ⟨rfl, .inr ⟨g, 0, 1, rfl, fun j u hj => ?_⟩⟩
 rw [Lib.cell_of_heap h]
 match j with
 | 0 => simpa [evCells] using hj
 | 1 => simpa [evCells] using hj
 | j + 2 => simp [evCells] at hj
end Go.Proofs.YtgddgipjpdjoaaaGreatDoor
