/-
  The walk of the law package's shown: the chapter's examples hold.
-/
import Derived.Test.YthnhnaaihhagaaaDoorWords
import Derived.Test.YthnhnaaihhagaaaDoorSame
namespace Go.Proofs.YthnhnaaihhagaaaDoor
open Go.RowKit Go.Shelf

theorem words_one : Txt.words [97, 32, 34, 98, 32, 99, 34, 32, 32, 100] = some [[97], [98, 32, 99], [100]] := by decide
theorem words_two : Txt.words [97, 34, 98] = none := by decide
theorem quote_one : Txt.quote [97, 34, 92, 10, 255] = [34, 97, 92, 34, 92, 92, 92, 110, 92, 120, 102, 102, 34] := by decide

theorem cells_new (w : World) (xs : List Value) (t : TypeId) (n : Nat) (h : xs.length = n) : Cells (w.alloc (.cells xs.toArray t)) (.slice (some ⟨w.heap.size, 0, none⟩) n n) 1 n xs := by
  refine ⟨by omega, .inr ⟨_, _, _, rfl, fun j u hj => ?_⟩⟩
  have : (w.alloc (.cells xs.toArray t)).heap[w.heap.size]? = some (.cells xs.toArray t) := Array.getElem?_push_size
  simp only [World.cell?, this, Nat.zero_add]
  simpa using hj

set_option maxHeartbeats 2000000 in
set_option maxRecDepth 100000 in
theorem shown_any (w : World) (hE : Env w) :
    Calls Tryd.prog 11 #[] w fun e w' => e = .returned (.bool true) ∧ Below w.heap.size w w' := by
  have H1 := Lib.hid (fun w hE => words_any ⟨#[97, 32, 34, 98, 32, 99, 34, 32, 32, 100]⟩ w hE (by decide))
  have H2 := Lib.hid (fun w hE => words_any ⟨#[97, 34, 98]⟩ w hE (by decide))
  have H3 := Lib.hid (fun w hE => quote_any ⟨#[97, 34, 92, 10, 255]⟩ w hE (by decide))
  go_enter Tryd.func11, Tryd.ntmps11
  go_wp2_with fail
  refine (H1.out w hE).mono ?_
  rintro e w1 ⟨⟨v, rfl, hv⟩, b1⟩
  rw [show Txt.words (⟨#[97, 32, 34, 98, 32, 99, 34, 32, 32, 100]⟩ : ByteArray).data.toList = _ from words_one] at hv
  obtain ⟨x, rfl, hown⟩ := hv
  have hE1 := hE.next b1
  go_wp2_with fail
  refine (H2.out w1 hE1).mono ?_
  rintro e w2 ⟨⟨v, rfl, hv⟩, b2⟩
  rw [show Txt.words (⟨#[97, 34, 98]⟩ : ByteArray).data.toList = _ from words_two] at hv
  obtain rfl := hv
  have hE2 := hE1.next b2
  have hown2 := owns_next hown b2
  have bb2 := Below.up b1 (Nat.le_refl _) b2
  clear hown b1 b2
  go_wp2_with fail
  refine (H3.out w2 hE2).mono ?_
  rintro e w3 ⟨rfl, b3⟩
  rw [show Txt.quote (⟨#[97, 34, 92, 10, 255]⟩ : ByteArray).data.toList = _ from quote_one]
  have hE3 := hE2.next b3
  have hown3 := owns_next hown2 b3
  have bb3 := Below.up bb2 (Nat.le_refl _) b3
  clear hown2 bb2 b3
  go_wp2_with fail
  refine (same_any x _ [[97], [98, 32, 99], [100]] [[97], [98, 32, 99], [100]] _ (cells_of_owns (hown3.alloc _)) (cells_new w3 (strCells [[97], [98, 32, 99], [100]]) 9 3 rfl) (by decide) (by decide)).mono ?_
  rintro e w4 ⟨rfl, n, rfl⟩
  rw [show decide (([[97], [98, 32, 99], [100]] : List (List UInt8)) = [[97], [98, 32, 99], [100]]) = true from rfl]
  go_wp2
  go_ret
  exact ⟨rfl, below_drewN (bb3.alloc bb3.size _) n⟩
end Go.Proofs.YthnhnaaihhagaaaDoor
