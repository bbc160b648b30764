/-
  The law package's same: two equal segments, the program's and the document's.
-/
import Derived.Test.YtiaddfghojdgkaaGreatDoorRCre
namespace Go.Proofs.YtiaddfghojdgkaaGreatDoor
open Go.RowKit Go.Shelf

set_option maxHeartbeats 1000000 in
set_option maxRecDepth 100000 in
theorem same9_any (first : Int) (torn : Bool) (va vb : Value) (ps qs : List (Evt.Entry × Value)) (w : World) (ha : Ents w va ps) (hb : Ents w vb qs) (he : plainE ps = plainE qs) (hn : ps.length ≤ 1000000) :
    Calls Tryz.prog 17 #[.agg #[.int .i64 first, va, .bool torn], .agg #[.int .i64 first, vb, .bool torn]] w fun e w' => e = .returned (.bool true) ∧ Below w.heap.size w w' := by
  obtain ⟨aa, ac, rfl⟩ := cells_sliceV ha.1
  obtain ⟨ba, bc, rfl⟩ := cells_sliceV hb.1
  obtain ⟨W, hW⟩ : ∃ W, W = (w.alloc (.cells #[.int .i64 first, .slice aa ps.length ac, .bool torn] 38)).alloc (.cells #[.int .i64 first, .slice ba qs.length bc, .bool torn] 42) := ⟨_, rfl⟩
  have h1 : W.heap[w.heap.size]? = some (.cells #[.int .i64 first, .slice aa ps.length ac, .bool torn] 38 (0, 0)) := by
    rw [hW]
    exact ((World.grownBy_alloc (w.alloc (.cells #[.int .i64 first, .slice aa ps.length ac, .bool torn] 38)) _ none).block w.heap.size (by simp) (by simp)).trans (heap_alloc_new w _)
  have h2 : W.heap[w.heap.size + 1]? = some (.cells #[.int .i64 first, .slice ba qs.length bc, .bool torn] 42 (0, 0)) := by
    have := heap_alloc_new (w.alloc (.cells #[.int .i64 first, .slice aa ps.length ac, .bool torn] 38)) (.cells #[.int .i64 first, .slice ba qs.length bc, .bool torn] 42)
    rw [World.size_alloc] at this
    rw [hW]; exact this
  have hbW : Below w.heap.size w W := by rw [hW]; exact ((Below.refl _ _).alloc (Nat.le_refl _) _).alloc (by simp) _
  have HS := Lib.hid (sameRow6_any _ _ ps qs W (ha.next hbW) (hb.next hbW) he hn)
  have a0 : W.cell? ⟨w.heap.size, 0, none⟩ = some (.int .i64 first) := by rw [Lib.cell_of_heap h1]; rfl
  have a1 : W.cell? ⟨w.heap.size, 1, none⟩ = some (.slice aa ps.length ac) := by rw [Lib.cell_of_heap h1]; rfl
  have a2 : W.cell? ⟨w.heap.size, 2, none⟩ = some (.bool torn) := by rw [Lib.cell_of_heap h1]; rfl
  have b0 : W.cell? ⟨w.heap.size + 1, 0, none⟩ = some (.int .i64 first) := by rw [Lib.cell_of_heap h2]; rfl
  have b1 : W.cell? ⟨w.heap.size + 1, 1, none⟩ = some (.slice ba qs.length bc) := by rw [Lib.cell_of_heap h2]; rfl
  have b2 : W.cell? ⟨w.heap.size + 1, 2, none⟩ = some (.bool torn) := by rw [Lib.cell_of_heap h2]; rfl
  have HW := Lib.hid hW
  clear hW h1 h2 ha hb he
  go_enter Tryz.func17, Tryz.ntmps17
  go_upto_region 1 with fail
  (try rw [World.size_alloc])
  rw [← HW.out]
  clear HW
  go_wp2_with fail
  refine HS.out.mono ?_
  rintro e w1 ⟨rfl, hb1⟩
  go_wp2
  go_ret
  exact ⟨rfl, Below.up hbW (Nat.le_refl _) hb1⟩
end Go.Proofs.YtiaddfghojdgkaaGreatDoor
