/-
  The walk of the law package's shown (layer 9).
-/
import Derived.Test.YtgddgipjpdjoaaaGreatDoorSegs
import Derived.Test.YtgddgipjpdjoaaaGreatDoorSegG
import Derived.Deep.RegionHeld3
namespace Go.Proofs.YtgddgipjpdjoaaaGreatDoor
open Go.RowKit Go.Shelf

/-! What the examples come to. -/
theorem shown_plain : ∃ F1 F2 : List Dk.File, Seg.create 1000 1 5 [] = (F1, 0) ∧ Seg.addD 1000 1 [Seg.plainN 5 1, Seg.plainN 6 1] F1 = (F2, 0) ∧ Seg.loadD 1 F2 = (⟨5, [Seg.plainN 5 1, Seg.plainN 6 1], false⟩, 0) ∧ (Seg.addD 1000 1 [Seg.plainN 8 1] F2).2 = 11 := by
  have hf : Evt.follows [Seg.plainN 5 1, Seg.plainN 6 1] 4 0 = true :=
    Seg.follows_cons.2 ⟨rfl, by decide, Seg.plain_right 5 (by decide) (by decide), Seg.follows_cons.2 ⟨rfl, by decide, Seg.plain_right 6 (by decide) (by decide), rfl⟩⟩
  have hl0 : Seg.load (⟨(Seg.bytesH 5).toArray⟩ : ByteArray).data.toList = (⟨5, [], false⟩, 0) := by
    have := Seg.load_bytes 5 [] (by decide) (by decide) rfl
    rwa [Seg.bytesB_nil, List.append_nil] at this
  have hlen : (Seg.bytesB [Seg.plainN 5 1, Seg.plainN 6 1]).length ≤ 300 := by
    have h5 := Seg.plain_len 5
    have h6 := Seg.plain_len 6
    simp only [Seg.bytesB, List.map_cons, List.map_nil, List.flatMap_cons, List.flatMap_nil, List.append_nil, List.length_append, Frm.framed_len]
    omega
  have hh := Seg.bytesH_len 5
  have hhs : (⟨(Seg.bytesH 5).toArray⟩ : ByteArray).size ≤ 15 := by rw [Lib.size_eq]; exact hh
  have ha := Seg.add_one 1000 1 ⟨(Seg.bytesH 5).toArray⟩ (⟨(Seg.bytesH 5).toArray⟩ : ByteArray).size [Seg.plainN 5 1, Seg.plainN 6 1] _ (by decide) (by decide) hl0 rfl hf (by simp) (by omega)
  have hl2 : Seg.load ((⟨(Seg.bytesH 5).toArray⟩ : ByteArray) ++ ⟨(Seg.bytesB [Seg.plainN 5 1, Seg.plainN 6 1]).toArray⟩).data.toList = (⟨5, [Seg.plainN 5 1, Seg.plainN 6 1], false⟩, 0) := by
    have := Seg.load_bytes 5 [Seg.plainN 5 1, Seg.plainN 6 1] (by decide) (by decide) hf
    simpa using this
  refine ⟨_, _, Seg.create_one 1000 1 5 (by decide) (by decide) (by decide) (by decide) (by decide), ha, by rw [Seg.loadD_one]; exact hl2, ?_⟩
  exact Seg.add_gap 1000 1 _ _ _ _ hl2 rfl rfl
theorem name7 : Seg.nameOf 7 = [115, 101, 103, 45, 55] := by
  unfold Seg.nameOf; rw [if_pos (by decide)]
  rw [show Lib.decDigits (Int.toNat 7) = [UInt8.ofNat (48 + 7)] by rw [Lib.decDigits]; rfl]
  rfl
theorem number7 : Seg.numberOf [115, 101, 103, 45, 55] = 7 := by rw [← name7]; exact Seg.number_name 7 (by decide) (by decide)

theorem small_plain : Small [⟨[107], []⟩] := by
  intro e he
  rw [List.mem_singleton.1 he]; simp
theorem ents2 {w : World} {g5 g6 : Nat} (h5 : Evs w (.slice (some ⟨g5, 0, none⟩) 1 1) [⟨[107], []⟩]) (h6 : Evs w (.slice (some ⟨g6, 0, none⟩) 1 1) [⟨[107], []⟩]) :
    Ents (w.alloc (.cells #[.int .i64 5, .int .i64 1, .string ⟨#[115]⟩, .int .i64 0, .int .i64 1, .int .i64 1, .slice (some ⟨g5, 0, none⟩) 1 1, .int .i64 6, .int .i64 1, .string ⟨#[115]⟩, .int .i64 0, .int .i64 1, .int .i64 1, .slice (some ⟨g6, 0, none⟩) 1 1] 40)) (.slice (some ⟨w.heap.size, 0, none⟩) 2 2) [(Seg.plainN 5 1, .slice (some ⟨g5, 0, none⟩) 1 1), (Seg.plainN 6 1, .slice (some ⟨g6, 0, none⟩) 1 1)] := by
  have hb : ∀ o, Below w.heap.size w (w.alloc o) := fun o => (Below.refl _ _).alloc (Nat.le_refl _) _
  refine ⟨⟨rfl, .inr ⟨w.heap.size, 0, 2, rfl, fun j u hj => ?_⟩⟩, fun p hp => ?_⟩
  · rw [Nat.zero_add, Lib.cell_of_heap (heap_alloc_new w _)]
    simpa [enCells, Seg.plainN] using hj
  · simp only [List.mem_cons, List.not_mem_nil, or_false] at hp
    rcases hp with rfl | rfl
    · exact ⟨Cells.next h5 (hb _), by simp [Fine, Seg.plainN, small_plain]⟩
    · exact ⟨Cells.next h6 (hb _), by simp [Fine, Seg.plainN, small_plain]⟩
theorem ents1 {w : World} {g : Nat} (h : Evs w (.slice (some ⟨g, 0, none⟩) 1 1) [⟨[107], []⟩]) :
    Ents (w.alloc (.cells #[.int .i64 8, .int .i64 1, .string ⟨#[115]⟩, .int .i64 0, .int .i64 1, .int .i64 1, .slice (some ⟨g, 0, none⟩) 1 1] 40)) (.slice (some ⟨w.heap.size, 0, none⟩) 1 1) [(Seg.plainN 8 1, .slice (some ⟨g, 0, none⟩) 1 1)] := by
  have hb : ∀ o, Below w.heap.size w (w.alloc o) := fun o => (Below.refl _ _).alloc (Nat.le_refl _) _
  refine ⟨⟨rfl, .inr ⟨w.heap.size, 0, 1, rfl, fun j u hj => ?_⟩⟩, fun p hp => ?_⟩
  · rw [Nat.zero_add, Lib.cell_of_heap (heap_alloc_new w _)]
    simpa [enCells, Seg.plainN] using hj
  · simp only [List.mem_cons, List.not_mem_nil, or_false] at hp
    subst hp
    exact ⟨Cells.next h (hb _), by simp [Fine, Seg.plainN, small_plain]⟩

end Go.Proofs.YtgddgipjpdjoaaaGreatDoor
