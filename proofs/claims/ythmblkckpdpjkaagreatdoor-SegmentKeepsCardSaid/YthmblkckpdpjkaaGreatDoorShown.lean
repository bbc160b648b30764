/-
  The walks of the law package's begun, plain and shown (layer 9).
-/
import Derived.Test.YthmblkckpdpjkaaGreatDoorAdd
namespace Go.Proofs.YthmblkckpdpjkaaGreatDoor
open Go.RowKit Go.Shelf

theorem IsDisk.narrow {w : World} {d : Nat} {room : Int} {fs : List Dk.File} {ft : Nat → Prop} (h : IsDisk w d room fs ft) : IsDisk w d room fs (fun j => ft j ∧ j < w.heap.size) := by
  obtain ⟨bm, D, g, h1, h2, h3, h4, h5, h6, h7, h8, h9, h10, h11⟩ := h
  refine ⟨bm, D, g, h1, h2, h3, h4, h5, h6, ⟨h7, (Array.getElem?_eq_some_iff.1 h1).1⟩, ⟨h8, ?_⟩, h9, fun k x hx => ?_, h11⟩
  · obtain ⟨es, c, hb, _⟩ := h2
    exact (Array.getElem?_eq_some_iff.1 hb).1
  · obtain ⟨q1, q2, q3, q4, q5⟩ := h10 k x hx
    exact ⟨q1, q2, q3, ⟨q4, (Array.getElem?_eq_some_iff.1 q3).1⟩, q5⟩
theorem DStep.open {d : Nat} {room : Int} {fs : List Dk.File} {ft : Nat → Prop} {w w' : World} (h : DStep d room fs ft w w') :
    ∃ ft', IsDisk w' d room fs ft' ∧ (∀ j, ft' j → ft j ∨ w.heap.size ≤ j) ∧ (∀ j, ft' j → j < w'.heap.size) ∧ Turn ft w w' := by
  obtain ⟨f, h1, h2, h3⟩ := h
  exact ⟨_, h1.narrow, fun j hj => h2 j hj.1, fun j hj => hj.2, h3⟩

set_option maxHeartbeats 1000000 in
theorem refNew_any (room : Int) (w : World) (h1 : 1 ≤ room) (h2 : room ≤ 1073741824) :
    Calls Tryz.prog 40 #[.int .i64 room] w fun e w' => e = .returned (.tuple #[.pointer (some ⟨w.heap.size, 0, none⟩), .int .i64 0]) ∧ w' = w.alloc (.cells #[.slice none 0 0, .int .i64 room] 116) := by
  go_enter Tryz.func40, Tryz.ntmps40
  go_wp2
  go_ret2
  exact ⟨rfl, rfl⟩
theorem pair_size : (Tryz.prog.info? 31).map (·.size) = some 2 := by kernel_rfl
def PB (b : Nat) (u v : Value) (w : World) : Prop := w.heap[b]? = some (.cells #[u, v] 31 (0, 0))
theorem PB.kept {b : Nat} {u v : Value} {w w' : World} {r : Option Nat} (h : PB b u v w) (hg : w.grownBy w' r) (hr : some b ≠ r) : PB b u v w' :=
  (hg.block b (Array.getElem?_eq_some_iff.1 h).1 hr).trans h
theorem PB.next {b : Nat} {u v : Value} {w w' : World} (h : PB b u v w) (hb : Below w.heap.size w w') : PB b u v w' := h.kept (grown_of_below hb) (by simp)
theorem PB.cells {b : Nat} {u v : Value} {w : World} (h : PB b u v w) : w.cell? ⟨b, 0, none⟩ = some u ∧ w.cell? ⟨b, 1, none⟩ = some v := by
  refine ⟨?_, ?_⟩ <;> (rw [Lib.cell_of_heap h]; rfl)
theorem PB.frozen {b : Nat} {u v : Value} {w : World} (h : PB b u v w) : ∀ i, w.frozen? ⟨b, i, none⟩ = false := fun i => Lib.frozen_of_heap h i
theorem PB.put2 {b : Nat} {u0 v0 : Value} {w : World} (h : PB b u0 v0 w) (u v : Value) :
    PB b u v ((w.setCell ⟨b, 0, none⟩ u).setCell ⟨b, 1, none⟩ v) ∧ w.grownBy ((w.setCell ⟨b, 0, none⟩ u).setCell ⟨b, 1, none⟩ v) (some b) :=
  ⟨setCell_at (i := 1) (setCell_at (i := 0) h _) _, grown_trans (grown_set _ _ _ _) (grown_set _ _ _ _)⟩
/-- A document's disk, empty. -/
def RefNew (m : Nat) (room : Int) (w : World) : Prop := w.heap[m]? = some (.cells #[.slice none 0 0, .int .i64 room] 116 (0, 0))

set_option maxHeartbeats 2000000 in
theorem begun_any (room : Int) (w : World) (h1 : 1 ≤ room) (h2 : room ≤ 1073741824) :
    Calls Tryz.prog 15 #[.int .i64 room] w fun e w' => ∃ (d m : Nat) (ft : Nat → Prop), e = .returned (.tuple #[.agg #[.pointer (some ⟨d, 0, none⟩), .pointer (some ⟨m, 0, none⟩)], .bool true]) ∧
      IsDisk w' d room [] ft ∧ (∀ j, ft j → w.heap.size ≤ j ∧ j < w'.heap.size) ∧ RefNew m room w' ∧ ¬ ft m ∧ Below w.heap.size w w' := by
  have p0 : PB w.heap.size (.pointer none) (.pointer none) (w.alloc (.cells #[.pointer none, .pointer none] 31)) := heap_alloc_new w _
  have hb0 := (Below.refl _ w).alloc (Nat.le_refl _) (.cells #[.pointer none, .pointer none] 31)
  have P0 := Lib.hid p0
  have HB0 := Lib.hid hb0
  have HN := Lib.hid (diskNew_any room (w.alloc (.cells #[.pointer none, .pointer none] 31)))
  clear p0 hb0
  go_enter Tryz.func15, Tryz.ntmps15
  go_wp2_with fail
  refine HN.out.mono ?_
  rintro e w1 (⟨hbad, _⟩ | ⟨_, d, rfl, hd, b1⟩)
  · exact absurd ⟨h1, h2⟩ hbad
  have hb1 := Below.up HB0.out (Nat.le_refl _) b1
  have hD := Lib.hid hd.narrow
  have HRN := Lib.hid (refNew_any room w1 h1 h2)
  have p1 := P0.out.next b1
  have hs1 := b1.size
  rw [World.size_alloc] at hs1
  clear HN P0 HB0 b1 hd
  go_wp2_with fail
  refine HRN.out.mono ?_
  rintro e w2 ⟨rfl, hw2⟩
  have hrn : RefNew w1.heap.size room w2 := by rw [hw2]; exact heap_alloc_new w1 _
  have b2 : Below w1.heap.size w1 w2 := by rw [hw2]; exact (Below.refl _ w1).alloc (Nat.le_refl _) _
  have hs2 : w2.heap.size = w1.heap.size + 1 := by rw [hw2]; simp
  have hb2 := Below.up hb1 (Nat.le_refl _) b2
  have p2 := p1.next b2
  have hd2 := hD.out.next b2
  obtain ⟨c0, c1⟩ := p2.cells
  have f0 := p2.frozen 0
  have f1 := p2.frozen 1
  have HP := Lib.hid (p2.put2 (.pointer (some ⟨d, 0, none⟩)) (.pointer (some ⟨w1.heap.size, 0, none⟩)))
  have HD3 := Lib.hid (hd2.kept fun j hj0 hj => HP.out.2.block j hj0 (by have := hj.1; simp at this; simp; omega))
  have HR3 := Lib.hid (show RefNew w1.heap.size room _ from (HP.out.2.block w1.heap.size (by omega) (by simp; omega)).trans hrn)
  have HB3 := Lib.hid (hb2.trans (below_of_grown HP.out.2 (Nat.le_refl _) (by omega)))
  have HFT := Lib.hid (fun j (hj : ((w.alloc (.cells #[.pointer none, .pointer none] 31)).heap.size ≤ j ∧ j < w1.heap.size)) => (⟨by have := hj.1; simp at this; omega, by have := HP.out.2.size; have := hj.2; omega⟩ : w.heap.size ≤ j ∧ j < ((w2.setCell ⟨w.heap.size, 0, none⟩ (.pointer (some ⟨d, 0, none⟩))).setCell ⟨w.heap.size, 1, none⟩ (.pointer (some ⟨w1.heap.size, 0, none⟩))).heap.size))
  clear hw2 hs2 p2 p1 hd2 hrn b2 HRN hD hs1
  go_wp2
  refine bodyPost_ret (results_cell1 rfl _ _ w.heap.size _ _ _ _ rfl HP.out.1 Tryz.underlying31 rfl pair_size) rfl ?_
  exact ⟨d, w1.heap.size, _, rfl, HD3.out, HFT.out, HR3.out, fun h => by have := h.2; omega, HB3.out⟩

set_option maxHeartbeats 2000000 in
theorem plain_any (p ep : Int) (w : World) :
    Calls Tryz.prog 34 #[.int .i64 p, .int .i64 ep] w fun e w' => ∃ g, e = .returned (.agg #[.int .i64 p, .int .i64 ep, .string ⟨#[115]⟩, .int .i64 0, .int .i64 1, .int .i64 1, .slice (some ⟨g, 0, none⟩) 1 1]) ∧ Evs w' (.slice (some ⟨g, 0, none⟩) 1 1) [⟨[107], []⟩] ∧ Below w.heap.size w w' := by
  have z0 : EB w.heap.size 0 0 ⟨#[]⟩ 0 0 0 (.slice none 0 0) (w.alloc (.cells #[.int .i64 0, .int .i64 0, .string ⟨#[]⟩, .int .i64 0, .int .i64 0, .int .i64 0, .slice none 0 0] 38)) := heap_alloc_new w _
  go_enter Tryz.func34, Tryz.ntmps34
  go_wp2
  have hE0 : ((w.alloc (.cells #[.int .i64 p, .int .i64 ep, .string ⟨#[115]⟩, .int .i64 0, .int .i64 1, .int .i64 1, .slice (some ⟨w.heap.size + 1, 0, none⟩) 1 1] 38)).alloc (.cells #[.string ⟨#[107]⟩, .string ⟨#[]⟩] 77)).heap[w.heap.size]? = some (.cells #[.int .i64 p, .int .i64 ep, .string ⟨#[115]⟩, .int .i64 0, .int .i64 1, .int .i64 1, .slice (some ⟨w.heap.size + 1, 0, none⟩) 1 1] 38 (0, 0)) :=
    (Below.heap_alloc _ _ _ (by simp)).trans (heap_alloc_new w _)
  refine bodyPost_ret (results_cell_row rfl _ _ w.heap.size _ _ _ _ rfl hE0 Tryz.underlying38 rfl entry_size) rfl ?_
  refine ⟨_, rfl, ⟨rfl, .inr ⟨w.heap.size + 1, 0, 1, rfl, fun j u hj => ?_⟩⟩, ((Below.refl _ w).alloc (Nat.le_refl _) _).alloc (by simp) _⟩
  have hb := heap_alloc_new (w.alloc (.cells #[.int .i64 p, .int .i64 ep, .string ⟨#[115]⟩, .int .i64 0, .int .i64 1, .int .i64 1, .slice (some ⟨w.heap.size + 1, 0, none⟩) 1 1] 38)) (.cells #[.string ⟨#[107]⟩, .string ⟨#[]⟩] 77)
  rw [World.size_alloc] at hb
  rw [Lib.cell_of_heap hb]
  match j with
  | 0 => simpa [evCells] using hj
  | 1 => simpa [evCells] using hj
  | j + 2 => simp [evCells] at hj
end Go.Proofs.YthmblkckpdpjkaaGreatDoor
