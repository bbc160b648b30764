/-
  The document's disk: the walk of Sync.
-/
import Derived.Test.YtiaddfghojdgkaaGreatDoorRDkc
namespace Go.Proofs.YtiaddfghojdgkaaGreatDoor
open Go.RowKit Go.Shelf

theorem flT : ElemT Tryz.prog 174 178 3 := by
  have h : (Tryz.prog.info? 178).map (fun i => (i.zero, i.size, i.bytes)) = some (some (.agg #[.string ⟨#[]⟩, .string ⟨#[]⟩, .int .i64 0]), 3, 40) := by kernel_rfl
  obtain ⟨i0, hi, hz0, hz1, hz2⟩ := info_parts h
  exact ⟨Tryz.underlying174, ⟨i0, _, 40, hi, hz0, hz1, hz2, rfl, by omega⟩, by omega⟩
/-- What a row of files must be. -/
def Dk.Fit (room : Int) (fs : List Dk.File) : Prop := fs.length ≤ 40 ∧ Dk.Sorted fs ∧ (1 ≤ room ∧ room ≤ 1073741824 ∧ (Dk.total fs : Int) ≤ room) ∧ (∀ x ∈ fs, x.synced ≤ x.bytes.size)
theorem IsR.fit {w : World} {d : Nat} {room : Int} {fs : List Dk.File} {ft : Nat → Prop} (h : IsR w d room fs ft) : Dk.Fit room fs := by
  obtain ⟨v, h1, h2, h3, h4, h5, h6, h7, h8⟩ := h
  exact ⟨h3, h4, h5, h8⟩
/-- Its row, where it has files: a block. -/
theorem IsR.row {w : World} {d : Nat} {room : Int} {fs : List Dk.File} {ft : Nat → Prop} (h : IsR w d room fs ft) (hn : 0 < fs.length) :
    ∃ g cap, w.heap[d]? = some (.cells #[.slice (some ⟨g, 0, none⟩) fs.length cap, .int .i64 room] 176 (0, 0)) ∧ w.ownsRow 0 178 3 (.slice (some ⟨g, 0, none⟩) fs.length cap) fs.length (flCells fs) ∧ ft d ∧ ft g ∧ d ≠ g ∧ fs.length ≤ cap ∧ cap ≤ maxLen := by
  obtain ⟨v, h1, h2, h3, h4, h5, h6, h7, h8⟩ := h
  rcases h2.2 with ⟨_, h⟩ | ⟨g, cap, cur, rfl, hb, hg, hc, hm, hr⟩
  · omega
  · refine ⟨g, cap, h1, h2, h6, h7 g rfl, ?_, hc, hm⟩
    intro e
    have := cells_not_row h1 (by decide) h2
    rw [e] at this
    exact this rfl
/-- A store into its row. -/
theorem IsR.store {w : World} {d g cap i : Nat} {room : Int} {fs fs' : List Dk.File} {ft : Nat → Prop} (h1 : w.heap[d]? = some (.cells #[.slice (some ⟨g, 0, none⟩) fs.length cap, .int .i64 room] 176 (0, 0)))
    (h2 : w.ownsRow 0 178 3 (.slice (some ⟨g, 0, none⟩) fs.length cap) fs.length (flCells fs)) (hd : ft d) (hg : ft g) (hne : d ≠ g) (hi : i < fs.length * 3) (v : Value) (hl : fs'.length = fs.length) (hc : (flCells fs).set i v = flCells fs') (hf : Dk.Fit room fs') :
    IsR (w.setCell ⟨g, i, none⟩ v) d room fs' ft ∧ Turn ft w (w.setCell ⟨g, i, none⟩ v) := by
  have o := owns_set h2 hi v
  rw [hc, ← hl] at o
  refine ⟨⟨.slice (some ⟨g, 0, none⟩) fs'.length cap, ?_, o, hf.1, hf.2.1, hf.2.2.1, hd, (fun b hb => by cases hb; exact hg), hf.2.2.2⟩, Turn.of_grown (grown_set w g i v) hg⟩
  rw [hl]
  exact (Below.heap_setCell w ⟨g, i, none⟩ v d (by simpa using hne)).trans h1
theorem RStep.of {d : Nat} {room : Int} {fs : List Dk.File} {ft ft2 : Nat → Prop} {w w1 w2 w3 : World} (b1 : Below w.heap.size w w1) (h : IsR w2 d room fs ft2) (hf : ∀ j, ft2 j → ft j ∨ w.heap.size ≤ j) (ht : Turn ft w1 w2) (b3 : Below w2.heap.size w2 w3) : RStep d room fs ft w w3 :=
  ⟨ft2, h.next b3, hf, ((Turn.of_below b1).trans ht (fun _ hj => .inl hj)).trans (Turn.of_below (ft := ft) b3) (fun _ hj => .inl hj)⟩
theorem Dk.set_mem {fs : List Dk.File} {k : Nat} {y x : Dk.File} (h : x ∈ fs.set k y) : x = y ∨ x ∈ fs := by
  rcases List.mem_or_eq_of_mem_set h with h | h
  · exact .inr h
  · exact .inl h
set_option maxHeartbeats 1000000 in
set_option maxRecDepth 100000 in
theorem rdSync_any (d : Nat) (room : Int) (fs : List Dk.File) (ft : Nat → Prop) (nm : ByteArray) (w : World) (h : IsR w d room fs ft) :
    Calls Tryz.prog 145 #[.pointer (some ⟨d, 0, none⟩), .string nm] w fun e w' => e = .returned (.int .i64 ((Dk.sync nm.data.toList fs).2 : Nat)) ∧ RStep d room (Dk.sync nm.data.toList fs).1 ft w w' := by
  have HF := Lib.hid (rfind_any d room fs ft nm w h)
  have HI := Lib.hid h
  cases hl : Dk.look fs nm.data.toList with
  | none =>
    have HQ := Lib.hid (show Dk.sync nm.data.toList fs = (fs, 6) by rw [Dk.sync, hl])
    rw [hl] at HF
    clear h hl
    go_enter Tryz.func145, Tryz.ntmps145
    go_wp2_with fail
    refine HF.out.mono ?_
    rintro e w1 ⟨rfl, b1⟩
    go_wp2
    go_ret
    exact ⟨by rw [HQ.out]; rfl, by rw [HQ.out]; exact RStep.of_below HI.out b1⟩
  | some x =>
    have hfit := h.fit
    obtain ⟨hi, hx⟩ := Dk.idx_some hfit.2.1 hl
    have hq : Dk.sync nm.data.toList fs = (fs.set (Dk.idx nm.data.toList fs) ⟨x.name, x.bytes, x.bytes.size⟩, 0) := by
      have hxn := (Dk.look_name hl).1
      rw [Dk.sync, hl]
      simp only
      rw [Dk.put_idx rfl fs hfit.2.1 (by rw [hl]; rfl), hxn]
    rw [hl] at HF
    obtain ⟨K, hK⟩ : ∃ K, Dk.idx nm.data.toList fs = K := ⟨_, rfl⟩
    rw [hK] at HF hi hq
    have hx2 : fs[K] = x := by subst hK; exact hx
    have hfit2 : Dk.Fit room (fs.set K ⟨x.name, x.bytes, x.bytes.size⟩) := by
      have hs2 : Dk.Sorted (Dk.sync nm.data.toList fs).1 := by rw [Dk.sync, hl]; exact Dk.sorted_put _ _ hfit.2.1
      have ht := Dk.put_total ⟨nm.data.toList, x.bytes, x.bytes.size⟩ fs hfit.2.1
      have he : (Dk.sync nm.data.toList fs).1 = Dk.put ⟨nm.data.toList, x.bytes, x.bytes.size⟩ fs := by rw [Dk.sync, hl]
      rw [hq] at hs2 he
      simp only [hl] at ht
      simp only at he hs2
      refine ⟨by rw [List.length_set]; exact hfit.1, hs2, ⟨hfit.2.2.1.1, hfit.2.2.1.2.1, ?_⟩, fun z hz => ?_⟩
      · rw [he]; have := hfit.2.2.1.2.2; omega
      · rcases Dk.set_mem hz with rfl | hz
        · exact Nat.le_refl _
        · exact hfit.2.2.2 z hz
    obtain ⟨g, cap, h1, h2, h6, h7, hne, hcap, -⟩ := h.row (by omega)
    have HC := Lib.hid (cells_of_owns h2)
    obtain ⟨b, o, c, hv, -, c1, c2⟩ := flAt HC.out _ hi
    cases hv
    rw [hx2] at c1 c2
    have hset := flCells_synced fs K hi x.bytes.size
    rw [hx2] at hset
    have HQ := Lib.hid hq
    clear hl hK hx hx2 hq h hfit
    go_enter Tryz.func145, Tryz.ntmps145
    go_wp2_with fail
    refine HF.out.mono ?_
    rintro e w1 ⟨rfl, b1⟩
    have hh1 := heap_kept b1 (Nat.le_refl _) h1
    have hh2 := owns_next h2 b1
    have d0 : w1.cell? ⟨d, 0, none⟩ = some (.slice (some ⟨g, 0, none⟩) fs.length cap) := by rw [Lib.cell_of_heap hh1]; rfl
    have c1 := cell_kept b1 (Nat.le_refl _) c1
    have c2 := cell_kept b1 (Nat.le_refl _) c2
    have hfr : w1.frozen? ⟨g, 0 + K * 3 + 2, none⟩ = false := by
      rcases hh2.2 with ⟨h, _⟩ | ⟨g2, cap2, cur, hv, hb, hg, _⟩
      · cases h
      · cases hv; exact Lib.frozen_of_heap hg _
    have HP := Lib.hid (IsR.store (i := K * 3 + 2) hh1 hh2 h6 h7 hne (by omega) (.int .i64 (x.bytes.size : Int)) (by rw [List.length_set]) hset hfit2)
    clear h1 h2 hh1 hh2 HC hfit2 hset
    have c1 : w1.cell? ⟨g, K * 3 + 1, none⟩ = some (.string x.bytes) := by simpa using c1
    have hfr : w1.frozen? ⟨g, K * 3 + 2, none⟩ = false := by simpa using hfr
    have c2 : w1.cell? ⟨g, K * 3 + 2, none⟩ = some (.int .i64 (x.synced : Int)) := by simpa using c2
    go_wp2
    go_region
    go_wp2
    go_ret
    exact ⟨by rw [HQ.out]; rfl, by rw [HQ.out]; exact RStep.of b1 HP.out.1 (fun j hj => .inl hj) HP.out.2 (Below.refl _ _).drew⟩
end Go.Proofs.YtiaddfghojdgkaaGreatDoor
