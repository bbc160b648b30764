/-
  The walks of disk.Delete, Rename.
-/
import Derived.Test.YthmblkckpdpjkaaGreatDoorDsk2
import Derived.BigRegion
namespace Go.Proofs.YthmblkckpdpjkaaGreatDoor
open Go.RowKit Go.Shelf

/-- A disk's own parts: its map's block, what the map holds, the files' blocks. -/
def Rep (w : World) (d : Nat) (room : Int) (fs : List Dk.File) (ft : Nat → Prop) (bm : Nat) (D : DataW Unit) (g : List UInt8 → Nat) : Prop :=
    w.heap[d]? = some (.cells #[.int .i64 room, .int .i64 (Dk.total fs : Int), .map (some bm)] 91 (0, 0)) ∧
    w.ownsMap Tryz.prog 9 ptrR bm fs.length D ∧ Maps.size D = fs.length ∧ fs.length ≤ 40 ∧ Dk.Sorted fs ∧ (1 ≤ room ∧ room ≤ 1073741824 ∧ (Dk.total fs : Int) ≤ room) ∧ ft d ∧ ft bm ∧
    (∀ k, Dk.look fs k = none → Maps.has D (.string k) = false) ∧
    (∀ k x, Dk.look fs k = some x → Maps.has D (.string k) = true ∧ (∀ z, D.atKey (.string k) z = .lit (.int .i64 (g k : Nat))) ∧ FileAt (g k) x.bytes x.synced w ∧ ft (g k) ∧ x.synced ≤ x.bytes.size) ∧
    (∀ k k' x x', Dk.look fs k = some x → Dk.look fs k' = some x' → g k = g k' → k = k')
/-- A file is gone. -/
theorem IsDisk.remove {w w' : World} {d bm : Nat} {room : Int} {fs : List Dk.File} {ft : Nat → Prop} {D : DataW Unit} {g : List UInt8 → Nat}
    (h2 : w.ownsMap Tryz.prog 9 ptrR bm fs.length D) (h3 : Maps.size D = fs.length) (h4 : fs.length ≤ 40) (h5 : Dk.Sorted fs) (hr : 1 ≤ room ∧ room ≤ 1073741824 ∧ (Dk.total fs : Int) ≤ room) (h7 : ft d) (h8 : ft bm)
    (h1 : w.heap[d]? = some (.cells #[.int .i64 room, .int .i64 (Dk.total fs : Int), .map (some bm)] 91 (0, 0)))
    (h9 : ∀ k, Dk.look fs k = none → Maps.has D (.string k) = false)
    (h10 : ∀ k x, Dk.look fs k = some x → Maps.has D (.string k) = true ∧ (∀ z, D.atKey (.string k) z = .lit (.int .i64 (g k : Nat))) ∧ FileAt (g k) x.bytes x.synced w ∧ ft (g k) ∧ x.synced ≤ x.bytes.size)
    (h11 : ∀ k k' x x', Dk.look fs k = some x → Dk.look fs k' = some x' → g k = g k' → k = k')
    (k0 : List UInt8) {x : Dk.File} (hl : Dk.look fs k0 = some x) {n : Nat}
    (hown : w'.ownsMap Tryz.prog 9 ptrR bm n (D.del (.string k0)))
    (hd : w'.heap[d]? = some (.cells #[.int .i64 room, .int .i64 (Dk.total (Dk.del k0 fs) : Int), .map (some bm)] 91 (0, 0)))
    (hk : ∀ j, j < w.heap.size → j ≠ bm → j ≠ d → w'.heap[j]? = w.heap[j]?) : Rep w' d room (Dk.del k0 fs) ft bm (D.del (.string k0)) g := by
  have hlen := Dk.del_len k0 fs
  rw [hl] at hlen
  simp only [Option.isSome_some, if_true] at hlen
  have htidy := h2.tidy str_keyed
  have hsz := Maps.size_del (k := .string k0) htidy
  rw [(h10 _ x hl).1, h3] at hsz
  simp only [if_true] at hsz
  have htot := Dk.del_total k0 fs
  have hown' : w'.ownsMap Tryz.prog 9 ptrR bm (Dk.del k0 fs).length (D.del (.string k0)) := by
    obtain ⟨es, clock, hb, F, hs, hD⟩ := hown
    refine ⟨es, clock, hb, F, ?_, hD⟩
    have : Maps.size (D.del (.string k0)) = es.size := by rw [hD, Maps.size_eq]; exact length_read es
    omega
  refine ⟨hd, hown', by omega, by omega, Dk.sorted_del k0 fs h5, ⟨hr.1, hr.2.1, by omega⟩, h7, h8, ?_, ?_, ?_⟩
  · intro k hk'
    by_cases e : k = k0
    · subst e; exact Maps.has_del_same
    · rw [Dk.look_del_other k0 e] at hk'
      rw [Maps.has_del_other (by simpa using e)]
      exact h9 k hk'
  · intro k z hz
    by_cases e : k = k0
    · subst e; rw [Dk.look_del_same k fs h5] at hz; cases hz
    · rw [Dk.look_del_other k0 e] at hz
      obtain ⟨a, b, c, f, q⟩ := h10 k z hz
      refine ⟨by rw [Maps.has_del_other (by simpa using e)]; exact a, fun z => by rw [Maps.atKey_del_other (by simpa using e)]; exact b z, ?_, f, q⟩
      have c1 : g k ≠ bm := by
        rintro e2
        obtain ⟨es, clock, hb, _⟩ := h2
        rw [FileAt, e2, hb] at c
        cases c
      have c2 : g k ≠ d := by
        rintro e2
        rw [FileAt, e2, h1] at c
        simp at c
      exact (hk _ (Array.getElem?_eq_some_iff.1 c).1 c1 c2).trans c
  · intro k k' z z' hz hz' hg
    have q : ∀ k z, Dk.look (Dk.del k0 fs) k = some z → ∃ u, Dk.look fs k = some u := fun k z hz => by
      by_cases e : k = k0
      · subst e; rw [Dk.look_del_same k fs h5] at hz; cases hz
      · rw [Dk.look_del_other k0 e] at hz; exact ⟨z, hz⟩
    obtain ⟨u, hu⟩ := q k z hz
    obtain ⟨u', hu'⟩ := q k' z' hz'
    exact h11 _ _ _ _ hu hu' hg

set_option maxHeartbeats 2000000 in
set_option maxRecDepth 100000 in
theorem diskDelete_rep (d : Nat) (room : Int) (fs : List Dk.File) (ft : Nat → Prop) (bm : Nat) (D : DataW Unit) (g : List UInt8 → Nat) (nm : ByteArray) (w : World) (h : Rep w d room fs ft bm D g) (hn : nm.size ≤ 1000000000) :
    Calls Tryz.prog 50 #[.pointer (some ⟨d, 0, none⟩), .string nm] w fun e w' => e = .returned (.int .i64 ((Dk.delete nm.data.toList fs).2 : Nat)) ∧ (∃ D', Rep w' d room (Dk.delete nm.data.toList fs).1 ft bm D' g) ∧ Turn ft w w' := by
  have hID := Lib.hid h
  obtain ⟨h1, h2, h3, h4, h5, h6, h7, h8, h9, h10, h11⟩ := h
  obtain ⟨v, ps, hrun, hR⟩ := look_run h2 nm (by omega)
  have d1 : w.cell? ⟨d, 1, none⟩ = some (.int .i64 (Dk.total fs : Int)) := by rw [Lib.cell_of_heap h1]; rfl
  have d2 : w.cell? ⟨d, 2, none⟩ = some (.map (some bm)) := by rw [Lib.cell_of_heap h1]; rfl
  have df := Lib.frozen_of_heap h1 1
  have hlv := look_val hR h9 (fun k x hx => (h10 k x hx).2.1)
  obtain ⟨hr1, hr2, hr3⟩ := h6
  rcases hlv with ⟨hl, rfl⟩ | ⟨x, hl, rfl⟩
  · have HQ := Lib.hid (show Dk.delete nm.data.toList fs = (fs, 6) by rw [Dk.delete, hl])
    clear hR hl h9 h10 h2 h1 h3 h4 h5 h7 h8 h11
    go_enter Tryz.func50, Tryz.ntmps50
    go_wp2
    go_ret
    rw [HQ.out]
    exact ⟨rfl, ⟨D, hID.out⟩, Turn.refl _ _⟩
  · have hx := h10 _ x hl
    have HQ := Lib.hid (show Dk.delete nm.data.toList fs = (Dk.del nm.data.toList fs, 0) by rw [Dk.delete, hl])
    have f0 : w.cell? ⟨g nm.data.toList, 0, none⟩ = some (.string x.bytes) := by rw [Lib.cell_of_heap hx.2.2.1]; rfl
    have hxs := Dk.look_le hl
    have htot : (Dk.total (Dk.del nm.data.toList fs) : Int) = (Dk.total fs : Int) - (x.bytes.size : Int) := by
      have := Dk.del_total nm.data.toList fs
      simp only [hl] at this; omega
    have hwr : IntKind.i64.wrap ((Dk.total fs : Int) - (x.bytes.size : Int)) = (Dk.total fs : Int) - (x.bytes.size : Int) := by rw [IntKind.wrap_i64]; omega
    obtain ⟨gb, hgb⟩ : ∃ gb, g nm.data.toList = gb := ⟨_, rfl⟩
    rw [hgb] at hrun f0
    have H1 := Lib.hid h1; have H2 := Lib.hid h2; have H3 := Lib.hid h3; have H5 := Lib.hid h5; have H9 := Lib.hid h9; have H10 := Lib.hid h10; have H11 := Lib.hid h11; have HL := Lib.hid hl; have HT := Lib.hid htot
    clear hR hl h9 h10 h2 h1 h3 h5 h11 hx hgb htot
    go_enter Tryz.func50, Tryz.ntmps50
    go_wp2
    go_region
    have k1 := setCell_at (i := 1) H1.out (.int .i64 ((Dk.total fs : Int) - (x.bytes.size : Int)))
    have hbd : bm ≠ d := by
      rintro e
      obtain ⟨es, clock, hb, _⟩ := H2.out
      rw [e, H1.out] at hb
      cases hb
    have k2 := ownsMap_at H2.out (Below.heap_setCell w ⟨d, 1, none⟩ (.int .i64 ((Dk.total fs : Int) - (x.bytes.size : Int))) bm (by simpa using hbd))
    obtain ⟨W, hW⟩ : ∃ W, (w.setCell ⟨d, 1, none⟩ (.int .i64 ((Dk.total fs : Int) - (x.bytes.size : Int)))).drew = W := ⟨_, rfl⟩
    have hH : W.heap = (w.setCell ⟨d, 1, none⟩ (.int .i64 ((Dk.total fs : Int) - (x.bytes.size : Int)))).heap := by rw [← hW]; rfl
    have m1 := (show W.heap[d]? = (w.setCell ⟨d, 1, none⟩ (.int .i64 ((Dk.total fs : Int) - (x.bytes.size : Int)))).heap[d]? by rw [hH]).trans k1
    have m2 := ownsMap_at k2 (w' := W) (by rw [hH])
    have g1 : w.grownBy W (some d) := by rw [← hW]; exact grown_drew (grown_set _ _ _ _)
    rw [hW]
    have dd2 : W.cell? ⟨d, 2, none⟩ = some (.map (some bm)) := by rw [Lib.cell_of_heap m1]; rfl
    have M1 := Lib.hid m1
    clear hW hH k1 k2 m1 d1 d2 df f0 hrun
    go_wp2_with (at_delete; refine wpList_delete_own _ rfl _ _ 89 9 rfl 88 str_keyed Tryz.underlying89 ptrR bm fs.length D rfl m2 (.string nm) (.string nm.data.toList) rfl (WideMaps.keyOf_string_mk Tryz.underlying9 (by unfold maxLen; omega)) ?_)
    intro w2 hown2 ht2
    have g2 := ht2.grown
    have HF := Lib.hid (IsDisk.remove (w' := w2) H2.out H3.out h4 H5.out ⟨hr1, hr2, hr3⟩ h7 h8 H1.out H9.out H10.out H11.out nm.data.toList HL.out hown2
      (by rw [HT.out]; exact (g2.block d (by have := g1.size; have := (Array.getElem?_eq_some_iff.1 H1.out).1; omega) (by simpa using hbd.symm)).trans M1.out)
      (fun j hj h1 h2 => by rw [g2.block j (by have := g1.size; omega) (by simpa using h1), g1.block j hj (by simpa using h2)]))
    have HTN := Lib.hid ((Turn.of_grown (ft := ft) g1 h7).trans (Turn.of_grown (ft := ft) g2 h8) (fun j hj => .inl hj))
    clear hown2 ht2 g2 g1 m2
    go_wp2
    go_ret
    rw [HQ.out]
    exact ⟨rfl, ⟨_, HF.out⟩, HTN.out⟩
theorem diskDelete_any (d : Nat) (room : Int) (fs : List Dk.File) (ft : Nat → Prop) (nm : ByteArray) (w : World) (h : IsDisk w d room fs ft) (hn : nm.size ≤ 1000000000) :
    Calls Tryz.prog 50 #[.pointer (some ⟨d, 0, none⟩), .string nm] w fun e w' => e = .returned (.int .i64 ((Dk.delete nm.data.toList fs).2 : Nat)) ∧ DStep d room (Dk.delete nm.data.toList fs).1 ft w w' := by
  obtain ⟨bm, D, g, h⟩ := h
  refine (diskDelete_rep d room fs ft bm D g nm w h hn).mono ?_
  rintro e w' ⟨rfl, ⟨D', h'⟩, ht⟩
  exact ⟨rfl, ft, ⟨bm, D', g, h'⟩, fun j hj => .inl hj, ht⟩
end Go.Proofs.YthmblkckpdpjkaaGreatDoor
