/-
  The document's disk: the walk of Delete.
-/
import Derived.Test.YtiaddfghojdgkaaGreatDoorRDkd
namespace Go.Proofs.YtiaddfghojdgkaaGreatDoor
open Go.RowKit Go.Shelf

theorem fl_take {w : World} {b o c k : Nat} {fs : List Dk.File} (h : Cells w (.slice (some ⟨b, o, none⟩) fs.length c) 3 fs.length (flCells fs)) (hk : k ≤ fs.length) (c' : Nat) : Cells w (.slice (some ⟨b, o, none⟩) k c') 3 k (flCells (fs.take k)) := by
  have hl : (fs.take k).length = k := by rw [List.length_take]; omega
  refine ⟨by rw [flCells_len, hl], ?_⟩
  by_cases h0 : k = 0
  · subst h0; exact .inl ⟨rfl, _, _, rfl⟩
  · refine .inr ⟨b, o, c', rfl, fun j u hj => ?_⟩
    rcases h.2 with ⟨hz, _⟩ | ⟨b2, o2, c2, hv, hx⟩
    · omega
    · cases hv
      refine hx j u ?_
      have e : flCells fs = flCells (fs.take k) ++ flCells (fs.drop k) := by rw [← flCells_append, List.take_append_drop]
      rw [e, List.getElem?_append_left (List.getElem?_eq_some_iff.1 hj).1]
      exact hj
theorem fl_drop {w : World} {b o c k : Nat} {fs : List Dk.File} (h : Cells w (.slice (some ⟨b, o, none⟩) fs.length c) 3 fs.length (flCells fs)) (hk : k ≤ fs.length) (o' c' : Nat) (ho : o' = o + k * 3 ∨ k = fs.length) : Cells w (.slice (some ⟨b, o', none⟩) (fs.length - k) c') 3 (fs.length - k) (flCells (fs.drop k)) := by
  have hl : (fs.drop k).length = fs.length - k := List.length_drop
  refine ⟨by rw [flCells_len, hl], ?_⟩
  by_cases h0 : fs.length - k = 0
  · rw [h0]; exact .inl ⟨rfl, _, _, rfl⟩
  · obtain rfl : o' = o + k * 3 := by
      rcases ho with h | h
      · exact h
      · omega
    refine .inr ⟨b, o + k * 3, c', rfl, fun j u hj => ?_⟩
    rcases h.2 with ⟨hz, _⟩ | ⟨b2, o2, c2, hv, hx⟩
    · omega
    · cases hv
      have hlt : (flCells (fs.take k)).length = k * 3 := by rw [flCells_len, List.length_take]; congr 1; omega
      have e : flCells fs = flCells (fs.take k) ++ flCells (fs.drop k) := by rw [← flCells_append, List.take_append_drop]
      have := hx (k * 3 + j) u (by rw [e, List.getElem?_append_right (by omega), hlt, Nat.add_sub_cancel_left]; exact hj)
      rw [Nat.add_assoc]
      exact this
theorem fl_one (fs : List Dk.File) : ∀ u ∈ flCells fs, u.oneCell' = true := by
  intro u hu
  simp only [flCells, List.mem_flatMap] at hu
  obtain ⟨p, hp, hu⟩ := hu
  simp only [List.mem_cons, List.not_mem_nil, or_false] at hu
  rcases hu with rfl | rfl | rfl <;> rfl
theorem Dk.del_idx {k : List UInt8} : ∀ (fs : List Dk.File), Dk.Sorted fs → (Dk.look fs k).isSome → Dk.del k fs = fs.take (Dk.idx k fs) ++ fs.drop (Dk.idx k fs + 1)
  | [], _, h => by simp [Dk.look] at h
  | x :: fs, hs, h => by
    have h' := List.pairwise_cons.1 hs
    rw [Dk.del, Dk.idx]
    by_cases e : x.name = k
    · subst e
      rw [if_pos rfl, if_neg Std.lt_irrefl]; rfl
    · rw [if_neg e]
      rw [Dk.look, if_neg e] at h
      obtain ⟨z, hz⟩ := Option.isSome_iff_exists.1 h
      have hz2 := Dk.look_name hz
      have h3 := h'.1 z hz2.2
      rw [hz2.1] at h3
      rw [if_pos h3, Dk.del_idx fs h'.2 h]
      rfl
theorem Dk.del_fit {room : Int} {fs : List Dk.File} (h : Dk.Fit room fs) (k : List UInt8) : Dk.Fit room (Dk.del k fs) := by
  have h1 := Dk.del_len k fs
  have h2 := Dk.del_total k fs
  have hl : (Dk.del k fs).length ≤ fs.length := by omega
  have ht : Dk.total (Dk.del k fs) ≤ Dk.total fs := by omega
  exact ⟨Nat.le_trans hl h.1, Dk.sorted_del k fs h.2.1, ⟨h.2.2.1.1, h.2.2.1.2.1, by have := h.2.2.1.2.2; omega⟩, fun x hx => h.2.2.2 x (Dk.mem_del k fs x hx)⟩
theorem fl_from {k lc n : Nat} (hk : k ≤ n) (hn : n ≤ lc) : ∃ o2, (lc = k ∧ o2 = 0 ∨ lc ≠ k ∧ o2 = k * 3) ∧ (o2 = 0 + k * 3 ∨ k = n) := by
  by_cases h : lc = k
  · exact ⟨0, .inl ⟨h, rfl⟩, .inr (by omega)⟩
  · exact ⟨k * 3, .inr ⟨h, rfl⟩, .inl (by omega)⟩
/-- Its row is another one now. -/
theorem IsR.newRow {a w : World} {d : Nat} {room : Int} {fs' : List Dk.File} {ft : Nat → Prop} {u v : Value} (h1 : w.heap[d]? = some (.cells #[u, .int .i64 room] 176 (0, 0)))
    (o : w.ownsRow a.heap.size 178 3 v fs'.length (flCells fs')) (hd : ft d) (hf : Dk.Fit room fs') (hb : Below a.heap.size a w) : RStep d room fs' ft a (w.setCell ⟨d, 0, none⟩ v) := by
  have hne := cells_not_row h1 (by decide) o
  have o2 := o.kept (grown_set w d 0 v) (.inr hne.symm)
  refine ⟨fun j => ft j ∨ a.heap.size ≤ j, ⟨v, setCell_at (i := 0) h1 v, ownsRow_low o2 (Nat.zero_le _), hf.1, hf.2.1, hf.2.2.1, .inl hd, (fun b hb => .inr (o.lt b hb).1), hf.2.2.2⟩, fun j hj => hj, ?_⟩
  exact (Turn.of_below (ft := ft) hb).trans (Turn.of_grown (grown_set w d 0 v) hd) (fun j hj => .inl hj)
set_option maxHeartbeats 1000000 in
set_option maxRecDepth 100000 in
theorem rdDelete_any (d : Nat) (room : Int) (fs : List Dk.File) (ft : Nat → Prop) (nm : ByteArray) (w : World) (h : IsR w d room fs ft) :
    Calls Tryz.prog 66 #[.pointer (some ⟨d, 0, none⟩), .string nm] w fun e w' => e = .returned (.int .i64 ((Dk.delete nm.data.toList fs).2 : Nat)) ∧ RStep d room (Dk.delete nm.data.toList fs).1 ft w w' := by
  have HF := Lib.hid (rfind_any d room fs ft nm w h)
  have HI := Lib.hid h
  cases hl : Dk.look fs nm.data.toList with
  | none =>
    have HQ := Lib.hid (show Dk.delete nm.data.toList fs = (fs, 6) by rw [Dk.delete, hl])
    rw [hl] at HF
    clear h hl
    go_enter Tryz.func66, Tryz.ntmps66
    go_wp2_with fail
    refine HF.out.mono ?_
    rintro e w1 ⟨rfl, b1⟩
    go_wp2
    go_ret
    exact ⟨by rw [HQ.out]; rfl, by rw [HQ.out]; exact RStep.of_below HI.out b1⟩
  | some x =>
    have hfit := h.fit
    obtain ⟨hi, hx⟩ := Dk.idx_some hfit.2.1 hl
    have hq : Dk.delete nm.data.toList fs = (Dk.del nm.data.toList fs, 0) := by rw [Dk.delete, hl]
    have hdi := Dk.del_idx (k := nm.data.toList) fs hfit.2.1 (by rw [hl]; rfl)
    have hfit2 := Lib.hid (Dk.del_fit hfit nm.data.toList)
    rw [hl] at HF
    obtain ⟨K, hK⟩ : ∃ K, Dk.idx nm.data.toList fs = K := ⟨_, rfl⟩
    obtain ⟨fs2, hfs2⟩ : ∃ fs2, Dk.del nm.data.toList fs = fs2 := ⟨_, rfl⟩
    rw [hfs2] at hq hdi hfit2
    rw [hK] at HF hi hdi
    obtain ⟨g, cap, h1, h2, h6, h7, hne, hcap, hcm⟩ := h.row (by omega)
    have hm : fs.length ≤ 40 := hfit.1
    have HC := Lib.hid (cells_of_owns h2)
    have d0 : w.cell? ⟨d, 0, none⟩ = some (.slice (some ⟨g, 0, none⟩) fs.length cap) := by rw [Lib.cell_of_heap h1]; rfl
    have HQ := Lib.hid hq
    have HDI := Lib.hid hdi
    have H1 := Lib.hid h1
    clear hl hK hx hq h hfit hdi hfs2 h1 h2
    go_enter Tryz.func66, Tryz.ntmps66
    go_wp2_with fail
    refine HF.out.mono ?_
    rintro e w1 ⟨rfl, b1⟩
    have hb1a : Below w.heap.size w (w1.alloc (.cells #[] 178)) := b1.alloc b1.size _
    have hfr : (w1.alloc (.cells #[] 178)).ownsRow w.heap.size 178 3 (.slice (some ⟨w1.heap.size, 0, none⟩) 0 0) 0 [] := owns_fresh w1 _ _ _ b1.size
    have k0 := cell_kept hb1a (Nat.le_refl _) d0
    have hsz : w.heap.size ≤ (w1.alloc (.cells #[] 178)).heap.size := hb1a.size
    have HCT := Lib.hid (fl_take (Cells.next HC.out hb1a) (Nat.le_of_lt hi) cap)
    have HA := Lib.hid hb1a
    have HFR := Lib.hid hfr
    clear hfr hb1a
    go_wp2_with (at_builtin; refine wpList_append_row rfl _ _ rfl flT w.heap.size (.slice (some ⟨w1.heap.size, 0, none⟩) 0 0) 0 [] rfl HFR.out _ K (flCells (fs.take K)) rfl HCT.out (fl_one _) (by omega) hsz ?_)
    intro v2 w2 own2 g2 ne2
    have hb2 : Below w.heap.size w w2 := HA.out.grown g2 (by omega) (fun k hk => (HFR.out.lt k hk).1)
    have k2 := cell_kept hb2 (Nat.le_refl _) d0
    obtain ⟨o2, ho2, ho3⟩ := fl_from (k := K + 1) (lc := cap) (n := fs.length) (by omega) hcap
    have HCD := Lib.hid (fun c' => fl_drop (Cells.next HC.out hb2) (show K + 1 ≤ fs.length by omega) o2 c' ho3)
    have hsz2 := hb2.size
    have HB2 := Lib.hid hb2
    have HO2 := Lib.hid own2
    clear own2 g2 ne2 hb2 HA HFR HCT k0 hsz
    rcases ho2 with ⟨hcc, rfl⟩ | ⟨hcc, rfl⟩
    all_goals
      go_wp2_with (at_builtin; refine wpList_append_row rfl _ _ rfl flT w.heap.size v2 K (flCells (fs.take K)) rfl HO2.out _ (fs.length - (K + 1)) (flCells (fs.drop (K + 1))) rfl (HCD.out _) (fl_one _) (by omega) hsz2 ?_)
      intro v3 w3 own3 g3 ne3
      obtain ⟨sa3, sl3, sc3, rfl⟩ := slice_of_owns own3
      have hb3 : Below w.heap.size w w3 := HB2.out.grown g3 (by omega) (fun k hk => (HO2.out.lt k hk).1)
      have hlen : fs2.length = K + (fs.length - (K + 1)) := by rw [HDI.out, List.length_append, List.length_take, List.length_drop]; omega
      rw [← flCells_append, ← HDI.out, ← hlen] at own3
      have hh3 := heap_kept hb3 (Nat.le_refl _) H1.out
      have k3 := cell_kept hb3 (Nat.le_refl _) d0
      have f3 : w3.frozen? ⟨d, 0, none⟩ = false := Lib.frozen_of_heap hh3 0
      have HN := Lib.hid (IsR.newRow hh3 own3 h6 hfit2.out hb3)
      clear own3 g3 ne3 hb3 hh3 k2 HO2 HB2 HCD
      go_wp2
      go_ret
      exact ⟨by rw [HQ.out]; rfl, by rw [HQ.out]; exact HN.out⟩
end Go.Proofs.YtiaddfghojdgkaaGreatDoor
