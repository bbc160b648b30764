/-
  The walks of event.reader's methods: parts off the front of bytes, up to the first error.
-/
import Derived.Test.YthmblkckpdpjkaaGreatDoorPutBatch
namespace Go.Proofs.YthmblkckpdpjkaaGreatDoor
open Go.RowKit Go.Shelf

/-- A reader at a block: what is left, and the first error. -/
def Rdr (b : Nat) (L : ByteArray) (c : Nat) (w : World) : Prop := w.heap[b]? = some (.cells #[.string L, .int .i64 (c : Int)] 188 (0, 0))
theorem grown_some {A B : World} {b : Nat} (h : A.grownBy B none) : A.grownBy B (some b) := ⟨h.os, h.tape, h.output, h.size, fun k hk _ => h.block k hk (by simp)⟩
theorem grown_trans {A B C : World} {r : Option Nat} (h : A.grownBy B r) (k : B.grownBy C r) : A.grownBy C r :=
  ⟨k.os.trans h.os, k.tape.trans h.tape, k.output.trans h.output, Nat.le_trans h.size k.size, fun j hj hr => (k.block j (Nat.lt_of_lt_of_le hj h.size) hr).trans (h.block j hj hr)⟩
theorem grown_set (W : World) (b i : Nat) (v : Value) : W.grownBy (W.setCell ⟨b, i, none⟩ v) (some b) :=
  ⟨rfl, rfl, rfl, by simp, fun k _ hk => Below.heap_setCell _ _ _ k (fun e => hk (by rw [e]))⟩
theorem below_of_grown {A B : World} {b n : Nat} (h : A.grownBy B (some b)) (hn : n ≤ b) (hA : n ≤ A.heap.size) : Below n A B :=
  (Below.refl n A).grown h hA (fun k e => by cases e; exact hn)
theorem Rdr.lt {b : Nat} {L : ByteArray} {c : Nat} {w : World} (h : Rdr b L c w) : b < w.heap.size := (Array.getElem?_eq_some_iff.1 h).1
theorem Rdr.cells {b : Nat} {L : ByteArray} {c : Nat} {w : World} (h : Rdr b L c w) : w.cell? ⟨b, 0, none⟩ = some (.string L) ∧ w.cell? ⟨b, 1, none⟩ = some (.int .i64 (c : Int)) ∧ w.frozen? ⟨b, 0, none⟩ = false ∧ w.frozen? ⟨b, 1, none⟩ = false :=
  ⟨by rw [Lib.cell_of_heap h]; rfl, by rw [Lib.cell_of_heap h]; rfl, Lib.frozen_of_heap h 0, Lib.frozen_of_heap h 1⟩
theorem Rdr.kept {b : Nat} {L : ByteArray} {c : Nat} {w w' : World} {r : Option Nat} (h : Rdr b L c w) (hg : w.grownBy w' r) (hr : some b ≠ r) : Rdr b L c w' := (hg.block b h.lt hr).trans h
/-- Behind a part's taking: both fields are stored. -/
theorem Rdr.put {b : Nat} {L : ByteArray} {c : Nat} {w w1 : World} (h : Rdr b L c w) (hb : Below w.heap.size w w1) (L' : ByteArray) (c' : Nat) :
    Rdr b L' c' ((w1.setCell ⟨b, 0, none⟩ (.string L')).setCell ⟨b, 1, none⟩ (.int .i64 (c' : Int))) ∧ w.grownBy ((w1.setCell ⟨b, 0, none⟩ (.string L')).setCell ⟨b, 1, none⟩ (.int .i64 (c' : Int))) (some b) :=
  ⟨setCell_at (setCell_at (heap_kept hb (Nat.le_refl _) h) _) _, grown_trans (grown_trans (grown_some (grown_of_below hb)) (grown_set _ _ _ _)) (grown_set _ _ _ _)⟩

theorem note_any (b : Nat) (L : ByteArray) (c k : Nat) (w : World) (h : Rdr b L c w) :
    Calls Tryz.prog 151 #[.pointer (some ⟨b, 0, none⟩), .int .i64 (k : Int)] w fun e w' => ∃ c', e = .returned (.tuple #[]) ∧ Hid (Evt.note (L.data.toList, c) k = (L.data.toList, c')) ∧ Rdr b L c' w' ∧ w.grownBy w' (some b) := by
  obtain ⟨h0, h1, f0, f1⟩ := h.cells
  by_cases hc : c = 0
  · have hcb : ((c : Int) == 0) = true := by simp [hc]
    have HF := Lib.hid (show Evt.note (L.data.toList, c) k = (L.data.toList, k) by rw [Evt.note, if_pos hc])
    go_enter Tryz.func151, Tryz.ntmps151
    go_wp2
    go_end0
    exact ⟨k, rfl, HF, setCell_at h _, grown_set _ _ _ _⟩
  · have hcb : ((c : Int) == 0) = false := by simp; omega
    have HF := Lib.hid (show Evt.note (L.data.toList, c) k = (L.data.toList, c) by rw [Evt.note, if_neg hc])
    go_enter Tryz.func151, Tryz.ntmps151
    go_wp2
    go_end0
    exact ⟨c, rfl, HF, h, grown_some ⟨rfl, rfl, rfl, Nat.le_refl _, fun _ _ _ => rfl⟩⟩
theorem number_any (b : Nat) (L : ByteArray) (c : Nat) (w : World) (h : Rdr b L c w) (hL : L.size ≤ 1000000000) :
    Calls Tryz.prog 150 #[.pointer (some ⟨b, 0, none⟩)] w fun e w' => ∃ (n : Nat) (L' : ByteArray) (c' : Nat), e = .returned (.int .i64 (n : Int)) ∧ Hid (Evt.rdNum (L.data.toList, c) = (n, L'.data.toList, c')) ∧ L'.size ≤ L.size ∧ Rdr b L' c' w' ∧ w.grownBy w' (some b) := by
  obtain ⟨h0, h1, f0, f1⟩ := h.cells
  have hbl := h.lt
  by_cases hc : c = 0
  · have hcb : ((c : Int) != 0) = false := by simp [hc]
    go_enter Tryz.func150, Tryz.ntmps150
    go_wp2_with fail
    refine (numTake_any L w (by omega)).mono ?_
    rintro e w1 ⟨n, r, c', rfl, HT, b1⟩
    have hrs : r.size ≤ L.size := by have := (Num.take_le L.data.toList).2.1; rw [HT.out, ← Lib.size_eq, ← Lib.size_eq] at this; exact this
    have HF := Lib.hid (show Evt.rdNum (L.data.toList, c) = (n, r.data.toList, c') by rw [Evt.rdNum, if_neg (by simpa using hc), HT.out])
    have h0' := cell_kept b1 (Nat.le_refl _) h0
    have h1' := cell_kept b1 (Nat.le_refl _) h1
    have hk := heap_kept b1 (Nat.le_refl _) h
    have f0' := Lib.frozen_of_heap hk 0
    have f1' := Lib.frozen_of_heap hk 1
    have HP := Lib.hid (h.put b1 r c')
    clear hk h0 h1 f0 f1 HT
    go_wp2
    go_ret
    exact ⟨n, r, c', rfl, HF, hrs, HP.out.1, HP.out.2⟩
  · have hcb : ((c : Int) != 0) = true := by simp; omega
    have HF := Lib.hid (show Evt.rdNum (L.data.toList, c) = (0, L.data.toList, c) by rw [Evt.rdNum, if_pos hc])
    go_enter Tryz.func150, Tryz.ntmps150
    go_wp2
    go_ret
    exact ⟨0, L, c, rfl, HF, Nat.le_refl _, h, grown_some ⟨rfl, rfl, rfl, Nat.le_refl _, fun _ _ _ => rfl⟩⟩
theorem signed_any (b : Nat) (L : ByteArray) (c : Nat) (w : World) (h : Rdr b L c w) (hL : L.size ≤ 1000000000) :
    Calls Tryz.prog 149 #[.pointer (some ⟨b, 0, none⟩)] w fun e w' => ∃ (n : Int) (L' : ByteArray) (c' : Nat), e = .returned (.int .i64 n) ∧ Hid (Evt.rdInt (L.data.toList, c) = (n, L'.data.toList, c')) ∧ L'.size ≤ L.size ∧ Rdr b L' c' w' ∧ w.grownBy w' (some b) := by
  obtain ⟨h0, h1, f0, f1⟩ := h.cells
  have hbl := h.lt
  by_cases hc : c = 0
  · have hcb : ((c : Int) != 0) = false := by simp [hc]
    go_enter Tryz.func149, Tryz.ntmps149
    go_wp2_with fail
    refine (takeInt_any L w (by omega)).mono ?_
    rintro e w1 ⟨n, r, c', rfl, HT, b1⟩
    have hrs : r.size ≤ L.size := by
      have h1 := (Num.take_le L.data.toList).2.1
      have h2 : (Num.take L.data.toList).2.1 = r.data.toList := by have := HT.out; unfold Num.takeInt at this; simp only [Prod.mk.injEq] at this; exact this.2.1
      rw [h2, ← Lib.size_eq, ← Lib.size_eq] at h1; exact h1
    have HF := Lib.hid (show Evt.rdInt (L.data.toList, c) = (n, r.data.toList, c') by rw [Evt.rdInt, if_neg (by simpa using hc), HT.out])
    have h0' := cell_kept b1 (Nat.le_refl _) h0
    have h1' := cell_kept b1 (Nat.le_refl _) h1
    have hk := heap_kept b1 (Nat.le_refl _) h
    have f0' := Lib.frozen_of_heap hk 0
    have f1' := Lib.frozen_of_heap hk 1
    have HP := Lib.hid (h.put b1 r c')
    clear hk h0 h1 f0 f1 HT
    go_wp2
    go_ret
    exact ⟨n, r, c', rfl, HF, hrs, HP.out.1, HP.out.2⟩
  · have hcb : ((c : Int) != 0) = true := by simp; omega
    have HF := Lib.hid (show Evt.rdInt (L.data.toList, c) = (0, L.data.toList, c) by rw [Evt.rdInt, if_pos hc])
    go_enter Tryz.func149, Tryz.ntmps149
    go_wp2
    go_ret
    exact ⟨0, L, c, rfl, HF, Nat.le_refl _, h, grown_some ⟨rfl, rfl, rfl, Nat.le_refl _, fun _ _ _ => rfl⟩⟩
theorem rname_any (b : Nat) (L : ByteArray) (c : Nat) (w : World) (h : Rdr b L c w) (hL : L.size ≤ 1000000000) :
    Calls Tryz.prog 148 #[.pointer (some ⟨b, 0, none⟩)] w fun e w' => ∃ (n : ByteArray) (L' : ByteArray) (c' : Nat), e = .returned (.string n) ∧ Hid (Evt.rdName (L.data.toList, c) = (n.data.toList, L'.data.toList, c')) ∧ L'.size ≤ L.size ∧ n.size ≤ L.size ∧ Rdr b L' c' w' ∧ w.grownBy w' (some b) := by
  obtain ⟨h0, h1, f0, f1⟩ := h.cells
  have hbl := h.lt
  by_cases hc : c = 0
  · have hcb : ((c : Int) != 0) = false := by simp [hc]
    go_enter Tryz.func148, Tryz.ntmps148
    go_wp2_with fail
    refine (takeText_any L 200 w (by omega)).mono ?_
    rintro e w1 ⟨n, r, c', rfl, HT, b1⟩
    have hle := Num.takeText_le L.data.toList 200
    rw [HT.out] at hle
    simp only [← Lib.size_eq] at hle
    have hrs : r.size ≤ L.size := hle.2.2.2.1
    have hns : n.size ≤ L.size := hle.2.2.1
    have HF := Lib.hid (show Evt.rdName (L.data.toList, c) = (n.data.toList, r.data.toList, c') by rw [Evt.rdName, if_neg (by simpa using hc), HT.out])
    have h0' := cell_kept b1 (Nat.le_refl _) h0
    have h1' := cell_kept b1 (Nat.le_refl _) h1
    have hk := heap_kept b1 (Nat.le_refl _) h
    have f0' := Lib.frozen_of_heap hk 0
    have f1' := Lib.frozen_of_heap hk 1
    have HP := Lib.hid (h.put b1 r c')
    clear hk h0 h1 f0 f1 HT hle
    go_wp2
    go_ret
    exact ⟨n, r, c', rfl, HF, hrs, hns, HP.out.1, HP.out.2⟩
  · have hcb : ((c : Int) != 0) = true := by simp; omega
    have HF := Lib.hid (show Evt.rdName (L.data.toList, c) = ([], L.data.toList, c) by rw [Evt.rdName, if_pos hc])
    go_enter Tryz.func148, Tryz.ntmps148
    go_wp2
    go_ret
    exact ⟨_, L, c, rfl, HF, Nat.le_refl _, Nat.zero_le _, h, grown_some ⟨rfl, rfl, rfl, Nat.le_refl _, fun _ _ _ => rfl⟩⟩
end Go.Proofs.YthmblkckpdpjkaaGreatDoor
