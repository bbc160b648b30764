/-
  The document's disk: the walks of Read, Synced, Used, List, Sync.
-/
import Derived.Test.YtiaddfghojdgkaaGreatDoorRDka
import Derived.Test.YtiaddfghojdgkaaGreatDoorAt
namespace Go.Proofs.YtiaddfghojdgkaaGreatDoor
open Go.RowKit Go.Shelf

set_option maxHeartbeats 1000000 in
set_option maxRecDepth 100000 in
theorem rdRead_any (d : Nat) (room : Int) (fs : List Dk.File) (ft : Nat → Prop) (nm : ByteArray) (w : World) (h : IsR w d room fs ft) :
    Calls Tryz.prog 72 #[.pointer (some ⟨d, 0, none⟩), .string nm] w fun e w' => e = .returned (.tuple #[.string (Dk.read nm.data.toList fs).1, .int .i64 ((Dk.read nm.data.toList fs).2 : Nat)]) ∧ Below w.heap.size w w' := by
  have HF := Lib.hid (rfind_any d room fs ft nm w h)
  obtain ⟨v, h1, h2, h3, h4, -⟩ := h
  have d0 : w.cell? ⟨d, 0, none⟩ = some v := by rw [Lib.cell_of_heap h1]; rfl
  have HC := Lib.hid (cells_of_owns h2)
  obtain ⟨sa, sc, rfl⟩ := cells_sliceV HC.out
  cases hl : Dk.look fs nm.data.toList with
  | none =>
    have HQ := Lib.hid (show Dk.read nm.data.toList fs = (⟨#[]⟩, 6) by rw [Dk.read, hl])
    rw [hl] at HF
    clear h1 h2 h4 HC hl
    go_enter Tryz.func72, Tryz.ntmps72
    go_wp2_with fail
    refine HF.out.mono ?_
    rintro e w1 ⟨rfl, b1⟩
    go_wp2
    go_ret2
    exact ⟨by rw [HQ.out]; rfl, b1⟩
  | some x =>
    have HQ := Lib.hid (show Dk.read nm.data.toList fs = (x.bytes, 0) by rw [Dk.read, hl])
    obtain ⟨hi, hx⟩ := Dk.idx_some h4 hl
    rw [hl] at HF
    obtain ⟨b, o, c, hv, -, c1, -⟩ := flAt HC.out _ hi
    cases hv
    rw [hx] at c1
    obtain ⟨K, hK⟩ : ∃ K, Dk.idx nm.data.toList fs = K := ⟨_, rfl⟩
    rw [hK] at HF c1 hi
    clear h1 h2 h4 HC hl hK hx
    go_enter Tryz.func72, Tryz.ntmps72
    go_wp2_with fail
    refine HF.out.mono ?_
    rintro e w1 ⟨rfl, b1⟩
    have d0 := cell_kept b1 (Nat.le_refl _) d0
    have c1 := cell_kept b1 (Nat.le_refl _) c1
    go_wp2
    go_ret2
    exact ⟨by rw [HQ.out]; rfl, b1⟩
set_option maxHeartbeats 1000000 in
set_option maxRecDepth 100000 in
theorem rdSynced_any (d : Nat) (room : Int) (fs : List Dk.File) (ft : Nat → Prop) (nm : ByteArray) (w : World) (h : IsR w d room fs ft) :
    Calls Tryz.prog 74 #[.pointer (some ⟨d, 0, none⟩), .string nm] w fun e w' => e = .returned (.int .i64 (Dk.synced nm.data.toList fs : Nat)) ∧ Below w.heap.size w w' := by
  have HF := Lib.hid (rfind_any d room fs ft nm w h)
  obtain ⟨v, h1, h2, h3, h4, -⟩ := h
  have d0 : w.cell? ⟨d, 0, none⟩ = some v := by rw [Lib.cell_of_heap h1]; rfl
  have HC := Lib.hid (cells_of_owns h2)
  obtain ⟨sa, sc, rfl⟩ := cells_sliceV HC.out
  cases hl : Dk.look fs nm.data.toList with
  | none =>
    have HQ := Lib.hid (show Dk.synced nm.data.toList fs = 0 by rw [Dk.synced, hl])
    rw [hl] at HF
    clear h1 h2 h4 HC hl
    go_enter Tryz.func74, Tryz.ntmps74
    go_wp2_with fail
    refine HF.out.mono ?_
    rintro e w1 ⟨rfl, b1⟩
    go_wp2
    go_ret
    exact ⟨by rw [HQ.out]; rfl, b1⟩
  | some x =>
    have HQ := Lib.hid (show Dk.synced nm.data.toList fs = x.synced by rw [Dk.synced, hl])
    obtain ⟨hi, hx⟩ := Dk.idx_some h4 hl
    rw [hl] at HF
    obtain ⟨b, o, c, hv, -, -, c1⟩ := flAt HC.out _ hi
    cases hv
    rw [hx] at c1
    obtain ⟨K, hK⟩ : ∃ K, Dk.idx nm.data.toList fs = K := ⟨_, rfl⟩
    rw [hK] at HF c1 hi
    clear h1 h2 h4 HC hl hK hx
    go_enter Tryz.func74, Tryz.ntmps74
    go_wp2_with fail
    refine HF.out.mono ?_
    rintro e w1 ⟨rfl, b1⟩
    have d0 := cell_kept b1 (Nat.le_refl _) d0
    have c1 := cell_kept b1 (Nat.le_refl _) c1
    go_wp2
    go_ret
    exact ⟨by rw [HQ.out]; rfl, b1⟩
theorem Dk.total_take {fs : List Dk.File} {i : Nat} (h : i < fs.length) : Dk.total (fs.take (i + 1)) = Dk.total (fs.take i) + (fs[i]).bytes.size := by
  rw [List.take_succ_eq_append_getElem h, Dk.total_append]; rfl
theorem Dk.total_take_le {fs : List Dk.File} {i : Nat} : Dk.total (fs.take i) ≤ Dk.total fs := by
  have := Dk.total_append (fs.take i) (fs.drop i)
  rw [List.take_append_drop] at this
  omega
set_option maxHeartbeats 1000000 in
set_option maxRecDepth 100000 in
theorem rdUsed_any (d : Nat) (room : Int) (fs : List Dk.File) (ft : Nat → Prop) (w : World) (h : IsR w d room fs ft) :
    Calls Tryz.prog 70 #[.pointer (some ⟨d, 0, none⟩)] w fun e w' => e = .returned (.int .i64 (Dk.total fs : Nat)) ∧ w = w' := by
  obtain ⟨v, h1, h2, h3, h4, h5, -⟩ := h
  have d0 : w.cell? ⟨d, 0, none⟩ = some v := by rw [Lib.cell_of_heap h1]; rfl
  have HC := Lib.hid (cells_of_owns h2)
  obtain ⟨sa, sc, rfl⟩ := cells_sliceV HC.out
  have htot : Dk.total fs ≤ 1073741824 := by omega
  clear h1 h2 h4 h5
  go_enter Tryz.func70, Tryz.ntmps70
  go_wp2
  go_loopw [3, 4] (fun nv iv wr => ∃ i : Nat, nv = .int .i64 (Dk.total (fs.take i) : Nat) ∧ iv = .int .i64 (i : Int) ∧ i ≤ fs.length ∧ wr = w) (fun _ iv _ => fs.length - (intOf iv).toNat)
  case atStart => exact ⟨0, rfl, rfl, Nat.zero_le _, by first | rfl | trivial⟩
  case round =>
    obtain ⟨i, rfl, rfl, hi, rfl⟩ := hrel
    by_cases hgo : i < fs.length
    · have hgi : (i : Int) < (fs.length : Int) := by omega
      obtain ⟨b, o, c, hv, -, c1, -⟩ := flAt HC.out i hgo
      cases hv
      have HT := Lib.hid (Dk.total_take hgo)
      obtain ⟨x, hx⟩ : ∃ x, (fs[i]).bytes = x := ⟨_, rfl⟩
      have hb2 := Dk.total_take_le (fs := fs) (i := i + 1)
      rw [hx] at HT c1
      rw [HT.out] at hb2
      obtain ⟨n, hn⟩ : ∃ n, Dk.total (fs.take i) = n := ⟨_, rfl⟩
      rw [hn] at HT hb2 ⊢
      have hw : wrap64 ((n : Int) + (x.size : Int)) = (n : Int) + (x.size : Int) := IntWalk.wrap64_in _ (by omega)
      clear hx hn
      go_wp2
      exact ⟨⟨i + 1, by rw [HT.out]; simp, by go_num, hgo, trivial⟩, by simp [intOf]; omega⟩
    · have hgi : ¬ (i : Int) < (fs.length : Int) := by omega
      obtain rfl : i = fs.length := by omega
      have HT := Lib.hid (show Dk.total (fs.take fs.length) = Dk.total fs by rw [List.take_length])
      go_wp2
      go_ret
      exact ⟨rfl, rfl⟩
end Go.Proofs.YtiaddfghojdgkaaGreatDoor
