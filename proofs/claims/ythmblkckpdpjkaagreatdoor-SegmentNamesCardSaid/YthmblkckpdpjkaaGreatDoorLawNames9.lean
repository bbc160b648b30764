/-
  The walk of the law SegmentNames.
-/
import Derived.Test.YthmblkckpdpjkaaGreatDoorShow
namespace Go.Proofs.YthmblkckpdpjkaaGreatDoor
open Go.RowKit Go.Shelf

set_option maxHeartbeats 4000000 in
theorem segmentNames_any (n : Int) (s : ByteArray) (w : World) (hE : Env w) :
    Calls Tryz.prog 3 #[.int .i64 n, .string s] w fun e w' => e = .returned (.bool true) ∧ Below w.heap.size w w' := by
  have HS := Lib.hid (shown_any w hE)
  have HE := Lib.hid hE
  clear hE
  go_enter Tryz.func3, Tryz.ntmps3
  go_wp2_with fail
  refine HS.out.mono ?_
  rintro e w1 ⟨rfl, hb1⟩
  clear HS
  by_cases h200 : 200 < s.size
  · go_wp2
    go_ret
    exact ⟨rfl, hb1⟩
  have HN := Lib.hid (segName_any n w1 (HE.out.next hb1))
  have hnl := Seg.name_len n
  obtain ⟨nm, hnm⟩ : ∃ nm, Seg.nameOf n = nm := ⟨_, rfl⟩
  have hcase : nm = [] ∨ (nm.isEmpty = false ∧ Seg.numberOf nm = n) := by
    by_cases h : 1 ≤ n ∧ n ≤ 1073741824
    · right
      refine ⟨?_, by rw [← hnm]; exact Seg.number_name n h.1 h.2⟩
      have := Seg.name_ne n h.1 h.2
      rw [hnm] at this
      cases nm with
      | nil => exact absurd rfl this
      | cons c r => rfl
    · left; rw [← hnm]; unfold Seg.nameOf; rw [if_neg h]
  have HR := fun (X : World) => refSegName_any n X
  rw [hnm] at HN hnl
  simp only [hnm] at HR
  have HR := Lib.hid HR
  have hns : (⟨nm.toArray⟩ : ByteArray).size ≤ 14 := by rw [Lib.size_eq]; exact hnl
  clear hnm
  have hself : (nm == nm) = true := beq_self_eq_true nm
  go_wp2_with fail
  refine HN.out.mono ?_
  rintro e w2 ⟨rfl, b2⟩
  have hb2 := Below.up hb1 (Nat.le_refl _) b2
  clear HN b2
  go_wp2_with fail
  refine (HR.out w2).mono ?_
  rintro e w3 ⟨rfl, h3⟩
  obtain rfl := h3.symm
  have HM := Lib.hid (segNumber_any s w2 (HE.out.next hb2) (by omega))
  go_wp2_with fail
  refine HM.out.mono ?_
  rintro e w4 ⟨rfl, b4⟩
  have hb4 := Below.up hb2 (Nat.le_refl _) b4
  clear HM b4
  go_wp2_with fail
  refine (refNumber_any s w4).mono ?_
  rintro e w5 ⟨rfl, h5⟩
  obtain rfl := h5.symm
  rcases hcase with h | ⟨h, hv⟩
  · subst h
    go_wp2
    go_ret
    exact ⟨rfl, hb4⟩
  · have HM := segNumber_any ⟨nm.toArray⟩ w4 (HE.out.next hb4) (by omega)
    rw [show Seg.numberOf (⟨nm.toArray⟩ : ByteArray).data.toList = n from hv] at HM
    have HM := Lib.hid HM
    clear hv
    go_wp2_with fail
    refine HM.out.mono ?_
    rintro e w6 ⟨rfl, b6⟩
    have hb6 := Below.up hb4 (Nat.le_refl _) b6
    go_wp2
    go_ret
    exact ⟨rfl, hb6⟩
end Go.Proofs.YthmblkckpdpjkaaGreatDoor
