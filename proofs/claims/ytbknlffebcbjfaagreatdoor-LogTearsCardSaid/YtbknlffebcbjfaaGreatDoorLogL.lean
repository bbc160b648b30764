/-
  The walk of the law package 11's examples: shown.
-/
import Derived.Test.YtbknlffebcbjfaaGreatDoorLogH
import Derived.Test.YtbknlffebcbjfaaGreatDoorLogU
namespace Go.Proofs.YtbknlffebcbjfaaGreatDoor
open Go.RowKit Go.Shelf

namespace Lg
theorem cutF_parts (room last : Int) (s : S) (fs : List Dk.File) : (cutF room last s fs).1.2.parts = s.parts := by
  unfold cutF
  split
  · rfl
  split <;> rfl
theorem truncF_parts (room last : Int) (s : S) (fs : List Dk.File) : (truncF room last s fs).1.2.parts <+: s.parts := by
  unfold truncF
  split
  · exact List.prefix_rfl
  split
  · exact List.prefix_rfl
  split
  · split
    · exact List.prefix_rfl
    · rw [cutF_parts]; exact List.take_prefix _ _
  · rw [cutF_parts]; exact List.prefix_rfl
theorem trunc_prefix {room last next next2 : Int} {nums nums2 : List Int} {L L2 : List Evt.Entry} {fs f2 : List Dk.File} {c : Nat} (h : truncF room last (stateOf next nums L) fs = ((f2, stateOf next2 nums2 L2), c)) : nums2 <+: nums := by
  have := truncF_parts room last (stateOf next nums L) fs
  rw [h] at this
  have h2 := this.map (·.1)
  have e1 : (stateOf next nums L).parts.map (·.1) = nums := parts_nums nums
  have e2 : (stateOf next2 nums2 L2).parts.map (·.1) = nums2 := parts_nums nums2
  rw [e1, e2] at h2
  exact h2
end Lg
theorem cells_newI (w : World) (l : List Int) (e : TypeId) : Cells (w.alloc (.cells (intCells l).toArray e)) (.slice (some ⟨w.heap.size, 0, none⟩) l.length l.length) 1 l.length (intCells l) := by
  refine ⟨by simp [intCells], .inr ⟨w.heap.size, 0, l.length, rfl, fun j u hj => ?_⟩⟩
  rw [Lib.cell_of_heap (heap_alloc_new w _)]
  simpa using hj
theorem own_capok {w : World} {base n sz : Nat} {e : TypeId} {v : Value} {xs : List Value} (h : w.ownsRow base e sz v n xs) : CapOk v := by
  rcases h.2 with ⟨rfl, _⟩ | ⟨g, cap, cur, rfl, _, _, h2, _⟩
  · exact Nat.le_refl _
  · exact h2
theorem Lg.shown_facts : ∃ f2 next2 f3 nums3, Lg.appendF 10000 (Lg.rowL 0 1 9) (Lg.stateOf 1 [] []) [] = ((f2, Lg.stateOf next2 [1, 2] (Lg.rowL 0 1 9)), 0) ∧ Lg.Holds f2 next2 [1, 2] (Lg.rowL 0 1 9) ∧
    Lg.truncF 10000 8 (Lg.stateOf next2 [1, 2] (Lg.rowL 0 1 9)) f2 = ((f3, Lg.stateOf next2 nums3 ((Lg.rowL 0 1 9).take 8)), 0) ∧ nums3 = [1] := by
  have hb := (Lg.rowL_plains 0 1 9).bytes
  rw [Lg.rowL_len] at hb
  have hfo := Lg.row_on (L := []) (ep := 1) (n := 9) rfl (fun e he => by cases he) (by omega) (by omega) (by simp)
  rw [List.nil_append] at hfo
  obtain ⟨f2, next2, nums2, q1, q2, q3, q4⟩ := Lg.held_nil.append (room := 10000) (Lg.rowL 0 1 9) (by rw [List.nil_append]; exact hfo) (by rw [List.nil_append, Lg.rowL_len]; omega) (by rw [Lg.rowL_len]; omega) (by rw [List.nil_append]; omega)
  rw [List.nil_append] at q1 q2 q4
  have hl := Lg.rowL_len 0 1 9
  have e : Lg.rowL ([] : List Evt.Entry).length 1 9 = Lg.rowL 0 1 9 := rfl
  obtain ⟨k, k1, k2⟩ := Lg.appendF_grown q1
  have hh := q2.high
  rw [hl] at q4 hh
  have hk : nums2.length = k := by rw [k2]; simp
  simp only [List.length_nil] at q4
  have hk2 : k = 2 := by omega
  subst hk2
  have hn : nums2 = [1, 2] := by rw [k2]; rfl
  rw [hn] at q1 q2
  obtain ⟨f3, nums3, t1, t2, t3, t4⟩ := q2.trunc (room := 10000) 8 (by omega)
  refine ⟨f2, next2, f3, nums3, q1, q2, t1, ?_⟩
  have hp := Lg.trunc_prefix t1
  have h8 := t2.high
  rw [List.length_take, hl] at h8
  have h9 := t4 (by rw [hl]; omega)
  rw [hl] at h9
  have hl1 : nums3.length = 1 := by omega
  have := List.prefix_iff_eq_take.1 hp
  rw [this, hl1]; rfl
variable {w : World}
set_option maxHeartbeats 8000000 in
set_option maxRecDepth 100000 in
theorem shown11_any (w : World) (hE : Env w) : Calls Tryz.prog 18 #[] w fun e w' => e = .returned (.bool true) ∧ Below w.heap.size w w' := by
  obtain ⟨f2, next2, f3, nums3, q1, q2, q3, rfl⟩ := Lg.shown_facts
  have HBG := Lib.hid (begun11_any 10000 w (by decide) (by decide))
  have HE := Lib.hid hE
  have HQ := Lib.hid (And.intro q1 (And.intro q2 q3))
  clear hE q1 q2 q3
  go_enter Tryz.func18, Tryz.ntmps18
  go_wp2_with fail
  refine HBG.out.mono ?_
  rintro e w1 ⟨d, m, ft, rfl, hd, hft, _, _, b1⟩
  obtain ⟨W, hW⟩ : ∃ W, W = w1.alloc (.cells #[.pointer (some ⟨d, 0, none⟩), .pointer (some ⟨m, 0, none⟩)] 48) := ⟨_, rfl⟩
  have bp : Below w1.heap.size w1 W := by rw [hW]; exact (Below.refl _ _).alloc (Nat.le_refl _) _
  have hP : PB11 w1.heap.size (.pointer (some ⟨d, 0, none⟩)) (.pointer (some ⟨m, 0, none⟩)) W := by rw [hW]; exact heap_alloc_new w1 _
  have hlt : ∀ j, ft j → j < W.heap.size := fun j hj => Nat.lt_of_lt_of_le (hft j hj).2 bp.size
  have HO := Lib.hid (open0 (R := fun _ _ => True) (a := w) ⟨HE.out, Below.up b1 (Nat.le_refl _) bp, fun j hj => (hft j hj).1⟩ (hd.next bp) hlt hP (fun h => by have := (hft _ h).2; omega) stable_true trivial (room := 10000) (by decide))
  obtain ⟨c0, _⟩ := hP.cells
  have HW := Lib.hid hW
  clear HBG hd hft b1 bp hP hlt hW
  go_wp2_with fail
  rw [← HW.out]
  refine HO.out.mono ?_
  rintro e w2 ⟨lg, rfl, hL2⟩
  have HL2 := Lib.hid hL2
  have HRW := Lib.hid (row11_any 0 1 9 w2 (by omega) (by omega) (by omega))
  clear HO hL2 c0
  go_wp2_with fail
  refine HRW.out.mono ?_
  rintro e w3 ⟨v, ps, rfl, hpl, hnr, b3⟩
  have hpsl : ps.length = 9 := by
    have := congrArg List.length hpl.out
    rw [Lg.rowL_len] at this
    simpa [plainE] using this
  have HAP := Lib.hid (append_new (s' := Lg.stateOf next2 [1, 2] (Lg.rowL 0 1 9)) (fs' := f2) (c := 0) HL2.out stable_true b3 hnr.out (by decide) (Lg.stateOf_bk Lg.held_nil _ (by rw [hpsl]; decide)) (own_capok hnr.out.1) (by omega) (by rw [hpl.out]; exact HQ.out.1))
  clear HRW hpl hnr b3 hpsl
  go_wp2_with fail
  refine HAP.out.mono ?_
  rintro e w4 ⟨rfl, hL4⟩
  have HSG := Lib.hid (segs_ll hL4 (by rw [show (Lg.stateOf next2 [1, 2] (Lg.rowL 0 1 9)).parts.length = 2 from Lg.parts_len [1, 2]]; omega))
  have HL4 := Lib.hid hL4
  clear HAP hL4
  go_wp2_with fail
  refine HSG.out.mono ?_
  rintro e w5 ⟨V, rfl, hV, b5⟩
  have hL5 := HL4.out.next stable_true b5
  have b6 : Below w5.heap.size w5 (w5.alloc (.cells #[.int .i64 1, .int .i64 2] 3)) := (Below.refl _ _).alloc (Nat.le_refl _) _
  have hnm : (Lg.stateOf next2 [1, 2] (Lg.rowL 0 1 9)).nums = [1, 2] := Lg.parts_nums [1, 2]
  have hO := hV.out
  rw [hnm] at hO
  have HSM := Lib.hid (sameInts11_any V (.slice (some ⟨w5.heap.size, 0, none⟩) 2 2) [1, 2] (w5.alloc (.cells #[.int .i64 1, .int .i64 2] 3)) (Cells.next (cells_of_owns hO) b6) (cells_newI w5 [1, 2] 3) (by simp))
  have HL6 := Lib.hid (hL5.next stable_true b6)
  clear HSG hV b5 hL5 b6 hO hnm
  go_wp2_with fail
  refine HSM.out.mono ?_
  rintro e w7 ⟨rfl, b7⟩
  have HL7 := Lib.hid (HL6.out.next stable_true b7)
  have HTR := Lib.hid (trunc_ll HL7.out stable_true (by decide) (Lg.stateOf_bk HQ.out.2.1 0 (by rw [Lg.rowL_len]; omega)).bounded (by decide) (by decide) HQ.out.2.2)
  clear HSM b7
  go_wp2_with fail
  refine HTR.out.mono ?_
  rintro e w8 ⟨rfl, hL8⟩
  have HSG := Lib.hid (segs_ll hL8 (by rw [show (Lg.stateOf next2 [1] ((Lg.rowL 0 1 9).take 8)).parts.length = 1 from Lg.parts_len [1]]; omega))
  have HL8 := Lib.hid hL8
  clear HTR hL8
  go_wp2_with fail
  refine HSG.out.mono ?_
  rintro e w9 ⟨V2, rfl, hV, b9⟩
  have b10 : Below w9.heap.size w9 (w9.alloc (.cells #[.int .i64 1] 3)) := (Below.refl _ _).alloc (Nat.le_refl _) _
  have hnm : (Lg.stateOf next2 [1] ((Lg.rowL 0 1 9).take 8)).nums = [1] := Lg.parts_nums [1]
  have hO := hV.out
  rw [hnm] at hO
  have HSM := Lib.hid (sameInts11_any V2 (.slice (some ⟨w9.heap.size, 0, none⟩) 1 1) [1] (w9.alloc (.cells #[.int .i64 1] 3)) (Cells.next (cells_of_owns hO) b10) (cells_newI w9 [1] 3) (by simp))
  have HL10 := Lib.hid ((HL8.out.next stable_true b9).next stable_true b10)
  clear HSG hV b9 b10 hO hnm
  go_wp2_with fail
  refine HSM.out.mono ?_
  rintro e w11 ⟨rfl, b11⟩
  have hL11 := HL10.out.next stable_true b11
  have HLA := last_ll hL11
  rw [show (Lg.stateOf next2 [1] ((Lg.rowL 0 1 9).take 8)).es.length = 8 from by show ((Lg.rowL 0 1 9).take 8).length = 8; rw [List.length_take, Lg.rowL_len]; rfl] at HLA
  have HLA := Lib.hid HLA
  have HB := Lib.hid hL11.below
  clear HSM b11 hL11
  go_wp2_with fail
  refine HLA.out.mono ?_
  rintro e w12 ⟨rfl, rfl⟩
  go_wp2
  go_ret
  exact ⟨rfl, HB.out⟩
end Go.Proofs.YtbknlffebcbjfaaGreatDoor
