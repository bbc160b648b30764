/-
  The walk of the law LogTruncates.
-/
import Derived.Test.YtbknlffebcbjfaaGreatDoorLogL
namespace Go.Proofs.YtbknlffebcbjfaaGreatDoor
open Go.RowKit Go.Shelf

namespace Lg
theorem trunc_same {room last : Int} {s : S} {fs : List Dk.File} (h0 : 0 ≤ last) (h : (s.es.length : Int) ≤ last) : truncF room last s fs = ((fs, s), 0) := by
  unfold truncF
  rw [if_neg (by omega), if_pos h]
theorem rowL_take (pos ep : Int) {n k : Nat} (h : k ≤ n) : (rowL pos ep n).take k = rowL pos ep k := by
  unfold rowL
  rw [← List.map_take, List.take_range, Nat.min_eq_left h]
theorem trunc_facts {n k j : Nat} (hn : n < 50) (hk : k ≤ n) (hj : j < 20) : ∃ f1 n1 nums1 f2 nums2 f3 n3 nums3,
    appendF 1048576 (rowL 0 1 n) (stateOf 1 [] []) [] = ((f1, stateOf n1 nums1 (rowL 0 1 n)), 0) ∧ Holds f1 n1 nums1 (rowL 0 1 n) ∧
    truncF 1048576 k (stateOf n1 nums1 (rowL 0 1 n)) f1 = ((f2, stateOf n1 nums2 (rowL 0 1 k)), 0) ∧ Holds f2 n1 nums2 (rowL 0 1 k) ∧
    appendF 1048576 (rowL k 2 j) (stateOf n1 nums2 (rowL 0 1 k)) f2 = ((f3, stateOf n3 nums3 (rowL 0 1 k ++ rowL k 2 j)), 0) ∧ Holds f3 n3 nums3 (rowL 0 1 k ++ rowL k 2 j) ∧ nums3.length ≤ (k + j + 7) / 8 := by
  have hb := (rowL_plains 0 1 n).bytes
  rw [rowL_len] at hb
  have hl := rowL_len 0 1 n
  have hfo := row_on (L := []) (ep := 1) (n := n) rfl (fun e he => by cases he) (by omega) (by omega) (by simp; omega)
  rw [List.nil_append] at hfo
  obtain ⟨f1, n1, nums1, q1, q2, q3, q4⟩ := held_nil.append (room := 1048576) (rowL 0 1 n) (by rw [List.nil_append]; exact hfo) (by rw [List.nil_append, rowL_len]; omega) (by rw [rowL_len]; omega) (by rw [List.nil_append]; omega)
  rw [List.nil_append] at q1 q2 q4
  rw [hl] at q3 q4
  simp only [List.length_nil] at q4
  obtain ⟨f2, nums2, t1, t2, t3, t4⟩ := q2.trunc (room := 1048576) k (by omega)
  have h4 := t4 (by rw [hl]; exact hk)
  rw [hl] at h4
  rw [rowL_take 0 1 hk] at t1 t2
  have hlk := rowL_len 0 1 k
  have hlj := rowL_len k 2 j
  have hfo2 := row_on (L := rowL 0 1 k) (ep := 2) (n := j) t2.fol (fun e he => by rw [rowL_epoch e he]; omega) (by omega) (by omega) (by rw [hlk]; omega)
  rw [hlk] at hfo2
  have hb2 := ((rowL_plains 0 1 k).append (rowL_plains k 2 j)).bytes
  rw [List.length_append, hlk, hlj] at hb2
  obtain ⟨f3, n3, nums3, a1, a2, a3, a4⟩ := t2.append (room := 1048576) (rowL k 2 j) hfo2 (by rw [List.length_append, hlk, hlj]; omega) (by rw [hlj]; omega) (by omega)
  rw [List.length_append, hlk, hlj] at a4
  exact ⟨f1, n1, nums1, f2, nums2, f3, n3, nums3, q1, q2, t1, t2, a1, a2, by omega⟩
theorem range_first {a b : List Evt.Entry} : rangeL 1 a.length (a ++ b) = a := by
  unfold rangeL rangeM rangeA
  rw [List.length_append]
  have h1 : (min (max (1 : Int) 1) (((a.length + b.length : Nat) : Int) + 1) - 1).toNat = 0 := by omega
  have h2 : (min (max (a.length : Int) 0) (((a.length + b.length : Nat) : Int) + 1 - min (max 1 1) (((a.length + b.length : Nat) : Int) + 1))).toNat = a.length := by omega
  rw [h1, h2, List.drop_zero, List.take_left]
theorem range_second {a b : List Evt.Entry} {m : Int} (h : (b.length : Int) ≤ m) : rangeL ((a.length : Int) + 1) m (a ++ b) = b := by
  unfold rangeL rangeM rangeA
  rw [List.length_append]
  have h1 : (min (max ((a.length : Int) + 1) 1) (((a.length + b.length : Nat) : Int) + 1) - 1).toNat = a.length := by omega
  have h2 : (min (max m 0) (((a.length + b.length : Nat) : Int) + 1 - min (max ((a.length : Int) + 1) 1) (((a.length + b.length : Nat) : Int) + 1))).toNat = b.length := by omega
  rw [h1, h2, List.drop_left, List.take_length]
theorem trunc_ends {k j n : Nat} (hk : k < 50) (hj : j < 20) (hn : n ≤ (k + j + 7) / 8) : wrap64 ((k : Int) + (j : Int) + 7) = (k : Int) + (j : Int) + 7 ∧ ((k : Int) + (j : Int) + 7).tdiv 8 = (((k + j + 7) / 8 : Nat) : Int) ∧
    wrap64 ((((k + j + 7) / 8 : Nat) : Int) + 1) = (((k + j + 7) / 8 : Nat) : Int) + 1 ∧ (n : Int) ≤ ((k : Int) + (j : Int) + 7) / 8 + 1 :=
  ⟨IntWalk.wrap64_in _ (by omega), by rw [Int.tdiv_eq_ediv_of_nonneg (by omega)]; omega, IntWalk.wrap64_in _ (by omega), by omega⟩
end Lg
theorem plain_length {ps : List EnX} {l : List Evt.Entry} (h : plainE ps = l) : ps.length = l.length := by
  rw [← h]; simp [plainE]
set_option maxHeartbeats 8000000 in
set_option maxRecDepth 100000 in
theorem logTruncates_any (many at_ more : Int) (w : World) (hE : Env w) (h1 : -9223372036854775808 ≤ many ∧ many ≤ 9223372036854775807) (h2 : -9223372036854775808 ≤ at_ ∧ at_ ≤ 9223372036854775807) (h3 : -9223372036854775808 ≤ more ∧ more ≤ 9223372036854775807) :
    Calls Tryz.prog 6 #[.int .i64 many, .int .i64 at_, .int .i64 more] w fun e w' => e = .returned (.bool true) ∧ Below w.heap.size w w' := by
  have HS := Lib.hid (shown11_any w hE)
  have HE := Lib.hid hE
  clear hE
  go_enter Tryz.func6, Tryz.ntmps6
  go_wp2_with fail
  refine HS.out.mono ?_
  rintro e w0 ⟨rfl, b0⟩
  have HBG := Lib.hid (begun11_any 1048576 w0 (by decide) (by decide))
  have HB0 := Lib.hid b0
  clear HS b0
  go_wp2_with fail
  refine HBG.out.mono ?_
  rintro e w1 ⟨d, m, ft, rfl, hd, hft, _, _, b1⟩
  obtain ⟨W, hW⟩ : ∃ W, W = w1.alloc (.cells #[.pointer (some ⟨d, 0, none⟩), .pointer (some ⟨m, 0, none⟩)] 48) := ⟨_, rfl⟩
  have bp : Below w1.heap.size w1 W := by rw [hW]; exact (Below.refl _ _).alloc (Nat.le_refl _) _
  have hP : PB11 w1.heap.size (.pointer (some ⟨d, 0, none⟩)) (.pointer (some ⟨m, 0, none⟩)) W := by rw [hW]; exact heap_alloc_new w1 _
  have hlt : ∀ j, ft j → j < W.heap.size := fun j hj => Nat.lt_of_lt_of_le (hft j hj).2 bp.size
  have HO := Lib.hid (open0 (R := fun _ _ => True) (a := w) ⟨HE.out, Below.up (Below.up HB0.out (Nat.le_refl _) b1) (Nat.le_refl _) bp, fun j hj => Nat.le_trans HB0.out.size (hft j hj).1⟩ (hd.next bp) hlt hP (fun h => by have := (hft _ h).2; omega) stable_true trivial (room := 1048576) (by decide))
  obtain ⟨c0, _⟩ := hP.cells
  have HW := Lib.hid hW
  clear HBG hd hft b1 bp hP hlt hW
  go_wp2_with fail
  rw [← HW.out]
  refine HO.out.mono ?_
  rintro e w2 ⟨lg, rfl, hL2⟩
  have HL2 := Lib.hid hL2
  have HP1 := Lib.hid (pick11_any many 50 w2 h1.1 h1.2 (by decide) (by decide))
  clear HO hL2 c0
  go_wp2_with fail
  refine HP1.out.mono ?_
  rintro e w3 ⟨⟨n, rfl, hn⟩, rfl⟩
  have hn1 : wrap64 ((n : Int) + 1) = (n : Int) + 1 := IntWalk.wrap64_in _ (by omega)
  have HP2 := Lib.hid (pick11_any at_ ((n : Int) + 1) w3 h2.1 h2.2 (by omega) (by omega))
  clear HP1
  go_wp2_with fail
  refine HP2.out.mono ?_
  rintro e w4 ⟨⟨k, rfl, hk⟩, rfl⟩
  have HP3 := Lib.hid (pick11_any more 20 w4 h3.1 h3.2 (by decide) (by decide))
  clear HP2
  go_wp2_with fail
  refine HP3.out.mono ?_
  rintro e w5 ⟨⟨j, rfl, hj⟩, rfl⟩
  obtain ⟨f1, n1, nums1, f2, nums2, f3, n3, nums3, q1, q2, q3, q4, q5, q6, q7⟩ := Lg.trunc_facts (n := n) (k := k) (j := j) (by omega) (by omega) (by omega)
  have HQ := Lib.hid (And.intro q1 (And.intro q2 (And.intro q3 (And.intro q4 (And.intro q5 (And.intro q6 q7))))))
  have HRW := Lib.hid (row11_any 0 1 n w5 (by omega) (by omega) (by omega))
  clear HP3 q1 q2 q3 q4 q5 q6 q7 h1 h2 h3
  go_wp2_with fail
  refine HRW.out.mono ?_
  rintro e w6 ⟨v, ps, rfl, hpl, hnr, b6⟩
  have hpsl : ps.length = n := (plain_length hpl.out).trans (Lg.rowL_len 0 1 n)
  have HAP := Lib.hid (append_new (s' := Lg.stateOf n1 nums1 (Lg.rowL 0 1 n)) (fs' := f1) (c := 0) HL2.out stable_true b6 hnr.out (by decide) (Lg.stateOf_bk Lg.held_nil _ (by rw [hpsl]; simp; omega)) (own_capok hnr.out.1) (by omega) (by rw [hpl.out]; exact HQ.out.1))
  clear HRW hpl hnr b6 hpsl
  go_wp2_with fail
  refine HAP.out.mono ?_
  rintro e w7 ⟨rfl, hL7⟩
  have HTR := Lib.hid (trunc_ll hL7 stable_true (by decide) (Lg.stateOf_bk HQ.out.2.1 0 (by rw [Lg.rowL_len]; omega)).bounded (by omega) (by omega) HQ.out.2.2.1)
  clear HAP hL7
  go_wp2_with fail
  refine HTR.out.mono ?_
  rintro e w8 ⟨rfl, hL8⟩
  have hlk : (Lg.stateOf n1 nums2 (Lg.rowL 0 1 k)).es.length = k := Lg.rowL_len 0 1 k
  have HTR := Lib.hid (trunc_ll (last := (k : Int)) (c := 0) hL8 stable_true (by decide) (Lg.stateOf_bk HQ.out.2.2.2.1 0 (by rw [Lg.rowL_len]; omega)).bounded (by omega) (by omega) (Lg.trunc_same (by omega) (by rw [hlk]; omega)))
  clear hL8
  go_wp2_with fail
  refine HTR.out.mono ?_
  rintro e w9 ⟨rfl, hL9⟩
  have HTR := Lib.hid (trunc_ll (last := (n : Int)) (c := 0) hL9 stable_true (by decide) (Lg.stateOf_bk HQ.out.2.2.2.1 0 (by rw [Lg.rowL_len]; omega)).bounded (by omega) (by omega) (Lg.trunc_same (by omega) (by rw [hlk]; omega)))
  clear hL9
  go_wp2_with fail
  refine HTR.out.mono ?_
  rintro e w10 ⟨rfl, hL10⟩
  have HLA := last_ll hL10
  rw [hlk] at HLA
  have HLA := Lib.hid HLA
  have HL10 := Lib.hid hL10
  clear HTR hL10 hlk
  go_wp2_with fail
  refine HLA.out.mono ?_
  rintro e w11 ⟨rfl, rfl⟩
  have HRW := Lib.hid (row11_any k 2 j w10 (by omega) (by omega) (by omega))
  clear HLA
  go_wp2_with fail
  refine HRW.out.mono ?_
  rintro e w12 ⟨v2, ps2, rfl, hpl, hnr, b12⟩
  have hpsl : ps2.length = j := (plain_length hpl.out).trans (Lg.rowL_len k 2 j)
  have HAP := Lib.hid (append_new (s' := Lg.stateOf n3 nums3 (Lg.rowL 0 1 k ++ Lg.rowL k 2 j)) (fs' := f3) (c := 0) HL10.out stable_true b12 hnr.out (by decide) (Lg.stateOf_bk HQ.out.2.2.2.1 _ (by rw [hpsl, Lg.rowL_len]; omega)) (own_capok hnr.out.1) (by omega) (by rw [hpl.out]; exact HQ.out.2.2.2.2.1))
  clear HRW hpl hnr b12 hpsl
  go_wp2_with fail
  refine HAP.out.mono ?_
  rintro e w13 ⟨rfl, hL13⟩
  have HCR := crash_ll (ks := []) (kv := .slice none 0 0) hL13 stable_true (fun _ _ _ _ => ⟨rfl, .inl ⟨rfl, none, 0, rfl⟩⟩) (by decide) (fun n hn => by cases hn)
  rw [HQ.out.2.2.2.2.2.1.crash []] at HCR
  have HCR := Lib.hid HCR
  have c13 := hL13.cell
  clear HAP hL13
  go_wp2_with fail
  refine HCR.out.mono ?_
  rintro e w14 ⟨rfl, hL14⟩
  have c14 := hL14.cell
  have HO := Lib.hid (openH hL14 HQ.out.2.2.2.2.2.1 stable_true (by decide) (by rw [List.length_append, Lg.rowL_len, Lg.rowL_len]; omega))
  clear HCR hL14 c13
  go_wp2_with fail
  refine HO.out.mono ?_
  rintro e w15 ⟨lg2, rfl, hL15⟩
  have hll : (Lg.stateOf n3 nums3 (Lg.rowL 0 1 k ++ Lg.rowL k 2 j)).es.length = k + j := by
    show (Lg.rowL 0 1 k ++ Lg.rowL k 2 j).length = k + j
    rw [List.length_append, Lg.rowL_len, Lg.rowL_len]
  have HLA := last_ll hL15
  rw [hll] at HLA
  have HLA := Lib.hid HLA
  have HL15 := Lib.hid hL15
  have hw1 : wrap64 ((k : Int) + (j : Int)) = (k : Int) + (j : Int) := IntWalk.wrap64_in _ (by omega)
  have hne : ((((k + j : Nat) : Int)) != (k : Int) + (j : Int)) = false := by rw [bne_eq_false_iff_eq]; omega
  clear HO hL15 c14
  go_wp2_with fail
  refine HLA.out.mono ?_
  rintro e w16 ⟨rfl, rfl⟩
  have HRG := range_ll 1 k HL15.out (by rw [hll]; omega)
  have hr1 : Lg.rangeL 1 k (Lg.rowL 0 1 k ++ Lg.rowL k 2 j) = Lg.rowL 0 1 k := by
    have := Lg.range_first (a := Lg.rowL 0 1 k) (b := Lg.rowL k 2 j)
    rwa [Lg.rowL_len] at this
  rw [show (Lg.stateOf n3 nums3 (Lg.rowL 0 1 k ++ Lg.rowL k 2 j)).es = Lg.rowL 0 1 k ++ Lg.rowL k 2 j from rfl, hr1] at HRG
  have HRG := Lib.hid HRG
  clear HLA hne hr1
  go_wp2_with fail
  refine HRG.out.mono ?_
  rintro e w17 ⟨va, qs, vc, rfl, hpl, hEn, b17⟩
  have hL17 := HL15.out.next stable_true b17
  have HRW := Lib.hid (row11_any 0 1 k w17 (by omega) (by omega) (by omega))
  have HQS := Lib.hid (And.intro hpl.out hEn.out)
  have HL17 := Lib.hid hL17
  clear HRG hpl hEn b17 hL17
  go_wp2_with fail
  refine HRW.out.mono ?_
  rintro e w18 ⟨v3, ps3, rfl, hpl3, hnr3, b18⟩
  have HSR := Lib.hid (sameRow6_any (.slice va qs.length vc) v3 qs ps3 w18 (HQS.out.2.next b18) hnr3.out.ents (HQS.out.1.trans hpl3.out.symm) (by rw [plain_length HQS.out.1, Lg.rowL_len]; omega))
  have HL18 := Lib.hid (HL17.out.next stable_true b18)
  clear HRW hpl3 hnr3 b18
  go_wp2_with fail
  refine HSR.out.mono ?_
  rintro e w19 ⟨rfl, b19⟩
  have hL19 := HL18.out.next stable_true b19
  have hk1 : wrap64 ((k : Int) + 1) = (k : Int) + 1 := IntWalk.wrap64_in _ (by omega)
  have HRG := range_ll ((k : Int) + 1) 100 hL19 (by rw [hll]; omega)
  have hr1 : Lg.rangeL ((k : Int) + 1) 100 (Lg.rowL 0 1 k ++ Lg.rowL k 2 j) = Lg.rowL k 2 j := by
    have := Lg.range_second (a := Lg.rowL 0 1 k) (b := Lg.rowL k 2 j) (m := 100) (by rw [Lg.rowL_len]; omega)
    rwa [Lg.rowL_len] at this
  rw [show (Lg.stateOf n3 nums3 (Lg.rowL 0 1 k ++ Lg.rowL k 2 j)).es = Lg.rowL 0 1 k ++ Lg.rowL k 2 j from rfl, hr1] at HRG
  have HRG := Lib.hid HRG
  have HL19 := Lib.hid hL19
  clear HSR b19 hL19 hr1
  go_wp2_with fail
  refine HRG.out.mono ?_
  rintro e w20 ⟨va4, qs4, vc4, rfl, hpl, hEn, b20⟩
  have hL20 := HL19.out.next stable_true b20
  have HRW := Lib.hid (row11_any k 2 j w20 (by omega) (by omega) (by omega))
  have HQS := Lib.hid (And.intro hpl.out hEn.out)
  have HL20 := Lib.hid hL20
  clear HRG hpl hEn b20 hL20
  go_wp2_with fail
  refine HRW.out.mono ?_
  rintro e w21 ⟨v5, ps5, rfl, hpl5, hnr5, b21⟩
  have HSR := Lib.hid (sameRow6_any (.slice va4 qs4.length vc4) v5 qs4 ps5 w21 (HQS.out.2.next b21) hnr5.out.ents (HQS.out.1.trans hpl5.out.symm) (by rw [plain_length HQS.out.1, Lg.rowL_len]; omega))
  have HL21 := Lib.hid (HL20.out.next stable_true b21)
  clear HRW hpl5 hnr5 b21
  go_wp2_with fail
  refine HSR.out.mono ?_
  rintro e w22 ⟨rfl, b22⟩
  have hL22 := HL21.out.next stable_true b22
  have hpn : (Lg.stateOf n3 nums3 (Lg.rowL 0 1 k ++ Lg.rowL k 2 j)).parts.length = nums3.length := Lg.parts_len nums3
  have hnn : (Lg.stateOf n3 nums3 (Lg.rowL 0 1 k ++ Lg.rowL k 2 j)).nums = nums3 := Lg.parts_nums nums3
  have hlen3 := HQ.out.2.2.2.2.2.2
  have HSG := segs_ll hL22 (by rw [hpn]; omega)
  rw [hnn] at HSG
  have HSG := Lib.hid HSG
  have HB := Lib.hid hL22.below
  clear HSR b22 hL22 hpn hnn
  go_wp2_with fail
  refine HSG.out.mono ?_
  rintro e w23 ⟨V, rfl, hV, b23⟩
  obtain ⟨Va, Vc, rfl⟩ := cells_slice (cells_of_owns hV.out)
  have hB := Below.up HB.out (Nat.le_refl _) b23
  obtain ⟨hw2, hq8, hw3, hle⟩ := Lg.trunc_ends (k := k) (j := j) (by omega) (by omega) hlen3
  have HLE := Lib.hid hle
  clear HSG hV b23 hle
  go_wp2
  go_ret
  exact ⟨congrArg (fun b => Ending.returned (.bool b)) (decide_eq_true HLE.out), hB⟩
end Go.Proofs.YtbknlffebcbjfaaGreatDoor
