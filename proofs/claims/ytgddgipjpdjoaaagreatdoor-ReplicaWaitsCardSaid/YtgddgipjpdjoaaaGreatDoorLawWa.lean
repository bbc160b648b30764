/-
  The walk of the law package 17's ReplicaWaits.
-/
import Derived.Test.YtgddgipjpdjoaaaGreatDoorWai
namespace Go.Proofs.YtgddgipjpdjoaaaGreatDoor
open Go.RowKit Go.Shelf

set_option maxHeartbeats 32000000 in
set_option maxRecDepth 100000 in
theorem replicaWaits_any (v : Value) (ps : List Act17X) (n : Int) (w : World) (hE : Env w) (hs : Acts17R w v ps) (hn1 : -9223372036854775808 ≤ n) (hn2 : n ≤ 9223372036854775807) :
    Calls Tryz.prog 3 #[v, .int .i64 n] w fun e w' => e = .returned (.bool true) ∧ Below w.heap.size w w' := by
  obtain ⟨aa, ac, rfl⟩ := cells_lenC hs.1
  have HS := Lib.hid (shown17_any w hE)
  have HE := Lib.hid hE
  have HA := Lib.hid hs
  have HNB := Lib.hid (show K64 n from ⟨hn1, hn2⟩)
  have hRT := stable2_true w
  clear hE hs hn1 hn2
  go_enter Tryz.func3, Tryz.ntmps3
  go_wp2_with fail
  refine HS.out.mono ?_
  rintro e w0 ⟨rfl, b0⟩
  have HSM := Lib.hid (small17_any (.slice aa ps.length ac) ps w0 (HA.out.next b0))
  have HB0 := Lib.hid b0
  clear HS b0
  go_wp2_with fail
  refine HSM.out.mono ?_
  rintro e w1 ⟨rfl, b1⟩
  have HB1 := Lib.hid (Below.up HB0.out (Nat.le_refl _) b1)
  have HBG := Lib.hid (begun17_any 1048576 w1 (by decide) (by decide))
  clear HSM HB0 b1
  go_wp2_with fail
  refine HBG.out.mono ?_
  rintro e w2 ⟨d, m, ft, rfl, hd, hft, _, _, _, b2⟩
  obtain ⟨W, hW⟩ : ∃ W, w2.alloc (.cells #[.pointer (some ⟨d, 0, none⟩), .pointer (some ⟨m, 0, none⟩)] 28) = W := ⟨_, rfl⟩
  have bp : Below w2.heap.size w2 W := by rw [← hW]; exact (Below.refl _ _).alloc (Nat.le_refl _) _
  have hP : PB17 w2.heap.size (.pointer (some ⟨d, 0, none⟩)) (.pointer (some ⟨m, 0, none⟩)) W := by rw [← hW]; exact heap_alloc_new w2 _
  have hbW : Below w.heap.size w W := Below.up (Below.up HB1.out (Nat.le_refl _) b2) (Nat.le_refl _) bp
  have c0 := hP.cells.1
  have HO := Lib.hid (repOpen_new (R := TrueR) (a := w) (X := ft) ⟨HE.out, hbW, fun j hj => Nat.le_trans HB1.out.size (hft j hj).1⟩ (hd.next bp) (fun j hj => ⟨Nat.lt_of_lt_of_le (hft j hj).2 bp.size, Nat.le_trans HB1.out.size (hft j hj).1⟩) (fun _ h => h) (by decide) hRT trivial)
  have HW := Lib.hid hW
  have HBW := Lib.hid hbW
  rw [← hW] at c0
  clear HBG hd hft b2 bp hP hbW hW
  cases hsm : small17L ps with
  | false =>
    clear hsm c0 HO
    go_wp2
    go_ret
    try rw [HW.out]
    exact ⟨rfl, HBW.out⟩
  | true =>
    have HSL := Lib.hid (small17_facts hsm)
    clear hsm
    go_wp2_with fail
    try rw [HW.out]
    refine HO.out.mono ?_
    rintro e w4 ⟨r, lg, sb, rfl, h4⟩
    obtain ⟨f1, es1, r1, r2⟩ := invA_start
    have HRA := repRaise_any 1 h4 hRT (by decide)
    rw [r1] at HRA
    have HRA := Lib.hid HRA
    have HI1 := Lib.hid r2
    clear HO h4 c0 r1 r2 HW HBW
    go_wp2_with fail
    refine HRA.out.mono ?_
    rintro e w6 ⟨rfl, h6⟩
    have H6 := Lib.hid h6
    clear HRA h6
    go_wp2_with fail
    go_loopw [11] (fun iv wr => ∃ i : Nat, iv = .int .i64 i ∧ i ≤ ps.length ∧ W1 w r lg d sb i wr) (fun iv _ => ps.length - (intOf iv).toNat)
    case atStart => exact ⟨0, rfl, by omega, es1, f1, 1, [], [], HI1, H6⟩
    case round =>
      obtain ⟨i, rfl, hi, hL1⟩ := hrel
      by_cases hp : i < ps.length
      · obtain ⟨es, fs, next, nums, L, HI, HT⟩ := hL1
        obtain ⟨⟨⟨o, n1, m3, s, ex, se, sq, bes, al, ks⟩, ev, lv, kv⟩, hx⟩ : ∃ x, ps[i] = x := ⟨_, rfl⟩
        have HX := Lib.hid hx
        have hi40 : i < 40 := by have := HSL.out.1; omega
        have HIP := Lib.hid (And.intro hi (And.intro hp hi40))
        obtain ⟨b', f', c', hv, _, _, _, k3, k4, k5, k6, k7, _, _, _⟩ := act17At (HA.out.next HT.out.below) i hp HX.out
        cases hv
        have hact := HA.out.2 ps[i] (List.getElem_mem hp)
        have hsm := HSL.out.2 ps[i] (List.getElem_mem hp)
        rw [HX.out] at hact hsm
        obtain ⟨f3, n3, nums3, L3, cc, q1, q2⟩ := HI.out.prop (by have := HIP.out.2.2; omega) ⟨s.data.toList, ex, se, sq, bes⟩
        have HPR := Lib.hid (repPropose_any (S := s) (ex := ex) (se := se) (sq := sq) (v := ev) (es := bes) (c := cc) HT.out hRT (Below.refl _ _) (by decide) (Lg.hold_bk HI.out.h 1 (by have := HI.out.n; have := HIP.out.2.2; omega)) (by have := hsm.1; simp only at this; omega) (Cells.next hact.2.2.1 HT.out.below) (by have := hsm.2.1; simp only at this; omega) hsm.2.2 (fun b hb hne => .inl (evs_block hact.2.2.1 hb hne)) q1)
        have HI3 := Lib.hid q2
        obtain ⟨sa, sl, sc, hev⟩ := evs_slice hact.2.2.1
        have hev : ev = .slice sa sl sc := hev
        have HWI := Lib.hid (show wrap64 ((i : Int) + 1) = (i : Int) + 1 from IntWalk.wrap64_in _ (by have := HIP.out.2.2; omega))
        clear q1 q2 hact hsm HI HT hx hi40
        rw [hev] at HPR k7
        clear hev
        go_wp2_with fail
        refine HPR.out.mono ?_
        rintro e w8 ⟨rfl, h8⟩
        have H8 := Lib.hid h8
        clear HPR h8 k3 k4 k5 k6 k7
        go_wp2
        try rw [HWI.out]
        exact ⟨⟨i + 1, rfl, HIP.out.2.1, es, f3, n3, nums3, L3, HI3, H8⟩, round_less17 HIP.out.2.1⟩
      · obtain ⟨es, fs, next, nums, L, HI, HT⟩ := hL1
        have HN := Lib.hid (show Evt.follows L 0 0 = true ∧ L.length ≤ 40 from ⟨HI.out.h.fol, by have := HI.out.n; have := HSL.out.1; omega⟩)
        obtain ⟨N, a1, a2, a3, a4⟩ := adv_facts HN.out.1 n
        have HAD := repAdvance_any n HT.out hRT (by show L.length ≤ 300000; have := HN.out.2; omega) (fun p hp => by cases hp) (by decide) HNB.out (fun k _ => by
          have h1 := Stat.plays_app ((advL Stat.new n L).take k) Stat.new
          have h2 : ((advL Stat.new n L).take k).length ≤ L.length := by rw [adv_take, List.length_take, List.length_take]; omega
          have h3 : Stat.new.app = 0 := rfl
          have := HN.out.2
          show (Stat.new.plays ((advL Stat.new n L).take k)).2.app ≤ 400000
          omega)
        rw [show (Lg.stateOf next nums L).es = L from rfl] at HAD
        obtain ⟨st1, hst⟩ : ∃ st1, (Stat.new.plays (advL Stat.new n L)).2 = st1 := ⟨_, rfl⟩
        rw [hst] at HAD a4
        have HAD := Lib.hid HAD
        have HAF := Lib.hid (And.intro a1 (And.intro a2 (And.intro a3 a4)))
        have hpi : ¬ (i : Int) < (ps.length : Int) := by omega
        clear HI HT a1 a2 a3 a4 hst hi hp
        go_wp2_with fail
        refine HAD.out.mono ?_
        rintro e w8 ⟨va, vc, dn, rfl, hdn, h8⟩
        have hdl : dn.length = N := by
          have h9 := congrArg List.length hdn.out
          rw [List.length_map, HAF.out.2.2.1] at h9
          exact h9
        rw [hdl]
        have HLA := Lib.hid (show Calls Tryz.prog 13 #[.pointer (some ⟨r, 0, none⟩)] w8 (fun e w' => e = .returned (.int .i64 (L.length : Int)) ∧ w' = w8) from by
          refine (repLast_any h8).mono ?_
          rintro e wz ⟨rfl, rfl⟩
          exact ⟨rfl, rfl⟩)
        have HCO := Lib.hid (show Calls Tryz.prog 14 #[.pointer (some ⟨r, 0, none⟩)] w8 (fun e w' => e = .returned (.int .i64 (N : Int)) ∧ w' = w8) from by
          refine (repCommit_any h8).mono ?_
          rintro e wz ⟨rfl, rfl⟩
          exact ⟨by rw [HAF.out.2.2.2], rfl⟩)
        have HRG := Lib.hid (repRange_any ((N : Int) + 1) 1000 h8 hRT (by show L.length ≤ 1000000; have := HN.out.2; omega))
        have hmm := HAF.out.2.1
        clear HAD hdn hdl h8
        go_wp2_with fail
        refine HLA.out.mono ?_
        rintro e w9 ⟨rfl, rfl⟩
        clear HLA
        go_wp2_with fail
        refine HCO.out.mono ?_
        rintro e w10 ⟨rfl, rfl⟩
        go_wp2_with fail
        refine HCO.out.mono ?_
        rintro e w11 ⟨rfl, rfl⟩
        have hw1 : wrap64 ((N : Int) + 1) = (N : Int) + 1 := IntWalk.wrap64_in _ (by have := HAF.out.1; have := HN.out.2; omega)
        clear HCO hmm
        go_wp2_with fail
        refine HRG.out.mono ?_
        rintro e w12 ⟨qa, qs, qc, rfl, hpl, _, HRR, _⟩
        have HPL := Lib.hid (hpl.out.trans (rest_all (L := L) HAF.out.1 (by have := HN.out.2; omega)))
        have hql : qs.length = L.length - N := by
          have h9 := congrArg List.length HPL.out
          rw [plainE_len17, List.length_drop] at h9
          exact h9
        have HQL := Lib.hid hql
        clear HRG hpl hql hw1
        go_wp2_with fail
        go_loopw [14] (fun iv wr => ∃ i : Nat, iv = .int .i64 i ∧ i ≤ ps.length ∧ Hid (RR (WithRow TrueR (.slice qa qs.length qc) qs) [] w r lg d sb 1048576 (Lg.stateOf next nums L) fs st1 wr)) (fun iv _ => ps.length - (intOf iv).toNat)
        case atStart => exact ⟨0, rfl, by omega, HRR⟩
        case round =>
          obtain ⟨i, rfl, hi, HRR⟩ := hrel
          obtain ⟨w9, rfl⟩ : ∃ w9, w9 = wr := ⟨_, rfl⟩
          by_cases hp : i < ps.length
          · obtain ⟨⟨⟨o, n1, m3, s, ex, se, sq, bes, al, ks⟩, ev, lv, kv⟩, hx⟩ : ∃ x, ps[i] = x := ⟨_, rfl⟩
            have HX := Lib.hid hx
            have HIP := Lib.hid (And.intro hi hp)
            obtain ⟨b', f', c', hv, _, _, _, k3, _, k5, k6, _, _, _, _⟩ := act17At (HA.out.next HRR.out.below) i hp HX.out
            cases hv
            have HKS := Lib.hid (fun (Z : World) (hZ : Below w9.heap.size w9 Z) => (show Z.cell? ⟨b', f' + i * 10 + 3, none⟩ = some (.string s) ∧ Z.cell? ⟨b', f' + i * 10 + 5, none⟩ = some (.int .i64 se) ∧ Z.cell? ⟨b', f' + i * 10 + 6, none⟩ = some (.int .i64 sq) from
              ⟨cell_kept hZ (Nat.le_refl _) k3, cell_kept hZ (Nat.le_refl _) k5, cell_kept hZ (Nat.le_refl _) k6⟩))
            have hpi : (i : Int) < (ps.length : Int) := by omega
            clear hx
            go_wp2_with fail
            go_loopw [15, 16, 17] (fun dv ev2 kv2 wr => ∃ k : Nat, kv2 = .int .i64 k ∧ k ≤ qs.length ∧ dv = .bool (dirtyP (qs.take k) s) ∧ ev2 = .bool (waitP (qs.take k) se sq) ∧ Below w9.heap.size w9 wr) (fun _ _ kv2 _ => qs.length - (intOf kv2).toNat)
            case atStart => exact ⟨0, rfl, by omega, rfl, rfl, Below.refl _ _⟩
            case round =>
              obtain ⟨k, rfl, hk, rfl, rfl, hbr⟩ := hrel
              obtain ⟨w7, rfl⟩ : ∃ w7, w7 = wr := ⟨_, rfl⟩
              by_cases hkl : k < qs.length
              · obtain ⟨qb, qo, qc2, p, ep, S, ex2, se2, sq2, sa, sl, sc2, es2, hv2, _, _, e2, _, e4, e5, _, _, _, _, _, hpe, _⟩ := enAt HRR.out.rowE k hkl
                cases hv2
                have HCK := Lib.hid (fun (Z : World) (hZ : Below w9.heap.size w9 Z) => (show (Z.cell? ⟨qb, qo + k * 7 + 2, none⟩ = some (.string S) ∧ Z.cell? ⟨qb, qo + k * 7 + 4, none⟩ = some (.int .i64 se2) ∧ Z.cell? ⟨qb, qo + k * 7 + 5, none⟩ = some (.int .i64 sq2)) ∧ Z.cell? ⟨b', f' + i * 10 + 3, none⟩ = some (.string s) ∧ Z.cell? ⟨b', f' + i * 10 + 5, none⟩ = some (.int .i64 se) ∧ Z.cell? ⟨b', f' + i * 10 + 6, none⟩ = some (.int .i64 sq) from
                  ⟨⟨cell_kept hZ (Nat.le_refl _) e2, cell_kept hZ (Nat.le_refl _) e4, cell_kept hZ (Nat.le_refl _) e5⟩, HKS.out Z hZ⟩))
                clear e2 e4 e5 k3 k5 k6
                obtain ⟨⟨e2, e4, e5⟩, k3, k5, k6⟩ := HCK.out w7 hbr
                obtain ⟨D, hD⟩ : ∃ D, dirtyP (qs.take k) s = D := ⟨_, rfl⟩
                obtain ⟨E, hE⟩ : ∃ E, waitP (qs.take k) se sq = E := ⟨_, rfl⟩
                have HD := Lib.hid (show dirtyP (qs.take (k + 1)) s = (D || (S.toList == s.toList)) by rw [dirtyP_succ hkl, hpe.out, hD, Lib.toList_data, Lib.toList_data])
                have HW2 := Lib.hid (show waitP (qs.take (k + 1)) se sq = (E || (se2 == se && sq2 == sq)) by rw [waitP_succ hkl, hpe.out, hE])
                have HKL := Lib.hid (And.intro hk hkl)
                have hkl2 : (k : Int) < (qs.length : Int) := by omega
                rw [hD, hE]
                clear hD hE hpe hk
                go_upto_region 25 with fail
                go_cut [15] (fun v wx => v = .bool (D || (S.toList == s.toList)) ∧ Below w9.heap.size w9 wx)
                case first =>
                  cases D
                  · go_quiet (fail)
                    go_wp2
                    go_meet
                    exact ⟨rfl, below_drewN hbr _⟩
                  · go_quiet (fail)
                    go_wp2
                    go_meet
                    exact ⟨rfl, below_drewN hbr _⟩
                case rest =>
                  obtain ⟨rfl, hbc⟩ := hcut
                  clear e2 e4 e5 k3 k5 k6
                  obtain ⟨⟨e2, e4, e5⟩, k3, k5, k6⟩ := HCK.out wc hbc
                  have HWK := Lib.hid (show wrap64 ((k : Int) + 1) = (k : Int) + 1 from IntWalk.wrap64_in _ (by have := HQL.out; have := HN.out.2; omega))
                  go_upto_region 26 with fail
                  by_cases h1 : se2 = se
                  · by_cases h2 : sq2 = sq
                    · cases E
                      all_goals go_quiet (fail)
                      all_goals go_wp2
                      all_goals try rw [HWK.out]
                      all_goals exact ⟨⟨k + 1, rfl, HKL.out.2, by rw [HD.out], by rw [HW2.out]; simp [h1, h2], below_drewN hbc _⟩, round_less17 HKL.out.2⟩
                    · cases E
                      all_goals go_quiet (fail)
                      all_goals go_wp2
                      all_goals try rw [HWK.out]
                      all_goals exact ⟨⟨k + 1, rfl, HKL.out.2, by rw [HD.out], by rw [HW2.out]; simp [h1], below_drewN hbc _⟩, round_less17 HKL.out.2⟩
                  · cases E
                    all_goals go_quiet (fail)
                    all_goals go_wp2
                    all_goals try rw [HWK.out]
                    all_goals exact ⟨⟨k + 1, rfl, HKL.out.2, by rw [HD.out], by rw [HW2.out]; simp [h1], below_drewN hbc _⟩, round_less17 HKL.out.2⟩
              · have HRR0 := HRR
                have HRR := Lib.hid (HRR0.out.next (stable2_row hRT _ _) hbr)
                have HKS0 := HKS
                have HKS := Lib.hid (fun (Z : World) (hZ : Below w7.heap.size w7 Z) => HKS0.out Z (Below.up hbr (Nat.le_refl _) hZ))
                clear HRR0 HKS0 k3 k5 k6 hbr
                have hkq : k = qs.length := by omega
                have hkl2 : ¬ (k : Int) < (qs.length : Int) := by omega
                rw [hkq, List.take_length]
                have HE0 := fun (Z : World) (hZ : Below w7.heap.size w7 Z) => repWaits_any se sq (HRR.out.next (stable2_row hRT _ _) hZ) (stable2_row hRT _ _) (by show L.length ≤ 300000; have := HN.out.2; omega) (by rw [HAF.out.2.2.2]; have := HAF.out.1; have := HN.out.2; omega)
                have HD0 := fun (Z : World) (hZ : Below w7.heap.size w7 Z) => repDirty_any s (HRR.out.next (stable2_row hRT _ _) hZ) (stable2_row hRT _ _) (by show L.length ≤ 300000; have := HN.out.2; omega) (by rw [HAF.out.2.2.2]; have := HAF.out.1; have := HN.out.2; omega)
                rw [HAF.out.2.2.2, show (Lg.stateOf next nums L).es = L from rfl, rest_all (L := L) HAF.out.1 (Int.le_refl _), ← HPL.out, ← dirtyP_all (qs := qs) rfl s] at HD0
                rw [HAF.out.2.2.2, show (Lg.stateOf next nums L).es = L from rfl, rest_all (L := L) HAF.out.1 (Int.le_refl _), ← HPL.out, ← waitP_all (qs := qs) rfl se sq] at HE0
                obtain ⟨D, hD⟩ : ∃ D, dirtyP qs s = D := ⟨_, rfl⟩
                obtain ⟨E, hE⟩ : ∃ E, waitP qs se sq = E := ⟨_, rfl⟩
                rw [hD] at HD0
                rw [hE] at HE0
                rw [hD, hE]
                have HD0 := Lib.hid HD0
                have HE0 := Lib.hid HE0
                have hcc := HKS.out w7 (Below.refl _ w7)
                clear hD hE hkq hk hkl
                go_upto_region 27 with fail
                go_cut [174] (fun v wx => v = .bool false ∧ Below w7.heap.size w7 wx)
                case first =>
                  cases D <;> cases E
                  all_goals
                    go_region_held3 (fun Z => Z.cell? ⟨b', f' + i * 10 + 3, none⟩ = some (.string s) ∧ Z.cell? ⟨b', f' + i * 10 + 5, none⟩ = some (.int .i64 se) ∧ Z.cell? ⟨b', f' + i * 10 + 6, none⟩ = some (.int .i64 sq))
                      ((refine HKS.out _ ?_; first
                        | with_reducible exact Below.refl _ w7
                        | with_reducible exact (Below.refl _ w7).drew
                        | with_reducible exact HB6.out
                        | with_reducible exact HB5.out))
                      (first
                        | (go_at_call 16; refine (HD0.out _ (Below.refl _ w7).drew).mono ?_; rintro e w5 ⟨rfl, b5⟩; have HB5 := Lib.hid (show Below w7.heap.size w7 w5 from (Below.refl _ w7).drew.trans b5); clear b5)
                        | (go_at_call 17; refine (HE0.out _ HB5.out).mono ?_; rintro e w6 ⟨rfl, b6⟩; have HB6 := Lib.hid (show Below w7.heap.size w7 w6 from HB5.out.trans (b6.mono HB5.out.size)); clear b6))
                  all_goals go_wp2
                  all_goals go_meet
                  all_goals exact ⟨rfl, HB6.out⟩
                case rest =>
                  obtain ⟨rfl, hb9⟩ := hcut
                  have HR9 := Lib.hid (HRR.out.next (stable2_row hRT _ _) hb9)
                  have HWI := Lib.hid (show wrap64 ((i : Int) + 1) = (i : Int) + 1 from IntWalk.wrap64_in _ (by have := HIP.out.2; have := HSL.out.1; omega))
                  clear hb9 HD0 HE0 HKS hcc HRR
                  go_wp2
                  try rw [HWI.out]
                  exact ⟨⟨i + 1, rfl, HIP.out.2, HR9⟩, round_less17 HIP.out.2⟩
          · have hpi : ¬ (i : Int) < (ps.length : Int) := by omega
            have hsum : wrap64 ((qs.length : Int) + (N : Int)) = (L.length : Int) := (IntWalk.wrap64_in _ (by have := HQL.out; have := HAF.out.1; have := HN.out.2; omega)).trans (by have := HQL.out; have := HAF.out.1; omega)
            have HLA := Lib.hid (show Calls Tryz.prog 13 #[.pointer (some ⟨r, 0, none⟩)] w9 (fun e w' => e = .returned (.int .i64 (L.length : Int)) ∧ w' = w9) from by
              refine (repLast_any HRR.out).mono ?_
              rintro e wz ⟨rfl, rfl⟩
              exact ⟨rfl, rfl⟩)
            have HBB := Lib.hid HRR.out.below
            clear HRR hi hp
            go_wp2_with fail
            refine HLA.out.mono ?_
            rintro e w10 ⟨rfl, rfl⟩
            go_wp2
            go_ret
            exact ⟨rfl, HBB.out⟩
end Go.Proofs.YtgddgipjpdjoaaaGreatDoor
