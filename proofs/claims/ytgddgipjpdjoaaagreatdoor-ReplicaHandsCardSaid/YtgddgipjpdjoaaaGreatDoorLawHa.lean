/-
  The walk of the law package 17's ReplicaHands.
-/
import Derived.Test.YtgddgipjpdjoaaaGreatDoorHan
namespace Go.Proofs.YtgddgipjpdjoaaaGreatDoor
open Go.RowKit Go.Shelf

set_option maxHeartbeats 32000000 in
set_option maxRecDepth 100000 in
theorem replicaHands_any (v : Value) (ps : List Act17X) (u : Value) (os : List Int) (w : World) (hE : Env w) (hs : Acts17R w v ps) (hu : Cells w u 1 os.length (intCells os)) (huk : ∀ n ∈ os, -9223372036854775808 ≤ n ∧ n ≤ 9223372036854775807) :
    Calls Tryz.prog 4 #[v, u] w fun e w' => e = .returned (.bool true) ∧ Below w.heap.size w w' := by
  obtain ⟨aa, ac, rfl⟩ := cells_lenC hs.1
  obtain ⟨oa, oc, rfl⟩ := cells_lenC hu
  have HS := Lib.hid (shown17_any w hE)
  have HE := Lib.hid hE
  have HA := Lib.hid hs
  have HU := Lib.hid (And.intro hu huk)
  clear hE hs hu huk
  go_enter Tryz.func4, Tryz.ntmps4
  go_wp2_with fail
  refine HS.out.mono ?_
  rintro e w0 ⟨rfl, b0⟩
  have HSM := Lib.hid (small17_any (.slice aa ps.length ac) ps w0 (HA.out.next b0))
  have HB0 := Lib.hid b0
  clear HS b0
  go_wp2_with fail
  refine HSM.out.mono ?_
  rintro e w1 ⟨rfl, b1⟩
  have HB1 := Lib.hid (Below.up HB0.out (Nat.le_refl _) b1)
  have HBG := Lib.hid (begun17_any 1048576 w1 (by decide) (by decide))
  clear HSM HB0 b1
  go_wp2_with fail
  refine HBG.out.mono ?_
  rintro e w2 ⟨d, m, ft, rfl, hd, hft, _, _, _, b2⟩
  obtain ⟨W, hW⟩ : ∃ W, w2.alloc (.cells #[.pointer (some ⟨d, 0, none⟩), .pointer (some ⟨m, 0, none⟩)] 28) = W := ⟨_, rfl⟩
  have bp : Below w2.heap.size w2 W := by rw [← hW]; exact (Below.refl _ _).alloc (Nat.le_refl _) _
  have hP : PB17 w2.heap.size (.pointer (some ⟨d, 0, none⟩)) (.pointer (some ⟨m, 0, none⟩)) W := by rw [← hW]; exact heap_alloc_new w2 _
  have hbW : Below w.heap.size w W := Below.up (Below.up HB1.out (Nat.le_refl _) b2) (Nat.le_refl _) bp
  have hs2 : w2.heap.size < W.heap.size := by rw [← hW]; simp
  have HF1 := Lib.hid (And.intro hP (And.intro (hd.next bp) (And.intro (show ∀ j, ft j → w.heap.size ≤ j ∧ j < w2.heap.size from fun j hj => ⟨Nat.le_trans HB1.out.size (hft j hj).1, (hft j hj).2⟩) (And.intro hbW hs2))))
  have HBG2 := Lib.hid (begun17_any 1048576 W (by decide) (by decide))
  have HW := Lib.hid hW
  clear HBG hd hft b2 bp hP hbW hs2 hW
  go_wp2_with fail
  try rw [HW.out]
  refine HBG2.out.mono ?_
  rintro e w3 ⟨d2, m2, ft2, rfl, hd2, hft2, _, _, _, b3⟩
  obtain ⟨W2, hW2⟩ : ∃ W2, w3.alloc (.cells #[.pointer (some ⟨d2, 0, none⟩), .pointer (some ⟨m2, 0, none⟩)] 28) = W2 := ⟨_, rfl⟩
  have bp : Below w3.heap.size w3 W2 := by rw [← hW2]; exact (Below.refl _ _).alloc (Nat.le_refl _) _
  have hP2 : PB17 w3.heap.size (.pointer (some ⟨d2, 0, none⟩)) (.pointer (some ⟨m2, 0, none⟩)) W2 := by rw [← hW2]; exact heap_alloc_new w3 _
  obtain ⟨hP, hd, hft, hbW, hs2⟩ := HF1.out
  have hb3 := b3.size
  have hbp := bp.size
  have hbw := hbW.size
  have hbW2 : Below w.heap.size w W2 := Below.up (Below.up hbW (Nat.le_refl _) b3) (Nat.le_refl _) bp
  have c0 := ((hP.next b3).next bp).cells.1
  have HO := Lib.hid (repOpen_new (R := DB 1048576 d2 ft2 (QP w3.heap.size (.pointer (some ⟨d2, 0, none⟩)) (.pointer (some ⟨m2, 0, none⟩)))) (a := w) (X := fun j => ft j ∨ ft2 j) (ft := ft) ⟨HE.out, hbW2, fun j hj => (hft j hj).1⟩ ((hd.next b3).next bp)
    (fun j hj => by
      rcases hj with hj | hj
      · have := hft j hj; exact ⟨by omega, by omega⟩
      · have := hft2 j hj; exact ⟨by omega, by omega⟩) (fun j hj => .inl hj) (by decide) (stable2_db (keptQ_p _ _ _))
    ⟨hd2.next bp, fun j hj => ⟨.inr hj, fun e => by have := hft j e; have := hft2 j hj; omega, by have := hft2 j hj; omega⟩, hP2, fun e => by
      rcases e with e | e
      · have := hft _ e; omega
      · have := hft2 _ e; omega⟩)
  have HBW2 := Lib.hid hbW2
  have HW2 := Lib.hid hW2
  rw [← hW2] at c0
  clear HBG2 HF1 hd2 hft2 b3 bp hP2 hP hd hft hbW hs2 hb3 hbp hbw hbW2 hW2 HW
  cases hsm : small17L ps with
  | false =>
    clear hsm c0 HO
    go_wp2
    go_ret
    try rw [HW2.out]
    exact ⟨rfl, HBW2.out⟩
  | true =>
    have HSL := Lib.hid (small17_facts hsm)
    clear hsm
    by_cases h200 : 200 < os.length
    · have hi200 : (200 : Int) < (os.length : Int) := by omega
      clear c0 HO
      go_wp2
      go_ret
      try rw [HW2.out]
      exact ⟨rfl, HBW2.out⟩
    · have hi200 : ¬ (200 : Int) < (os.length : Int) := by omega
      go_wp2_with fail
      try rw [HW2.out]
      refine HO.out.mono ?_
      rintro e w4 ⟨ra, lga, sba, rfl, h4⟩
      have c0 := h4.pairD.cells.1
      have HO2 := Lib.hid (repOpen_second h4 (keptQ_p _ _ _) HE.out (by decide))
      clear HO h4 HW2 HBW2
      go_wp2_with fail
      refine HO2.out.mono ?_
      rintro e w5 ⟨rb, lgb, sbb, rfl, h5⟩
      obtain ⟨Q, hQ⟩ : ∃ Q, QP w3.heap.size (.pointer (some ⟨d2, 0, none⟩)) (.pointer (some ⟨m2, 0, none⟩)) = Q := ⟨_, rfl⟩
      have HQ := Lib.hid (show KeptQ Q by rw [← hQ]; exact keptQ_p _ _ _)
      rw [hQ] at h5
      obtain ⟨f1, es1, r1, r2⟩ := invA_start
      have HRA := repRaise_any 1 h5.swap (stable2_beside HQ.out) (by decide)
      rw [r1] at HRA
      have HRA := Lib.hid HRA
      have HI1 := Lib.hid r2
      clear HO2 h5 c0 r1 r2 hQ
      go_wp2_with fail
      refine HRA.out.mono ?_
      rintro e w6 ⟨rfl, h6⟩
      have H6 := Lib.hid h6
      clear HRA h6
      go_wp2_with fail
      go_loopw [15] (fun iv wr => ∃ i : Nat, iv = .int .i64 i ∧ i ≤ ps.length ∧ L1 w ra lga d sba rb lgb d2 sbb Q i wr) (fun iv _ => ps.length - (intOf iv).toNat)
      case atStart => exact ⟨0, rfl, by omega, es1, f1, 1, [], [], HI1, H6⟩
      case round =>
        obtain ⟨i, rfl, hi, hL1⟩ := hrel
        by_cases hp : i < ps.length
        · obtain ⟨es, fs, next, nums, L, HI, HT⟩ := hL1
          obtain ⟨⟨⟨o, n, m3, s, ex, se, sq, bes, al, ks⟩, ev, lv, kv⟩, hx⟩ : ∃ x, ps[i] = x := ⟨_, rfl⟩
          have HX := Lib.hid hx
          have hi40 : i < 40 := by have := HSL.out.1; omega
          obtain ⟨b, f, c, hv, k0, _, _, _, _, _, _, _, _, _, hact⟩ := act17At (HA.out.next (RR.below HT.out)) i hp hx
          cases hv
          have HO17 := Lib.hid hact.2.2.2.1
          have HIP := Lib.hid (And.intro hi (And.intro hp hi40))
          have HPK := Lib.hid (pick17_any o 4 wr HO17.out.1 HO17.out.2 (by decide) (by decide))
          clear hact hx
          go_wp2_with fail
          refine HPK.out.mono ?_
          rintro e w7 ⟨⟨k, rfl, hk4⟩, rfl⟩
          clear HPK hi40 k0
          go_upto_if 96 with fail
          go_cut [] (fun wx => ∃ es2 f2, Hid (InvA es2 f2 next nums L i (i + 2)) ∧ Hid (Two w ra lga d sba rb lgb d2 sbb Q (Lg.stateOf next nums L) (Lg.stateOf 1 [] []) f2 [] wx))
          case first =>
            by_cases hk : k = 0
            · subst hk
              obtain ⟨E, hEE⟩ : ∃ E, (Man.epochsD fs).1 = E := ⟨_, rfl⟩
              have HFE := repFence_any HT.out (by decide)
              have hE2 : 1 ≤ E ∧ E ≤ 41 := by rw [← hEE, HI.out.fence]; have := HI.out.e1; have := HIP.out.2.2; omega
              obtain ⟨es2, f2, cc, q1, q2⟩ := HI.out.raise (by have := HIP.out.2.2; omega) (by have := HIP.out.2.2; omega)
              rw [hEE] at HFE q1
              have HFE := Lib.hid HFE
              have HQ1 := Lib.hid (And.intro q1 q2)
              have hw1 : wrap64 (E + 1) = E + 1 := IntWalk.wrap64_in _ (by omega)
              clear q1 q2 hE2 hEE
              go_wp2_with fail
              refine HFE.out.mono ?_
              rintro e w8 ⟨rfl, b8⟩
              have HRA := repRaise_any (E + 1) (RR.next HT.out (stable2_beside HQ.out) b8) (stable2_beside HQ.out) (by decide)
              rw [HQ1.out.1] at HRA
              have HRA := Lib.hid HRA
              clear HFE b8
              go_wp2_with fail
              refine HRA.out.mono ?_
              rintro e w9 ⟨rfl, h9⟩
              have H9 := Lib.hid h9
              clear HRA h9
              go_wp2
              go_meet
              exact ⟨es2, f2, Lib.hid HQ1.out.2, H9⟩
            · go_wp2
              go_meet
              exact ⟨es, fs, Lib.hid (HI.out.up (by omega)), HT⟩
          case rest =>
            obtain ⟨es2, f2, HI2, HT2⟩ := hcut
            obtain ⟨b', f', c', hv, _, _, _, k3, k4, k5, k6, k7, _, _, _⟩ := act17At (HA.out.next (RR.below HT2.out)) i hp HX.out
            cases hv
            have hact := HA.out.2 ps[i] (List.getElem_mem hp)
            have hsm := HSL.out.2 ps[i] (List.getElem_mem hp)
            rw [HX.out] at hact hsm
            obtain ⟨f3, n3, nums3, L3, cc, q1, q2⟩ := HI2.out.prop (by have := HIP.out.2.2; omega) ⟨s.data.toList, ex, se, sq, bes⟩
            have HPR := Lib.hid (repPropose_any (S := s) (ex := ex) (se := se) (sq := sq) (v := ev) (es := bes) (c := cc) HT2.out (stable2_beside HQ.out) (Below.refl _ wc) (by decide) (Lg.hold_bk HI2.out.h 1 (by have := HI2.out.n; have := HIP.out.2.2; omega)) (by have := hsm.1; simp only at this; omega) (Cells.next hact.2.2.1 (RR.below HT2.out)) (by have := hsm.2.1; simp only at this; omega) hsm.2.2 (fun b hb hne => .inl (evs_block hact.2.2.1 hb hne)) q1)
            have HI3 := Lib.hid q2
            obtain ⟨sa, sl, sc, hev⟩ := evs_slice hact.2.2.1
            have hev : ev = .slice sa sl sc := hev
            have hw1 : wrap64 ((i : Int) + 1) = (i : Int) + 1 := IntWalk.wrap64_in _ (by have := HIP.out.2.2; omega)
            clear q1 q2 hact hsm HI2 HT2 HI HT
            rw [hev] at HPR k7
            clear hev
            go_wp2_with fail
            refine HPR.out.mono ?_
            rintro e w8 ⟨rfl, h8⟩
            have H8 := Lib.hid h8
            clear HPR h8 k3 k4 k5 k6 k7
            go_wp2
            rw [hw1]
            exact ⟨⟨i + 1, rfl, HIP.out.2.1, es2, f3, n3, nums3, L3, HI3, H8⟩, round_less17 HIP.out.2.1⟩
        · obtain ⟨es, fs, next, nums, L, HI, HT⟩ := hL1
          have hip : i = ps.length := by omega
          have HN := Lib.hid (show Evt.follows L 0 0 = true ∧ L.length ≤ 40 from ⟨HI.out.h.fol, by have := HI.out.n; have := HSL.out.1; omega⟩)
          have HLA := Lib.hid (show Calls Tryz.prog 13 #[.pointer (some ⟨ra, 0, none⟩)] wr (fun e w' => e = .returned (.int .i64 (L.length : Int)) ∧ wr = w') from repLast_any HT.out)
          have HT0 := Lib.hid (show L2 w ra lga d sba rb lgb d2 sbb Q L (Lg.stateOf next nums L) fs wr from ⟨[], 1, [], 0, Lib.hid (invB_start L), Lib.hid HT.out⟩)
          clear hip HI HT
          go_wp2_with fail
          refine HLA.out.mono ?_
          rintro e w7 ⟨rfl, rfl⟩
          clear HLA
          go_wp2_with fail
          go_loopw [17] (fun iv wx => ∃ i : Nat, iv = .int .i64 i ∧ i ≤ os.length ∧ L2 w ra lga d sba rb lgb d2 sbb Q L (Lg.stateOf next nums L) fs wx) (fun iv _ => os.length - (intOf iv).toNat)
          case atStart => exact ⟨0, rfl, by omega, HT0.out⟩
          case round =>
            obtain ⟨i, rfl, hi, hL2⟩ := hrel
            go_upto_region 19 with fail
            go_cut [118] (fun v wx => v = .bool (decide (i < os.length) && decide (0 < L.length)) ∧ wx = wr)
            case first =>
              by_cases h1 : i < os.length
              · by_cases h2 : 0 < L.length
                · go_wp2
                  go_meet
                  exact ⟨by rw [decide_eq_true h1, decide_eq_true h2]; rfl, rfl⟩
                · go_wp2
                  go_meet
                  exact ⟨by rw [decide_eq_true h1, decide_eq_false h2]; rfl, rfl⟩
              · go_wp2
                go_meet
                exact ⟨by rw [decide_eq_false h1]; rfl, rfl⟩
            case rest =>
              obtain ⟨rfl, rfl⟩ := hcut
              by_cases hp : i < os.length ∧ 0 < L.length
              · rw [decide_eq_true hp.1, decide_eq_true hp.2, Bool.and_true]
                obtain ⟨fsB, nextB, numsB, j, HI, HT⟩ := hL2
                obtain ⟨hp1, hp2⟩ := hp
                obtain ⟨ob, of, oc', hv, k0⟩ := intAt17 (Cells.next HU.out.1 (RR.below HT.out)) i hp1
                cases hv
                obtain ⟨x, hx⟩ : ∃ x, os[i] = x := ⟨_, rfl⟩
                have HXB := Lib.hid (show -9223372036854775808 ≤ x ∧ x ≤ 9223372036854775807 from hx ▸ HU.out.2 os[i] (List.getElem_mem hp1))
                rw [hx] at k0
                have HPK := Lib.hid (pick17_any x (L.length : Int) wc HXB.out.1 HXB.out.2 (by omega) (by have := HN.out.2; omega))
                have HIP := Lib.hid (And.intro hi (And.intro hp1 hp2))
                clear hi hp2
                go_wp2_with fail
                refine HPK.out.mono ?_
                rintro e w8 ⟨⟨k, rfl, hk⟩, rfl⟩
                obtain ⟨E, hE⟩ : ∃ E, (epAt L (k : Int)).1 = E := ⟨_, rfl⟩
                have HK := Lib.hid (show k ≤ L.length by omega)
                have HAT := repAt_ep HT.out (stable2_beside HQ.out) (by show L.length ≤ 1000000; have := HN.out.2; omega) k HK.out
                rw [show (epAt (Lg.stateOf next nums L).es (k : Int)).1 = E from hE] at HAT
                have HAT := Lib.hid HAT
                have HE9 := Lib.hid hE
                clear HPK hk hE
                go_wp2_with fail
                refine HAT.out.mono ?_
                rintro e w9 ⟨p, S, ex, se, sq, va, vl, vc, B, rfl, b9⟩
                obtain ⟨W, hW⟩ : ∃ W, w9.alloc (.cells #[.int .i64 p, .int .i64 E, .string S, .int .i64 ex, .int .i64 se, .int .i64 sq, .slice va vl vc] 40) = W := ⟨_, rfl⟩
                have bW : Below w9.heap.size w9 W := by rw [← hW]; exact (Below.refl _ _).alloc (Nat.le_refl _) _
                have hG : W.heap[w9.heap.size]? = some (.cells #[.int .i64 p, .int .i64 E, .string S, .int .i64 ex, .int .i64 se, .int .i64 sq, .slice va vl vc] 40 (0, 0)) := by rw [← hW]; exact heap_alloc_new w9 _
                have b8 : Below w8.heap.size w8 W := Below.up b9 (Nat.le_refl _) bW
                obtain ⟨ob0, ho0⟩ : ∃ ob0, w9.heap.size = ob0 := ⟨_, rfl⟩
                have HFX := Lib.hid (Two.fix HT.out HQ.out b8 b9.size hG)
                have hQF := keptQ_fix HQ.out w9.heap.size (.cells #[.int .i64 p, .int .i64 E, .string S, .int .i64 ex, .int .i64 se, .int .i64 sq, .slice va vl vc] 40 (0, 0))
                have HOC := Lib.hid (fun (Z : World) (h1 : Below w.heap.size w Z) (h2 : Z.heap[w9.heap.size]? = some (.cells #[.int .i64 p, .int .i64 E, .string S, .int .i64 ex, .int .i64 se, .int .i64 sq, .slice va vl vc] 40 (0, 0))) => (show Z.cell? ⟨w9.heap.size, 1, none⟩ = some (.int .i64 E) ∧ Z.cell? ⟨ob, of + i, none⟩ = some (.int .i64 x) from
                  ⟨by rw [Lib.cell_of_heap h2]; rfl, by
                    obtain ⟨ob2, of2, oc2, hv2, k2⟩ := intAt17 (Cells.next HU.out.1 h1) i hp1
                    cases hv2
                    rw [hx] at k2
                    exact k2⟩))
                have HKS := Lib.hid (fun (Z : World) (hZ : Below W.heap.size W Z) => HOC.out Z (Two.below (Two.next HFX.out hQF hZ)) (Two.fixed (Two.next HFX.out hQF hZ)))
                have HRG := Lib.hid (fun (Z : World) (mm : Nat) (hZ : Below W.heap.size W Z) => repRange_any ((k : Int) + 1) (1 + (mm : Int)) (Two.next HFX.out hQF hZ) (stable2_beside hQF) (by show L.length ≤ 1000000; have := HN.out.2; omega))
                have HW := Lib.hid hW
                have hw1 : IntKind.i64.wrap ((k : Int) + 1) = (k : Int) + 1 := by rw [IntKind.wrap_i64]; have := HK.out; have := HN.out.2; omega
                clear hW bW hG b8 b9 HAT k0 ho0
                go_upto_region 23 with fail
                try rw [HW.out]
                have hcc := HKS.out W (Below.refl _ W)
                go_cut [] (fun wx => L2 w ra lga d sba rb lgb d2 sbb Q L (Lg.stateOf next nums L) fs wx)
                case first =>
                  go_region_held3 (fun Z => Z.cell? ⟨w9.heap.size, 1, none⟩ = some (.int .i64 E) ∧ Z.cell? ⟨ob, of + i, none⟩ = some (.int .i64 x))
                    (first
                      | with_reducible exact HS6.out
                      | (refine HKS.out _ ?_; first
                        | with_reducible exact Below.refl _ W
                        | with_reducible exact (Below.refl _ W).drew
                        | with_reducible exact HB5.out))
                    (first
                      | (go_at_call 18; refine (pick17_any x 3 _ HXB.out.1 HXB.out.2 (by decide) (by decide)).mono ?_; rintro e wp ⟨⟨mm, rfl, hmm⟩, rfl⟩; have hw2 : IntKind.i64.wrap (1 + (mm : Int)) = 1 + (mm : Int) := (by rw [IntKind.wrap_i64]; omega))
                      | (go_at_call 15; refine (HRG.out _ mm (Below.refl _ W).drew).mono ?_; rintro e w5 ⟨ga, qs, gc, rfl, hpl, hcap, hrr, b5⟩; have HB5 := Lib.hid (show Below W.heap.size W w5 from (Below.refl _ W).drew.trans b5); clear b5)
                      | (go_at_call 21; obtain ⟨cc, _, hac⟩ := two_accept hrr.out hQF HI.out HN.out.1 (by have := HN.out.2; omega) HK.out (by omega) hpl.out hcap HE9.out; refine hac.mono ?_; rintro e w6 ⟨rfl, f2, n2, nums2, j2, hI2, _, hT2⟩; have HS6 := Lib.hid (HOC.out w6 hT2.out.below hT2.out.fixed)))
                  all_goals go_wp2
                  all_goals go_meet
                  all_goals exact ⟨f2, n2, nums2, j2, hI2, Lib.hid hT2.out.unfix⟩
                case rest =>
                  obtain ⟨f2, n2, nums2, j2, HI2, HT2⟩ := hcut
                  have hj2 := HI2.out.le
                  have HJ2 := Lib.hid hj2
                  have hl2 : (L.take j2).length = j2 := by rw [List.length_take]; omega
                  have HL2 := Lib.hid hl2
                  have HWI := Lib.hid (show wrap64 ((i : Int) + 1) = (i : Int) + 1 from IntWalk.wrap64_in _ (by omega))
                  have HR1 := Lib.hid (repRange_any 1 1000 (RR.swap HT2.out) (stable2_beside HQ.out) (by show (L.take j2).length ≤ 1000000; have := HN.out.2; omega))
                  clear HI HT HKS HRG HFX hQF HOC hw1 hj2 hcc
                  go_wp2_with fail
                  refine HR1.out.mono ?_
                  rintro e wa ⟨ga, q1, gc, rfl, hpl1, _, hrr1, ba⟩
                  have hpl1 := Lib.hid (hpl1.out.trans (Lg.range_all (show (((L.take j2).length : Nat) : Int) ≤ 1000 by rw [HL2.out]; have := HN.out.2; have := HJ2.out; omega)))
                  have HLA := Lib.hid (show Calls Tryz.prog 13 #[.pointer (some ⟨rb, 0, none⟩)] wa (fun e w' => e = .returned (.int .i64 (j2 : Int)) ∧ w' = wa) from by
                    refine (repLast_any hrr1.out).mono ?_
                    rintro e wz ⟨rfl, rfl⟩
                    exact ⟨by rw [show (Lg.stateOf n2 nums2 (L.take j2)).es.length = j2 from hl2], rfl⟩)
                  have HR2 := Lib.hid (repRange_any 1 (j2 : Int) hrr1.out.rowIn.swap (stable2_beside (keptQ_row HQ.out _ _)) (by show L.length ≤ 1000000; have := HN.out.2; omega))
                  clear HR1 hrr1 ba hl2
                  go_wp2_with fail
                  refine HLA.out.mono ?_
                  rintro e wb ⟨rfl, rfl⟩
                  clear HLA
                  go_wp2_with fail
                  refine HR2.out.mono ?_
                  rintro e wd ⟨ga2, q2, gc2, rfl, hpl2, _, hrr2, bb⟩
                  obtain ⟨hE1, hE2, hT3⟩ := Two.rows hrr2.out
                  have HT3 := Lib.hid hT3
                  have HSR := Lib.hid (sameRow6_any (.slice ga q1.length gc) (.slice ga2 q2.length gc2) q1 q2 wd hE1 hE2 (hpl1.out.trans (hpl2.out.trans Lg.range_pre).symm) (by have h1 := congrArg List.length hpl1.out; rw [plainE_len17] at h1; have h2 := HL2.out; rw [show (Lg.stateOf n2 nums2 (L.take j2)).es.length = (L.take j2).length from rfl] at h1; have := HN.out.2; have := HJ2.out; omega))
                  clear HR2 hrr2 bb hE1 hE2 hT3 hpl1 hpl2
                  go_wp2_with fail
                  refine HSR.out.mono ?_
                  rintro e wf ⟨rfl, bf⟩
                  have HT4 := Lib.hid (Two.next HT3.out HQ.out bf)
                  clear HSR HT3 bf
                  go_wp2
                  try rw [HWI.out]
                  exact ⟨⟨i + 1, rfl, HIP.out.2.1, f2, n2, nums2, j2, HI2, HT4⟩, round_less17 HIP.out.2.1⟩
              · rw [show (decide (i < os.length) && decide (0 < L.length)) = false by
                  by_cases h1 : i < os.length
                  · rw [decide_eq_false (fun h2 => hp ⟨h1, h2⟩), Bool.and_false]
                  · rw [decide_eq_false h1, Bool.false_and]]
                obtain ⟨fsB0, nextB0, numsB0, j0, HI0, HT0⟩ := hL2
                have HS0 := Lib.hid (show L3 w ra lga d sba rb lgb d2 sbb Q L (Lg.stateOf next nums L) fs 0 wc from ⟨fsB0, nextB0, numsB0, j0, HI0, Nat.zero_le _, HT0⟩)
                clear hp hi HI0 HT0
                go_wp2_with fail
                go_loopw [21] (fun iv wx => ∃ k : Nat, iv = .int .i64 k ∧ k ≤ L.length ∧ L3 w ra lga d sba rb lgb d2 sbb Q L (Lg.stateOf next nums L) fs k wx) (fun iv _ => L.length - (intOf iv).toNat)
                case atStart => exact ⟨0, rfl, Nat.zero_le _, HS0.out⟩
                case round =>
                  obtain ⟨k, rfl, hk, hL3⟩ := hrel
                  clear HS0
                  obtain ⟨fsB, nextB, numsB, j, HI, hkj, HT⟩ := hL3
                  have HK := Lib.hid hk
                  have HKJ := Lib.hid hkj
                  clear hk hkj
                  by_cases hp : k < L.length
                  · have HP := Lib.hid hp
                    obtain ⟨E, hE⟩ : ∃ E, (epAt L (k : Int)).1 = E := ⟨_, rfl⟩
                    have HAT := repAt_ep HT.out (stable2_beside HQ.out) (by show L.length ≤ 1000000; have := HN.out.2; omega) k HK.out
                    rw [show (epAt (Lg.stateOf next nums L).es (k : Int)).1 = E from hE] at HAT
                    have HAT := Lib.hid HAT
                    have HE9 := Lib.hid hE
                    have hpi : (k : Int) < (L.length : Int) := by omega
                    clear hE hp
                    obtain ⟨w8, hw8⟩ : ∃ w8, w8 = wr := ⟨_, rfl⟩
                    rw [← hw8] at HT HAT
                    go_wp2_with fail
                    rw [← hw8]
                    clear hw8
                    refine HAT.out.mono ?_
                    rintro e w9 ⟨p, S, ex, se, sq, va, vl, vc, B, rfl, b9⟩
                    obtain ⟨W, hW⟩ : ∃ W, w9.alloc (.cells #[.int .i64 p, .int .i64 E, .string S, .int .i64 ex, .int .i64 se, .int .i64 sq, .slice va vl vc] 40) = W := ⟨_, rfl⟩
                    have bW : Below w9.heap.size w9 W := by rw [← hW]; exact (Below.refl _ _).alloc (Nat.le_refl _) _
                    have hG : W.heap[w9.heap.size]? = some (.cells #[.int .i64 p, .int .i64 E, .string S, .int .i64 ex, .int .i64 se, .int .i64 sq, .slice va vl vc] 40 (0, 0)) := by rw [← hW]; exact heap_alloc_new w9 _
                    have b8 : Below w8.heap.size w8 W := Below.up b9 (Nat.le_refl _) bW
                    have HFX := Lib.hid (Two.fix HT.out HQ.out b8 b9.size hG)
                    have hQF := keptQ_fix HQ.out w9.heap.size (.cells #[.int .i64 p, .int .i64 E, .string S, .int .i64 ex, .int .i64 se, .int .i64 sq, .slice va vl vc] 40 (0, 0))
                    have HOC := Lib.hid (fun (Z : World) (h2 : Z.heap[w9.heap.size]? = some (.cells #[.int .i64 p, .int .i64 E, .string S, .int .i64 ex, .int .i64 se, .int .i64 sq, .slice va vl vc] 40 (0, 0))) => (show Z.cell? ⟨w9.heap.size, 1, none⟩ = some (.int .i64 E) from by rw [Lib.cell_of_heap h2]; rfl))
                    have HKS := Lib.hid (fun (Z : World) (hZ : Below W.heap.size W Z) => HOC.out Z (Two.fixed (Two.next HFX.out hQF hZ)))
                    have HRG := Lib.hid (fun (Z : World) (hZ : Below W.heap.size W Z) => repRange_any ((k : Int) + 1) 1 (Two.next HFX.out hQF hZ) (stable2_beside hQF) (by show L.length ≤ 1000000; have := HN.out.2; omega))
                    have HW := Lib.hid hW
                    have hw1 : IntKind.i64.wrap ((k : Int) + 1) = (k : Int) + 1 := by rw [IntKind.wrap_i64]; have := HK.out; have := HN.out.2; omega
                    clear hW bW hG b8 b9 HAT
                    go_upto_region 30 with fail
                    try rw [HW.out]
                    have hcc := HKS.out W (Below.refl _ W)
                    go_cut [176] (fun v wx => v = .bool false ∧ L3 w ra lga d sba rb lgb d2 sbb Q L (Lg.stateOf next nums L) fs (k + 1) wx)
                    case first =>
                      go_region_held3 (fun Z => Z.cell? ⟨w9.heap.size, 1, none⟩ = some (.int .i64 E))
                        (first
                          | with_reducible exact HS6.out
                          | (refine HKS.out _ ?_; first
                            | with_reducible exact Below.refl _ W
                            | with_reducible exact (Below.refl _ W).drew
                            | with_reducible exact HB5.out))
                        (first
                          | (go_at_call 15; refine (HRG.out _ (Below.refl _ W).drew).mono ?_; rintro e w5 ⟨ga, qs, gc, rfl, hpl, hcap, hrr, b5⟩; have HB5 := Lib.hid (show Below W.heap.size W w5 from (Below.refl _ W).drew.trans b5); clear b5)
                          | (go_at_call 21; obtain ⟨cc, hc0, hac⟩ := two_accept hrr.out hQF HI.out HN.out.1 (by have := HN.out.2; omega) HK.out (by omega) hpl.out hcap HE9.out; rw [hc0 HKJ.out] at hac; refine hac.mono ?_; rintro e w6 ⟨rfl, f2, n2, nums2, j2, hI2, hj2, hT2⟩; have HS6 := Lib.hid (HOC.out w6 hT2.out.fixed)))
                      all_goals go_wp2
                      all_goals go_meet
                      all_goals exact ⟨rfl, f2, n2, nums2, j2, hI2, by have h5 := hj2.out HKJ.out; have h6 := HP.out; rw [show (1 : Int).toNat = 1 from rfl] at h5; omega, Lib.hid hT2.out.unfix⟩
                    case rest =>
                      obtain ⟨rfl, hL4⟩ := hcut
                      have HL4 := Lib.hid hL4
                      clear HI HT HKS HRG HFX hQF HOC hw1 hcc hL4
                      have hwk : wrap64 ((k : Int) + 1) = (k : Int) + 1 := IntWalk.wrap64_in _ (by have := HK.out; have := HN.out.2; omega)
                      have HWK := Lib.hid hwk
                      clear hwk
                      go_wp2
                      try rw [HWK.out]
                      exact ⟨⟨k + 1, rfl, HP.out, HL4.out⟩, round_less17 HP.out⟩
                  · have hke : k = L.length := by have := HK.out; omega
                    have hje : j = L.length := by have := HKJ.out; have := HI.out.le; omega
                    have htk : L.take j = L := by rw [hje, List.take_length]
                    rw [htk] at HT
                    have hpi : ¬ (k : Int) < (L.length : Int) := by omega
                    have HR1 := Lib.hid (repRange_any 1 1000 (RR.swap HT.out) (stable2_beside HQ.out) (by show L.length ≤ 1000000; have := HN.out.2; omega))
                    clear hke hje htk HI HKJ HK hp HT
                    go_wp2_with fail
                    refine HR1.out.mono ?_
                    rintro e wa ⟨ga, q1, gc, rfl, hpl1, _, hrr1, ba⟩
                    have HR2 := Lib.hid (repRange_any 1 1000 hrr1.out.rowIn.swap (stable2_beside (keptQ_row HQ.out _ _)) (by show L.length ≤ 1000000; have := HN.out.2; omega))
                    have hra : rangeR 1 1000 (Lg.stateOf nextB numsB L).es = L := Lg.range_all (show ((L.length : Nat) : Int) ≤ 1000 by have := HN.out.2; omega)
                    have hpl1 := Lib.hid (hpl1.out.trans hra)
                    clear HR1 hrr1 ba hra
                    go_wp2_with fail
                    refine HR2.out.mono ?_
                    rintro e wd ⟨ga2, q2, gc2, rfl, hpl2, _, hrr2, bb⟩
                    have hra : rangeR 1 1000 (Lg.stateOf next nums L).es = L := Lg.range_all (show ((L.length : Nat) : Int) ≤ 1000 by have := HN.out.2; omega)
                    obtain ⟨hE1, hE2, hT3⟩ := Two.rows hrr2.out
                    have HT3 := Lib.hid hT3.below
                    have HSR := Lib.hid (sameRow6_any (.slice ga q1.length gc) (.slice ga2 q2.length gc2) q1 q2 wd hE1 hE2 (hpl1.out.trans (hpl2.out.trans hra).symm) (by have h1 := congrArg List.length hpl1.out; rw [plainE_len17] at h1; have := HN.out.2; omega))
                    clear HR2 hrr2 bb hE1 hE2 hT3 hpl1 hpl2 hra
                    go_wp2_with fail
                    refine HSR.out.mono ?_
                    rintro e wf ⟨rfl, bf⟩
                    have HT4 := Lib.hid (Below.up HT3.out (Nat.le_refl _) bf)
                    clear HSR HT3 bf
                    go_wp2
                    go_ret
                    exact ⟨rfl, HT4.out⟩
end Go.Proofs.YtgddgipjpdjoaaaGreatDoor
