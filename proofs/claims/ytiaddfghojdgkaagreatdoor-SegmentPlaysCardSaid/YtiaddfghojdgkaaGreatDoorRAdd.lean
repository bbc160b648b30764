/-
  The document's answer to layer 9: the walk of Add.
-/
import Derived.Test.YtiaddfghojdgkaaGreatDoorRLoa
namespace Go.Proofs.YtiaddfghojdgkaaGreatDoor
open Go.RowKit Go.Shelf

theorem Seg.end_take {ps : List EnX} {i : Nat} (h : i < ps.length) (p e : Int) : Seg.endOf p e (plainE (ps.take (i + 1))) = ((ps[i]).1.pos, (ps[i]).1.epoch) := by
  rw [plainE_take_succ ps i h, Seg.endOf_snoc]
theorem cat_tail (A B : List UInt8) {M N : ByteArray} (hM : M.data.toList = A ++ B) (hN : N.data.toList = A) : M.extract N.size M.size = ⟨B.toArray⟩ := by
  apply ByteArray.ext
  apply Array.toList_inj.1
  rw [Lib.extract_data, hM, Lib.size_eq N, Lib.size_eq M, hN, hM, List.drop_left, List.length_append, Nat.add_sub_cancel_left, List.take_length]
set_option maxHeartbeats 4000000 in
set_option maxRecDepth 100000 in
theorem rsegAdd_any (d : Nat) (room n : Int) (fs : List Dk.File) (ft : Nat → Prop) (lv : Value) (qs : List EnX) (w : World) (h : IsR w d room fs ft) (hroom : room ≤ 1048576) (hq : Ents w lv qs) (hqn : qs.length ≤ 1000) :
    Calls Tryz.prog 59 #[.pointer (some ⟨d, 0, none⟩), .int .i64 n, lv] w fun e w' => e = .returned (.int .i64 ((Seg.addD room n (plainE qs) fs).2 : Nat)) ∧ RStep d room (Seg.addD room n (plainE qs) fs).1 ft w w' := by
  have hrr := rread_room h hroom (Seg.nameOf n)
  have hle := loadD_le n fs hrr
  have hla := loadD_last n fs hrr
  obtain ⟨qa, qc, rfl⟩ := cells_sliceV hq.1
  have hnl := Seg.name_len n
  have HD := Lib.hid h
  have HQ := Lib.hid hq
  have HL := Lib.hid (rsegLoad_any d room n fs ft w h hroom)
  clear h hq hrr
  go_enter Tryz.func59, Tryz.ntmps59
  go_wp2_with fail
  refine HL.out.mono ?_
  rintro e w1 ⟨first, v, ps, torn, c, rfl, hLD, hNE, b1⟩
  rw [hLD.out] at hle hla
  simp only at hle
  have hpl : (plainE ps).length = ps.length := by simp [plainE]
  obtain ⟨va, vl, vc, rfl⟩ := slice_of_owns hNE.out.1
  have hvl : vl = ps.length := by
    rcases cellsNil (cells_of_owns hNE.out.1) with ⟨h, a', c', e⟩ | ⟨b', o', c', e⟩
    · cases e; omega
    · cases e; rfl
  subst hvl
  obtain ⟨W, hW⟩ : ∃ W, W = w1.alloc (.cells #[.int .i64 first, .slice va ps.length vc, .bool torn] 42) := ⟨_, rfl⟩
  have sr : SR w1.heap.size first (.slice va ps.length vc) torn W := by rw [hW]; exact heap_alloc_new w1 _
  have hb2 : Below w1.heap.size w1 W := by rw [hW]; exact (Below.refl _ _).alloc (Nat.le_refl _) _
  have HW := Lib.hid hW
  have HE := Lib.hid (hNE.out.ents.next hb2)
  have HBW := Lib.hid (Below.up b1 (Nat.le_refl _) hb2)
  have SRx := Lib.hid sr
  obtain ⟨m0, m1, m2⟩ := sr.cells
  obtain ⟨lp, hlp⟩ : ∃ lp, (Seg.last ⟨first, plainE ps, torn⟩).1 = lp := ⟨_, rfl⟩
  obtain ⟨le, hle'⟩ : ∃ le, (Seg.last ⟨first, plainE ps, torn⟩).2 = le := ⟨_, rfl⟩
  have HX := Lib.hid (And.intro hlp hle')
  rw [hlp] at hla
  have HAD := Lib.hid (show Seg.addD room n (plainE qs) fs = if c = 0 then
    if torn = true then (fs, 2) else
    if Evt.follows (plainE qs) lp le = false then (fs, 11) else
    if plainE qs = [] then (fs, 0) else
    if (Dk.append room (Seg.nameOf n) ⟨(Seg.bytesB (plainE qs)).toArray⟩ fs).2 = 0 then Dk.sync (Seg.nameOf n) (Dk.append room (Seg.nameOf n) ⟨(Seg.bytesB (plainE qs)).toArray⟩ fs).1 else Dk.append room (Seg.nameOf n) ⟨(Seg.bytesB (plainE qs)).toArray⟩ fs
    else (fs, c) by rw [Seg.addD, hLD.out]; simp only [hlp, hle'])
  have HLE := Lib.hid (show Seg.endOf (first - 1) 0 (plainE ps) = (lp, le) by rw [← hlp, ← hle', Seg.last_end])
  obtain ⟨nm, hnm⟩ : ∃ nm, Seg.nameOf n = nm := ⟨_, rfl⟩
  have HNM := Lib.hid (fun w => ((refSegName_any n w).mono (fun _ _ h => (And.intro h.1 h.2.symm))))
  rw [hnm] at HAD hnl HNM
  clear hLD hNE b1 hb2 hW hlp hle' hnm HX HL sr
  go_upto_region 2 with fail
  rw [← HW.out]
  clear HW
  by_cases hc0 : c = 0
  · subst hc0
    replace HAD := Lib.hid (HAD.out.trans (if_pos rfl))
    cases torn with
    | true =>
      replace HAD := Lib.hid (HAD.out.trans (if_pos rfl))
      go_wp2
      go_ret
      exact ⟨by rw [HAD.out]; rfl, by rw [HAD.out]; exact RStep.of_below HD.out HBW.out⟩
    | false =>
      replace HAD := Lib.hid (HAD.out.trans (if_neg (by simp)))
      have hw1 : wrap64 (first - 1) = first - 1 := IntWalk.wrap64_in _ (by omega)
      go_wp2
      go_loopw [9, 10, 11] (fun pv ev iv wr => ∃ (i : Nat) (p e : Int), pv = .int .i64 p ∧ ev = .int .i64 e ∧ iv = .int .i64 (i : Int) ∧ i ≤ ps.length ∧ wr = W ∧ Hid (Seg.endOf (first - 1) 0 (plainE (ps.take i)) = (p, e))) (fun _ _ iv _ => ps.length - (intOf iv).toNat)
      case atStart => exact ⟨0, first - 1, 0, rfl, rfl, rfl, by omega, rfl, rfl⟩
      case round =>
        obtain ⟨i, p0, e0, rfl, rfl, rfl, hi, rfl, hend⟩ := hrel
        by_cases hgo : i < ps.length
        · obtain ⟨b, o, c, p, ep, S, ex, se, sq, sa, sl, sc, es, hv, k0, k1, k2, k3, k4, k5, k6, hev, hS, hsm, hes, hpe, hpv⟩ := enAt HE.out i hgo
          cases hv
          have HN := Lib.hid (show Seg.endOf (first - 1) 0 (plainE (ps.take (i + 1))) = (p, ep) by rw [Seg.end_take hgo, hpe.out])
          clear hend hpe hpv hev k2 k3 k4 k5 k6 hS hsm hes
          go_wp2
          exact ⟨⟨i + 1, p, ep, rfl, rfl, by go_num, hgo, trivial, HN⟩, by simp [intOf]; omega⟩
        · have hie : i = ps.length := by omega
          subst hie
          have hpe : (p0, e0) = (lp, le) := by
            have := hend.out
            rw [List.take_length, HLE.out] at this
            exact this.symm
          have hpe1 : p0 = lp := congrArg Prod.fst hpe
          have hpe2 : e0 = le := congrArg Prod.snd hpe
          subst hpe1 hpe2
          clear hpe hend HLE
          have HF := Lib.hid (rfollows_any (.slice qa qs.length qc) qs p0 e0 wr (HQ.out.next HBW.out) (by omega) (by omega) (by omega))
          obtain ⟨fb, hfb⟩ : ∃ fb, Evt.follows (plainE qs) p0 e0 = fb := ⟨_, rfl⟩
          rw [hfb] at HF HAD
          clear hfb
          go_wp2_with fail
          refine HF.out.mono ?_
          rintro e w4 ⟨rfl, b4⟩
          have HB4 := Lib.hid (Below.up HBW.out (Nat.le_refl _) b4)
          clear HF b4 m0 m1 m2 SRx HBW HE
          cases fb with
          | false =>
            replace HAD := Lib.hid (HAD.out.trans (if_pos rfl))
            go_wp2
            go_ret
            exact ⟨by rw [HAD.out]; rfl, by rw [HAD.out]; exact RStep.of_below HD.out HB4.out⟩
          | true =>
            replace HAD := Lib.hid (HAD.out.trans (if_neg (by simp)))
            by_cases hq0 : qs.length = 0
            · have hqe : qs = [] := List.eq_nil_of_length_eq_zero hq0
              replace HAD := Lib.hid (HAD.out.trans (if_pos (by rw [hqe]; rfl)))
              have hqz : ((qs.length : Int) == 0) = true := by rw [hq0]; rfl
              clear hqe
              go_wp2
              go_ret
              exact ⟨by rw [HAD.out]; rfl, by rw [HAD.out]; exact RStep.of_below HD.out HB4.out⟩
            · have hqe : ¬ plainE qs = [] := by intro h; have := congrArg List.length h; simp [plainE] at this; rw [this] at hq0; exact hq0 rfl
              replace HAD := Lib.hid (HAD.out.trans (if_neg hqe))
              have hqz : ((qs.length : Int) == 0) = false := by rw [beq_eq_false_iff_ne]; omega
              have HBY := Lib.hid (rsegBytes_any 1 (.slice qa qs.length qc) qs w4 (HQ.out.next HB4.out) (by omega))
              have hbl := Seg.bytesB_len (plainE qs)
              have hpq : (plainE qs).length = qs.length := by simp [plainE]
              clear hqe
              go_wp2_with fail
              refine HBY.out.mono ?_
              rintro e w5 ⟨M, rfl, hM, b5⟩
              have HB5 := Lib.hid (Below.up HB4.out (Nat.le_refl _) b5)
              have HBY2 := Lib.hid (fun w => rsegBytes_any 1 (.slice none 0 0) [] w (ents_nil w) (by simp))
              have hMs : M.size ≤ 1000000000 := by
                have := Seg.bytesH_len 1
                rw [Lib.size_eq, hM.out, List.length_append]; omega
              have HNM5 := Lib.hid (HNM.out w5)
              clear HBY b5 HB4
              go_wp2_with fail
              refine HNM5.out.mono ?_
              rintro e w6 ⟨rfl, rfl⟩
              have HBY3 := Lib.hid (HBY2.out w5)
              clear HNM5 HBY2
              go_wp2_with fail
              refine HBY3.out.mono ?_
              rintro e w7 ⟨N, rfl, hN, b7⟩
              have HB7 := Lib.hid (Below.up HB5.out (Nat.le_refl _) b7)
              have hN' : N.data.toList = Seg.bytesH 1 := by rw [hN.out]; simp [plainE, Seg.bytesB]
              have hNs : N.size ≤ M.size := by rw [Lib.size_eq, Lib.size_eq, hN', hM.out, List.length_append]; omega
              obtain ⟨B, hB⟩ : ∃ B, M.extract N.size M.size = B := ⟨_, rfl⟩
              have hBe : B = ⟨(Seg.bytesB (plainE qs)).toArray⟩ := by rw [← hB]; exact cat_tail _ _ hM.out hN'
              have hBs : B.size ≤ 1000000000 := by rw [← hB, ByteArray.size_extract]; omega
              have hns : (⟨nm.toArray⟩ : ByteArray).size ≤ 14 := by rw [Lib.size_eq]; exact hnl
              have HAP := Lib.hid (rdAppend_any d room fs ft ⟨nm.toArray⟩ B w7 (HD.out.next HB7.out) (by omega) (by omega))
              rw [← hBe] at HAD
              have HFX := Lib.hid (And.intro hM hN)
              clear hBe hM hN hN' hbl hpq HBY3 b7 HB5
              by_cases hap : (Dk.append room nm B fs).2 = 0
              · replace HAD := Lib.hid (HAD.out.trans (if_pos hap))
                have HAQ := Lib.hid hap
                clear hap
                go_wp2_with fail
                refine HAP.out.mono ?_
                rintro e w8 ⟨rfl, hst⟩
                rw [show (Dk.append room (⟨nm.toArray⟩ : ByteArray).data.toList B fs).2 = 0 from HAQ.out]
                obtain ⟨g8, hR8, hf8, hl8, ht8⟩ := hst.open
                have HNM8 := Lib.hid (HNM.out w8)
                have HT8 := Lib.hid (And.intro ht8 hf8)
                have HR8 := Lib.hid hR8
                clear HAP hst ht8 hf8 hR8 hl8
                go_wp2_with fail
                refine HNM8.out.mono ?_
                rintro e w9 ⟨rfl, rfl⟩
                have HS := Lib.hid (rdSync_any d room _ g8 ⟨nm.toArray⟩ w8 HR8.out)
                clear HNM8
                go_wp2_with fail
                refine HS.out.mono ?_
                rintro e w9 ⟨rfl, hds⟩
                have HDS := Lib.hid (RStep.trans (HD.out.next HB7.out) (fun _ hj => .inl hj) (Turn.of_below HB7.out) (RStep.trans HR8.out HT8.out.2 HT8.out.1 hds))
                clear hds HS
                go_wp2
                go_ret
                exact ⟨by rw [HAD.out]; rfl, by rw [HAD.out]; exact HDS.out⟩
              · replace HAD := Lib.hid (HAD.out.trans (if_neg hap))
                obtain ⟨ac, hac⟩ : ∃ ac, (Dk.append room nm B fs).2 = ac := ⟨_, rfl⟩
                have hacb : ((ac : Int) != 0) = true := by rw [bne_iff_ne]; omega
                have HAQ := Lib.hid hac
                clear hap hac
                go_wp2_with fail
                refine HAP.out.mono ?_
                rintro e w8 ⟨rfl, hds⟩
                rw [show (Dk.append room (⟨nm.toArray⟩ : ByteArray).data.toList B fs).2 = ac from HAQ.out]
                have HDS := Lib.hid (RStep.trans (HD.out.next HB7.out) (fun _ hj => .inl hj) (Turn.of_below HB7.out) hds)
                clear hds HAP
                go_wp2
                go_ret
                exact ⟨by rw [HAD.out, HAQ.out]; rfl, by rw [HAD.out]; exact HDS.out⟩
  · replace HAD := Lib.hid (HAD.out.trans (if_neg hc0))
    have hcb : ((c : Int) != 0) = true := by rw [bne_iff_ne]; omega
    go_wp2
    go_ret
    exact ⟨by rw [HAD.out]; rfl, by rw [HAD.out]; exact RStep.of_below HD.out HBW.out⟩
end Go.Proofs.YtiaddfghojdgkaaGreatDoor
