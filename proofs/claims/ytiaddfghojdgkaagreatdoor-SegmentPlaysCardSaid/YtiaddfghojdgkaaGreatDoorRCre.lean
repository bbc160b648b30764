/-
  The document's answer to layer 9: the walk of Create.
-/
import Derived.Test.YtiaddfghojdgkaaGreatDoorRByt
namespace Go.Proofs.YtiaddfghojdgkaaGreatDoor
open Go.RowKit Go.Shelf

set_option maxHeartbeats 2000000 in
set_option maxRecDepth 100000 in
theorem rsegCreate_any (d : Nat) (room n first : Int) (fs : List Dk.File) (ft : Nat → Prop) (w : World) (h : IsR w d room fs ft) :
    Calls Tryz.prog 58 #[.pointer (some ⟨d, 0, none⟩), .int .i64 n, .int .i64 first] w fun e w' => e = .returned (.int .i64 ((Seg.create room n first fs).2 : Nat)) ∧ RStep d room (Seg.create room n first fs).1 ft w w' := by
  have HN := Lib.hid (fun w => (refSegName_any n w).mono (fun _ _ h => (And.intro h.1 h.2.symm)))
  have hnl := Seg.name_len n
  obtain ⟨nm, hnm⟩ : ∃ nm, Seg.nameOf n = nm := ⟨_, rfl⟩
  have hns : (⟨nm.toArray⟩ : ByteArray).size ≤ 14 := by rw [Lib.size_eq]; rw [← hnm]; exact hnl
  have HC0 := Lib.hid (show Seg.create room n first fs = if nm = [] ∨ first < 1 ∨ first > 274877906944 then (fs, 1) else if (Dk.read nm fs).2 = 0 then (fs, 7) else Seg.writeD room nm ⟨(Seg.bytesH first).toArray⟩ fs by rw [← hnm]; rfl)
  rw [hnm] at HN
  clear hnm hnl
  have HH := Lib.hid h
  have HNW := Lib.hid (HN.out w)
  by_cases hbad : nm = [] ∨ first < 1 ∨ first > 274877906944
  · have HC := Lib.hid (HC0.out.trans (if_pos hbad))
    have HCL := Lib.hid (And.intro (congrArg Prod.fst HC.out) (congrArg Prod.snd HC.out))
    clear HC0 HC h
    have hcase : (nm = []) ∨ (nm.isEmpty = false ∧ first < 1) ∨ (nm.isEmpty = false ∧ ¬ first < 1 ∧ first > 274877906944) := by
      cases nm with
      | nil => exact .inl rfl
      | cons c r =>
        rcases hbad with h1 | h1 | h1
        · cases h1
        · exact .inr (.inl ⟨rfl, h1⟩)
        · exact .inr (.inr ⟨rfl, by omega, h1⟩)
    clear hbad
    rcases hcase with h1 | ⟨h1, h2⟩ | ⟨h1, h2, h3⟩
    · subst h1
      go_enter Tryz.func58, Tryz.ntmps58
      go_wp2_with fail
      refine HNW.out.mono ?_
      rintro e w1 ⟨rfl, rfl⟩
      go_wp2
      go_ret
      exact ⟨by rw [HCL.out.2]; rfl, by rw [HCL.out.1]; exact RStep.refl HH.out⟩
    all_goals
      go_enter Tryz.func58, Tryz.ntmps58
      go_wp2_with fail
      refine HNW.out.mono ?_
      rintro e w1 ⟨rfl, rfl⟩
      go_wp2
      go_ret
      exact ⟨by rw [HCL.out.2]; rfl, by rw [HCL.out.1]; exact RStep.refl HH.out⟩
  · have hne : nm.isEmpty = false := by
      cases nm with
      | nil => exact absurd (.inl rfl) hbad
      | cons c r => rfl
    have hf1 : 1 ≤ first := by omega
    have hf2 : first ≤ 274877906944 := by omega
    have HC1 := Lib.hid (HC0.out.trans (if_neg hbad))
    clear HC0 hbad h
    have HR := Lib.hid (rdRead_any d room fs ft ⟨nm.toArray⟩ w HH.out)
    by_cases hr : (Dk.read nm fs).2 = 0
    · have HC := Lib.hid (HC1.out.trans (if_pos hr))
      have HRd := Lib.hid hr
      clear HC1 hr
      go_enter Tryz.func58, Tryz.ntmps58
      go_wp2_with fail
      refine HNW.out.mono ?_
      rintro e w1 ⟨rfl, rfl⟩
      go_wp2_with fail
      refine HNW.out.mono ?_
      rintro e w1 ⟨rfl, rfl⟩
      go_wp2_with fail
      refine HR.out.mono ?_
      rintro e w2 ⟨rfl, b2⟩
      rw [show (Dk.read (⟨nm.toArray⟩ : ByteArray).data.toList fs).2 = 0 from HRd.out]
      go_wp2
      go_ret
      exact ⟨by rw [HC.out]; rfl, by rw [HC.out]; exact RStep.of_below HH.out b2⟩
    · have HC := Lib.hid (HC1.out.trans (if_neg hr))
      obtain ⟨c, hc⟩ : ∃ c, (Dk.read nm fs).2 = c := ⟨_, rfl⟩
      have hc0 : ((c : Int) == 0) = false := by rw [beq_eq_false_iff_ne]; omega
      have HRd := Lib.hid hc
      obtain ⟨S, hS⟩ : ∃ S : ByteArray, S = ⟨(Seg.bytesH first).toArray⟩ := ⟨_, rfl⟩
      rw [← hS] at HC
      have HSd := Lib.hid hS
      clear HC1 hr hc hS
      go_enter Tryz.func58, Tryz.ntmps58
      go_wp2_with fail
      refine HNW.out.mono ?_
      rintro e w1 ⟨rfl, rfl⟩
      go_wp2_with fail
      refine HNW.out.mono ?_
      rintro e w1 ⟨rfl, rfl⟩
      go_wp2_with fail
      refine HR.out.mono ?_
      rintro e w2 ⟨rfl, b2⟩
      rw [show (Dk.read (⟨nm.toArray⟩ : ByteArray).data.toList fs).2 = c from HRd.out]
      have HN2 := Lib.hid (HN.out w2)
      have HB2 := Lib.hid (rsegBytes_any first (.slice none 0 0) [] w2 (ents_nil w2) (by simp))
      go_wp2_with fail
      refine HN2.out.mono ?_
      rintro e w3 ⟨rfl, rfl⟩
      go_wp2_with fail
      refine HB2.out.mono ?_
      rintro e w3 ⟨R, rfl, HRB, b3⟩
      have b3 := Below.up b2 (Nat.le_refl _) b3
      obtain rfl : R = S := by
        rw [HSd.out, str_det HRB.out]
        simp [Seg.bytesB, plainE]
      have hRs : R.size ≤ 1000000000000 := by
        rw [HSd.out, Lib.size_eq]
        have := Seg.bytesH_len first
        simp only at this ⊢
        omega
      have HAP := Lib.hid (rdAppend_any d room fs ft ⟨nm.toArray⟩ R w3 (HH.out.next b3) (by omega) hRs)
      clear HN2 HB2 b2 HRB hRs HR HNW
      go_wp2_with fail
      refine HAP.out.mono ?_
      rintro e w4 ⟨rfl, f4, i4, hf4, t4⟩
      have T4 := Lib.hid ((Turn.of_below (ft := ft) b3).trans t4 (fun j hj => .inl hj))
      have hs3 := b3.size
      have hg4 : ∀ j, f4 j → ft j ∨ w.heap.size ≤ j := fun j hj => (hf4 j hj).elim .inl (fun e => .inr (by omega))
      have HN4 := Lib.hid (HN.out w4)
      by_cases h0 : (Dk.append room nm R fs).2 = 0
      · have HW := Lib.hid (show Seg.writeD room nm R fs = Dk.sync nm (Dk.append room nm R fs).1 by rw [Seg.writeD, if_pos h0])
        have HS := Lib.hid (rdSync_any d room _ f4 ⟨nm.toArray⟩ w4 i4)
        rw [show (Dk.append room (⟨nm.toArray⟩ : ByteArray).data.toList R fs).2 = 0 from h0]
        have HI4 := Lib.hid i4
        clear HAP hf4 t4 h0 i4
        go_wp2_with fail
        refine HN4.out.mono ?_
        rintro e w5 ⟨rfl, rfl⟩
        go_wp2_with fail
        refine HS.out.mono ?_
        rintro e w5 ⟨rfl, hds⟩
        have HD := Lib.hid (RStep.trans HI4.out hg4 T4.out hds)
        clear hds HS
        go_wp2
        go_ret
        exact ⟨by rw [HC.out, HW.out]; rfl, by rw [HC.out, HW.out]; exact HD.out⟩
      · have HW := Lib.hid (show Seg.writeD room nm R fs = ((Dk.delete nm (Dk.append room nm R fs).1).1, (Dk.append room nm R fs).2) by rw [Seg.writeD, if_neg h0])
        obtain ⟨c2, hc2⟩ : ∃ c2, (Dk.append room nm R fs).2 = c2 := ⟨_, rfl⟩
        have hc20 : ((c2 : Int) != 0) = true := by rw [bne_iff_ne]; omega
        have HS := Lib.hid (rdDelete_any d room _ f4 ⟨nm.toArray⟩ w4 i4)
        rw [show (Dk.append room (⟨nm.toArray⟩ : ByteArray).data.toList R fs).2 = c2 from hc2]
        have HC2 := Lib.hid hc2
        have HI4 := Lib.hid i4
        clear HAP hf4 t4 h0 i4 hc2
        go_wp2_with fail
        refine HN4.out.mono ?_
        rintro e w5 ⟨rfl, rfl⟩
        go_wp2_with fail
        refine HS.out.mono ?_
        rintro e w5 ⟨rfl, hds⟩
        have HD := Lib.hid (RStep.trans HI4.out hg4 T4.out hds)
        clear hds HS
        go_wp2
        go_ret
        exact ⟨by rw [HC.out, HW.out, HC2.out]; rfl, by rw [HC.out, HW.out]; exact HD.out⟩
end Go.Proofs.YtiaddfghojdgkaaGreatDoor
