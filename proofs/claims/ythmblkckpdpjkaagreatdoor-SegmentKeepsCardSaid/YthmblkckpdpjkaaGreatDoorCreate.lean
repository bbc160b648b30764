/-
  The walks of segment.write and segment.Create.
-/
import Derived.Test.YthmblkckpdpjkaaGreatDoorBytes
namespace Go.Proofs.YthmblkckpdpjkaaGreatDoor
open Go.RowKit Go.Shelf

/-- Where a walk began, whose environment no disk turns. -/
structure Base (a w : World) (ft : Nat → Prop) : Prop where
  env : Env a
  below : Below a.heap.size a w
  out : ∀ j, ft j → a.heap.size ≤ j
theorem Base.envW {a w : World} {ft : Nat → Prop} (h : Base a w ft) : Env w := h.env.next h.below
theorem Base.next {a w w' : World} {ft : Nat → Prop} (h : Base a w ft) (hb : Below w.heap.size w w') : Base a w' ft := ⟨h.env, Below.up h.below (Nat.le_refl _) hb, h.out⟩
theorem Base.turn {a w w' : World} {ft ft' : Nat → Prop} (h : Base a w ft) (ht : Turn ft w w') (hf : ∀ j, ft' j → ft j ∨ w.heap.size ≤ j) : Base a w' ft' :=
  ⟨h.env, h.below.trans (ht.below h.out h.below.size), fun j hj => by
    rcases hf j hj with h1 | h1
    · exact h.out j h1
    · exact Nat.le_trans h.below.size h1⟩
theorem DStep.trans {d : Nat} {room : Int} {f2 : List Dk.File} {ft ft1 : Nat → Prop} {w w1 w2 : World} (ht : Turn ft w w1) (hf : ∀ j, ft1 j → ft j ∨ w.heap.size ≤ j) (h2 : DStep d room f2 ft1 w1 w2) : DStep d room f2 ft w w2 := by
  obtain ⟨ft2, hd, hf2, ht2⟩ := h2
  refine ⟨ft2, hd, fun j hj => ?_, ht.trans ht2 hf⟩
  rcases hf2 j hj with h | h
  · exact hf j h
  · exact .inr (Nat.le_trans ht.size h)
theorem DStep.under {d : Nat} {room : Int} {f2 : List Dk.File} {ft : Nat → Prop} {w w1 w2 : World} (hb : Below w.heap.size w w1) (h2 : DStep d room f2 ft w1 w2) : DStep d room f2 ft w w2 :=
  DStep.trans (Turn.of_below hb) (fun _ hj => .inl hj) h2
theorem ba_eq {F : ByteArray} {l : List UInt8} (h : F.data.toList = l) : F = ⟨l.toArray⟩ := by
  apply ByteArray.ext; rw [← h]
def Seg.writeD (room : Int) (nm : List UInt8) (s : ByteArray) (fs : List Dk.File) : List Dk.File × Nat :=
  if (Dk.append room nm s fs).2 = 0 then Dk.sync nm (Dk.append room nm s fs).1 else ((Dk.delete nm (Dk.append room nm s fs).1).1, (Dk.append room nm s fs).2)
def Seg.create (room n first : Int) (fs : List Dk.File) : List Dk.File × Nat :=
  if Seg.nameOf n = [] ∨ first < 1 ∨ first > 274877906944 then (fs, 1) else
  if (Dk.read (Seg.nameOf n) fs).2 = 0 then (fs, 7) else Seg.writeD room (Seg.nameOf n) ⟨(Seg.bytesH first).toArray⟩ fs

set_option maxHeartbeats 2000000 in
theorem segWrite_any (a : World) (d : Nat) (room : Int) (fs : List Dk.File) (ft : Nat → Prop) (nm s : ByteArray) (w : World) (hA : Base a w ft) (h : IsDisk w d room fs ft) (hn : nm.size ≤ 1000000000) (hs : s.size ≤ 1000000000000) :
    Calls Tryz.prog 42 #[.pointer (some ⟨d, 0, none⟩), .string nm, .string s] w fun e w' => e = .returned (.int .i64 ((Seg.writeD room nm.data.toList s fs).2 : Nat)) ∧ DStep d room (Seg.writeD room nm.data.toList s fs).1 ft w w' := by
  have HAP := Lib.hid (diskAppend_any d room fs ft nm s w hA.envW h hn hs)
  by_cases h0 : (Dk.append room nm.data.toList s fs).2 = 0
  · have HW := Lib.hid (show Seg.writeD room nm.data.toList s fs = Dk.sync nm.data.toList (Dk.append room nm.data.toList s fs).1 by rw [Seg.writeD, if_pos h0])
    have H0 := Lib.hid h0
    clear h h0
    go_enter Tryz.func42, Tryz.ntmps42
    go_wp2_with fail
    refine HAP.out.mono ?_
    rintro e w1 ⟨rfl, ft1, hd1, hf1, ht1⟩
    rw [H0.out]
    have HS := Lib.hid (diskSync_any d room _ ft1 nm w1 hd1 (by omega))
    have HT := Lib.hid (And.intro ht1 hf1)
    clear HAP hd1 hf1 ht1
    go_wp2_with fail
    refine HS.out.mono ?_
    rintro e w2 ⟨rfl, hds⟩
    have HD := Lib.hid (DStep.trans HT.out.1 HT.out.2 hds)
    clear hds HT HS
    go_wp2
    go_ret
    exact ⟨by rw [HW.out]; rfl, by rw [HW.out]; exact HD.out⟩
  · have HW := Lib.hid (show Seg.writeD room nm.data.toList s fs = ((Dk.delete nm.data.toList (Dk.append room nm.data.toList s fs).1).1, (Dk.append room nm.data.toList s fs).2) by rw [Seg.writeD, if_neg h0])
    obtain ⟨c, hc⟩ : ∃ c, (Dk.append room nm.data.toList s fs).2 = c := ⟨_, rfl⟩
    have hc0 : ((c : Int) != 0) = true := by rw [bne_iff_ne]; omega
    have H0 := Lib.hid hc
    clear h h0 hc
    go_enter Tryz.func42, Tryz.ntmps42
    go_wp2_with fail
    refine HAP.out.mono ?_
    rintro e w1 ⟨rfl, ft1, hd1, hf1, ht1⟩
    rw [H0.out]
    have HS := Lib.hid (diskDelete_any d room _ ft1 nm w1 hd1 (by omega))
    have HT := Lib.hid (And.intro ht1 hf1)
    clear HAP hd1 hf1 ht1
    go_wp2_with fail
    refine HS.out.mono ?_
    rintro e w2 ⟨rfl, hds⟩
    have HD := Lib.hid (DStep.trans HT.out.1 HT.out.2 hds)
    clear hds HT HS
    go_wp2
    go_ret
    exact ⟨by rw [HW.out, H0.out]; rfl, by rw [HW.out]; exact HD.out⟩

theorem ents_nil (w : World) : Ents w (.slice none 0 0) [] := ⟨⟨rfl, .inl ⟨rfl, _, _, rfl⟩⟩, fun p hp => by cases hp⟩
set_option maxHeartbeats 2000000 in
theorem segCreate_any (a : World) (d : Nat) (room n first : Int) (fs : List Dk.File) (ft : Nat → Prop) (w : World) (hA : Base a w ft) (h : IsDisk w d room fs ft) :
    Calls Tryz.prog 17 #[.pointer (some ⟨d, 0, none⟩), .int .i64 n, .int .i64 first] w fun e w' => e = .returned (.int .i64 ((Seg.create room n first fs).2 : Nat)) ∧ DStep d room (Seg.create room n first fs).1 ft w w' := by
  have HN := Lib.hid (segName_any n w hA.envW)
  have hnl := Seg.name_len n
  obtain ⟨nm, hnm⟩ : ∃ nm, Seg.nameOf n = nm := ⟨_, rfl⟩
  have hns : (⟨nm.toArray⟩ : ByteArray).size ≤ 14 := by rw [Lib.size_eq]; rw [← hnm]; exact hnl
  have HC0 := Lib.hid (show Seg.create room n first fs = if nm = [] ∨ first < 1 ∨ first > 274877906944 then (fs, 1) else if (Dk.read nm fs).2 = 0 then (fs, 7) else Seg.writeD room nm ⟨(Seg.bytesH first).toArray⟩ fs by rw [← hnm]; rfl)
  rw [hnm] at HN
  clear hnm hnl
  by_cases hbad : nm = [] ∨ first < 1 ∨ first > 274877906944
  · have HC := Lib.hid (HC0.out.trans (if_pos hbad))
    have HH := Lib.hid h
    have HCL := Lib.hid (And.intro (congrArg Prod.fst HC.out) (congrArg Prod.snd HC.out))
    clear HC0 HC h
    have hcase : (nm = []) ∨ (nm.isEmpty = false ∧ first < 1) ∨ (nm.isEmpty = false ∧ ¬ first < 1 ∧ first > 274877906944) := by
      cases nm with
      | nil => exact .inl rfl
      | cons c r =>
        rcases hbad with h1 | h1 | h1
        · cases h1
        · exact .inr (.inl ⟨rfl, h1⟩)
        · exact .inr (.inr ⟨rfl, by omega, h1⟩)
    clear hbad
    rcases hcase with h1 | ⟨h1, h2⟩ | ⟨h1, h2, h3⟩
    · subst h1
      go_enter Tryz.func17, Tryz.ntmps17
      go_wp2_with fail
      refine HN.out.mono ?_
      rintro e w1 ⟨rfl, hb1⟩
      go_wp2
      go_ret
      exact ⟨by rw [HCL.out.2]; rfl, by rw [HCL.out.1]; exact DStep.of_below HH.out hb1⟩
    · skip
      go_enter Tryz.func17, Tryz.ntmps17
      go_wp2_with fail
      refine HN.out.mono ?_
      rintro e w1 ⟨rfl, hb1⟩
      go_wp2
      go_ret
      exact ⟨by rw [HCL.out.2]; rfl, by rw [HCL.out.1]; exact DStep.of_below HH.out hb1⟩
    · skip
      go_enter Tryz.func17, Tryz.ntmps17
      go_wp2_with fail
      refine HN.out.mono ?_
      rintro e w1 ⟨rfl, hb1⟩
      go_wp2
      go_ret
      exact ⟨by rw [HCL.out.2]; rfl, by rw [HCL.out.1]; exact DStep.of_below HH.out hb1⟩
  · have hne : nm.isEmpty = false := by
      cases nm with
      | nil => exact absurd (.inl rfl) hbad
      | cons c r => rfl
    have hf1 : 1 ≤ first := by omega
    have hf2 : first ≤ 274877906944 := by omega
    have HC1 := Lib.hid (HC0.out.trans (if_neg hbad))
    clear HC0 hbad
    have HH := Lib.hid h
    have HA := Lib.hid hA
    by_cases hr : (Dk.read nm fs).2 = 0
    · have HC := Lib.hid (HC1.out.trans (if_pos hr))
      have HRd := Lib.hid hr
      clear HC1 hr h hA
      go_enter Tryz.func17, Tryz.ntmps17
      go_wp2_with fail
      refine HN.out.mono ?_
      rintro e w1 ⟨rfl, hb1⟩
      have HR := Lib.hid (diskRead_any d room fs ft ⟨nm.toArray⟩ w1 (HH.out.next hb1) (by omega))
      go_wp2_with fail
      refine HR.out.mono ?_
      rintro e w2 ⟨rfl, hw2⟩
      obtain rfl := hw2
      rw [show (Dk.read (⟨nm.toArray⟩ : ByteArray).data.toList fs).2 = 0 from HRd.out]
      go_wp2
      go_ret
      exact ⟨by rw [HC.out]; rfl, by rw [HC.out]; exact DStep.of_below HH.out hb1⟩
    · have HC := Lib.hid (HC1.out.trans (if_neg hr))
      obtain ⟨c, hc⟩ : ∃ c, (Dk.read nm fs).2 = c := ⟨_, rfl⟩
      have hc0 : ((c : Int) == 0) = false := by rw [beq_eq_false_iff_ne]; omega
      have HRd := Lib.hid hc
      clear HC1 hr hc h hA
      go_enter Tryz.func17, Tryz.ntmps17
      go_wp2_with fail
      refine HN.out.mono ?_
      rintro e w1 ⟨rfl, hb1⟩
      have HR := Lib.hid (diskRead_any d room fs ft ⟨nm.toArray⟩ w1 (HH.out.next hb1) (by omega))
      go_wp2_with fail
      refine HR.out.mono ?_
      rintro e w2 ⟨rfl, hw2⟩
      obtain rfl := hw2
      rw [show (Dk.read (⟨nm.toArray⟩ : ByteArray).data.toList fs).2 = c from HRd.out]
      have HB := Lib.hid (segBytes_any first _ [] w1 (HA.out.next hb1).envW (ents_nil w1) (by simp))
      go_wp2_with fail
      refine HB.out.mono ?_
      rintro e w3 ⟨F, R, rfl, hF, _, b3⟩
      have hb3 := Below.up hb1 (Nat.le_refl _) b3
      have hF14 : F.size ≤ 15 := by rw [Lib.size_eq, hF.out]; exact Seg.bytesH_len first
      have HW := Lib.hid (segWrite_any a d room fs ft ⟨nm.toArray⟩ F w3 (HA.out.next hb3) (HH.out.next hb3) (by omega) (by omega))
      clear HB HR HN b3
      go_wp2_with fail
      refine HW.out.mono ?_
      rintro e w4 ⟨rfl, hds⟩
      have HD := Lib.hid (DStep.under hb3 hds)
      have HF := Lib.hid (ba_eq hF.out)
      clear hds HW hF
      go_wp2
      go_ret
      exact ⟨by rw [HC.out, ← HF.out]; rfl, by rw [HC.out, ← HF.out]; exact HD.out⟩
end Go.Proofs.YthmblkckpdpjkaaGreatDoor
