/-
  The document's answer to layer 9: the walk of Cut.
-/
import Derived.Test.YtiaddfghojdgkaaGreatDoorRAdd
import Derived.Test.YtiaddfghojdgkaaGreatDoorRPair
import Derived.Test.YtiaddfghojdgkaaGreatDoorRDkj
import Derived.Test.YtiaddfghojdgkaaGreatDoorCut
namespace Go.Proofs.YtiaddfghojdgkaaGreatDoor
open Go.RowKit Go.Shelf

theorem SR.turn {w w' : World} {ft : Nat → Prop} {b : Nat} {f : Int} {v : Value} {t : Bool} (h : SR b f v t w) (hf : ¬ ft b) (ht : Turn ft w w') : SR b f v t w' :=
  (ht.block b (Array.getElem?_eq_some_iff.1 h).1 hf).trans h
theorem held_sr {X X' : World} {G : Nat} {u v : Value} (h : X.cell? ⟨G, 0, none⟩ = some u ∧ X.cell? ⟨G, 1, none⟩ = some v) (hb : Below X.heap.size X X') : X'.cell? ⟨G, 0, none⟩ = some u ∧ X'.cell? ⟨G, 1, none⟩ = some v :=
  ⟨cell_kept hb (Nat.le_refl _) h.1, cell_kept hb (Nat.le_refl _) h.2⟩
theorem cut_size {first : Int} {l : List Evt.Entry} {N : ByteArray} (hN : N.data.toList = Seg.bytesH first ++ Seg.bytesB l) (hl : l.length ≤ 200000) : N.size ≤ 1000000000 := by
  have h1 := Seg.bytesH_len first
  have h2 := Seg.bytesB_len l
  rw [Lib.size_eq, hN, List.length_append]; omega
theorem cut_cells {w4 w5 w6 : World} {G : Nat} {first : Int} {v : Value} {t : Bool} {g : Nat → Prop} (h : SR G first v t w4) (hb : Below w4.heap.size w4 w5) (ht : Turn g w5 w6) (hg : ¬ g G) : w6.cell? ⟨G, 0, none⟩ = some (.int .i64 first) ∧ w6.cell? ⟨G, 1, none⟩ = some v :=
  ⟨((h.next hb).turn hg ht).cells.1, ((h.next hb).turn hg ht).cells.2.1⟩
theorem rcut_chain2 {d : Nat} {room : Int} {fs F4 F6 F7 : List Dk.File} {ft g4 g6 : Nat → Prop} {w W w4 w5 w6 w7 : World} (h : IsR w d room fs ft) (hb : Below w.heap.size w W) (h4 : IsR w4 d room F4 g4) (ht4 : Turn ft W w4) (hf4 : ∀ j, g4 j → ft j ∨ W.heap.size ≤ j) (hb5 : Below w4.heap.size w4 w5)
    (h6 : IsR w6 d room F6 g6) (ht6 : Turn g4 w5 w6) (hf6 : ∀ j, g6 j → g4 j ∨ w5.heap.size ≤ j) (h7 : RStep d room F7 g6 w6 w7) : RStep d room F7 ft w w7 :=
  RStep.trans (h.next hb) (fun _ hj => .inl hj) (Turn.of_below hb) (RStep.trans h4 hf4 ht4 (RStep.trans (h4.next hb5) (fun _ hj => .inl hj) (Turn.of_below hb5) (RStep.trans h6 hf6 ht6 h7)))
theorem rcut_chain {d : Nat} {room : Int} {fs F4 F6 F7 F8 : List Dk.File} {ft g4 g6 g7 : Nat → Prop} {w W w4 w5 w6 w7 w8 : World} (h : IsR w d room fs ft) (hb : Below w.heap.size w W) (h4 : IsR w4 d room F4 g4) (ht4 : Turn ft W w4) (hf4 : ∀ j, g4 j → ft j ∨ W.heap.size ≤ j) (hb5 : Below w4.heap.size w4 w5)
    (h6 : IsR w6 d room F6 g6) (ht6 : Turn g4 w5 w6) (hf6 : ∀ j, g6 j → g4 j ∨ w5.heap.size ≤ j) (h7 : IsR w7 d room F7 g7) (ht7 : Turn g6 w6 w7) (hf7 : ∀ j, g7 j → g6 j ∨ w6.heap.size ≤ j) (h8 : RStep d room F8 g7 w7 w8) : RStep d room F8 ft w w8 :=
  rcut_chain2 h hb h4 ht4 hf4 hb5 h6 ht6 hf6 (RStep.trans h7 hf7 ht7 h8)
theorem Dk.append_there {room : Int} {k : List UInt8} {s : ByteArray} {fs : List Dk.File} (h : (Dk.append room k s fs).2 = 0) : (Dk.sync k (Dk.append room k s fs).1).2 = 0 := by
  unfold Dk.append at h ⊢
  split at h
  · cases h
  · rename_i h1
    rw [if_neg h1]
    split at h
    · cases h
    · rename_i h2
      rw [if_neg h2]
      split at h
      · cases h
      · rename_i h3
        rw [if_neg h3]
        have e : (Dk.more k s (Dk.look fs k)).name = k := by cases Dk.look fs k <;> rfl
        have := Dk.look_put_same (Dk.more k s (Dk.look fs k)) fs
        rw [e] at this
        simp only [Dk.sync]
        rw [this]
set_option maxHeartbeats 4000000 in
set_option maxRecDepth 100000 in
theorem rsegCut0_any (d : Nat) (room n last : Int) (fs : List Dk.File) (ft : Nat → Prop) (w : World) (h : IsR w d room fs ft) (hft : ∀ j, ft j → j < w.heap.size) (hroom : room ≤ 1048576) :
    Calls Tryz.prog 61 #[.pointer (some ⟨d, 0, none⟩), .int .i64 n, .int .i64 last] w fun e w' => e = .returned (.int .i64 ((Seg.cutD room n last fs).2 : Nat)) ∧ RStep d room (Seg.cutD room n last fs).1 ft w w' := by
  have hrr := rread_room h hroom (Seg.nameOf n)
  have hle := loadD_le n fs hrr
  have hnl := Seg.name_len n
  have HD := Lib.hid h
  have HL := Lib.hid (rsegLoad_any d room n fs ft w h hroom)
  clear h hrr
  go_enter Tryz.func61, Tryz.ntmps61
  go_wp2_with fail
  refine HL.out.mono ?_
  rintro e w1 ⟨first, v, ps, torn, c, rfl, hLD, hNE, b1⟩
  rw [hLD.out] at hle
  simp only at hle
  have hpl : ps.length ≤ 200000 := by have := hle.2.2; simpa [plainE] using this
  have hpe0 : (plainE ps).length = ps.length := by simp [plainE]
  obtain ⟨va, vc, rfl, hcap⟩ : ∃ va vc, v = .slice va ps.length vc ∧ ((va = none ∧ vc = 0 ∧ ps.length = 0) ∨ ∃ g, va = some ⟨g, 0, none⟩ ∧ ps.length ≤ vc) := by
    rcases hNE.out.1.2 with ⟨rfl, h0⟩ | ⟨g, cap, cur, rfl, _, _, h1, _⟩
    · exact ⟨none, 0, by rw [h0], .inl ⟨rfl, rfl, h0⟩⟩
    · exact ⟨_, _, rfl, .inr ⟨g, rfl, h1⟩⟩
  have hnc : ps.length ≤ vc := by
    rcases hcap with ⟨_, h1, h2⟩ | ⟨g, _, h⟩
    · omega
    · exact h
  obtain ⟨W, hW⟩ : ∃ W, W = w1.alloc (.cells #[.int .i64 first, .slice va ps.length vc, .bool torn] 42) := ⟨_, rfl⟩
  have sr : SR w1.heap.size first (.slice va ps.length vc) torn W := by rw [hW]; exact heap_alloc_new w1 _
  have hb2 : Below w.heap.size w W := by rw [hW]; exact b1.alloc b1.size _
  have hNW : NewEnts w.heap.size W (.slice va ps.length vc) ps := by rw [hW]; exact NewEnts.next hNE.out ((Below.refl _ w1).alloc (Nat.le_refl _) _)
  have hEn : Ents W (.slice va ps.length vc) ps := hNW.ents
  have HNE := Lib.hid hNW
  have SRx := Lib.hid sr
  have HFT := Lib.hid hft
  have hw1s := b1.size
  have HW := Lib.hid hW
  have HB2 := Lib.hid hb2
  have HEn := Lib.hid hEn
  obtain ⟨m0, m1, m2⟩ := sr.cells
  have HCD0 := Lib.hid (show Seg.cutD room n last fs = if c = 0 then Seg.cutG room n ⟨first, plainE ps, torn⟩ (Seg.keepN last (plainE ps)) fs else (fs, c) by rw [Seg.cutD, hLD.out])
  have HCP := Lib.hid hcap
  clear HL hb2 hEn sr hLD hNE b1 hW hcap hNW hft
  go_upto_region 2 with fail
  rw [← HW.out]
  clear HW
  by_cases hc0 : c = 0
  · subst hc0
    have HCD := Lib.hid (HCD0.out.trans (if_pos rfl))
    clear HCD0
    go_upto_block 0 with fail
    go_cut [9] (fun kv wx => ∃ K : Nat, kv = .int .i64 (K : Int) ∧ W = wx ∧ K ≤ ps.length ∧ Hid (Seg.keepN last (plainE ps) = K))
    case first =>
      go_wp2
      go_loopw [9] (fun lv wr => ∃ i : Nat, lv = .int .i64 i ∧ i ≤ ps.length ∧ wr = W ∧ Seg.keepN last (plainE ps) = i + Seg.keepN last (plainE (ps.drop i))) (fun lv _ => ps.length - (intOf lv).toNat)
      case atStart => exact ⟨0, rfl, by omega, rfl, by simp⟩
      case round =>
        obtain ⟨i, rfl, hi, rfl, hk⟩ := hrel
        have HK := Lib.hid hk
        clear hk
        by_cases hp : i < ps.length
        · obtain ⟨b', o', c', p, ep, S, ex, se, sq, sa, sl, sc, es, hv, k0, _, _, _, _, _, _, _, _, _, _, hpe, _⟩ := enAt HEn.out i hp
          cases hv
          by_cases hpl' : p ≤ last
          · have HN := Lib.hid (keepN_go hp hpe.out hpl' HK.out)
            clear HK hpe
            go_wp2
            exact ⟨⟨i + 1, by go_num, by omega, trivial, HN.out⟩, by simp [intOf]; omega⟩
          · have HN := Lib.hid (keepN_stop hp hpe.out hpl' HK.out)
            clear HK hpe
            go_wp2
            go_meet
            exact ⟨i, rfl, rfl, hi, HN⟩
        · obtain rfl : i = ps.length := by omega
          have HN := Lib.hid (keepN_end HK.out)
          clear HK
          go_wp2
          go_meet
          exact ⟨ps.length, rfl, rfl, Nat.le_refl _, HN⟩
    case rest =>
      obtain ⟨K, rfl, rfl, hKn, hK⟩ := hcut
      rw [hK.out] at HCD
      by_cases hsame : K = ps.length ∧ torn = false
      · obtain ⟨h1, h2⟩ := hsame
        have HN := Lib.hid (show Seg.cutD room n last fs = (fs, 0) by rw [HCD.out, Seg.cutG, if_pos ⟨by rw [hpe0]; exact h1, h2⟩])
        subst h2
        have hkb : ((K : Int) == (ps.length : Int)) = true := by rw [h1]; simp
        clear HCD hK HCP
        go_wp2
        go_ret
        exact ⟨by rw [HN.out]; rfl, by rw [HN.out]; exact RStep.of_below HD.out HB2.out⟩
      have HNC := Lib.hid (show Seg.cutD room n last fs =
        if (Seg.writeD room Seg.temp ⟨(Seg.bytesH first ++ Seg.bytesB ((plainE ps).take K)).toArray⟩ (Dk.delete Seg.temp fs).1).2 = 0 then Dk.rename Seg.temp (Seg.nameOf n) (Seg.writeD room Seg.temp ⟨(Seg.bytesH first ++ Seg.bytesB ((plainE ps).take K)).toArray⟩ (Dk.delete Seg.temp fs).1).1 else
        Seg.writeD room Seg.temp ⟨(Seg.bytesH first ++ Seg.bytesB ((plainE ps).take K)).toArray⟩ (Dk.delete Seg.temp fs).1 by rw [HCD.out, Seg.cutG, if_neg (by rw [hpe0]; exact hsame)])
      have hKc : K ≤ vc := by omega
      have HSL := Lib.hid (fun (X : World) (hX : Ents X (.slice va ps.length vc) ps) => (show Ents X (.slice va K vc) (ps.take K) by
        rcases HCP.out with ⟨h1, h2, h3⟩ | ⟨g, h1, h2⟩
        · subst h1 h2
          obtain rfl : ps = [] := List.eq_nil_of_length_eq_zero h3
          obtain rfl : K = 0 := by simpa using hKn
          exact ents_nil _
        · subst h1
          exact ents_take hX hKn vc))
      have HSM := Lib.hid hsame
      clear HCD hK HCP HEn hsame
      have hcases : (((K : Int) == (ps.length : Int)) = false) ∨ (((K : Int) == (ps.length : Int)) = true ∧ torn = true) := by
        by_cases e : K = ps.length
        · refine .inr ⟨by rw [e]; simp, ?_⟩
          cases torn with
          | true => rfl
          | false => exact absurd ⟨e, rfl⟩ HSM.out
        · exact .inl (by rw [beq_eq_false_iff_ne]; omega)
      clear HSM
      have HDL := Lib.hid (rdDelete_any d room fs ft ⟨#[116, 101, 109, 112]⟩ W (HD.out.next HB2.out))
      rcases hcases with hkb | ⟨hkb, htt⟩
      all_goals try subst htt
      all_goals (
        go_wp2_with fail
        refine HDL.out.mono ?_
        rintro e w4 ⟨rfl, hst4⟩
        obtain ⟨g4, hR4, hf4, hl4, ht4⟩ := hst4.open
        have HR4 := Lib.hid hR4
        have HT4 := Lib.hid (And.intro ht4 hf4)
        have sr4 := SRx.out.turn (ft := ft) (fun hx => by have := HFT.out _ hx; omega) ht4
        have HSL4 := Lib.hid (HSL.out _ (HNE.out.turn HFT.out ht4).ents)
        have HBY := Lib.hid (rsegBytes_any first (.slice va K vc) (ps.take K) w4.drew (HSL4.out.next (Below.refl _ _).drew) (by rw [List.length_take]; omega))
        have hc0 : w4.drew.cell? ⟨w1.heap.size, 0, none⟩ = some (.int .i64 first) ∧ w4.drew.cell? ⟨w1.heap.size, 1, none⟩ = some (.slice va ps.length vc) := ⟨sr4.cells.1, sr4.cells.2.1⟩
        have HAPP := Lib.hid (fun (X : World) (N : ByteArray) (hX : Below w4.heap.size w4 X) (hN : N.size ≤ 1000000000) => rdAppend_any d room _ g4 ⟨#[116, 101, 109, 112]⟩ N X (HR4.out.next hX) (by decide) (by omega))
        have HTK := Lib.hid (plainE_take ps K)
        have HSR4 := Lib.hid sr4
        have HSZ := Lib.hid (fun (N : ByteArray) (hN : N.data.toList = Seg.bytesH first ++ Seg.bytesB (plainE (ps.take K))) => cut_size hN (by rw [plainE, List.length_map, List.length_take]; omega))
        have HRX := Lib.hid (fun (a b : ByteArray) (X : World) (F : List Dk.File) (g : Nat → Prop) (hX : IsR X d room F g) (hb : b.size ≤ 1000000000) => rdRename_any d room F g a b X hX hb)
        clear HDL hst4 hf4 ht4 hR4 hl4 sr4 HSL HSL4 m0 m1 m2
        go_wp2
        go_region_held3 (fun X => X.cell? ⟨w1.heap.size, 0, none⟩ = some (.int .i64 first) ∧ X.cell? ⟨w1.heap.size, 1, none⟩ = some (.slice va ps.length vc))
          (first | exact hc0 | exact hA)
          (first
            | (go_at_call 84; refine HBY.out.mono ?_; rintro e w5 ⟨NB, rfl, hNB, b5⟩; have hA := held_sr hc0 b5; have HB5 := Lib.hid ((Below.refl _ w4).drew.trans b5))
            | (go_at_call 63; refine (HAPP.out _ NB HB5.out (HSZ.out NB hNB.out)).mono ?_; rintro e w6 ⟨rfl, hst6⟩; obtain ⟨g6, hR6, hf6, hl6, ht6⟩ := hst6.open; have hA := cut_cells HSR4.out HB5.out ht6 (fun hx => (HT4.out.2 _ hx).elim (fun e => absurd (HFT.out _ e) (Nat.not_lt.2 hw1s)) (fun e => absurd (Array.getElem?_eq_some_iff.1 SRx.out).1 (Nat.not_lt.2 e)))))
        have HNB := Lib.hid (show NB = ⟨(Seg.bytesH first ++ Seg.bytesB ((plainE ps).take K)).toArray⟩ by
          apply ByteArray.ext; apply Array.toList_inj.1; rw [hNB.out, HTK.out])
        obtain ⟨F4, hF4⟩ : ∃ F4, (Dk.delete Seg.temp fs).1 = F4 := ⟨_, rfl⟩
        rw [← HNB.out, hF4] at HNC
        rw [show (Dk.delete (⟨#[116, 101, 109, 112]⟩ : ByteArray).data.toList fs).1 = F4 from hF4] at hR6 hst6 ⊢
        obtain ⟨FA, hFA⟩ : ∃ FA, Dk.append room Seg.temp NB F4 = FA := ⟨_, rfl⟩
        have hR6' : IsR w6 d room FA.1 g6 := by rw [← hFA]; exact hR6
        have hst6' : RStep d room FA.1 g4 w5 w6 := by rw [← hFA]; exact hst6
        have HWD := Lib.hid (show Seg.writeD room Seg.temp NB F4 = if FA.2 = 0 then Dk.sync Seg.temp FA.1 else ((Dk.delete Seg.temp FA.1).1, FA.2) by rw [Seg.writeD, hFA])
        have HSY := Lib.hid (fun (h : FA.2 = 0) => (show (Dk.sync Seg.temp FA.1).2 = 0 by rw [← hFA] at h ⊢; exact Dk.append_there h))
        rw [show Dk.append room [116, 101, 109, 112] NB F4 = FA from hFA]
        obtain ⟨F6, c6⟩ := FA
        simp only at HWD HSY hR6' ⊢
        have HR6 := Lib.hid hR6'
        have HT6 := Lib.hid (And.intro ht6 hf6)
        clear hR6 hR6' hst6 hst6' hFA hA hc0 HBY HAPP hNB HTK HNE HSZ HRX hl6 ht6 hf6
        by_cases h6 : c6 = 0
        · subst h6
          have HS6 := Lib.hid (HSY.out rfl)
          rw [HWD.out] at HNC
          rw [if_pos rfl, if_pos HS6.out] at HNC
          obtain ⟨F7, hF7⟩ : ∃ F7, (Dk.sync Seg.temp F6).1 = F7 := ⟨_, rfl⟩
          have HSC := Lib.hid (rdSync_any d room F6 g6 ⟨#[116, 101, 109, 112]⟩ w6 HR6.out)
          rw [hF7] at HNC
          go_wp2_with fail
          refine HSC.out.mono ?_
          rintro e w7 ⟨rfl, hst7⟩
          have hst7 : RStep d room F7 g6 w6 w7 := by rw [← hF7]; exact hst7
          obtain ⟨g7, hR7, hf7, hl7, ht7⟩ := hst7.open
          have HNM := Lib.hid ((refSegName_any n w7).mono (fun _ _ h => (And.intro h.1 h.2.symm)))
          obtain ⟨nm, hnm⟩ : ∃ nm, Seg.nameOf n = nm := ⟨_, rfl⟩
          rw [hnm] at HNM HNC hnl
          have hns6 : (⟨nm.toArray⟩ : ByteArray).size ≤ 14 := by rw [Lib.size_eq]; exact hnl
          have HRN := Lib.hid (rdRename_any d room F7 g7 ⟨#[116, 101, 109, 112]⟩ ⟨nm.toArray⟩ w7 hR7 (by omega))
          have HT7 := Lib.hid (And.intro ht7 hf7)
          have HR7 := Lib.hid hR7
          clear HSC hst7 ht7 hf7 hR7 hl7 hnm hF7 HS6 HSY HWD
          go_wp2_with fail
          refine HNM.out.mono ?_
          rintro e w8 ⟨rfl, rfl⟩
          go_wp2_with fail
          refine HRN.out.mono ?_
          rintro e w8 ⟨rfl, hds⟩
          have HDS := Lib.hid (rcut_chain HD.out HB2.out HR4.out HT4.out.1 HT4.out.2 HB5.out HR6.out HT6.out.1 HT6.out.2 HR7.out HT7.out.1 HT7.out.2 hds)
          clear hds HRN HNM
          go_wp2
          go_ret
          exact ⟨by rw [HNC.out]; rfl, by rw [HNC.out]; exact HDS.out⟩
        · rw [HWD.out, if_neg h6] at HNC
          have HNZ := Lib.hid (HNC.out.trans (if_neg (show ¬ (((Dk.delete Seg.temp F6).1, c6) : List Dk.File × Nat).2 = 0 from h6)))
          have hcb : ((c6 : Int) != 0) = true := by rw [bne_iff_ne]; omega
          have HDC := Lib.hid (rdDelete_any d room F6 g6 ⟨#[116, 101, 109, 112]⟩ w6 HR6.out)
          clear HNC HSY HWD h6
          go_wp2_with fail
          refine HDC.out.mono ?_
          rintro e w7 ⟨rfl, hst7⟩
          have HDS := Lib.hid (rcut_chain2 HD.out HB2.out HR4.out HT4.out.1 HT4.out.2 HB5.out HR6.out HT6.out.1 HT6.out.2 (show RStep d room (Dk.delete Seg.temp F6).1 g6 w6 w7 from hst7))
          clear hst7 HDC
          go_wp2
          go_ret
          exact ⟨by rw [HNZ.out]; rfl, by rw [HNZ.out]; exact HDS.out⟩)
  · have HCD := Lib.hid (HCD0.out.trans (if_neg hc0))
    have hcb : ((c : Int) != 0) = true := by rw [bne_iff_ne]; omega
    clear HCD0 HCP
    go_wp2
    go_ret
    exact ⟨by rw [HCD.out]; rfl, by rw [HCD.out]; exact RStep.of_below HD.out HB2.out⟩
theorem rsegCut_any (d : Nat) (room n last : Int) (fs : List Dk.File) (ft : Nat → Prop) (w : World) (h : IsR w d room fs ft) (hroom : room ≤ 1048576) :
    Calls Tryz.prog 61 #[.pointer (some ⟨d, 0, none⟩), .int .i64 n, .int .i64 last] w fun e w' => e = .returned (.int .i64 ((Seg.cutD room n last fs).2 : Nat)) ∧ RStep d room (Seg.cutD room n last fs).1 ft w w' := by
  refine (rsegCut0_any d room n last fs _ w h.narrow (fun j hj => hj.2) hroom).mono ?_
  rintro e w' ⟨rfl, h⟩
  exact ⟨rfl, h.wide (fun j hj => hj.1)⟩
end Go.Proofs.YtiaddfghojdgkaaGreatDoor
