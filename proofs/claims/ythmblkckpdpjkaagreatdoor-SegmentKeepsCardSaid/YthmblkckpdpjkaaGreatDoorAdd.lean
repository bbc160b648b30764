/-
  The walks of Segment.last and segment.Add.
-/
import Derived.Test.YthmblkckpdpjkaaGreatDoorLoad
namespace Go.Proofs.YthmblkckpdpjkaaGreatDoor
open Go.RowKit Go.Shelf

set_option maxHeartbeats 2000000 in
theorem segLast_any (first : Int) (v : Value) (torn : Bool) (ps : List EnX) (w : World) (hc : Ents w v ps) (hn : ps.length ≤ 1000000) (h0 : 0 ≤ first) (h1 : first ≤ 274877906944) :
    Calls Tryz.prog 43 #[.agg #[.int .i64 first, v, .bool torn]] w fun e w' => e = .returned (.tuple #[.int .i64 (Seg.last ⟨first, plainE ps, torn⟩).1, .int .i64 (Seg.last ⟨first, plainE ps, torn⟩).2]) ∧ Below w.heap.size w w' := by
  have hw1 : wrap64 (first - 1) = first - 1 := IntWalk.wrap64_in _ (by omega)
  rcases cellsNil hc.1 with ⟨hl, sa, sc, rfl⟩ | ⟨b, o, c, rfl⟩
  · have hN := List.eq_nil_of_length_eq_zero hl
    have HL := Lib.hid (show Seg.last ⟨first, plainE ps, torn⟩ = (first - 1, 0) by rw [hN]; rfl)
    have hb0 := (Below.refl _ w).alloc (Nat.le_refl _) (.cells #[.int .i64 first, .slice sa 0 sc, .bool torn] 48)
    clear hN hl
    go_enter Tryz.func43, Tryz.ntmps43
    go_wp2
    go_ret2
    exact ⟨by rw [HL.out]; rfl, hb0⟩
  · by_cases hp : ps.length = 0
    · have hN := List.eq_nil_of_length_eq_zero hp
      have HL := Lib.hid (show Seg.last ⟨first, plainE ps, torn⟩ = (first - 1, 0) by rw [hN]; rfl)
      subst hN
      have hb0 := (Below.refl _ w).alloc (Nat.le_refl _) (.cells #[.int .i64 first, .slice (some ⟨b, o, none⟩) 0 c, .bool torn] 48)
      clear hp
      go_enter Tryz.func43, Tryz.ntmps43
      go_wp2
      go_ret2
      exact ⟨by rw [HL.out]; rfl, hb0⟩
    · have hp1 : ps.length - 1 < ps.length := by omega
      obtain ⟨b', o', c', p, ep, S, ex, se, sq, sa, sl, sc, es, hv, k0, k1, k2, k3, k4, k5, k6, hev, hS, hsm, hes, hpe, hpv⟩ := enAt hc (ps.length - 1) hp1
      cases hv
      have HL := Lib.hid (show Seg.last ⟨first, plainE ps, torn⟩ = (p, ep) by
        have : (plainE ps).getLast? = some ps[ps.length - 1].1 := by
          rw [plainE, List.getLast?_map, List.getLast?_eq_getElem?, List.getElem?_eq_getElem hp1]; rfl
        rw [Seg.last]; simp only [this, hpe.out])
      have hb0 := (Below.refl _ w).alloc (Nat.le_refl _) (.cells #[.int .i64 first, .slice (some ⟨b, o, none⟩) ps.length c, .bool torn] 48)
      have hb1 := hb0.alloc (by simp) (.cells #[.int .i64 p, .int .i64 ep, .string S, .int .i64 ex, .int .i64 se, .int .i64 sq, .slice sa sl sc] 38)
      have k0 := cell_kept hb0 (Nat.le_refl _) k0
      have k1 := cell_kept hb0 (Nat.le_refl _) k1
      have k2 := cell_kept hb0 (Nat.le_refl _) k2
      have k3 := cell_kept hb0 (Nat.le_refl _) k3
      have k4 := cell_kept hb0 (Nat.le_refl _) k4
      have k5 := cell_kept hb0 (Nat.le_refl _) k5
      have k6 := cell_kept hb0 (Nat.le_refl _) k6
      obtain ⟨m, hm⟩ : ∃ m, ps.length = m + 1 := ⟨ps.length - 1, by omega⟩
      rw [hm] at k0 k1 k2 k3 k4 k5 k6 hb0 hb1 hn ⊢
      simp only [Nat.add_sub_cancel] at k0 k1 k2 k3 k4 k5 k6
      have hB1 := Lib.hid hb1
      clear hpv hp hpe hp1 hc hm hev hes hb0 hb1
      go_enter Tryz.func43, Tryz.ntmps43
      go_wp2
      go_quiet (fail)
      go_wp2
      go_ret2
      exact ⟨by rw [HL.out]; rfl, below_drewN hB1.out _⟩

def Seg.addD (room n : Int) (l : List Evt.Entry) (fs : List Dk.File) : List Dk.File × Nat :=
  if (Seg.loadD n fs).2 = 0 then
    if (Seg.loadD n fs).1.torn = true then (fs, 2) else
    if Evt.follows l (Seg.last (Seg.loadD n fs).1).1 (Seg.last (Seg.loadD n fs).1).2 = false then (fs, 11) else
    if l = [] then (fs, 0) else
    if (Dk.append room (Seg.nameOf n) ⟨(Seg.bytesB l).toArray⟩ fs).2 = 0 then Dk.sync (Seg.nameOf n) (Dk.append room (Seg.nameOf n) ⟨(Seg.bytesB l).toArray⟩ fs).1 else Dk.append room (Seg.nameOf n) ⟨(Seg.bytesB l).toArray⟩ fs
  else (fs, (Seg.loadD n fs).2)
theorem loadD_le (n : Int) (fs : List Dk.File) (h : (Dk.read (Seg.nameOf n) fs).1.size ≤ 1048576) : 0 ≤ (Seg.loadD n fs).1.first ∧ (Seg.loadD n fs).1.first ≤ 274877906944 ∧ (Seg.loadD n fs).1.entries.length ≤ 200000 := by
  unfold Seg.loadD
  split
  · obtain ⟨h1, h2, h3⟩ := Seg.load_le (Dk.read (Seg.nameOf n) fs).1.data.toList
    rw [Lib.size_eq] at h
    by_cases h0 : (Seg.load (Dk.read (Seg.nameOf n) fs).1.data.toList).2 = 0
    · have := h3 h0
      exact ⟨by omega, by omega, by omega⟩
    · rw [h2 h0]; exact ⟨by decide, by decide, by decide⟩
  · exact ⟨by decide, by decide, by decide⟩
theorem follows_mem : ∀ (l : List Evt.Entry) (pos epoch : Int), Evt.follows l pos epoch = true → ∀ e ∈ l, Evt.rightN e = true
  | [], _, _, _, e, he => by cases he
  | x :: l, pos, epoch, h, e, he => by
    obtain ⟨_, _, h3, h4⟩ := Seg.follows_cons.1 h
    rcases List.mem_cons.1 he with rfl | he
    · exact h3
    · exact follows_mem l _ _ h4 e he
theorem last_le (g : Seg.Seg) (h : Evt.follows g.entries (g.first - 1) 0 = true) (h0 : 0 ≤ g.first) (h1 : g.first ≤ 274877906944) : -1 ≤ (Seg.last g).1 ∧ (Seg.last g).1 ≤ 274877906944 := by
  rw [Seg.last]
  cases hl : g.entries.getLast? with
  | none => simp only; omega
  | some e =>
    have := (Evt.number_iff _).1 (Evt.rightN_iff.1 (follows_mem _ _ _ h e (List.mem_of_getLast? hl))).1
    simp only; omega
theorem loadD_last (n : Int) (fs : List Dk.File) (h : (Dk.read (Seg.nameOf n) fs).1.size ≤ 1048576) : -1 ≤ (Seg.last (Seg.loadD n fs).1).1 ∧ (Seg.last (Seg.loadD n fs).1).1 ≤ 274877906944 := by
  have hle := loadD_le n fs h
  refine last_le _ ?_ hle.1 hle.2.1
  unfold Seg.loadD
  split
  · obtain ⟨h1, h2, h3⟩ := Seg.load_le (Dk.read (Seg.nameOf n) fs).1.data.toList
    by_cases h0 : (Seg.load (Dk.read (Seg.nameOf n) fs).1.data.toList).2 = 0
    · exact (h3 h0).2.2.1
    · rw [h2 h0]; rfl
  · rfl

set_option maxHeartbeats 4000000 in
set_option maxRecDepth 100000 in
theorem segAdd_any (a : World) (d : Nat) (room n : Int) (fs : List Dk.File) (ft : Nat → Prop) (lv : Value) (qs : List EnX) (w : World) (hA : Base a w ft) (h : IsDisk w d room fs ft) (hroom : room ≤ 1048576) (hq : Ents w lv qs) (hqn : qs.length ≤ 1000) :
    Calls Tryz.prog 18 #[.pointer (some ⟨d, 0, none⟩), .int .i64 n, lv] w fun e w' => e = .returned (.int .i64 ((Seg.addD room n (plainE qs) fs).2 : Nat)) ∧ DStep d room (Seg.addD room n (plainE qs) fs).1 ft w w' := by
  have hrr := read_room h hroom (Seg.nameOf n)
  have hle := loadD_le n fs hrr
  have hla := loadD_last n fs hrr
  obtain ⟨qa, ql, qc, rfl⟩ : ∃ qa ql qc, lv = .slice qa ql qc := by
    rcases cellsNil hq.1 with ⟨_, a', c', rfl⟩ | ⟨b', o', c', rfl⟩
    · exact ⟨_, _, _, rfl⟩
    · exact ⟨_, _, _, rfl⟩
  have hnl := Seg.name_len n
  have HL := Lib.hid (segLoad_any a d room n fs ft w hA h hroom)
  have HA := Lib.hid hA
  have HD := Lib.hid h
  have HQ := Lib.hid hq
  clear hA h hq hrr
  go_enter Tryz.func18, Tryz.ntmps18
  go_wp2_with fail
  refine HL.out.mono ?_
  rintro e w1 ⟨first, v, ps, torn, c, rfl, hLD, hNE, b1⟩
  rw [hLD.out] at hle hla
  simp only at hle hla
  have hpl : ps.length ≤ 200000 := by have := hle.2.2; simpa [plainE] using this
  obtain ⟨va, vl, vc, rfl⟩ := slice_of_owns hNE.out.1
  have hb2 := b1.alloc b1.size (.cells #[.int .i64 first, .slice va vl vc, .bool torn] 48)
  have sb : SB w1.heap.size first (.slice va vl vc) torn (w1.alloc (.cells #[.int .i64 first, .slice va vl vc, .bool torn] 48)) := heap_alloc_new w1 _
  have hEn := hNE.out.ents.next ((Below.refl _ w1).alloc (Nat.le_refl _) (.cells #[.int .i64 first, .slice va vl vc, .bool torn] 48))
  have HLA := Lib.hid (segLast_any first _ torn ps _ hEn (by omega) hle.1 hle.2.1)
  obtain ⟨lp, hlp⟩ : ∃ lp, (Seg.last ⟨first, plainE ps, torn⟩).1 = lp := ⟨_, rfl⟩
  obtain ⟨le, hle'⟩ : ∃ le, (Seg.last ⟨first, plainE ps, torn⟩).2 = le := ⟨_, rfl⟩
  rw [hlp, hle'] at HLA
  rw [hlp] at hla
  have HX := Lib.hid (And.intro hlp hle')
  have SBx := Lib.hid sb
  have HB2 := Lib.hid hb2
  clear HL b1 hEn hlp hle' hb2 sb
  go_wp2_with fail
  refine HLA.out.mono ?_
  rintro e w3 ⟨rfl, b3⟩
  have hb3 := Below.up HB2.out (Nat.le_refl _) b3
  have s3 := SBx.out.next b3
  obtain ⟨m0, m1, m2⟩ := s3.cells
  clear HLA SBx HB2 b3
  have HAD := Lib.hid (show Seg.addD room n (plainE qs) fs = if c = 0 then
    if torn = true then (fs, 2) else
    if Evt.follows (plainE qs) lp le = false then (fs, 11) else
    if plainE qs = [] then (fs, 0) else
    if (Dk.append room (Seg.nameOf n) ⟨(Seg.bytesB (plainE qs)).toArray⟩ fs).2 = 0 then Dk.sync (Seg.nameOf n) (Dk.append room (Seg.nameOf n) ⟨(Seg.bytesB (plainE qs)).toArray⟩ fs).1 else Dk.append room (Seg.nameOf n) ⟨(Seg.bytesB (plainE qs)).toArray⟩ fs
    else (fs, c) by rw [Seg.addD, hLD.out]; simp only [HX.out.1, HX.out.2])
  obtain ⟨nm, hnm⟩ : ∃ nm, Seg.nameOf n = nm := ⟨_, rfl⟩
  rw [hnm] at HAD hnl
  clear HX hLD
  by_cases hc0 : c = 0
  · subst hc0
    have HAD := Lib.hid (HAD.out.trans (if_pos rfl))
    cases torn with
    | true =>
      have HAD := Lib.hid (HAD.out.trans (if_pos rfl))
      go_wp2
      go_ret
      exact ⟨by rw [HAD.out]; rfl, by rw [HAD.out]; exact DStep.of_below HD.out hb3⟩
    | false =>
      have HAD := Lib.hid (HAD.out.trans (if_neg (by simp)))
      have hEn3 := Lib.hid ((HA.out.next hb3).envW)
      have HF := Lib.hid (follows_any (.slice qa ql qc) qs lp le w3 hEn3.out (HQ.out.next hb3) (by omega) (by omega) (by omega))
      obtain ⟨fb, hfb⟩ : ∃ fb, Evt.follows (plainE qs) lp le = fb := ⟨_, rfl⟩
      rw [hfb] at HF HAD
      clear hfb
      go_wp2_with fail
      refine HF.out.mono ?_
      rintro e w4 ⟨rfl, b4⟩
      have hb4 := Below.up hb3 (Nat.le_refl _) b4
      clear HF b4 hEn3 m0 m1 m2 s3
      cases fb with
      | false =>
        have HAD := Lib.hid (HAD.out.trans (if_pos rfl))
        go_wp2
        go_ret
        exact ⟨by rw [HAD.out]; rfl, by rw [HAD.out]; exact DStep.of_below HD.out hb4⟩
      | true =>
        have HAD := Lib.hid (HAD.out.trans (if_neg (by simp)))
        have hql : ql = qs.length := by
          rcases cellsNil HQ.out.1 with ⟨h, a', c', e⟩ | ⟨b', o', c', e⟩
          · cases e; omega
          · cases e; rfl
        by_cases hq0 : ql = 0
        · have hqe : qs = [] := List.eq_nil_of_length_eq_zero (by omega)
          have HAD := Lib.hid (HAD.out.trans (if_pos (by rw [hqe]; rfl)))
          subst hq0
          clear hqe hql
          go_wp2
          go_ret
          exact ⟨by rw [HAD.out]; rfl, by rw [HAD.out]; exact DStep.of_below HD.out hb4⟩
        · have hqe : ¬ plainE qs = [] := by intro h; have := congrArg List.length h; simp [plainE] at this; rw [this] at hql; exact hq0 hql
          have HAD := Lib.hid (HAD.out.trans (if_neg hqe))
          have hqz : ((ql : Int) == 0) = false := by rw [beq_eq_false_iff_ne]; omega
          have hqi : ¬ (ql : Int) = 0 := by omega
          have hE4 := Lib.hid (HA.out.next hb4).envW
          have HBY := Lib.hid (segBytes_any 1 (.slice qa ql qc) qs w4 hE4.out (HQ.out.next hb4) (by omega))
          have hbl := Seg.bytesB_len (plainE qs)
          have hpq : (plainE qs).length = qs.length := by simp [plainE]
          clear hqe hql
          go_wp2_with fail
          refine HBY.out.mono ?_
          rintro e w5 ⟨Hb, Rb, rfl, _, hR, b5⟩
          have hb5 := Below.up hb4 (Nat.le_refl _) b5
          have HNM := Lib.hid (segName_any n w5 (HA.out.next hb5).envW)
          rw [hnm] at HNM
          have hRs : Rb.size ≤ 1000000000 := by rw [Lib.size_eq, hR.out]; omega
          clear HBY b5 hE4 hbl hpq
          go_wp2_with fail
          refine HNM.out.mono ?_
          rintro e w6 ⟨rfl, b6⟩
          have hb6 := Below.up hb5 (Nat.le_refl _) b6
          have hns : (⟨nm.toArray⟩ : ByteArray).size ≤ 14 := by rw [Lib.size_eq]; exact hnl
          have hRe := ba_eq hR.out
          have HAP := Lib.hid (diskAppend_any d room fs ft ⟨nm.toArray⟩ Rb w6 (HA.out.next hb6).envW (HD.out.next hb6) (by omega) (by omega))
          rw [← hRe] at HAD
          clear HNM b6 hRe
          by_cases hap : (Dk.append room nm Rb fs).2 = 0
          · have HAD := Lib.hid (HAD.out.trans (if_pos hap))
            have HAQ := Lib.hid hap
            clear hap
            go_wp2_with fail
            refine HAP.out.mono ?_
            rintro e w7 ⟨rfl, ft7, hd7, hf7, ht7⟩
            rw [show (Dk.append room (⟨nm.toArray⟩ : ByteArray).data.toList Rb fs).2 = 0 from HAQ.out]
            have hA7 := ((HA.out.next hb6).turn ht7 hf7)
            have HNM := Lib.hid (segName_any n w7 hA7.envW)
            rw [hnm] at HNM
            have HT7 := Lib.hid (And.intro ht7 hf7)
            have HD7 := Lib.hid hd7
            clear hA7 HAP ht7 hf7 hd7
            go_wp2_with fail
            refine HNM.out.mono ?_
            rintro e w8 ⟨rfl, b8⟩
            have HS := Lib.hid (diskSync_any d room _ ft7 ⟨nm.toArray⟩ w8 (HD7.out.next b8) (by omega))
            have HB8 := Lib.hid b8
            clear HNM b8
            go_wp2_with fail
            refine HS.out.mono ?_
            rintro e w9 ⟨rfl, hds⟩
            have HDS := Lib.hid (DStep.under hb6 (DStep.trans HT7.out.1 HT7.out.2 (DStep.under HB8.out hds)))
            clear hds HS
            go_wp2
            go_ret
            exact ⟨by rw [HAD.out]; rfl, by rw [HAD.out]; exact HDS.out⟩
          · have HAD := Lib.hid (HAD.out.trans (if_neg hap))
            obtain ⟨ac, hac⟩ : ∃ ac, (Dk.append room nm Rb fs).2 = ac := ⟨_, rfl⟩
            have hacb : ((ac : Int) != 0) = true := by rw [bne_iff_ne]; omega
            have HAQ := Lib.hid hac
            clear hap hac
            go_wp2_with fail
            refine HAP.out.mono ?_
            rintro e w7 ⟨rfl, hds⟩
            rw [show (Dk.append room (⟨nm.toArray⟩ : ByteArray).data.toList Rb fs).2 = ac from HAQ.out]
            have HDS := Lib.hid (DStep.under hb6 hds)
            clear hds HAP
            go_wp2
            go_ret
            exact ⟨by rw [HAD.out, HAQ.out]; rfl, by rw [HAD.out]; exact HDS.out⟩
  · have HAD := Lib.hid (HAD.out.trans (if_neg hc0))
    have hcb : ((c : Int) != 0) = true := by rw [bne_iff_ne]; omega
    go_wp2
    go_ret
    exact ⟨by rw [HAD.out]; rfl, by rw [HAD.out]; exact DStep.of_below HD.out hb3⟩
end Go.Proofs.YthmblkckpdpjkaaGreatDoor
