/-
  The walk of the law SegmentCuts.
-/
import Derived.Test.YthmblkckpdpjkaaGreatDoorAt
import Derived.Test.YthmblkckpdpjkaaGreatDoorOpenE
namespace Go.Proofs.YthmblkckpdpjkaaGreatDoor
open Go.RowKit Go.Shelf

theorem ents_none0 {sa : Option Addr} {c : Nat} (w : World) : Ents w (.slice sa 0 c) [] := ⟨⟨rfl, .inl ⟨rfl, _, _, rfl⟩⟩, fun p hp => by cases hp⟩
theorem ents_drop_all {sa : Option Addr} {c : Nat} (ps : List EnX) (w : World) : Ents w (.slice sa 0 c) (ps.drop ps.length) := by rw [List.drop_length]; exact ents_none0 w
theorem plain_forty {ps : List EnX} (h : ps.length ≤ 40) : (plainE ps).length ≤ 40 := by simpa [plainE] using h
theorem slice_from {b o k lc n : Nat} (hk : k ≤ n) (hn : n ≤ lc) : ∃ o2, (if lc = k then some (⟨b, o, none⟩ : Addr) else some ⟨b, o + k * 7, none⟩) = some ⟨b, o2, none⟩ ∧ (o2 = o + k * 7 ∨ k = n) := by
  by_cases h : lc = k
  · exact ⟨o, by rw [if_pos h], .inr (by omega)⟩
  · exact ⟨o + k * 7, by rw [if_neg h], .inl rfl⟩
set_option maxHeartbeats 8000000 in
set_option maxRecDepth 100000 in
theorem segmentCuts_any (lv : Value) (ps : List EnX) (last : Int) (w : World) (hE : Env w) (hc : EntsR w lv ps) (hcap : Roomed lv) (_ : -9223372036854775808 ≤ last) (_ : last ≤ 9223372036854775807) :
    Calls Tryz.prog 7 #[lv, .int .i64 last] w fun e w' => e = .returned (.bool true) ∧ Below w.heap.size w w' := by
  have HS := Lib.hid (shown_any w hE)
  have HE := Lib.hid hE
  have HC := Lib.hid hc
  obtain ⟨la, ll, lc, rfl, hlc, hlm, hln⟩ : ∃ la ll lc, lv = .slice la ll lc ∧ ll ≤ lc ∧ lc ≤ maxLen ∧ (la = none → lc = 0) := by
    rcases hcap with rfl | ⟨a, l, c, rfl, h1, h2⟩
    · exact ⟨none, 0, 0, rfl, Nat.le_refl _, by decide, fun _ => rfl⟩
    · exact ⟨some a, l, c, rfl, h1, h2, fun h => by cases h⟩
  have hll : ll = ps.length := by
    rcases cellsNil hc.1 with ⟨h, a', c', e⟩ | ⟨b', o', c', e⟩
    · cases e; omega
    · cases e; rfl
  subst hll
  clear hE hc
  go_enter Tryz.func7, Tryz.ntmps7
  go_wp2_with fail
  refine HS.out.mono ?_
  rintro e w1 ⟨rfl, hb1⟩
  have HF := Lib.hid (fits_any9 _ ps w1 (HC.out.next hb1))
  go_wp2_with fail
  refine HF.out.mono ?_
  rintro e w2 ⟨rfl, b2⟩
  have hb2 := Below.up hb1 (Nat.le_refl _) b2
  have HBG := Lib.hid (begun_any 1048576 w2 (by decide) (by decide))
  go_wp2_with fail
  refine HBG.out.mono ?_
  rintro e w3 ⟨d, m, ft, rfl, hd, hft, _, _, b3⟩
  have hb3 := Below.up hb2 (Nat.le_refl _) b3
  have s2 := hb2.size
  have s3 := b3.size
  obtain ⟨W, hW⟩ : ∃ W, W = w3.alloc (.cells #[.pointer (some ⟨d, 0, none⟩), .pointer (some ⟨m, 0, none⟩)] 31) := ⟨_, rfl⟩
  have hA : At w w3.heap.size d (.pointer (some ⟨m, 0, none⟩)) 1048576 [] ft W := by
    rw [hW]
    have hx : Below w3.heap.size w3 (w3.alloc (.cells #[.pointer (some ⟨d, 0, none⟩), .pointer (some ⟨m, 0, none⟩)] 31)) := (Below.refl _ _).alloc (Nat.le_refl _) _
    exact ⟨hd.next hx, ⟨HE.out, hb3.alloc hb3.size _, fun j hj => by have := (hft j hj).1; omega⟩, fun j hj => by have := (hft j hj).2; simp; omega, heap_alloc_new w3 _, fun h => by have := (hft _ h).2; omega⟩
  have HW := Lib.hid hW
  have HA := Lib.hid hA
  clear HBG hd hft b2 b3 s2 s3 hW hb3 hb2 hb1 hA HS HF
  cases hfit : fitL (plainE ps) with
  | false =>
    clear hfit
    go_wp2
    go_ret
    rw [← HW.out]
    exact ⟨rfl, HA.out.below⟩
  | true =>
    obtain ⟨hEn, hlen⟩ := fit_ents HC.out hfit
    have HEn := Lib.hid hEn
    clear hfit HC hEn
    have hcase : (ps = [] ∧ la = none) ∨ (ps = [] ∧ ∃ x, la = some x) ∨ (0 < ps.length ∧ ∃ b o, la = some ⟨b, o, none⟩) := by
      by_cases h0 : ps = []
      · cases la with
        | none => exact .inl ⟨h0, rfl⟩
        | some x => exact .inr (.inl ⟨h0, x, rfl⟩)
      · have hp : 0 < ps.length := List.length_pos_iff.2 h0
        rcases cellsNil HEn.out.1 with ⟨h, a', c', e⟩ | ⟨b', o', c', e⟩
        · omega
        · cases e; exact .inr (.inr ⟨hp, b', o', rfl⟩)
    rcases hcase with ⟨rfl, rfl⟩ | ⟨rfl, x, rfl⟩ | ⟨hp, b, o, rfl⟩
    · obtain rfl := hln rfl
      obtain ⟨F1, c1, hcr⟩ : ∃ F1 c1, Seg.create 1048576 3 1 [] = (F1, c1) := ⟨_, _, rfl⟩
      have HCR := Lib.hid hcr
      have HCA := Lib.hid (create_at HA.out hcr)
      have c0 := HA.out.cell
      rw [HW.out] at c0 
      clear hcr
      by_cases hc1 : c1 = 0
      · subst hc1
        obtain ⟨F2, c2, had⟩ : ∃ F2 c2, Seg.addD 1048576 3 (plainE ([] : List EnX)) F1 = (F2, c2) := ⟨_, _, rfl⟩
        have HAD := Lib.hid had
        clear had
        rw [HW.out] at HCA
        go_wp2_with fail
        refine HCA.out.mono ?_
        rintro e w6 ⟨rfl, ft6, hA6, _, _⟩
        have HA6 := Lib.hid (add_at hA6 (by decide) (HEn.out.next hA6.below) (by omega) HAD.out)
        have c6 := hA6.cell
        clear hA6 HCA c0
        go_wp2_with fail
        refine HA6.out.mono ?_
        rintro e w7 ⟨rfl, ft7, hA7, _, _⟩
        by_cases hc2 : c2 = 0
        · subst hc2
          have HP := Lib.hid (Seg.cuts (last := last) (plain_forty hlen) HCR.out HAD.out)
          have HA7 := Lib.hid hA7
          clear hA7 HA6 c6 HCR HAD
          go_wp2
          go_loopw [10] (fun lv wr => lv = .int .i64 0 ∧ wr = w7) (fun _ _ => 0)
          case atStart => exact ⟨rfl, rfl⟩
          case round =>
            obtain ⟨rfl, rfl⟩ := hrel
            have hHA := HA7.out
            have HKI := Lib.hid (show Seg.keepN last (plainE ([] : List EnX)) = 0 from rfl)
            obtain ⟨f3, f4, hct, hcr3, hl3, hld3, hct3, had3⟩ := HP.out
            rw [HKI.out] at hld3 had3
            have HCU := Lib.hid (cut_at HA7.out (by decide) hct)
            have c7 := HA7.out.cell
            have Q1 := Lib.hid hcr3; have Q2 := Lib.hid hl3; have Q3 := Lib.hid hld3; have Q4 := Lib.hid hct3; have Q5 := Lib.hid had3
            clear HP hct hcr3 hl3 hld3 hct3 had3 hHA
            go_wp2_with fail
            refine HCU.out.mono ?_
            rintro e w8 ⟨rfl, ft8, hA8, _, _⟩
            have HCS := Lib.hid (crash_at (ks := []) (kv := .slice none 0 0) hA8 (fun _ _ => ⟨rfl, .inl ⟨rfl, _, _, rfl⟩⟩) (by decide) (fun _ h => by cases h) Q1.out)
            have c8 := hA8.cell
            clear HCU c7 hA8
            go_wp2_with fail
            refine HCS.out.mono ?_
            rintro e w9 ⟨rfl, ft9, hA9, _, _⟩
            have HLD := Lib.hid (load_at hA9 (by decide) Q3.out)
            have c9 := hA9.cell
            have HA9 := Lib.hid hA9
            clear HCS c8 hA9
            go_wp2_with fail
            refine HLD.out.mono ?_
            rintro e w10 ⟨sa1, sc1, qs, rfl, hqe, hnq, b10⟩
            have hA10 := HA9.out.next (b10.alloc b10.size (.cells #[.int .i64 1, .slice sa1 qs.length sc1, .bool false] 48))
            have HUS := Lib.hid (used_at hA10)
            have c10 := hA10.cell
            have HB10 := Lib.hid b10
            have HQE := Lib.hid (show plainE qs = plainE (([] : List EnX).take 0) by rw [hqe.out, plainE_take])
            have HNQ := Lib.hid (hnq.out.next ((Below.refl _ w10).alloc (Nat.le_refl _) (.cells #[.int .i64 1, .slice sa1 qs.length sc1, .bool false] 48)))
            have SB0 := Lib.hid (show SB w10.heap.size 1 (.slice sa1 qs.length sc1) false (w10.alloc (.cells #[.int .i64 1, .slice sa1 qs.length sc1, .bool false] 48)) from heap_alloc_new w10 _)
            have HA10 := Lib.hid hA10
            clear HLD hqe hnq b10 c9 hA10
            go_wp2_with fail
            refine HUS.out.mono ?_
            rintro e w11 ⟨rfl, h11⟩
            obtain ⟨V, hV⟩ : ∃ V, V = w10.alloc (.cells #[.int .i64 1, .slice sa1 qs.length sc1, .bool false] 48) := ⟨_, rfl⟩
            rw [← hV] at h11 HA10 HNQ SB0 c10
            obtain rfl := h11.symm
            have HC2 := Lib.hid (cut_at HA10.out (by decide) Q4.out)
            have HV := Lib.hid (show w9.heap.size ≤ w10.heap.size ∧ True from ⟨HB10.out.size, trivial⟩)
            clear HUS hV
            go_wp2_with fail
            refine HC2.out.mono ?_
            rintro e w12 ⟨rfl, ft12, hA12, hf12, ht12⟩
            have hnG : ¬ ft9 w10.heap.size := fun h => by have := HA9.out.2.2.1 _ h; have := HV.out.1; omega
            have hS : AtS w w3.heap.size d (.pointer (some ⟨m, 0, none⟩)) 1048576 f3 w10.heap.size 1 (.slice sa1 qs.length sc1) false w12.drew :=
              (AtS.step SB0.out hnG ⟨ft12, hA12, hf12, ht12⟩).next (Below.refl _ _).drew
            have hNQ : NewEnts w9.heap.size w12.drew (.slice sa1 qs.length sc1) qs := (HNQ.out.turn HA9.out.2.2.1 ht12).next (Below.refl _ _).drew
            have hql : qs.length ≤ 40 := by
              have := congrArg List.length HQE.out
              simp only [plainE, List.length_map, List.length_take] at this
              have h2 := hlen
              try simp only [List.length_nil] at h2
              omega
            have HSR := Lib.hid (sameRow6_any _ (.slice none 0 0) qs (([] : List EnX).take 0) w12.drew hNQ.ents (ents_nil _) HQE.out (by omega))
            have hc0 := hS.cells
            have hf3 : (f3.length : Int) = 1 := by rw [Q2.out]; rfl
            have HQ5 := Lib.hid (show Seg.addD 1048576 3 (plainE (([] : List EnX).drop 0)) f3 = (f4, 0) by rw [plainE_drop]; exact Q5.out)
            skip
            clear HC2 hA12 hf12 ht12 hnG hNQ HNQ SB0 HA10 HA9 HB10 c10 HQE
            go_wp2
            go_region_held3 (fun X => X.cell? ⟨w3.heap.size, 0, none⟩ = some (.pointer (some ⟨d, 0, none⟩)) ∧ X.cell? ⟨w10.heap.size, 1, none⟩ = some (.slice sa1 qs.length sc1) ∧ X.cell? ⟨w10.heap.size, 2, none⟩ = some (.bool false))
              (first | exact hS.cells | exact hc0)
              (first
                | (go_at_call 25; refine HSR.out.mono ?_; rintro e w' ⟨rfl, hb⟩; have hS := hS.next hb)
                | (go_at_call 27; refine (used_ats hS).mono ?_; rintro e w' ⟨rfl, hS⟩)
                | (go_at_call 28; refine (list_ats hS).mono ?_; rintro e w' ⟨sa5, sc5, rfl, hS⟩)
                | (go_at_call 18; refine (add_ats hS (by decide) (ents_nil _) (by simp) HQ5.out).mono ?_; rintro e w' ⟨rfl, hS⟩))
            have hbz := hS.below
            go_wp2
            go_ret
            exact ⟨rfl, hbz⟩
        · have hcb : ((c2 : Int) != 0) = true := by rw [bne_iff_ne]; omega
          have hb := hA7.below
          clear hA7 HA6
          go_wp2
          go_ret
          exact ⟨rfl, hb⟩
      · have hcb : ((c1 : Int) != 0) = true := by rw [bne_iff_ne]; omega
        rw [HW.out] at HCA
        go_wp2_with fail
        refine HCA.out.mono ?_
        rintro e w6 ⟨rfl, ft6, hA6, _, _⟩
        have hb := hA6.below
        clear hA6 HCA
        go_wp2
        go_ret
        exact ⟨rfl, hb⟩
    · skip
      obtain ⟨F1, c1, hcr⟩ : ∃ F1 c1, Seg.create 1048576 3 1 [] = (F1, c1) := ⟨_, _, rfl⟩
      have HCR := Lib.hid hcr
      have HCA := Lib.hid (create_at HA.out hcr)
      have c0 := HA.out.cell
      rw [HW.out] at c0 
      clear hcr
      by_cases hc1 : c1 = 0
      · subst hc1
        obtain ⟨F2, c2, had⟩ : ∃ F2 c2, Seg.addD 1048576 3 (plainE ([] : List EnX)) F1 = (F2, c2) := ⟨_, _, rfl⟩
        have HAD := Lib.hid had
        clear had
        rw [HW.out] at HCA
        go_wp2_with fail
        refine HCA.out.mono ?_
        rintro e w6 ⟨rfl, ft6, hA6, _, _⟩
        have HA6 := Lib.hid (add_at hA6 (by decide) (HEn.out.next hA6.below) (by omega) HAD.out)
        have c6 := hA6.cell
        clear hA6 HCA c0
        go_wp2_with fail
        refine HA6.out.mono ?_
        rintro e w7 ⟨rfl, ft7, hA7, _, _⟩
        by_cases hc2 : c2 = 0
        · subst hc2
          have HP := Lib.hid (Seg.cuts (last := last) (plain_forty hlen) HCR.out HAD.out)
          have HA7 := Lib.hid hA7
          clear hA7 HA6 c6 HCR HAD
          go_wp2
          go_loopw [10] (fun lv wr => lv = .int .i64 0 ∧ wr = w7) (fun _ _ => 0)
          case atStart => exact ⟨rfl, rfl⟩
          case round =>
            obtain ⟨rfl, rfl⟩ := hrel
            have hHA := HA7.out
            have HKI := Lib.hid (show Seg.keepN last (plainE ([] : List EnX)) = 0 from rfl)
            obtain ⟨f3, f4, hct, hcr3, hl3, hld3, hct3, had3⟩ := HP.out
            rw [HKI.out] at hld3 had3
            have HCU := Lib.hid (cut_at HA7.out (by decide) hct)
            have c7 := HA7.out.cell
            have Q1 := Lib.hid hcr3; have Q2 := Lib.hid hl3; have Q3 := Lib.hid hld3; have Q4 := Lib.hid hct3; have Q5 := Lib.hid had3
            clear HP hct hcr3 hl3 hld3 hct3 had3 hHA
            go_wp2_with fail
            refine HCU.out.mono ?_
            rintro e w8 ⟨rfl, ft8, hA8, _, _⟩
            have HCS := Lib.hid (crash_at (ks := []) (kv := .slice none 0 0) hA8 (fun _ _ => ⟨rfl, .inl ⟨rfl, _, _, rfl⟩⟩) (by decide) (fun _ h => by cases h) Q1.out)
            have c8 := hA8.cell
            clear HCU c7 hA8
            go_wp2_with fail
            refine HCS.out.mono ?_
            rintro e w9 ⟨rfl, ft9, hA9, _, _⟩
            have HLD := Lib.hid (load_at hA9 (by decide) Q3.out)
            have c9 := hA9.cell
            have HA9 := Lib.hid hA9
            clear HCS c8 hA9
            go_wp2_with fail
            refine HLD.out.mono ?_
            rintro e w10 ⟨sa1, sc1, qs, rfl, hqe, hnq, b10⟩
            have hA10 := HA9.out.next (b10.alloc b10.size (.cells #[.int .i64 1, .slice sa1 qs.length sc1, .bool false] 48))
            have HUS := Lib.hid (used_at hA10)
            have c10 := hA10.cell
            have HB10 := Lib.hid b10
            have HQE := Lib.hid (show plainE qs = plainE (([] : List EnX).take 0) by rw [hqe.out, plainE_take])
            have HNQ := Lib.hid (hnq.out.next ((Below.refl _ w10).alloc (Nat.le_refl _) (.cells #[.int .i64 1, .slice sa1 qs.length sc1, .bool false] 48)))
            have SB0 := Lib.hid (show SB w10.heap.size 1 (.slice sa1 qs.length sc1) false (w10.alloc (.cells #[.int .i64 1, .slice sa1 qs.length sc1, .bool false] 48)) from heap_alloc_new w10 _)
            have HA10 := Lib.hid hA10
            clear HLD hqe hnq b10 c9 hA10
            go_wp2_with fail
            refine HUS.out.mono ?_
            rintro e w11 ⟨rfl, h11⟩
            obtain ⟨V, hV⟩ : ∃ V, V = w10.alloc (.cells #[.int .i64 1, .slice sa1 qs.length sc1, .bool false] 48) := ⟨_, rfl⟩
            rw [← hV] at h11 HA10 HNQ SB0 c10
            obtain rfl := h11.symm
            have HC2 := Lib.hid (cut_at HA10.out (by decide) Q4.out)
            have HV := Lib.hid (show w9.heap.size ≤ w10.heap.size ∧ True from ⟨HB10.out.size, trivial⟩)
            clear HUS hV
            go_wp2_with fail
            refine HC2.out.mono ?_
            rintro e w12 ⟨rfl, ft12, hA12, hf12, ht12⟩
            have hnG : ¬ ft9 w10.heap.size := fun h => by have := HA9.out.2.2.1 _ h; have := HV.out.1; omega
            have hS : AtS w w3.heap.size d (.pointer (some ⟨m, 0, none⟩)) 1048576 f3 w10.heap.size 1 (.slice sa1 qs.length sc1) false w12.drew :=
              (AtS.step SB0.out hnG ⟨ft12, hA12, hf12, ht12⟩).next (Below.refl _ _).drew
            have hNQ : NewEnts w9.heap.size w12.drew (.slice sa1 qs.length sc1) qs := (HNQ.out.turn HA9.out.2.2.1 ht12).next (Below.refl _ _).drew
            have hql : qs.length ≤ 40 := by
              have := congrArg List.length HQE.out
              simp only [plainE, List.length_map, List.length_take] at this
              have h2 := hlen
              try simp only [List.length_nil] at h2
              omega
            have HSR := Lib.hid (sameRow6_any _ (.slice (some x) 0 lc) qs (([] : List EnX).take 0) w12.drew hNQ.ents (ents_none0 _) HQE.out (by omega))
            have hc0 := hS.cells
            have hf3 : (f3.length : Int) = 1 := by rw [Q2.out]; rfl
            have HQ5 := Lib.hid (show Seg.addD 1048576 3 (plainE (([] : List EnX).drop 0)) f3 = (f4, 0) by rw [plainE_drop]; exact Q5.out)
            skip
            clear HC2 hA12 hf12 ht12 hnG hNQ HNQ SB0 HA10 HA9 HB10 c10 HQE
            go_wp2
            go_region_held3 (fun X => X.cell? ⟨w3.heap.size, 0, none⟩ = some (.pointer (some ⟨d, 0, none⟩)) ∧ X.cell? ⟨w10.heap.size, 1, none⟩ = some (.slice sa1 qs.length sc1) ∧ X.cell? ⟨w10.heap.size, 2, none⟩ = some (.bool false))
              (first | exact hS.cells | exact hc0)
              (first
                | (go_at_call 25; refine HSR.out.mono ?_; rintro e w' ⟨rfl, hb⟩; have hS := hS.next hb)
                | (go_at_call 27; refine (used_ats hS).mono ?_; rintro e w' ⟨rfl, hS⟩)
                | (go_at_call 28; refine (list_ats hS).mono ?_; rintro e w' ⟨sa5, sc5, rfl, hS⟩)
                | (go_at_call 18; refine (add_ats hS (by decide) (ents_none0 _) (by simp) HQ5.out).mono ?_; rintro e w' ⟨rfl, hS⟩))
            have hbz := hS.below
            go_wp2
            go_ret
            exact ⟨rfl, hbz⟩
        · have hcb : ((c2 : Int) != 0) = true := by rw [bne_iff_ne]; omega
          have hb := hA7.below
          clear hA7 HA6
          go_wp2
          go_ret
          exact ⟨rfl, hb⟩
      · have hcb : ((c1 : Int) != 0) = true := by rw [bne_iff_ne]; omega
        rw [HW.out] at HCA
        go_wp2_with fail
        refine HCA.out.mono ?_
        rintro e w6 ⟨rfl, ft6, hA6, _, _⟩
        have hb := hA6.below
        clear hA6 HCA
        go_wp2
        go_ret
        exact ⟨rfl, hb⟩
    · obtain ⟨b', o', c', p, ep, S, ex, se, sq, sa, sl, sc, es, hv, k0, _, _, _, _, _, _, _, _, _, _, hpe, _⟩ := enAt (HEn.out.next HA.out.below) 0 hp
      cases hv
      simp only [Nat.zero_mul, Nat.add_zero] at k0
      have hpi : (0 : Int) < (ps.length : Int) := by omega
      obtain ⟨F1, c1, hcr⟩ : ∃ F1 c1, Seg.create 1048576 3 p [] = (F1, c1) := ⟨_, _, rfl⟩
      have HCR := Lib.hid hcr
      have HCA := Lib.hid (create_at HA.out hcr)
      have c0 := HA.out.cell
      rw [HW.out] at c0 k0
      clear hcr
      by_cases hc1 : c1 = 0
      · subst hc1
        obtain ⟨F2, c2, had⟩ : ∃ F2 c2, Seg.addD 1048576 3 (plainE ps) F1 = (F2, c2) := ⟨_, _, rfl⟩
        have HAD := Lib.hid had
        clear had
        rw [HW.out] at HCA
        go_wp2_with fail
        refine HCA.out.mono ?_
        rintro e w6 ⟨rfl, ft6, hA6, _, _⟩
        have HA6 := Lib.hid (add_at hA6 (by decide) (HEn.out.next hA6.below) (by omega) HAD.out)
        have c6 := hA6.cell
        clear hA6 HCA c0
        go_wp2_with fail
        refine HA6.out.mono ?_
        rintro e w7 ⟨rfl, ft7, hA7, _, _⟩
        by_cases hc2 : c2 = 0
        · subst hc2
          have HP := Lib.hid (Seg.cuts (last := last) (plain_forty hlen) HCR.out HAD.out)
          have HA7 := Lib.hid hA7
          clear hA7 HA6 c6 HCR HAD
          go_wp2
          go_loopw [10] (fun lv wr => ∃ i : Nat, lv = .int .i64 i ∧ i ≤ ps.length ∧ wr = w7 ∧ Seg.keepN last (plainE ps) = i + Seg.keepN last (plainE (ps.drop i))) (fun lv _ => ps.length - (intOf lv).toNat)
          case atStart => exact ⟨0, rfl, by omega, rfl, by simp⟩
          case round =>
            obtain ⟨i, rfl, hi, rfl, hk⟩ := hrel
            have hHA := HA7.out
            by_cases hp2 : i < ps.length
            · obtain ⟨b', o', c', p2, ep, S, ex, se, sq, sa, sl, sc, es, hv, k2, _, _, _, _, _, _, _, _, _, _, hpe, _⟩ := enAt (HEn.out.next HA7.out.below) i hp2
              cases hv
              by_cases hpl : p2 ≤ last
              · have HN := Lib.hid (keepN_go hp2 hpe.out hpl hk)
                clear hk hpe hHA
                go_wp2
                exact ⟨⟨i + 1, by go_num, by omega, trivial, HN.out⟩, by simp [intOf]; omega⟩
              · have HKI := Lib.hid (keepN_stop hp2 hpe.out hpl hk)
                clear hk hpe
                obtain ⟨f3, f4, hct, hcr3, hl3, hld3, hct3, had3⟩ := HP.out
                rw [HKI.out] at hld3 had3
                have HCU := Lib.hid (cut_at HA7.out (by decide) hct)
                have c7 := HA7.out.cell
                have Q1 := Lib.hid hcr3; have Q2 := Lib.hid hl3; have Q3 := Lib.hid hld3; have Q4 := Lib.hid hct3; have Q5 := Lib.hid had3
                clear HP hct hcr3 hl3 hld3 hct3 had3 hHA
                go_wp2_with fail
                refine HCU.out.mono ?_
                rintro e w8 ⟨rfl, ft8, hA8, _, _⟩
                have HCS := Lib.hid (crash_at (ks := []) (kv := .slice none 0 0) hA8 (fun _ _ => ⟨rfl, .inl ⟨rfl, _, _, rfl⟩⟩) (by decide) (fun _ h => by cases h) Q1.out)
                have c8 := hA8.cell
                clear HCU c7 hA8
                go_wp2_with fail
                refine HCS.out.mono ?_
                rintro e w9 ⟨rfl, ft9, hA9, _, _⟩
                have HLD := Lib.hid (load_at hA9 (by decide) Q3.out)
                have c9 := hA9.cell
                have HA9 := Lib.hid hA9
                clear HCS c8 hA9
                go_wp2_with fail
                refine HLD.out.mono ?_
                rintro e w10 ⟨sa1, sc1, qs, rfl, hqe, hnq, b10⟩
                have hA10 := HA9.out.next (b10.alloc b10.size (.cells #[.int .i64 p, .slice sa1 qs.length sc1, .bool false] 48))
                have HUS := Lib.hid (used_at hA10)
                have c10 := hA10.cell
                have HB10 := Lib.hid b10
                have HQE := Lib.hid (show plainE qs = plainE (ps.take i) by rw [hqe.out, plainE_take])
                have HNQ := Lib.hid (hnq.out.next ((Below.refl _ w10).alloc (Nat.le_refl _) (.cells #[.int .i64 p, .slice sa1 qs.length sc1, .bool false] 48)))
                have SB0 := Lib.hid (show SB w10.heap.size p (.slice sa1 qs.length sc1) false (w10.alloc (.cells #[.int .i64 p, .slice sa1 qs.length sc1, .bool false] 48)) from heap_alloc_new w10 _)
                have HA10 := Lib.hid hA10
                clear HLD hqe hnq b10 c9 hA10
                go_wp2_with fail
                refine HUS.out.mono ?_
                rintro e w11 ⟨rfl, h11⟩
                obtain ⟨V, hV⟩ : ∃ V, V = w10.alloc (.cells #[.int .i64 p, .slice sa1 qs.length sc1, .bool false] 48) := ⟨_, rfl⟩
                rw [← hV] at h11 HA10 HNQ SB0 c10
                obtain rfl := h11.symm
                have HC2 := Lib.hid (cut_at HA10.out (by decide) Q4.out)
                have HV := Lib.hid (show w9.heap.size ≤ w10.heap.size ∧ True from ⟨HB10.out.size, trivial⟩)
                clear HUS hV
                go_wp2_with fail
                refine HC2.out.mono ?_
                rintro e w12 ⟨rfl, ft12, hA12, hf12, ht12⟩
                have hnG : ¬ ft9 w10.heap.size := fun h => by have := HA9.out.2.2.1 _ h; have := HV.out.1; omega
                have hS : AtS w w3.heap.size d (.pointer (some ⟨m, 0, none⟩)) 1048576 f3 w10.heap.size p (.slice sa1 qs.length sc1) false w12.drew :=
                  (AtS.step SB0.out hnG ⟨ft12, hA12, hf12, ht12⟩).next (Below.refl _ _).drew
                have hNQ : NewEnts w9.heap.size w12.drew (.slice sa1 qs.length sc1) qs := (HNQ.out.turn HA9.out.2.2.1 ht12).next (Below.refl _ _).drew
                have hql : qs.length ≤ 40 := by
                  have := congrArg List.length HQE.out
                  simp only [plainE, List.length_map, List.length_take] at this
                  have h2 := hlen
                  try simp only [List.length_nil] at h2
                  omega
                have HSR := Lib.hid (sameRow6_any _ (.slice (some ⟨b, o, none⟩) i lc) qs (ps.take i) w12.drew hNQ.ents (ents_take (HEn.out.next hS.below) (Nat.le_of_lt hp2) _) HQE.out (by omega))
                have hc0 := hS.cells
                have hf3 : (f3.length : Int) = 1 := by rw [Q2.out]; rfl
                have HQ5 := Lib.hid (show Seg.addD 1048576 3 (plainE (ps.drop i)) f3 = (f4, 0) by rw [plainE_drop]; exact Q5.out)
                have hkc : i ≤ lc := by omega
                obtain ⟨o2, ho2, hor⟩ := slice_from (b := b) (o := o) (Nat.le_of_lt hp2) hlc
                clear HC2 hA12 hf12 ht12 hnG hNQ HNQ SB0 HA10 HA9 HB10 c10 HQE
                go_wp2
                go_region_held3 (fun X => X.cell? ⟨w3.heap.size, 0, none⟩ = some (.pointer (some ⟨d, 0, none⟩)) ∧ X.cell? ⟨w10.heap.size, 1, none⟩ = some (.slice sa1 qs.length sc1) ∧ X.cell? ⟨w10.heap.size, 2, none⟩ = some (.bool false))
                  (first | exact hS.cells | exact hc0)
                  (first
                    | (go_at_call 25; refine HSR.out.mono ?_; rintro e w' ⟨rfl, hb⟩; have hS := hS.next hb)
                    | (go_at_call 27; refine (used_ats hS).mono ?_; rintro e w' ⟨rfl, hS⟩)
                    | (go_at_call 28; refine (list_ats hS).mono ?_; rintro e w' ⟨sa5, sc5, rfl, hS⟩)
                    | (go_at_call 18; refine (add_ats hS (by decide) (ents_drop (HEn.out.next hS.below) (Nat.le_of_lt hp2) _ _ hor) (by rw [List.length_drop]; omega) HQ5.out).mono ?_; rintro e w' ⟨rfl, hS⟩))
                have hbz := hS.below
                go_wp2
                go_ret
                exact ⟨rfl, hbz⟩
            · obtain rfl : i = ps.length := by omega
              have HKI := Lib.hid (keepN_end hk)
              clear hk
              obtain ⟨f3, f4, hct, hcr3, hl3, hld3, hct3, had3⟩ := HP.out
              rw [HKI.out] at hld3 had3
              have HCU := Lib.hid (cut_at HA7.out (by decide) hct)
              have c7 := HA7.out.cell
              have Q1 := Lib.hid hcr3; have Q2 := Lib.hid hl3; have Q3 := Lib.hid hld3; have Q4 := Lib.hid hct3; have Q5 := Lib.hid had3
              clear HP hct hcr3 hl3 hld3 hct3 had3 hHA
              go_wp2_with fail
              refine HCU.out.mono ?_
              rintro e w8 ⟨rfl, ft8, hA8, _, _⟩
              have HCS := Lib.hid (crash_at (ks := []) (kv := .slice none 0 0) hA8 (fun _ _ => ⟨rfl, .inl ⟨rfl, _, _, rfl⟩⟩) (by decide) (fun _ h => by cases h) Q1.out)
              have c8 := hA8.cell
              clear HCU c7 hA8
              go_wp2_with fail
              refine HCS.out.mono ?_
              rintro e w9 ⟨rfl, ft9, hA9, _, _⟩
              have HLD := Lib.hid (load_at hA9 (by decide) Q3.out)
              have c9 := hA9.cell
              have HA9 := Lib.hid hA9
              clear HCS c8 hA9
              go_wp2_with fail
              refine HLD.out.mono ?_
              rintro e w10 ⟨sa1, sc1, qs, rfl, hqe, hnq, b10⟩
              have hA10 := HA9.out.next (b10.alloc b10.size (.cells #[.int .i64 p, .slice sa1 qs.length sc1, .bool false] 48))
              have HUS := Lib.hid (used_at hA10)
              have c10 := hA10.cell
              have HB10 := Lib.hid b10
              have HQE := Lib.hid (show plainE qs = plainE (ps.take ps.length) by rw [hqe.out, plainE_take])
              have HNQ := Lib.hid (hnq.out.next ((Below.refl _ w10).alloc (Nat.le_refl _) (.cells #[.int .i64 p, .slice sa1 qs.length sc1, .bool false] 48)))
              have SB0 := Lib.hid (show SB w10.heap.size p (.slice sa1 qs.length sc1) false (w10.alloc (.cells #[.int .i64 p, .slice sa1 qs.length sc1, .bool false] 48)) from heap_alloc_new w10 _)
              have HA10 := Lib.hid hA10
              clear HLD hqe hnq b10 c9 hA10
              go_wp2_with fail
              refine HUS.out.mono ?_
              rintro e w11 ⟨rfl, h11⟩
              obtain ⟨V, hV⟩ : ∃ V, V = w10.alloc (.cells #[.int .i64 p, .slice sa1 qs.length sc1, .bool false] 48) := ⟨_, rfl⟩
              rw [← hV] at h11 HA10 HNQ SB0 c10
              obtain rfl := h11.symm
              have HC2 := Lib.hid (cut_at HA10.out (by decide) Q4.out)
              have HV := Lib.hid (show w9.heap.size ≤ w10.heap.size ∧ True from ⟨HB10.out.size, trivial⟩)
              clear HUS hV
              go_wp2_with fail
              refine HC2.out.mono ?_
              rintro e w12 ⟨rfl, ft12, hA12, hf12, ht12⟩
              have hnG : ¬ ft9 w10.heap.size := fun h => by have := HA9.out.2.2.1 _ h; have := HV.out.1; omega
              have hS : AtS w w3.heap.size d (.pointer (some ⟨m, 0, none⟩)) 1048576 f3 w10.heap.size p (.slice sa1 qs.length sc1) false w12.drew :=
                (AtS.step SB0.out hnG ⟨ft12, hA12, hf12, ht12⟩).next (Below.refl _ _).drew
              have hNQ : NewEnts w9.heap.size w12.drew (.slice sa1 qs.length sc1) qs := (HNQ.out.turn HA9.out.2.2.1 ht12).next (Below.refl _ _).drew
              have hql : qs.length ≤ 40 := by
                have := congrArg List.length HQE.out
                simp only [plainE, List.length_map, List.length_take] at this
                have h2 := hlen
                try simp only [List.length_nil] at h2
                omega
              have HSR := Lib.hid (sameRow6_any _ (.slice (some ⟨b, o, none⟩) ps.length lc) qs (ps.take ps.length) w12.drew hNQ.ents (ents_take (HEn.out.next hS.below) (Nat.le_refl _) _) HQE.out (by omega))
              have hc0 := hS.cells
              have hf3 : (f3.length : Int) = 1 := by rw [Q2.out]; rfl
              have HQ5 := Lib.hid (show Seg.addD 1048576 3 (plainE (ps.drop ps.length)) f3 = (f4, 0) by rw [plainE_drop]; exact Q5.out)
              have hkc : ps.length ≤ lc := by omega
              obtain ⟨o2, ho2, _⟩ := slice_from (b := b) (o := o) (Nat.le_refl _) hlc
              clear HC2 hA12 hf12 ht12 hnG hNQ HNQ SB0 HA10 HA9 HB10 c10 HQE
              go_wp2
              go_region_held3 (fun X => X.cell? ⟨w3.heap.size, 0, none⟩ = some (.pointer (some ⟨d, 0, none⟩)) ∧ X.cell? ⟨w10.heap.size, 1, none⟩ = some (.slice sa1 qs.length sc1) ∧ X.cell? ⟨w10.heap.size, 2, none⟩ = some (.bool false))
                (first | exact hS.cells | exact hc0)
                (first
                  | (go_at_call 25; refine HSR.out.mono ?_; rintro e w' ⟨rfl, hb⟩; have hS := hS.next hb)
                  | (go_at_call 27; refine (used_ats hS).mono ?_; rintro e w' ⟨rfl, hS⟩)
                  | (go_at_call 28; refine (list_ats hS).mono ?_; rintro e w' ⟨sa5, sc5, rfl, hS⟩)
                  | (go_at_call 18; refine (add_ats hS (by decide) (ents_drop_all ps _) (by rw [List.length_drop]; omega) HQ5.out).mono ?_; rintro e w' ⟨rfl, hS⟩))
              have hbz := hS.below
              go_wp2
              go_ret
              exact ⟨rfl, hbz⟩
        · have hcb : ((c2 : Int) != 0) = true := by rw [bne_iff_ne]; omega
          have hb := hA7.below
          clear hA7 HA6
          go_wp2
          go_ret
          exact ⟨rfl, hb⟩
      · have hcb : ((c1 : Int) != 0) = true := by rw [bne_iff_ne]; omega
        rw [HW.out] at HCA
        go_wp2_with fail
        refine HCA.out.mono ?_
        rintro e w6 ⟨rfl, ft6, hA6, _, _⟩
        have hb := hA6.below
        clear hA6 HCA
        go_wp2
        go_ret
        exact ⟨rfl, hb⟩
end Go.Proofs.YthmblkckpdpjkaaGreatDoor
