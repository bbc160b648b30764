/-
  The walk of the law SegmentRows.
-/
import Derived.Test.YthmblkckpdpjkaaGreatDoorTwo
import Derived.Test.YthmblkckpdpjkaaGreatDoorSegG
import Derived.Test.YthmblkckpdpjkaaGreatDoorCut
import Derived.Test.YthmblkckpdpjkaaGreatDoorFit9
import Derived.Test.YthmblkckpdpjkaaGreatDoorShow
namespace Go.Proofs.YthmblkckpdpjkaaGreatDoor
open Go.RowKit Go.Shelf

theorem read_st2 {a w : World} {P1 d1 P2 d2 : Nat} {m1 m2 : Value} {fs1 fs2 : List Dk.File} {room : Int} {nm s : ByteArray} {c : Nat} (h : St2 a P1 d1 m1 fs1 P2 d2 m2 fs2 room w) (hn : nm.size ≤ 1000000000000) (hc : Dk.read nm.data.toList fs1 = (s, c)) :
    Calls Tryz.prog 19 #[.pointer (some ⟨d1, 0, none⟩), .string nm] w fun e w' => e = .returned (.tuple #[.string s, .int .i64 (c : Nat)]) ∧ w = w' := by
  obtain ⟨f1, f2, h⟩ := h
  refine (diskRead_any d1 room fs1 f1 nm w h.k1 hn).mono ?_
  rintro e w' ⟨rfl, rfl⟩
  rw [hc]; exact ⟨rfl, rfl⟩
theorem synced_st2 {a w : World} {P1 d1 P2 d2 : Nat} {m1 m2 : Value} {fs1 fs2 : List Dk.File} {room : Int} {nm : ByteArray} {c : Nat} (h : St2 a P1 d1 m1 fs1 P2 d2 m2 fs2 room w) (hn : nm.size ≤ 1000000000000) (hc : Dk.synced nm.data.toList fs1 = c) :
    Calls Tryz.prog 20 #[.pointer (some ⟨d1, 0, none⟩), .string nm] w fun e w' => e = .returned (.int .i64 (c : Nat)) ∧ w = w' := by
  obtain ⟨f1, f2, h⟩ := h
  refine (diskSynced_any d1 room fs1 f1 nm w h.k1 hn).mono ?_
  rintro e w' ⟨rfl, rfl⟩
  rw [hc]; exact ⟨rfl, rfl⟩

theorem ents_none {sa : Option Addr} {c : Nat} (w : World) : Ents w (.slice sa 0 c) [] := ⟨⟨rfl, .inl ⟨rfl, _, _, rfl⟩⟩, fun p hp => by cases hp⟩
theorem slice_on {b o k lc n : Nat} (hk : k ≤ n) (hn : n ≤ lc) : ∃ o2, (if lc = k then some (⟨b, o, none⟩ : Addr) else some ⟨b, o + k * 7, none⟩) = some ⟨b, o2, none⟩ ∧ (o2 = o + k * 7 ∨ k = n) := by
  by_cases h : lc = k
  · exact ⟨o, by rw [if_pos h], .inr (by omega)⟩
  · exact ⟨o + k * 7, by rw [if_neg h], .inl rfl⟩

theorem one_read (n first : Int) (l : List Evt.Entry) : Dk.read (Seg.nameOf n) (Seg.one n first l) = (Seg.whole first l, 0) ∧ Dk.synced (Seg.nameOf n) (Seg.one n first l) = (Seg.whole first l).size := by
  simp [Dk.read, Dk.synced, Dk.look, Seg.one, Seg.whole]
theorem read7 (first : Int) (l : List Evt.Entry) : Dk.read (⟨#[115, 101, 103, 45, 55]⟩ : ByteArray).data.toList (Seg.one 7 first l) = (Seg.whole first l, 0) ∧ Dk.synced (⟨#[115, 101, 103, 45, 55]⟩ : ByteArray).data.toList (Seg.one 7 first l) = (Seg.whole first l).size := by
  have := one_read 7 first l
  rw [name7] at this
  exact this
set_option maxHeartbeats 8000000 in
set_option maxRecDepth 100000 in
theorem segmentRows_any (lv : Value) (ps : List EnX) (at_ : Int) (w : World) (hE : Env w) (hc : EntsR w lv ps) (hcap : Roomed lv) (h1 : -9223372036854775808 ≤ at_) (h2 : at_ ≤ 9223372036854775807) :
    Calls Tryz.prog 4 #[lv, .int .i64 at_] w fun e w' => e = .returned (.bool true) ∧ Below w.heap.size w w' := by
  have HS := Lib.hid (shown_any w hE)
  have HE := Lib.hid hE
  have HC := Lib.hid hc
  obtain ⟨la, ll, lc, rfl, hlc, hlm, hln⟩ : ∃ la ll lc, lv = .slice la ll lc ∧ ll ≤ lc ∧ lc ≤ maxLen ∧ (la = none → lc = 0) := by
    rcases hcap with rfl | ⟨a, l, c, rfl, h1, h2⟩
    · exact ⟨none, 0, 0, rfl, Nat.le_refl _, by decide, fun _ => rfl⟩
    · exact ⟨some a, l, c, rfl, h1, h2, fun h => by cases h⟩
  have hll : ll = ps.length := by
    rcases cellsNil hc.1 with ⟨h, a', c', e⟩ | ⟨b', o', c', e⟩
    · cases e; omega
    · cases e; rfl
  subst hll
  clear hE hc
  go_enter Tryz.func4, Tryz.ntmps4
  go_wp2_with fail
  refine HS.out.mono ?_
  rintro e w1 ⟨rfl, hb1⟩
  have HF := Lib.hid (fits_any9 _ ps w1 (HC.out.next hb1))
  go_wp2_with fail
  refine HF.out.mono ?_
  rintro e w2 ⟨rfl, b2⟩
  have hb2 := Below.up hb1 (Nat.le_refl _) b2
  go_wp2_with fail
  refine (begun_any 1048576 w2 (by decide) (by decide)).mono ?_
  rintro e w3 ⟨d1, m1, f1, rfl, hd1, hf1, _, _, b3⟩
  have HB := Lib.hid (begun_any 1048576 (w3.alloc (.cells #[.pointer (some ⟨d1, 0, none⟩), .pointer (some ⟨m1, 0, none⟩)] 31)) (by decide) (by decide))
  have HD1 := Lib.hid hd1
  have HF1 := Lib.hid hf1
  have HB3 := Lib.hid b3
  clear HS HF b2 hd1 hf1 b3
  go_wp2_with fail
  refine HB.out.mono ?_
  rintro e w5 ⟨d2, m2, f2, rfl, hd2, hf2, _, _, b5⟩
  have hst := two_begun (m1 := .pointer (some ⟨m1, 0, none⟩)) (m2 := .pointer (some ⟨m2, 0, none⟩)) HE.out hb2 HD1.out HF1.out HB3.out hd2 hf2 b5
  obtain ⟨W, hW⟩ : ∃ W, W = w5.alloc (.cells #[.pointer (some ⟨d2, 0, none⟩), .pointer (some ⟨m2, 0, none⟩)] 31) := ⟨_, rfl⟩
  rw [← hW] at hst
  have HW := Lib.hid hW
  have HSt := Lib.hid hst
  clear HB hd2 hf2 b5 HD1 HF1 HB3 hst hW hb1 hb2
  cases hfit : fitL (plainE ps) with
  | false =>
    clear hfit
    go_wp2
    go_ret
    rw [← HW.out]
    exact ⟨rfl, HSt.out.below⟩
  | true =>
    obtain ⟨hEn, hlen⟩ := fit_ents HC.out hfit
    have HEn := Lib.hid hEn
    clear hfit HC hEn
    have hcase : (ps = [] ∧ la = none) ∨ (ps = [] ∧ ∃ x, la = some x) ∨ (0 < ps.length ∧ ∃ b o, la = some ⟨b, o, none⟩) := by
      by_cases h0 : ps = []
      · cases la with
        | none => exact .inl ⟨h0, rfl⟩
        | some x => exact .inr (.inl ⟨h0, x, rfl⟩)
      · have hp : 0 < ps.length := List.length_pos_iff.2 h0
        rcases cellsNil HEn.out.1 with ⟨h, a', c', e⟩ | ⟨b', o', c', e⟩
        · omega
        · cases e; exact .inr (.inr ⟨hp, b', o', rfl⟩)
    have hw1 : wrap64 ((ps.length : Int) + 1) = (ps.length : Int) + 1 := IntWalk.wrap64_in _ (by omega)
    rcases hcase with ⟨rfl, rfl⟩ | ⟨rfl, x, rfl⟩ | ⟨hp, b, o, rfl⟩
    · obtain rfl := hln rfl
      obtain ⟨F1, c1, hcr⟩ : ∃ F1 c1, Seg.create 1048576 7 1 [] = (F1, c1) := ⟨_, _, rfl⟩
      have HCR := Lib.hid hcr
      have HCA := Lib.hid (create_st2 HSt.out hcr)
      have c0 := HSt.out.cells.1
      rw [HW.out] at c0 
      have HPK := Lib.hid (fun X => pick_any at_ ((([] : List EnX).length : Int) + 1) X h1 h2 (by omega) (by omega))
      clear hcr
      go_wp2_with fail
      rw [← HW.out]
      refine (HPK.out W).mono ?_
      rintro e w6 ⟨⟨k, rfl, hk⟩, hw6⟩
      obtain rfl := hw6.symm
      have hkl : k ≤ ([] : List EnX).length := by omega
      have HPL := Lib.hid (fun (h1 : c1 = 0) (F2 : List Dk.File) (had : Seg.addD 1048576 7 (plainE ([] : List EnX)) F1 = (F2, 0)) => Seg.rows_plain (room := 1048576) (n := 7) (first := 1) k (by decide) (by decide) (by decide) (show Seg.create 1048576 7 1 [] = (F1, 0) by rw [HCR.out, h1]) had)
      clear hk HPK
      by_cases hc1 : c1 = 0
      · subst hc1
        obtain ⟨F2, c2, had⟩ : ∃ F2 c2, Seg.addD 1048576 7 (plainE ([] : List EnX)) F1 = (F2, c2) := ⟨_, _, rfl⟩
        have HAD := Lib.hid had
        clear had
        rw [HW.out] at HCA ⊢
        go_wp2_with fail
        refine HCA.out.mono ?_
        rintro e w6 ⟨rfl, hs6⟩
        have HA6 := Lib.hid (add_st2 hs6 (by decide) (HEn.out.next hs6.below) (by omega) HAD.out)
        have c6 := hs6.cells.1
        clear hs6 HCA
        go_wp2_with fail
        refine HA6.out.mono ?_
        rintro e w7 ⟨rfl, hs7⟩
        by_cases hc2 : c2 = 0
        · subst hc2
          obtain ⟨hF2, q1, q2, q3⟩ := HPL.out (by simp) F2 HAD.out
          have hS := (hs7.next (Below.refl _ _).drew).swap
          have hc0 := hS.cells.1
          have Q0 := Lib.hid HCR.out
          have Q1 := Lib.hid (show Seg.addD 1048576 7 (plainE (([] : List EnX).take k)) F1 = (Seg.one 7 1 ((plainE ([] : List EnX)).take k), 0) by rw [plainE_take]; exact q1)
          have Q2 := Lib.hid (show Seg.addD 1048576 7 (plainE ([] : List EnX)) (Seg.one 7 1 ((plainE ([] : List EnX)).take k)) = (Seg.one 7 1 ((plainE ([] : List EnX)).take k), 0) from q2)
          have Q3 := Lib.hid (show Seg.addD 1048576 7 (plainE (([] : List EnX).drop k)) (Seg.one 7 1 ((plainE ([] : List EnX)).take k)) = (Seg.one 7 1 (plainE ([] : List EnX)), 0) by rw [plainE_drop]; exact q3)
          have HF2 := Lib.hid hF2
          have HS7 := Lib.hid hs7
          clear hF2 q1 q2 q3 c6 HA6 hs7 HPL c0
          obtain rfl : k = 0 := Nat.le_zero.1 hkl
          simp only [List.take_nil, List.drop_nil] at Q1 Q2 Q3
          go_wp2
          go_region_held3 (fun X => X.cell? ⟨w5.heap.size, 0, none⟩ = some (.pointer (some ⟨d2, 0, none⟩)))
            (first | exact hS.cells.1 | exact hc0)
            (first
              | (go_at_call 17; refine (create_st2 hS Q0.out).mono ?_; rintro e w' ⟨rfl, hS⟩)
              | (go_at_call_of 18 (Value.slice none 0 0); refine (add_st2 hS (by decide) (ents_nil _) (by simp) Q1.out).mono ?_; rintro e w' ⟨rfl, hS⟩)
              | (go_at_call_of 18 (Value.slice none 0 0); refine (add_st2 hS (by decide) (ents_nil _) (by simp) Q2.out).mono ?_; rintro e w' ⟨rfl, hS⟩)
              | (go_at_call_of 18 (Value.slice none 0 0); refine (add_st2 hS (by decide) (ents_nil _) (by simp) Q3.out).mono ?_; rintro e w' ⟨rfl, hS⟩))
          have hS := hS
          rw [HF2.out] at hS
          have HR1 := Lib.hid (read_st2 (nm := ⟨#[115, 101, 103, 45, 55]⟩) hS.swap (by decide) (read7 1 (plainE ([] : List EnX))).1)
          have HR2 := Lib.hid (read_st2 (nm := ⟨#[115, 101, 103, 45, 55]⟩) hS (by decide) (read7 1 (plainE ([] : List EnX))).1)
          have HY1 := Lib.hid (synced_st2 (nm := ⟨#[115, 101, 103, 45, 55]⟩) hS.swap (by decide) (read7 1 (plainE ([] : List EnX))).2)
          have HY2 := Lib.hid (synced_st2 (nm := ⟨#[115, 101, 103, 45, 55]⟩) hS (by decide) (read7 1 (plainE ([] : List EnX))).2)
          obtain ⟨e1, e2⟩ := hS.cells
          have hb := hS.below
          obtain ⟨X, hX⟩ : ∃ X, Seg.whole 1 (plainE ([] : List EnX)) = X := ⟨_, rfl⟩
          rw [hX] at HR1 HR2 HY1 HY2
          clear hS hX Q0 Q1 Q2 Q3 HF2 HS7 hc0
          go_wp2_with fail
          refine HR1.out.mono ?_
          rintro e w8 ⟨rfl, h8⟩
          obtain rfl := h8.symm
          go_wp2_with fail
          refine HR2.out.mono ?_
          rintro e w9 ⟨rfl, h9⟩
          obtain rfl := h9.symm
          go_wp2_with fail
          refine HY1.out.mono ?_
          rintro e w10 ⟨rfl, h10⟩
          obtain rfl := h10.symm
          go_wp2_with fail
          refine HY2.out.mono ?_
          rintro e w11 ⟨rfl, h11⟩
          obtain rfl := h11.symm
          go_wp2
          go_ret
          exact ⟨rfl, hb⟩
        · have hcb : ((c2 : Int) != 0) = true := by rw [bne_iff_ne]; omega
          have hb := hs7.below
          clear hs7 HA6 HPL
          go_wp2
          go_ret
          exact ⟨rfl, hb⟩
      · have hcb : ((c1 : Int) != 0) = true := by rw [bne_iff_ne]; omega
        rw [HW.out] at HCA ⊢
        go_wp2_with fail
        refine HCA.out.mono ?_
        rintro e w6 ⟨rfl, hs6⟩
        have hb := hs6.below
        clear hs6 HCA
        go_wp2
        go_ret
        exact ⟨rfl, hb⟩
    · obtain ⟨F1, c1, hcr⟩ : ∃ F1 c1, Seg.create 1048576 7 1 [] = (F1, c1) := ⟨_, _, rfl⟩
      have HCR := Lib.hid hcr
      have HCA := Lib.hid (create_st2 HSt.out hcr)
      have c0 := HSt.out.cells.1
      rw [HW.out] at c0 
      have HPK := Lib.hid (fun X => pick_any at_ ((([] : List EnX).length : Int) + 1) X h1 h2 (by omega) (by omega))
      clear hcr
      go_wp2_with fail
      rw [← HW.out]
      refine (HPK.out W).mono ?_
      rintro e w6 ⟨⟨k, rfl, hk⟩, hw6⟩
      obtain rfl := hw6.symm
      have hkl : k ≤ ([] : List EnX).length := by omega
      have HPL := Lib.hid (fun (h1 : c1 = 0) (F2 : List Dk.File) (had : Seg.addD 1048576 7 (plainE ([] : List EnX)) F1 = (F2, 0)) => Seg.rows_plain (room := 1048576) (n := 7) (first := 1) k (by decide) (by decide) (by decide) (show Seg.create 1048576 7 1 [] = (F1, 0) by rw [HCR.out, h1]) had)
      clear hk HPK
      by_cases hc1 : c1 = 0
      · subst hc1
        obtain ⟨F2, c2, had⟩ : ∃ F2 c2, Seg.addD 1048576 7 (plainE ([] : List EnX)) F1 = (F2, c2) := ⟨_, _, rfl⟩
        have HAD := Lib.hid had
        clear had
        rw [HW.out] at HCA ⊢
        go_wp2_with fail
        refine HCA.out.mono ?_
        rintro e w6 ⟨rfl, hs6⟩
        have HA6 := Lib.hid (add_st2 hs6 (by decide) (HEn.out.next hs6.below) (by omega) HAD.out)
        have c6 := hs6.cells.1
        clear hs6 HCA
        go_wp2_with fail
        refine HA6.out.mono ?_
        rintro e w7 ⟨rfl, hs7⟩
        by_cases hc2 : c2 = 0
        · subst hc2
          obtain ⟨hF2, q1, q2, q3⟩ := HPL.out (by simp) F2 HAD.out
          have hS := (hs7.next (Below.refl _ _).drew).swap
          have hc0 := hS.cells.1
          have Q0 := Lib.hid HCR.out
          have Q1 := Lib.hid (show Seg.addD 1048576 7 (plainE (([] : List EnX).take k)) F1 = (Seg.one 7 1 ((plainE ([] : List EnX)).take k), 0) by rw [plainE_take]; exact q1)
          have Q2 := Lib.hid (show Seg.addD 1048576 7 (plainE ([] : List EnX)) (Seg.one 7 1 ((plainE ([] : List EnX)).take k)) = (Seg.one 7 1 ((plainE ([] : List EnX)).take k), 0) from q2)
          have Q3 := Lib.hid (show Seg.addD 1048576 7 (plainE (([] : List EnX).drop k)) (Seg.one 7 1 ((plainE ([] : List EnX)).take k)) = (Seg.one 7 1 (plainE ([] : List EnX)), 0) by rw [plainE_drop]; exact q3)
          have HF2 := Lib.hid hF2
          have HS7 := Lib.hid hs7
          clear hF2 q1 q2 q3 c6 HA6 hs7 HPL c0
          obtain rfl : k = 0 := Nat.le_zero.1 hkl
          simp only [List.take_nil, List.drop_nil] at Q1 Q2 Q3
          go_wp2
          go_region_held3 (fun X => X.cell? ⟨w5.heap.size, 0, none⟩ = some (.pointer (some ⟨d2, 0, none⟩)))
            (first | exact hS.cells.1 | exact hc0)
            (first
              | (go_at_call 17; refine (create_st2 hS Q0.out).mono ?_; rintro e w' ⟨rfl, hS⟩)
              | (go_at_call_of 18 (Value.slice (some x) 0 lc); refine (add_st2 hS (by decide) (ents_none _) (by simp) Q1.out).mono ?_; rintro e w' ⟨rfl, hS⟩)
              | (go_at_call_of 18 (Value.slice none 0 0); refine (add_st2 hS (by decide) (ents_nil _) (by simp) Q2.out).mono ?_; rintro e w' ⟨rfl, hS⟩)
              | (go_at_call_of 18 (Value.slice (some x) 0 lc); refine (add_st2 hS (by decide) (ents_none _) (by simp) Q3.out).mono ?_; rintro e w' ⟨rfl, hS⟩))
          have hS := hS
          rw [HF2.out] at hS
          have HR1 := Lib.hid (read_st2 (nm := ⟨#[115, 101, 103, 45, 55]⟩) hS.swap (by decide) (read7 1 (plainE ([] : List EnX))).1)
          have HR2 := Lib.hid (read_st2 (nm := ⟨#[115, 101, 103, 45, 55]⟩) hS (by decide) (read7 1 (plainE ([] : List EnX))).1)
          have HY1 := Lib.hid (synced_st2 (nm := ⟨#[115, 101, 103, 45, 55]⟩) hS.swap (by decide) (read7 1 (plainE ([] : List EnX))).2)
          have HY2 := Lib.hid (synced_st2 (nm := ⟨#[115, 101, 103, 45, 55]⟩) hS (by decide) (read7 1 (plainE ([] : List EnX))).2)
          obtain ⟨e1, e2⟩ := hS.cells
          have hb := hS.below
          obtain ⟨X, hX⟩ : ∃ X, Seg.whole 1 (plainE ([] : List EnX)) = X := ⟨_, rfl⟩
          rw [hX] at HR1 HR2 HY1 HY2
          clear hS hX Q0 Q1 Q2 Q3 HF2 HS7 hc0
          go_wp2_with fail
          refine HR1.out.mono ?_
          rintro e w8 ⟨rfl, h8⟩
          obtain rfl := h8.symm
          go_wp2_with fail
          refine HR2.out.mono ?_
          rintro e w9 ⟨rfl, h9⟩
          obtain rfl := h9.symm
          go_wp2_with fail
          refine HY1.out.mono ?_
          rintro e w10 ⟨rfl, h10⟩
          obtain rfl := h10.symm
          go_wp2_with fail
          refine HY2.out.mono ?_
          rintro e w11 ⟨rfl, h11⟩
          obtain rfl := h11.symm
          go_wp2
          go_ret
          exact ⟨rfl, hb⟩
        · have hcb : ((c2 : Int) != 0) = true := by rw [bne_iff_ne]; omega
          have hb := hs7.below
          clear hs7 HA6 HPL
          go_wp2
          go_ret
          exact ⟨rfl, hb⟩
      · have hcb : ((c1 : Int) != 0) = true := by rw [bne_iff_ne]; omega
        rw [HW.out] at HCA ⊢
        go_wp2_with fail
        refine HCA.out.mono ?_
        rintro e w6 ⟨rfl, hs6⟩
        have hb := hs6.below
        clear hs6 HCA
        go_wp2
        go_ret
        exact ⟨rfl, hb⟩
    · obtain ⟨b', o', c', p, ep, S, ex, se, sq, sa, sl, sc, es, hv, k0, _, _, _, _, _, _, _, _, _, _, hpe, _⟩ := enAt (HEn.out.next HSt.out.below) 0 hp
      cases hv
      simp only [Nat.zero_mul, Nat.add_zero] at k0
      have hpi : (0 : Int) < (ps.length : Int) := by omega
      obtain ⟨F1, c1, hcr⟩ : ∃ F1 c1, Seg.create 1048576 7 p [] = (F1, c1) := ⟨_, _, rfl⟩
      have HCR := Lib.hid hcr
      have HCA := Lib.hid (create_st2 HSt.out hcr)
      have c0 := HSt.out.cells.1
      rw [HW.out] at c0 k0
      have HPK := Lib.hid (fun X => pick_any at_ ((ps.length : Int) + 1) X h1 h2 (by omega) (by omega))
      clear hcr
      go_wp2_with fail
      rw [← HW.out]
      refine (HPK.out W).mono ?_
      rintro e w6 ⟨⟨k, rfl, hk⟩, hw6⟩
      obtain rfl := hw6.symm
      have hkl : k ≤ ps.length := by omega
      have HPL := Lib.hid (fun (h1 : c1 = 0) (F2 : List Dk.File) (had : Seg.addD 1048576 7 (plainE ps) F1 = (F2, 0)) => Seg.rows_plain (room := 1048576) (n := 7) (first := p) k (by decide) (by decide) (by decide) (show Seg.create 1048576 7 p [] = (F1, 0) by rw [HCR.out, h1]) had)
      clear hk HPK
      by_cases hc1 : c1 = 0
      · subst hc1
        obtain ⟨F2, c2, had⟩ : ∃ F2 c2, Seg.addD 1048576 7 (plainE ps) F1 = (F2, c2) := ⟨_, _, rfl⟩
        have HAD := Lib.hid had
        clear had
        rw [HW.out] at HCA ⊢
        go_wp2_with fail
        refine HCA.out.mono ?_
        rintro e w6 ⟨rfl, hs6⟩
        have HA6 := Lib.hid (add_st2 hs6 (by decide) (HEn.out.next hs6.below) (by omega) HAD.out)
        have c6 := hs6.cells.1
        clear hs6 HCA
        go_wp2_with fail
        refine HA6.out.mono ?_
        rintro e w7 ⟨rfl, hs7⟩
        by_cases hc2 : c2 = 0
        · subst hc2
          obtain ⟨hF2, q1, q2, q3⟩ := HPL.out (by simp) F2 HAD.out
          have hS := (hs7.next (Below.refl _ _).drew).swap
          have hc0 := hS.cells.1
          have Q0 := Lib.hid HCR.out
          have Q1 := Lib.hid (show Seg.addD 1048576 7 (plainE (ps.take k)) F1 = (Seg.one 7 p ((plainE ps).take k), 0) by rw [plainE_take]; exact q1)
          have Q2 := Lib.hid (show Seg.addD 1048576 7 (plainE ([] : List EnX)) (Seg.one 7 p ((plainE ps).take k)) = (Seg.one 7 p ((plainE ps).take k), 0) from q2)
          have Q3 := Lib.hid (show Seg.addD 1048576 7 (plainE (ps.drop k)) (Seg.one 7 p ((plainE ps).take k)) = (Seg.one 7 p (plainE ps), 0) by rw [plainE_drop]; exact q3)
          have HF2 := Lib.hid hF2
          have HS7 := Lib.hid hs7
          clear hF2 q1 q2 q3 c6 HA6 hs7 HPL c0
          have hkc : k ≤ lc := by omega
          obtain ⟨o2, ho2, hor⟩ := slice_on (b := b) (o := o) hkl hlc
          go_wp2
          go_region_held3 (fun X => X.cell? ⟨w5.heap.size, 0, none⟩ = some (.pointer (some ⟨d2, 0, none⟩)))
            (first | exact hS.cells.1 | exact hc0)
            (first
              | (go_at_call 17; refine (create_st2 hS Q0.out).mono ?_; rintro e w' ⟨rfl, hS⟩)
              | (go_at_call_of 18 (Value.slice (some ⟨b, o, none⟩) k lc); refine (add_st2 hS (by decide) (ents_take (HEn.out.next hS.below) hkl _) (by rw [List.length_take]; omega) Q1.out).mono ?_; rintro e w' ⟨rfl, hS⟩)
              | (go_at_call_of 18 (Value.slice none 0 0); refine (add_st2 hS (by decide) (ents_nil _) (by simp) Q2.out).mono ?_; rintro e w' ⟨rfl, hS⟩)
              | (go_at_call_of 18 (Value.slice (some ⟨b, o2, none⟩) (ps.length - k) (lc - k)); refine (add_st2 hS (by decide) (ents_drop (HEn.out.next hS.below) hkl _ _ hor) (by rw [List.length_drop]; omega) Q3.out).mono ?_; rintro e w' ⟨rfl, hS⟩))
          have hS := hS
          rw [HF2.out] at hS
          have HR1 := Lib.hid (read_st2 (nm := ⟨#[115, 101, 103, 45, 55]⟩) hS.swap (by decide) (read7 p (plainE ps)).1)
          have HR2 := Lib.hid (read_st2 (nm := ⟨#[115, 101, 103, 45, 55]⟩) hS (by decide) (read7 p (plainE ps)).1)
          have HY1 := Lib.hid (synced_st2 (nm := ⟨#[115, 101, 103, 45, 55]⟩) hS.swap (by decide) (read7 p (plainE ps)).2)
          have HY2 := Lib.hid (synced_st2 (nm := ⟨#[115, 101, 103, 45, 55]⟩) hS (by decide) (read7 p (plainE ps)).2)
          obtain ⟨e1, e2⟩ := hS.cells
          have hb := hS.below
          obtain ⟨X, hX⟩ : ∃ X, Seg.whole p (plainE ps) = X := ⟨_, rfl⟩
          rw [hX] at HR1 HR2 HY1 HY2
          clear hS hX Q0 Q1 Q2 Q3 HF2 HS7 hc0
          go_wp2_with fail
          refine HR1.out.mono ?_
          rintro e w8 ⟨rfl, h8⟩
          obtain rfl := h8.symm
          go_wp2_with fail
          refine HR2.out.mono ?_
          rintro e w9 ⟨rfl, h9⟩
          obtain rfl := h9.symm
          go_wp2_with fail
          refine HY1.out.mono ?_
          rintro e w10 ⟨rfl, h10⟩
          obtain rfl := h10.symm
          go_wp2_with fail
          refine HY2.out.mono ?_
          rintro e w11 ⟨rfl, h11⟩
          obtain rfl := h11.symm
          go_wp2
          go_ret
          exact ⟨rfl, hb⟩
        · have hcb : ((c2 : Int) != 0) = true := by rw [bne_iff_ne]; omega
          have hb := hs7.below
          clear hs7 HA6 HPL
          go_wp2
          go_ret
          exact ⟨rfl, hb⟩
      · have hcb : ((c1 : Int) != 0) = true := by rw [bne_iff_ne]; omega
        rw [HW.out] at HCA ⊢
        go_wp2_with fail
        refine HCA.out.mono ?_
        rintro e w6 ⟨rfl, hs6⟩
        have hb := hs6.below
        clear hs6 HCA
        go_wp2
        go_ret
        exact ⟨rfl, hb⟩
end Go.Proofs.YthmblkckpdpjkaaGreatDoor
