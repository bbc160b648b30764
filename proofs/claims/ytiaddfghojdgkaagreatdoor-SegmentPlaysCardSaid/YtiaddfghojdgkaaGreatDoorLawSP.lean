/-
  The walk of the law SegmentPlays.
-/
import Derived.Test.YtiaddfghojdgkaaGreatDoorRGoe
import Derived.Test.YtiaddfghojdgkaaGreatDoorShow
namespace Go.Proofs.YtiaddfghojdgkaaGreatDoor
open Go.RowKit Go.Shelf

set_option maxHeartbeats 2000000 in
theorem begun9_any (room : Int) (w : World) (h1 : 1 ≤ room) (h2 : room ≤ 1073741824) :
    Calls Tryz.prog 11 #[.int .i64 room] w fun e w' => ∃ (d m : Nat) (ft : Nat → Prop), e = .returned (.tuple #[.agg #[.pointer (some ⟨d, 0, none⟩), .pointer (some ⟨m, 0, none⟩)], .bool true]) ∧
      IsDisk w' d room [] ft ∧ (∀ j, ft j → w.heap.size ≤ j ∧ j < w'.heap.size) ∧ RefNew m room w' ∧ ¬ ft m ∧ w.heap.size ≤ m ∧ Below w.heap.size w w' := by
  have p0 : PB w.heap.size (.pointer none) (.pointer none) (w.alloc (.cells #[.pointer none, .pointer none] 28)) := heap_alloc_new w _
  have hb0 := (Below.refl _ w).alloc (Nat.le_refl _) (.cells #[.pointer none, .pointer none] 28)
  have P0 := Lib.hid p0
  have HB0 := Lib.hid hb0
  have HN := Lib.hid (diskNew_any room (w.alloc (.cells #[.pointer none, .pointer none] 28)))
  clear p0 hb0
  go_enter Tryz.func11, Tryz.ntmps11
  go_wp2_with fail
  refine HN.out.mono ?_
  rintro e w1 (⟨hbad, _⟩ | ⟨_, d, rfl, hd, b1⟩)
  · exact absurd ⟨h1, h2⟩ hbad
  have hb1 := Below.up HB0.out (Nat.le_refl _) b1
  have hD := Lib.hid hd.narrow
  have HRN := Lib.hid (refNew_any room w1 h1 h2)
  have p1 := P0.out.next b1
  have hs1 := b1.size
  rw [World.size_alloc] at hs1
  clear HN P0 HB0 b1 hd
  go_wp2_with fail
  refine HRN.out.mono ?_
  rintro e w2 ⟨rfl, hw2⟩
  have hrn : RefNew w1.heap.size room w2 := by rw [hw2]; exact heap_alloc_new w1 _
  have b2 : Below w1.heap.size w1 w2 := by rw [hw2]; exact (Below.refl _ w1).alloc (Nat.le_refl _) _
  have hs2 : w2.heap.size = w1.heap.size + 1 := by rw [hw2]; simp
  have hb2 := Below.up hb1 (Nat.le_refl _) b2
  have p2 := p1.next b2
  have hd2 := hD.out.next b2
  obtain ⟨c0, c1⟩ := p2.cells
  have f0 := p2.frozen 0
  have f1 := p2.frozen 1
  have HP := Lib.hid (p2.put2 (.pointer (some ⟨d, 0, none⟩)) (.pointer (some ⟨w1.heap.size, 0, none⟩)))
  have HD3 := Lib.hid (hd2.kept fun j hj0 hj => HP.out.2.block j hj0 (by have := hj.1; simp at this; simp; omega))
  have HR3 := Lib.hid (show RefNew w1.heap.size room _ from (HP.out.2.block w1.heap.size (by omega) (by simp; omega)).trans hrn)
  have HB3 := Lib.hid (hb2.trans (below_of_grown HP.out.2 (Nat.le_refl _) (by omega)))
  have HFT := Lib.hid (fun j (hj : ((w.alloc (.cells #[.pointer none, .pointer none] 28)).heap.size ≤ j ∧ j < w1.heap.size)) => (⟨by have := hj.1; simp at this; omega, by have := HP.out.2.size; have := hj.2; omega⟩ : w.heap.size ≤ j ∧ j < ((w2.setCell ⟨w.heap.size, 0, none⟩ (.pointer (some ⟨d, 0, none⟩))).setCell ⟨w.heap.size, 1, none⟩ (.pointer (some ⟨w1.heap.size, 0, none⟩))).heap.size))
  have HLM := Lib.hid (show w.heap.size ≤ w1.heap.size from hb1.size)
  clear hw2 hs2 p2 p1 hd2 hrn b2 HRN hD hs1
  go_wp2
  refine bodyPost_ret (results_cell1 rfl _ _ w.heap.size _ _ _ _ rfl HP.out.1 Tryz.underlying28 rfl pair_size) rfl ?_
  exact ⟨d, w1.heap.size, _, rfl, HD3.out, HFT.out, HR3.out, fun h => by have := h.2; omega, HLM.out, HB3.out⟩


theorem seg_ents_at {w : World} {v : Value} {B : Nat} {ps : List EnX} (h : NewEnts B w v ps) : Ents w v ps := h.ents
/-- A pair of new disks, as a pair of one state. -/
theorem pr_begun {a w w' : World} {d m : Nat} {room : Int} {ft : Nat → Prop} (hE : Env a) (hb : Below a.heap.size a w) (h1 : IsDisk w' d room [] ft) (h2 : ∀ j, ft j → w.heap.size ≤ j ∧ j < w'.heap.size) (h3 : RefNew m room w') (h4 : ¬ ft m) (h5 : w.heap.size ≤ m) (hr1 : 1 ≤ room) (hr2 : room ≤ 1073741824) (h6 : Below w.heap.size w w') : PR (fun _ _ => True) a d m room [] [] w' := by
  have hm := (Array.getElem?_eq_some_iff.1 h3).1
  refine ⟨ft, fun j => j = m, hE, Below.up hb (Nat.le_refl _) h6, h1, ⟨_, h3, World.ownsRow_nil _ _ _ _, by simp, by simp [Dk.Sorted], ⟨hr1, hr2, by simp [Dk.total]; omega⟩, rfl, (fun b hb => by simp [Value.ownBlock] at hb), (fun x hx => by cases hx)⟩, fun j hj e => h4 (e ▸ hj), fun j hj => ?_, trivial⟩
  have hs := hb.size
  rcases hj with hj | hj
  · have := h2 j hj; omega
  · subst hj; omega
theorem pr_box {a w : World} {d m P : Nat} {room : Int} {fs gs : List Dk.File} {u v : Value} {t : TypeId} (h : PR (BoxR P #[u, v] t) a d m room fs gs w) : w.cell? ⟨P, 0, none⟩ = some u ∧ w.cell? ⟨P, 1, none⟩ = some v := by
  obtain ⟨X, h⟩ := h.has
  exact ⟨box_cell h 0, box_cell h 1⟩
theorem act_cells {w : World} {b f c N : Nat} {ps : List Act9X} (h : Acts9R w (.slice (some ⟨b, f, none⟩) N c) ps) (i : Nat) (hi : i < ps.length) {o n m : Int} {l : List EnX} {t : ByteArray} {ks : List Int} {lv kv : Value} (hx : ps[i] = (⟨o, n, m, l, t, ks⟩, lv, kv)) :
    w.cell? ⟨b, f + i * 6, none⟩ = some (.int .i64 o) ∧ w.cell? ⟨b, f + i * 6 + 1, none⟩ = some (.int .i64 n) ∧ w.cell? ⟨b, f + i * 6 + 2, none⟩ = some (.int .i64 m) ∧ w.cell? ⟨b, f + i * 6 + 3, none⟩ = some lv ∧ w.cell? ⟨b, f + i * 6 + 4, none⟩ = some (.string t) ∧ w.cell? ⟨b, f + i * 6 + 5, none⟩ = some kv := by
  obtain ⟨b', f', c', hv, k0, k1, k2, k3, k4, k5, -⟩ := act9At h i hi hx
  injection hv with z1 z2 z3
  injection z1 with z1
  injection z1 with z4 z5
  subst z4 z5
  exact ⟨k0, k1, k2, k3, k4, k5⟩
theorem sp1 {i n : Nat} (h : i < n) : (i : Int) < (n : Int) := by omega
set_option maxHeartbeats 8000000 in
set_option maxRecDepth 100000 in
theorem segmentPlays_any (room : Int) (v : Value) (ps : List Act9X) (w : World) (hE : Env w) (hn : -9223372036854775808 ≤ room ∧ room ≤ 9223372036854775807) (hc : Acts9R w v ps) :
    Calls Tryz.prog 3 #[.int .i64 room, v] w fun e w' => e = .returned (.bool true) ∧ Below w.heap.size w w' := by
  obtain ⟨va, vc, hv⟩ := cells_lenB hc.1
  subst hv
  have HC := Lib.hid hc
  have HE := Lib.hid hE
  have HSH := Lib.hid (shown_any w hE)
  clear hc hE
  go_enter Tryz.func3, Tryz.ntmps3
  go_wp2_with fail
  refine HSH.out.mono ?_
  rintro e w1 ⟨rfl, b1⟩
  have HSM := Lib.hid (small9_any _ ps w1 (HC.out.next b1))
  obtain ⟨sm, hsm⟩ : ∃ sm, small9L ps = sm := ⟨_, rfl⟩
  rw [hsm] at HSM
  have HB1 := Lib.hid b1
  clear HSH b1
  go_wp2_with fail
  refine HSM.out.mono ?_
  rintro e w2 ⟨rfl, b2⟩
  have hb2 := Below.up HB1.out (Nat.le_refl _) b2
  have HPK := Lib.hid (pick_any room 5000 w2 hn.1 hn.2 (by decide) (by decide))
  have HB2 := Lib.hid hb2
  clear HSM HB1 b2 hb2
  go_wp2_with fail
  refine HPK.out.mono ?_
  rintro e w3 ⟨⟨k, rfl, hk⟩, hw3⟩
  subst hw3
  have hkw : wrap64 (20 + (k : Int)) = 20 + (k : Int) := IntWalk.wrap64_in _ (by omega)
  have HBG := Lib.hid (begun9_any (20 + (k : Int)) w3 (by omega) (by omega))
  clear HPK
  go_wp2_with fail
  refine HBG.out.mono ?_
  rintro e w4 ⟨d, m, ft, rfl, h1, h2, h3, h4, h5, h6⟩
  have h0 := pr_begun HE.out HB2.out h1 h2 h3 h4 h5 (by omega) (by omega) h6
  obtain ⟨W, hW⟩ : ∃ W, W = w4.alloc (.cells #[.pointer (some ⟨d, 0, none⟩), .pointer (some ⟨m, 0, none⟩)] 28) := ⟨_, rfl⟩
  have hW1 : PR (fun X w => True ∧ BoxR w4.heap.size #[.pointer (some ⟨d, 0, none⟩), .pointer (some ⟨m, 0, none⟩)] 28 X w) w d m (20 + (k : Int)) [] [] W :=
    h0.push firm_true (by rw [hW]; exact (Below.refl _ _).alloc (Nat.le_refl _) _) (fun X hX => by rw [hW]; exact box_new _ _ X hX)
  have hP := hW1.weak (S := BoxR w4.heap.size #[.pointer (some ⟨d, 0, none⟩), .pointer (some ⟨m, 0, none⟩)] 28) (fun _ _ h => h.2)
  have HW := Lib.hid hW
  have HP := Lib.hid hP
  have hroom : (20 + (k : Int)) ≤ 1048576 := by omega
  clear h0 h1 h2 h3 h4 h5 h6 hW1 hP hW HBG HB2
  go_upto_region 4 with fail
  rw [← HW.out]
  clear HW
  cases sm with
  | false =>
    have HPB := Lib.hid HP.out.below
    go_wp2
    go_ret
    exact ⟨rfl, HPB.out⟩
  | true =>
  have hall : ∀ p ∈ ps, small9A p = true := by
    simp only [small9L, Bool.and_eq_true, List.all_eq_true] at hsm
    exact hsm.2
  have hpl : ps.length ≤ 40 := by
    simp only [small9L, Bool.and_eq_true, decide_eq_true_eq] at hsm
    exact hsm.1
  have HALL := Lib.hid hall
  have HFB := Lib.hid (firm_box w4.heap.size #[.pointer (some ⟨d, 0, none⟩), .pointer (some ⟨m, 0, none⟩)] 28)
  clear hall hsm
  go_wp2
  go_loopw [9] (fun iv wr => ∃ (i : Nat) (fs : List Dk.File), iv = .int .i64 (i : Int) ∧ i ≤ ps.length ∧ Dk.Short fs ∧ PR (BoxR w4.heap.size #[.pointer (some ⟨d, 0, none⟩), .pointer (some ⟨m, 0, none⟩)] 28) w d m (20 + (k : Int)) fs fs wr) (fun iv _ => ps.length - (intOf iv).toNat)
  case atStart => exact ⟨0, [], rfl, Nat.zero_le _, (fun x hx => by cases hx), HP.out⟩
  case round =>
    obtain ⟨i, fs, rfl, hi, hs, hp⟩ := hrel
    by_cases hgo : i < ps.length
    · have hgoI := sp1 hgo
      obtain ⟨⟨⟨op, n, mm, l, tx, ks⟩, lv, kv⟩, hx⟩ : ∃ x, ps[i] = x := ⟨_, rfl⟩
      have hsm := HALL.out _ (List.getElem_mem hgo)
      rw [hx] at hsm
      obtain ⟨b, f, c, hv, -⟩ := act9At (HC.out.next hp.below) i hgo hx
      obtain ⟨rfl, rfl⟩ : va = some ⟨b, f, none⟩ ∧ vc = c := by injection hv with z1 z2 z3; exact ⟨z1, z3⟩
      have HCE := Lib.hid (fun (X : World) (hb : Below w.heap.size w X) => act_cells (HC.out.next hb) i hgo hx)
      have HAR := Lib.hid (show Act9R w (⟨op, n, mm, l, tx, ks⟩, lv, kv) by rw [← hx]; exact HC.out.2 _ (List.getElem_mem hgo))
      have hpd := hp.next HFB.out (Below.refl _ _).drew
      have HPX := Lib.hid hp
      have HS := Lib.hid hs
      have HSM := Lib.hid hsm
      clear hp hx hv hs hsm
      go_wp2
      go_region_held3 (fun X => X.cell? ⟨w4.heap.size, 0, none⟩ = some (.pointer (some ⟨d, 0, none⟩)) ∧ X.cell? ⟨w4.heap.size, 1, none⟩ = some (.pointer (some ⟨m, 0, none⟩)) ∧ X.cell? ⟨b, f + i * 6, none⟩ = some (.int .i64 op) ∧ X.cell? ⟨b, f + i * 6 + 1, none⟩ = some (.int .i64 n) ∧ X.cell? ⟨b, f + i * 6 + 2, none⟩ = some (.int .i64 mm) ∧ X.cell? ⟨b, f + i * 6 + 3, none⟩ = some lv ∧ X.cell? ⟨b, f + i * 6 + 4, none⟩ = some (.string tx) ∧ X.cell? ⟨b, f + i * 6 + 5, none⟩ = some kv)
        (first | exact ⟨(pr_box hpd).1, (pr_box hpd).2, HCE.out _ hpd.below⟩)
        (first | (go_at_call 13; refine (goes9_any hpd HFB.out hroom HS.out op n mm l tx ks lv kv HAR.out HSM.out).mono ?_; rintro e w5 ⟨rfl, f5, hs5, hpd⟩))
      have HP5 := Lib.hid hpd
      have HAL := Lib.hid (alike9_any hpd HFB.out hs5)
      have HS5 := Lib.hid hs5
      obtain ⟨p0, p1⟩ := pr_box hpd
      clear hpd hs5 HCE HPX
      go_wp2_with fail
      refine HAL.out.mono ?_
      rintro e w6 ⟨rfl, b6⟩
      have HP6 := Lib.hid (HP5.out.next HFB.out b6)
      clear HAL p0 p1 b6 HP5
      go_wp2
      go_loopw [12] (fun nv wx => ∃ n : Nat, nv = .int .i64 (n : Int) ∧ n ≤ 5 ∧ PR (BoxR w4.heap.size #[.pointer (some ⟨d, 0, none⟩), .pointer (some ⟨m, 0, none⟩)] 28) w d m (20 + (k : Int)) f5 f5 wx) (fun nv _ => 5 - (intOf nv).toNat)
      case atStart => exact ⟨0, rfl, by omega, HP6.out⟩
      case round =>
        obtain ⟨n, rfl, hn5, hpx⟩ := hrel
        by_cases hn : n < 5
        · have hnI : (n : Int) < 5 := by omega
          obtain ⟨p0, p1⟩ := pr_box hpx
          obtain ⟨g, c, hld⟩ : ∃ g c, Seg.loadD (n : Int) f5 = (g, c) := ⟨_, _, rfl⟩
          have HL1 := Lib.hid (load_pr hpx hroom hld)
          have HPX := Lib.hid hpx
          have HLD := Lib.hid hld
          have hgle := (by
            obtain ⟨ft, fu, hx⟩ := hpx
            have := loadD_le (n : Int) f5 (rread_room hx.ref hroom _)
            rw [hld] at this
            exact this.2.2 : g.entries.length ≤ 200000)
          clear hpx hld
          go_wp2_with fail
          refine HL1.out.mono ?_
          rintro e w7 ⟨sa, sc, ps1, rfl, hpe1, hNE1, b7⟩
          have hpl1 : ps1.length ≤ 200000 := by rw [← hpe1.out] at hgle; simpa [plainE] using hgle
          obtain ⟨W7, hW7⟩ : ∃ W7, W7 = w7.alloc (.cells #[.int .i64 g.first, .slice sa ps1.length sc, .bool g.torn] 38) := ⟨_, rfl⟩
          have sb : SB w7.heap.size g.first (.slice sa ps1.length sc) g.torn W7 := by rw [hW7]; exact heap_alloc_new w7 _
          have hb77 : Below w7.heap.size w7 W7 := by rw [hW7]; exact (Below.refl _ _).alloc (Nat.le_refl _) _
          have hp7 := HPX.out.next HFB.out (b7.trans (hb77.mono b7.size))
          obtain ⟨p0, p1⟩ := pr_box hp7
          have HL2 := Lib.hid (rload_pr hp7 hroom HLD.out)
          have HE1 := Lib.hid (hNE1.out.ents.next hb77)
          have HP7 := Lib.hid hp7
          have HS7 := Lib.hid sb
          have HW7 := Lib.hid hW7
          have hpe1' := hpe1
          clear HL1 hNE1 b7 sb hb77 hp7 hW7 hgle
          go_upto_region 17 with fail
          rw [← HW7.out]
          clear HW7
          go_wp2_with fail
          refine HL2.out.mono ?_
          rintro e w8 ⟨ta, tc, ps2, rfl, hpe2, hNE2, b8⟩
          obtain ⟨W8, hW8⟩ : ∃ W8, W8 = w8.alloc (.cells #[.int .i64 g.first, .slice ta ps2.length tc, .bool g.torn] 42) := ⟨_, rfl⟩
          have sr : SR w8.heap.size g.first (.slice ta ps2.length tc) g.torn W8 := by rw [hW8]; exact heap_alloc_new w8 _
          have hb88 : Below w8.heap.size w8 W8 := by rw [hW8]; exact (Below.refl _ _).alloc (Nat.le_refl _) _
          have hb78 := b8.trans (hb88.mono b8.size)
          have HP8 := Lib.hid (HP7.out.next HFB.out hb78)
          have HSAME := Lib.hid (same9_any g.first g.torn (.slice sa ps1.length sc) (.slice ta ps2.length tc) ps1 ps2 W8 (HE1.out.next hb78) (hNE2.out.ents.next hb88) (hpe1.out.trans hpe2.out.symm) (by omega))
          obtain ⟨k0, k1, k2⟩ := (HS7.out.next hb78).cells
          obtain ⟨m0, m1, m2⟩ := sr.cells
          have HW8 := Lib.hid hW8
          clear HL2 hNE2 b8 sr hb88 hb78 hW8 HP7 HE1 HS7 p0 p1 hpe1 hpe2 hpe1' HPX
          go_upto_region 18 with fail
          rw [← HW8.out]
          clear HW8
          go_wp2_with fail
          refine HSAME.out.mono ?_
          rintro e w9 ⟨rfl, b9⟩
          have HP9 := Lib.hid (HP8.out.next HFB.out b9)
          clear HSAME HP8 b9 k0 k1 k2 m0 m1 m2
          go_wp2
          exact ⟨⟨n + 1, by go_num, by omega, HP9.out⟩, by simp [intOf]; omega⟩
        · have hnI : ¬ (n : Int) < 5 := by omega
          have HPN := Lib.hid hpx
          clear hpx HP6
          go_wp2
          exact ⟨⟨i + 1, f5, by go_num, hgo, HS5.out, HPN.out⟩, by simp [intOf]; omega⟩
    · have HPB := Lib.hid hp.below
      clear hp
      go_wp2
      go_ret
      exact ⟨rfl, HPB.out⟩
end Go.Proofs.YtiaddfghojdgkaaGreatDoor
