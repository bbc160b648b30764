/-
  The walk of the law LogAppends.
-/
import Derived.Test.YtbknlffebcbjfaaGreatDoorLawLRa
import Derived.Test.YtbknlffebcbjfaaGreatDoorLogJ
import Derived.Test.YtbknlffebcbjfaaGreatDoorLogI
namespace Go.Proofs.YtbknlffebcbjfaaGreatDoor
open Go.RowKit Go.Shelf

theorem used_ll {R : (Nat → Prop) → World → Prop} {a w : World} {P lg d : Nat} {mv : Value} {room : Int} {s : Lg.S} {fs : List Dk.File} (h : LL R a P d mv room lg s fs w) :
    Calls Tryz.prog 30 #[.pointer (some ⟨d, 0, none⟩)] w fun e w' => e = .returned (.int .i64 (Dk.total fs : Int)) ∧ w = w' := by
  obtain ⟨T, X, ⟨ft, pv, ev, ps, hL⟩, _⟩ := h; exact diskUsed_any d room fs ft w hL.disk
theorem range_cnt {f m : Int} {qa : List EnX} {L : List Evt.Entry} (h : plainE qa = Lg.rangeL f m L) (hl : L.length ≤ 1000000) : qa.length ≤ 1000000 := by
  rw [plain_length h, Lg.rangeL]
  exact Nat.le_trans (List.length_take_le' _ _) (by rw [List.length_drop]; exact Nat.le_trans (Nat.sub_le _ _) hl)
set_option maxHeartbeats 16000000 in
set_option maxRecDepth 100000 in
theorem logAppends_any (sv : Value) (steps : List Int) (ov : Value) (opens : List Int) (w : World) (hE : Env w) (hs : Cells w sv 1 steps.length (intCells steps)) (hb : ∀ n ∈ steps, -9223372036854775808 ≤ n ∧ n ≤ 9223372036854775807) (hs2 : Cells w ov 1 opens.length (intCells opens)) (hb2 : ∀ n ∈ opens, -9223372036854775808 ≤ n ∧ n ≤ 9223372036854775807) :
    Calls Tryz.prog 4 #[sv, ov] w fun e w' => e = .returned (.bool true) ∧ Below w.heap.size w w' := by
  obtain ⟨va, vc, rfl⟩ := cells_slice hs
  obtain ⟨oa, oc, rfl⟩ := cells_slice hs2
  have HS := Lib.hid (shown11_any w hE)
  have HE := Lib.hid hE
  have HST := Lib.hid (And.intro hs hb)
  have HST2 := Lib.hid (And.intro hs2 hb2)
  clear hE hs hb hs2 hb2
  go_enter Tryz.func4, Tryz.ntmps4
  go_wp2_with fail
  refine HS.out.mono ?_
  rintro e w0 ⟨rfl, b0⟩
  have HBG := Lib.hid (begun11_any 1048576 w0 (by decide) (by decide))
  have HB0 := Lib.hid b0
  clear HS b0
  go_wp2_with fail
  refine HBG.out.mono ?_
  rintro e w1 ⟨d1, m1, ft1, rfl, hd1, hft1, _, _, b1⟩
  obtain ⟨W1, hW1⟩ : ∃ W1, W1 = w1.alloc (.cells #[.pointer (some ⟨d1, 0, none⟩), .pointer (some ⟨m1, 0, none⟩)] 48) := ⟨_, rfl⟩
  have bp1 : Below w1.heap.size w1 W1 := by rw [hW1]; exact (Below.refl _ _).alloc (Nat.le_refl _) _
  have hP1 : PB11 w1.heap.size (.pointer (some ⟨d1, 0, none⟩)) (.pointer (some ⟨m1, 0, none⟩)) W1 := by rw [hW1]; exact heap_alloc_new w1 _
  have hs1 : w1.heap.size < W1.heap.size := (Array.getElem?_eq_some_iff.1 hP1).1
  have HBG := Lib.hid (begun11_any 1048576 W1 (by decide) (by decide))
  have HW1 := Lib.hid hW1
  have HX1 := Lib.hid (And.intro hd1 (And.intro hft1 (And.intro b1 (And.intro bp1 hP1))))
  clear hd1 hft1 b1 bp1 hP1 hW1
  go_wp2_with fail
  rw [← HW1.out]
  refine HBG.out.mono ?_
  rintro e w2 ⟨d2, m2, ft2, rfl, hd2, hft2, _, _, b2⟩
  obtain ⟨W, hW⟩ : ∃ W, W = w2.alloc (.cells #[.pointer (some ⟨d2, 0, none⟩), .pointer (some ⟨m2, 0, none⟩)] 48) := ⟨_, rfl⟩
  have bp : Below w2.heap.size w2 W := by rw [hW]; exact (Below.refl _ _).alloc (Nat.le_refl _) _
  have hP2 : PB11 w2.heap.size (.pointer (some ⟨d2, 0, none⟩)) (.pointer (some ⟨m2, 0, none⟩)) W := by rw [hW]; exact heap_alloc_new w2 _
  obtain ⟨hd1, hft1, b1, bp1, hP1⟩ := HX1.out
  have b12 : Below W1.heap.size W1 W := Below.up b2 (Nat.le_refl _) bp
  have hbW : Below w.heap.size w W := Below.up (Below.up (Below.up HB0.out (Nat.le_refl _) b1) (Nat.le_refl _) bp1) (Nat.le_refl _) b12
  have hP1' := hP1.next b12
  have z0 := HB0.out.size
  have z1 := b1.size
  have z2 := b2.size
  have z3 := bp.size
  have A1 : Base w W ft1 := ⟨HE.out, hbW, fun j hj => by have := (hft1 j hj).1; omega⟩
  have A2 : Base w W ft2 := ⟨HE.out, hbW, fun j hj => by have := (hft2 j hj).1; omega⟩
  have l1 : ∀ j, ft1 j → j < W.heap.size := fun j hj => by have := (hft1 j hj).2; omega
  have l2 : ∀ j, ft2 j → j < W.heap.size := fun j hj => by have := (hft2 j hj).2; omega
  have hdis : ∀ j, ft1 j → ¬ ft2 j := fun j e1 e2 => by have := (hft1 j e1).2; have := (hft2 j e2).1; omega
  have HO := Lib.hid (open_first A1 A2 (hd1.next (Below.up bp1 (Nat.le_refl _) b12)) (hd2.next bp) l1 l2 hdis (by decide))
  have N1 : ¬ ft1 w1.heap.size ∧ ¬ ft2 w1.heap.size := ⟨fun e => by have := (hft1 _ e).2; omega, fun e => by have := (hft2 _ e).1; omega⟩
  have N2 : ¬ ft1 w2.heap.size ∧ ¬ ft2 w2.heap.size := ⟨fun e => by have := (hft1 _ e).2; omega, fun e => by have := (hft2 _ e).2; omega⟩
  have n1' : ∀ j, (ft1 j ∨ ft2 j) → j < W.heap.size := fun j hj => hj.elim (l1 j) (l2 j)
  have hz : w1.heap.size < W.heap.size ∧ w2.heap.size < W.heap.size := ⟨(Array.getElem?_eq_some_iff.1 hP1').1, (Array.getElem?_eq_some_iff.1 hP2).1⟩
  have HPP := Lib.hid (And.intro hP1' (And.intro hP2 (And.intro N1 (And.intro N2 (And.intro hdis (And.intro l2 hz))))))
  obtain ⟨c1, _⟩ := hP1'.cells
  obtain ⟨c2, _⟩ := hP2.cells
  have HW := Lib.hid hW
  have HBW := Lib.hid hbW
  clear HBG HX1 hd2 hft2 b2 bp hP2 hd1 hft1 b1 bp1 hP1 b12 hbW hP1' z0 z1 z2 z3 A1 A2 l1 l2 hdis N1 N2 n1' hz hW hs1
  by_cases h60 : 60 < steps.length
  · have h60i : (60 : Int) < (steps.length : Int) := by omega
    go_wp2
    go_ret
    rw [← HW.out]
    exact ⟨rfl, HBW.out⟩
  · have h60i : ¬ (60 : Int) < (steps.length : Int) := by omega
    by_cases g60 : 60 < opens.length
    · have g60i : (60 : Int) < (opens.length : Int) := by omega
      go_wp2
      go_ret
      rw [← HW.out]
      exact ⟨rfl, HBW.out⟩
    · have g60i : ¬ (60 : Int) < (opens.length : Int) := by omega
      go_upto_region 6 with fail
      rw [← HW.out]
      go_wp2_with fail
      refine HO.out.mono ?_
      rintro e w3 ⟨lg1, T1, rfl, hL1, hT1, hTu, hA2, hd2, hdis⟩
      obtain ⟨p1, p2, N1, N2, hd, hl2, hz⟩ := HPP.out
      have q1 := p1.turn N1.1 hTu
      have q2 := p2.turn N2.1 hTu
      have HO2 := Lib.hid (open_second hL1 hA2 hd2 (fun j hj => .inl (.inr hj)) hdis q1 q2 (fun e => by
        rcases e with (e | e) | e
        · exact N1.1 e
        · exact N1.2 e
        · rcases hT1 _ e with e | e
          · exact N1.1 e
          · omega) (fun e => by
        rcases e with (e | e) | e
        · exact N2.1 e
        · exact N2.2 e
        · rcases hT1 _ e with e | e
          · exact N2.1 e
          · omega) (by decide))
      obtain ⟨c1, _⟩ := q1.cells
      obtain ⟨c2, _⟩ := q2.cells
      clear HO hL1 hT1 hTu hA2 hd2 hdis p1 p2 N1 N2 hd hl2 hz q1 q2 h60i g60i HPP
      go_wp2_with fail
      refine HO2.out.mono ?_
      rintro e w4 ⟨lg2, rfl, hL4⟩
      have HL4 := Lib.hid hL4
      clear HO2 hL4 c1 c2
      go_wp2_with fail
      go_loopw [10, 14, 15, 16] (fun gv lv ev iv wr => ∃ (v : Value) (lg i : Nat) (qs : List EnX) (ep next : Int) (nums : List Int) (fs : List Dk.File), v = lv ∧ gv = .pointer (some ⟨lg, 0, none⟩) ∧ ev = .int .i64 ep ∧ iv = .int .i64 i ∧ i ≤ steps.length ∧ 1 ≤ ep ∧ ep ≤ 1 + 2 * i ∧ qs.length = i ∧ Hid (Lg.OneByOne i ep next nums (plainE qs) fs) ∧ Hid (L2 v qs w 1048576 w1.heap.size d1 (.pointer (some ⟨m1, 0, none⟩)) lg (Lg.stateOf next nums (plainE qs)) fs w2.heap.size d2 (.pointer (some ⟨m2, 0, none⟩)) lg2 (Lg.stateOf 1 [] []) [] wr)) (fun _ _ _ iv _ => steps.length - (intOf iv).toNat)
      case atStart => exact ⟨_, lg1, 0, [], 1, 1, [], [], rfl, rfl, rfl, rfl, by omega, by omega, by omega, rfl, Lib.hid Lg.one_start, HL4⟩
      case round =>
        obtain ⟨v, lg, i, qs, ep, next, nums, fs, rfl, rfl, rfl, rfl, hi, he1, he2, hql, HO, HL⟩ := hrel
        by_cases hp : i < steps.length
        · obtain ⟨x, hx⟩ : ∃ x, steps[i] = x := ⟨_, rfl⟩
          obtain ⟨b, o, c, hv, k0⟩ := intAt2 (Cells.next HST.out.1 HL.out.below) i hp hx
          cases hv
          have hxb := HST.out.2 x (by rw [← hx]; exact List.getElem_mem _)
          have HPK := Lib.hid (pick11_any x 3 wr hxb.1 hxb.2 (by decide) (by decide))
          clear hx hxb
          go_wp2_with fail
          refine HPK.out.mono ?_
          rintro e w5 ⟨⟨k, rfl, hk⟩, rfl⟩
          have hw1 : wrap64 (ep + (k : Int)) = ep + (k : Int) := IntWalk.wrap64_in _ (by omega)
          have hw2 : wrap64 ((i : Int) + 1) = (i : Int) + 1 := IntWalk.wrap64_in _ (by omega)
          have HPL := Lib.hid (plain11_any ((i : Int) + 1) (ep + (k : Int)) w5)
          obtain ⟨f2, next2, nums2, q1, q2⟩ := HO.out.more (k := k) (room := 1048576) (by omega) (by omega) (by decide)
          have HQ := Lib.hid (And.intro q1 q2)
          clear HPK q1 q2
          go_wp2_with fail
          refine HPL.out.mono ?_
          rintro e w6 ⟨g, rfl, hkb, hg, b6⟩
          obtain ⟨W6, hW6⟩ : ∃ W6, W6 = w6.alloc (.cells #[.int .i64 ((i : Int) + 1), .int .i64 (ep + (k : Int)), .string ⟨#[115]⟩, .int .i64 0, .int .i64 1, .int .i64 1, .slice (some ⟨g, 0, none⟩) 1 1] 58) := ⟨_, rfl⟩
          have bA : Below w6.heap.size w6 W6 := by rw [hW6]; exact (Below.refl _ _).alloc (Nat.le_refl _) _
          have bB : Below W6.heap.size W6 (W6.alloc (.cells #[.int .i64 ((i : Int) + 1), .int .i64 (ep + (k : Int)), .string ⟨#[115]⟩, .int .i64 0, .int .i64 1, .int .i64 1, .slice (some ⟨g, 0, none⟩) 1 1] 58)) := (Below.refl _ _).alloc (Nat.le_refl _) _
          have hG : W6.heap[w6.heap.size]? = some (.cells #[.int .i64 ((i : Int) + 1), .int .i64 (ep + (k : Int)), .string ⟨#[115]⟩, .int .i64 0, .int .i64 1, .int .i64 1, .slice (some ⟨g, 0, none⟩) 1 1] 58 (0, 0)) := by rw [hW6]; exact heap_alloc_new w6 _
          have b67 := Below.up (Below.up b6 (Nat.le_refl _) bA) (Nat.le_refl _) bB
          have hx := entCells_new W6 (Lg.plainN ((i : Int) + 1) (ep + (k : Int)), Value.slice (some ⟨g, 0, none⟩) 1 1) 58
          have hkb7 := heap_kept (Below.up bA (Nat.le_refl _) bB) (Nat.le_refl _) hkb
          have hown := (HL.out.next b67).row
          have HN := Lib.hid (And.intro b67 (And.intro hkb7 (And.intro hg (And.intro hG bB))))
          have HOW := Lib.hid hown
          have HW6 := Lib.hid hW6
          have hbs := (HL.out.next b67).below.size
          have hs56 := b6.size
          clear bA bB b67 hkb hkb7 hg b6 hown hW6 HPL
          have HG2 := Lib.hid hG
          clear hG
          go_upto_region 17 with fail
          rw [← HW6.out]
          have y0 := enCells_block HG2.out 0 _ rfl
          have y1 := enCells_block HG2.out 1 _ rfl
          have y2 := enCells_block HG2.out 2 _ rfl
          have y3 := enCells_block HG2.out 3 _ rfl
          have y4 := enCells_block HG2.out 4 _ rfl
          have y5 := enCells_block HG2.out 5 _ rfl
          have y6 := enCells_block HG2.out 6 _ rfl
          go_wp2_with (at_builtin; refine wpList_append_at rfl _ _ rfl enT w.heap.size v qs.length (enCells qs) rfl HOW.out _ 1 (enCells [(Lg.plainN ((i : Int) + 1) (ep + (k : Int)), Value.slice (some ⟨g, 0, none⟩) 1 1)]) rfl hx (enCells_plain _ _ _) ?c3 ?c2 ?_)
          case c3 => omega
          case c2 => exact hbs
          intro v' w8 hown8 hgr hv8
          have HL8 := Lib.hid (HL.out.push (x := (Lg.plainN ((i : Int) + 1) (ep + (k : Int)), Value.slice (some ⟨g, 0, none⟩) 1 1)) HN.out.1 (KB.evs HN.out.2.1) (fine_plain _ _) (fun b hb => by cases hb; exact HN.out.2.2.1) (by rw [hql]; exact hown8) hgr (hv8.imp id (fun e => e.trans (congrArg some (Array.size_push (xs := W6.heap) _).symm))))
          have hne : ∀ j, w5.heap.size ≤ j → v.ownBlock ≠ some j := fun j hj e => by have := own_block HL.out.row e; omega
          have hG7 := heap_kept HN.out.2.2.2.2 (Nat.le_refl _) HG2.out
          have hG8 := (hgr.block _ (Array.getElem?_eq_some_iff.1 hG7).1 (fun e => hne _ hs56 e.symm)).trans hG7
          have hk8 : KB g w8 := (hgr.block _ (Array.getElem?_eq_some_iff.1 HN.out.2.1).1 (fun e => hne _ HN.out.2.2.1 e.symm)).trans HN.out.2.1
          have HAP := Lib.hid (append_l2 (s' := Lg.stateOf next2 nums2 (plainE qs ++ [Lg.plainN ((i : Int) + 1) (ep + (k : Int))])) (fs' := f2) (c := 0) HL8.out ((Below.refl _ w8).alloc (Nat.le_refl _) _) (entOne w8 _ _ g hk8) (fun b hb => by cases hb; exact Nat.le_refl _) (fun p hp => by rw [List.mem_singleton.1 hp]; simp) (by decide)
            (Lg.stateOf_bk HO.out.holds _ (by have := HO.out.len; simp; omega)) (Nat.le_refl _) (by simp) HQ.out.1)
          have HG8 := Lib.hid hG8
          clear hne hG7 hG8 hk8 hown8 hgr hv8 y0 y1 y2 y3 y4 y5 y6 HOW hx hbs
          have y0 := enCells_block HG8.out 0 _ rfl
          have y1 := enCells_block HG8.out 1 _ rfl
          have y2 := enCells_block HG8.out 2 _ rfl
          have y3 := enCells_block HG8.out 3 _ rfl
          have y4 := enCells_block HG8.out 4 _ rfl
          have y5 := enCells_block HG8.out 5 _ rfl
          have y6 := enCells_block HG8.out 6 _ rfl
          go_wp2_with fail
          refine HAP.out.mono ?_
          rintro e w9 ⟨rfl, hL9⟩
          have HL9 := Lib.hid hL9
          clear HAP hL9 y0 y1 y2 y3 y4 y5 y6
          have hpe : plainE qs ++ [Lg.plainN ((i : Int) + 1) (ep + (k : Int))] = plainE (qs ++ [(Lg.plainN ((i : Int) + 1) (ep + (k : Int)), Value.slice (some ⟨g, 0, none⟩) 1 1)]) := by simp [plainE]
          have HQ2 := Lib.hid HQ.out.2
          rw [hpe] at HQ2 HL9
          have hql2 : (qs ++ [(Lg.plainN ((i : Int) + 1) (ep + (k : Int)), Value.slice (some ⟨g, 0, none⟩) 1 1)]).length = i + 1 := by rw [List.length_append, hql]; rfl
          clear hpe
          by_cases hi2 : i < opens.length
          · obtain ⟨y, hy⟩ : ∃ y, opens[i] = y := ⟨_, rfl⟩
            obtain ⟨b2, o2, c2, hv2, k2⟩ := intAt2 (Cells.next HST2.out.1 HL9.out.below) i hi2 hy
            cases hv2
            by_cases hm : y.tmod 3 = 0
            · have HOP := Lib.hid (open_l2 HL9.out (by decide) HQ2.out.holds (by have := HQ2.out.len; omega))
              obtain ⟨cc, _⟩ := HL9.out.cells
              clear hy
              go_wp2_with fail
              refine HOP.out.mono ?_
              rintro e w10 ⟨lg3, rfl, hL10⟩
              have HL10 := Lib.hid hL10
              clear HOP hL10 cc k2
              go_wp2
              exact ⟨⟨v', lg3, i + 1, _, ep + (k : Int), next2, nums2, f2, rfl, rfl, rfl, by go_num, by omega, by omega, by omega, hql2, HQ2, HL10⟩, by simp [intOf]; omega⟩
            · clear hy
              go_wp2
              exact ⟨⟨v', lg, i + 1, _, ep + (k : Int), next2, nums2, f2, rfl, rfl, rfl, by go_num, by omega, by omega, by omega, hql2, HQ2, HL9⟩, by simp [intOf]; omega⟩
          · go_wp2
            exact ⟨⟨v', lg, i + 1, _, ep + (k : Int), next2, nums2, f2, rfl, rfl, rfl, by go_num, by omega, by omega, by omega, hql2, HQ2, HL9⟩, by simp [intOf]; omega⟩
        · obtain rfl : i = steps.length := by omega
          have HAR := Lib.hid (append_row (c := 0) (HL.out.next (Below.refl _ wr).drew) (by decide) (Lg.stateOf_bk Lg.held_nil _ (by simp; omega)) (own_capok HL.out.row) (by omega) (HO.out.again (by omega)))
          have HCC := Lib.hid (HL.out.next (Below.refl _ wr).drew).cells
          go_upto_region 25 with fail
          have hll : (plainE qs).length ≤ 1000000 := by rw [HO.out.len]; omega
          have HLL := Lib.hid hll
          have HML := Lib.hid (show (Mk.marks (plainE qs)).length ≤ 1000000 from Nat.le_trans (Mk.marks_len _ none) hll)
          have HPL := Lib.hid (show (Lg.stateOf next nums (plainE qs)).parts.length ≤ 1000 by rw [show (Lg.stateOf next nums (plainE qs)).parts.length = nums.length from Lg.parts_len nums]; have := HO.out.many; omega)
          have HNL := Lib.hid (show (Lg.stateOf next nums (plainE qs)).nums.length ≤ 1000000 by rw [show (Lg.stateOf next nums (plainE qs)).nums = nums from Lg.parts_nums nums]; have := HO.out.many; omega)
          clear hll he1 he2
          go_region_held3 (fun Z => Z.cell? ⟨w1.heap.size, 0, none⟩ = some (.pointer (some ⟨d1, 0, none⟩)) ∧ Z.cell? ⟨w2.heap.size, 0, none⟩ = some (.pointer (some ⟨d2, 0, none⟩)))
            (first | exact hL.out.cells | exact HCC.out)
            (first
              | (go_at_call 23; refine HAR.out.mono ?_; rintro e w5 ⟨rfl, hL⟩; replace hL := Lib.hid hL)
              | (go_at_call_of 25 (Value.pointer (some ⟨lg, 0, none⟩)); refine (range_ll 1 100 (lg := lg) hL.out.left HLL.out).mono ?_; rintro e wa ⟨ra1, qa, rc1, rfl, hpa, hEa, ba⟩; replace hL := Lib.hid (hL.out.next ba); clear ba)
              | (go_at_call_of 25 (Value.pointer (some ⟨lg2, 0, none⟩)); refine (range_ll 1 100 (lg := lg2) hL.out.swap.left HLL.out).mono ?_; rintro e wb ⟨rb1, qb, rcb, rfl, hpb, hEb, bb⟩; replace hEa := Lib.hid (hEa.out.next bb); replace hL := Lib.hid (hL.out.next bb); clear bb)
              | (go_at_call 24; refine (sameRow6_any (.slice ra1 qa.length rc1) (.slice rb1 qb.length rcb) qa qb _ hEa.out hEb.out (hpa.out.trans hpb.out.symm) (range_cnt hpa.out HLL.out)).mono ?_; rintro e wc ⟨rfl, bc⟩; replace hL := Lib.hid (hL.out.next bc); clear bc hEa hEb hpa hpb)
              | (go_at_call_of 27 (Value.pointer (some ⟨lg, 0, none⟩)); refine (marks_ll (lg := lg) hL.out.left HLL.out).mono ?_; rintro e wd ⟨Va, rfl, hVa, bd⟩; have hMa := Lib.hid (cells_of_owns hVa.out); replace hL := Lib.hid (hL.out.next bd); clear bd hVa)
              | (go_at_call_of 27 (Value.pointer (some ⟨lg2, 0, none⟩)); refine (marks_ll (lg := lg2) hL.out.swap.left HLL.out).mono ?_; rintro e we ⟨Vb, rfl, hVb, be⟩; have hMb := Lib.hid (cells_of_owns hVb.out); replace hMa := Lib.hid (Cells.next hMa.out be); replace hL := Lib.hid (hL.out.next be); clear be hVb)
              | (go_at_call 26; refine (sameMarks11_any Va Vb (Mk.marks (plainE qs)) _ hMa.out hMb.out HML.out).mono ?_; rintro e wf ⟨rfl, bf⟩; replace hL := Lib.hid (hL.out.next bf); clear bf hMa hMb)
              | (go_at_call_of 29 (Value.pointer (some ⟨lg, 0, none⟩)); refine (segs_ll (lg := lg) hL.out.left HPL.out).mono ?_; rintro e wg ⟨Sa, rfl, hSa, bg⟩; have hNa := Lib.hid (cells_of_owns hSa.out); replace hL := Lib.hid (hL.out.next bg); clear bg hSa)
              | (go_at_call_of 29 (Value.pointer (some ⟨lg2, 0, none⟩)); refine (segs_ll (lg := lg2) hL.out.swap.left HPL.out).mono ?_; rintro e wh ⟨Sb, rfl, hSb, bh⟩; have hNb := Lib.hid (cells_of_owns hSb.out); replace hNa := Lib.hid (Cells.next hNa.out bh); replace hL := Lib.hid (hL.out.next bh); clear bh hSb)
              | (go_at_call 28; refine (sameInts11_any Sa Sb (Lg.stateOf next nums (plainE qs)).nums _ hNa.out hNb.out HNL.out).mono ?_; rintro e wi ⟨rfl, bi⟩; replace hL := Lib.hid (hL.out.next bi); clear bi hNa hNb)
              | (go_at_call_of 30 (Value.pointer (some ⟨d1, 0, none⟩)); refine (used_ll hL.out.left).mono ?_; rintro e wj ⟨rfl, hw⟩; replace hL := Lib.hid (hw ▸ hL.out); clear hw)
              | (go_at_call_of 30 (Value.pointer (some ⟨d2, 0, none⟩)); refine (used_ll hL.out.swap.left).mono ?_; rintro e wk ⟨rfl, hw⟩; replace hL := Lib.hid (hw ▸ hL.out); clear hw))
          have hB := hL.out.below
          clear hL
          go_wp2
          go_ret
          exact ⟨rfl, hB⟩
end Go.Proofs.YtbknlffebcbjfaaGreatDoor
