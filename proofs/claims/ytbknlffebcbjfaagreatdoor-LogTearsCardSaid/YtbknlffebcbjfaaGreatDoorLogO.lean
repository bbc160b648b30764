/-
  The walk of a log's room (layer 11).
-/
import Derived.Test.YtbknlffebcbjfaaGreatDoorLogR
namespace Go.Proofs.YtbknlffebcbjfaaGreatDoor
open Go.RowKit Go.Shelf

def Lg.Bounded (s : Lg.S) : Prop := s.parts.length ≤ 1000 ∧ s.es.length ≤ 500000 ∧ 0 ≤ s.next ∧ s.next ≤ 2147483648 ∧ ∀ p ∈ s.parts, 0 ≤ p.2 ∧ p.2 ≤ 1000000
theorem Lg.roomF_none {room : Int} {s : Lg.S} {fs : List Dk.File} (h : s.parts.length = 0) : Lg.roomF room s fs = Lg.newF room s fs := by
  unfold Lg.roomF
  rw [List.eq_nil_of_length_eq_zero h]; rfl
theorem Lg.roomF_some {room : Int} {s : Lg.S} {fs : List Dk.File} {x y : Int} {n : Nat} (hn : s.parts.length = n + 1) (h : s.parts[n]? = some (x, y)) : Lg.roomF room s fs = if (s.es.length : Int) + 1 - y < 8 then ((fs, s), 8 - ((s.es.length : Int) + 1 - y), 0) else Lg.newF room s fs := by
  unfold Lg.roomF
  rw [List.getLast?_eq_getElem?, hn, Nat.add_sub_cancel, h]
/-- A part in a block of its own. -/
def PartAt (b : Nat) (x y : Int) (w : World) : Prop := w.heap[b]? = some (.cells #[.int .i64 x, .int .i64 y] 130 (0, 0))
theorem PartAt.cells {b : Nat} {x y : Int} {w : World} (h : PartAt b x y w) : w.cell? ⟨b, 0, none⟩ = some (.int .i64 x) ∧ w.cell? ⟨b, 1, none⟩ = some (.int .i64 y) := by
  refine ⟨?_, ?_⟩ <;> (rw [Lib.cell_of_heap h]; rfl)
theorem PartAt.next {b : Nat} {x y : Int} {w w' : World} (h : PartAt b x y w) (hb : Below w.heap.size w w') : PartAt b x y w' := heap_kept hb (Nat.le_refl _) h
theorem PartAt.turn {f : Nat → Prop} {b : Nat} {x y : Int} {w w' : World} (h : PartAt b x y w) (hf : ¬ f b) (ht : Turn f w w') : PartAt b x y w' := (ht.block b (Array.getElem?_eq_some_iff.1 h).1 hf).trans h
theorem own_or {w : World} {base n sz : Nat} {e : TypeId} {v : Value} {xs : List Value} (h : w.ownsRow base e sz v n xs) : n = 0 → v = .slice none 0 0 ∨ ∃ b o c, v = .slice (some ⟨b, o, none⟩) 0 c := fun hn => by
  rcases h.2 with ⟨h, _⟩ | ⟨g, cap, cur, h, _⟩
  · exact .inl h
  · exact .inr ⟨g, 0, cap, by rw [h, hn]⟩
variable {a w w' : World} {lg d : Nat} {room : Int} {s s' : Lg.S} {fs fs' : List Dk.File} {T X ft : Nat → Prop} {pv ev : Value} {ps qs : List EnX}

set_option maxHeartbeats 8000000 in
set_option maxRecDepth 100000 in
theorem logRoom_any {k : Int} {c : Nat} (h : Lay a lg d room s fs T X ft pv ev ps w) (hB : Lg.Bounded s) (hr : Lg.roomF room s fs = ((fs', s'), k, c)) :
    Calls Tryz.prog 82 #[.pointer (some ⟨lg, 0, none⟩)] w fun e w' => e = .returned (.tuple #[.int .i64 k, .int .i64 (c : Int)]) ∧ LStep a lg d room s' fs' T X w w' := by
  obtain ⟨B1, B2, B3, B4, B5⟩ := hB
  have HLay := Lib.hid h
  have hlen : ps.length = s.es.length := h.len
  obtain ⟨pa, pc, rfl⟩ := cells_slice (cells_of_owns h.parts)
  obtain ⟨ea, ec, rfl⟩ := cells_slice (cells_of_owns h.ents)
  obtain ⟨k0, k1, k2, k3⟩ := h.cells
  have HR := Lib.hid hr
  clear hr
  go_enter Tryz.func82, Tryz.ntmps82
  go_upto_if 16 with fail
  go_cut [] (fun wx => Lg.newF room s fs = ((fs', s'), k, c) ∧ Below w.heap.size w wx)
  case first =>
    by_cases h0 : s.parts.length = 0
    · rw [Lg.roomF_none h0] at HR
      have HR' := Lib.hid HR.out
      have hz : ¬ 0 < s.parts.length := by omega
      clear h HR
      go_wp2
      go_meet
      case rel => exact ⟨HR'.out, Below.refl _ _⟩
    · obtain ⟨n, hn⟩ : ∃ n, s.parts.length = n + 1 := ⟨s.parts.length - 1, by omega⟩
      obtain ⟨⟨x, y⟩, hxy⟩ : ∃ x, s.parts[n]'(by omega) = x := ⟨_, rfl⟩
      obtain ⟨b, o, c', hv, q0, q1⟩ := partAt (cells_of_owns h.parts) n (by omega) hxy
      cases hv
      have hxy' : s.parts[n]? = some (x, y) := by rw [List.getElem?_eq_getElem (by omega), hxy]
      have hy := B5 (x, y) (List.mem_of_getElem? hxy')
      simp only at hy
      rw [Lg.roomF_some hn hxy'] at HR
      have hz : decide (0 < s.parts.length) = true := by rw [decide_eq_true_eq]; omega
      have hw1 : IntKind.i64.wrap ((s.parts.length : Int) - 1) = (n : Int) := by rw [IntKind.wrap_i64]; omega
      have hw2 : IntKind.i64.wrap ((s.es.length : Int) + 1) = (s.es.length : Int) + 1 := by rw [IntKind.wrap_i64]; omega
      have hw3 : IntKind.i64.wrap ((s.es.length : Int) + 1 - y) = (s.es.length : Int) + 1 - y := by rw [IntKind.wrap_i64]; omega
      have hw4 : wrap64 (8 - ((s.es.length : Int) + 1 - y)) = 8 - ((s.es.length : Int) + 1 - y) := by rw [IntWalk.wrap64_in] <;> omega
      have hw5 : ((n : Int)).toNat = n := by omega
      have hlt : (n : Int) < (s.parts.length : Int) := by omega
      have hlt2 : n < s.parts.length := by omega
      by_cases h8 : (s.es.length : Int) + 1 - y < 8
      · rw [if_pos h8] at HR
        have HR1 := Lib.hid (show fs' = fs ∧ s' = s ∧ k = 8 - ((s.es.length : Int) + 1 - y) ∧ c = 0 by
          have := HR.out
          simp only [Prod.mk.injEq] at this
          exact ⟨this.1.1.symm, this.1.2.symm, this.2.1.symm, this.2.2.symm⟩)
        clear h hn hxy hxy' HR
        go_wp2
        go_quiet (fail)
        go_wp2
        go_ret2
        obtain ⟨rfl, rfl, rfl, rfl⟩ := HR1.out
        exact ⟨rfl, LStep.refl ⟨_, _, _, _, HLay.out⟩ (below_drewN (Below.refl _ _) _)⟩
      · rw [if_neg h8] at HR
        have HR' := Lib.hid HR.out
        clear h hn hxy hxy' HR
        go_wp2
        go_quiet (fail)
        go_wp2
        go_meet
        case rel => exact ⟨HR'.out, below_drewN (Below.refl _ _) _⟩
  case rest =>
    obtain ⟨hnew, hbc⟩ := hcut
    have HN := Lib.hid hnew
    have HBC := Lib.hid hbc
    have HLc := Lib.hid (h.next hbc)
    obtain ⟨c0, c1, c2, c3⟩ := HLc.out.cells
    clear h hnew hbc HR k0 k1 k2 k3
    by_cases h30 : 30 ≤ s.parts.length
    · have HN1 := Lib.hid (show fs' = fs ∧ s' = s ∧ k = 0 ∧ c = 4 by
        have := HN.out
        rw [Lg.newF, if_pos h30] at this
        simp only [Prod.mk.injEq] at this
        exact ⟨this.1.1.symm, this.1.2.symm, this.2.1.symm, this.2.2.symm⟩)
      have h30i : (30 : Int) ≤ (s.parts.length : Int) := by omega
      clear HN
      go_wp2
      go_ret2
      obtain ⟨rfl, rfl, rfl, rfl⟩ := HN1.out
      exact ⟨rfl, LStep.refl ⟨_, _, _, _, HLay.out⟩ HBC.out⟩
    · have h30i : ¬ (30 : Int) ≤ (s.parts.length : Int) := by omega
      have h30j : (s.parts.length : Int) < 30 := by omega
      obtain ⟨⟨f1, e1⟩, hF1⟩ : ∃ P, Seg.create room s.next ((s.es.length : Int) + 1) fs = P := ⟨_, rfl⟩
      have HN1 := Lib.hid (show (if e1 ≠ 0 then ((f1, s), 0, e1) else if (Man.save room (s.next + 1) (s.nums ++ [s.next]) f1).2 ≠ 0 then
          (((Dk.delete (Seg.nameOf s.next) (Man.save room (s.next + 1) (s.nums ++ [s.next]) f1).1).1, s), 0, (Man.save room (s.next + 1) (s.nums ++ [s.next]) f1).2)
          else (((Man.save room (s.next + 1) (s.nums ++ [s.next]) f1).1, ⟨s.next + 1, s.parts ++ [(s.next, (s.es.length : Int) + 1)], s.es⟩), 8, 0)) = ((fs', s'), k, c) by
        have := HN.out
        rw [Lg.newF, if_neg h30, hF1] at this
        exact this)
      have HLA := Lib.hid (logLast_any (HLc.out.next (Below.refl _ wc).drew))
      have HLA2 := Lib.hid (logLast_any (HLc.out.next (((Below.refl _ wc).alloc (Nat.le_refl _) (.cells #[.int .i64 0, .int .i64 0] 130)).drew)))
      have hw1 : IntKind.i64.wrap ((s.es.length : Int) + 1) = (s.es.length : Int) + 1 := by rw [IntKind.wrap_i64]; omega
      clear HN h30
      go_upto_region 8 with fail
      go_cut [6] (fun p6 wx => p6 = .pointer (some ⟨wc.heap.size, 0, none⟩) ∧ PartAt wc.heap.size s.next ((s.es.length : Int) + 1) wx ∧ Below wc.heap.size wc wx)
      case first =>
        go_region_held3 (fun Z => Z.cell? ⟨lg, 1, none⟩ = some (.int .i64 s.next))
          (first | exact c1 | exact cell_kept (((Below.refl _ wc).alloc (Nat.le_refl _) (.cells #[.int .i64 0, .int .i64 0] 130)).drew) (Nat.le_refl _) c1 | exact cell_kept (((Below.refl _ wc).alloc (Nat.le_refl _) (.cells #[.int .i64 s.next, .int .i64 ((s.es.length : Int) + 1)] 130)).drew) (Nat.le_refl _) c1)
          (first | (go_at_call 33; (first | refine HLA.out.mono ?_ | refine HLA2.out.mono ?_); rintro e w' ⟨rfl, rfl⟩))
        all_goals go_wp2
        all_goals go_meet
        all_goals exact ⟨rfl, heap_alloc_new wc _, ((Below.refl _ wc).alloc (Nat.le_refl _) _).drew⟩
      case rest =>
      rename World => W
      obtain ⟨rfl, hP, b8⟩ := hcut
      have hL8 := HLc.out.next b8
      have HM8 := Lib.hid (LMid.next (LMid.start HLay.out) (HBC.out.trans (b8.mono HBC.out.size)))
      have hft : ∀ j, w.heap.size ≤ j → ¬ ft j := fun j hj hf => by have := HLay.out.lt _ (HLay.out.subX _ (HLay.out.sub _ hf)); omega
      have hwc : w.heap.size ≤ wc.heap.size := HBC.out.size
      have HP8 := Lib.hid hP
      obtain ⟨d0, d1, d2, d3⟩ := hL8.cells
      obtain ⟨p0, p1⟩ := hP.cells
      have HCR := segCreate_any a d room s.next ((s.es.length : Int) + 1) fs ft W.drew (hL8.next (Below.refl _ W).drew).baseD (hL8.next (Below.refl _ W).drew).disk
      rw [hF1] at HCR
      have HCR := Lib.hid HCR
      have hcc := And.intro d0 (And.intro p0 p1)
      have hG1 : ¬ ft wc.heap.size := hft _ hwc
      have hG2 : ¬ ft lg := HLay.out.tl.2
      clear hP b8 hL8 hF1 HLA HLA2 c0 c1 c2 c3
      go_wp2
      go_region_held3 (fun Z => Z.cell? ⟨lg, 0, none⟩ = some (.pointer (some ⟨d, 0, none⟩)) ∧ Z.cell? ⟨wc.heap.size, 0, none⟩ = some (.int .i64 s.next) ∧ Z.cell? ⟨wc.heap.size, 1, none⟩ = some (.int .i64 ((s.es.length : Int) + 1)))
        (first | exact hcc | exact ⟨turn_cell hds.choose_spec.2.2 hG2 hcc.1, turn_cell hds.choose_spec.2.2 hG1 hcc.2.1, turn_cell hds.choose_spec.2.2 hG1 hcc.2.2⟩)
        (first | (go_at_call 42; refine HCR.out.mono ?_; rintro e w' ⟨rfl, hds⟩))
      obtain ⟨T2, ft2, hM9, m9, n9⟩ := (HM8.out.next (Below.refl _ W).drew).disked hds
      have hP9 := (HP8.out.next (Below.refl _ W).drew).turn hG1 hds.choose_spec.2.2
      have HM9 := Lib.hid hM9
      have HP9 := Lib.hid hP9
      clear hds HCR hcc d0 d1 d2 d3 p0 p1 hM9
      by_cases he : e1 = 0
      · subst he
        have HN1 := Lib.hid (show (if (Man.save room (s.next + 1) ((s.parts ++ [(s.next, (s.es.length : Int) + 1)]).map (·.1)) f1).2 ≠ 0 then
          (((Dk.delete (Seg.nameOf s.next) (Man.save room (s.next + 1) ((s.parts ++ [(s.next, (s.es.length : Int) + 1)]).map (·.1)) f1).1).1, s), 0, (Man.save room (s.next + 1) ((s.parts ++ [(s.next, (s.es.length : Int) + 1)]).map (·.1)) f1).2)
          else (((Man.save room (s.next + 1) ((s.parts ++ [(s.next, (s.es.length : Int) + 1)]).map (·.1)) f1).1, ⟨s.next + 1, s.parts ++ [(s.next, (s.es.length : Int) + 1)], s.es⟩), 8, 0)) = ((fs', s'), k, c) by
          have := HN1.out
          rw [if_neg (by simp)] at this
          rw [List.map_append]
          exact this)
        have hcells := cells_of_owns HM9.out.lay.parts
        have hor := own_or HM9.out.lay.parts
        have HCL := Lib.hid (cloneP_any (.slice pa s.parts.length pc) s.parts.length (partCells s.parts) w'.drew (hcells.next (Below.refl _ w').drew) (partCells_one _) (by omega) hor)
        have bz : Below w'.heap.size w' (w'.alloc (.cells #[.int .i64 s.next, .int .i64 ((s.es.length : Int) + 1)] 130)).drew := ((Below.refl _ w').alloc (Nat.le_refl _) _).drew
        have HCL2 := Lib.hid (cloneP_any (.slice pa s.parts.length pc) s.parts.length (partCells s.parts) (w'.alloc (.cells #[.int .i64 s.next, .int .i64 ((s.es.length : Int) + 1)] 130)).drew (hcells.next bz) (partCells_one _) (by omega) hor)
        have hxz := (cells_newN w' [.int .i64 s.next, .int .i64 ((s.es.length : Int) + 1)] 130).next ((Below.refl _ _).drew)
        obtain ⟨d0, d1, d2, d3⟩ := HM9.out.lay.cells
        obtain ⟨p0, p1⟩ := hP9.cells
        have hcc := And.intro d2 (And.intro p0 p1)
        have HBZ := Lib.hid (And.intro bz hxz)
        clear hcells hor bz hxz hP9
        go_upto_region 12 with fail
        go_cut [8] (fun p8 wx => ∃ va8 vc8, p8 = .slice va8 (s.parts.length + 1) vc8 ∧ wx.ownsRow w'.heap.size 130 2 p8 (s.parts.length + 1) (partCells s.parts ++ [.int .i64 s.next, .int .i64 ((s.es.length : Int) + 1)]) ∧ Below w'.heap.size w' wx)
        case first =>
          go_region_held3 (fun Z => Z.cell? ⟨lg, 2, none⟩ = some (.slice pa s.parts.length pc) ∧ Z.cell? ⟨wc.heap.size, 0, none⟩ = some (.int .i64 s.next) ∧ Z.cell? ⟨wc.heap.size, 1, none⟩ = some (.int .i64 ((s.es.length : Int) + 1)))
            (first | exact hcc | exact ⟨cell_kept HFIN.out.2 (Nat.le_refl _) hcc.1, cell_kept HFIN.out.2 (Nat.le_refl _) hcc.2.1, cell_kept HFIN.out.2 (Nat.le_refl _) hcc.2.2⟩ | exact ⟨cell_kept HBZ.out.1 (Nat.le_refl _) hcc.1, cell_kept HBZ.out.1 (Nat.le_refl _) hcc.2.1, cell_kept HBZ.out.1 (Nat.le_refl _) hcc.2.2⟩ | exact ⟨cell_kept (HBZ.out.1.trans (hb.mono HBZ.out.1.size)) (Nat.le_refl _) hcc.1, cell_kept (HBZ.out.1.trans (hb.mono HBZ.out.1.size)) (Nat.le_refl _) hcc.2.1, cell_kept (HBZ.out.1.trans (hb.mono HBZ.out.1.size)) (Nat.le_refl _) hcc.2.2⟩ | exact ⟨cell_kept hb (Nat.le_refl _) hcc.1, cell_kept hb (Nat.le_refl _) hcc.2.1, cell_kept hb (Nat.le_refl _) hcc.2.2⟩ | exact ⟨cell_kept (hb.alloc hb.size _) (Nat.le_refl _) hcc.1, cell_kept (hb.alloc hb.size _) (Nat.le_refl _) hcc.2.1, cell_kept (hb.alloc hb.size _) (Nat.le_refl _) hcc.2.2⟩)
            (first
              | (go_at_call 87; (first | refine HCL.out.mono ?_ | refine HCL2.out.mono ?_); rintro e w2 ⟨v2, rfl, hV, hb⟩)
              | (refine step_append_at rfl _ _ rfl partT w'.heap.size v2 s.parts.length (partCells s.parts) rfl (owns_next (ownsRow_low hV.out (Nat.le_refl w'.heap.size)) ((Below.refl _ w2).alloc (Nat.le_refl _) _)) _ 1 [.int .i64 s.next, .int .i64 ((s.es.length : Int) + 1)] rfl (cells_newN w2 _ 130) (by simp [Value.oneCell']) (by omega) (Nat.le_trans hb.size (Nat.le_of_lt (by rw [World.size_alloc]; exact Nat.lt_succ_self _))) ?_
                 intro v3 wa hown hga hbl
                 have hfin : Below w'.heap.size w' wa := (((Below.refl _ w').drew.trans hb).alloc hb.size _).grown hga (Nat.le_trans hb.size (Nat.le_of_lt (by rw [World.size_alloc]; exact Nat.lt_succ_self _))) (fun k hk => (hV.out.lt k hk).1)
                 obtain ⟨va3, vc3, rfl⟩ := cells_slice (cells_of_owns hown)
                 have HFIN := Lib.hid (And.intro hown hfin)
                 clear hown hga hbl hfin)
              | (refine step_append_at rfl _ _ rfl partT w'.heap.size v2 s.parts.length (partCells s.parts) rfl (ownsRow_low hV.out HBZ.out.1.size) _ 1 [.int .i64 s.next, .int .i64 ((s.es.length : Int) + 1)] rfl (HBZ.out.2.next hb) (by simp [Value.oneCell']) (by omega) (Nat.le_trans HBZ.out.1.size hb.size) ?_
                 intro v3 wa hown hga hbl
                 have hfin : Below w'.heap.size w' wa := (HBZ.out.1.trans (hb.mono HBZ.out.1.size)).grown hga (Nat.le_trans HBZ.out.1.size hb.size) (fun k hk => Nat.le_trans HBZ.out.1.size (hV.out.lt k hk).1)
                 obtain ⟨va3, vc3, rfl⟩ := cells_slice (cells_of_owns hown)
                 have HFIN := Lib.hid (And.intro hown hfin)
                 clear hown hga hbl hfin))
          all_goals go_wp2
          all_goals go_meet
          all_goals exact ⟨_, _, rfl, HFIN.out.1, HFIN.out.2⟩
        case rest =>
        rename World => W12
        obtain ⟨va8, vc8, rfl, hown, hb12⟩ := hcut
        obtain ⟨T3, hM12, m12, n12⟩ := HM9.out.more hb12
        have hP12 := HP9.out.next hb12
        have hnew8 : ∀ b, (Value.slice va8 (s.parts.length + 1) vc8).ownBlock = some b → T3 b ∧ ¬ ft2 b ∧ b ≠ lg := fun b hb => n12 b (hown.lt b hb).1 (hown.lt b hb).2
        obtain ⟨d0, d1, d2, d3⟩ := hM12.lay.cells
        obtain ⟨p0, p1⟩ := hP12.cells
        have HM12 := Lib.hid hM12
        have HP12 := Lib.hid hP12
        have HO12 := Lib.hid hown
        have HN8 := Lib.hid hnew8
        obtain ⟨NP, hNP⟩ : ∃ NP, s.parts ++ [(s.next, (s.es.length : Int) + 1)] = NP := ⟨_, rfl⟩
        have hNPl : s.parts.length + 1 = NP.length := by rw [← hNP, List.length_append]; rfl
        have hNPc : partCells s.parts ++ [.int .i64 s.next, .int .i64 ((s.es.length : Int) + 1)] = partCells NP := by rw [← hNP, partCells_append]; rfl
        rw [hNP] at HN1
        rw [hNPl, hNPc] at HO12
        rw [hNPl] at HN8 hown ⊢
        rw [hNPc] at hown
        obtain ⟨⟨f2, e2⟩, hS⟩ : ∃ P, Man.save room (s.next + 1) (NP.map (·.1)) f1 = P := ⟨_, rfl⟩
        rw [hS] at HN1
        have hNP32 : NP.length ≤ 100 := by omega
        have HND := Lib.hid (named_log (s.next + 1) (.slice va8 NP.length vc8) NP W12.drew (Cells.next (cells_of_owns hown) (Below.refl _ _).drew) (by omega))
        have HSV := Lib.hid (fun (V : Value) (w13 : World) (hb : Below W12.drew.heap.size W12.drew w13) (hV : Cells w13 V 1 (NP.map (·.1)).length (intCells (NP.map (·.1)))) =>
          (show Calls Tryz.prog 76 #[.pointer (some ⟨d, 0, none⟩), .agg #[.int .i64 (s.next + 1), V]] w13 fun e w' => e = .returned (.int .i64 (e2 : Nat)) ∧ DStep d room f2 ft2 w13 w' by
            have := manSave_any a d room (s.next + 1) V (NP.map (·.1)) f1 ft2 w13 ((hM12.next (Below.refl _ W12).drew).next hb).lay.baseD ((hM12.next (Below.refl _ W12).drew).next hb).lay.disk hV (by rw [List.length_map]; omega)
            rw [hS] at this
            exact this))
        have HNPL := Lib.hid hNPl
        have HNP := Lib.hid hNP
        have hw2 : IntKind.i64.wrap (s.next + 1) = s.next + 1 := by rw [IntKind.wrap_i64]; omega
        have hcc := And.intro d0 d1
        have hG2 : ¬ ft2 lg := hM12.lay.tl.2
        have hG3 : ¬ ft2 wc.heap.size := fun hf => by
          rcases n9 _ hf with h | h
          · exact hG1 h
          · have := (Array.getElem?_eq_some_iff.1 HP8.out).1
            have e : W.drew.heap.size = W.heap.size := rfl
            omega
        clear hM12 hP12 hown hnew8 hb12 n12 hNP hNPl hNPc hS hNP32
        go_wp2
        go_region_held3 (fun Z => Z.cell? ⟨lg, 0, none⟩ = some (.pointer (some ⟨d, 0, none⟩)) ∧ Z.cell? ⟨lg, 1, none⟩ = some (.int .i64 s.next))
          (first | exact hcc | exact ⟨cell_kept hb (Nat.le_refl _) hcc.1, cell_kept hb (Nat.le_refl _) hcc.2⟩ | exact ⟨turn_cell hds.choose_spec.2.2 hG2 (cell_kept hb (Nat.le_refl _) hcc.1), turn_cell hds.choose_spec.2.2 hG2 (cell_kept hb (Nat.le_refl _) hcc.2)⟩)
          (first
            | (go_at_call 77; refine HND.out.mono ?_; rintro e w13 ⟨V, rfl, hV, hb⟩)
            | (go_at_call 76; refine (HSV.out V w13 hb (cells_of_owns hV.out)).mono ?_; rintro e w14 ⟨rfl, hds⟩))
        have hM13 := (HM12.out.next (Below.refl _ W12).drew).next hb
        obtain ⟨T4, ft4, hM14, m14, n14⟩ := hM13.disked hds
        have b13 : Below W12.heap.size W12 w13 := (Below.refl _ W12).drew.trans hb
        have hP14 := (HP12.out.next b13).turn hG3 hds.choose_spec.2.2
        have hO14 := owns_turn (owns_next HO12.out b13) (fun b hb => (HN8.out b hb).2.1) hds.choose_spec.2.2
        have hN14 : ∀ b, (Value.slice va8 NP.length vc8).ownBlock = some b → T4 b ∧ ¬ ft4 b ∧ b ≠ lg := fun b hb => by
          obtain ⟨q1, q2, q3⟩ := HN8.out b hb
          refine ⟨m14 b q1, fun hf => ?_, q3⟩
          rcases n14 b hf with h | h
          · exact q2 h
          · have h1 := (HO12.out.lt b hb).2
            have h2 := b13.size
            omega
        obtain ⟨d0, d1, d2, d3⟩ := hM14.lay.cells
        obtain ⟨p0, p1⟩ := hP14.cells
        have HM14 := Lib.hid hM14
        have HP14 := Lib.hid hP14
        have HO14 := Lib.hid hO14
        have HN14 := Lib.hid hN14
        have hsz13 := b13.size
        clear hM13 hds hV hb b13 hM14 hP14 hO14 hN14 HND HSV hcc
        by_cases he2 : e2 = 0
        · subst he2
          have HN2 := Lib.hid (show fs' = f2 ∧ s' = ⟨s.next + 1, NP, s.es⟩ ∧ k = 8 ∧ c = 0 by
            have := HN1.out
            rw [if_neg (by simp)] at this
            simp only [Prod.mk.injEq] at this
            exact ⟨this.1.1.symm, this.1.2.symm, this.2.1.symm, this.2.2.symm⟩)
          have fz := HM14.out.lay.frozen
          have f2' := fz 2
          have f1' := fz 1
          have hl2 := setCell_at (i := 2) HM14.out.lay.log (.slice va8 NP.length vc8)
          have x1 : (w14.setCell ⟨lg, 2, none⟩ (.slice va8 NP.length vc8)).cell? ⟨lg, 1, none⟩ = some (.int .i64 s.next) := by rw [Lib.cell_of_heap hl2]; rfl
          have x2 := Lib.frozen_of_heap hl2 1
          have hl1 := setCell_at (i := 1) hl2 (.int .i64 (s.next + 1))
          have hw3 : wrap64 (s.next + 1) = s.next + 1 := by rw [IntWalk.wrap64_in] <;> omega
          have t2 : Turn (fun j => j = lg) w14 ((w14.setCell ⟨lg, 2, none⟩ (.slice va8 NP.length vc8)).setCell ⟨lg, 1, none⟩ (.int .i64 (s.next + 1))) :=
            Turn.of_grownO (grown_trans (grown_set w14 lg 2 _) (grown_set _ lg 1 _)) (fun b e => by cases e; rfl)
          have hPUT := HM14.out.lay.put (s' := ⟨s.next + 1, NP, s.es⟩) (pv' := .slice va8 NP.length vc8) (ev' := .slice ea ps.length ec) (ps' := ps) (w' := (w14.setCell ⟨lg, 2, none⟩ (.slice va8 NP.length vc8)).setCell ⟨lg, 1, none⟩ (.int .i64 (s.next + 1)))
            (t2.wide (fun j e => by subst e; exact HM14.out.lay.tl)) hl1
            (ownsRow_low (owns_turn HO14.out (fun b e e2 => (HN14.out b e).2.2 e2) t2) (by have := HLc.out.base.below.size; have h2 := HM9.out.lay.base.below.size; exact h2))
            (owns_turn HM14.out.lay.ents (fun b e e2 => (HM14.out.lay.te b e).2.2 e2) t2) HM14.out.lay.plain HM14.out.lay.evs (fun b e => .inl (HN14.out b e)) (fun b e => .inl (HM14.out.lay.te b e))
            (fun b e e2 => by
              have q1 := (HO12.out.lt b e).1
              have q2 := (HM9.out.lay.ents.lt b e2).2
              omega)
          have HPUT := Lib.hid hPUT
          clear hPUT hl2 hl1 t2 fz HN1
          go_wp2
          go_ret2
          obtain ⟨rfl, rfl, rfl, rfl⟩ := HN2.out
          obtain ⟨T5, q1, q2, q3, q4⟩ := HPUT.out
          exact ⟨rfl, (HM14.out.of q1 q2 q3 q4).step⟩
        · have hcb : ((e2 : Int) != 0) = true := by rw [bne_iff_ne]; omega
          have HN2 := Lib.hid (show fs' = (Dk.delete (Seg.nameOf s.next) f2).1 ∧ s' = s ∧ k = 0 ∧ c = e2 by
            have := HN1.out
            rw [if_pos he2] at this
            simp only [Prod.mk.injEq] at this
            exact ⟨this.1.1.symm, this.1.2.symm, this.2.1.symm, this.2.2.symm⟩)
          have HNM := Lib.hid (segName_any s.next w14.drew (HM14.out.next (Below.refl _ w14).drew).lay.env)
          have hnl := Seg.name_len s.next
          obtain ⟨nm, hnm⟩ : ∃ nm, Seg.nameOf s.next = nm := ⟨_, rfl⟩
          rw [hnm] at HNM HN2 hnl
          have hns : (⟨nm.toArray⟩ : ByteArray).size ≤ 14 := by rw [Lib.size_eq]; exact hnl
          have hcc := And.intro d0 p0
          have hG5 : ¬ ft4 lg := HM14.out.lay.tl.2
          have hG6 : ¬ ft4 wc.heap.size := fun hf => by
            rcases n14 _ hf with h | h
            · exact hG3 h
            · have h1 := (Array.getElem?_eq_some_iff.1 HP12.out).1
              have h2 := hsz13
              omega
          clear HN1 hnm hnl
          go_wp2
          go_region_held3 (fun Z => Z.cell? ⟨lg, 0, none⟩ = some (.pointer (some ⟨d, 0, none⟩)) ∧ Z.cell? ⟨wc.heap.size, 0, none⟩ = some (.int .i64 s.next))
            (first | exact hcc | exact ⟨cell_kept hb (Nat.le_refl _) hcc.1, cell_kept hb (Nat.le_refl _) hcc.2⟩ | exact ⟨turn_cell hds.choose_spec.2.2 hG5 (cell_kept hb (Nat.le_refl _) hcc.1), turn_cell hds.choose_spec.2.2 hG6 (cell_kept hb (Nat.le_refl _) hcc.2)⟩)
            (first
              | (go_at_call 45; refine HNM.out.mono ?_; rintro e w15 ⟨rfl, hb⟩)
              | (go_at_call 57; refine (diskDelete_any d room f2 ft4 ⟨nm.toArray⟩ w15 ((HM14.out.next (Below.refl _ w14).drew).next hb).lay.disk (by omega)).mono ?_; rintro e w16 ⟨rfl, hds⟩))
          obtain ⟨T5, ft5, hM16, _, _⟩ := ((HM14.out.next (Below.refl _ w14).drew).next hb).disked hds
          have HM16 := Lib.hid hM16
          clear hds hb hM16
          go_wp2
          go_ret2
          obtain ⟨rfl, rfl, rfl, rfl⟩ := HN2.out
          exact ⟨rfl, HM16.out.step⟩
      · have hcb : ((e1 : Int) != 0) = true := by rw [bne_iff_ne]; omega
        have HN2 := Lib.hid (show fs' = f1 ∧ s' = s ∧ k = 0 ∧ c = e1 by
          have := HN1.out
          rw [if_pos he] at this
          simp only [Prod.mk.injEq] at this
          exact ⟨this.1.1.symm, this.1.2.symm, this.2.1.symm, this.2.2.symm⟩)
        clear HN1
        go_wp2
        go_ret2
        obtain ⟨rfl, rfl, rfl, rfl⟩ := HN2.out
        exact ⟨rfl, HM9.out.step⟩
end Go.Proofs.YtbknlffebcbjfaaGreatDoor
