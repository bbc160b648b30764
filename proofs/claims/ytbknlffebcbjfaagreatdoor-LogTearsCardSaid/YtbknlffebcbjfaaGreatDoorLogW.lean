/-
  The walks of a log's reading functions (layer 11): Last, Epoch, At, Range, Segs, Marks; named; slices.Clone.
-/
import Derived.Test.YtbknlffebcbjfaaGreatDoorLogS
namespace Go.Proofs.YtbknlffebcbjfaaGreatDoor
open Go.RowKit Go.Shelf

theorem Lg.epochOf_nil : Lg.epochOf [] = 0 := rfl
theorem Lg.epochOf_at {es : List Evt.Entry} {e : Evt.Entry} (h : es[es.length - 1]? = some e) : Lg.epochOf es = e.epoch := by
  unfold Lg.epochOf
  rw [Seg.endOf_last, List.getLast?_eq_getElem?, h]
variable {a w w' : World} {lg d : Nat} {room : Int} {s : Lg.S} {fs : List Dk.File} {T X ft : Nat → Prop} {pv ev : Value} {ps : List EnX}

theorem logLast_any (h : Lay a lg d room s fs T X ft pv ev ps w) : Calls Tryz.prog 33 #[.pointer (some ⟨lg, 0, none⟩)] w fun e w' => e = .returned (.int .i64 (s.es.length : Int)) ∧ w = w' := by
  obtain ⟨va, vc, rfl⟩ := cells_slice (cells_of_owns h.ents)
  obtain ⟨k0, k1, k2, k3⟩ := h.cells
  rw [h.len] at k3
  clear h
  go_enter Tryz.func33, Tryz.ntmps33
  go_wp2
  go_ret
  exact ⟨rfl, rfl⟩

set_option maxHeartbeats 1000000 in
theorem logEpoch_q (h : Lay a lg d room s fs T X ft pv ev ps w) (hn : ps.length ≤ 1000000) : Calls Tryz.prog 81 #[.pointer (some ⟨lg, 0, none⟩)] w fun e w' => e = .returned (.int .i64 (Lg.epochOf s.es)) ∧ ∃ m, w' = w.drewN m := by
  obtain ⟨va, vc, rfl⟩ := cells_slice (cells_of_owns h.ents)
  obtain ⟨k0, k1, k2, k3⟩ := h.cells
  by_cases h0 : ps.length = 0
  · have HN := Lib.hid (show Lg.epochOf s.es = 0 by rw [← h.plain, List.eq_nil_of_length_eq_zero h0]; rfl)
    rw [h0] at k3
    clear h h0 hn
    go_enter Tryz.func81, Tryz.ntmps81
    go_wp2
    go_ret
    exact ⟨by rw [HN.out]; rfl, 0, rfl⟩
  · obtain ⟨b, o, c, p, ep, S, ex, se, sq, sa, sl, sc, es, hv, q0, q1, q2, q3, q4, q5, q6, _, _, _, _, hpe, _⟩ := enAt h.entsE (ps.length - 1) (by omega)
    cases hv
    have HN := Lib.hid (show Lg.epochOf s.es = ep by
      have e1 : s.es[s.es.length - 1]? = some ⟨p, ep, ⟨S.data.toList, ex, se, sq, es⟩⟩ := by
        rw [← h.plain, ← hpe.out]
        simp only [plainE, List.length_map, List.getElem?_map]
        rw [List.getElem?_eq_getElem (by omega)]; rfl
      rw [Lg.epochOf_at e1])
    obtain ⟨n, hn'⟩ : ∃ n, ps.length - 1 = n := ⟨_, rfl⟩
    have hpn : ps.length = n + 1 := by omega
    rw [hn'] at q1
    rw [hpn] at k3
    have hz : (((n + 1 : Nat) : Int) == 0) = false := by rw [beq_eq_false_iff_ne]; omega
    have hw1 : IntKind.i64.wrap (((n + 1 : Nat) : Int) - 1) = (n : Int) := by rw [IntKind.wrap_i64]; omega
    have hw2 : ((n : Int)).toNat = n := by omega
    have hlt : (n : Int) < ((n + 1 : Nat) : Int) := by omega
    clear h hpe q0 q2 q3 q4 q5 q6
    go_enter Tryz.func81, Tryz.ntmps81
    go_wp2
    go_quiet (fail)
    go_wp2
    go_ret
    exact ⟨by rw [HN.out]; rfl, _, rfl⟩

theorem logEpoch_any (h : Lay a lg d room s fs T X ft pv ev ps w) (hn : ps.length ≤ 1000000) : Calls Tryz.prog 81 #[.pointer (some ⟨lg, 0, none⟩)] w fun e w' => e = .returned (.int .i64 (Lg.epochOf s.es)) ∧ Below w.heap.size w w' :=
  (logEpoch_q h hn).mono fun _ _ ⟨h1, m, h2⟩ => ⟨h1, by rw [h2]; exact below_drewN (Below.refl _ _) _⟩
theorem logLast_q (h : Lay a lg d room s fs T X ft pv ev ps w) : Calls Tryz.prog 33 #[.pointer (some ⟨lg, 0, none⟩)] w fun e w' => e = .returned (.int .i64 (s.es.length : Int)) ∧ w' = w :=
  (logLast_any h).mono fun _ _ ⟨h1, h2⟩ => ⟨h1, h2.symm⟩

/-! slices.Clone of a row: a row of the call's own. -/
theorem partT : ElemT Tryz.prog 121 130 2 := by
  have h : (Tryz.prog.info? 130).map (fun i => (i.zero, i.size, i.bytes)) = some (some (.agg #[.int .i64 0, .int .i64 0]), 2, 16) := by kernel_rfl
  obtain ⟨i0, hi, hz0, hz1, hz2⟩ := info_parts h
  exact ⟨Tryz.underlying121, ⟨i0, _, 16, hi, hz0, hz1, hz2, rfl, by omega⟩, by omega⟩
theorem partCells_one (ps : List (Int × Int)) : ∀ u ∈ partCells ps, u.oneCell' = true := by
  intro u hu
  simp only [partCells, List.mem_flatMap] at hu
  obtain ⟨p, _, hu⟩ := hu
  simp only [List.mem_cons, List.not_mem_nil, or_false] at hu
  rcases hu with rfl | rfl <;> rfl
set_option maxHeartbeats 1000000 in
set_option maxRecDepth 100000 in
theorem cloneP_any (v : Value) (n : Nat) (xs : List Value) (w : World) (h : Cells w v 2 n xs) (h1 : ∀ u ∈ xs, u.oneCell' = true) (hn : n ≤ 1000000) (hz : n = 0 → v = .slice none 0 0 ∨ ∃ b o c, v = .slice (some ⟨b, o, none⟩) 0 c) :
    Calls Tryz.prog 87 #[v] w fun e w' => ∃ v', e = .returned v' ∧ Hid (w'.ownsRow w.heap.size 130 2 v' n xs) ∧ Below w.heap.size w w' := by
  have hcase : (n = 0 ∧ v = .slice none 0 0) ∨ ∃ b o c, v = .slice (some ⟨b, o, none⟩) n c := by
    rcases cellsNil h with ⟨h0, _⟩ | h2
    · rcases hz h0 with h3 | ⟨b, o, c, h3⟩
      · exact .inl ⟨h0, h3⟩
      · exact .inr ⟨b, o, c, by rw [h0]; exact h3⟩
    · exact .inr h2
  have hq : ∀ (w : World) (a : Option Addr) (n c n' c' : Nat), (binOp .eql 121 (.slice a n c) (.slice none n' c')).run Tryz.prog w = .ok (.bool a.isNone) w := fun w a n c n' c' => Lib.run_eql_slice_nil w _ _ a n c n' c' Tryz.underlying121
  rcases hcase with ⟨h0, rfl⟩ | ⟨b, o, c, rfl⟩
  · have hx : xs = [] := List.eq_nil_of_length_eq_zero (by have := h.1; omega)
    subst h0 hx
    clear h h1 hz
    go_enter Tryz.func87, Tryz.ntmps87
    go_wp2
    go_ret
    exact ⟨_, rfl, Lib.hid (World.ownsRow_nil _ _ _ _), Below.refl _ _⟩
  · have HX := Lib.hid (h.next ((Below.refl _ w).alloc (Nat.le_refl _) (.cells #[] 130)))
    clear h hz
    go_enter Tryz.func87, Tryz.ntmps87
    go_wp2_with (at_builtin; refine wpList_append_row rfl _ _ rfl partT w.heap.size _ 0 [] rfl (owns_fresh w w.heap.size 130 2 (Nat.le_refl _)) _ n xs rfl HX.out h1 ?c3 ?c2 ?_)
    case c3 => omega
    case c2 => simp
    intro v' w2 hown hg _
    have HO := Lib.hid (show w2.ownsRow w.heap.size 130 2 v' n xs by simpa using hown)
    have HB := Lib.hid (((Below.refl _ w).alloc (Nat.le_refl _) (.cells #[] 130)).grown hg (by simp) (fun k hk => by cases hk; exact Nat.le_refl _))
    clear hown hg
    go_wp2
    go_ret
    exact ⟨_, rfl, HO, HB.out⟩
set_option maxHeartbeats 1000000 in
set_option maxRecDepth 100000 in
theorem cloneE_any (v : Value) (n : Nat) (xs : List Value) (w : World) (h : Cells w v 7 n xs) (h1 : ∀ u ∈ xs, u.oneCell' = true) (hn : n ≤ 1000000) (hz : n = 0 → v = .slice none 0 0 ∨ ∃ b o c, v = .slice (some ⟨b, o, none⟩) 0 c) :
    Calls Tryz.prog 83 #[v] w fun e w' => ∃ v', e = .returned v' ∧ Hid (w'.ownsRow w.heap.size 58 7 v' n xs) ∧ Below w.heap.size w w' := by
  have hcase : (n = 0 ∧ v = .slice none 0 0) ∨ ∃ b o c, v = .slice (some ⟨b, o, none⟩) n c := by
    rcases cellsNil h with ⟨h0, _⟩ | h2
    · rcases hz h0 with h3 | ⟨b, o, c, h3⟩
      · exact .inl ⟨h0, h3⟩
      · exact .inr ⟨b, o, c, by rw [h0]; exact h3⟩
    · exact .inr h2
  have hq : ∀ (w : World) (a : Option Addr) (n c n' c' : Nat), (binOp .eql 33 (.slice a n c) (.slice none n' c')).run Tryz.prog w = .ok (.bool a.isNone) w := fun w a n c n' c' => Lib.run_eql_slice_nil w _ _ a n c n' c' Tryz.underlying33
  rcases hcase with ⟨h0, rfl⟩ | ⟨b, o, c, rfl⟩
  · have hx : xs = [] := List.eq_nil_of_length_eq_zero (by have := h.1; omega)
    subst h0 hx
    clear h h1 hz
    go_enter Tryz.func83, Tryz.ntmps83
    go_wp2
    go_ret
    exact ⟨_, rfl, Lib.hid (World.ownsRow_nil _ _ _ _), Below.refl _ _⟩
  · have HX := Lib.hid (h.next ((Below.refl _ w).alloc (Nat.le_refl _) (.cells #[] 58)))
    clear h hz
    go_enter Tryz.func83, Tryz.ntmps83
    go_wp2_with (at_builtin; refine wpList_append_row rfl _ _ rfl enT w.heap.size _ 0 [] rfl (owns_fresh w w.heap.size 58 7 (Nat.le_refl _)) _ n xs rfl HX.out h1 ?c3 ?c2 ?_)
    case c3 => omega
    case c2 => simp
    intro v' w2 hown hg _
    have HO := Lib.hid (show w2.ownsRow w.heap.size 58 7 v' n xs by simpa using hown)
    have HB := Lib.hid (((Below.refl _ w).alloc (Nat.le_refl _) (.cells #[] 58)).grown hg (by simp) (fun k hk => by cases hk; exact Nat.le_refl _))
    clear hown hg
    go_wp2
    go_ret
    exact ⟨_, rfl, HO, HB.out⟩

/-! named: the manifest of parts. -/
theorem partCells_at : ∀ (ms : List (Int × Int)) (i : Nat) (hi : i < ms.length), (partCells ms)[i * 2]? = some (.int .i64 ms[i].1) ∧ (partCells ms)[i * 2 + 1]? = some (.int .i64 ms[i].2)
  | m :: ms, 0, _ => ⟨rfl, rfl⟩
  | m :: ms, i + 1, hi => by
    have := partCells_at ms i (by simpa using hi)
    have e : ∀ k, (partCells (m :: ms))[(i + 1) * 2 + k]? = (partCells ms)[i * 2 + k]? := fun k => by
      rw [show partCells (m :: ms) = .int .i64 m.1 :: .int .i64 m.2 :: partCells ms from rfl, show (i + 1) * 2 + k = (i * 2 + k) + 1 + 1 by omega]
      simp only [List.getElem?_cons_succ]
    have e0 := e 0
    simp only [Nat.add_zero] at e0
    simp only [e, e0, List.getElem_cons_succ]
    exact this
theorem partAt {w : World} {v : Value} {ms : List (Int × Int)} (h : Cells w v 2 ms.length (partCells ms)) (i : Nat) (hi : i < ms.length) {x y : Int} (hx : ms[i] = (x, y)) :
    ∃ b o c, v = .slice (some ⟨b, o, none⟩) ms.length c ∧ w.cell? ⟨b, o + i * 2, none⟩ = some (.int .i64 x) ∧ w.cell? ⟨b, o + i * 2 + 1, none⟩ = some (.int .i64 y) := by
  rcases h.2 with ⟨h0, _⟩ | ⟨b, o, c, h1, h2⟩
  · omega
  · have := partCells_at ms i hi
    rw [hx] at this
    exact ⟨b, o, c, h1, h2 _ _ this.1, h2 _ _ this.2⟩
set_option maxHeartbeats 4000000 in
set_option maxRecDepth 100000 in
theorem named_log (next : Int) (v : Value) (ps : List (Int × Int)) (w : World) (hc : Cells w v 2 ps.length (partCells ps)) (hn : ps.length ≤ 100000) :
    Calls Tryz.prog 77 #[.int .i64 next, v] w fun e w' => ∃ V, e = .returned (.agg #[.int .i64 next, V]) ∧ Hid (w'.ownsRow w.heap.size 3 1 V (ps.map (·.1)).length (intCells (ps.map (·.1)))) ∧ Below w.heap.size w w' := by
  obtain ⟨va, vc, rfl⟩ := cells_slice hc
  have r0 : ManAt w.heap.size 0 (.slice none 0 0) (w.alloc (.cells #[.int .i64 0, .slice none 0 0] 118)) := heap_alloc_new w _
  have b0 : Below w.heap.size w (w.alloc (.cells #[.int .i64 0, .slice none 0 0] 118)) := (Below.refl _ _).alloc (Nat.le_refl _) _
  have b1 := b0.alloc b0.size (.cells #[.int .i64 next, .slice none 0 0] 118)
  have r1 := r0.next ((Below.refl _ _).alloc (Nat.le_refl _) (.cells #[.int .i64 next, .slice none 0 0] 118))
  have m1 : ManAt (w.heap.size + 1) next (.slice none 0 0) ((w.alloc (.cells #[.int .i64 0, .slice none 0 0] 118)).alloc (.cells #[.int .i64 next, .slice none 0 0] 118)) := by
    have := heap_alloc_new (w.alloc (.cells #[.int .i64 0, .slice none 0 0] 118)) (.cells #[.int .i64 next, .slice none 0 0] 118)
    rwa [World.size_alloc] at this
  obtain ⟨W, hW⟩ : ∃ W, W = (w.alloc (.cells #[.int .i64 0, .slice none 0 0] 118)).alloc (.cells #[.int .i64 next, .slice none 0 0] 118) := ⟨_, rfl⟩
  rw [← hW] at b1 r1 m1
  have HW := Lib.hid hW
  have HI := Lib.hid (And.intro m1 (And.intro r1 b1))
  have HC := Lib.hid hc
  clear hc r0 b0 b1 r1 m1 hW
  go_enter Tryz.func77, Tryz.ntmps77
  go_wp2
  rw [← HW.out]
  go_loopw [12] (fun lv wr => ∃ (i : Nat) (V : Value), lv = .int .i64 i ∧ i ≤ ps.length ∧ ManAt (w.heap.size + 1) next V wr ∧ ManAt w.heap.size 0 (.slice none 0 0) wr ∧ Hid (wr.ownsRow w.heap.size 3 1 V i (intCells ((ps.map (·.1)).take i))) ∧ Below w.heap.size w wr) (fun lv _ => ps.length - (intOf lv).toNat)
  case atStart => exact ⟨0, _, rfl, by omega, HI.out.1, HI.out.2.1, Lib.hid (World.ownsRow_nil _ _ _ _), HI.out.2.2⟩
  case round =>
    obtain ⟨i, V, rfl, hi, hm, hr, HO, hbw⟩ := hrel
    obtain ⟨Va, Vc, rfl⟩ := cells_slice (cells_of_owns HO.out)
    have HM := Lib.hid hm
    have HR := Lib.hid hr
    have HB := Lib.hid hbw
    by_cases hp : i < ps.length
    · obtain ⟨⟨x, y⟩, hx⟩ : ∃ x, ps[i] = x := ⟨_, rfl⟩
      obtain ⟨b, o, c, hv, k0, k1⟩ := partAt HC.out i hp hx
      cases hv
      have k0 := cell_kept hbw (Nat.le_refl _) k0
      have k1 := cell_kept hbw (Nat.le_refl _) k1
      have ba : Below wr.heap.size wr (wr.alloc (.cells #[.int .i64 x, .int .i64 y] 130)) := (Below.refl _ _).alloc (Nat.le_refl _) _
      have bb := ba.alloc ba.size (.cells #[.int .i64 x] 3)
      have hma := hm.next ba
      obtain ⟨c0, c1, f0, f1⟩ := hma.cells
      have HMb := Lib.hid (hm.next bb)
      have HRb := Lib.hid (hr.next bb)
      have HOb := Lib.hid (owns_next HO.out bb)
      have HBb := Lib.hid (Below.up hbw (Nat.le_refl _) bb)
      have hxc := cells_new1 (wr.alloc (.cells #[.int .i64 x, .int .i64 y] 130)) 3 (.int .i64 x)
      rw [World.size_alloc] at hxc
      have HT := Lib.hid (show intCells ((ps.map (·.1)).take i) ++ [.int .i64 x] = intCells ((ps.map (·.1)).take (i + 1)) by
        rw [List.take_succ_eq_append_getElem (by simpa using hp)]; simp [intCells, hx])
      clear hm hr hbw ba bb hma hx HM HR HB HO
      go_wp2_with (at_builtin; refine wpList_append_row rfl _ _ rfl intT w.heap.size (.slice Va i Vc) i _ rfl HOb.out _ 1 [.int .i64 x] rfl hxc (by simp [Value.oneCell']) ?c3 ?c2 ?_)
      case c3 => omega
      case c2 => exact (by have := HBb.out.size; simpa using this)
      intro v' w2 hown hg _
      obtain ⟨va', vc', rfl⟩ := cells_slice (cells_of_owns hown)
      have hm2 := HMb.out.kept hg (own_ne HOb.out HMb.out (by decide)).symm
      have HM3 := Lib.hid (show ManAt (w.heap.size + 1) next (.slice va' (i + 1) vc') (w2.setCell ⟨w.heap.size + 1, 1, none⟩ (.slice va' (i + 1) vc')) from setCell_at (i := 1) hm2 (.slice va' (i + 1) vc'))
      have HR3 := Lib.hid ((HRb.out.kept hg (own_ne HOb.out HRb.out (by decide)).symm).kept (grown_set w2 (w.heap.size + 1) 1 (.slice va' (i + 1) vc')) (by simp))
      have HO3 := Lib.hid (show (w2.setCell ⟨w.heap.size + 1, 1, none⟩ (.slice va' (i + 1) vc')).ownsRow w.heap.size 3 1 (.slice va' (i + 1) vc') (i + 1) (intCells ((ps.map (·.1)).take (i + 1))) by
        rw [← HT.out]; exact own_kept hown hm2 (by decide) (grown_set w2 (w.heap.size + 1) 1 (.slice va' (i + 1) vc')))
      have HB3 := Lib.hid (grown_below (HBb.out.grown hg HBb.out.size (fun k hk => (HOb.out.lt k hk).1)) (by have := HBb.out.size; have := hg.size; omega) (by omega) (grown_set w2 (w.heap.size + 1) 1 (.slice va' (i + 1) vc')))
      obtain ⟨d0, d1, g0, g1⟩ := hm2.cells
      clear hown hg hm2 c0 c1 f0 f1
      go_wp2
      exact ⟨⟨i + 1, _, by go_num, by omega, HM3.out, HR3.out, HO3, HB3.out⟩, by simp [intOf]; omega⟩
    · obtain rfl : i = ps.length := by omega
      obtain ⟨c0, c1, f0, f1⟩ := hm.cells
      obtain ⟨e0, e1, g0, g1⟩ := hr.cells
      have hp2 := setCell_at (i := 1) (setCell_at (i := 0) hr (.int .i64 next)) (.slice Va ps.length Vc)
      have HP := Lib.hid (show ((wr.setCell ⟨w.heap.size, 0, none⟩ (.int .i64 next)).setCell ⟨w.heap.size, 1, none⟩ (.slice Va ps.length Vc)).heap[w.heap.size]? = some (.cells #[.int .i64 next, (.slice Va ps.length Vc)] 118 (0, 0)) from hp2)
      have hg2 := grown_trans (grown_set wr w.heap.size 0 (.int .i64 next)) (grown_set _ w.heap.size 1 (.slice Va ps.length Vc))
      have HO2 := Lib.hid (own_kept HO.out hr (by decide) hg2)
      have HB2 := Lib.hid (grown_below hbw (by have := hbw.size; exact this) (Nat.le_refl _) hg2)
      clear hm hr hbw hp2 hg2 HM HR HB
      go_wp2
      refine bodyPost_ret (results_cell_row rfl _ _ w.heap.size _ _ _ _ rfl HP.out Tryz.underlying118 rfl man_size) rfl ?_
      exact ⟨_, rfl, Lib.hid (by have h9 := HO2.out; rw [List.take_of_length_le (by simp)] at h9; simpa using h9), HB2.out⟩
end Go.Proofs.YtbknlffebcbjfaaGreatDoor
