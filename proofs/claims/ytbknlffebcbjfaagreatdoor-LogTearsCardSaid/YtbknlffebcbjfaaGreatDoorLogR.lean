/-
  The walk of a log's read (layer 11): a segment that goes on is taken in.
-/
import Derived.Test.YtbknlffebcbjfaaGreatDoorLogP
import Derived.Test.YtbknlffebcbjfaaGreatDoorLogW
namespace Go.Proofs.YtbknlffebcbjfaaGreatDoor
open Go.RowKit Go.Shelf

theorem Lg.readF_inv {room n : Int} {s s' : Lg.S} {fs fs' : List Dk.File} (h : Lg.readF room n s fs = ((fs', s'), true, 0)) :
    (Seg.loadD n fs).2 = 0 ∧ Lg.goesOn (Seg.loadD n fs).1 s.es = true ∧ s' = s.more n (Seg.loadD n fs).1 ∧
      ((Seg.loadD n fs).1.torn = true ∧ Seg.cutD room n ((Seg.loadD n fs).1.first + (Seg.loadD n fs).1.entries.length - 1) fs = (fs', 0) ∨ (Seg.loadD n fs).1.torn = false ∧ fs' = fs) := by
  unfold Lg.readF at h
  split at h
  · rename_i hc
    refine ⟨hc.1, hc.2, ?_⟩
    split at h
    · rename_i ht
      split at h
      · rename_i h0
        simp only [Prod.mk.injEq, and_true] at h
        exact ⟨h.2.symm, .inl ⟨ht, Prod.ext h.1 h0⟩⟩
      · simp at h
    · rename_i ht
      simp only [Prod.mk.injEq, and_true] at h
      exact ⟨h.2.symm, .inr ⟨by simpa using ht, h.1.symm⟩⟩
  · simp at h
theorem Lg.goesOn_inv {g : Seg.Seg} {es : List Evt.Entry} (h : Lg.goesOn g es = true) : g.first = (es.length : Int) + 1 ∧ ∀ e l, g.entries = e :: l → Lg.epochOf es ≤ e.epoch := by
  unfold Lg.goesOn at h
  rw [Bool.and_eq_true, decide_eq_true_eq] at h
  refine ⟨h.1, fun e l he => ?_⟩
  have := h.2
  rw [he] at this
  simpa using this
theorem NewEnts.out {base : Nat} {w : World} {v : Value} {qs : List EnX} {X : Nat → Prop} (h : NewEnts base w v qs) (hX : ∀ j, base ≤ j → j < w.heap.size → ¬ X j) : ∀ p ∈ qs, Evs w p.2 p.1.b.events ∧ Fine p.1 ∧ OutE X p := fun p hp =>
  ⟨cells_of_owns (h.2 p hp).1, (h.2 p hp).2.1, fun b hb _ hx => by
    have := (h.2 p hp).1.lt b hb
    exact hX b this.1 this.2 hx⟩
theorem cells_newN (w : World) (c : List Value) (e : TypeId) : Cells (w.alloc (.cells c.toArray e)) (.slice (some ⟨w.heap.size, 0, none⟩) 1 1) c.length 1 c := by
  refine ⟨by simp, .inr ⟨w.heap.size, 0, 1, rfl, fun j u hj => ?_⟩⟩
  rw [Lib.cell_of_heap (heap_alloc_new w _)]
  simpa using hj
variable {a w w' : World} {lg d : Nat} {room : Int} {s s' : Lg.S} {fs fs' : List Dk.File} {T X ft : Nat → Prop} {pv ev : Value} {ps qs : List EnX}
/-- A segment was read, and what was torn is cut. -/
def ReadMid (a : World) (lg d : Nat) (room : Int) (s : Lg.S) (fs' : List Dk.File) (T X : Nat → Prop) (pv ev : Value) (ps : List EnX) (w : World) (G : Nat) (first : Int) (v : Value) (torn : Bool) (qs : List EnX) (wx : World) : Prop :=
  ∃ T2 ft2, Lay a lg d room s fs' T2 (fun j => X j ∨ T2 j) ft2 pv ev ps wx ∧ (∀ j, T j → T2 j) ∧ (∀ j, T2 j → T j ∨ w.heap.size ≤ j) ∧ Turn T w wx ∧ SB G first v torn wx ∧
    (∀ p ∈ qs, Evs wx p.2 p.1.b.events ∧ Fine p.1 ∧ OutE (fun j => X j ∨ T2 j) p) ∧ Cells wx v 7 qs.length (enCells qs) ∧ ¬ T2 G ∧ ∀ b, v.ownBlock = some b → ¬ T2 b
theorem ReadMid.whole {W : World} {G : Nat} {first : Int} {v : Value} {torn : Bool} (h : Lay a lg d room s fs T X ft pv ev ps w) (hb : Below w.heap.size w W) (hn : NewEnts w.heap.size W v qs) (hs : SB G first v torn W) (hG : w.heap.size ≤ G) : ReadMid a lg d room s fs T X pv ev ps w G first v torn qs W :=
  ⟨T, ft, (h.next hb).wide (fun j hj => by rcases hj with hj | hj; exact hj; exact h.subX j hj) (fun j hj => .inr hj), fun _ h => h, fun _ h => .inl h, Turn.of_below hb, hs,
    hn.out (fun j h1 _ hx => by rcases hx with hx | hx; have := h.lt j hx; omega; have := h.lt j (h.subX j hx); omega), cells_of_owns hn.1,
    fun hx => by have := h.lt _ (h.subX _ hx); omega, fun b hb' hx => by have := h.lt _ (h.subX _ hx); have := (hn.1.lt b hb').1; omega⟩
theorem ReadMid.cut {W w2 : World} {G : Nat} {first : Int} {v : Value} {torn : Bool} (h : Lay a lg d room s fs T X ft pv ev ps w) (hb : Below w.heap.size w W) (hn : NewEnts w.heap.size W v qs) (hs : SB G first v torn W) (hG : w.heap.size ≤ G) (hd : DStep d room fs' ft W w2) : ReadMid a lg d room s fs' T X pv ev ps w G first v torn qs w2 := by
  obtain ⟨T2, ft2, q1, q2, q3, q4, _⟩ := (h.next hb).disked hd
  obtain ⟨g, g1, g2, g3, g4⟩ := hd.open
  have hftl : ∀ j, ft j → j < w.heap.size := fun j hj => h.lt j (h.subX j (h.sub j hj))
  have hn2 := hn.turn hftl g4
  have hbs := hb.size
  refine ⟨T2, ft2, q1, q2, fun j hj => ?_, (Turn.of_below hb).trans q4 (fun j hj => .inl hj), hs.turn (fun hf => by have := hftl _ hf; omega) g4, ?_, cells_of_owns hn2.1, fun hx => ?_, fun b hb' hx => ?_⟩
  · rcases q3 j hj with h | h
    · exact .inl h
    · exact .inr (Nat.le_trans hbs h)
  · intro p hp
    refine ⟨cells_of_owns (hn2.2 p hp).1, (hn2.2 p hp).2.1, fun b hb' hne hx => ?_⟩
    have hlt := (hn.2 p hp).1.lt b hb'
    rcases hx with hx | hx
    · have := h.lt b hx; omega
    · rcases q3 b hx with hx | hx
      · have := h.lt b (h.subX b hx); omega
      · omega
  · have hlt := (Array.getElem?_eq_some_iff.1 hs).1
    rcases q3 _ hx with hx | hx
    · have := h.lt _ (h.subX _ hx); omega
    · omega
  · have hlt := hn.1.lt b hb'
    rcases q3 b hx with hx | hx
    · have := h.lt b (h.subX b hx); omega
    · omega
theorem turn_cell {f : Nat → Prop} {w w' : World} {b i : Nat} {v : Value} (h : Turn f w w') (hf : ¬ f b) (hc : w.cell? ⟨b, i, none⟩ = some v) : w'.cell? ⟨b, i, none⟩ = some v := by
  rw [World.cell?_of_block (w := w) (w' := w') (h.block b (World.block_lt_of_cell? _ _ hc) hf)]
  exact hc
theorem cells_turn {f : Nat → Prop} {w w' : World} {v : Value} {sz n : Nat} {xs : List Value} (h : Cells w v sz n xs) (hf : ∀ b, v.ownBlock = some b → ¬ f b) (ht : Turn f w w') : Cells w' v sz n xs := by
  refine ⟨h.1, ?_⟩
  rcases h.2 with h | ⟨b, o, c, e, h2⟩
  · exact .inl h
  · exact .inr ⟨b, o, c, e, fun j u hj => turn_cell ht (hf b (by rw [e]; rfl)) (h2 j u hj)⟩
theorem enCells_out {w : World} {qs : List EnX} {X : Nat → Prop} (h : ∀ p ∈ qs, Evs w p.2 p.1.b.events ∧ Fine p.1 ∧ OutE X p) : ∀ u ∈ enCells qs, u.oneCell' = true := enCells_one qs fun p hp => by
  obtain ⟨va, vc, e⟩ := cells_slice (h p hp).1
  exact ⟨_, _, _, e⟩
theorem outs_step {w w' : World} {qs : List EnX} {X X' T : Nat → Prop} (h : ∀ p ∈ qs, Evs w p.2 p.1.b.events ∧ Fine p.1 ∧ OutE X p) (ht : Turn T w w') (hT : ∀ j, T j → X j) (hX : ∀ j, X' j → X j ∨ w.heap.size ≤ j) : ∀ p ∈ qs, Evs w' p.2 p.1.b.events ∧ Fine p.1 ∧ OutE X' p := fun p hp =>
  ⟨evs_turn (h p hp).1 (fun b hb hne hx => (h p hp).2.2 b hb hne (hT b hx)) ht, (h p hp).2.1, (h p hp).2.2.step (h p hp).1 hX⟩
set_option maxHeartbeats 8000000 in
set_option maxRecDepth 100000 in
theorem logRead_any {n : Int} (h : Lay a lg d room s fs T X ft pv ev ps w) (hroom : room ≤ 1048576) (hn : s.parts.length ≤ 1000) (hps : ps.length ≤ 500000) (hr : Lg.readF room n s fs = ((fs', s'), true, 0)) :
    Calls Tryz.prog 75 #[.pointer (some ⟨lg, 0, none⟩), .int .i64 n] w fun e w' => e = .returned (.tuple #[.bool true, .int .i64 0]) ∧ LStep a lg d room s' fs' T X w w' := by
  obtain ⟨r1, r2, r3, r4⟩ := Lg.readF_inv hr
  have hle := loadD_le n fs (read_room h.disk hroom (Seg.nameOf n))
  have HL := Lib.hid (segLoad_any a d room n fs ft w h.baseD h.disk hroom)
  have HLay := Lib.hid h
  have hlen : s.es.length ≤ ps.length := Nat.le_of_eq h.len.symm
  obtain ⟨k0, k1, k2, k3⟩ := h.cells
  clear h hr
  go_enter Tryz.func75, Tryz.ntmps75
  go_wp2_with fail
  refine HL.out.mono ?_
  rintro e w1 ⟨first, v, qs, torn, c, rfl, hLD, hNE, b1⟩
  rw [hLD.out] at r1 r2 r3 r4 hle
  simp only at r1 r4 hle
  subst r1
  obtain ⟨g1, g2⟩ := Lg.goesOn_inv r2
  simp only at g1 g2
  subst g1
  have hql : qs.length ≤ 200000 := by have := hle.2.2; simpa [plainE] using this
  obtain ⟨va, vc, rfl⟩ := cells_slice (cells_of_owns hNE.out.1)
  have sb : SB w1.heap.size ((s.es.length : Int) + 1) (.slice va qs.length vc) torn (w1.alloc (.cells #[.int .i64 ((s.es.length : Int) + 1), .slice va qs.length vc, .bool torn] 38)) := heap_alloc_new w1 _
  have ba : Below w1.heap.size w1 (w1.alloc (.cells #[.int .i64 ((s.es.length : Int) + 1), .slice va qs.length vc, .bool torn] 38)) := (Below.refl _ _).alloc (Nat.le_refl _) _
  obtain ⟨W, hW⟩ : ∃ W, W = w1.alloc (.cells #[.int .i64 ((s.es.length : Int) + 1), .slice va qs.length vc, .bool torn] 38) := ⟨_, rfl⟩
  rw [← hW] at sb ba
  have hb2 : Below w.heap.size w W := Below.up b1 (Nat.le_refl _) ba
  have hNW : NewEnts w.heap.size W (.slice va qs.length vc) qs := ⟨owns_next hNE.out.1 ba, fun p hp => ⟨owns_next (hNE.out.2 p hp).1 ba, (hNE.out.2 p hp).2⟩⟩
  have HW := Lib.hid hW
  have HB2 := Lib.hid hb2
  have HNW := Lib.hid hNW
  have HSB := Lib.hid sb
  have hG : w.heap.size ≤ w1.heap.size := b1.size
  have HR4 := Lib.hid r4
  have HR3 := Lib.hid r3
  have HG2 := Lib.hid g2
  clear HL hLD hNE b1 ba hb2 hNW sb hW r2 r3 r4 g2 k0 k1 k2 k3
  go_upto_region 2 with fail
  rw [← HW.out]
  go_cut [43] (fun v wx => v = .bool false ∧ Below W.heap.size W wx)
  case first =>
    have HLW := Lib.hid (HLay.out.next HB2.out)
    have HLA := Lib.hid (fun n => logLast_q (HLW.out.next (below_drewN (Below.refl _ W) n)))
    have HEP := Lib.hid (fun n => logEpoch_q (HLW.out.next (below_drewN (Below.refl _ W) n)) (by omega))
    obtain ⟨m0, m1, m2⟩ := HSB.out.cells
    have hw1 : IntKind.i64.wrap ((s.es.length : Int) + 1) = (s.es.length : Int) + 1 := by rw [IntKind.wrap_i64]; omega
    by_cases hq0 : qs.length = 0
    · rw [hq0] at m1
      clear hq0
      go_quiet (first | (go_at_call 33; exact Calls.quiet_of_same (HLA.out _)) | (go_at_call 81; exact Calls.quiet_of (HEP.out _)))
      go_wp2
      go_meet
      case rel => exact ⟨rfl, below_drewN (Below.refl _ W) _⟩
    · obtain ⟨b, o, c, p, ep, S, ex, se, sq, sa, sl, sc, es, hv, q0, q1, q2, q3, q4, q5, q6, _, _, _, _, hpe, _⟩ := enAt HNW.out.ents 0 (by omega)
      cases hv
      have hge : Lg.epochOf s.es ≤ ep := by
        have e1 : (plainE qs)[0]? = some ⟨p, ep, ⟨S.data.toList, ex, se, sq, es⟩⟩ := by
          rw [← hpe.out]
          simp only [plainE, List.getElem?_map]
          rw [List.getElem?_eq_getElem (by omega)]; rfl
        cases hc : plainE qs with
        | nil => rw [hc] at e1; cases e1
        | cons x l =>
          have := HG2.out x l hc
          rw [hc] at e1
          simp only [List.getElem?_cons_zero, Option.some.injEq] at e1
          rw [e1] at this; exact this
      have hlt : decide (ep < Lg.epochOf s.es) = false := by rw [decide_eq_false_iff_not]; omega
      have hgt : decide ((0 : Int) < (qs.length : Int)) = true := by rw [decide_eq_true_eq]; omega
      have hgt2 : decide (0 < qs.length) = true := by rw [decide_eq_true_eq]; omega
      have hgt3 : (0 : Int) < (qs.length : Int) := by omega
      have hgt4 : 0 < qs.length := by omega
      clear hpe q0 q2 q3 q4 q5 q6 hge
      go_quiet (first | (go_at_call 33; exact Calls.quiet_of_same (HLA.out _)) | (go_at_call 81; exact Calls.quiet_of (HEP.out _)))
      go_wp2
      go_meet
      case rel => exact ⟨rfl, below_drewN (Below.refl _ W) _⟩
  case rest =>
    obtain ⟨rfl, hbc⟩ := hcut
    have hLc := HLay.out.next (HB2.out.trans (hbc.mono HB2.out.size))
    obtain ⟨m0, m1, m2⟩ := (HSB.out.next hbc).cells
    have HBC := Lib.hid hbc
    clear hbc
    go_upto_if 45 with fail
    go_cut [] (fun wx => ReadMid a lg d room s fs' T X pv ev ps w w1.heap.size ((s.es.length : Int) + 1) (.slice va qs.length vc) torn qs wx)
    case first =>
      cases torn with
      | false =>
        obtain rfl : fs' = fs := by
          rcases HR4.out with h | h
          · cases h.1
          · exact h.2
        go_wp2
        go_meet
        case rel => exact ReadMid.whole HLay.out (HB2.out.trans (HBC.out.mono HB2.out.size)) ⟨owns_next HNW.out.1 HBC.out, fun p hp => ⟨owns_next (HNW.out.2 p hp).1 HBC.out, (HNW.out.2 p hp).2⟩⟩ (HSB.out.next HBC.out) hG
      | true =>
        have hcd : Seg.cutD room n ((s.es.length : Int) + 1 + (qs.length : Int) - 1) fs = (fs', 0) := by
          rcases HR4.out with h | h
          · have := h.2
            simpa [plainE] using this
          · cases h.1
        have hw1 : IntKind.i64.wrap ((s.es.length : Int) + 1 + (qs.length : Int)) = (s.es.length : Int) + 1 + (qs.length : Int) := by rw [IntKind.wrap_i64]; omega
        have hw2 : IntKind.i64.wrap ((s.es.length : Int) + 1 + (qs.length : Int) - 1) = (s.es.length : Int) + 1 + (qs.length : Int) - 1 := by rw [IntKind.wrap_i64]; omega
        have hLd := hLc.next (Below.refl _ wc).drew
        have HCUT := segCut_any a d room n ((s.es.length : Int) + 1 + (qs.length : Int) - 1) fs ft wc.drew hLd.baseD hLd.disk hroom
        rw [hcd] at HCUT
        have HCUT := Lib.hid HCUT
        obtain ⟨k0, _, _, _⟩ := hLc.cells
        have hcc := And.intro k0 (And.intro m0 m1)
        have hG1 : ¬ ft w1.heap.size := fun hf => by have := HLay.out.lt _ (HLay.out.subX _ (HLay.out.sub _ hf)); omega
        have hG2 : ¬ ft lg := HLay.out.tl.2
        clear hcd hLd hLc k0
        go_wp2
        go_region_held3 (fun Z => Z.cell? ⟨lg, 0, none⟩ = some (.pointer (some ⟨d, 0, none⟩)) ∧ Z.cell? ⟨w1.heap.size, 0, none⟩ = some (.int .i64 ((s.es.length : Int) + 1)) ∧ Z.cell? ⟨w1.heap.size, 1, none⟩ = some (.slice va qs.length vc))
          (first | exact hcc | exact ⟨turn_cell hds.choose_spec.2.2 hG2 hcc.1, turn_cell hds.choose_spec.2.2 hG1 hcc.2.1, turn_cell hds.choose_spec.2.2 hG1 hcc.2.2⟩)
          (first | (go_at_call 52; refine HCUT.out.mono ?_; rintro e w' ⟨rfl, hds⟩))
        have HDS := Lib.hid hds
        clear hds HCUT hcc
        go_wp2
        go_meet
        case rel =>
          have hbd : Below W.heap.size W wc.drew := HBC.out.drew
          exact ReadMid.cut HLay.out (HB2.out.trans (hbd.mono HB2.out.size)) ⟨owns_next HNW.out.1 hbd, fun p hp => ⟨owns_next (HNW.out.2 p hp).1 hbd, (HNW.out.2 p hp).2⟩⟩ (HSB.out.next hbd) hG HDS.out
    case rest =>
      obtain ⟨T2, ft2, hL2, mT, nT, tT, hS2, hE2, hC2, hG2, hv2⟩ := hcut
      obtain ⟨pa, pc, rfl⟩ := cells_slice (cells_of_owns hL2.parts)
      have b8 : Below wc.heap.size wc (wc.drew.alloc (.cells #[.int .i64 n, .int .i64 ((s.es.length : Int) + 1)] 130)) := (Below.refl _ wc).drew.alloc (Nat.le_refl _) _
      have HL8 := Lib.hid (hL2.next b8)
      have hx8 := cells_newN wc.drew [.int .i64 n, .int .i64 ((s.es.length : Int) + 1)] 130
      have hE8 := outs_step hE2 (Turn.of_below (ft := fun _ => False) b8) (fun _ h => h.elim) (fun j hj => .inl hj)
      have hC8 := cells_turn hC2 (fun _ _ h => h) (Turn.of_below (ft := fun _ => False) b8)
      have hS8 := hS2.next b8
      have H8 := Lib.hid (And.intro b8 (And.intro hE8 (And.intro hC8 hS8)))
      obtain ⟨c0, c1, c2, c3⟩ := hL2.cells
      obtain ⟨m0, m1, m2⟩ := hS2.cells
      have H2 := Lib.hid (And.intro mT (And.intro nT (And.intro tT (And.intro hG2 hv2))))
      have c2a := (hL2.next ((Below.refl _ wc).alloc (Nat.le_refl _) (.cells #[.int .i64 n, .int .i64 ((s.es.length : Int) + 1)] 130))).cells.2.2.1
      clear b8 hE8 hC8 hS8 hL2 hE2 hC2 hS2 mT nT tT hLc HNW
      go_upto_region 8 with fail
      go_cut [] (fun wx => ∃ v8 T3 ft3, Lay a lg d room ⟨s.next, s.parts ++ [(n, (s.es.length : Int) + 1)], s.es⟩ fs' T3 (fun j => (X j ∨ T2 j) ∨ T3 j) ft3 v8 ev ps wx ∧ (∀ j, T2 j → T3 j) ∧ (∀ j, T3 j → T2 j ∨ (wc.drew.alloc (.cells #[.int .i64 n, .int .i64 ((s.es.length : Int) + 1)] 130)).heap.size ≤ j) ∧ Turn T2 (wc.drew.alloc (.cells #[.int .i64 n, .int .i64 ((s.es.length : Int) + 1)] 130)) wx)
      case first =>
        go_region_law (first
          | (refine step_append_at rfl _ _ rfl partT a.heap.size (.slice pa s.parts.length pc) s.parts.length (partCells s.parts) rfl HL8.out.parts _ 1 [.int .i64 n, .int .i64 ((s.es.length : Int) + 1)] rfl hx8 (by simp [Value.oneCell']) (by omega) HL8.out.base.below.size ?_
             intro v8 wa hown hga hbl
             obtain ⟨va8, vc8, rfl⟩ := cells_slice (cells_of_owns hown)
             have HP := Lib.hid (HL8.out.partsPut hown hga hbl)
             have hlw := HP.out.1.trans HL8.out.log
             have d2 : wa.cell? ⟨lg, 2, none⟩ = some (.slice pa s.parts.length pc) := by rw [Lib.cell_of_heap hlw]; rfl
             have f2 := Lib.frozen_of_heap hlw 2
             clear hown hga hbl hlw))
        all_goals go_wp2
        all_goals go_meet
        all_goals exact ⟨_, HP.out.2⟩
      case rest =>
        obtain ⟨v8, T3, ft3, hL3, m3, n3, t3⟩ := hcut
        have hx9 := cells_turn H8.out.2.2.1 H2.out.2.2.2.2 t3
        have hE9 := outs_step H8.out.2.1 t3 (fun j hj => .inr hj) (X' := fun j => (X j ∨ T2 j) ∨ T3 j) (fun j hj => by
          rcases hj with hj | hj
          · exact .inl hj
          · rcases n3 j hj with h | h
            · exact .inl (.inr h)
            · exact .inr h)
        have hS9 := H8.out.2.2.2.turn H2.out.2.2.2.1 t3
        have b10 : Below wc.heap.size wc wc.drew := (Below.refl _ wc).drew
        have HL10 := Lib.hid (hL3.next b10)
        have hx10 := hx9.next b10
        have hE10 := outs_step hE9 (Turn.of_below (ft := fun _ => False) b10) (fun _ h => h.elim) (X' := fun j => (X j ∨ T2 j) ∨ T3 j) (fun j hj => .inl hj)
        have HE10 := Lib.hid hE10
        have HX10 := Lib.hid hx10
        have H3 := Lib.hid (And.intro m3 (And.intro n3 t3))
        obtain ⟨ea, ec, rfl⟩ := cells_slice (cells_of_owns hL3.ents)
        obtain ⟨c0, c1, c2, c3⟩ := hL3.cells
        obtain ⟨m0, m1, m2⟩ := hS9.cells
        have hoc := enCells_out hE10
        clear hx9 hE9 hS9 b10 hx10 hE10 m3 n3 t3 hL3
        go_wp2
        go_region_law (first
          | (refine step_append_at rfl _ _ rfl enT a.heap.size (.slice ea ps.length ec) ps.length (enCells ps) rfl HL10.out.ents _ qs.length (enCells qs) rfl HX10.out hoc (by omega) HL10.out.base.below.size ?_
             intro v9 wa hown hga hbl
             obtain ⟨va9, vc9, rfl⟩ := cells_slice (cells_of_owns hown)
             have HP := Lib.hid (HL10.out.entsPut HE10.out hown hga hbl)
             have hlw := HP.out.1.trans HL10.out.log
             have d3 : wa.cell? ⟨lg, 3, none⟩ = some (.slice ea ps.length ec) := by rw [Lib.cell_of_heap hlw]; rfl
             have f3 := Lib.frozen_of_heap hlw 3
             clear hown hga hbl hlw))
        all_goals go_wp2
        all_goals go_ret2
        all_goals refine ⟨rfl, ?_⟩
        all_goals rw [HR3.out]
        all_goals exact LStep.trans H2.out.2.2.1 H2.out.1 H2.out.2.1 (LStep.under H8.out.1 (LStep.trans H3.out.2.2 H3.out.1 H3.out.2.1 (LStep.under ((Below.refl _ _).drew) (LStep.of2 HP.out.2))))
end Go.Proofs.YtbknlffebcbjfaaGreatDoor
