/-
  The walks of record.Marks and of a log's Marks (layers 6, 11).
-/
import Derived.Test.YtbknlffebcbjfaaGreatDoorLogZ
import Derived.Test.YtbknlffebcbjfaaGreatDoorLawL
namespace Go.Proofs.YtbknlffebcbjfaaGreatDoor
open Go.RowKit Go.Shelf

namespace Mk
def lastEp (p : Option Int) (l : List Evt.Entry) : Option Int := match l.getLast? with | none => p | some e => some e.epoch
theorem marksF_snoc : ∀ (l : List Evt.Entry) (p : Option Int) (e : Evt.Entry), marksF p (l ++ [e]) = marksF p l ++ (if lastEp p l = some e.epoch then [] else [(e.epoch, e.pos)])
  | [], p, e => by by_cases h : p = some e.epoch <;> simp [marksF, lastEp, h]
  | x :: l, p, e => by
    rw [List.cons_append, marksF, marksF, marksF_snoc l (some x.epoch) e, List.append_assoc]
    have : lastEp (some x.epoch) l = lastEp p (x :: l) := by
      unfold lastEp
      cases l with
      | nil => rfl
      | cons y l =>
        rw [List.getLast?_cons_cons]
        cases h : (y :: l).getLast? with
        | none => simp at h
        | some z => rfl
    rw [this]
theorem marks_first {e : Evt.Entry} : marks [e] = [(e.epoch, e.pos)] := by simp [marks, marksF]
theorem marks_next {l : List Evt.Entry} {x e : Evt.Entry} (h : l.getLast? = some x) : marks (l ++ [e]) = marks l ++ (if x.epoch = e.epoch then [] else [(e.epoch, e.pos)]) := by
  unfold marks
  rw [marksF_snoc, lastEp, h]
  simp
end Mk
theorem markT : ElemT Tryz.prog 64 82 2 := by
  have h : (Tryz.prog.info? 82).map (fun i => (i.zero, i.size, i.bytes)) = some (some (.agg #[.int .i64 0, .int .i64 0]), 2, 16) := by kernel_rfl
  obtain ⟨i0, hi, hz0, hz1, hz2⟩ := info_parts h
  exact ⟨Tryz.underlying64, ⟨i0, _, 16, hi, hz0, hz1, hz2, rfl, by omega⟩, by omega⟩
theorem markCells_append (a b : List (Int × Int)) : markCells (a ++ b) = markCells a ++ markCells b := by simp [markCells]
/-- The marks of the first so many. -/
def Mk.upto (ps : List EnX) (i : Nat) : List (Int × Int) := Mk.marks (plainE (ps.take i))
theorem Mk.upto_zero (ps : List EnX) : Mk.upto ps 0 = [] := rfl
theorem Mk.upto_one {ps : List EnX} (h : 0 < ps.length) {p ep : Int} {b : Evt.Batch} (hx : ps[0].1 = ⟨p, ep, b⟩) : Mk.upto ps 1 = Mk.upto ps 0 ++ [(ep, p)] := by
  unfold Mk.upto
  have : ps.take 1 = [ps[0]] := by
    rw [List.take_succ_eq_append_getElem h, List.take_zero, List.nil_append]
  rw [this, show plainE [ps[0]] = [ps[0].1] from rfl, hx, Mk.marks_first]; rfl
theorem Mk.upto_next {ps : List EnX} {i : Nat} (h : i + 1 < ps.length) {p ep p0 ep0 : Int} {b b0 : Evt.Batch} (hx0 : (ps[i]'(by omega)).1 = ⟨p0, ep0, b0⟩) (hx : (ps[i + 1]'h).1 = ⟨p, ep, b⟩) :
    Mk.upto ps (i + 2) = Mk.upto ps (i + 1) ++ (if ep0 = ep then [] else [(ep, p)]) := by
  unfold Mk.upto
  have e : plainE (ps.take (i + 2)) = plainE (ps.take (i + 1)) ++ [⟨p, ep, b⟩] := by
    rw [List.take_succ_eq_append_getElem h, plainE_cat]
    simp [plainE, hx]
  have hl : (plainE (ps.take (i + 1))).getLast? = some ⟨p0, ep0, b0⟩ := by
    rw [List.take_succ_eq_append_getElem (show i < ps.length by omega), plainE_cat]
    simp [plainE, hx0]
  rw [e, Mk.marks_next hl]
theorem enCells_block {w : World} {c : Array Value} {G : Nat} (h : w.heap[G]? = some (.cells c 58 (0, 0))) (i : Nat) (v : Value) (hv : c[i]? = some v) : w.cell? ⟨G, i, none⟩ = some v := by rw [Lib.cell_of_heap h]; exact hv
set_option maxHeartbeats 8000000 in
set_option maxRecDepth 100000 in
theorem marks6_any (v : Value) (ps : List EnX) (w : World) (hc : Ents w v ps) (hn : ps.length ≤ 1000000) :
    Calls Tryz.prog 84 #[v] w fun e w' => ∃ V, e = .returned V ∧ Hid (w'.ownsRow w.heap.size 82 2 V (Mk.upto ps ps.length).length (markCells (Mk.upto ps ps.length))) ∧ Below w.heap.size w w' := by
  obtain ⟨va, vc, rfl⟩ := cells_slice hc.1
  have HC := Lib.hid hc
  clear hc
  go_enter Tryz.func84, Tryz.ntmps84
  go_wp2
  go_loopw [3, 8] (fun vv lv wr => ∃ (i : Nat) (n : Nat) (xs : List Value), lv = .int .i64 i ∧ i ≤ ps.length ∧ Hid ((Mk.upto ps i).length = n) ∧ Hid (markCells (Mk.upto ps i) = xs) ∧ n ≤ i ∧ Hid (wr.ownsRow w.heap.size 82 2 vv n xs) ∧ Below w.heap.size w wr) (fun _ lv _ => ps.length - (intOf lv).toNat)
  case atStart => exact ⟨0, 0, [], rfl, by omega, Lib.hid rfl, Lib.hid rfl, Nat.le_refl _, Lib.hid (World.ownsRow_nil _ _ _ _), Below.refl _ _⟩
  case round =>
    rename_i vv
    obtain ⟨i, n, xs, rfl, hi, HN, HX, hni, HO, hbw⟩ := hrel
    obtain ⟨Va, Vc, rfl⟩ := cells_slice (cells_of_owns HO.out)
    by_cases hp : i < ps.length
    · obtain ⟨b, o, c, p, ep, S, ex, se, sq, sa, sl, sc, es, hv, q0, q1, q2, q3, q4, q5, q6, _, _, _, _, hpe, _⟩ := enAt HC.out i hp
      cases hv
      have q0 := cell_kept hbw (Nat.le_refl _) q0
      have q1 := cell_kept hbw (Nat.le_refl _) q1
      have q2 := cell_kept hbw (Nat.le_refl _) q2
      have q3 := cell_kept hbw (Nat.le_refl _) q3
      have q4 := cell_kept hbw (Nat.le_refl _) q4
      have q5 := cell_kept hbw (Nat.le_refl _) q5
      have q6 := cell_kept hbw (Nat.le_refl _) q6
      have be : Below wr.heap.size wr (wr.alloc (.cells #[.int .i64 p, .int .i64 ep, .string S, .int .i64 ex, .int .i64 se, .int .i64 sq, .slice sa sl sc] 58)) := (Below.refl _ _).alloc (Nat.le_refl _) _
      obtain ⟨W, hW⟩ : ∃ W, W = wr.alloc (.cells #[.int .i64 p, .int .i64 ep, .string S, .int .i64 ex, .int .i64 se, .int .i64 sq, .slice sa sl sc] 58) := ⟨_, rfl⟩
      have hG : W.heap[wr.heap.size]? = some (.cells #[.int .i64 p, .int .i64 ep, .string S, .int .i64 ex, .int .i64 se, .int .i64 sq, .slice sa sl sc] 58 (0, 0)) := by rw [hW]; exact heap_alloc_new wr _
      rw [← hW] at be
      have g0 := enCells_block hG 0 _ rfl
      have g1 := enCells_block hG 1 _ rfl
      have HW := Lib.hid hW
      have HBW := Lib.hid (Below.up hbw (Nat.le_refl _) be)
      have HO1 := Lib.hid (owns_next HO.out be)
      have hpx := hpe.out
      clear hpe be hW
      rcases Nat.eq_zero_or_pos i with h0 | h0
      · subst h0
        have HU := Lib.hid (Mk.upto_one hp hpx)
        have hz0 : o + 0 * 7 = o := by omega
        rw [hz0] at q0 q1 q2 q3 q4 q5 q6
        clear hpx hbw hz0
        go_upto_region 5 with fail
        rw [← HW.out]
        go_quiet (fail)
        have ba : Below (W.drewN nq).heap.size (W.drewN nq) ((W.drewN nq).alloc (.cells #[.int .i64 ep, .int .i64 p] 82)) := (Below.refl _ _).alloc (Nat.le_refl _) _
        have bw : Below W.heap.size W (W.drewN nq) := below_drewN (Below.refl _ W) nq
        have HO2 := Lib.hid (owns_next (owns_next HO1.out bw) ba)
        have HB2 := Lib.hid (Below.up (Below.up HBW.out (Nat.le_refl _) bw) (Nat.le_refl _) ba)
        have hx := cells_newN (W.drewN nq) [.int .i64 ep, .int .i64 p] 82
        have g0 := cell_kept bw (Nat.le_refl _) g0
        have g1 := cell_kept bw (Nat.le_refl _) g1
        clear ba bw HO1 HBW
        go_wp2_with (at_builtin; refine wpList_append_row rfl _ _ rfl markT w.heap.size (.slice Va n Vc) n xs rfl HO2.out _ 1 [.int .i64 ep, .int .i64 p] rfl hx (by simp [Value.oneCell']) ?c3 ?c2 ?_)
        case c3 => omega
        case c2 => exact HB2.out.size
        intro v' w2 hown hgr _
        have HO3 := Lib.hid hown
        have HB3 := Lib.hid (HB2.out.grown hgr HB2.out.size (fun k hk => (HO2.out.lt k hk).1))
        clear hown hgr hx g0 g1
        go_wp2
        exact ⟨⟨1, n + 1, xs ++ [.int .i64 ep, .int .i64 p], by go_num, by omega, Lib.hid (by rw [HU.out, List.length_append, HN.out]; rfl), Lib.hid (by rw [HU.out, markCells_append, HX.out]; rfl), by omega, HO3, HB3.out⟩, by simp [intOf]; omega⟩
      · obtain ⟨k, rfl⟩ : ∃ k, i = k + 1 := ⟨i - 1, by omega⟩
        obtain ⟨b0, o0, c0, p0, ep0, S0, ex0, se0, sq0, sa0, sl0, sc0, es0, hv0, r0, r1, r2, r3, r4, r5, r6, _, _, _, _, hpe0, _⟩ := enAt HC.out k (by omega)
        cases hv0
        have hnx := Mk.upto_next hp hpe0.out hpx
        have r1 := cell_kept HBW.out (Nat.le_refl _) r1
        have hz : ((k : Int) + 1 == 0) = false := by rw [beq_eq_false_iff_ne]; omega
        have hw1 : IntKind.i64.wrap (k : Int) = (k : Int) := by rw [IntKind.wrap_i64]; omega
        have hw2 : ((k : Int)).toNat = k := by omega
        have hlt : (k : Int) < (ps.length : Int) := by omega
        have hlt2 : k < ps.length := by omega
        clear r0 r2 r3 r4 r5 r6 hpe0 hpx hbw
        by_cases hee : ep0 = ep
        · have HU := Lib.hid (show Mk.upto ps (k + 2) = Mk.upto ps (k + 1) by rw [hnx, if_pos hee, List.append_nil])
          have hne : (ep != ep0) = false := by rw [bne_eq_false_iff_eq]; exact hee.symm
          have hne2 : ¬ ep ≠ ep0 := by simp [hee]
          clear hnx
          go_upto_region 5 with fail
          rw [← HW.out]
          go_quiet (fail)
          have bw : Below W.heap.size W (W.drewN nq) := below_drewN (Below.refl _ W) nq
          have HO2 := Lib.hid (owns_next HO1.out bw)
          have HB2 := Lib.hid (Below.up HBW.out (Nat.le_refl _) bw)
          clear bw hne2
          go_wp2
          exact ⟨⟨k + 2, n, xs, by go_num, by omega, Lib.hid (by rw [HU.out, HN.out]), Lib.hid (by rw [HU.out, HX.out]), by omega, HO2, HB2.out⟩, by simp [intOf]; omega⟩
        · have HU := Lib.hid (show Mk.upto ps (k + 2) = Mk.upto ps (k + 1) ++ [(ep, p)] by rw [hnx, if_neg hee])
          have hne : (ep != ep0) = true := by rw [bne_iff_ne]; exact fun e => hee e.symm
          clear hnx
          go_upto_region 5 with fail
          rw [← HW.out]
          go_quiet (fail)
          have ba : Below (W.drewN nq).heap.size (W.drewN nq) ((W.drewN nq).alloc (.cells #[.int .i64 ep, .int .i64 p] 82)) := (Below.refl _ _).alloc (Nat.le_refl _) _
          have bw : Below W.heap.size W (W.drewN nq) := below_drewN (Below.refl _ W) nq
          have HO2 := Lib.hid (owns_next (owns_next HO1.out bw) ba)
          have HB2 := Lib.hid (Below.up (Below.up HBW.out (Nat.le_refl _) bw) (Nat.le_refl _) ba)
          have hx := cells_newN (W.drewN nq) [.int .i64 ep, .int .i64 p] 82
          have g0 := cell_kept bw (Nat.le_refl _) g0
          have g1 := cell_kept bw (Nat.le_refl _) g1
          clear ba bw HO1 HBW
          go_wp2_with (at_builtin; refine wpList_append_row rfl _ _ rfl markT w.heap.size (.slice Va n Vc) n xs rfl HO2.out _ 1 [.int .i64 ep, .int .i64 p] rfl hx (by simp [Value.oneCell']) ?c3 ?c2 ?_)
          case c3 => omega
          case c2 => exact HB2.out.size
          intro v' w2 hown hgr _
          have HO3 := Lib.hid hown
          have HB3 := Lib.hid (HB2.out.grown hgr HB2.out.size (fun k hk => (HO2.out.lt k hk).1))
          clear hown hgr hx g0 g1
          go_wp2
          exact ⟨⟨k + 2, n + 1, xs ++ [.int .i64 ep, .int .i64 p], by go_num, by omega, Lib.hid (by rw [HU.out, List.length_append, HN.out]; rfl), Lib.hid (by rw [HU.out, markCells_append, HX.out]; rfl), by omega, HO3, HB3.out⟩, by simp [intOf]; omega⟩
    · obtain rfl : i = ps.length := by omega
      have HF := Lib.hid (And.intro HO.out hbw)
      clear hbw
      go_wp2
      go_ret
      exact ⟨_, rfl, Lib.hid (by rw [HN.out, HX.out]; exact HF.out.1), HF.out.2⟩
set_option maxHeartbeats 2000000 in
set_option maxRecDepth 100000 in
theorem logMarks_any {a w : World} {lg d : Nat} {room : Int} {s : Lg.S} {fs : List Dk.File} {T X ft : Nat → Prop} {pv ev : Value} {ps : List EnX} (h : Lay a lg d room s fs T X ft pv ev ps w) (hn : ps.length ≤ 1000000) :
    Calls Tryz.prog 27 #[.pointer (some ⟨lg, 0, none⟩)] w fun e w' => ∃ V, e = .returned V ∧ Hid (w'.ownsRow w.heap.size 82 2 V (Mk.marks s.es).length (markCells (Mk.marks s.es))) ∧ Below w.heap.size w w' := by
  have HE := Lib.hid (show Mk.upto ps ps.length = Mk.marks s.es by unfold Mk.upto; rw [List.take_length, h.plain])
  obtain ⟨k0, k1, k2, k3⟩ := h.cells
  have HM := marks6_any ev ps w h.entsE hn
  rw [HE.out] at HM
  have HM := Lib.hid HM
  clear h k0 k1 k2 HE
  go_enter Tryz.func27, Tryz.ntmps27
  go_wp2_with fail
  refine HM.out.mono ?_
  rintro e w1 ⟨V, rfl, hO, hb⟩
  have HX := Lib.hid (And.intro hO.out hb)
  clear hO hb HM
  go_wp2
  go_ret
  exact ⟨V, rfl, Lib.hid HX.out.1, HX.out.2⟩
theorem marks_ll {R : (Nat → Prop) → World → Prop} {a w : World} {P lg d : Nat} {mv : Value} {room : Int} {s : Lg.S} {fs : List Dk.File} (h : LL R a P d mv room lg s fs w) (hn : s.es.length ≤ 1000000) :
    Calls Tryz.prog 27 #[.pointer (some ⟨lg, 0, none⟩)] w fun e w' => ∃ V, e = .returned V ∧ Hid (w'.ownsRow w.heap.size 82 2 V (Mk.marks s.es).length (markCells (Mk.marks s.es))) ∧ Below w.heap.size w w' := by
  obtain ⟨T, X, ⟨ft, pv, ev, ps, hL⟩, _⟩ := h
  exact logMarks_any hL (by rw [hL.len]; exact hn)
theorem at_ll {R : (Nat → Prop) → World → Prop} {a w : World} {P lg d : Nat} {mv : Value} {room : Int} {s : Lg.S} {fs : List Dk.File} (h : LL R a P d mv room lg s fs w) (hn : s.es.length ≤ 1000000) (i : Nat) (x : Evt.Entry) (hi : s.es[i]? = some x) :
    Calls Tryz.prog 36 #[.pointer (some ⟨lg, 0, none⟩), .int .i64 ((i : Int) + 1)] w fun e w' => ∃ p : EnX, e = .returned (.tuple #[enVal p, .bool true]) ∧ p.1 = x ∧ Evs w' p.2 p.1.b.events ∧ Below w.heap.size w w' := by
  obtain ⟨T, X, ⟨ft, pv, ev, ps, hL⟩, _⟩ := h
  have hl := hL.len
  have hlt := (List.getElem?_eq_some_iff.1 hi).1
  refine (logAt_in hL (by omega) i (by omega)).mono ?_
  rintro e w' ⟨rfl, hb⟩
  have hpl := hL.plain
  refine ⟨ps[i]'(by omega), rfl, ?_, Cells.next (hL.evs _ (List.getElem_mem _)).1 hb, hb⟩
  have : (plainE ps)[i]? = s.es[i]? := by rw [hpl]
  simp only [plainE, List.getElem?_map] at this
  rw [List.getElem?_eq_getElem (by omega), hi] at this
  exact Option.some.inj this
theorem at_none_ll {R : (Nat → Prop) → World → Prop} {a w : World} {P lg d : Nat} {mv : Value} {room : Int} {s : Lg.S} {fs : List Dk.File} (h : LL R a P d mv room lg s fs w) (q : Int) (hq : q < 1 ∨ (s.es.length : Int) < q) :
    Calls Tryz.prog 36 #[.pointer (some ⟨lg, 0, none⟩), .int .i64 q] w fun e w' => e = .returned (.tuple #[.agg #[.int .i64 0, .int .i64 0, .string ⟨#[]⟩, .int .i64 0, .int .i64 0, .int .i64 0, .slice none 0 0], .bool false]) ∧ Below w.heap.size w w' := by
  obtain ⟨T, X, ⟨ft, pv, ev, ps, hL⟩, _⟩ := h
  exact logAt_out hL q (by rw [hL.len]; exact hq)
end Go.Proofs.YtbknlffebcbjfaaGreatDoor
