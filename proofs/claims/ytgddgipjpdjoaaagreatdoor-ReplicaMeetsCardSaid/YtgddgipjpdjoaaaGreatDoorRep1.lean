/-
  A replica's reading functions: Last, Epoch, Marks, At, Range, Commit, Fence, epochAt.
  A replica's Cut, Propose.
-/
import Derived.Test.YtgddgipjpdjoaaaGreatDoorRepA
import Derived.Test.YtgddgipjpdjoaaaGreatDoorMan2
namespace Go.Proofs.YtgddgipjpdjoaaaGreatDoor
open Go.RowKit Go.Shelf
variable {R : (Nat → Prop) → (Nat → Prop) → World → Prop} {a w w' : World} {r lg d sb : Nat} {room : Int} {s s' : Lg.S} {fs fs' : List Dk.File} {st st' : Stat} {TL TS X : Nat → Prop} {J : List (Nat × Obj)}
theorem stApplied_any {app : Int} (h : w.cell? ⟨sb, 2, none⟩ = some (.int .i64 app)) : Calls Tryz.prog 37 #[.pointer (some ⟨sb, 0, none⟩)] w fun e w' => e = .returned (.int .i64 app) ∧ w = w' := by
 go_enter Tryz.func37, Tryz.ntmps37
 go_wp2
 go_ret
 exact ⟨rfl, rfl⟩
theorem repLast_any (h : RR R J a r lg d sb room s fs st w) : Calls Tryz.prog 13 #[.pointer (some ⟨r, 0, none⟩)] w fun e w' => e = .returned (.int .i64 (s.es.length : Int)) ∧ w = w' := by
 obtain ⟨k0, k1, k2⟩ := h.box.cells
 obtain ⟨TL, TS, X, h, hw⟩ := h
 obtain ⟨ft, pv, ev, ps, hL⟩ := h.log
 have HC := Lib.hid (logLast_any hL)
 clear h hw hL
 go_enter Tryz.func13, Tryz.ntmps13
 go_wp2_with fail
 refine HC.out.mono ?_
 rintro e w1 ⟨rfl, rfl⟩
 go_wp2
 go_ret
 exact ⟨rfl, rfl⟩
theorem repEpoch_q (h : RR R J a r lg d sb room s fs st w) (hn : s.es.length ≤ 1000000) : Calls Tryz.prog 42 #[.pointer (some ⟨r, 0, none⟩)] w fun e w' => e = .returned (.int .i64 (Lg.epochOf s.es)) ∧ ∃ m, w' = w.drewN m := by
 obtain ⟨k0, k1, k2⟩ := h.box.cells
 obtain ⟨TL, TS, X, h, hw⟩ := h
 obtain ⟨ft, pv, ev, ps, hL⟩ := h.log
 have HC := Lib.hid (logEpoch_q hL (by rw [hL.len]; exact hn))
 clear h hw hL
 go_enter Tryz.func42, Tryz.ntmps42
 go_wp2_with fail
 refine HC.out.mono ?_
 rintro e w1 ⟨rfl, m, rfl⟩
 go_wp2
 go_ret
 exact ⟨rfl, m, rfl⟩
theorem repMarks_any (h : RR R J a r lg d sb room s fs st w) (hn : s.es.length ≤ 1000000) :
   Calls Tryz.prog 26 #[.pointer (some ⟨r, 0, none⟩)] w fun e w' => ∃ V, e = .returned V ∧ Hid (w'.ownsRow w.heap.size 124 2 V (Mk.marks s.es).length (markCells (Mk.marks s.es))) ∧ Below w.heap.size w w' := by
 obtain ⟨k0, k1, k2⟩ := h.box.cells
 obtain ⟨TL, TS, X, h, hw⟩ := h
 obtain ⟨ft, pv, ev, ps, hL⟩ := h.log
 have HC := Lib.hid (logMarks_any hL (by rw [hL.len]; exact hn))
 clear h hw hL
 go_enter Tryz.func26, Tryz.ntmps26
 go_wp2_with fail
 refine HC.out.mono ?_
 rintro e w1 ⟨V, rfl, hO, hb⟩
 go_wp2
 go_ret
 exact ⟨V, rfl, hO, hb⟩
theorem repAt_in (h : RR R J a r lg d sb room s fs st w) (_hR : Stable2 a R) (hn : s.es.length ≤ 1000000) (i : Nat) (x : Evt.Entry) (hi : s.es[i]? = some x) :
   Calls Tryz.prog 20 #[.pointer (some ⟨r, 0, none⟩), .int .i64 ((i : Int) + 1)] w fun e w' => ∃ p : EnX, e = .returned (.tuple #[enVal p, .bool true]) ∧ p.1 = x ∧ Evs w' p.2 p.1.b.events ∧ Below w.heap.size w w' := by
 obtain ⟨W1, hW1⟩ : ∃ W1, w.alloc (.cells #[.int .i64 0, .int .i64 0, .string ⟨#[]⟩, .int .i64 0, .int .i64 0, .int .i64 0, .slice none 0 0] 40) = W1 := ⟨_, rfl⟩
 have b1 : Below w.heap.size w W1 := by rw [← hW1]; exact (Below.refl _ w).alloc (Nat.le_refl _) _
 have hz : W1.heap[w.heap.size]? = some (.cells #[.int .i64 0, .int .i64 0, .string ⟨#[]⟩, .int .i64 0, .int .i64 0, .int .i64 0, .slice none 0 0] 40 (0, 0)) := by rw [← hW1]; exact heap_alloc_new w _
 have k1 := (h.box.next b1).cells.2.1
 rw [← hW1] at k1
 obtain ⟨TL, TS, X, h, hw⟩ := h
 obtain ⟨ft, pv, ev, ps, hL0⟩ := h.log
 have hL := hL0.next b1
 have hlt := (List.getElem?_eq_some_iff.1 hi).1
 have hl := hL.len
 have HC := Lib.hid (logAt_in hL (by omega) i (by omega))
 have HP := Lib.hid (show (ps[i]'(by omega)).1 = x by
   have e : (plainE ps)[i]? = some x := by rw [hL.plain]; exact hi
   simp only [plainE, List.getElem?_map] at e
   rw [List.getElem?_eq_getElem (by omega)] at e
   simpa using e)
 have HE := Lib.hid (And.intro (hL.evs (ps[i]'(by omega)) (List.getElem_mem _)).1 (hL0.evs (ps[i]'(by omega)) (List.getElem_mem _)).1)
 obtain ⟨q, hq⟩ : ∃ q, ps[i]'(by omega) = q := ⟨_, rfl⟩
 rw [hq] at HC HP HE
 obtain ⟨⟨⟨qp, qe, ⟨qs, qx, qn, qq, qes⟩⟩, qv⟩, hqq⟩ : ∃ q', q = q' := ⟨q, rfl⟩
 rw [hqq] at HC HP HE
 obtain ⟨va, vl, vc, hva⟩ := evs_slice HE.out.2
 have hva : qv = .slice va vl vc := hva
 subst hva
 have HC := Lib.hid (show Calls Tryz.prog 50 #[.pointer (some ⟨lg, 0, none⟩), .int .i64 ((i : Int) + 1)] W1 (fun e w' => e = .returned (.tuple #[.agg #[.int .i64 qp, .int .i64 qe, .string ⟨qs.toArray⟩, .int .i64 qx, .int .i64 qn, .int .i64 qq, .slice va vl vc], .bool true]) ∧ Below W1.heap.size W1 w') from HC.out)
 have HZ := Lib.hid hz
 have HB1 := Lib.hid b1
 have HW1 := Lib.hid hW1
 clear h hw hL hL0 hz b1 hW1 hq hqq hi
 go_enter Tryz.func20, Tryz.ntmps20
 go_wp2_with fail
 rw [HW1.out]
 refine HC.out.mono ?_
 rintro e w1 ⟨rfl, hb⟩
 have hz1 := (hb.block w.heap.size (Array.getElem?_eq_some_iff.1 HZ.out).1).trans HZ.out
 have HZ1 := Lib.hid hz1
 obtain ⟨c0, c1, c2, c3, c4, c5, c6⟩ := EB17.cells hz1
 have f0 := EB17.frozen hz1 0
 have f1 := EB17.frozen hz1 1
 have f2 := EB17.frozen hz1 2
 have f3 := EB17.frozen hz1 3
 have f4 := EB17.frozen hz1 4
 have f5 := EB17.frozen hz1 5
 have f6 := EB17.frozen hz1 6
 have HBB := Lib.hid (HB1.out.trans (hb.mono HB1.out.size))
 have HEV := Lib.hid (And.intro (Cells.next HE.out.1 hb) HE.out.2)
 clear hz1 hb HC HE
 go_wp2
 refine bodyPost_ret (results_cell1 rfl _ _ w.heap.size _ _ _ _ rfl (entry_store HZ1.out _ _ _ _ _ _ _) Tryz.underlying40 rfl entry_size17) rfl ?_
 have hs := grown_set7 w1 w.heap.size (.int .i64 qp) (.int .i64 qe) (.string ⟨qs.toArray⟩) (.int .i64 qx) (.int .i64 qn) (.int .i64 qq) (.slice va vl vc)
 have hev : Evs (((((((w1.setCell ⟨w.heap.size, 0, none⟩ (.int .i64 qp)).setCell ⟨w.heap.size, 1, none⟩ (.int .i64 qe)).setCell ⟨w.heap.size, 2, none⟩ (.string ⟨qs.toArray⟩)).setCell ⟨w.heap.size, 3, none⟩ (.int .i64 qx)).setCell ⟨w.heap.size, 4, none⟩ (.int .i64 qn)).setCell ⟨w.heap.size, 5, none⟩ (.int .i64 qq)).setCell ⟨w.heap.size, 6, none⟩ (.slice va vl vc)) (.slice va vl vc) qes :=
   evs_turn (T := fun j => j = w.heap.size) (p := (⟨qp, qe, ⟨qs, qx, qn, qq, qes⟩⟩, .slice va vl vc)) HEV.out.1 (fun b hb hne e => by
     have := evs_block HEV.out.2 hb hne
     omega) (Turn.of_grown hs rfl)
 exact ⟨(⟨qp, qe, ⟨qs, qx, qn, qq, qes⟩⟩, .slice va vl vc), rfl, HP.out, hev, below_set7 HBB.out (Nat.le_refl _) (Nat.le_refl _) _ _ _ _ _ _ _⟩
theorem repAt_out (h : RR R J a r lg d sb room s fs st w) (hR : Stable2 a R) (q : Int) (hq : q < 1 ∨ (s.es.length : Int) < q) :
   Calls Tryz.prog 20 #[.pointer (some ⟨r, 0, none⟩), .int .i64 q] w fun e w' => e = .returned (.tuple #[.agg #[.int .i64 0, .int .i64 0, .string ⟨#[]⟩, .int .i64 0, .int .i64 0, .int .i64 0, .slice none 0 0], .bool false]) ∧ Below w.heap.size w w' := by
 obtain ⟨W1, hW1⟩ : ∃ W1, w.alloc (.cells #[.int .i64 0, .int .i64 0, .string ⟨#[]⟩, .int .i64 0, .int .i64 0, .int .i64 0, .slice none 0 0] 40) = W1 := ⟨_, rfl⟩
 have b1 : Below w.heap.size w W1 := by rw [← hW1]; exact (Below.refl _ w).alloc (Nat.le_refl _) _
 have hz : W1.heap[w.heap.size]? = some (.cells #[.int .i64 0, .int .i64 0, .string ⟨#[]⟩, .int .i64 0, .int .i64 0, .int .i64 0, .slice none 0 0] 40 (0, 0)) := by rw [← hW1]; exact heap_alloc_new w _
 have h := h.next hR b1
 have k1 := h.box.cells.2.1
 rw [← hW1] at k1
 obtain ⟨TL, TS, X, h, hw⟩ := h
 obtain ⟨ft, pv, ev, ps, hL⟩ := h.log
 have HC := Lib.hid (logAt_out hL q (by rw [hL.len]; exact hq))
 have HZ := Lib.hid hz
 have HB1 := Lib.hid b1
 have HW1 := Lib.hid hW1
 clear h hw hL hq hz b1 hW1
 go_enter Tryz.func20, Tryz.ntmps20
 go_wp2_with fail
 rw [HW1.out]
 refine HC.out.mono ?_
 rintro e w1 ⟨rfl, hb⟩
 have hz1 := (hb.block w.heap.size (Array.getElem?_eq_some_iff.1 HZ.out).1).trans HZ.out
 have HZ1 := Lib.hid hz1
 obtain ⟨c0, c1, c2, c3, c4, c5, c6⟩ := EB17.cells hz1
 have f0 := EB17.frozen hz1 0
 have f1 := EB17.frozen hz1 1
 have f2 := EB17.frozen hz1 2
 have f3 := EB17.frozen hz1 3
 have f4 := EB17.frozen hz1 4
 have f5 := EB17.frozen hz1 5
 have f6 := EB17.frozen hz1 6
 have HBB := Lib.hid (HB1.out.trans (hb.mono HB1.out.size))
 clear hz1 hb HC
 go_wp2
 refine bodyPost_ret (results_cell1 rfl _ _ w.heap.size _ _ _ _ rfl (entry_store HZ1.out _ _ _ _ _ _ _) Tryz.underlying40 rfl entry_size17) rfl ?_
 exact ⟨rfl, below_set7 HBB.out (Nat.le_refl _) (Nat.le_refl _) _ _ _ _ _ _ _⟩
theorem repCommit_any (h : RR R J a r lg d sb room s fs st w) : Calls Tryz.prog 14 #[.pointer (some ⟨r, 0, none⟩)] w fun e w' => e = .returned (.int .i64 st.app) ∧ w = w' := by
 obtain ⟨k0, k1, k2⟩ := h.box.cells
 have HC := Lib.hid (stApplied_any h.appC)
 clear h
 go_enter Tryz.func14, Tryz.ntmps14
 go_wp2_with fail
 refine HC.out.mono ?_
 rintro e w1 ⟨rfl, rfl⟩
 go_wp2
 go_ret
 exact ⟨rfl, rfl⟩
theorem repFence_any (h : RR R J a r lg d sb room s fs st w) (hroom : room ≤ 1048576) : Calls Tryz.prog 19 #[.pointer (some ⟨r, 0, none⟩)] w fun e w' => e = .returned (.int .i64 (Man.epochsD fs).1) ∧ Below w.heap.size w w' := by
 obtain ⟨k0, k1, k2⟩ := h.box.cells
 obtain ⟨TL, TS, X, h, hw⟩ := h
 obtain ⟨ft, pv, ev, ps, hL⟩ := h.log
 have HC := Lib.hid (manEpoch_any a d room fs ft w hL.baseD hL.disk hroom)
 clear h hw hL
 go_enter Tryz.func19, Tryz.ntmps19
 go_wp2_with fail
 refine HC.out.mono ?_
 rintro e w1 ⟨rfl, hb⟩
 go_wp2
 go_ret
 exact ⟨rfl, hb⟩
theorem repRaise_any (x : Int) (h : RR R J a r lg d sb room s fs st w) (hR : Stable2 a R) (hroom : room ≤ 1048576) :
   Calls Tryz.prog 10 #[.pointer (some ⟨r, 0, none⟩), .int .i64 x] w fun e w' => e = .returned (.int .i64 ((Man.raiseF room x fs).2 : Nat)) ∧ RR R J a r lg d sb room s (Man.raiseF room x fs).1 st w' := by
 obtain ⟨k0, k1, k2⟩ := h.box.cells
 have HC := Lib.hid (fun ft hA hd => manRaise_any a d room x fs ft w hA hd hroom)
 have HRR := Lib.hid h
 obtain ⟨TL, TS, X, h, hw⟩ := h
 obtain ⟨ft, pv, ev, ps, hL⟩ := h.log
 have HM := Lib.hid (manRaise_any a d room x fs ft w hL.baseD hL.disk hroom)
 have HH := Lib.hid (And.intro h (And.intro hw hL))
 clear h hw hL HC
 go_enter Tryz.func10, Tryz.ntmps10
 go_wp2_with fail
 refine HM.out.mono ?_
 rintro e w1 ⟨rfl, hd⟩
 obtain ⟨T3, ft3, hM, _, _⟩ := (LMid.start HH.out.2.2).disked hd
 have HX := Lib.hid (HH.out.1.logged hR HH.out.2.1 hM.step)
 clear hd hM HH HRR
 go_wp2
 go_ret
 exact ⟨rfl, HX.out⟩
def epAt (L : List Evt.Entry) (p : Int) : Int × Bool := if p < 1 then (0, p == 0) else match L[(p - 1).toNat]? with | some e => (e.epoch, true) | none => (0, false)
theorem epochAt_any (p : Int) (h : RR R J a r lg d sb room s fs st w) (hR : Stable2 a R) (hn : s.es.length ≤ 1000000) :
   Calls Tryz.prog 52 #[.pointer (some ⟨r, 0, none⟩), .int .i64 p] w fun e w' => e = .returned (.tuple #[.int .i64 (epAt s.es p).1, .bool (epAt s.es p).2]) ∧ Below w.heap.size w w' := by
 by_cases h1 : 1 ≤ p ∧ p ≤ (s.es.length : Int)
 · obtain ⟨i, rfl⟩ : ∃ i : Nat, p = (i : Int) + 1 := ⟨(p - 1).toNat, by omega⟩
   have hi : s.es[i]? = some (s.es[i]'(by omega)) := List.getElem?_eq_getElem _
   have HC := Lib.hid (repAt_in h hR hn i _ hi)
   have HE := Lib.hid (show epAt s.es ((i : Int) + 1) = ((s.es[i]'(by omega)).epoch, true) by
     unfold epAt
     rw [if_neg (by omega), show ((i : Int) + 1 - 1).toNat = i by omega, hi])
   have HBX := Lib.hid h.box
   clear h hi
   go_enter Tryz.func52, Tryz.ntmps52
   go_wp2_with fail
   refine HC.out.mono ?_
   rintro e w1 ⟨⟨⟨qp, qe, ⟨qs, qx, qn, qq, qes⟩⟩, qv⟩, rfl, hq, hev, hb⟩
   obtain ⟨va, vl, vc, hva⟩ := evs_slice hev
   have hva : qv = .slice va vl vc := hva
   subst hva
   rw [show enVal ((⟨qp, qe, ⟨qs, qx, qn, qq, qes⟩⟩ : Evt.Entry), (.slice va vl vc)) = .agg #[.int .i64 qp, .int .i64 qe, .string ⟨qs.toArray⟩, .int .i64 qx, .int .i64 qn, .int .i64 qq, .slice va vl vc] from rfl]
   have HQ := Lib.hid (show qe = (s.es[i]'(by omega)).epoch by rw [← hq])
   clear hq hev
   go_wp2
   go_ret2
   exact ⟨by rw [HE.out, HQ.out]; rfl, by first | exact hb | exact hb.alloc hb.size _⟩
 · have HC := Lib.hid (repAt_out h hR p (by omega))
   by_cases h0 : p = 0
   · subst h0
     have HE := Lib.hid (show epAt s.es 0 = (0, true) by unfold epAt; rw [if_pos (by omega)]; rfl)
     clear h
     go_enter Tryz.func52, Tryz.ntmps52
     go_wp2_with fail
     refine HC.out.mono ?_
     rintro e w1 ⟨rfl, hb⟩
     go_wp2
     go_ret2
     exact ⟨by rw [HE.out]; rfl, by first | exact hb | exact hb.alloc hb.size _⟩
   · have HE := Lib.hid (show epAt s.es p = (0, false) by
       unfold epAt
       by_cases h2 : p < 1
       · rw [if_pos h2]; simp [h0]
       · rw [if_neg h2, List.getElem?_eq_none (by omega)])
     have h0b : (p == 0) = false := by simp [h0]
     clear h h1 h0
     go_enter Tryz.func52, Tryz.ntmps52
     go_wp2_with fail
     refine HC.out.mono ?_
     rintro e w1 ⟨rfl, hb⟩
     go_wp2
     go_ret2
     exact ⟨by rw [HE.out]; rfl, by first | exact hb | exact hb.alloc hb.size _⟩
end Go.Proofs.YtgddgipjpdjoaaaGreatDoor
namespace Go.Proofs.YtgddgipjpdjoaaaGreatDoor
open Go.RowKit Go.Shelf
variable {R : (Nat → Prop) → (Nat → Prop) → World → Prop} {a w w0 w' : World} {r lg d sb : Nat} {room : Int} {s s' : Lg.S} {fs fs' : List Dk.File} {st st' : Stat} {TL TS X : Nat → Prop} {J : List (Nat × Obj)}
theorem RR.rowE {lv : Value} {qs : List EnX} (h : RR (WithRow R lv qs) J a r lg d sb room s fs st w) : Ents w lv qs := by
 obtain ⟨TL, TS, X, h, hw⟩ := h; exact hw.2.ents
theorem RR.dropRow {lv : Value} {qs : List EnX} (h : RR (WithRow R lv qs) J a r lg d sb room s fs st w) : RR R J a r lg d sb room s fs st w := h.mono fun _ _ _ hh => hh.1
theorem logAppend_rr {lv : Value} {qs : List EnX} {c : Nat} (h : RR (WithRow R lv qs) J a r lg d sb room s fs st w) (hR : Stable2 a R) (hroom : room ≤ 1048576) (hB : Lg.BK qs.length s) (hcap : CapOk lv) (hqn : qs.length ≤ 1000) (hr : Lg.appendF room (plainE qs) s fs = ((fs', s'), c)) :
   Calls Tryz.prog 43 #[.pointer (some ⟨lg, 0, none⟩), lv] w fun e w' => e = .returned (.int .i64 (c : Int)) ∧ RR (WithRow R lv qs) J a r lg d sb room s' fs' st w' := by
 obtain ⟨TL, TS, X, h, hw⟩ := h
 obtain ⟨ft, pv, ev, ps, hL⟩ := h.log
 refine (logAppend_any hL hroom hB hw.2 hcap hqn hr).mono ?_
 rintro e w' ⟨rfl, hs⟩
 exact ⟨rfl, h.logged (stable2_row hR lv qs) hw hs⟩
theorem logTrunc_rr {c : Nat} {last : Int} (h : RR R J a r lg d sb room s fs st w) (hR : Stable2 a R) (hroom : room ≤ 1048576) (hB : Lg.Bounded s) (hl1 : -9223372036854775808 ≤ last) (hl2 : last ≤ 9223372036854775807) (hr : Lg.truncF room last s fs = ((fs', s'), c)) :
   Calls Tryz.prog 108 #[.pointer (some ⟨lg, 0, none⟩), .int .i64 last] w fun e w' => e = .returned (.int .i64 (c : Int)) ∧ RR R J a r lg d sb room s' fs' st w' := by
 obtain ⟨TL, TS, X, h, hw⟩ := h
 obtain ⟨ft, pv, ev, ps, hL⟩ := h.log
 refine (logTrunc_any hL hroom hB hl1 hl2 hr).mono ?_
 rintro e w' ⟨rfl, hs⟩
 exact ⟨rfl, h.logged hR hw hs⟩
def cutF17 (room last app : Int) (s : Lg.S) (fs : List Dk.File) : (List Dk.File × Lg.S) × Nat := if last < app then ((fs, s), 9) else Lg.truncF room last s fs
theorem repCut_any {c : Nat} {last : Int} (h : RR R J a r lg d sb room s fs st w) (hR : Stable2 a R) (hroom : room ≤ 1048576) (hB : Lg.Bounded s) (hl1 : -9223372036854775808 ≤ last) (hl2 : last ≤ 9223372036854775807) (hr : cutF17 room last st.app s fs = ((fs', s'), c)) :
   Calls Tryz.prog 53 #[.pointer (some ⟨r, 0, none⟩), .int .i64 last] w fun e w' => e = .returned (.int .i64 (c : Int)) ∧ RR R J a r lg d sb room s' fs' st w' := by
 obtain ⟨k0, k1, k2⟩ := h.box.cells
 have HC := Lib.hid (repCommit_any h)
 unfold cutF17 at hr
 by_cases hlt : last < st.app
 · rw [if_pos hlt] at hr
   have HF := Lib.hid (show fs = fs' ∧ s = s' ∧ 9 = c by simpa [and_assoc] using hr)
   have HH := Lib.hid h
   clear hr h
   go_enter Tryz.func53, Tryz.ntmps53
   go_wp2_with fail
   refine HC.out.mono ?_
   rintro e w1 ⟨rfl, rfl⟩
   go_wp2
   go_ret
   obtain ⟨rfl, rfl, rfl⟩ := HF.out
   exact ⟨rfl, HH.out⟩
 · rw [if_neg hlt] at hr
   have HT := Lib.hid (logTrunc_rr h hR hroom hB hl1 hl2 hr)
   clear hr h
   go_enter Tryz.func53, Tryz.ntmps53
   go_wp2_with fail
   refine HC.out.mono ?_
   rintro e w1 ⟨rfl, rfl⟩
   go_wp2_with fail
   refine HT.out.mono ?_
   rintro e w2 ⟨rfl, hx⟩
   have HX := Lib.hid hx
   clear hx HT HC
   go_wp2
   go_ret
   exact ⟨rfl, HX.out⟩
def fenceOf (fs : List Dk.File) : Int := (Man.epochsD fs).1
def propE (s : Lg.S) (fs : List Dk.File) (b : Evt.Batch) : Evt.Entry := ⟨(s.es.length : Int) + 1, fenceOf fs, b⟩
def propF (room : Int) (b : Evt.Batch) (s : Lg.S) (fs : List Dk.File) : (List Dk.File × Lg.S) × Nat :=
 if Evt.fits b ≠ 0 then ((fs, s), 1) else if fenceOf fs = 0 ∨ fenceOf fs < Lg.epochOf s.es then ((fs, s), 10) else Lg.appendF room [propE s fs b] s fs
end Go.Proofs.YtgddgipjpdjoaaaGreatDoor
