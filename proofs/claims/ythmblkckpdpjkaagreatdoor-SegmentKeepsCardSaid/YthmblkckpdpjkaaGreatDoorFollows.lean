/-
  The walk of record.Follows: at every row of entries.
-/
import Derived.Test.YthmblkckpdpjkaaGreatDoorRecTake
namespace Go.Proofs.YthmblkckpdpjkaaGreatDoor
open Go.RowKit Go.Shelf

/-- A row of entries: each with the value of its slice of events. -/
def enCells (ps : List (Evt.Entry × Value)) : List Value :=
  ps.flatMap fun p => [.int .i64 p.1.pos, .int .i64 p.1.epoch, .string ⟨p.1.b.stream.toArray⟩, .int .i64 p.1.b.expect, .int .i64 p.1.b.session, .int .i64 p.1.b.seq, p.2]
theorem enCells_cons (p : Evt.Entry × Value) (ps : List (Evt.Entry × Value)) : enCells (p :: ps) = .int .i64 p.1.pos :: .int .i64 p.1.epoch :: .string ⟨p.1.b.stream.toArray⟩ :: .int .i64 p.1.b.expect :: .int .i64 p.1.b.session :: .int .i64 p.1.b.seq :: p.2 :: enCells ps := rfl
theorem enCells_len : ∀ (ps : List (Evt.Entry × Value)), (enCells ps).length = ps.length * 7
  | [] => rfl
  | p :: ps => by rw [enCells_cons]; simp only [List.length_cons, enCells_len ps]; omega
theorem enCells_at : ∀ (ps : List (Evt.Entry × Value)) (i : Nat) (hi : i < ps.length),
    (enCells ps)[i * 7]? = some (.int .i64 ps[i].1.pos) ∧ (enCells ps)[i * 7 + 1]? = some (.int .i64 ps[i].1.epoch) ∧ (enCells ps)[i * 7 + 2]? = some (.string ⟨ps[i].1.b.stream.toArray⟩) ∧ (enCells ps)[i * 7 + 3]? = some (.int .i64 ps[i].1.b.expect) ∧
      (enCells ps)[i * 7 + 4]? = some (.int .i64 ps[i].1.b.session) ∧ (enCells ps)[i * 7 + 5]? = some (.int .i64 ps[i].1.b.seq) ∧ (enCells ps)[i * 7 + 6]? = some ps[i].2
  | p :: ps, 0, _ => ⟨rfl, rfl, rfl, rfl, rfl, rfl, rfl⟩
  | p :: ps, i + 1, hi => by
    have := enCells_at ps i (by simpa using hi)
    have e : ∀ k, (enCells (p :: ps))[(i + 1) * 7 + k]? = (enCells ps)[i * 7 + k]? := fun k => by
      rw [enCells_cons, show (i + 1) * 7 + k = (i * 7 + k) + 1 + 1 + 1 + 1 + 1 + 1 + 1 by omega]
      simp only [List.getElem?_cons_succ]
    have e0 := e 0
    simp only [Nat.add_zero] at e0
    simp only [e, e0, List.getElem_cons_succ]
    exact this
def Fine (e : Evt.Entry) : Prop := e.b.stream.length ≤ 1000000 ∧ Small e.b.events ∧ e.b.events.length ≤ 1000000
def Ents (w : World) (v : Value) (ps : List (Evt.Entry × Value)) : Prop := Cells w v 7 ps.length (enCells ps) ∧ ∀ p ∈ ps, Evs w p.2 p.1.b.events ∧ Fine p.1
def plainE (ps : List (Evt.Entry × Value)) : List Evt.Entry := ps.map (·.1)
theorem Ents.next {w w' : World} {v : Value} {ps : List (Evt.Entry × Value)} (h : Ents w v ps) (hb : Below w.heap.size w w') : Ents w' v ps :=
  ⟨Cells.next h.1 hb, fun p hp => ⟨Cells.next (h.2 p hp).1 hb, (h.2 p hp).2⟩⟩
/-- One entry of a row, its cells. -/
theorem enAt {w : World} {v : Value} {ps : List (Evt.Entry × Value)} (h : Ents w v ps) (i : Nat) (hi : i < ps.length) :
    ∃ (b o c : Nat) (p ep : Int) (S : ByteArray) (ex se sq : Int) (sa : Option Addr) (sl sc : Nat) (es : List Evt.Event), v = .slice (some ⟨b, o, none⟩) ps.length c ∧
      w.cell? ⟨b, o + i * 7, none⟩ = some (.int .i64 p) ∧ w.cell? ⟨b, o + i * 7 + 1, none⟩ = some (.int .i64 ep) ∧ w.cell? ⟨b, o + i * 7 + 2, none⟩ = some (.string S) ∧ w.cell? ⟨b, o + i * 7 + 3, none⟩ = some (.int .i64 ex) ∧ w.cell? ⟨b, o + i * 7 + 4, none⟩ = some (.int .i64 se) ∧ w.cell? ⟨b, o + i * 7 + 5, none⟩ = some (.int .i64 sq) ∧ w.cell? ⟨b, o + i * 7 + 6, none⟩ = some (.slice sa sl sc) ∧
      Evs w (.slice sa sl sc) es ∧ S.size ≤ 1000000 ∧ Small es ∧ es.length ≤ 1000000 ∧ Hid (ps[i].1 = ⟨p, ep, ⟨S.data.toList, ex, se, sq, es⟩⟩) ∧ Hid (ps[i].2 = .slice sa sl sc) := by
  rcases h.1.2 with ⟨h0, _⟩ | ⟨b, o, c, h1, h2⟩
  · omega
  · obtain ⟨k0, k1, k2, k3, k4, k5, k6⟩ := enCells_at ps i hi
    have hp := h.2 ps[i] (List.getElem_mem hi)
    obtain ⟨sa, sl, sc, hs⟩ := evs_slice hp.1
    obtain ⟨S, hS, hS2, hS3⟩ := str_of ps[i].1.b.stream
    have q0 := h2 _ _ k0
    have q1 := h2 _ _ k1
    have q2 := h2 _ _ k2
    have q3 := h2 _ _ k3
    have q4 := h2 _ _ k4
    have q5 := h2 _ _ k5
    have q6 := h2 _ _ k6
    rw [hS] at q2
    rw [hs] at q6
    refine ⟨b, o, c, _, _, S, _, _, _, sa, sl, sc, ps[i].1.b.events, h1, q0, q1, q2, q3, q4, q5, q6, by rw [← hs]; exact hp.1, by rw [hS3]; exact hp.2.1, hp.2.2.1, hp.2.2.2, ?_, hs⟩
    show ps[i].1 = _
    rw [hS2]

set_option maxHeartbeats 4000000 in
set_option maxRecDepth 100000 in
theorem follows_any (v : Value) (ps : List (Evt.Entry × Value)) (pos epoch : Int) (w : World) (hE : Env w) (hc : Ents w v ps) (hn : ps.length ≤ 1000000) (hp1 : -1000000000000 ≤ pos) (hp2 : pos ≤ 1000000000000) :
    Calls Tryz.prog 24 #[v, .int .i64 pos, .int .i64 epoch] w fun e w' => e = .returned (.bool (Evt.follows (plainE ps) pos epoch)) ∧ Below w.heap.size w w' := by
  rcases cellsNil hc.1 with ⟨h0, a0, c0, rfl⟩ | ⟨b, o, c, rfl⟩
  · have HN := Lib.hid (List.eq_nil_of_length_eq_zero h0)
    clear h0
    go_enter Tryz.func24, Tryz.ntmps24
    go_wp2
    go_loopw [11] (fun lv wr => lv = .int .i64 0 ∧ wr = w) (fun _ _ => 0)
    case atStart => exact ⟨rfl, rfl⟩
    case round =>
      obtain ⟨rfl, rfl⟩ := hrel
      go_wp2
      go_ret
      exact ⟨ret_bool (by rw [HN.out]; rfl), Below.refl _ _⟩
  · have HC := Lib.hid hc
    clear hc
    go_enter Tryz.func24, Tryz.ntmps24
    go_wp2
    go_loopw [1, 2, 11] (fun pv ev lv wr => ∃ (i : Nat) (p e : Int), pv = .int .i64 p ∧ ev = .int .i64 e ∧ lv = .int .i64 i ∧ i ≤ ps.length ∧ -1000000000000 ≤ p ∧ p ≤ 1000000000000 ∧ Below w.heap.size w wr ∧ Env wr ∧ Evt.follows (plainE (ps.drop i)) p e = Evt.follows (plainE ps) pos epoch) (fun _ _ lv _ => ps.length - (intOf lv).toNat)
    case atStart => exact ⟨0, pos, epoch, rfl, rfl, rfl, by omega, hp1, hp2, Below.refl _ _, hE, rfl⟩
    case round =>
      obtain ⟨i, p0, e0, rfl, rfl, rfl, hi, hq1, hq2, hbw, hEr, hf⟩ := hrel
      have HF := Lib.hid hf
      clear hf
      by_cases hp : i < ps.length
      · obtain ⟨b', o', c', p, ep, S, ex, se, sq, sa, sl, sc, es, hv, k0, k1, k2, k3, k4, k5, k6, hev, hS, hsm, hes, hpe, _⟩ := enAt HC.out i hp
        cases hv
        have k0 := cell_kept hbw (Nat.le_refl _) k0
        have k1 := cell_kept hbw (Nat.le_refl _) k1
        have k2 := cell_kept hbw (Nat.le_refl _) k2
        have k3 := cell_kept hbw (Nat.le_refl _) k3
        have k4 := cell_kept hbw (Nat.le_refl _) k4
        have k5 := cell_kept hbw (Nat.le_refl _) k5
        have k6 := cell_kept hbw (Nat.le_refl _) k6
        have hev1 := Cells.next hev hbw
        have hb1 : Below w.heap.size w (wr.alloc (.cells #[.int .i64 p, .int .i64 ep, .string S, .int .i64 ex, .int .i64 se, .int .i64 sq, .slice sa sl sc] 38)) := hbw.alloc hbw.size _
        have HD := Lib.hid (show plainE (ps.drop i) = ⟨p, ep, ⟨S.data.toList, ex, se, sq, es⟩⟩ :: plainE (ps.drop (i + 1)) by rw [List.drop_eq_getElem_cons hp, ← hpe.out]; rfl)
        by_cases h1 : p = p0 + 1
        · have h1b : (p != p0 + 1) = false := by simp [h1]
          have hw1 : wrap64 (p0 + 1) = p0 + 1 := IntWalk.wrap64_in _ (by omega)
          by_cases h2 : ep < e0
          · have HN := Lib.hid (show Evt.follows (plainE ps) pos epoch = false by rw [← HF.out, HD.out, Evt.follows, if_pos (.inr (.inl h2))])
            clear HF HD h1
            go_wp2
            go_ret
            exact ⟨ret_bool (by rw [HN.out]), hb1⟩
          · have hE1 := hEr.next ((Below.refl _ wr).alloc (Nat.le_refl _) (.cells #[.int .i64 p, .int .i64 ep, .string S, .int .i64 ex, .int .i64 se, .int .i64 sq, .slice sa sl sc] 38))
            have eb1 : EB wr.heap.size p ep S ex se sq (.slice sa sl sc) (wr.alloc (.cells #[.int .i64 p, .int .i64 ep, .string S, .int .i64 ex, .int .i64 se, .int .i64 sq, .slice sa sl sc] 38)) := heap_alloc_new wr _
            have hev2 := Cells.next hev1 ((Below.refl _ wr).alloc (Nat.le_refl _) (.cells #[.int .i64 p, .int .i64 ep, .string S, .int .i64 ex, .int .i64 se, .int .i64 sq, .slice sa sl sc] 38))
            have HRI := Lib.hid (recRight_any p ep S ex se sq _ es _ hE1 hS hev2 hes hsm)
            have HEB := Lib.hid eb1
            have h2' : e0 ≤ ep := by omega
            have H1 := Lib.hid h1
            clear eb1 h1
            go_wp2_with fail
            refine HRI.out.mono ?_
            rintro e w2 ⟨rfl, b2⟩
            have hb2 := Below.up hb1 (Nat.le_refl _) b2
            have hE2 := hE1.next b2
            obtain ⟨j0, j1, j2, j3, j4, j5, j6⟩ := (HEB.out.next b2).cells
            cases hr : Evt.rightN ⟨p, ep, ⟨S.data.toList, ex, se, sq, es⟩⟩ with
            | false =>
              have HN := Lib.hid (show Evt.follows (plainE ps) pos epoch = false by rw [← HF.out, HD.out, Evt.follows, if_pos (.inr (.inr hr))])
              clear HF HD hr HRI HEB b2
              go_wp2
              go_ret
              exact ⟨ret_bool (by rw [HN.out]), hb2⟩
            | true =>
              have HN := Lib.hid (show Evt.follows (plainE (ps.drop (i + 1))) p ep = Evt.follows (plainE ps) pos epoch by
                rw [← HF.out, HD.out, Evt.follows, if_neg (by simp only [hr]; intro h; rcases h with h | h | h
                                                              · exact h H1.out
                                                              · omega
                                                              · cases h)])
              have hpr := (Evt.number_iff p).1 (Evt.rightN_iff.1 hr).1
              clear HF HD hr HRI HEB b2 k0 k1 k2 k3 k4 k5 k6 hev hev1 hev2
              go_wp2
              go_quiet (fail)
              go_wp2
              exact ⟨⟨i + 1, p, ep, rfl, rfl, by go_num, by omega, by omega, by omega, below_drewN hb2 _, hE2.next (below_drewN (Below.refl _ _) _), HN.out⟩, by simp [intOf]; omega⟩
        · have h1b : (p != p0 + 1) = true := by simp [h1]
          have hw1 : wrap64 (p0 + 1) = p0 + 1 := IntWalk.wrap64_in _ (by omega)
          have HN := Lib.hid (show Evt.follows (plainE ps) pos epoch = false by rw [← HF.out, HD.out, Evt.follows, if_pos (.inl h1)])
          clear HF HD
          go_wp2
          go_ret
          exact ⟨ret_bool (by rw [HN.out]), hb1⟩
      · obtain rfl : i = ps.length := by omega
        have HN := Lib.hid (show Evt.follows (plainE ps) pos epoch = true by rw [← HF.out, List.drop_length]; rfl)
        go_wp2
        go_ret
        exact ⟨ret_bool (by rw [HN.out]), hbw⟩
end Go.Proofs.YthmblkckpdpjkaaGreatDoor
