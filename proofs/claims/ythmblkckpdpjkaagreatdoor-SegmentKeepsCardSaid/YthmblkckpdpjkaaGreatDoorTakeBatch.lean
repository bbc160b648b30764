/-
  The walks of event.reader.event, event.TakeBatch.
-/
import Derived.Test.YthmblkckpdpjkaaGreatDoorRdr
import Derived.BigRegion
import Derived.Deep.DeepCutAuto
namespace Go.Proofs.YthmblkckpdpjkaaGreatDoor
open Go.RowKit Go.Shelf

theorem event_size : (Tryz.prog.info? 77).map (·.size) = some 2 := by kernel_rfl
theorem batch_size : (Tryz.prog.info? 36).map (·.size) = some 5 := by kernel_rfl
theorem results_cell3 {P : Program} {fn : Func} {p u x : Tmp} {ty : TypeId} (h : fn.results = #[.cell p ty, .tmp u, .tmp x]) (tmps : Array Value) (w : World) (g : Nat) (t : TypeId) (cs : Array Value) (fr : Nat × Nat) (d : TypeDesc)
    (hp : tmps.getD p undef = .pointer (some ⟨g, 0, none⟩)) (hg : w.heap[g]? = some (.cells cs t fr))
    (hu : P.underlying ty = some d) (hd : (match d with | .struct _ | .array _ _ => true | _ => false) = true) (hi : (P.info? ty).map (·.size) = some cs.size) :
    (results fn tmps).run P w = .ok (.tuple #[.agg cs, tmps.getD u undef, tmps.getD x undef]) w := by
  have hp' : tmps[p]?.getD undef = .pointer (some ⟨g, 0, none⟩) := by simpa using hp
  simp [results, h, hp', asAddr, run_loadVar_row w g t ty cs fr d hg hu hd hi]
set_option maxHeartbeats 1000000 in
theorem revent_any (b : Nat) (L : ByteArray) (c : Nat) (w : World) (h : Rdr b L c w) (hL : L.size ≤ 1000000000) :
    Calls Tryz.prog 152 #[.pointer (some ⟨b, 0, none⟩)] w fun e w' => ∃ (k d L' : ByteArray) (c' : Nat), e = .returned (.agg #[.string k, .string d]) ∧ Hid (Evt.rdEvent (L.data.toList, c) = (⟨k.data.toList, d.data.toList⟩, L'.data.toList, c')) ∧ L'.size ≤ L.size ∧ k.size ≤ L.size ∧ d.size ≤ L.size ∧ Rdr b L' c' w' ∧ w.grownBy w' (some b) := by
  have hbl := h.lt
  have hw0 : w.grownBy (w.alloc (.cells #[.string ⟨#[]⟩, .string ⟨#[]⟩] 77)) (some b) := World.grownBy_alloc w _ _
  have h1 : Rdr b L c (w.alloc (.cells #[.string ⟨#[]⟩, .string ⟨#[]⟩] 77)) := h.kept (World.grownBy_alloc w _ none) (by simp)
  have hE0 : (w.alloc (.cells #[.string ⟨#[]⟩, .string ⟨#[]⟩] 77)).heap[w.heap.size]? = some (.cells #[.string ⟨#[]⟩, .string ⟨#[]⟩] 77 (0, 0)) := heap_alloc_new w _
  have HE0 := Lib.hid hE0
  clear hE0
  go_enter Tryz.func152, Tryz.ntmps152
  go_wp2_with fail
  refine (rname_any b L c _ h1 hL).mono ?_
  rintro e w1 ⟨k, L1, c1, rfl, HK, hL1, hk1, hr1, g1⟩
  have hEk := (g1.block w.heap.size (by simp) (by simp; omega)).trans HE0.out
  have HE1 := Lib.hid hEk
  clear hEk HE0
  go_wp2_with fail
  refine (rname_any b L1 c1 w1 hr1 (by omega)).mono ?_
  rintro e w2 ⟨d, L2, c2, rfl, HD, hL2, hd1, hr2, g2⟩
  have hE2 := (g2.block w.heap.size (by have := g1.size; simp at this; omega) (by simp; omega)).trans HE1.out
  have ck0 : w2.cell? ⟨w.heap.size, 0, none⟩ = some (.string ⟨#[]⟩) := by rw [Lib.cell_of_heap hE2]; rfl
  have ck1 : w2.cell? ⟨w.heap.size, 1, none⟩ = some (.string ⟨#[]⟩) := by rw [Lib.cell_of_heap hE2]; rfl
  have cf0 := Lib.frozen_of_heap hE2 0
  have cf1 := Lib.frozen_of_heap hE2 1
  have HF := Lib.hid (show Evt.rdEvent (L.data.toList, c) = (⟨k.data.toList, d.data.toList⟩, L2.data.toList, c2) by rw [Evt.rdEvent, HK.out]; simp only; rw [HD.out])
  have hE3 := setCell_at (i := 1) (setCell_at (i := 0) hE2 (.string k)) (.string d)
  have hr3 := (hr2.kept (grown_set w2 w.heap.size 0 (.string k)) (by simp; omega)).kept (grown_set _ w.heap.size 1 (.string d)) (by simp; omega)
  have hg3 : w.grownBy ((w2.setCell ⟨w.heap.size, 0, none⟩ (.string k)).setCell ⟨w.heap.size, 1, none⟩ (.string d)) (some b) := by
    have ga := grown_trans (grown_trans hw0 g1) g2
    refine ⟨ga.os, ga.tape, ga.output, by have := ga.size; simp; omega, fun j hj hr => ?_⟩
    rw [Below.heap_setCell _ _ _ j (by simp; omega), Below.heap_setCell _ _ _ j (by simp; omega)]
    exact ga.block j hj hr
  have HE3 := Lib.hid hE3; have HR3 := Lib.hid hr3; have HG3 := Lib.hid hg3
  clear hE2 HE1 hE3 hr3 hg3 hw0 g1 g2
  go_wp2
  (try simp only [Exit.inBlock, Exit.then])
  refine bodyPost_ret (results_cell_row rfl _ _ w.heap.size _ _ _ _ rfl HE3.out Tryz.underlying77 rfl event_size) rfl ?_
  exact ⟨k, d, L2, c2, rfl, HF, by omega, hk1, by omega, HR3.out, HG3.out⟩

/-- A batch's block: its five cells. -/
def Bat (b : Nat) (S : ByteArray) (ex se sq : Int) (v : Value) (w : World) : Prop := w.heap[b]? = some (.cells #[.string S, .int .i64 ex, .int .i64 se, .int .i64 sq, v] 36 (0, 0))
theorem Bat.kept {b : Nat} {S : ByteArray} {ex se sq : Int} {v : Value} {w w' : World} {r : Option Nat} (h : Bat b S ex se sq v w) (hg : w.grownBy w' r) (hr : some b ≠ r) : Bat b S ex se sq v w' :=
  (hg.block b (Array.getElem?_eq_some_iff.1 h).1 hr).trans h
theorem Bat.cells {b : Nat} {S : ByteArray} {ex se sq : Int} {v : Value} {w : World} (h : Bat b S ex se sq v w) :
    w.cell? ⟨b, 0, none⟩ = some (.string S) ∧ w.cell? ⟨b, 1, none⟩ = some (.int .i64 ex) ∧ w.cell? ⟨b, 2, none⟩ = some (.int .i64 se) ∧ w.cell? ⟨b, 3, none⟩ = some (.int .i64 sq) ∧ w.cell? ⟨b, 4, none⟩ = some v ∧
      w.frozen? ⟨b, 0, none⟩ = false ∧ w.frozen? ⟨b, 1, none⟩ = false ∧ w.frozen? ⟨b, 2, none⟩ = false ∧ w.frozen? ⟨b, 3, none⟩ = false ∧ w.frozen? ⟨b, 4, none⟩ = false :=
  ⟨by rw [Lib.cell_of_heap h]; rfl, by rw [Lib.cell_of_heap h]; rfl, by rw [Lib.cell_of_heap h]; rfl, by rw [Lib.cell_of_heap h]; rfl, by rw [Lib.cell_of_heap h]; rfl, Lib.frozen_of_heap h 0, Lib.frozen_of_heap h 1, Lib.frozen_of_heap h 2, Lib.frozen_of_heap h 3, Lib.frozen_of_heap h 4⟩
theorem grown_drew {A B : World} {r : Option Nat} (h : A.grownBy B r) : A.grownBy B.drew r := ⟨h.os, h.tape, h.output, h.size, h.block⟩
theorem Bat.put5 {b : Nat} {S0 : ByteArray} {e0 s0 q0 : Int} {v0 : Value} {w : World} (h : Bat b S0 e0 s0 q0 v0 w) (S : ByteArray) (ex se sq : Int) (v : Value) :
    Bat b S ex se sq v ((((((w.setCell ⟨b, 0, none⟩ (.string S)).setCell ⟨b, 1, none⟩ (.int .i64 ex)).setCell ⟨b, 2, none⟩ (.int .i64 se)).setCell ⟨b, 3, none⟩ (.int .i64 sq)).setCell ⟨b, 4, none⟩ v).drew) ∧
      w.grownBy ((((((w.setCell ⟨b, 0, none⟩ (.string S)).setCell ⟨b, 1, none⟩ (.int .i64 ex)).setCell ⟨b, 2, none⟩ (.int .i64 se)).setCell ⟨b, 3, none⟩ (.int .i64 sq)).setCell ⟨b, 4, none⟩ v).drew) (some b) := by
  have h1 := setCell_at (i := 0) h (.string S)
  have h2 := setCell_at (i := 1) h1 (.int .i64 ex)
  have h3 := setCell_at (i := 2) h2 (.int .i64 se)
  have h4 := setCell_at (i := 3) h3 (.int .i64 sq)
  have h5 := setCell_at (i := 4) h4 v
  refine ⟨?_, ?_⟩
  · have e : ∀ W : World, W.drew.heap = W.heap := fun _ => rfl
    unfold Bat
    rw [e, h5]
    simp
  have g := grown_trans (grown_trans (grown_trans (grown_trans (grown_set w b 0 (.string S)) (grown_set _ b 1 (.int .i64 ex))) (grown_set _ b 2 (.int .i64 se))) (grown_set _ b 3 (.int .i64 sq))) (grown_set _ b 4 v)
  exact grown_drew g
theorem cells_not_row {W : World} {b : Nat} {c : Array Value} {t e : TypeId} {fz : Nat × Nat} (h : W.heap[b]? = some (.cells c t fz)) (hte : t ≠ e) {base size k : Nat} {v : Value} {xs : List Value} (hr : W.ownsRow base e size v k xs) : some b ≠ v.ownBlock := by
  rcases hr.2 with ⟨rfl, _⟩ | ⟨g, cap, cur, rfl, _, hgb, _⟩
  · simp [Value.ownBlock]
  · intro e'
    obtain rfl : b = g := by simpa [Value.ownBlock] using e'
    have := h.symm.trans hgb
    simp at this
    exact hte this.2.1
theorem slice_of_owns {W : World} {e base size k : Nat} {v : Value} {xs : List Value} (hr : W.ownsRow base e size v k xs) : ∃ a l c, v = .slice a l c := by
  rcases hr.2 with ⟨rfl, _⟩ | ⟨g, cap, cur, rfl, _⟩
  · exact ⟨_, _, _, rfl⟩
  · exact ⟨_, _, _, rfl⟩
theorem evT : ElemT Tryz.prog 34 77 2 := by
  have h : (Tryz.prog.info? 77).map (fun i => (i.zero, i.size, i.bytes)) = some (some (.agg #[.string ⟨#[]⟩, .string ⟨#[]⟩]), 2, 32) := by kernel_rfl
  obtain ⟨i0, hi, hz0, hz1, hz2⟩ := info_parts h
  exact ⟨Tryz.underlying34, ⟨i0, _, 32, hi, hz0, hz1, hz2, rfl, by omega⟩, by omega⟩
theorem evCells_snoc (es : List Evt.Event) (k d : ByteArray) : evCells (es ++ [⟨k.data.toList, d.data.toList⟩]) = evCells es ++ [.string k, .string d] := by
  simp [evCells]
theorem small_snoc {es : List Evt.Event} (h : Small es) (k d : ByteArray) (hk : k.size ≤ 1000000) (hd : d.size ≤ 1000000) : Small (es ++ [⟨k.data.toList, d.data.toList⟩]) := by
  intro e he
  rcases List.mem_append.1 he with he | he
  · exact h e he
  · obtain rfl : e = ⟨k.data.toList, d.data.toList⟩ := by simpa using he
    exact ⟨by simp only; rw [← Lib.size_eq]; exact hk, by simp only; rw [← Lib.size_eq]; exact hd⟩
def ZBat (b : Nat) (w : World) : Prop := Bat b ⟨#[]⟩ 0 0 0 (.slice none 0 0) w

set_option maxHeartbeats 4000000 in
set_option maxRecDepth 100000 in
theorem takeBatch_any (s : ByteArray) (w : World) (hE : Env w) (hs : s.size ≤ 1000000) :
    Calls Tryz.prog 117 #[.string s] w fun e w' => ∃ (S : ByteArray) (ex se sq : Int) (v : Value) (es : List Evt.Event) (r : ByteArray) (c : Nat), e = .returned (.tuple #[.agg #[.string S, .int .i64 ex, .int .i64 se, .int .i64 sq, v], .string r, .int .i64 (c : Int)]) ∧
      Hid (Evt.takeBatch s.data.toList = (⟨S.data.toList, ex, se, sq, es⟩, r.data.toList, c)) ∧ w'.ownsRow w.heap.size 77 2 v es.length (evCells es) ∧ S.size ≤ 1000000 ∧ Small es ∧ es.length ≤ 8 ∧ r.size ≤ s.size ∧ Below w.heap.size w w' := by
  have hz0 : ZBat w.heap.size (w.alloc (.cells #[.string ⟨#[]⟩, .int .i64 0, .int .i64 0, .int .i64 0, .slice none 0 0] 36)) := heap_alloc_new w _
  have hr0 : Rdr (w.heap.size + 1) s 0 ((w.alloc (.cells #[.string ⟨#[]⟩, .int .i64 0, .int .i64 0, .int .i64 0, .slice none 0 0] 36)).alloc (.cells #[.string s, .int .i64 0] 188)) := by
    have := heap_alloc_new (w.alloc (.cells #[.string ⟨#[]⟩, .int .i64 0, .int .i64 0, .int .i64 0, .slice none 0 0] 36)) (.cells #[.string s, .int .i64 0] 188)
    rw [World.size_alloc] at this
    exact this
  have hz1 : ZBat w.heap.size ((w.alloc (.cells #[.string ⟨#[]⟩, .int .i64 0, .int .i64 0, .int .i64 0, .slice none 0 0] 36)).alloc (.cells #[.string s, .int .i64 0] 188)) := hz0.kept (World.grownBy_alloc _ _ none) (by simp)
  have hb1 : Below w.heap.size w ((w.alloc (.cells #[.string ⟨#[]⟩, .int .i64 0, .int .i64 0, .int .i64 0, .slice none 0 0] 36)).alloc (.cells #[.string s, .int .i64 0] 188)) := ((Below.refl _ _).alloc (Nat.le_refl _) _).alloc (by simp) _
  have hsz1 : ((w.alloc (.cells #[.string ⟨#[]⟩, .int .i64 0, .int .i64 0, .int .i64 0, .slice none 0 0] 36)).alloc (.cells #[.string s, .int .i64 0] 188)).heap.size = w.heap.size + 2 := by simp
  go_enter Tryz.func117, Tryz.ntmps117
  go_wp2_with fail
  obtain ⟨W1, hW1⟩ : ∃ W1, ((w.alloc (.cells #[.string ⟨#[]⟩, .int .i64 0, .int .i64 0, .int .i64 0, .slice none 0 0] 36)).alloc (.cells #[.string s, .int .i64 0] 188)) = W1 := ⟨_, rfl⟩
  rw [hW1] at hr0 hz1 hb1 hsz1 ⊢
  clear hW1 hz0
  refine (rname_any (w.heap.size + 1) s 0 W1 hr0 (by omega)).mono ?_
  rintro e w1 ⟨S, L1, c1, rfl, H1, l1, n1, r1, g1⟩
  go_wp2_with fail
  refine (signed_any (w.heap.size + 1) L1 c1 w1 r1 (by omega)).mono ?_
  rintro e w2 ⟨ex, L2, c2, rfl, H2, l2, r2, g2⟩
  go_wp2_with fail
  refine (number_any (w.heap.size + 1) L2 c2 w2 r2 (by omega)).mono ?_
  rintro e w3 ⟨se, L3, c3, rfl, H3, l3, r3, g3⟩
  go_wp2_with fail
  refine (number_any (w.heap.size + 1) L3 c3 w3 r3 (by omega)).mono ?_
  rintro e w4 ⟨sq, L4, c4, rfl, H4, l4, r4, g4⟩
  have hR : w.heap.size ≤ w.heap.size + 1 := by omega
  have g14 := grown_trans (grown_trans (grown_trans g1 g2) g3) g4
  have hb4 : Below w.heap.size w w4 := hb1.trans (below_of_grown g14 hR (by omega))
  have hz4 : ZBat w.heap.size w4 := hz1.kept g14 (by simp)
  have hs4 : w.heap.size + 2 ≤ w4.heap.size := by have := g14.size; omega
  have hB4 : Bat w4.heap.size S ex se sq (.slice none 0 0) (w4.alloc (.cells #[.string S, .int .i64 ex, .int .i64 (se : Int), .int .i64 (sq : Int), .slice none 0 0] 36)) := heap_alloc_new w4 _
  have r5 : Rdr (w.heap.size + 1) L4 c4 (w4.alloc (.cells #[.string S, .int .i64 ex, .int .i64 (se : Int), .int .i64 (sq : Int), .slice none 0 0] 36)) := r4.kept (World.grownBy_alloc _ _ none) (by simp)
  have hz5 : ZBat w.heap.size (w4.alloc (.cells #[.string S, .int .i64 ex, .int .i64 (se : Int), .int .i64 (sq : Int), .slice none 0 0] 36)) := hz4.kept (World.grownBy_alloc _ _ none) (by simp)
  have hb5 : Below w.heap.size w (w4.alloc (.cells #[.string S, .int .i64 ex, .int .i64 (se : Int), .int .i64 (sq : Int), .slice none 0 0] 36)) := hb4.alloc (by omega) _
  have hs5 : (w4.alloc (.cells #[.string S, .int .i64 ex, .int .i64 (se : Int), .int .i64 (sq : Int), .slice none 0 0] 36)).heap.size = w4.heap.size + 1 := by simp
  go_wp2_with fail
  obtain ⟨W5, hW5⟩ : ∃ W5, w4.alloc (.cells #[.string S, .int .i64 ex, .int .i64 (se : Int), .int .i64 (sq : Int), .slice none 0 0] 36) = W5 := ⟨_, rfl⟩
  rw [hW5] at hB4 r5 hz5 hb5 hs5 ⊢
  clear hW5
  refine (number_any (w.heap.size + 1) L4 c4 W5 r5 (by omega)).mono ?_
  rintro e w6 ⟨many, L5, c5, rfl, H5, l5, r6, g6⟩
  obtain ⟨B6, hB6⟩ : ∃ B6, w4.heap.size = B6 := ⟨_, rfl⟩
  rw [hB6] at hB4 hs4 hs5 ⊢
  clear hB6
  have hne : some B6 ≠ some (w.heap.size + 1) := by simp; omega
  have hB6 := hB4.kept g6 hne
  have hz6 := Bat.kept hz5 g6 (by simp)
  have hb6 : Below w.heap.size w w6 := hb5.trans (below_of_grown g6 hR (by omega))
  have hs6 : B6 < w6.heap.size := by have := g6.size; omega
  have HH := Lib.hid (show Evt.rdHead s.data.toList = (S.data.toList, ex, se, sq, many, L5.data.toList, c5) by
    unfold Evt.rdHead; simp only; rw [H1.out]; simp only; rw [H2.out]; simp only; rw [H3.out]; simp only; rw [H4.out]; simp only; rw [H5.out])
  have hl5 : L5.size ≤ s.size := by omega
  have hSs : S.size ≤ 1000000 := by omega
  clear H1 H2 H3 H4 H5 l1 l2 l3 l4 l5 n1 r1 r2 r3 r4 r5 g1 g2 g3 g4 g14 g6 hb1 hb4 hb5 hz1 hz4 hz5 hB4 hr0 hs5 hsz1
  go_upto_if 25 with fail
  go_cut [] (fun wx => ∃ c6, Hid (Evt.rdMany many (L5.data.toList, c5) = (L5.data.toList, c6)) ∧ (many ≤ 8 ∨ c6 ≠ 0) ∧ Rdr (w.heap.size + 1) L5 c6 wx ∧ Bat B6 S ex se sq (.slice none 0 0) wx ∧ ZBat w.heap.size wx ∧ Below w.heap.size w wx ∧ B6 < wx.heap.size)
  case first =>
    by_cases h8 : (8 : Int) < many
    · go_wp2_with fail
      refine (note_any (w.heap.size + 1) L5 c5 4 w6 r6).mono ?_
      rintro e w7 ⟨c6, rfl, H6, r7, g7⟩
      have HM := Lib.hid (show Evt.rdMany many (L5.data.toList, c5) = (L5.data.toList, c6) by rw [Evt.rdMany, if_pos (by omega)]; exact H6.out)
      have hc6 : c6 ≠ 0 := by
        have := H6.out
        unfold Evt.note at this
        split at this
        · simp only [Prod.mk.injEq] at this; omega
        · rename_i h; simp only [Prod.mk.injEq] at this h; omega
      go_wp2
      go_meet
      exact ⟨c6, HM, .inr hc6, r7, hB6.kept g7 hne, Bat.kept hz6 g7 (by simp), hb6.trans (below_of_grown g7 hR hb6.size), by have := g7.size; omega⟩
    · have HM := Lib.hid (show Evt.rdMany many (L5.data.toList, c5) = (L5.data.toList, c5) by rw [Evt.rdMany, if_neg (by omega)])
      go_wp2
      go_meet
      exact ⟨c5, HM, .inl (by omega), r6, hB6, hz6, hb6, hs6⟩
  case rest =>
    obtain ⟨c6, HM, h8, r7, hB7, hz7, hb7, hs7⟩ := hcut
    obtain ⟨Q, hQ⟩ : ∃ Q, Evt.rdEvents many (L5.data.toList, c6) = Q := ⟨_, rfl⟩
    have HQ := Lib.hid hQ
    clear hQ r6 hB6 hz6 hb6 hs6
    go_wp2
    go_loopw [8] (fun iv wr => ∃ (i : Nat) (es : List Evt.Event) (L : ByteArray) (c : Nat) (v : Value), iv = .int .i64 (i : Int) ∧ i ≤ many ∧ (many ≤ 8 ∨ c ≠ 0) ∧ Rdr (w.heap.size + 1) L c wr ∧ Bat B6 S ex se sq v wr ∧ ZBat w.heap.size wr ∧ Below w.heap.size w wr ∧ B6 < wr.heap.size ∧
        wr.ownsRow w.heap.size 77 2 v es.length (evCells es) ∧ Small es ∧ es.length ≤ i ∧ es.length ≤ 8 ∧ L.size ≤ s.size ∧ es ++ (Evt.rdEvents (many - i) (L.data.toList, c)).1 = Q.1 ∧ (Evt.rdEvents (many - i) (L.data.toList, c)).2 = Q.2) (fun iv _ => many - (intOf iv).toNat)
    case atStart => exact ⟨0, [], L5, c6, _, rfl, by omega, h8, r7, hB7, hz7, hb7, hs7, World.ownsRow_nil _ _ _ _, (fun e he => by cases he), by simp, by simp, hl5, by rw [Nat.sub_zero, HQ.out]; rfl, by rw [Nat.sub_zero, HQ.out]⟩
    case round =>
      obtain ⟨i, es, L, c, v, rfl, hi, h8', hr, hB, hz, hb, hsz, hown, hsm, hel, hel8, hL, hq1, hq2⟩ := hrel
      have HQ1 := Lib.hid hq1; have HQ2 := Lib.hid hq2
      clear hq1 hq2 r7 hB7 hz7 hb7 hs7
      by_cases hgo : i < many ∧ c = 0
      · obtain ⟨hi1, hc0⟩ := hgo
        subst hc0
        have hi1' : (i : Int) < many := by omega
        have h0b : (((0 : Nat) : Int) == 0) = true := rfl
        obtain ⟨sa, sl, sc, rfl⟩ := slice_of_owns hown
        obtain ⟨p0, p1, q0, q1⟩ := hr.cells
        go_wp2_with fail
        refine (revent_any (w.heap.size + 1) L 0 wr hr (by omega)).mono ?_
        rintro e w1 ⟨k, d, L', c', rfl, HE, hl1, hk1, hd1, r1, g1⟩
        have B1 := hB.kept g1 hne
        have Z1 := Bat.kept hz g1 (by simp)
        have own1 := hown.kept g1 (.inr (cells_not_row hr (by decide) hown).symm)
        have hb1 : Below w.heap.size w w1 := hb.trans (below_of_grown g1 hR hb.size)
        have hs1 : B6 < w1.heap.size := by have := g1.size; omega
        have B1a := B1.kept (World.grownBy_alloc w1 (.cells #[.string k, .string d] 77) none) (by simp)
        have Z1a := Bat.kept Z1 (World.grownBy_alloc w1 (.cells #[.string k, .string d] 77) none) (by simp)
        have r1a := r1.kept (World.grownBy_alloc w1 (.cells #[.string k, .string d] 77) none) (by simp)
        have own1a := own1.alloc (.cells #[.string k, .string d] 77)
        have hb1a := hb1.alloc hb1.size (.cells #[.string k, .string d] 77)
        have hs1a : B6 < (w1.alloc (.cells #[.string k, .string d] 77)).heap.size := by simp; omega
        have b4 : w1.cell? ⟨B6, 4, none⟩ = some (.slice sa sl sc) := by rw [Lib.cell_of_heap B1]; rfl
        have HS := Lib.hid (show Evt.rdEvents (many - i) (L.data.toList, 0) = (⟨k.data.toList, d.data.toList⟩ :: (Evt.rdEvents (many - (i + 1)) (L'.data.toList, c')).1, (Evt.rdEvents (many - (i + 1)) (L'.data.toList, c')).2) by
          rw [show many - i = (many - (i + 1)) + 1 by omega, Evt.rdEvents, if_neg (by simp), HE.out])
        have HN1 := Lib.hid (show (es ++ [⟨k.data.toList, d.data.toList⟩]) ++ (Evt.rdEvents (many - (i + 1)) (L'.data.toList, c')).1 = Q.1 by rw [← HQ1.out, HS.out]; simp)
        have HN2 := Lib.hid (show (Evt.rdEvents (many - (i + 1)) (L'.data.toList, c')).2 = Q.2 by rw [← HQ2.out, HS.out])
        have hm8 : many ≤ 8 := by omega
        clear HS HE HQ1 HQ2 HQ HM HH hr hB hz hown hb p0 p1 q0 q1 g1 B1 Z1 r1 own1
        go_wp2_with (at_builtin; refine wpList_append_newG rfl _ _ _ rfl evT rfl own1a hb1a (Nat.le_trans hb1.size (by simp)) _ _ rfl (by simp) rfl (by simp [Value.oneCell']) (by omega) ?_)
        intro v' w2 hown' hg2 hb2 hs2
        obtain ⟨g', cap', rfl⟩ := ownsRow_succ hown'
        have B2 := B1a.kept hg2 (cells_not_row B1a (by decide) own1a)
        have Z2 := Bat.kept Z1a hg2 (cells_not_row Z1a (by decide) own1a)
        have r2 := r1a.kept hg2 (cells_not_row r1a (by decide) own1a)
        have b4' : w2.cell? ⟨B6, 4, none⟩ = some (.slice sa sl sc) := by rw [Lib.cell_of_heap B2]; rfl
        have b4f := Lib.frozen_of_heap B2 4
        have B3 := setCell_at (i := 4) B2 (.slice (some ⟨g', 0, none⟩) (es.length + 1) cap')
        have Z3 := Bat.kept Z2 (grown_set w2 B6 4 (.slice (some ⟨g', 0, none⟩) (es.length + 1) cap')) (by simp; omega)
        have r3 := r2.kept (grown_set w2 B6 4 (.slice (some ⟨g', 0, none⟩) (es.length + 1) cap')) (by simp; omega)
        have own3 := hown'.kept (grown_set w2 B6 4 (.slice (some ⟨g', 0, none⟩) (es.length + 1) cap')) (.inr (cells_not_row B2 (by decide) hown').symm)
        rw [← evCells_snoc] at own3
        have H3 := Lib.hid (And.intro (show Bat B6 S ex se sq (.slice (some ⟨g', 0, none⟩) (es.length + 1) cap') _ from B3) (And.intro Z3 (And.intro r3 own3)))
        have hb3 := hb2.setCell (p := ⟨B6, 4, none⟩) (by simp; omega) (.slice (some ⟨g', 0, none⟩) (es.length + 1) cap')
        have HB3 := Lib.hid hb3
        clear B2 Z2 r2 B3 Z3 r3 own3 B1a Z1a r1a own1a hown' hg2 hb2 hb3 hb1a
        go_wp2
        exact ⟨⟨i + 1, es ++ [⟨k.data.toList, d.data.toList⟩], L', c', _, by go_num, by omega, .inl hm8, H3.out.2.2.1, H3.out.1, H3.out.2.1, HB3.out, by simp at hs2 ⊢; omega, by simpa using H3.out.2.2.2, small_snoc hsm k d (by omega) (by omega), by simp; omega, by simp; omega, by omega, HN1.out, HN2.out⟩, by simp [intOf]; omega⟩
      · have hend : Evt.rdEvents (many - i) (L.data.toList, c) = ([], L.data.toList, c) := by
          by_cases hc0 : c = 0
          · rw [show many - i = 0 by omega]; rfl
          · cases e : many - i with
            | zero => rfl
            | succ n => rw [Evt.rdEvents, if_pos (by simpa using hc0)]
        have HTB := Lib.hid (show Evt.takeBatch s.data.toList = if (Evt.rdLast ⟨S.data.toList, ex, se, sq, es⟩ (L.data.toList, c)).2 ≠ 0 then (Evt.zeroB, [], (Evt.rdLast ⟨S.data.toList, ex, se, sq, es⟩ (L.data.toList, c)).2) else (⟨S.data.toList, ex, se, sq, es⟩, (Evt.rdLast ⟨S.data.toList, ex, se, sq, es⟩ (L.data.toList, c)).1, 0) by
          have q1 := HQ1.out
          have q2 := HQ2.out
          rw [hend] at q1 q2
          simp only [List.append_nil] at q1 q2
          unfold Evt.takeBatch
          rw [HH.out]
          simp only
          rw [HM.out, HQ.out, ← q1, ← q2])
        have hts : ((i : Int) < many ∧ ((c : Int) == 0) = false) ∨ ¬ (i : Int) < many := by
          by_cases h : i < many
          · left; refine ⟨by omega, ?_⟩
            have : c ≠ 0 := fun h0 => hgo ⟨h, h0⟩
            simp; omega
          · right; omega
        obtain ⟨sa, sl, sc, rfl⟩ := slice_of_owns hown
        obtain ⟨p0, p1, q0, q1⟩ := hr.cells
        have hZc : wr.cell? ⟨B6, 4, none⟩ = some (.slice sa sl sc) := by rw [Lib.cell_of_heap hB]; rfl
        have hB0 : wr.cell? ⟨B6, 0, none⟩ = some (.string S) := by rw [Lib.cell_of_heap hB]; rfl
        have hB1 : wr.cell? ⟨B6, 1, none⟩ = some (.int .i64 ex) := by rw [Lib.cell_of_heap hB]; rfl
        have hB2 : wr.cell? ⟨B6, 2, none⟩ = some (.int .i64 (se : Int)) := by rw [Lib.cell_of_heap hB]; rfl
        have hB3 : wr.cell? ⟨B6, 3, none⟩ = some (.int .i64 (sq : Int)) := by rw [Lib.cell_of_heap hB]; rfl
        have HFI := Lib.hid (fits_any S ex se sq (.slice sa sl sc) es wr (hE.next hb) hSs (cells_of_owns hown) (by omega) hsm)
        obtain ⟨F, hF⟩ : ∃ F, Evt.fits ⟨S.data.toList, ex, se, sq, es⟩ = F := ⟨_, rfl⟩
        rw [hF] at HFI
        have HFF := Lib.hid hF
        clear hF hgo hend HQ HQ1 HQ2 HM HH hi h8 h8'
        rcases hts with ⟨ht1, ht2⟩ | ht1
        all_goals
          go_wp2_with fail
          refine HFI.out.mono ?_
          rintro e w8 ⟨rfl, b8⟩
          have r8 := hr.kept (grown_of_below b8) (by simp)
          have z8 := Bat.kept hz (grown_of_below b8) (by simp)
          have hB8 := hB.kept (grown_of_below b8) (by simp)
          have own8 := owns_next hown b8
          have hb8 := Below.up hb (Nat.le_refl _) b8
          have hs8 := hb8.size
          clear hZc hB0 hB1 hB2 hB3 p0 p1 q0 q1 hr hz hB hown hb b8 HFI
          by_cases hF0 : F = 0
          · have hFb : ((F : Int) != 0) = false := by simp [hF0]
            have HL := Lib.hid (show Evt.rdLast ⟨S.data.toList, ex, se, sq, es⟩ (L.data.toList, c) = (L.data.toList, c) by rw [Evt.rdLast, HFF.out, if_neg (by simp [hF0])])
            obtain ⟨p0, p1, q0, q1⟩ := r8.cells
            have hB0 : w8.cell? ⟨B6, 0, none⟩ = some (.string S) := by rw [Lib.cell_of_heap hB8]; rfl
            have hB1 : w8.cell? ⟨B6, 1, none⟩ = some (.int .i64 ex) := by rw [Lib.cell_of_heap hB8]; rfl
            have hB2 : w8.cell? ⟨B6, 2, none⟩ = some (.int .i64 (se : Int)) := by rw [Lib.cell_of_heap hB8]; rfl
            have hB3 : w8.cell? ⟨B6, 3, none⟩ = some (.int .i64 (sq : Int)) := by rw [Lib.cell_of_heap hB8]; rfl
            have hB4 : w8.cell? ⟨B6, 4, none⟩ = some (.slice sa sl sc) := by rw [Lib.cell_of_heap hB8]; rfl
            obtain ⟨z0, z1, z2, z3, z4, f0, f1, f2, f3, f4⟩ := Bat.cells z8
            by_cases hc0 : c = 0
            · subst hc0
              have HT := Lib.hid (show Evt.takeBatch s.data.toList = (⟨S.data.toList, ex, se, sq, es⟩, L.data.toList, 0) by rw [HTB.out, HL.out, if_neg (by simp)])
              first
              | (exfalso; simp at ht2; done)
              | (have HP := Lib.hid (Bat.put5 z8 S ex se sq (.slice sa sl sc))
                 have ownN := own8.kept HP.out.2 (.inr (cells_not_row z8 (by decide) own8).symm)
                 have HN := Lib.hid ownN
                 have HBN := Lib.hid (hb8.trans (below_of_grown HP.out.2 (Nat.le_refl _) hs8))
                 clear HTB HL hF0 ownN
                 go_wp2
                 go_region
                 go_wp2
                 (try simp only [Exit.inBlock, Exit.then])
                 refine bodyPost_ret (results_cell3 rfl _ _ w.heap.size _ _ _ _ rfl HP.out.1 Tryz.underlying36 rfl batch_size) rfl ?_
                 exact ⟨S, ex, se, sq, _, es, L, 0, rfl, HT, HN.out, hSs, hsm, hel8, hL, HBN.out⟩)
            · have hcb : ((c : Int) != 0) = true := by simp; omega
              have HT := Lib.hid (show Evt.takeBatch s.data.toList = (Evt.zeroB, [], c) by rw [HTB.out, HL.out, if_pos (by simpa using hc0)])
              have HP := Lib.hid (Bat.put5 z8 ⟨#[]⟩ 0 0 0 (.slice none 0 0))
              have HBN := Lib.hid (hb8.trans (below_of_grown HP.out.2 (Nat.le_refl _) hs8))
              clear HTB HL hF0
              go_wp2
              go_region
              go_wp2
              (try simp only [Exit.inBlock, Exit.then])
              refine bodyPost_ret (results_cell3 rfl _ _ w.heap.size _ _ _ _ rfl HP.out.1 Tryz.underlying36 rfl batch_size) rfl ?_
              exact ⟨⟨#[]⟩, 0, 0, 0, _, [], ⟨#[]⟩, c, rfl, HT, World.ownsRow_nil _ _ _ _, Nat.zero_le _, (fun e he => by cases he), by simp, Nat.zero_le _, HBN.out⟩
          · have hFb : ((F : Int) != 0) = true := by simp; omega
            have HL := Lib.hid (show Evt.rdLast ⟨S.data.toList, ex, se, sq, es⟩ (L.data.toList, c) = Evt.note (L.data.toList, c) 2 by rw [Evt.rdLast, HFF.out, if_pos hF0])
            go_wp2_with fail
            refine (note_any (w.heap.size + 1) L c 2 w8 r8).mono ?_
            rintro e w9 ⟨c9, rfl, H9, r9, g9⟩
            have hc9 : c9 ≠ 0 := by
              have := H9.out
              unfold Evt.note at this
              split at this
              · simp only [Prod.mk.injEq] at this; omega
              · rename_i h; simp only [Prod.mk.injEq] at this h; omega
            have hcb : ((c9 : Int) != 0) = true := by simp; omega
            have HT := Lib.hid (show Evt.takeBatch s.data.toList = (Evt.zeroB, [], c9) by rw [HTB.out, HL.out, H9.out, if_pos (by simpa using hc9)])
            have z9 := Bat.kept z8 g9 (by simp)
            have hb9 := hb8.trans (below_of_grown g9 hR hs8)
            obtain ⟨p0, p1, q0, q1⟩ := r9.cells
            obtain ⟨z0, z1, z2, z3, z4, f0, f1, f2, f3, f4⟩ := Bat.cells z9
            have HP := Lib.hid (Bat.put5 z9 ⟨#[]⟩ 0 0 0 (.slice none 0 0))
            have HBN := Lib.hid (hb9.trans (below_of_grown HP.out.2 (Nat.le_refl _) hb9.size))
            clear HTB HL H9 hF0 HFF
            go_wp2
            go_region
            go_wp2
            (try simp only [Exit.inBlock, Exit.then])
            refine bodyPost_ret (results_cell3 rfl _ _ w.heap.size _ _ _ _ rfl HP.out.1 Tryz.underlying36 rfl batch_size) rfl ?_
            exact ⟨⟨#[]⟩, 0, 0, 0, _, [], ⟨#[]⟩, c9, rfl, HT, World.ownsRow_nil _ _ _ _, Nat.zero_le _, (fun e he => by cases he), by simp, Nat.zero_le _, HBN.out⟩
end Go.Proofs.YthmblkckpdpjkaaGreatDoor
