/-
  The walks of the document's answers to layers 5 and 6: parts, TakeBatch.
-/
import Derived.Test.YtiaddfghojdgkaaGreatDoorRRec
namespace Go.Proofs.YtiaddfghojdgkaaGreatDoor
open Go.RowKit Go.Shelf

theorem Num.takeF_err : ∀ (l : List UInt8) (i n : Nat), (Num.takeF i n l).2.2 ≠ 0 → (Num.takeF i n l).1 = 0 ∧ (Num.takeF i n l).2.1 = []
  | [], _, _, _ => ⟨rfl, rfl⟩
  | c :: l, i, n, h => by
    unfold Num.takeF at h ⊢
    split
    · exact ⟨rfl, rfl⟩
    split
    · rename_i h1 h2
      rw [if_neg h1, if_pos h2] at h
      exact Num.takeF_err l _ _ h
    split
    · exact ⟨rfl, rfl⟩
    split
    · exact ⟨rfl, rfl⟩
    · rename_i h1 h2 h3 h4
      rw [if_neg h1, if_neg h2, if_neg h3, if_neg h4] at h
      exact absurd rfl h
theorem Num.take_err {l : List UInt8} (h : (Num.take l).2.2 ≠ 0) : (Num.take l).1 = 0 ∧ (Num.take l).2.1 = [] := Num.takeF_err l 0 0 h
theorem Num.takeText_err {l : List UInt8} {m : Int} (h : (Num.takeText l m).2.2 ≠ 0) : (Num.takeText l m).1 = [] ∧ (Num.takeText l m).2.1 = [] := by
  unfold Num.takeText at h ⊢
  split
  · exact ⟨rfl, rfl⟩
  split
  · exact ⟨rfl, rfl⟩
  split
  · exact ⟨rfl, rfl⟩
  · rename_i h1 h2 h3
    rw [if_neg h1, if_neg h2, if_neg h3] at h
    exact absurd rfl h
/-- Two texts, one behind the other: an event, right or not. -/
theorem Evt.rdEvent_of {s k q d r : List UInt8} {c : Nat} (h1 : Num.takeText s 200 = (k, q, 0)) (h2 : Num.takeText q 200 = (d, r, c)) : Evt.rdEvent (s, 0) = (⟨k, d⟩, r, c) := by
  have e1 : Evt.rdName (s, 0) = (k, q, 0) := by rw [Evt.rdName, if_neg (by simp), h1]
  have e2 : Evt.rdName (q, 0) = (d, r, c) := by rw [Evt.rdName, if_neg (by simp), h2]
  rw [Evt.rdEvent, e1]; simp only; rw [e2]
theorem Evt.rdEvent_bad {s k q : List UInt8} {c : Nat} (h1 : Num.takeText s 200 = (k, q, c)) (hc : c ≠ 0) : (Evt.rdEvent (s, 0)).2.2 = c := by
  have e1 : Evt.rdName (s, 0) = (k, q, c) := by rw [Evt.rdName, if_neg (by simp), h1]
  have e2 : Evt.rdName (q, c) = ([], q, c) := by rw [Evt.rdName, if_pos hc]
  rw [Evt.rdEvent, e1]; simp only; rw [e2]
def EvB (b : Nat) (k d : ByteArray) (w : World) : Prop := w.heap[b]? = some (.cells #[.string k, .string d] 222 (0, 0))
theorem EvB.put2 {b : Nat} {k0 d0 : ByteArray} {w : World} (h : EvB b k0 d0 w) (k d : ByteArray) : EvB b k d ((w.setCell ⟨b, 0, none⟩ (.string k)).setCell ⟨b, 1, none⟩ (.string d)) ∧ w.grownBy ((w.setCell ⟨b, 0, none⟩ (.string k)).setCell ⟨b, 1, none⟩ (.string d)) (some b) :=
  ⟨setCell_at (i := 1) (setCell_at (i := 0) h _) _, grown_trans (grown_set _ _ _ _) (grown_set _ _ _ _)⟩
theorem EvB.cells {b : Nat} {k d : ByteArray} {w : World} (h : EvB b k d w) : w.cell? ⟨b, 0, none⟩ = some (.string k) ∧ w.cell? ⟨b, 1, none⟩ = some (.string d) ∧ w.frozen? ⟨b, 0, none⟩ = false ∧ w.frozen? ⟨b, 1, none⟩ = false :=
  ⟨by rw [Lib.cell_of_heap h]; rfl, by rw [Lib.cell_of_heap h]; rfl, Lib.frozen_of_heap h 0, Lib.frozen_of_heap h 1⟩
set_option maxHeartbeats 2000000 in
theorem rparts_any (s : ByteArray) (w : World) (hs : s.size ≤ 1000000000000) :
    Calls Tryz.prog 255 #[.string s] w fun e w' => ∃ (k d r : ByteArray) (c : Nat), e = .returned (.tuple #[.agg #[.string k, .string d], .string r, .int .i64 (c : Int)]) ∧
      Hid (c = 0 ∧ Evt.rdEvent (s.data.toList, 0) = (⟨k.data.toList, d.data.toList⟩, r.data.toList, 0) ∨ c ≠ 0 ∧ (Evt.rdEvent (s.data.toList, 0)).2.2 = c) ∧ r.size ≤ s.size ∧ k.size ≤ s.size ∧ d.size ≤ s.size ∧ Below w.heap.size w w' := by
  have hz0 : EvB w.heap.size ⟨#[]⟩ ⟨#[]⟩ (w.alloc (.cells #[.string ⟨#[]⟩, .string ⟨#[]⟩] 222)) := heap_alloc_new w _
  have hb0 : Below w.heap.size w (w.alloc (.cells #[.string ⟨#[]⟩, .string ⟨#[]⟩] 222)) := (Below.refl _ _).alloc (Nat.le_refl _) _
  have HZ0 := Lib.hid hz0
  have HB0 := Lib.hid hb0
  have HT1 := Lib.hid (rtakeText_any s 200 (w.alloc (.cells #[.string ⟨#[]⟩, .string ⟨#[]⟩] 222)) hs)
  clear hz0 hb0
  go_enter Tryz.func255, Tryz.ntmps255
  go_wp2_with fail
  refine HT1.out.mono ?_
  rintro e w1 ⟨k, q, c, rfl, H1, b1⟩
  have hz1 : EvB w.heap.size ⟨#[]⟩ ⟨#[]⟩ w1 := heap_kept b1 (Nat.le_refl _) HZ0.out
  have hb1 := Below.up HB0.out (Nat.le_refl _) b1
  have hl := Num.takeText_le s.data.toList 200
  rw [H1.out, ← Lib.size_eq, ← Lib.size_eq, ← Lib.size_eq] at hl
  clear HT1 HZ0 HB0 b1
  by_cases hc : c = 0
  · subst hc
    have HT2 := Lib.hid (rtakeText_any q 200 w1 (by omega))
    go_wp2_with fail
    refine HT2.out.mono ?_
    rintro e w2 ⟨d, r, c2, rfl, H2, b2⟩
    have hz2 : EvB w.heap.size ⟨#[]⟩ ⟨#[]⟩ w2 := heap_kept b2 (Nat.le_refl _) hz1
    have hb2 := Below.up hb1 (Nat.le_refl _) b2
    have hl2 := Num.takeText_le q.data.toList 200
    rw [H2.out, ← Lib.size_eq, ← Lib.size_eq, ← Lib.size_eq] at hl2
    have HE := Lib.hid (Evt.rdEvent_of H1.out H2.out)
    obtain ⟨c0, c1, f0, f1⟩ := hz2.cells
    clear HT2 H1 H2 b2 hz1
    by_cases hc2 : c2 = 0
    · subst hc2
      have HP := Lib.hid (hz2.put2 k d)
      have HBN := Lib.hid (hb2.trans (below_of_grown HP.out.2 (Nat.le_refl _) hb2.size))
      clear hz2
      go_wp2
      (try simp only [Exit.inBlock, Exit.then])
      refine bodyPost_ret (results_cell3 rfl _ _ w.heap.size _ _ _ _ rfl HP.out.1 Tryz.underlying222 rfl event_size) rfl ?_
      exact ⟨k, d, r, 0, rfl, Lib.hid (.inl ⟨rfl, HE.out⟩), by omega, by omega, by omega, HBN.out⟩
    · have hcb : ((c2 : Int) != 0) = true := by simp; omega
      have HP := Lib.hid (hz2.put2 ⟨#[]⟩ ⟨#[]⟩)
      have HBN := Lib.hid (hb2.trans (below_of_grown HP.out.2 (Nat.le_refl _) hb2.size))
      have HC := Lib.hid hc2
      clear hz2 hc2
      go_wp2
      (try simp only [Exit.inBlock, Exit.then])
      refine bodyPost_ret (results_cell3 rfl _ _ w.heap.size _ _ _ _ rfl HP.out.1 Tryz.underlying222 rfl event_size) rfl ?_
      exact ⟨⟨#[]⟩, ⟨#[]⟩, ⟨#[]⟩, c2, rfl, Lib.hid (.inr ⟨HC.out, by rw [HE.out]⟩), Nat.zero_le _, Nat.zero_le _, Nat.zero_le _, HBN.out⟩
  · have hcb : ((c : Int) != 0) = true := by simp; omega
    obtain ⟨c0, c1, f0, f1⟩ := hz1.cells
    have HP := Lib.hid (hz1.put2 ⟨#[]⟩ ⟨#[]⟩)
    have HBN := Lib.hid (hb1.trans (below_of_grown HP.out.2 (Nat.le_refl _) hb1.size))
    have HE := Lib.hid (Evt.rdEvent_bad H1.out hc)
    have HC := Lib.hid hc
    clear hz1 hc H1
    go_wp2
    (try simp only [Exit.inBlock, Exit.then])
    refine bodyPost_ret (results_cell3 rfl _ _ w.heap.size _ _ _ _ rfl HP.out.1 Tryz.underlying222 rfl event_size) rfl ?_
    exact ⟨⟨#[]⟩, ⟨#[]⟩, ⟨#[]⟩, c, rfl, Lib.hid (.inr ⟨HC.out, HE.out⟩), Nat.zero_le _, Nat.zero_le _, Nat.zero_le _, HBN.out⟩
theorem Bat.putN {b : Nat} {S0 : ByteArray} {e0 s0 q0 : Int} {v0 : Value} {w : World} (h : Bat b S0 e0 s0 q0 v0 w) (S : ByteArray) (ex se sq : Int) (v : Value) :
    Bat b S ex se sq v (((((w.setCell ⟨b, 0, none⟩ (.string S)).setCell ⟨b, 1, none⟩ (.int .i64 ex)).setCell ⟨b, 2, none⟩ (.int .i64 se)).setCell ⟨b, 3, none⟩ (.int .i64 sq)).setCell ⟨b, 4, none⟩ v) ∧
      w.grownBy (((((w.setCell ⟨b, 0, none⟩ (.string S)).setCell ⟨b, 1, none⟩ (.int .i64 ex)).setCell ⟨b, 2, none⟩ (.int .i64 se)).setCell ⟨b, 3, none⟩ (.int .i64 sq)).setCell ⟨b, 4, none⟩ v) (some b) := by
  have h1 := setCell_at (i := 0) h (.string S)
  have h2 := setCell_at (i := 1) h1 (.int .i64 ex)
  have h3 := setCell_at (i := 2) h2 (.int .i64 se)
  have h4 := setCell_at (i := 3) h3 (.int .i64 sq)
  have h5 := setCell_at (i := 4) h4 v
  exact ⟨h5, grown_trans (grown_trans (grown_trans (grown_trans (grown_set w b 0 (.string S)) (grown_set _ b 1 (.int .i64 ex))) (grown_set _ b 2 (.int .i64 se))) (grown_set _ b 3 (.int .i64 sq))) (grown_set _ b 4 v)⟩
namespace Evt
theorem rd_bad {L : List UInt8} {n c : Nat} {X : List UInt8 × Nat} (h : (rdEvent (L, 0)).2.2 = c) (hc : c ≠ 0) (q : (rdEvents (n + 1) (L, 0)).2 = X) : X.2 = c := by
  rw [← q, rdEvents, if_neg (by simp)]
  simp only
  cases n with
  | zero => exact h
  | succ n => rw [rdEvents, if_pos (by rw [h]; exact hc)]; exact h
theorem rd_more {L L1 : List UInt8} {n : Nat} {x : Event} (h : rdEvent (L, 0) = (x, L1, 0)) : rdEvents (n + 1) (L, 0) = (x :: (rdEvents n (L1, 0)).1, (rdEvents n (L1, 0)).2) := by
  rw [rdEvents, if_neg (by simp), h]
theorem note_keep {st : List UInt8 × Nat} {e : Nat} (h : st.2 ≠ 0) : note st e = st := by unfold note; rw [if_neg h]
theorem rdLast_keep {b : Batch} {st : List UInt8 × Nat} (h : st.2 ≠ 0) : rdLast b st = st := by
  unfold rdLast
  split
  · exact note_keep h
  · rfl
theorem rdEvents_keep {n : Nat} {st : List UInt8 × Nat} (h : st.2 ≠ 0) : rdEvents n st = ([], st) := by
  cases n with
  | zero => rfl
  | succ n => rw [rdEvents, if_pos h]
theorem rdMany_keep {m : Nat} {st : List UInt8 × Nat} (h : st.2 ≠ 0) : rdMany m st = st := by
  unfold rdMany
  split
  · exact note_keep h
  · rfl
theorem tb_stop {s S r : List UInt8} {ex : Int} {a b m c : Nat} (h : rdHead s = (S, ex, a, b, m, (r, c))) (hc : c ≠ 0) : takeBatch s = (zeroB, [], c) := by
  unfold takeBatch
  rw [h]
  simp only
  rw [rdMany_keep hc, rdEvents_keep hc, rdLast_keep hc, if_pos hc]
theorem tb_many {s S r : List UInt8} {ex : Int} {a b m : Nat} (h : rdHead s = (S, ex, a, b, m, (r, 0))) (hm : 8 < m) : takeBatch s = (zeroB, [], 4) := by
  have e : rdMany m (r, 0) = (r, 4) := by unfold rdMany; rw [if_pos hm]; rfl
  unfold takeBatch
  rw [h]
  simp only
  rw [e, rdEvents_keep (by simp), rdLast_keep (by simp), if_pos (by simp)]
theorem tb_go {s S r : List UInt8} {ex : Int} {a b m : Nat} (h : rdHead s = (S, ex, a, b, m, (r, 0))) (hm : ¬ 8 < m) : takeBatch s = if (rdLast ⟨S, ex, a, b, (rdEvents m (r, 0)).1⟩ (rdEvents m (r, 0)).2).2 ≠ 0 then (zeroB, [], (rdLast ⟨S, ex, a, b, (rdEvents m (r, 0)).1⟩ (rdEvents m (r, 0)).2).2) else (⟨S, ex, a, b, (rdEvents m (r, 0)).1⟩, (rdLast ⟨S, ex, a, b, (rdEvents m (r, 0)).1⟩ (rdEvents m (r, 0)).2).1, 0) := by
  have e : rdMany m (r, 0) = (r, 0) := by unfold rdMany; rw [if_neg hm]
  unfold takeBatch
  rw [h]
  simp only
  rw [e]
theorem tb_end {s : List UInt8} {b : Batch} {st : List UInt8 × Nat} {c : Nat} (h : takeBatch s = if (rdLast b st).2 ≠ 0 then (zeroB, [], (rdLast b st).2) else (b, (rdLast b st).1, 0)) (hc : st.2 = c) (h0 : c ≠ 0) : takeBatch s = (zeroB, [], c) := by
  rw [h, rdLast_keep (by rw [hc]; exact h0), hc, if_pos h0]
theorem tb_bad {s L : List UInt8} {b : Batch} {st : List UInt8 × Nat} (h : takeBatch s = if (rdLast b st).2 ≠ 0 then (zeroB, [], (rdLast b st).2) else (b, (rdLast b st).1, 0)) (hc : st = (L, 0)) (hf : fits b ≠ 0) : takeBatch s = (zeroB, [], 2) := by
  have e : rdLast b st = (L, 2) := by rw [rdLast, if_pos hf, hc]; rfl
  rw [h, e, if_pos (by simp)]
theorem tb_ok {s L : List UInt8} {b : Batch} {st : List UInt8 × Nat} (h : takeBatch s = if (rdLast b st).2 ≠ 0 then (zeroB, [], (rdLast b st).2) else (b, (rdLast b st).1, 0)) (hc : st = (L, 0)) (hf : fits b = 0) : takeBatch s = (b, L, 0) := by
  have e : rdLast b st = (L, 0) := by rw [rdLast, if_neg (by rw [hf]; simp), hc]
  rw [h, e, if_neg (by simp)]
theorem hd1 {s S r1 : List UInt8} {c1 : Nat} (h1 : Num.takeText s 200 = (S, r1, c1)) (hc : c1 ≠ 0) : rdHead s = (S, 0, 0, 0, 0, (r1, c1)) := by
  simp [rdHead, rdName, rdInt, rdNum, h1, hc]
theorem hd2 {s S r1 r2 : List UInt8} {ex : Int} {c2 : Nat} (h1 : Num.takeText s 200 = (S, r1, 0)) (h2 : Num.takeInt r1 = (ex, r2, c2)) (hc : c2 ≠ 0) : rdHead s = (S, ex, 0, 0, 0, (r2, c2)) := by
  simp [rdHead, rdName, rdInt, rdNum, h1, h2, hc]
theorem hd3 {s S r1 r2 r3 : List UInt8} {ex : Int} {a c3 : Nat} (h1 : Num.takeText s 200 = (S, r1, 0)) (h2 : Num.takeInt r1 = (ex, r2, 0)) (h3 : Num.take r2 = (a, r3, c3)) (hc : c3 ≠ 0) : rdHead s = (S, ex, a, 0, 0, (r3, c3)) := by
  simp [rdHead, rdName, rdInt, rdNum, h1, h2, h3, hc]
theorem hd4 {s S r1 r2 r3 r4 : List UInt8} {ex : Int} {a b c4 : Nat} (h1 : Num.takeText s 200 = (S, r1, 0)) (h2 : Num.takeInt r1 = (ex, r2, 0)) (h3 : Num.take r2 = (a, r3, 0)) (h4 : Num.take r3 = (b, r4, c4)) (hc : c4 ≠ 0) : rdHead s = (S, ex, a, b, 0, (r4, c4)) := by
  simp [rdHead, rdName, rdInt, rdNum, h1, h2, h3, h4, hc]
theorem hd5 {s S r1 r2 r3 r4 r5 : List UInt8} {ex : Int} {a b m c5 : Nat} (h1 : Num.takeText s 200 = (S, r1, 0)) (h2 : Num.takeInt r1 = (ex, r2, 0)) (h3 : Num.take r2 = (a, r3, 0)) (h4 : Num.take r3 = (b, r4, 0)) (h5 : Num.take r4 = (m, r5, c5)) : rdHead s = (S, ex, a, b, m, (r5, c5)) := by
  simp [rdHead, rdName, rdInt, rdNum, h1, h2, h3, h4, h5]
end Evt
theorem rtakeInt2_any (s : ByteArray) (w : World) (hs : s.size ≤ 1000000000000) :
    Calls Tryz.prog 254 #[.string s] w fun e w' => ∃ (n : Int) (r : ByteArray) (c : Nat), e = .returned (.tuple #[.int .i64 n, .string r, .int .i64 c]) ∧ Hid (Num.takeInt s.data.toList = (n, r.data.toList, c)) ∧ Below w.heap.size w w' := by
  refine (rtakeInt_any s w hs).mono ?_
  rintro e w' ⟨n, r, c, rfl, H, hb⟩
  refine ⟨n, r, c, rfl, Lib.hid ?_, hb⟩
  rcases H.out with ⟨rfl, h⟩ | ⟨hc, rfl, rfl, h⟩
  · exact h
  · have h2 : (Num.take s.data.toList).2.2 = c := h
    obtain ⟨e1, e2⟩ := Num.take_err (l := s.data.toList) (by rw [h2]; exact hc)
    unfold Num.takeInt
    rw [e1, e2, h2]
    rfl
set_option maxHeartbeats 8000000 in
set_option maxRecDepth 100000 in
theorem rtakeBatch_any (s : ByteArray) (w : World) (hs : s.size ≤ 1000000) :
    Calls Tryz.prog 164 #[.string s] w fun e w' => ∃ (S : ByteArray) (ex se sq : Int) (v : Value) (es : List Evt.Event) (r : ByteArray) (c : Nat), e = .returned (.tuple #[.agg #[.string S, .int .i64 ex, .int .i64 se, .int .i64 sq, v], .string r, .int .i64 (c : Int)]) ∧
      Hid (Evt.takeBatch s.data.toList = (⟨S.data.toList, ex, se, sq, es⟩, r.data.toList, c)) ∧ w'.ownsRow w.heap.size 222 2 v es.length (evCells es) ∧ S.size ≤ 1000000 ∧ Small es ∧ es.length ≤ 8 ∧ r.size ≤ s.size ∧ Below w.heap.size w w' := by
  obtain ⟨W, hW⟩ : ∃ W, W = (w.alloc (.cells #[.string ⟨#[]⟩, .int .i64 0, .int .i64 0, .int .i64 0, .slice none 0 0] 59)).alloc (.cells #[.string ⟨#[]⟩, .int .i64 0, .int .i64 0, .int .i64 0, .slice none 0 0] 59) := ⟨_, rfl⟩
  have hz : ZBat w.heap.size W ∧ ZBat (w.heap.size + 1) W := by
    have h1 : ZBat w.heap.size (w.alloc (.cells #[.string ⟨#[]⟩, .int .i64 0, .int .i64 0, .int .i64 0, .slice none 0 0] 59)) := heap_alloc_new w _
    have h2 := heap_alloc_new (w.alloc (.cells #[.string ⟨#[]⟩, .int .i64 0, .int .i64 0, .int .i64 0, .slice none 0 0] 59)) (.cells #[.string ⟨#[]⟩, .int .i64 0, .int .i64 0, .int .i64 0, .slice none 0 0] 59)
    rw [World.size_alloc] at h2
    rw [hW]
    exact ⟨h1.kept (World.grownBy_alloc _ _ none) (by simp), h2⟩
  have hb : Below w.heap.size w W := by rw [hW]; exact ((Below.refl _ _).alloc (Nat.le_refl _) _).alloc (by simp) _
  have HW := Lib.hid hW
  have HT := Lib.hid (rtakeText_any s 200 W (by omega))
  clear hW
  go_enter Tryz.func164, Tryz.ntmps164
  go_upto_region 2 with fail
  rw [← HW.out]
  go_wp2_with fail
  refine HT.out.mono ?_
  rintro e w1 ⟨S, r1, c1, rfl, H1, b1⟩
  have hl1 := Num.takeText_le s.data.toList 200
  rw [H1.out, ← Lib.size_eq, ← Lib.size_eq, ← Lib.size_eq] at hl1
  have hSs : S.size ≤ s.size := by omega
  have hr1 : r1.size ≤ s.size := by omega
  have hz1 : ZBat w.heap.size w1 ∧ ZBat (w.heap.size + 1) w1 := ⟨heap_kept b1 (Nat.le_refl _) hz.1, heap_kept b1 (Nat.le_refl _) hz.2⟩
  have hb1 := Below.up hb (Nat.le_refl _) b1
  clear HT HW hz hb b1 hl1
  by_cases hc1 : ¬ c1 = 0
  · have hcb : ((c1 : Int) != 0) = true := by simp; omega
    have HT := Lib.hid (Evt.tb_stop (Evt.hd1 H1.out hc1) hc1)
    have HP := Lib.hid (Bat.putN hz1.1 ⟨#[]⟩ 0 0 0 (.slice none 0 0))
    have HBN := Lib.hid (hb1.trans (below_of_grown HP.out.2 (Nat.le_refl _) hb1.size))
    obtain ⟨z0, z1, z2, z3, z4, f0, f1, f2, f3, f4⟩ := Bat.cells hz1.1
    obtain ⟨y0, y1, y2, y3, y4, _⟩ := Bat.cells hz1.2
    clear hc1
    go_wp2
    (try simp only [Exit.inBlock, Exit.then])
    refine bodyPost_ret (results_cell3 rfl _ _ w.heap.size _ _ _ _ rfl HP.out.1 Tryz.underlying59 rfl batch_size) rfl ?_
    exact ⟨⟨#[]⟩, 0, 0, 0, _, [], ⟨#[]⟩, c1, rfl, HT, World.ownsRow_nil _ _ _ _, Nat.zero_le _, (fun e he => by cases he), by simp, Nat.zero_le _, HBN.out⟩
  have hc1 := Classical.not_not.mp hc1
  subst hc1
  have HT2 := Lib.hid (rtakeInt2_any r1 w1 (by omega))
  go_wp2_with fail
  refine HT2.out.mono ?_
  rintro e w2 ⟨ex, r2, c2, rfl, H2, b2⟩
  have hl2 := Num.take_le r1.data.toList
  have hr2 : r2.size ≤ s.size := by
    have h2 := H2.out
    unfold Num.takeInt at h2
    simp only [Prod.mk.injEq] at h2
    rw [h2.2.1, ← Lib.size_eq, ← Lib.size_eq] at hl2
    omega
  have hz2 : ZBat w.heap.size w2 ∧ ZBat (w.heap.size + 1) w2 := ⟨heap_kept b2 (Nat.le_refl _) hz1.1, heap_kept b2 (Nat.le_refl _) hz1.2⟩
  have hb2 := Below.up hb1 (Nat.le_refl _) b2
  clear HT2 hz1 hb1 b2 hl2
  by_cases hc2 : ¬ c2 = 0
  · have hcb : ((c2 : Int) != 0) = true := by simp; omega
    have HT := Lib.hid (Evt.tb_stop (Evt.hd2 H1.out H2.out hc2) hc2)
    have HP := Lib.hid (Bat.putN hz2.1 ⟨#[]⟩ 0 0 0 (.slice none 0 0))
    have HBN := Lib.hid (hb2.trans (below_of_grown HP.out.2 (Nat.le_refl _) hb2.size))
    obtain ⟨z0, z1, z2, z3, z4, f0, f1, f2, f3, f4⟩ := Bat.cells hz2.1
    obtain ⟨y0, y1, y2, y3, y4, _⟩ := Bat.cells hz2.2
    clear hc2
    go_wp2
    (try simp only [Exit.inBlock, Exit.then])
    refine bodyPost_ret (results_cell3 rfl _ _ w.heap.size _ _ _ _ rfl HP.out.1 Tryz.underlying59 rfl batch_size) rfl ?_
    exact ⟨⟨#[]⟩, 0, 0, 0, _, [], ⟨#[]⟩, c2, rfl, HT, World.ownsRow_nil _ _ _ _, Nat.zero_le _, (fun e he => by cases he), by simp, Nat.zero_le _, HBN.out⟩
  have hc2 := Classical.not_not.mp hc2
  subst hc2
  have HT3 := Lib.hid (rtake_any r2 w2 (by omega))
  go_wp2_with fail
  refine HT3.out.mono ?_
  rintro e w3 ⟨se, r3, c3, rfl, H3, b3⟩
  have hl3 := Num.take_le r2.data.toList
  rw [H3.out, ← Lib.size_eq, ← Lib.size_eq] at hl3
  have hr3 : r3.size ≤ s.size := by omega
  have hz3 : ZBat w.heap.size w3 ∧ ZBat (w.heap.size + 1) w3 := ⟨heap_kept b3 (Nat.le_refl _) hz2.1, heap_kept b3 (Nat.le_refl _) hz2.2⟩
  have hb3 := Below.up hb2 (Nat.le_refl _) b3
  clear HT3 hz2 hb2 b3 hl3
  by_cases hc3 : ¬ c3 = 0
  · have hcb : ((c3 : Int) != 0) = true := by simp; omega
    have HT := Lib.hid (Evt.tb_stop (Evt.hd3 H1.out H2.out H3.out hc3) hc3)
    have HP := Lib.hid (Bat.putN hz3.1 ⟨#[]⟩ 0 0 0 (.slice none 0 0))
    have HBN := Lib.hid (hb3.trans (below_of_grown HP.out.2 (Nat.le_refl _) hb3.size))
    obtain ⟨z0, z1, z2, z3, z4, f0, f1, f2, f3, f4⟩ := Bat.cells hz3.1
    obtain ⟨y0, y1, y2, y3, y4, _⟩ := Bat.cells hz3.2
    clear hc3
    go_wp2
    (try simp only [Exit.inBlock, Exit.then])
    refine bodyPost_ret (results_cell3 rfl _ _ w.heap.size _ _ _ _ rfl HP.out.1 Tryz.underlying59 rfl batch_size) rfl ?_
    exact ⟨⟨#[]⟩, 0, 0, 0, _, [], ⟨#[]⟩, c3, rfl, HT, World.ownsRow_nil _ _ _ _, Nat.zero_le _, (fun e he => by cases he), by simp, Nat.zero_le _, HBN.out⟩
  have hc3 := Classical.not_not.mp hc3
  subst hc3
  have HT4 := Lib.hid (rtake_any r3 w3 (by omega))
  go_wp2_with fail
  refine HT4.out.mono ?_
  rintro e w4 ⟨sq, r4, c4, rfl, H4, b4⟩
  have hl4 := Num.take_le r3.data.toList
  rw [H4.out, ← Lib.size_eq, ← Lib.size_eq] at hl4
  have hr4 : r4.size ≤ s.size := by omega
  have hz4 : ZBat w.heap.size w4 ∧ ZBat (w.heap.size + 1) w4 := ⟨heap_kept b4 (Nat.le_refl _) hz3.1, heap_kept b4 (Nat.le_refl _) hz3.2⟩
  have hb4 := Below.up hb3 (Nat.le_refl _) b4
  clear HT4 hz3 hb3 b4 hl4
  by_cases hc4 : ¬ c4 = 0
  · have hcb : ((c4 : Int) != 0) = true := by simp; omega
    have HT := Lib.hid (Evt.tb_stop (Evt.hd4 H1.out H2.out H3.out H4.out hc4) hc4)
    have HP := Lib.hid (Bat.putN hz4.1 ⟨#[]⟩ 0 0 0 (.slice none 0 0))
    have HBN := Lib.hid (hb4.trans (below_of_grown HP.out.2 (Nat.le_refl _) hb4.size))
    obtain ⟨z0, z1, z2, z3, z4, f0, f1, f2, f3, f4⟩ := Bat.cells hz4.1
    obtain ⟨y0, y1, y2, y3, y4, _⟩ := Bat.cells hz4.2
    clear hc4
    go_wp2
    (try simp only [Exit.inBlock, Exit.then])
    refine bodyPost_ret (results_cell3 rfl _ _ w.heap.size _ _ _ _ rfl HP.out.1 Tryz.underlying59 rfl batch_size) rfl ?_
    exact ⟨⟨#[]⟩, 0, 0, 0, _, [], ⟨#[]⟩, c4, rfl, HT, World.ownsRow_nil _ _ _ _, Nat.zero_le _, (fun e he => by cases he), by simp, Nat.zero_le _, HBN.out⟩
  have hc4 := Classical.not_not.mp hc4
  subst hc4
  have HT5 := Lib.hid (rtake_any r4 w4 (by omega))
  go_wp2_with fail
  refine HT5.out.mono ?_
  rintro e w5 ⟨many, r5, c5, rfl, H5, b5⟩
  have hl5 := Num.take_le r4.data.toList
  rw [H5.out, ← Lib.size_eq, ← Lib.size_eq] at hl5
  have hr5 : r5.size ≤ s.size := by omega
  have hz5 : ZBat w.heap.size w5 ∧ ZBat (w.heap.size + 1) w5 := ⟨heap_kept b5 (Nat.le_refl _) hz4.1, heap_kept b5 (Nat.le_refl _) hz4.2⟩
  have hb5 := Below.up hb4 (Nat.le_refl _) b5
  have HHD := Lib.hid (Evt.hd5 H1.out H2.out H3.out H4.out H5.out)
  clear HT5 hz4 hb4 b5 hl5 H1 H2 H3 H4 H5
  by_cases hc5 : ¬ c5 = 0
  · have hcb : ((c5 : Int) != 0) = true := by simp; omega
    have HT := Lib.hid (Evt.tb_stop HHD.out hc5)
    have HP := Lib.hid (Bat.putN hz5.1 ⟨#[]⟩ 0 0 0 (.slice none 0 0))
    have HBN := Lib.hid (hb5.trans (below_of_grown HP.out.2 (Nat.le_refl _) hb5.size))
    obtain ⟨z0, z1, z2, z3, z4, f0, f1, f2, f3, f4⟩ := Bat.cells hz5.1
    obtain ⟨y0, y1, y2, y3, y4, _⟩ := Bat.cells hz5.2
    clear hc5
    go_wp2
    (try simp only [Exit.inBlock, Exit.then])
    refine bodyPost_ret (results_cell3 rfl _ _ w.heap.size _ _ _ _ rfl HP.out.1 Tryz.underlying59 rfl batch_size) rfl ?_
    exact ⟨⟨#[]⟩, 0, 0, 0, _, [], ⟨#[]⟩, c5, rfl, HT, World.ownsRow_nil _ _ _ _, Nat.zero_le _, (fun e he => by cases he), by simp, Nat.zero_le _, HBN.out⟩
  have hc5 := Classical.not_not.mp hc5
  subst hc5
  by_cases hm : 8 < many
  · have hmi : (8 : Int) < (many : Int) := by omega
    have HT := Lib.hid (Evt.tb_many HHD.out hm)
    have HP := Lib.hid (Bat.putN hz5.1 ⟨#[]⟩ 0 0 0 (.slice none 0 0))
    have HBN := Lib.hid (hb5.trans (below_of_grown HP.out.2 (Nat.le_refl _) hb5.size))
    obtain ⟨z0, z1, z2, z3, z4, f0, f1, f2, f3, f4⟩ := Bat.cells hz5.1
    obtain ⟨y0, y1, y2, y3, y4, _⟩ := Bat.cells hz5.2
    clear HHD
    go_wp2
    (try simp only [Exit.inBlock, Exit.then])
    refine bodyPost_ret (results_cell3 rfl _ _ w.heap.size _ _ _ _ rfl HP.out.1 Tryz.underlying59 rfl batch_size) rfl ?_
    exact ⟨⟨#[]⟩, 0, 0, 0, _, [], ⟨#[]⟩, 4, rfl, HT, World.ownsRow_nil _ _ _ _, Nat.zero_le _, (fun e he => by cases he), by simp, Nat.zero_le _, HBN.out⟩
  have hmi : ¬ (8 : Int) < (many : Int) := by omega
  have HTB := Lib.hid (Evt.tb_go HHD.out hm)
  clear HHD hm
  obtain ⟨Q, hQ⟩ : ∃ Q, Evt.rdEvents many (r5.data.toList, 0) = Q := ⟨_, rfl⟩
  rw [hQ] at HTB
  have HQ := Lib.hid hQ
  clear hQ
  obtain ⟨B6, hB6⟩ : ∃ B6, B6 = w5.heap.size := ⟨_, rfl⟩
  obtain ⟨W6, hW6⟩ : ∃ W6, W6 = w5.alloc (.cells #[.string S, .int .i64 ex, .int .i64 (se : Int), .int .i64 (sq : Int), .slice none 0 0] 59) := ⟨_, rfl⟩
  have hB : Bat B6 S ex se sq (.slice none 0 0) W6 := by rw [hW6, hB6]; exact heap_alloc_new w5 _
  have hz6 : ZBat w.heap.size W6 ∧ ZBat (w.heap.size + 1) W6 := by
    rw [hW6]
    exact ⟨Bat.kept hz5.1 (World.grownBy_alloc _ _ none) (by simp), Bat.kept hz5.2 (World.grownBy_alloc _ _ none) (by simp)⟩
  have hb6 : Below w.heap.size w W6 := by rw [hW6]; exact hb5.alloc hb5.size _
  have hlt : w.heap.size + 1 < B6 := by rw [hB6]; exact (Array.getElem?_eq_some_iff.1 hz5.2).1
  have HW6 := Lib.hid (And.intro hW6 hB6)
  clear hW6 hB6
  go_upto_region 20 with fail
  rw [← HW6.out.1, ← HW6.out.2]
  clear HW6 hz5 hb5
  go_wp2
  go_loopw [7, 14] (fun rv iv wr => ∃ (L : ByteArray) (i : Nat) (es : List Evt.Event) (v : Value), rv = .string L ∧ iv = .int .i64 (i : Int) ∧ i ≤ many ∧ Bat B6 S ex se sq v wr ∧ (ZBat w.heap.size wr ∧ ZBat (w.heap.size + 1) wr) ∧ Below w.heap.size w wr ∧ B6 < wr.heap.size ∧
      wr.ownsRow w.heap.size 222 2 v es.length (evCells es) ∧ Small es ∧ es.length = i ∧ L.size ≤ s.size ∧ es ++ (Evt.rdEvents (many - i) (L.data.toList, 0)).1 = Q.1 ∧ (Evt.rdEvents (many - i) (L.data.toList, 0)).2 = Q.2) (fun _ iv _ => many - (intOf iv).toNat)
  case atStart => exact ⟨r5, 0, [], _, rfl, rfl, by omega, hB, hz6, hb6, (Array.getElem?_eq_some_iff.1 hB).1, World.ownsRow_nil _ _ _ _, (fun e he => by cases he), rfl, hr5, by rw [Nat.sub_zero, HQ.out]; rfl, by rw [Nat.sub_zero, HQ.out]⟩
  case round =>
    obtain ⟨L, i, es, v, rfl, rfl, hi, hB, hz, hb, hsz, hown, hsm, hel, hL, hq1, hq2⟩ := hrel
    subst hel
    have HQ1 := Lib.hid hq1; have HQ2 := Lib.hid hq2
    clear hq1 hq2 hz6 hb6 HQ
    have hne1 : some B6 ≠ some w.heap.size := by simp; omega
    have hne2 : some B6 ≠ some (w.heap.size + 1) := by simp; omega
    have hm8 : many ≤ 8 := by omega
    obtain ⟨sa, sl, sc, rfl⟩ := slice_of_owns hown
    by_cases hgo : es.length < many
    · have hi1' : (es.length : Int) < many := by omega
      have HPT := Lib.hid (rparts_any L wr (by omega))
      go_wp2_with fail
      refine HPT.out.mono ?_
      rintro e w1 ⟨k, d, L', c', rfl, HE, hl1, hk1, hd1, b1⟩
      have B1 := hB.kept (grown_of_below b1) (by simp)
      have Z1 : ZBat w.heap.size w1 ∧ ZBat (w.heap.size + 1) w1 := ⟨Bat.kept hz.1 (grown_of_below b1) (by simp), Bat.kept hz.2 (grown_of_below b1) (by simp)⟩
      have own1 := owns_next hown b1
      have hb1 := Below.up hb (Nat.le_refl _) b1
      have hs1 : B6 < w1.heap.size := by have := b1.size; omega
      have B1a := B1.kept (World.grownBy_alloc w1 (.cells #[.string k, .string d] 222) none) (by simp)
      have Z1a : ZBat w.heap.size (w1.alloc (.cells #[.string k, .string d] 222)) ∧ ZBat (w.heap.size + 1) (w1.alloc (.cells #[.string k, .string d] 222)) := ⟨Bat.kept Z1.1 (World.grownBy_alloc w1 (.cells #[.string k, .string d] 222) none) (by simp), Bat.kept Z1.2 (World.grownBy_alloc w1 (.cells #[.string k, .string d] 222) none) (by simp)⟩
      have own1a := own1.alloc (.cells #[.string k, .string d] 222)
      have hb1a := hb1.alloc hb1.size (.cells #[.string k, .string d] 222)
      clear HPT hB hz hown hb b1 B1 Z1 own1
      by_cases hcK : ¬ c' = 0
      · have hcb : ((c' : Int) != 0) = true := by simp; omega
        have HT := Lib.hid (Evt.tb_end HTB.out (Evt.rd_bad (HE.out.resolve_left (fun h => hcK h.1)).2 hcK (show (Evt.rdEvents ((many - (es.length + 1)) + 1) (L.data.toList, 0)).2 = Q.2 by rw [← HQ2.out, show (many - (es.length + 1)) + 1 = many - es.length by omega])) hcK)
        have HP := Lib.hid (Bat.putN Z1a.1 ⟨#[]⟩ 0 0 0 (.slice none 0 0))
        have HBN := Lib.hid (hb1a.trans (below_of_grown HP.out.2 (Nat.le_refl _) hb1a.size))
        obtain ⟨z0, z1, z2, z3, z4, f0, f1, f2, f3, f4⟩ := Bat.cells Z1a.1
        obtain ⟨y0, y1, y2, y3, y4, _⟩ := Bat.cells Z1a.2
        clear HE
        go_wp2
        (try simp only [Exit.inBlock, Exit.then])
        refine bodyPost_ret (results_cell3 rfl _ _ w.heap.size _ _ _ _ rfl HP.out.1 Tryz.underlying59 rfl batch_size) rfl ?_
        exact ⟨⟨#[]⟩, 0, 0, 0, _, [], ⟨#[]⟩, c', rfl, HT, World.ownsRow_nil _ _ _ _, Nat.zero_le _, (fun e he => by cases he), by simp, Nat.zero_le _, HBN.out⟩
      have hcK := Classical.not_not.mp hcK
      subst hcK
      have HE2 := Lib.hid (Evt.rd_more (n := many - (es.length + 1)) (HE.out.resolve_right (fun h => h.1 rfl)).2)
      have HN1 := Lib.hid (show (es ++ [⟨k.data.toList, d.data.toList⟩]) ++ (Evt.rdEvents (many - (es.length + 1)) (L'.data.toList, 0)).1 = Q.1 by rw [← HQ1.out, show many - es.length = (many - (es.length + 1)) + 1 by omega, HE2.out]; simp)
      have HN2 := Lib.hid (show (Evt.rdEvents (many - (es.length + 1)) (L'.data.toList, 0)).2 = Q.2 by rw [← HQ2.out, show many - es.length = (many - (es.length + 1)) + 1 by omega, HE2.out])
      have b4 : (w1.alloc (.cells #[.string k, .string d] 222)).cell? ⟨B6, 4, none⟩ = some (.slice sa sl sc) := by rw [Lib.cell_of_heap B1a]; rfl
      have hs1a : B6 < (w1.alloc (.cells #[.string k, .string d] 222)).heap.size := by simp; omega
      clear HE HE2 HQ1 HQ2 HTB
      go_wp2_with (at_builtin; refine wpList_append_newG rfl _ _ _ rfl evT rfl own1a hb1a (Nat.le_trans hb1.size (by simp)) _ _ rfl (by simp) rfl (by simp [Value.oneCell']) (by omega) ?_)
      intro v' w2 hown' hg2 hb2 hs2
      obtain ⟨g', cap', rfl⟩ := ownsRow_succ hown'
      have B2 := B1a.kept hg2 (cells_not_row B1a (by decide) own1a)
      have Z2 : ZBat w.heap.size w2 ∧ ZBat (w.heap.size + 1) w2 := ⟨Bat.kept Z1a.1 hg2 (cells_not_row Z1a.1 (by decide) own1a), Bat.kept Z1a.2 hg2 (cells_not_row Z1a.2 (by decide) own1a)⟩
      have b4' : w2.cell? ⟨B6, 4, none⟩ = some (.slice sa sl sc) := by rw [Lib.cell_of_heap B2]; rfl
      have b4f := Lib.frozen_of_heap B2 4
      have B3 := setCell_at (i := 4) B2 (.slice (some ⟨g', 0, none⟩) (es.length + 1) cap')
      have Z3 : ZBat w.heap.size (w2.setCell ⟨B6, 4, none⟩ (.slice (some ⟨g', 0, none⟩) (es.length + 1) cap')) ∧ ZBat (w.heap.size + 1) (w2.setCell ⟨B6, 4, none⟩ (.slice (some ⟨g', 0, none⟩) (es.length + 1) cap')) := ⟨Bat.kept Z2.1 (grown_set w2 B6 4 (.slice (some ⟨g', 0, none⟩) (es.length + 1) cap')) hne1.symm, Bat.kept Z2.2 (grown_set w2 B6 4 (.slice (some ⟨g', 0, none⟩) (es.length + 1) cap')) hne2.symm⟩
      have own3 := hown'.kept (grown_set w2 B6 4 (.slice (some ⟨g', 0, none⟩) (es.length + 1) cap')) (.inr (cells_not_row B2 (by decide) hown').symm)
      rw [← evCells_snoc] at own3
      have H3 := Lib.hid (And.intro (show Bat B6 S ex se sq (.slice (some ⟨g', 0, none⟩) (es.length + 1) cap') _ from B3) (And.intro Z3 own3))
      have hb3 := hb2.setCell (p := ⟨B6, 4, none⟩) (by simp; omega) (.slice (some ⟨g', 0, none⟩) (es.length + 1) cap')
      have HB3 := Lib.hid hb3
      clear B2 Z2 B3 Z3 own3 B1a Z1a own1a hown' hg2 hb2 hb3 hb1a b4
      go_wp2
      exact ⟨⟨L', es.length + 1, es ++ [⟨k.data.toList, d.data.toList⟩], _, rfl, by go_num, by omega, H3.out.1, H3.out.2.1, HB3.out, by simp at hs2 ⊢; omega, by simpa using H3.out.2.2, small_snoc hsm k d (by omega) (by omega), by simp, by omega, HN1.out, HN2.out⟩, by simp [intOf]; omega⟩
    · have hi1' : ¬ (es.length : Int) < many := by omega
      have hend : many - es.length = 0 := by omega
      have HQE := Lib.hid (show Q.1 = es ∧ Q.2 = (L.data.toList, 0) by
        have q1 := HQ1.out
        have q2 := HQ2.out
        rw [hend] at q1 q2
        exact ⟨by rw [← q1]; simp [Evt.rdEvents], by rw [← q2]; rfl⟩)
      rw [HQE.out.1] at HTB
      have HQ3 := Lib.hid HQE.out.2
      obtain ⟨y0, y1, y2, y3, y4, _⟩ := Bat.cells hB
      have HFI := Lib.hid (rfits_any S ex se sq (.slice sa sl sc) es wr (by omega) (cells_of_owns hown) (by omega) hsm)
      obtain ⟨F, hF⟩ : ∃ F, F = Evt.fits ⟨S.data.toList, ex, se, sq, es⟩ := ⟨_, rfl⟩
      rw [← hF] at HFI
      have HFF := Lib.hid hF
      clear hF HQE HQ1 HQ2
      go_wp2_with fail
      refine HFI.out.mono ?_
      rintro e w8 ⟨rfl, b8⟩
      have z8 : ZBat w.heap.size w8 ∧ ZBat (w.heap.size + 1) w8 := ⟨Bat.kept hz.1 (grown_of_below b8) (by simp), Bat.kept hz.2 (grown_of_below b8) (by simp)⟩
      have hB8 := hB.kept (grown_of_below b8) (by simp)
      have own8 := owns_next hown b8
      have hb8 := Below.up hb (Nat.le_refl _) b8
      clear HFI hz hB hown hb b8 y0 y1 y2 y3 y4
      by_cases hF0 : F = 0
      · subst hF0
        have HT := Lib.hid (Evt.tb_ok HTB.out HQ3.out HFF.out.symm)
        have HP := Lib.hid (Bat.putN z8.1 S ex se sq (.slice sa sl sc))
        have HN := Lib.hid (own8.kept HP.out.2 (.inr (cells_not_row z8.1 (by decide) own8).symm))
        have HBN := Lib.hid (hb8.trans (below_of_grown HP.out.2 (Nat.le_refl _) hb8.size))
        obtain ⟨z0, z1, z2, z3, z4, f0, f1, f2, f3, f4⟩ := Bat.cells z8.1
        obtain ⟨y0, y1, y2, y3, y4, _⟩ := Bat.cells hB8
        clear HTB HQ3 HFF own8
        go_wp2
        (try simp only [Exit.inBlock, Exit.then])
        refine bodyPost_ret (results_cell3 rfl _ _ w.heap.size _ _ _ _ rfl HP.out.1 Tryz.underlying59 rfl batch_size) rfl ?_
        exact ⟨S, ex, se, sq, _, es, L, 0, rfl, HT, HN.out, by omega, hsm, by omega, hL, HBN.out⟩
      · have hFb : ((F : Int) != 0) = true := by simp; omega
        have HT := Lib.hid (Evt.tb_bad HTB.out HQ3.out (fun h => hF0 (HFF.out.trans h)))
        clear HTB HQ3 HFF hF0
        have HP := Lib.hid (Bat.putN z8.1 ⟨#[]⟩ 0 0 0 (.slice none 0 0))
        have HBN := Lib.hid (hb8.trans (below_of_grown HP.out.2 (Nat.le_refl _) hb8.size))
        obtain ⟨z0, z1, z2, z3, z4, f0, f1, f2, f3, f4⟩ := Bat.cells z8.1
        obtain ⟨y0, y1, y2, y3, y4, _⟩ := Bat.cells z8.2
        clear own8
        go_wp2
        (try simp only [Exit.inBlock, Exit.then])
        refine bodyPost_ret (results_cell3 rfl _ _ w.heap.size _ _ _ _ rfl HP.out.1 Tryz.underlying59 rfl batch_size) rfl ?_
        exact ⟨⟨#[]⟩, 0, 0, 0, _, [], ⟨#[]⟩, 2, rfl, HT, World.ownsRow_nil _ _ _ _, Nat.zero_le _, (fun e he => by cases he), by simp, Nat.zero_le _, HBN.out⟩
end Go.Proofs.YtiaddfghojdgkaaGreatDoor
