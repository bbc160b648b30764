/-
  The walks of the law package 17's begun, pick, fits.
  A row of acts that is handed in (the law package 17's): its cells; whether it is small.
-/
import Derived.Test.YtgddgipjpdjoaaaGreatDoorAt
import Derived.Test.YtgddgipjpdjoaaaGreatDoorOpn
namespace Go.Proofs.YtgddgipjpdjoaaaGreatDoor
open Go.RowKit Go.Shelf
theorem pair17_size : (Tryz.prog.info? 28).map (·.size) = some 2 := by kernel_rfl
def PB17 (b : Nat) (u v : Value) (w : World) : Prop := w.heap[b]? = some (.cells #[u, v] 28 (0, 0))
theorem PB17.kept {b : Nat} {u v : Value} {w w' : World} {r : Option Nat} (h : PB17 b u v w) (hg : w.grownBy w' r) (hr : some b ≠ r) : PB17 b u v w' :=
 (hg.block b (Array.getElem?_eq_some_iff.1 h).1 hr).trans h
theorem PB17.next {b : Nat} {u v : Value} {w w' : World} (h : PB17 b u v w) (hb : Below w.heap.size w w') : PB17 b u v w' := h.kept (grown_of_below hb) (by simp)
theorem PB17.cells {b : Nat} {u v : Value} {w : World} (h : PB17 b u v w) : w.cell? ⟨b, 0, none⟩ = some u ∧ w.cell? ⟨b, 1, none⟩ = some v := by
 refine ⟨?_, ?_⟩ <;> (rw [Lib.cell_of_heap h]; rfl)
theorem PB17.frozen {b : Nat} {u v : Value} {w : World} (h : PB17 b u v w) : ∀ i, w.frozen? ⟨b, i, none⟩ = false := fun i => Lib.frozen_of_heap h i
theorem PB17.put2 {b : Nat} {u0 v0 : Value} {w : World} (h : PB17 b u0 v0 w) (u v : Value) :
   PB17 b u v ((w.setCell ⟨b, 0, none⟩ u).setCell ⟨b, 1, none⟩ v) ∧ w.grownBy ((w.setCell ⟨b, 0, none⟩ u).setCell ⟨b, 1, none⟩ v) (some b) :=
 ⟨setCell_at (i := 1) (setCell_at (i := 0) h _) _, grown_trans (grown_set _ _ _ _) (grown_set _ _ _ _)⟩
set_option maxHeartbeats 2000000 in
theorem begun17_any (room : Int) (w : World) (h1 : 1 ≤ room) (h2 : room ≤ 1073741824) :
   Calls Tryz.prog 8 #[.int .i64 room] w fun e w' => ∃ (d m : Nat) (ft : Nat → Prop), e = .returned (.tuple #[.agg #[.pointer (some ⟨d, 0, none⟩), .pointer (some ⟨m, 0, none⟩)], .bool true]) ∧
     IsDisk w' d room [] ft ∧ (∀ j, ft j → w.heap.size ≤ j ∧ j < w'.heap.size) ∧ RefNew m room w' ∧ ¬ ft m ∧ w.heap.size ≤ m ∧ Below w.heap.size w w' := by
 have p0 : PB17 w.heap.size (.pointer none) (.pointer none) (w.alloc (.cells #[.pointer none, .pointer none] 28)) := heap_alloc_new w _
 have hb0 := (Below.refl _ w).alloc (Nat.le_refl _) (.cells #[.pointer none, .pointer none] 28)
 have P0 := Lib.hid p0
 have HB0 := Lib.hid hb0
 have HN := Lib.hid (diskNew_any room (w.alloc (.cells #[.pointer none, .pointer none] 28)))
 clear p0 hb0
 go_enter Tryz.func8, Tryz.ntmps8
 go_wp2_with fail
 refine HN.out.mono ?_
 rintro e w1 (⟨hbad, _⟩ | ⟨_, d, rfl, hd, b1⟩)
 · exact absurd ⟨h1, h2⟩ hbad
 have hb1 := Below.up HB0.out (Nat.le_refl _) b1
 have hD := Lib.hid hd.narrow
 have HRN := Lib.hid (refNew_any room w1 h1 h2)
 have p1 := P0.out.next b1
 have hs1 := b1.size
 rw [World.size_alloc] at hs1
 clear HN P0 HB0 b1 hd
 go_wp2_with fail
 refine HRN.out.mono ?_
 rintro e w2 ⟨rfl, hw2⟩
 have hrn : RefNew w1.heap.size room w2 := by rw [hw2]; exact heap_alloc_new w1 _
 have b2 : Below w1.heap.size w1 w2 := by rw [hw2]; exact (Below.refl _ w1).alloc (Nat.le_refl _) _
 have hs2 : w2.heap.size = w1.heap.size + 1 := by rw [hw2]; simp
 have hb2 := Below.up hb1 (Nat.le_refl _) b2
 have p2 := p1.next b2
 have hd2 := hD.out.next b2
 obtain ⟨c0, c1⟩ := p2.cells
 have f0 := p2.frozen 0
 have f1 := p2.frozen 1
 have HP := Lib.hid (p2.put2 (.pointer (some ⟨d, 0, none⟩)) (.pointer (some ⟨w1.heap.size, 0, none⟩)))
 have HD3 := Lib.hid (hd2.kept fun j hj0 hj => HP.out.2.block j hj0 (by have := hj.1; simp at this; simp; omega))
 have HR3 := Lib.hid (show RefNew w1.heap.size room _ from (HP.out.2.block w1.heap.size (by omega) (by simp; omega)).trans hrn)
 have HB3 := Lib.hid (hb2.trans (below_of_grown HP.out.2 (Nat.le_refl _) (by omega)))
 have HFT := Lib.hid (fun j (hj : ((w.alloc (.cells #[.pointer none, .pointer none] 28)).heap.size ≤ j ∧ j < w1.heap.size)) => (⟨by have := hj.1; simp at this; omega, by have := HP.out.2.size; have := hj.2; omega⟩ : w.heap.size ≤ j ∧ j < ((w2.setCell ⟨w.heap.size, 0, none⟩ (.pointer (some ⟨d, 0, none⟩))).setCell ⟨w.heap.size, 1, none⟩ (.pointer (some ⟨w1.heap.size, 0, none⟩))).heap.size))
 have HLM := Lib.hid (show w.heap.size ≤ w1.heap.size from hb1.size)
 clear hw2 hs2 p2 p1 hd2 hrn b2 HRN hD hs1
 go_wp2
 refine bodyPost_ret (results_cell1 rfl _ _ w.heap.size _ _ _ _ rfl HP.out.1 Tryz.underlying28 rfl pair17_size) rfl ?_
 exact ⟨d, w1.heap.size, _, rfl, HD3.out, HFT.out, HR3.out, fun h => by have := h.2; omega, HLM.out, HB3.out⟩
set_option maxHeartbeats 1000000 in
theorem pick17_any (c n : Int) (w : World) (h1 : -9223372036854775808 ≤ c) (h2 : c ≤ 9223372036854775807) (h3 : 1 ≤ n) (h4 : n ≤ 1000000) :
   Calls Tryz.prog 18 #[.int .i64 c, .int .i64 n] w fun e w' => (∃ k : Nat, e = .returned (.int .i64 (k : Int)) ∧ (k : Int) < n) ∧ w' = w := by
 by_cases hc : c < 0
 · have hw1 : wrap64 (c + 1) = c + 1 := IntWalk.wrap64_in _ (by omega)
   have hw2 : wrap64 (-(c + 1)) = -(c + 1) := IntWalk.wrap64_in _ (by omega)
   go_enter Tryz.func18, Tryz.ntmps18
   go_wp2
   go_ret
   have hm : -((c + 1).tmod n) = (-(c + 1)) % n := by rw [← Int.neg_tmod, Int.tmod_eq_emod_of_nonneg (by omega)]
   exact ⟨⟨((-(c + 1)) % n).toNat, by rw [Int.toNat_of_nonneg (Int.emod_nonneg _ (by omega)), ← hm]; rfl, by rw [Int.toNat_of_nonneg (Int.emod_nonneg _ (by omega))]; exact Int.emod_lt_of_pos _ (by omega)⟩, rfl⟩
 · go_enter Tryz.func18, Tryz.ntmps18
   go_wp2
   go_ret
   exact ⟨⟨(c % n).toNat, by rw [Int.toNat_of_nonneg (Int.emod_nonneg _ (by omega))]; rfl, by rw [Int.toNat_of_nonneg (Int.emod_nonneg _ (by omega))]; exact Int.emod_lt_of_pos _ (by omega)⟩, rfl⟩
set_option maxHeartbeats 4000000 in
set_option maxRecDepth 100000 in
theorem fits17_any (v : Value) (ps : List (Evt.Entry × Value)) (w : World) (hc : EntsR w v ps) :
   Calls Tryz.prog 32 #[v] w fun e w' => e = .returned (.bool (fitL (plainE ps))) ∧ Below w.heap.size w w' := by
 have hpl : (plainE ps).length = ps.length := by simp [plainE]
 rcases cellsNil hc.1 with ⟨h0, a0, c0, rfl⟩ | ⟨b, o, c, rfl⟩
 · have HN := Lib.hid (show fitL (plainE ps) = true by rw [List.eq_nil_of_length_eq_zero h0]; rfl)
   clear h0 hpl
   go_enter Tryz.func32, Tryz.ntmps32
   go_wp2
   go_loopw [3] (fun lv wr => lv = .int .i64 0 ∧ wr = w) (fun _ _ => 0)
   case atStart => exact ⟨rfl, rfl⟩
   case round =>
     obtain ⟨rfl, rfl⟩ := hrel
     go_wp2
     go_ret
     exact ⟨by rw [HN.out]; rfl, Below.refl _ _⟩
 · by_cases h40 : 40 < ps.length
   · have HN := Lib.hid (show fitL (plainE ps) = false by unfold fitL; rw [hpl]; simp; omega)
     have hi40 : (40 : Int) < (ps.length : Int) := by omega
     clear hpl
     go_enter Tryz.func32, Tryz.ntmps32
     go_wp2
     go_ret
     exact ⟨by rw [HN.out]; rfl, Below.refl _ _⟩
   · have HF := Lib.hid (show fitL (plainE ps) = (plainE ps).all fitE by unfold fitL; rw [hpl]; simp; omega)
     have HC := Lib.hid hc
     clear hc hpl
     go_enter Tryz.func32, Tryz.ntmps32
     go_wp2
     go_loopw [3] (fun lv wr => ∃ i : Nat, lv = .int .i64 i ∧ i ≤ ps.length ∧ Below w.heap.size w wr ∧ (plainE (ps.drop i)).all fitE = fitL (plainE ps)) (fun lv _ => ps.length - (intOf lv).toNat)
     case atStart => exact ⟨0, rfl, by omega, Below.refl _ _, HF.out.symm⟩
     case round =>
       obtain ⟨i, rfl, hi, hbw, hall⟩ := hrel
       by_cases hp : i < ps.length
       · obtain ⟨b', o', c', p, ep, S, ex, se, sq, sa, sl, sc, es, hv, k0, k1, k2, k3, k4, k5, k6, hev, hpe, _⟩ := enAtR HC.out i hp
         cases hv
         have k0 := cell_kept hbw (Nat.le_refl _) k0
         have k1 := cell_kept hbw (Nat.le_refl _) k1
         have k2 := cell_kept hbw (Nat.le_refl _) k2
         have k3 := cell_kept hbw (Nat.le_refl _) k3
         have k4 := cell_kept hbw (Nat.le_refl _) k4
         have k5 := cell_kept hbw (Nat.le_refl _) k5
         have k6 := cell_kept hbw (Nat.le_refl _) k6
         have hev1 := Cells.next hev hbw
         have HD := Lib.hid (show (plainE (ps.drop i)).all fitE = (fitE ⟨p, ep, ⟨S.data.toList, ex, se, sq, es⟩⟩ && (plainE (ps.drop (i + 1))).all fitE) by
           rw [List.drop_eq_getElem_cons hp, ← hpe.out]; rfl)
         have HA := Lib.hid hall
         clear hall hpe hev
         have hbB : Below w.heap.size w (wr.alloc (.cells #[.string S, .int .i64 ex, .int .i64 se, .int .i64 sq, .slice sa sl sc] 38)) := hbw.alloc hbw.size _
         have hb01 := (Below.refl _ wr).alloc (Nat.le_refl _) (.cells #[.string S, .int .i64 ex, .int .i64 se, .int .i64 sq, .slice sa sl sc] 38)
         have hsl : sl = es.length := by
           rcases cellsNil hev1 with ⟨h, a', c'', e⟩ | ⟨b'', o'', c'', e⟩
           · cases e; omega
           · cases e; rfl
         subst hsl
         by_cases hS : 300 < S.size
         · have HN := Lib.hid (show fitL (plainE ps) = false by
             rw [← HA.out, HD.out]
             have : fitE ⟨p, ep, ⟨S.data.toList, ex, se, sq, es⟩⟩ = false := by unfold fitE; simp only [← Lib.size_eq]; simp; omega
             rw [this]; rfl)
           have hSi : (300 : Int) < (S.size : Int) := by omega
           clear HD HA
           go_wp2
           go_ret
           exact ⟨by rw [HN.out]; rfl, hbB⟩
         by_cases hE : 20 < es.length
         · have HN := Lib.hid (show fitL (plainE ps) = false by
             rw [← HA.out, HD.out]
             have : fitE ⟨p, ep, ⟨S.data.toList, ex, se, sq, es⟩⟩ = false := by unfold fitE; simp; omega
             rw [this]; rfl)
           have hEi : (20 : Int) < (es.length : Int) := by omega
           clear HD HA
           go_wp2
           go_ret
           exact ⟨by rw [HN.out]; rfl, hbB⟩
         have HE := Lib.hid (show fitE ⟨p, ep, ⟨S.data.toList, ex, se, sq, es⟩⟩ = es.all fitV by unfold fitE; simp only [← Lib.size_eq]; simp; omega)
         have hev2 := Lib.hid (Cells.next hev1 hb01)
         clear hev1 hb01
         go_wp2
         go_loopw [5] (fun lv W => ∃ j : Nat, lv = .int .i64 j ∧ j ≤ es.length ∧ W = wr.alloc (.cells #[.string S, .int .i64 ex, .int .i64 se, .int .i64 sq, .slice sa es.length sc] 38) ∧ (es.drop j).all fitV = es.all fitV) (fun lv _ => es.length - (intOf lv).toNat)
         case atStart => exact ⟨0, rfl, by omega, rfl, rfl⟩
         case round =>
           obtain ⟨j, rfl, hj, rfl, hev⟩ := hrel
           have HV := Lib.hid hev
           clear hev
           by_cases hjp : j < es.length
           · obtain ⟨b2, o2, c2, hv2, e1, e2⟩ := evAt hev2.out j hjp
             cases hv2
             have hdr : es.drop j = es[j] :: es.drop (j + 1) := List.drop_eq_getElem_cons hjp
             obtain ⟨x, hx⟩ : ∃ x, es[j] = x := ⟨_, rfl⟩
             rw [hx] at e1 e2 hdr
             obtain ⟨K, hK, hK2, hK3⟩ := str_of x.kind
             obtain ⟨Dd, hDd, hD2, hD3⟩ := str_of x.data
             rw [hK] at e1
             rw [hDd] at e2
             have HX := Lib.hid (show (es.drop j).all fitV = (decide (K.size ≤ 300) && decide (Dd.size ≤ 500) && (es.drop (j + 1)).all fitV) by rw [hdr, hK3, hD3]; rfl)
             clear hdr hx hK hDd hK2 hD2 hK3 hD3
             by_cases h3 : 300 < K.size
             · have HN := Lib.hid (show fitL (plainE ps) = false by
                 have : decide (K.size ≤ 300) = false := by simp; omega
                 rw [← HA.out, HD.out, HE.out, ← HV.out, HX.out, this]; rfl)
               have h3i : (300 : Int) < (K.size : Int) := by omega
               clear HD HA HE HV HX
               go_wp2
               go_ret
               exact ⟨by rw [HN.out]; rfl, hbB⟩
             · by_cases h5 : 500 < Dd.size
               · have HN := Lib.hid (show fitL (plainE ps) = false by
                   have : decide (Dd.size ≤ 500) = false := by simp; omega
                   rw [← HA.out, HD.out, HE.out, ← HV.out, HX.out, this]; simp)
                 have h5i : (500 : Int) < (Dd.size : Int) := by omega
                 clear HD HA HE HV HX
                 go_wp2
                 go_ret
                 exact ⟨by rw [HN.out]; rfl, hbB⟩
               · have HY := Lib.hid (show (es.drop (j + 1)).all fitV = es.all fitV by
                   have q1 : decide (K.size ≤ 300) = true := by simp; omega
                   have q2 : decide (Dd.size ≤ 500) = true := by simp; omega
                   rw [← HV.out, HX.out, q1, q2]; simp)
                 clear HV HX
                 go_wp2
                 exact ⟨⟨j + 1, by go_num, by omega, trivial, HY.out⟩, by simp [intOf]; omega⟩
           · have HY := Lib.hid (show (plainE (ps.drop (i + 1))).all fitE = fitL (plainE ps) by
               have : es.all fitV = true := by rw [← HV.out, List.drop_eq_nil_of_le (by omega)]; rfl
               rw [← HA.out, HD.out, HE.out, this]; simp)
             clear HD HA HE HV
             go_wp2
             exact ⟨⟨i + 1, by go_num, by omega, hbB, HY.out⟩, by simp [intOf]; omega⟩
       · have HN := Lib.hid (show fitL (plainE ps) = true by
           rw [← hall, List.drop_eq_nil_of_le (by omega)]; rfl)
         clear hall
         go_wp2
         go_ret
         exact ⟨by rw [HN.out]; rfl, hbw⟩
end Go.Proofs.YtgddgipjpdjoaaaGreatDoor
namespace Go.Proofs.YtgddgipjpdjoaaaGreatDoor
open Go.RowKit Go.Shelf Go.Deep Go.ChangeShapes
structure Act17 where
 op : Int
 n : Int
 m : Int
 s : ByteArray
 ex : Int
 se : Int
 sq : Int
 es : List Evt.Event
 l : List (Evt.Entry × Value)
 keep : List Int
structure Act17X where
 a : Act17
 ev : Value
 lv : Value
 kv : Value
def act17Cells (ps : List Act17X) : List Value := ps.flatMap fun p => [.int .i64 p.a.op, .int .i64 p.a.n, .int .i64 p.a.m, .string p.a.s, .int .i64 p.a.ex, .int .i64 p.a.se, .int .i64 p.a.sq, p.ev, p.lv, p.kv]
def K64 (n : Int) : Prop := -9223372036854775808 ≤ n ∧ n ≤ 9223372036854775807
theorem k64_wf {n : Int} (h : (Lit.int .i64 n).wf = true) : K64 n := by
 have h2 : (decide (IntKind.i64.min ≤ n) && decide (n ≤ IntKind.i64.max)) = true := h
 rw [Bool.and_eq_true, decide_eq_true_eq, decide_eq_true_eq] at h2
 have e1 : IntKind.i64.min = -9223372036854775808 := by decide
 have e2 : IntKind.i64.max = 9223372036854775807 := by decide
 rw [e1, e2] at h2
 exact h2
def Act17R (w : World) (p : Act17X) : Prop :=
 EntsR w p.lv p.a.l ∧ (Cells w p.kv 1 p.a.keep.length (intCells p.a.keep) ∧ ∀ n ∈ p.a.keep, K64 n) ∧ Evs w p.ev p.a.es ∧ K64 p.a.op ∧ K64 p.a.n ∧ K64 p.a.m ∧ K64 p.a.ex ∧ K64 p.a.se ∧ K64 p.a.sq
def Acts17R (w : World) (v : Value) (ps : List Act17X) : Prop := Cells w v 10 ps.length (act17Cells ps) ∧ ∀ p ∈ ps, Act17R w p
theorem Act17R.next {w w' : World} {p : Act17X} (h : Act17R w p) (hb : Below w.heap.size w w') : Act17R w' p :=
 ⟨h.1.next hb, ⟨Cells.next h.2.1.1 hb, h.2.1.2⟩, Cells.next h.2.2.1 hb, h.2.2.2⟩
theorem Acts17R.next {w w' : World} {v : Value} {ps : List Act17X} (h : Acts17R w v ps) (hb : Below w.heap.size w w') : Acts17R w' v ps :=
 ⟨Cells.next h.1 hb, fun p hp => (h.2 p hp).next hb⟩
theorem act17Cells_at : ∀ (ps : List Act17X) (i : Nat) (hi : i < ps.length) (r : Nat), r < 10 → (act17Cells ps)[i * 10 + r]? = (act17Cells [ps[i]])[r]?
 | p :: ps, 0, _, r, hr => by
   show (act17Cells (p :: ps))[0 * 10 + r]? = (act17Cells [p])[r]?
   rw [show act17Cells (p :: ps) = act17Cells [p] ++ act17Cells ps by simp [act17Cells], Nat.zero_mul, Nat.zero_add, List.getElem?_append_left (by simpa [act17Cells] using hr)]
 | p :: ps, i + 1, hi, r, hr => by
   have := act17Cells_at ps i (by simpa using hi) r hr
   rw [show act17Cells (p :: ps) = act17Cells [p] ++ act17Cells ps by simp [act17Cells], List.getElem?_append_right (by simp [act17Cells]; omega), show (i + 1) * 10 + r - (act17Cells [p]).length = i * 10 + r by simp [act17Cells]; omega, this]
   rfl
theorem act17At {w : World} {v : Value} {ps : List Act17X} (h : Acts17R w v ps) (i : Nat) (hi : i < ps.length) {o n m ex se sq : Int} {s : ByteArray} {es : List Evt.Event} {l : List (Evt.Entry × Value)} {ks : List Int} {ev lv kv : Value} (hx : ps[i] = ⟨⟨o, n, m, s, ex, se, sq, es, l, ks⟩, ev, lv, kv⟩) :
   ∃ (b f c : Nat), v = .slice (some ⟨b, f, none⟩) ps.length c ∧ w.cell? ⟨b, f + i * 10, none⟩ = some (.int .i64 o) ∧ w.cell? ⟨b, f + i * 10 + 1, none⟩ = some (.int .i64 n) ∧ w.cell? ⟨b, f + i * 10 + 2, none⟩ = some (.int .i64 m) ∧
     w.cell? ⟨b, f + i * 10 + 3, none⟩ = some (.string s) ∧ w.cell? ⟨b, f + i * 10 + 4, none⟩ = some (.int .i64 ex) ∧ w.cell? ⟨b, f + i * 10 + 5, none⟩ = some (.int .i64 se) ∧ w.cell? ⟨b, f + i * 10 + 6, none⟩ = some (.int .i64 sq) ∧ w.cell? ⟨b, f + i * 10 + 7, none⟩ = some ev ∧
     w.cell? ⟨b, f + i * 10 + 8, none⟩ = some lv ∧ w.cell? ⟨b, f + i * 10 + 9, none⟩ = some kv ∧ Act17R w ⟨⟨o, n, m, s, ex, se, sq, es, l, ks⟩, ev, lv, kv⟩ := by
 rcases h.1.2 with ⟨h0, _⟩ | ⟨b, f, c, h1, h2⟩
 · omega
 · have hp := h.2 ps[i] (List.getElem_mem hi)
   have k := act17Cells_at ps i hi
   rw [hx] at k hp
   exact ⟨b, f, c, h1, h2 _ _ (k 0 (by omega)), h2 _ _ (k 1 (by omega)), h2 _ _ (k 2 (by omega)), h2 _ _ (k 3 (by omega)), h2 _ _ (k 4 (by omega)), h2 _ _ (k 5 (by omega)), h2 _ _ (k 6 (by omega)), h2 _ _ (k 7 (by omega)), h2 _ _ (k 8 (by omega)), h2 _ _ (k 9 (by omega)), hp⟩
theorem cells_lenC {w : World} {v : Value} {sz n : Nat} {xs : List Value} (h : Cells w v sz n xs) : ∃ va vc, v = .slice va n vc := by
 rcases cellsNil h with ⟨h0, a, c, rfl⟩ | ⟨b, o, c, rfl⟩
 · exact ⟨a, c, by rw [h0]⟩
 · exact ⟨_, _, rfl⟩
instance : Inhabited Act17X := ⟨⟨⟨0, 0, 0, ⟨#[]⟩, 0, 0, 0, [], [], []⟩, .nilIface, .nilIface, .nilIface⟩⟩
section
variable {H : Type} {enc : TypeId × Value → H} {W : World}
set_option maxRecDepth 10000 in
theorem open_acts17 {fuel : Nat} {v : Value} {x : DataW H × List MemPlace} (h : DataW.trod enc Tryz.prog W 0 (fun _ => true) true fuel 22 [v] = some x) : ∃ ps : List Act17X, Acts17R W v ps := by
 rcases open_slice Tryz.underlying22 h with ⟨hcs, _⟩ | ⟨a, len, cap, m, n, D, Pl, hcs, _, hl, hml, hm, _, hx⟩
 · simp only [List.cons.injEq, and_true] at hcs
   subst hcs
   exact ⟨[], ⟨⟨rfl, .inl ⟨rfl, _, _, rfl⟩⟩, fun p hp => by cases hp⟩⟩
 · simp only [List.cons.injEq, and_true] at hcs
   subst hcs
   have hc10 : Tryz.prog.cellsOf 46 = 10 := by kernel_rfl
   have hc5 : Tryz.prog.cellsOf 38 = 5 := by kernel_rfl
   have hs1 : Tryz.prog.cellsOf 9 = 1 := by kernel_rfl
   have hi1 : Tryz.prog.cellsOf 3 = 1 := by kernel_rfl
   have he1 : Tryz.prog.cellsOf 43 = 1 := by kernel_rfl
   have hw1 : Tryz.prog.cellsOf 36 = 1 := by kernel_rfl
   have hv1 : Tryz.prog.cellsOf 44 = 1 := by kernel_rfl
   have each : ∀ i, i < len → ∃ p : Act17X, Act17R W p ∧ ∀ r, r < 10 → W.cell? ((a.add (i * 10)).add r) = (act17Cells [p])[r]? := by
     intro i hi
     obtain ⟨cs', h1, h2⟩ := hx i (by rw [hm]; simp only [if_true]; omega)
     rw [hc10] at h1
     obtain ⟨_, hl10, hat⟩ := World.cells?_some h1
     obtain ⟨u0, u1, u2, u3, u4, u5, u6, u7, u8, u9, rfl⟩ : ∃ u0 u1 u2 u3 u4 u5 u6 u7 u8 u9, cs' = [u0, u1, u2, u3, u4, u5, u6, u7, u8, u9] := by
       match cs', hl10 with
       | [u0, u1, u2, u3, u4, u5, u6, u7, u8, u9], _ => exact ⟨u0, u1, u2, u3, u4, u5, u6, u7, u8, u9, rfl⟩
     obtain ⟨xs, n2, _, _, _, hlen, hf⟩ := DataW.trod_struct Tryz.underlying46 h2
     obtain ⟨z0, z1, z2, z3, z4, z5, rfl⟩ : ∃ z0 z1 z2 z3 z4 z5, xs = [z0, z1, z2, z3, z4, z5] := by
       match xs, hlen with
       | [z0, z1, z2, z3, z4, z5], _ => exact ⟨z0, z1, z2, z3, z4, z5, rfl⟩
     have hz0 : DataW.trod enc Tryz.prog W 0 (fun _ => true) true n2 3 [u0] = some z0 := by simpa [hi1] using hf 0 _ rfl
     have hz1 : DataW.trod enc Tryz.prog W 0 (fun _ => true) true n2 3 [u1] = some z1 := by simpa [hi1] using hf 1 _ rfl
     have hz2 : DataW.trod enc Tryz.prog W 0 (fun _ => true) true n2 3 [u2] = some z2 := by simpa [hi1] using hf 2 _ rfl
     have hz3 : DataW.trod enc Tryz.prog W 0 (fun _ => true) true n2 38 [u3, u4, u5, u6, u7] = some z3 := by simpa [hi1, hc5] using hf 3 _ rfl
     have hz4 : DataW.trod enc Tryz.prog W 0 (fun _ => true) true n2 43 [u8] = some z4 := by simpa [hi1, hc5, he1] using hf 4 _ rfl
     have hz5 : DataW.trod enc Tryz.prog W 0 (fun _ => true) true n2 44 [u9] = some z5 := by simpa [hi1, hc5, he1, hv1] using hf 5 _ rfl
     obtain ⟨p0, e0, _, b0⟩ := DataW.trod_int Tryz.underlying3 hz0
     obtain ⟨p1, e1, _, b1⟩ := DataW.trod_int Tryz.underlying3 hz1
     obtain ⟨p2, e2, _, b2⟩ := DataW.trod_int Tryz.underlying3 hz2
     obtain ⟨ls, hls, _⟩ := open_entries hz4
     obtain ⟨ks, hk1, hk2⟩ := open_introw hz5
     obtain ⟨ys, n3, _, _, _, hlen3, hg⟩ := DataW.trod_struct Tryz.underlying38 hz3
     obtain ⟨q0, q1, q2, q3, q4, rfl⟩ : ∃ q0 q1 q2 q3 q4, ys = [q0, q1, q2, q3, q4] := by
       match ys, hlen3 with
       | [q0, q1, q2, q3, q4], _ => exact ⟨q0, q1, q2, q3, q4, rfl⟩
     have hq0 : DataW.trod enc Tryz.prog W 0 (fun _ => true) true n3 9 [u3] = some q0 := by simpa [hs1] using hg 0 _ rfl
     have hq1 : DataW.trod enc Tryz.prog W 0 (fun _ => true) true n3 3 [u4] = some q1 := by simpa [hi1] using hg 1 _ rfl
     have hq2 : DataW.trod enc Tryz.prog W 0 (fun _ => true) true n3 3 [u5] = some q2 := by simpa [hi1] using hg 2 _ rfl
     have hq3 : DataW.trod enc Tryz.prog W 0 (fun _ => true) true n3 3 [u6] = some q3 := by simpa [hi1] using hg 3 _ rfl
     have hq4 : DataW.trod enc Tryz.prog W 0 (fun _ => true) true n3 36 [u7] = some q4 := by simpa [hw1] using hg 4 _ rfl
     obtain ⟨s3, e3, _, _⟩ := DataW.trod_string Tryz.underlying9 hq0
     obtain ⟨p4, e4, _, b4⟩ := DataW.trod_int Tryz.underlying3 hq1
     obtain ⟨p5, e5, _, b5⟩ := DataW.trod_int Tryz.underlying3 hq2
     obtain ⟨p6, e6, _, b6⟩ := DataW.trod_int Tryz.underlying3 hq3
     obtain ⟨es, hev⟩ := open_events hq4
     simp only [List.cons.injEq, and_true] at e0 e1 e2 e3 e4 e5 e6
     subst e0 e1 e2 e3 e4 e5 e6
     refine ⟨⟨⟨p0, p1, p2, s3, p4, p5, p6, es, ls, ks⟩, u7, u8, u9⟩, ⟨hls, ⟨hk1, hk2⟩, hev, k64_wf b0, k64_wf b1, k64_wf b2, k64_wf b4, k64_wf b5, k64_wf b6⟩, fun r hr => ?_⟩
     rw [hat r hr]
     rfl
   obtain ⟨f, hf⟩ := choose_lt (α := Act17X) (p := fun i p => Act17R W p ∧ ∀ r, r < 10 → W.cell? ((a.add (i * 10)).add r) = (act17Cells [p])[r]?) each
   have hc := cells_rows (w := W) (a := a) (len := len) (cap := cap) (sz := 10) (fun i => act17Cells [f i]) (fun i _ => rfl) (by omega) (fun i hi r hr => (hf i hi).2 r hr)
   refine ⟨(List.range len).map f, ⟨?_, fun p hp => ?_⟩⟩
   · have e : act17Cells ((List.range len).map f) = (List.range len).flatMap fun i => act17Cells [f i] := by
       simp [act17Cells, List.flatMap_map]
     rw [e, List.length_map, List.length_range]
     exact hc
   · obtain ⟨i, hi, rfl⟩ := List.mem_map.1 hp
     exact (hf i (List.mem_range.1 hi)).1
end
def Act17.en (a : Act17) : Evt.Entry := ⟨0, 0, ⟨a.s.data.toList, a.ex, a.se, a.sq, a.es⟩⟩
def small17A (p : Act17X) : Bool := fitL (plainE p.a.l) && fitL [p.a.en] && decide (p.a.l.length ≤ 12) && decide (p.a.keep.length ≤ 40)
def small17L (l : List Act17X) : Bool := decide (l.length ≤ 40) && l.all small17A
set_option maxHeartbeats 4000000 in
set_option maxRecDepth 100000 in
theorem small17_any (v : Value) (ps : List Act17X) (w : World) (hc : Acts17R w v ps) :
   Calls Tryz.prog 7 #[v] w fun e w' => e = .returned (.bool (small17L ps)) ∧ Below w.heap.size w w' := by
 obtain ⟨va, vc, rfl⟩ := cells_lenC hc.1
 by_cases h40 : 40 < ps.length
 · have HN := Lib.hid (show small17L ps = false by unfold small17L; simp; omega)
   have hi40 : (40 : Int) < (ps.length : Int) := by omega
   clear hc
   go_enter Tryz.func7, Tryz.ntmps7
   go_wp2
   go_ret
   exact ⟨by rw [HN.out]; rfl, Below.refl _ _⟩
 · have hi40 : ¬ (40 : Int) < (ps.length : Int) := by omega
   have HF := Lib.hid (show small17L ps = ps.all small17A by unfold small17L; simp; omega)
   have HC := Lib.hid hc
   clear hc
   go_enter Tryz.func7, Tryz.ntmps7
   go_wp2
   go_loopw [3] (fun lv wr => ∃ i : Nat, lv = .int .i64 i ∧ i ≤ ps.length ∧ Below w.heap.size w wr ∧ (ps.drop i).all small17A = small17L ps) (fun lv _ => ps.length - (intOf lv).toNat)
   case atStart => exact ⟨0, rfl, by omega, Below.refl _ _, HF.out.symm⟩
   case round =>
     obtain ⟨i, rfl, hi, hbw, hall⟩ := hrel
     by_cases hp : i < ps.length
     · obtain ⟨⟨⟨o, n, m, s, ex, se, sq, es, l, ks⟩, ev, lv, kv⟩, hx⟩ : ∃ x, ps[i] = x := ⟨_, rfl⟩
       obtain ⟨b, f, c, hv, k0, k1, k2, k3, k4, k5, k6, k7, k8, k9, hR⟩ := act17At (HC.out.next hbw) i hp hx
       obtain ⟨ka, kc, hkv⟩ := cells_lenC hR.2.1.1
       have hkv : kv = .slice ka ks.length kc := hkv
       subst hkv
       obtain ⟨la, lc, hlv⟩ := cells_lenC hR.1.1
       have hlv : lv = .slice la l.length lc := hlv
       subst hlv
       obtain ⟨ea, el, ec, hev⟩ := evs_slice hR.2.2.1
       have hev : ev = .slice ea el ec := hev
       subst hev
       cases hv
       have HD := Lib.hid (show (ps.drop i).all small17A = ((fitL (plainE l) && fitL [(⟨0, 0, ⟨s.data.toList, ex, se, sq, es⟩⟩ : Evt.Entry)] && decide (l.length ≤ 12) && decide (ks.length ≤ 40)) && (ps.drop (i + 1)).all small17A) by
         rw [List.drop_eq_getElem_cons hp, hx]; rfl)
       have HA := Lib.hid hall
       have HFW := Lib.hid (fits17_any (.slice la l.length lc) l wr hR.1)
       have HB := Lib.hid hbw
       have HEV := Lib.hid hR.2.2.1
       obtain ⟨F, hF⟩ : ∃ F, fitL (plainE l) = F := ⟨_, rfl⟩
       obtain ⟨G, hG⟩ : ∃ G, fitL [(⟨0, 0, ⟨s.data.toList, ex, se, sq, es⟩⟩ : Evt.Entry)] = G := ⟨_, rfl⟩
       rw [hF] at HFW HD
       rw [hG] at HD
       have HG := Lib.hid hG
       clear hall hx hR hF hG hbw k0 k1 k2
       go_wp2_with fail
       refine HFW.out.mono ?_
       rintro e w1 ⟨rfl, b1⟩
       have k3 := cell_kept b1 (Nat.le_refl _) k3
       have k4 := cell_kept b1 (Nat.le_refl _) k4
       have k5 := cell_kept b1 (Nat.le_refl _) k5
       have k6 := cell_kept b1 (Nat.le_refl _) k6
       have k7 := cell_kept b1 (Nat.le_refl _) k7
       have k8 := cell_kept b1 (Nat.le_refl _) k8
       have k9 := cell_kept b1 (Nat.le_refl _) k9
       have hb1 := Below.up HB.out (Nat.le_refl _) b1
       obtain ⟨W1, hW1⟩ : ∃ W1, w1.alloc (.cells #[.int .i64 0, .int .i64 0, .string s, .int .i64 ex, .int .i64 se, .int .i64 sq, .slice ea el ec] 40) = W1 := ⟨_, rfl⟩
       have b2 : Below w1.heap.size w1 W1 := by rw [← hW1]; exact (Below.refl _ w1).alloc (Nat.le_refl _) _
       have hP : w1.heap.size < w1.heap.size + 1 := by omega
       have HFE := Lib.hid (show EntsR W1 (.slice (some ⟨w1.heap.size, 0, none⟩) 1 1) [(⟨0, 0, ⟨s.data.toList, ex, se, sq, es⟩⟩, .slice ea el ec)] from
         ⟨⟨rfl, .inr ⟨w1.heap.size, 0, 1, rfl, fun j x hj => by
             have hh : W1.heap[w1.heap.size]? = some (.cells #[.int .i64 0, .int .i64 0, .string s, .int .i64 ex, .int .i64 se, .int .i64 sq, .slice ea el ec] 40) := by rw [← hW1]; exact heap_alloc_new w1 _
             have hs : (⟨s.data.toList.toArray⟩ : ByteArray) = s := rfl
             match j, hj with
             | 0, hj => cases hj; rw [Lib.cell_of_heap hh]; rfl
             | 1, hj => cases hj; rw [Lib.cell_of_heap hh]; rfl
             | 2, hj => cases hj; rw [Lib.cell_of_heap hh]; rfl
             | 3, hj => cases hj; rw [Lib.cell_of_heap hh]; rfl
             | 4, hj => cases hj; rw [Lib.cell_of_heap hh]; rfl
             | 5, hj => cases hj; rw [Lib.cell_of_heap hh]; rfl
             | 6, hj => cases hj; rw [Lib.cell_of_heap hh]; rfl⟩⟩,
           fun p hp => by
             cases List.mem_singleton.1 hp
             exact Cells.next (Cells.next HEV.out b1) b2⟩)
       have HFX := Lib.hid (fits17_any _ _ W1 HFE.out)
       rw [show plainE [((⟨0, 0, ⟨s.data.toList, ex, se, sq, es⟩⟩ : Evt.Entry), (.slice ea el ec : Value))] = [⟨0, 0, ⟨s.data.toList, ex, se, sq, es⟩⟩] from rfl, HG.out] at HFX
       have hb2 := Below.up hb1 (Nat.le_refl _) b2
       have HB2 := Lib.hid hb2
       clear HFW HFE HEV HG HB hb1 hb2
       go_wp2_with fail
       refine HFX.out.mono ?_
       rintro e w2 ⟨rfl, b3⟩
       have b23 := Below.up b2 (Nat.le_refl _) b3
       have k8 := cell_kept b23 (Nat.le_refl _) k8
       have k9 := cell_kept b23 (Nat.le_refl _) k9
       have HB3 := Lib.hid (Below.up HB2.out (Nat.le_refl _) b3)
       clear HFX HB2 b1 b2 b3 b23 hW1 k3 k4 k5 k6 k7
       have HNo := Lib.hid (fun (h : ((F && G && decide (l.length ≤ 12) && decide (ks.length ≤ 40)) = false)) => show small17L ps = false by
         rw [← HA.out, HD.out, h]; rfl)
       by_cases hl : 12 < l.length
       · have HN := Lib.hid (HNo.out (by
           have : decide (l.length ≤ 12) = false := by simp; omega
           rw [this]; simp))
         have hli : (12 : Int) < (l.length : Int) := by omega
         clear HD HA HNo
         cases F <;> cases G <;>
         · go_wp2
           go_ret
           exact ⟨by rw [HN.out]; rfl, HB3.out⟩
       have hli : ¬ (12 : Int) < (l.length : Int) := by omega
       by_cases hk : 40 < ks.length
       · have HN := Lib.hid (HNo.out (by
           have : decide (ks.length ≤ 40) = false := by simp; omega
           rw [this]; simp))
         have hki : (40 : Int) < (ks.length : Int) := by omega
         clear HD HA HNo
         cases F <;> cases G <;>
         · go_wp2
           go_ret
           exact ⟨by rw [HN.out]; rfl, HB3.out⟩
       have hki : ¬ (40 : Int) < (ks.length : Int) := by omega
       cases F with
       | false =>
         have HN := Lib.hid (HNo.out rfl)
         clear HD HA HNo
         go_wp2
         go_ret
         exact ⟨by rw [HN.out]; rfl, HB3.out⟩
       | true =>
       cases G with
       | false =>
         have HN := Lib.hid (HNo.out rfl)
         clear HD HA HNo
         go_wp2
         go_ret
         exact ⟨by rw [HN.out]; rfl, HB3.out⟩
       | true =>
       have HY := Lib.hid (show (ps.drop (i + 1)).all small17A = small17L ps by
         have q1 : decide (l.length ≤ 12) = true := by simp; omega
         have q2 : decide (ks.length ≤ 40) = true := by simp; omega
         rw [← HA.out, HD.out, q1, q2]; simp)
       clear HD HA HNo
       go_wp2
       exact ⟨⟨i + 1, by go_num, by omega, HB3.out, HY.out⟩, by simp [intOf]; omega⟩
     · have HN := Lib.hid (show small17L ps = true by
         rw [← hall, List.drop_eq_nil_of_le (by omega)]; rfl)
       clear hall
       go_wp2
       go_ret
       exact ⟨by rw [HN.out]; rfl, hbw⟩
end Go.Proofs.YtgddgipjpdjoaaaGreatDoor
