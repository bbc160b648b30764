/-
  The walks of the law package 11's begun, plain, pick, row, sameInts, sameMarks.
-/
import Derived.Test.YtbknlffebcbjfaaGreatDoorAt
import Derived.Test.YtbknlffebcbjfaaGreatDoorManA
import Derived.Test.YtbknlffebcbjfaaGreatDoorMarkA
namespace Go.Proofs.YtbknlffebcbjfaaGreatDoor
open Go.RowKit Go.Shelf

theorem pair11_size : (Tryz.prog.info? 48).map (·.size) = some 2 := by kernel_rfl
def PB11 (b : Nat) (u v : Value) (w : World) : Prop := w.heap[b]? = some (.cells #[u, v] 48 (0, 0))
theorem PB11.kept {b : Nat} {u v : Value} {w w' : World} {r : Option Nat} (h : PB11 b u v w) (hg : w.grownBy w' r) (hr : some b ≠ r) : PB11 b u v w' :=
  (hg.block b (Array.getElem?_eq_some_iff.1 h).1 hr).trans h
theorem PB11.next {b : Nat} {u v : Value} {w w' : World} (h : PB11 b u v w) (hb : Below w.heap.size w w') : PB11 b u v w' := h.kept (grown_of_below hb) (by simp)
theorem PB11.cells {b : Nat} {u v : Value} {w : World} (h : PB11 b u v w) : w.cell? ⟨b, 0, none⟩ = some u ∧ w.cell? ⟨b, 1, none⟩ = some v := by
  refine ⟨?_, ?_⟩ <;> (rw [Lib.cell_of_heap h]; rfl)
theorem PB11.frozen {b : Nat} {u v : Value} {w : World} (h : PB11 b u v w) : ∀ i, w.frozen? ⟨b, i, none⟩ = false := fun i => Lib.frozen_of_heap h i
theorem PB11.put2 {b : Nat} {u0 v0 : Value} {w : World} (h : PB11 b u0 v0 w) (u v : Value) :
    PB11 b u v ((w.setCell ⟨b, 0, none⟩ u).setCell ⟨b, 1, none⟩ v) ∧ w.grownBy ((w.setCell ⟨b, 0, none⟩ u).setCell ⟨b, 1, none⟩ v) (some b) :=
  ⟨setCell_at (i := 1) (setCell_at (i := 0) h _) _, grown_trans (grown_set _ _ _ _) (grown_set _ _ _ _)⟩
set_option maxHeartbeats 2000000 in
theorem begun11_any (room : Int) (w : World) (h1 : 1 ≤ room) (h2 : room ≤ 1073741824) :
    Calls Tryz.prog 19 #[.int .i64 room] w fun e w' => ∃ (d m : Nat) (ft : Nat → Prop), e = .returned (.tuple #[.agg #[.pointer (some ⟨d, 0, none⟩), .pointer (some ⟨m, 0, none⟩)], .bool true]) ∧
      IsDisk w' d room [] ft ∧ (∀ j, ft j → w.heap.size ≤ j ∧ j < w'.heap.size) ∧ RefNew m room w' ∧ ¬ ft m ∧ Below w.heap.size w w' := by
  have p0 : PB11 w.heap.size (.pointer none) (.pointer none) (w.alloc (.cells #[.pointer none, .pointer none] 48)) := heap_alloc_new w _
  have hb0 := (Below.refl _ w).alloc (Nat.le_refl _) (.cells #[.pointer none, .pointer none] 48)
  have P0 := Lib.hid p0
  have HB0 := Lib.hid hb0
  have HN := Lib.hid (diskNew_any room (w.alloc (.cells #[.pointer none, .pointer none] 48)))
  clear p0 hb0
  go_enter Tryz.func19, Tryz.ntmps19
  go_wp2_with fail
  refine HN.out.mono ?_
  rintro e w1 (⟨hbad, _⟩ | ⟨_, d, rfl, hd, b1⟩)
  · exact absurd ⟨h1, h2⟩ hbad
  have hb1 := Below.up HB0.out (Nat.le_refl _) b1
  have hD := Lib.hid hd.narrow
  have HRN := Lib.hid (refNew_any room w1 h1 h2)
  have p1 := P0.out.next b1
  have hs1 := b1.size
  rw [World.size_alloc] at hs1
  clear HN P0 HB0 b1 hd
  go_wp2_with fail
  refine HRN.out.mono ?_
  rintro e w2 ⟨rfl, hw2⟩
  have hrn : RefNew w1.heap.size room w2 := by rw [hw2]; exact heap_alloc_new w1 _
  have b2 : Below w1.heap.size w1 w2 := by rw [hw2]; exact (Below.refl _ w1).alloc (Nat.le_refl _) _
  have hs2 : w2.heap.size = w1.heap.size + 1 := by rw [hw2]; simp
  have hb2 := Below.up hb1 (Nat.le_refl _) b2
  have p2 := p1.next b2
  have hd2 := hD.out.next b2
  obtain ⟨c0, c1⟩ := p2.cells
  have f0 := p2.frozen 0
  have f1 := p2.frozen 1
  have HP := Lib.hid (p2.put2 (.pointer (some ⟨d, 0, none⟩)) (.pointer (some ⟨w1.heap.size, 0, none⟩)))
  have HD3 := Lib.hid (hd2.kept fun j hj0 hj => HP.out.2.block j hj0 (by have := hj.1; simp at this; simp; omega))
  have HR3 := Lib.hid (show RefNew w1.heap.size room _ from (HP.out.2.block w1.heap.size (by omega) (by simp; omega)).trans hrn)
  have HB3 := Lib.hid (hb2.trans (below_of_grown HP.out.2 (Nat.le_refl _) (by omega)))
  have HFT := Lib.hid (fun j (hj : ((w.alloc (.cells #[.pointer none, .pointer none] 48)).heap.size ≤ j ∧ j < w1.heap.size)) => (⟨by have := hj.1; simp at this; omega, by have := HP.out.2.size; have := hj.2; omega⟩ : w.heap.size ≤ j ∧ j < ((w2.setCell ⟨w.heap.size, 0, none⟩ (.pointer (some ⟨d, 0, none⟩))).setCell ⟨w.heap.size, 1, none⟩ (.pointer (some ⟨w1.heap.size, 0, none⟩))).heap.size))
  clear hw2 hs2 p2 p1 hd2 hrn b2 HRN hD hs1
  go_wp2
  refine bodyPost_ret (results_cell1 rfl _ _ w.heap.size _ _ _ _ rfl HP.out.1 Tryz.underlying48 rfl pair11_size) rfl ?_
  exact ⟨d, w1.heap.size, _, rfl, HD3.out, HFT.out, HR3.out, fun h => by have := h.2; omega, HB3.out⟩

set_option maxHeartbeats 1000000 in
theorem pick11_any (c n : Int) (w : World) (h1 : -9223372036854775808 ≤ c) (h2 : c ≤ 9223372036854775807) (h3 : 1 ≤ n) (h4 : n ≤ 1000000) :
    Calls Tryz.prog 21 #[.int .i64 c, .int .i64 n] w fun e w' => (∃ k : Nat, e = .returned (.int .i64 (k : Int)) ∧ (k : Int) < n) ∧ w' = w := by
  by_cases hc : c < 0
  · have hw1 : wrap64 (c + 1) = c + 1 := IntWalk.wrap64_in _ (by omega)
    have hw2 : wrap64 (-(c + 1)) = -(c + 1) := IntWalk.wrap64_in _ (by omega)
    go_enter Tryz.func21, Tryz.ntmps21
    go_wp2
    go_ret
    have hm : -((c + 1).tmod n) = (-(c + 1)) % n := by rw [← Int.neg_tmod, Int.tmod_eq_emod_of_nonneg (by omega)]
    exact ⟨⟨((-(c + 1)) % n).toNat, by rw [Int.toNat_of_nonneg (Int.emod_nonneg _ (by omega)), ← hm]; rfl, by rw [Int.toNat_of_nonneg (Int.emod_nonneg _ (by omega))]; exact Int.emod_lt_of_pos _ (by omega)⟩, rfl⟩
  · go_enter Tryz.func21, Tryz.ntmps21
    go_wp2
    go_ret
    exact ⟨⟨(c % n).toNat, by rw [Int.toNat_of_nonneg (Int.emod_nonneg _ (by omega))]; rfl, by rw [Int.toNat_of_nonneg (Int.emod_nonneg _ (by omega))]; exact Int.emod_lt_of_pos _ (by omega)⟩, rfl⟩

theorem intAt2 {w : World} {v : Value} {l : List Int} (h : Cells w v 1 l.length (intCells l)) (i : Nat) (hi : i < l.length) {x : Int} (hx : l[i] = x) :
    ∃ b o c, v = .slice (some ⟨b, o, none⟩) l.length c ∧ w.cell? ⟨b, o + i, none⟩ = some (.int .i64 x) := by
  rcases h.2 with ⟨h0, _⟩ | ⟨b, o, c, h1, h2⟩
  · omega
  · exact ⟨b, o, c, h1, h2 i _ (by rw [← hx]; simp [intCells, List.getElem?_eq_getElem hi])⟩
theorem cells_len {w : World} {v : Value} {sz n : Nat} {xs : List Value} (h : Cells w v sz n xs) : ∃ va vc, v = .slice va n vc := by
  rcases cellsNil h with ⟨h0, a, c, rfl⟩ | ⟨b, o, c, rfl⟩
  · exact ⟨a, c, by rw [h0]⟩
  · exact ⟨_, _, rfl⟩
set_option maxHeartbeats 1000000 in
theorem sameInts11_any (va vb : Value) (l : List Int) (w : World) (ha : Cells w va 1 l.length (intCells l)) (hb : Cells w vb 1 l.length (intCells l)) (hn : l.length ≤ 1000000) :
    Calls Tryz.prog 28 #[va, vb] w fun e w' => e = .returned (.bool true) ∧ Below w.heap.size w w' := by
  obtain ⟨aa, ac, rfl⟩ := cells_len ha
  obtain ⟨ba, bc, rfl⟩ := cells_len hb
  have HA := Lib.hid ha
  have HB := Lib.hid hb
  clear ha hb
  go_enter Tryz.func28, Tryz.ntmps28
  go_wp2
  go_loopw [5] (fun lv wr => ∃ i : Nat, lv = .int .i64 i ∧ i ≤ l.length ∧ Below w.heap.size w wr) (fun lv _ => l.length - (intOf lv).toNat)
  case atStart => exact ⟨0, rfl, by omega, Below.refl _ _⟩
  case round =>
    obtain ⟨i, rfl, hi, hbw⟩ := hrel
    by_cases hp : i < l.length
    · obtain ⟨x, hx⟩ : ∃ x, l[i] = x := ⟨_, rfl⟩
      obtain ⟨b1, o1, c1, hv1, k1⟩ := intAt2 HA.out i hp hx
      obtain ⟨b2, o2, c2, hv2, k2⟩ := intAt2 HB.out i hp hx
      cases hv1
      cases hv2
      have k1 := cell_kept hbw (Nat.le_refl _) k1
      have k2 := cell_kept hbw (Nat.le_refl _) k2
      clear hx
      go_wp2
      go_quiet (fail)
      go_wp2
      exact ⟨⟨i + 1, by go_num, by omega, below_drewN hbw _⟩, by simp [intOf]; omega⟩
    · go_wp2
      go_ret
      exact ⟨rfl, hbw⟩
def markCells (ms : List (Int × Int)) : List Value := ms.flatMap fun m => [.int .i64 m.1, .int .i64 m.2]
theorem markCells_at : ∀ (ms : List (Int × Int)) (i : Nat) (hi : i < ms.length), (markCells ms)[i * 2]? = some (.int .i64 ms[i].1) ∧ (markCells ms)[i * 2 + 1]? = some (.int .i64 ms[i].2)
  | m :: ms, 0, _ => ⟨rfl, rfl⟩
  | m :: ms, i + 1, hi => by
    have := markCells_at ms i (by simpa using hi)
    have e : ∀ k, (markCells (m :: ms))[(i + 1) * 2 + k]? = (markCells ms)[i * 2 + k]? := fun k => by
      rw [show markCells (m :: ms) = .int .i64 m.1 :: .int .i64 m.2 :: markCells ms from rfl, show (i + 1) * 2 + k = (i * 2 + k) + 1 + 1 by omega]
      simp only [List.getElem?_cons_succ]
    have e0 := e 0
    simp only [Nat.add_zero] at e0
    simp only [e, e0, List.getElem_cons_succ]
    exact this
theorem markAt {w : World} {v : Value} {ms : List (Int × Int)} (h : Cells w v 2 ms.length (markCells ms)) (i : Nat) (hi : i < ms.length) {x y : Int} (hx : ms[i] = (x, y)) :
    ∃ b o c, v = .slice (some ⟨b, o, none⟩) ms.length c ∧ w.cell? ⟨b, o + i * 2, none⟩ = some (.int .i64 x) ∧ w.cell? ⟨b, o + i * 2 + 1, none⟩ = some (.int .i64 y) := by
  rcases h.2 with ⟨h0, _⟩ | ⟨b, o, c, h1, h2⟩
  · omega
  · have := markCells_at ms i hi
    rw [hx] at this
    exact ⟨b, o, c, h1, h2 _ _ this.1, h2 _ _ this.2⟩
set_option maxHeartbeats 1000000 in
theorem sameMarks11_any (va vb : Value) (l : List (Int × Int)) (w : World) (ha : Cells w va 2 l.length (markCells l)) (hb : Cells w vb 2 l.length (markCells l)) (hn : l.length ≤ 1000000) :
    Calls Tryz.prog 26 #[va, vb] w fun e w' => e = .returned (.bool true) ∧ Below w.heap.size w w' := by
  obtain ⟨aa, ac, rfl⟩ := cells_len ha
  obtain ⟨ba, bc, rfl⟩ := cells_len hb
  have HA := Lib.hid ha
  have HB := Lib.hid hb
  clear ha hb
  go_enter Tryz.func26, Tryz.ntmps26
  go_wp2
  go_loopw [5] (fun lv wr => ∃ i : Nat, lv = .int .i64 i ∧ i ≤ l.length ∧ Below w.heap.size w wr) (fun lv _ => l.length - (intOf lv).toNat)
  case atStart => exact ⟨0, rfl, by omega, Below.refl _ _⟩
  case round =>
    obtain ⟨i, rfl, hi, hbw⟩ := hrel
    by_cases hp : i < l.length
    · obtain ⟨⟨x, y⟩, hx⟩ : ∃ x, l[i] = x := ⟨_, rfl⟩
      obtain ⟨b1, o1, c1, hv1, k1, k3⟩ := markAt HA.out i hp hx
      obtain ⟨b2, o2, c2, hv2, k2, k4⟩ := markAt HB.out i hp hx
      cases hv1
      cases hv2
      have k1 := cell_kept hbw (Nat.le_refl _) k1
      have k2 := cell_kept hbw (Nat.le_refl _) k2
      have k3 := cell_kept hbw (Nat.le_refl _) k3
      have k4 := cell_kept hbw (Nat.le_refl _) k4
      clear hx
      go_wp2
      go_quiet (fail)
      go_wp2
      exact ⟨⟨i + 1, by go_num, by omega, below_drewN hbw _⟩, by simp [intOf]; omega⟩
    · go_wp2
      go_ret
      exact ⟨rfl, hbw⟩
/-- The law package's right entries that go on from a place. -/
def Lg.plainN (pos ep : Int) : Evt.Entry := ⟨pos, ep, ⟨[115], 0, 1, 1, [⟨[107], []⟩]⟩⟩
def Lg.rowL (pos ep : Int) (n : Nat) : List Evt.Entry := (List.range n).map fun (i : Nat) => Lg.plainN (pos + 1 + (i : Int)) ep
theorem Lg.rowL_succ (pos ep : Int) (n : Nat) : Lg.rowL pos ep (n + 1) = Lg.rowL pos ep n ++ [Lg.plainN (pos + 1 + n) ep] := by simp [Lg.rowL, List.range_succ]
theorem Lg.rowL_len (pos ep : Int) (n : Nat) : (Lg.rowL pos ep n).length = n := by simp [Lg.rowL]
theorem fine_plain (pos ep : Int) : Fine (Lg.plainN pos ep) := ⟨by simp [Lg.plainN], fun e he => by simp [Lg.plainN] at he; subst he; simp, by simp [Lg.plainN]⟩
def KB (g : Nat) (w : World) : Prop := w.heap[g]? = some (.cells #[.string ⟨#[107]⟩, .string ⟨#[]⟩] 133 (0, 0))
theorem KB.evs {g : Nat} {w : World} (h : KB g w) : Evs w (.slice (some ⟨g, 0, none⟩) 1 1) [⟨[107], []⟩] := by
  refine ⟨rfl, .inr ⟨g, 0, 1, rfl, fun j u hj => ?_⟩⟩
  rw [Lib.cell_of_heap h]
  match j with
  | 0 => simpa [evCells] using hj
  | 1 => simpa [evCells] using hj
  | j + 2 => simp [evCells] at hj
/-- Right entries of a caller's, that lie in blocks from a base on. -/
def NewRow (base : Nat) (w : World) (v : Value) (ps : List EnX) : Prop := w.ownsRow base 58 7 v ps.length (enCells ps) ∧ ∀ p ∈ ps, ∃ pos ep g, p = (Lg.plainN pos ep, .slice (some ⟨g, 0, none⟩) 1 1) ∧ KB g w ∧ base ≤ g
theorem NewRow.ents {base : Nat} {w : World} {v : Value} {ps : List EnX} (h : NewRow base w v ps) : Ents w v ps := ⟨cells_of_owns h.1, fun p hp => by
  obtain ⟨pos, ep, g, rfl, hk, _⟩ := h.2 p hp
  exact ⟨hk.evs, fine_plain pos ep⟩⟩
theorem NewRow.next {base : Nat} {w w' : World} {v : Value} {ps : List EnX} (h : NewRow base w v ps) (hb : Below w.heap.size w w') : NewRow base w' v ps :=
  ⟨owns_next h.1 hb, fun p hp => by
    obtain ⟨pos, ep, g, rfl, hk, hg⟩ := h.2 p hp
    exact ⟨pos, ep, g, rfl, heap_kept hb (Nat.le_refl _) hk, hg⟩⟩
theorem own_ne' {w : World} {B e sz n b ty : Nat} {v : Value} {xs : List Value} {c : Array Value} {fr : Nat × Nat} (h : w.ownsRow B e sz v n xs) (hb : w.heap[b]? = some (.cells c ty fr)) (hne : ty ≠ e) : v.ownBlock ≠ some b := by
  rcases h.2 with ⟨rfl, _⟩ | ⟨g, cap, cur, rfl, _, hg, _⟩
  · simp [Value.ownBlock]
  · intro e'
    simp only [Value.ownBlock, Option.some.injEq] at e'
    subst e'
    rw [hg] at hb
    cases hb
    exact hne rfl
theorem entCells_new (w : World) (p : EnX) (e : TypeId) : Cells (w.alloc (.cells #[.int .i64 p.1.pos, .int .i64 p.1.epoch, .string ⟨p.1.b.stream.toArray⟩, .int .i64 p.1.b.expect, .int .i64 p.1.b.session, .int .i64 p.1.b.seq, p.2] e)) (.slice (some ⟨w.heap.size, 0, none⟩) 1 1) 7 1 (enCells [p]) := by
  refine ⟨rfl, .inr ⟨w.heap.size, 0, 1, rfl, fun j u hj => ?_⟩⟩
  rw [Lib.cell_of_heap (heap_alloc_new w _)]
  match j with
  | 0 => simpa [enCells] using hj
  | 1 => simpa [enCells] using hj
  | 2 => simpa [enCells] using hj
  | 3 => simpa [enCells] using hj
  | 4 => simpa [enCells] using hj
  | 5 => simpa [enCells] using hj
  | 6 => simpa [enCells] using hj
  | j + 7 => simp [enCells] at hj
set_option maxHeartbeats 2000000 in
theorem plain11_any (p ep : Int) (w : World) :
    Calls Tryz.prog 22 #[.int .i64 p, .int .i64 ep] w fun e w' => ∃ g, e = .returned (.agg #[.int .i64 p, .int .i64 ep, .string ⟨#[115]⟩, .int .i64 0, .int .i64 1, .int .i64 1, .slice (some ⟨g, 0, none⟩) 1 1]) ∧ KB g w' ∧ w.heap.size ≤ g ∧ Below w.heap.size w w' := by
  have z0 : EB w.heap.size 0 0 ⟨#[]⟩ 0 0 0 (.slice none 0 0) (w.alloc (.cells #[.int .i64 0, .int .i64 0, .string ⟨#[]⟩, .int .i64 0, .int .i64 0, .int .i64 0, .slice none 0 0] 58)) := heap_alloc_new w _
  go_enter Tryz.func22, Tryz.ntmps22
  go_wp2
  have hE0 : ((w.alloc (.cells #[.int .i64 p, .int .i64 ep, .string ⟨#[115]⟩, .int .i64 0, .int .i64 1, .int .i64 1, .slice (some ⟨w.heap.size + 1, 0, none⟩) 1 1] 58)).alloc (.cells #[.string ⟨#[107]⟩, .string ⟨#[]⟩] 133)).heap[w.heap.size]? = some (.cells #[.int .i64 p, .int .i64 ep, .string ⟨#[115]⟩, .int .i64 0, .int .i64 1, .int .i64 1, .slice (some ⟨w.heap.size + 1, 0, none⟩) 1 1] 58 (0, 0)) :=
    (Below.heap_alloc _ _ _ (by simp)).trans (heap_alloc_new w _)
  refine bodyPost_ret (results_cell_row rfl _ _ w.heap.size _ _ _ _ rfl hE0 Tryz.underlying58 rfl entry_size) rfl ?_
  have hb := heap_alloc_new (w.alloc (.cells #[.int .i64 p, .int .i64 ep, .string ⟨#[115]⟩, .int .i64 0, .int .i64 1, .int .i64 1, .slice (some ⟨w.heap.size + 1, 0, none⟩) 1 1] 58)) (.cells #[.string ⟨#[107]⟩, .string ⟨#[]⟩] 133)
  rw [World.size_alloc] at hb
  exact ⟨_, rfl, hb, by omega, ((Below.refl _ w).alloc (Nat.le_refl _) _).alloc (by simp) _⟩
theorem enCells_plain (pos ep : Int) (g : Nat) : ∀ u ∈ enCells [(Lg.plainN pos ep, Value.slice (some ⟨g, 0, none⟩) 1 1)], u.oneCell' = true := enCells_one _ (fun p hp => by rw [List.mem_singleton.1 hp]; exact ⟨_, _, _, rfl⟩)
theorem NewRow.push {base g : Nat} {w1 w2 : World} {v v' : Value} {ps : List EnX} {pos ep : Int} (h : NewRow base w1 v ps) (hk : KB g w1) (hg : base ≤ g) (ho : w2.ownsRow base 58 7 v' (ps.length + 1) (enCells ps ++ enCells [(Lg.plainN pos ep, .slice (some ⟨g, 0, none⟩) 1 1)])) (hgr : w1.grownBy w2 v.ownBlock) :
    NewRow base w2 v' (ps ++ [(Lg.plainN pos ep, .slice (some ⟨g, 0, none⟩) 1 1)]) := by
  have keep : ∀ j, KB j w1 → KB j w2 := fun j hj => (hgr.block j (Array.getElem?_eq_some_iff.1 hj).1 (fun e => own_ne' h.1 hj (by decide) e.symm)).trans hj
  refine ⟨by rw [List.length_append, enCells_append]; exact ho, fun p hp => ?_⟩
  rcases List.mem_append.1 hp with hp | hp
  · obtain ⟨a, b, c, rfl, q1, q2⟩ := h.2 p hp
    exact ⟨a, b, c, rfl, keep _ q1, q2⟩
  · rw [List.mem_singleton.1 hp]
    exact ⟨pos, ep, g, rfl, keep _ hk, hg⟩
set_option maxHeartbeats 4000000 in
set_option maxRecDepth 100000 in
theorem row11_any (pos ep : Int) (n : Nat) (w : World) (hp0 : -1000000 ≤ pos) (hp1 : pos ≤ 1000000) (hn : n ≤ 1000) :
    Calls Tryz.prog 32 #[.int .i64 pos, .int .i64 ep, .int .i64 n] w fun e w' => ∃ v ps, e = .returned v ∧ Hid (plainE ps = Lg.rowL pos ep n) ∧ Hid (NewRow w.heap.size w' v ps) ∧ Below w.heap.size w w' := by
  go_enter Tryz.func32, Tryz.ntmps32
  go_wp2
  go_loopw [7, 8] (fun lv iv wr => ∃ (v : Value) (i : Nat) (ps : List EnX), v = lv ∧ iv = .int .i64 i ∧ i ≤ n ∧ ps.length = i ∧ Hid (plainE ps = Lg.rowL pos ep i) ∧ Hid (NewRow w.heap.size wr v ps) ∧ Below w.heap.size w wr) (fun _ iv _ => n - (intOf iv).toNat)
  case atStart => exact ⟨_, 0, [], rfl, rfl, by omega, rfl, Lib.hid rfl, Lib.hid ⟨World.ownsRow_nil _ _ _ _, fun p hp => by cases hp⟩, Below.refl _ _⟩
  case round =>
    obtain ⟨v, i, ps, rfl, rfl, hi, hpl, HL, HR, hbw⟩ := hrel
    by_cases hp : i < n
    · have hw1 : wrap64 (pos + 1) = pos + 1 := IntWalk.wrap64_in _ (by omega)
      have hw2 : wrap64 (pos + 1 + (i : Int)) = pos + 1 + i := IntWalk.wrap64_in _ (by omega)
      have HP := Lib.hid (plain11_any (pos + 1 + i) ep wr)
      have HB := Lib.hid hbw
      have HPL := Lib.hid hpl
      clear hbw hpl
      go_wp2_with fail
      refine HP.out.mono ?_
      rintro e w1 ⟨g, rfl, hk, hg, b1⟩
      have hB1 := Below.up HB.out (Nat.le_refl _) b1
      have hbA : Below w1.heap.size w1 (w1.alloc (.cells #[.int .i64 (pos + 1 + i), .int .i64 ep, .string ⟨#[115]⟩, .int .i64 0, .int .i64 1, .int .i64 1, .slice (some ⟨g, 0, none⟩) 1 1] 58)) := (Below.refl _ _).alloc (Nat.le_refl _) _
      have hNR := (HR.out.next b1).next hbA
      have hx := entCells_new w1 (Lg.plainN (pos + 1 + i) ep, Value.slice (some ⟨g, 0, none⟩) 1 1) 58
      have HK := Lib.hid (heap_kept hbA (Nat.le_refl _) hk)
      have HG := Lib.hid (Nat.le_trans HB.out.size hg)
      have HB2 := Lib.hid (Below.up hB1 (Nat.le_refl _) hbA)
      have HN := Lib.hid hNR
      clear HP hk hg b1 hB1 hbA hNR HR
      go_wp2_with (at_builtin; refine wpList_append_row rfl _ _ rfl enT w.heap.size v ps.length (enCells ps) rfl HN.out.1 _ 1 (enCells [(Lg.plainN (pos + 1 + i) ep, Value.slice (some ⟨g, 0, none⟩) 1 1)]) rfl hx (enCells_plain _ _ _) ?c3 ?c2 ?_)
      case c3 => rw [HPL.out]; omega
      case c2 => exact HB2.out.size
      intro v' w2 hown hgr _
      have HN2 := Lib.hid (HN.out.push HK.out HG.out hown hgr)
      have HB3 := Lib.hid (HB2.out.grown hgr HB2.out.size (fun k hk => (HN.out.1.lt k hk).1))
      clear hown hgr hx
      go_wp2
      exact ⟨⟨v', i + 1, ps ++ [(Lg.plainN (pos + 1 + i) ep, Value.slice (some ⟨g, 0, none⟩) 1 1)], rfl, by go_num, by omega, by rw [List.length_append, HPL.out]; rfl, Lib.hid (by rw [Lg.rowL_succ, ← HL.out]; simp [plainE]), HN2, HB3.out⟩, by simp [intOf]; omega⟩
    · obtain rfl : i = n := by omega
      go_wp2
      go_ret
      exact ⟨_, ps, rfl, HL, HR, hbw⟩
end Go.Proofs.YtbknlffebcbjfaaGreatDoor
