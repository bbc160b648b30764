/-
  The walks of a log's reading functions (layer 11): At, Range, Segs, Marks; the searches among parts.
-/
import Derived.Test.YtbknlffebcbjfaaGreatDoorLogW
import Derived.Test.YtbknlffebcbjfaaGreatDoorLawL
namespace Go.Proofs.YtbknlffebcbjfaaGreatDoor
open Go.RowKit Go.Shelf

variable {a w w' : World} {lg d : Nat} {room : Int} {s : Lg.S} {fs : List Dk.File} {T X ft : Nat → Prop} {pv ev : Value} {ps : List EnX}

set_option maxHeartbeats 2000000 in
set_option maxRecDepth 100000 in
theorem logSegs_any (h : Lay a lg d room s fs T X ft pv ev ps w) (hn : s.parts.length ≤ 1000) : Calls Tryz.prog 29 #[.pointer (some ⟨lg, 0, none⟩)] w fun e w' => ∃ v, e = .returned v ∧ Hid (w'.ownsRow w.heap.size 3 1 v s.nums.length (intCells s.nums)) ∧ Below w.heap.size w w' := by
  obtain ⟨va, vc, rfl⟩ := cells_slice (cells_of_owns h.parts)
  obtain ⟨k0, k1, k2, k3⟩ := h.cells
  have HN := Lib.hid (named_log s.next (.slice va s.parts.length vc) s.parts w.drew (Cells.next (cells_of_owns h.parts) (Below.refl _ _).drew) (by omega))
  clear h
  go_enter Tryz.func29, Tryz.ntmps29
  go_wp2
  have hfd : ∀ (x : Int) (va : Option Addr) (n c : Nat) (wx : World), (Instr.field 118 (.agg #[.int .i64 x, .slice va n c]) 1).run Tryz.prog wx = .ok (.slice va n c) wx := fun _ _ _ _ _ => by kernel_rfl
  go_region_law (first
    | (go_simp; go_at_call 77; refine HN.out.mono ?_; rintro e w' ⟨V, rfl, hV, hb⟩
       have hO := hV.out
       rw [List.length_map] at hO
       obtain ⟨Va, Vc, rfl⟩ := cells_slice (cells_of_owns hO)
       have HX := Lib.hid (And.intro hO ((Below.refl _ w).drew.trans hb))
       clear hV hb hO))
  all_goals go_wp2
  all_goals go_ret
  all_goals exact ⟨.slice Va s.parts.length Vc, rfl, Lib.hid (by unfold Lg.S.nums; rw [List.length_map]; exact HX.out.1), HX.out.2⟩

theorem enVal_cells (p : EnX) : enVal p = .agg #[.int .i64 p.1.pos, .int .i64 p.1.epoch, .string ⟨p.1.b.stream.toArray⟩, .int .i64 p.1.b.expect, .int .i64 p.1.b.session, .int .i64 p.1.b.seq, p.2] := rfl
set_option maxHeartbeats 2000000 in
theorem logAt_in (h : Lay a lg d room s fs T X ft pv ev ps w) (hn : ps.length ≤ 1000000) (i : Nat) (hi : i < ps.length) : Calls Tryz.prog 36 #[.pointer (some ⟨lg, 0, none⟩), .int .i64 ((i : Int) + 1)] w fun e w' => e = .returned (.tuple #[enVal ps[i], .bool true]) ∧ Below w.heap.size w w' := by
  obtain ⟨b, o, c, p, ep, S, ex, se, sq, sa, sl, sc, es, hv, q0, q1, q2, q3, q4, q5, q6, _, _, _, _, hpe, hp2⟩ := enAt h.entsE i hi
  subst hv
  obtain ⟨k0, k1, k2, k3⟩ := h.cells
  have HV := Lib.hid (show enVal ps[i] = .agg #[.int .i64 p, .int .i64 ep, .string S, .int .i64 ex, .int .i64 se, .int .i64 sq, .slice sa sl sc] by
    rw [enVal_cells, hpe.out, hp2.out])
  have ba : Below w.heap.size w (w.alloc (.cells #[.int .i64 0, .int .i64 0, .string ⟨#[]⟩, .int .i64 0, .int .i64 0, .int .i64 0, .slice none 0 0] 58)) := (Below.refl _ _).alloc (Nat.le_refl _) _
  have k3 := cell_kept ba (Nat.le_refl _) k3
  have q0 := cell_kept ba (Nat.le_refl _) q0
  have q1 := cell_kept ba (Nat.le_refl _) q1
  have q2 := cell_kept ba (Nat.le_refl _) q2
  have q3 := cell_kept ba (Nat.le_refl _) q3
  have q4 := cell_kept ba (Nat.le_refl _) q4
  have q5 := cell_kept ba (Nat.le_refl _) q5
  have q6 := cell_kept ba (Nat.le_refl _) q6
  have hw1 : wrap64 ((i : Int) + 1 - 1) = (i : Int) := by rw [IntWalk.wrap64_in] <;> omega
  have hlt : (i : Int) < (ps.length : Int) := by omega
  have hle : ¬ ((i : Int) + 1 < 1) := by omega
  have hgt : ¬ ((ps.length : Int) < (i : Int) + 1) := by omega
  have HP := Lib.hid (show (w.alloc (.cells #[.int .i64 p, .int .i64 ep, .string S, .int .i64 ex, .int .i64 se, .int .i64 sq, .slice sa sl sc] 58)).heap[w.heap.size]? = some (.cells #[.int .i64 p, .int .i64 ep, .string S, .int .i64 ex, .int .i64 se, .int .i64 sq, .slice sa sl sc] 58 (0, 0)) from heap_alloc_new w _)
  have HB := Lib.hid (show Below w.heap.size w (w.alloc (.cells #[.int .i64 p, .int .i64 ep, .string S, .int .i64 ex, .int .i64 se, .int .i64 sq, .slice sa sl sc] 58)) from (Below.refl _ _).alloc (Nat.le_refl _) _)
  clear h ba hpe hp2 k0 k1 k2
  go_enter Tryz.func36, Tryz.ntmps36
  go_wp2
  (try simp only [Exit.inBlock, Exit.then])
  refine bodyPost_ret (results_cell1 rfl _ _ w.heap.size _ _ _ _ rfl HP.out Tryz.underlying58 rfl entry_size) rfl ?_
  exact ⟨by rw [HV.out]; rfl, HB.out⟩
set_option maxHeartbeats 2000000 in
theorem logAt_out (h : Lay a lg d room s fs T X ft pv ev ps w) (q : Int) (hq : q < 1 ∨ (ps.length : Int) < q) : Calls Tryz.prog 36 #[.pointer (some ⟨lg, 0, none⟩), .int .i64 q] w fun e w' => e = .returned (.tuple #[.agg #[.int .i64 0, .int .i64 0, .string ⟨#[]⟩, .int .i64 0, .int .i64 0, .int .i64 0, .slice none 0 0], .bool false]) ∧ Below w.heap.size w w' := by
  obtain ⟨va, vc, rfl⟩ := cells_slice (cells_of_owns h.ents)
  obtain ⟨k0, k1, k2, k3⟩ := h.cells
  have ba : Below w.heap.size w (w.alloc (.cells #[.int .i64 0, .int .i64 0, .string ⟨#[]⟩, .int .i64 0, .int .i64 0, .int .i64 0, .slice none 0 0] 58)) := (Below.refl _ _).alloc (Nat.le_refl _) _
  have k3 := cell_kept ba (Nat.le_refl _) k3
  have HP := Lib.hid (show (w.alloc (.cells #[.int .i64 0, .int .i64 0, .string ⟨#[]⟩, .int .i64 0, .int .i64 0, .int .i64 0, .slice none 0 0] 58)).heap[w.heap.size]? = some (.cells #[.int .i64 0, .int .i64 0, .string ⟨#[]⟩, .int .i64 0, .int .i64 0, .int .i64 0, .slice none 0 0] 58 (0, 0)) from heap_alloc_new w _)
  have HB := Lib.hid ba
  clear h ba k0 k1 k2
  by_cases h1 : q < 1
  · clear hq
    go_enter Tryz.func36, Tryz.ntmps36
    go_wp2
    (try simp only [Exit.inBlock, Exit.then])
    refine bodyPost_ret (results_cell1 rfl _ _ w.heap.size _ _ _ _ rfl HP.out Tryz.underlying58 rfl entry_size) rfl ?_
    exact ⟨rfl, HB.out⟩
  · have h2 : (ps.length : Int) < q := by omega
    clear hq
    go_enter Tryz.func36, Tryz.ntmps36
    go_wp2
    (try simp only [Exit.inBlock, Exit.then])
    refine bodyPost_ret (results_cell1 rfl _ _ w.heap.size _ _ _ _ rfl HP.out Tryz.underlying58 rfl entry_size) rfl ?_
    exact ⟨rfl, HB.out⟩

/-- Where a range begins, how much it tells. -/
def Lg.rangeA (f : Int) (n : Nat) : Int := min (max f 1) ((n : Int) + 1)
def Lg.rangeM (f m : Int) (n : Nat) : Int := min (max m 0) ((n : Int) + 1 - Lg.rangeA f n)
theorem Lg.range_facts (f m : Int) (n : Nat) : 1 ≤ Lg.rangeA f n ∧ Lg.rangeA f n ≤ n + 1 ∧ 0 ≤ Lg.rangeM f m n ∧ Lg.rangeM f m n ≤ n + 1 - Lg.rangeA f n := by unfold Lg.rangeM Lg.rangeA; omega
theorem Lg.range_wraps (i n L : Nat) (h : i + n ≤ L) (hL : L ≤ 1000000) : wrap64 ((L : Int) + 1) = (L : Int) + 1 ∧ wrap64 ((L : Int) + 1 - ((i : Int) + 1)) = (L : Int) + 1 - ((i : Int) + 1) ∧ wrap64 (i : Int) = (i : Int) ∧ wrap64 ((i : Int) + (n : Int)) = (i : Int) + (n : Int) :=
  ⟨IntWalk.wrap64_in _ (by omega), IntWalk.wrap64_in _ (by omega), IntWalk.wrap64_in _ (by omega), IntWalk.wrap64_in _ (by omega)⟩
theorem Lg.range_len {α : Type} (l : List α) {i n : Nat} (h : i + n ≤ l.length) : ((l.drop i).take n).length = n := by rw [List.length_take, List.length_drop]; omega
theorem Lg.range_bounds (i n L c : Nat) (h : i + n ≤ L) (hc : L ≤ c) : (i : Int) ≤ (i : Int) + (n : Int) ∧ (i : Int) + (n : Int) ≤ (c : Int) ∧ i + n ≤ c ∧ ((i : Int) + (n : Int)).toNat = i + n := ⟨by omega, by omega, by omega, by omega⟩
theorem ents_part {w : World} {v : Value} {ps : List EnX} (h : Ents w v ps) {b o c i m : Nat} (hv : v = .slice (some ⟨b, o, none⟩) ps.length c) (hi : i + m ≤ ps.length) (o' c' : Nat) (ho : o' = o + i * 7 ∨ i = ps.length) :
    Ents w (.slice (some ⟨b, o', none⟩) m c') ((ps.drop i).take m) := by
  subst hv
  have h2 := ents_drop (k := i) h (by omega) o' (c - i) ho
  have hl : (ps.drop i).length = ps.length - i := List.length_drop
  rw [← hl] at h2
  exact ents_take h2 (by omega) c'
set_option maxHeartbeats 2000000 in
set_option maxRecDepth 100000 in
theorem logRange_any (f m : Int) (h : Lay a lg d room s fs T X ft pv ev ps w) (hn : ps.length ≤ 1000000) :
    Calls Tryz.prog 25 #[.pointer (some ⟨lg, 0, none⟩), .int .i64 f, .int .i64 m] w fun e w' => ∃ v, e = .returned v ∧
      Hid (w'.ownsRow w.heap.size 58 7 v ((ps.drop (Lg.rangeA f ps.length - 1).toNat).take (Lg.rangeM f m ps.length).toNat).length (enCells ((ps.drop (Lg.rangeA f ps.length - 1).toNat).take (Lg.rangeM f m ps.length).toNat))) ∧ Below w.heap.size w w' := by
  obtain ⟨va, vc, rfl⟩ := cells_slice (cells_of_owns h.ents)
  obtain ⟨k0, k1, k2, k3⟩ := h.cells
  obtain ⟨r1, r2, r3, r4⟩ := Lg.range_facts f m ps.length
  have hcap : ps.length ≤ vc := by
    rcases h.ents.2 with ⟨e, h0⟩ | ⟨g, cap, cur, e, _, _, h2, _⟩
    · omega
    · cases e; exact h2
  obtain ⟨i, hi⟩ : ∃ i : Nat, Lg.rangeA f ps.length = (i : Int) + 1 := ⟨(Lg.rangeA f ps.length - 1).toNat, by omega⟩
  obtain ⟨n, hn'⟩ : ∃ n : Nat, Lg.rangeM f m ps.length = (n : Int) := ⟨(Lg.rangeM f m ps.length).toNat, by omega⟩
  rw [hi] at r1 r2 r4
  rw [hn'] at r3 r4
  have HAM := Lib.hid (show min (max f 1) ((ps.length : Int) + 1) = (i : Int) + 1 ∧ min (max m 0) ((ps.length : Int) + 1 - ((i : Int) + 1)) = (n : Int) from ⟨hi, by rw [← hi, ← hn']; rfl⟩)
  rw [hi, hn', show ((i : Int) + 1 - 1).toNat = i by omega, Int.toNat_natCast]
  have hin : i + n ≤ ps.length := by omega
  obtain ⟨hw1, hw2, hw3, hw4⟩ := Lg.range_wraps i n ps.length hin hn
  have htl : ((ps.drop i).take n).length = n := Lg.range_len ps hin
  obtain ⟨hb1, hb2, hb3, hb4⟩ := Lg.range_bounds i n ps.length vc hin hcap
  have HLay := Lib.hid h
  clear hi hn' h r1 r2 r3 r4 k0 k1 k2 hcap
  by_cases hn0 : n = 0
  · subst hn0
    have HC := Lib.hid (cloneE_any (.slice va 0 0) 0 [] w ⟨rfl, .inl ⟨rfl, va, 0, rfl⟩⟩ (fun u hu => by cases hu) (by omega) (fun _ => by
      cases va with
      | none => exact .inl rfl
      | some x =>
        rcases HLay.out.ents.2 with ⟨e, _⟩ | ⟨g, cap, cur, e, _⟩
        · cases e
        · cases e; exact .inr ⟨g, 0, 0, rfl⟩))
    rw [List.take_zero]
    clear htl hin
    have HB := Lib.hid (And.intro hw3 (And.intro hw4 (And.intro hb1 (And.intro hb2 (And.intro hb3 hb4)))))
    clear hw3 hw4 hb1 hb2 hb3 hb4
    obtain ⟨hA', hM'⟩ := HAM.out
    go_enter Tryz.func25, Tryz.ntmps25
    go_upto_region 3 with fail
    obtain ⟨hw3, hw4, hb1, hb2, hb3, hb4⟩ := HB.out
    clear hA' hM' hw1 hw2
    go_wp2_with fail
    refine HC.out.mono ?_
    rintro e w1 ⟨v', rfl, hO, hb⟩
    have HX := Lib.hid (And.intro hO.out hb)
    clear hO hb HC
    go_wp2
    go_ret
    exact ⟨_, rfl, Lib.hid HX.out.1, HX.out.2⟩
  · have hnp : 0 < n := by omega
    obtain ⟨b, o, rfl⟩ : ∃ b o, va = some ⟨b, o, none⟩ := by
      rcases (cells_of_owns HLay.out.ents).2 with ⟨h0, _⟩ | ⟨b, o, c, e, _⟩
      · omega
      · cases e; exact ⟨_, _, rfl⟩
    have hE := ents_part HLay.out.entsE rfl hin (o + i * 7) n (.inl rfl)
    have hC := hE.1
    rw [htl] at hC
    have HC := Lib.hid (cloneE_any (.slice (some ⟨b, o + i * 7, none⟩) n n) n (enCells ((ps.drop i).take n)) w hC (enCells_one _ (fun p hp => by
      obtain ⟨va, vc, e⟩ := cells_slice (hE.2 p hp).1
      exact ⟨_, _, _, e⟩)) (by omega) (fun h0 => absurd h0 (by omega)))
    have HTL := Lib.hid htl
    clear hE hC htl hin
    have HB := Lib.hid (And.intro hw3 (And.intro hw4 (And.intro hb1 (And.intro hb2 (And.intro hb3 hb4)))))
    clear hw3 hw4 hb1 hb2 hb3 hb4
    obtain ⟨hA', hM'⟩ := HAM.out
    go_enter Tryz.func25, Tryz.ntmps25
    go_upto_region 3 with fail
    obtain ⟨hw3, hw4, hb1, hb2, hb3, hb4⟩ := HB.out
    clear hA' hM' hw1 hw2
    go_wp2_with fail
    refine HC.out.mono ?_
    rintro e w1 ⟨v', rfl, hO, hb⟩
    have HX := Lib.hid (And.intro hO.out hb)
    clear hO hb HC
    go_wp2
    go_ret
    exact ⟨_, rfl, Lib.hid (by rw [HTL.out]; exact HX.out.1), HX.out.2⟩
end Go.Proofs.YtbknlffebcbjfaaGreatDoor
