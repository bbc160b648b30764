/-
  slices.Grow of no marks; slices.Concat of two rows of marks.
  A row of numbers of the call's own, sorted in place; record.Fork.
  Plain facts: the marks of logs of even and of odd epochs; what Fork asks.
  The document's disk that has nothing: find, Read; the document's state that is new.
  The document's log that is opened on a disk that has nothing.
  The document's Take of no bytes; its replica that is opened on a disk that has nothing.
  slices.Clone at what an index keeps (turned by program from Clone at parts).
  replica.State: a clone of the state's.
-/
import Derived.Test.YtgddgipjpdjoaaaGreatDoorMeP1
import Derived.Test.YtgddgipjpdjoaaaGreatDoorLays
import Derived.Test.YtgddgipjpdjoaaaGreatDoorIterI
import Derived.Sort.OwnSortedInts
namespace Go.Proofs.YtgddgipjpdjoaaaGreatDoor
open Go.RowKit Go.Shelf
theorem mark_info : ∃ i, Tryz.prog.info? 124 = some i ∧ i.zero = some (.agg #[.int .i64 0, .int .i64 0]) ∧ i.size = 2 ∧ i.bytes = 16 := by
 have h : (Tryz.prog.info? 124).map (fun i => (i.zero, i.size, i.bytes)) = some (some (.agg #[.int .i64 0, .int .i64 0]), 2, 16) := by kernel_rfl
 obtain ⟨i0, hi, h1⟩ := Option.map_eq_some_iff.1 h
 simp only [Prod.mk.injEq] at h1
 exact ⟨i0, hi, h1.1, h1.2.1, h1.2.2⟩
theorem growMark_any (n : Nat) (w : World) (hn : n ≤ 100000) :
   Calls Tryz.prog 124 #[.slice none 0 0, .int .i64 (n : Int)] w fun e w' => ∃ V, e = .returned V ∧ w'.ownsRow w.heap.size 124 2 V 0 [] ∧ Below w.heap.size w w' := by
 by_cases h0 : n = 0
 · subst h0
   refine (Any8.slices_Grow_room Tryz.growM none 0 0 0 w (by omega) (by omega) (by omega) (by omega)).mono ?_
   rintro e w1 ⟨rfl, rfl⟩
   exact ⟨_, rfl, ⟨rfl, .inl ⟨rfl, rfl⟩⟩, Below.refl _ _⟩
 · obtain ⟨i0, q1, q2, q3, q4⟩ := mark_info
   refine (Any8.slices_Grow_grow Tryz.growM i0 _ q1 q2 (by omega) none 0 0 n [] w (by omega) (by omega) (by rw [q4]; omega) (by omega) (by simp) (fun _ => rfl) (fun a h => by cases h)).mono ?_
   rintro e w1 ⟨rfl, rfl⟩
   obtain ⟨G, hG⟩ : ∃ G, grownCap w (0 + n) 0 (Tryz.growM_ren.t 25) = G := ⟨_, rfl⟩
   have hg1 := grownCap_ge w (0 + n) 0 (Tryz.growM_ren.t 25)
   have hg2 := grownCap_le_maxLen w (0 + n) 0 (Tryz.growM_ren.t 25) (by unfold maxLen; omega)
   rw [hG] at hg1 hg2 ⊢
   refine ⟨_, rfl, ⟨rfl, .inr ⟨w.heap.size, G, _, rfl, Nat.le_refl _, heap_alloc_new w.drew _, Nat.zero_le _, hg2, ?_, ?_⟩⟩, (Below.refl _ _).drew.alloc (Nat.le_refl _) _⟩
   · have hz : (Value.agg #[.int .i64 0, .int .i64 0]).cells.size = 2 := rfl
     rw [Array.size_append, Array.size_append, size_zeroCells, size_zeroCells, hz]
     simp only [List.size_toArray, List.length_nil]
     omega
   · rw [Nat.zero_mul, List.take_zero]
theorem own_form17 {w : World} {base n sz : Nat} {e : TypeId} {v : Value} {xs : List Value} (h : w.ownsRow base e sz v n xs) : ∃ va vc, v = .slice va n vc ∧ n ≤ vc := by
 rcases h.2 with ⟨rfl, rfl⟩ | ⟨g, cap, cur, rfl, _, _, h2, _⟩
 · exact ⟨none, 0, rfl, Nat.le_refl _⟩
 · exact ⟨_, cap, rfl, h2⟩
theorem markCells_ones (ms : List (Int × Int)) : ∀ u ∈ markCells ms, u.oneCell' = true := by
 intro u hu
 simp only [markCells, List.mem_flatMap] at hu
 obtain ⟨m, _, hu⟩ := hu
 simp at hu
 rcases hu with rfl | rfl <;> rfl
def CatI (base : Nat) (m1 m2 : List (Int × Int)) (w0 : World) (i : Nat) (gv : Value) (w : World) : Prop :=
 ∃ va vc n xs, gv = .slice va n vc ∧ (i = 0 ∧ n = 0 ∧ xs = [] ∨ i = 1 ∧ n = m1.length ∧ xs = markCells m1 ∨ i = 2 ∧ n = m1.length + m2.length ∧ xs = markCells m1 ++ markCells m2) ∧
   Hid (w.ownsRow base 124 2 (.slice va n vc) n xs) ∧ Hid (Below w0.heap.size w0 w)
set_option maxHeartbeats 8000000 in
theorem concatMark_any (b : Nat) (va1 va2 : Option Addr) (vc1 vc2 : Nat) (m1 m2 : List (Int × Int)) (w : World) (k1 : w.cell? ⟨b, 0, none⟩ = some (.slice va1 m1.length vc1)) (k2 : w.cell? ⟨b, 1, none⟩ = some (.slice va2 m2.length vc2))
   (h1 : Cells w (.slice va1 m1.length vc1) 2 m1.length (markCells m1)) (h2 : Cells w (.slice va2 m2.length vc2) 2 m2.length (markCells m2)) (n1 : m1.length ≤ 1000) (n2 : m2.length ≤ 1000) :
   Calls Tryz.prog 61 #[.slice (some ⟨b, 0, none⟩) 2 2] w fun e w' => ∃ V, e = .returned V ∧ Hid (w'.ownsRow w.heap.size 124 2 V (m1.length + m2.length) (markCells m1 ++ markCells m2)) ∧ Below w.heap.size w w' := by
 have H := Lib.hid (And.intro k1 (And.intro k2 (And.intro h1 h2)))
 have HN := Lib.hid (And.intro n1 n2)
 have HGR := Lib.hid (growMark_any (m1.length + m2.length) w (by omega))
 clear h1 h2 n1 n2
 go_enter Tryz.func61, Tryz.ntmps61
 go_wp2
 go_loopw [3, 11] (fun sv iv wr => (iv = .int .i64 0 ∧ sv = .int .i64 0 ∨ iv = .int .i64 1 ∧ sv = .int .i64 (m1.length : Int) ∨ iv = .int .i64 2 ∧ sv = .int .i64 ((m1.length + m2.length : Nat) : Int)) ∧ wr = w) (fun _ iv _ => 2 - (intOf iv).toNat)
 case atStart => exact ⟨.inl ⟨rfl, rfl⟩, rfl⟩
 case round =>
   obtain ⟨h, rfl⟩ := hrel
   rcases h with ⟨rfl, rfl⟩ | ⟨rfl, rfl⟩ | ⟨rfl, rfl⟩
   · have hb : ¬ (m1.length : Int) < 0 := by omega
     have hw0 : wrap64 (m1.length : Int) = (m1.length : Int) := IntWalk.wrap64_in _ (by have := HN.out; omega)
     go_wp2
     exact ⟨⟨.inr (.inl ⟨rfl, congrArg (Value.int .i64) hw0⟩), by first | rfl | trivial⟩, by decide⟩
   · have hw1 : wrap64 ((m1.length : Int) + (m2.length : Int)) = ((m1.length + m2.length : Nat) : Int) := (IntWalk.wrap64_in _ (by have := HN.out; omega)).trans (by omega)
     have hb : ¬ ((m1.length + m2.length : Nat) : Int) < 0 := by omega
     go_wp2
     exact ⟨⟨.inr (.inr ⟨rfl, congrArg (Value.int .i64) hw1⟩), by first | rfl | trivial⟩, by decide⟩
   · obtain ⟨w4, rfl⟩ : ∃ w4, w4 = wr := ⟨_, rfl⟩
     go_wp2_with fail
     refine HGR.out.mono ?_
     rintro e w1 ⟨V, rfl, hO, hb1⟩
     obtain ⟨va, vc, rfl, _⟩ := own_form17 hO
     have HO := Lib.hid hO
     have HB := Lib.hid hb1
     clear hO hb1 HGR k1 k2
     go_wp2
     go_loopw [6, 27] (fun gv iv wy => ∃ i : Nat, iv = .int .i64 i ∧ CatI w4.heap.size m1 m2 w4 i gv wy) (fun _ iv _ => 2 - (intOf iv).toNat)
     case atStart => exact ⟨0, rfl, va, vc, 0, [], rfl, .inl ⟨rfl, rfl, rfl⟩, HO, HB⟩
     case round =>
       obtain ⟨i, rfl, va3, vc3, n, xs, rfl, hcase, HO3, HB3⟩ := hrel
       obtain ⟨w5, rfl⟩ : ∃ w5, w5 = wr := ⟨_, rfl⟩
       rcases hcase with ⟨rfl, rfl, rfl⟩ | ⟨rfl, rfl, rfl⟩ | ⟨rfl, rfl, rfl⟩
       · have k := cell_kept HB3.out (Nat.le_refl _) H.out.1
         have hx := Cells.next H.out.2.2.1 HB3.out
         have hs := HB3.out.size
         clear HB
         go_wp2_with (at_builtin; refine wpList_append_row rfl _ _ rfl markT w4.heap.size (.slice va3 0 vc3) 0 [] rfl HO3.out _ m1.length (markCells m1) rfl hx (markCells_ones m1) ?c3 ?c2 ?_)
         case c3 => have := HN.out; omega
         case c2 => exact hs
         intro v' w6 hown hg _
         obtain ⟨va6, vc6, rfl, _⟩ := own_form17 hown
         have HO6 := Lib.hid hown
         have HB6 := Lib.hid (HB3.out.grown hg hs (fun k hk => (HO3.out.lt k hk).1))
         clear hown hg k hx hs
         go_wp2
         exact ⟨⟨1, rfl, va6, vc6, _, _, rfl, .inr (.inl ⟨rfl, by omega, by simp⟩), HO6, HB6⟩, by decide⟩
       · have k := cell_kept HB3.out (Nat.le_refl _) H.out.2.1
         have hx := Cells.next H.out.2.2.2 HB3.out
         have hs := HB3.out.size
         clear HB
         go_wp2_with (at_builtin; refine wpList_append_row rfl _ _ rfl markT w4.heap.size (.slice va3 m1.length vc3) m1.length (markCells m1) rfl HO3.out _ m2.length (markCells m2) rfl hx (markCells_ones m2) ?c3 ?c2 ?_)
         case c3 => have := HN.out; omega
         case c2 => exact hs
         intro v' w6 hown hg _
         obtain ⟨va6, vc6, rfl, _⟩ := own_form17 hown
         have HO6 := Lib.hid hown
         have HB6 := Lib.hid (HB3.out.grown hg hs (fun k hk => (HO3.out.lt k hk).1))
         clear hown hg k hx hs
         go_wp2
         exact ⟨⟨2, rfl, va6, vc6, _, _, rfl, .inr (.inr ⟨rfl, rfl, rfl⟩), HO6, HB6⟩, by decide⟩
       · go_wp2
         go_ret
         exact ⟨_, rfl, HO3, HB3.out⟩
end Go.Proofs.YtgddgipjpdjoaaaGreatDoor
namespace Go.Proofs.YtgddgipjpdjoaaaGreatDoor
open Go.RowKit Go.Shelf Go.Lib
def sortedL (zs : List Int) : List Int := zs.mergeSort fun x y => decide (x ≤ y)
theorem sortedL_len (zs : List Int) : (sortedL zs).length = zs.length := by unfold sortedL; exact List.length_mergeSort _
theorem sortedL_mem {zs : List Int} {x : Int} : x ∈ sortedL zs ↔ x ∈ zs := by unfold sortedL; exact List.mem_mergeSort
theorem sortedL_one {zs : List Int} (h1 : (1 : Int) ∈ zs) (h2 : ∀ x ∈ zs, 1 ≤ x) : ∃ r, sortedL zs = 1 :: r := by
 have hp : (sortedL zs).Pairwise (fun x y => decide (x ≤ y) = true) := by
   unfold sortedL
   exact List.pairwise_mergeSort (fun a b c => by simp only [decide_eq_true_eq]; omega) (fun a b => by simp only [Bool.or_eq_true, decide_eq_true_eq]; omega) zs
 cases hs : sortedL zs with
 | nil => have := sortedL_mem.2 h1; rw [hs] at this; cases this
 | cons a r =>
   rw [hs] at hp
   have ha := h2 a (sortedL_mem.1 (by rw [hs]; exact List.mem_cons_self))
   have h9 := sortedL_mem.2 h1
   rw [hs] at h9
   rcases List.mem_cons.1 h9 with e | e
   · exact ⟨r, by rw [← e]⟩
   · have := (List.pairwise_cons.1 hp).1 1 e
     simp only [decide_eq_true_eq] at this
     exact ⟨r, by rw [show a = 1 by omega]⟩
theorem sortInts_own (base g cap : Nat) (zs : List Int) (w : World) (hown : w.ownsRow base 3 1 (.slice (some ⟨g, 0, none⟩) zs.length cap) zs.length (intCells zs)) (hn : zs.length ≤ 1000000) :
   Calls Tryz.prog 62 #[.slice (some ⟨g, 0, none⟩) zs.length cap] w fun e w' => e = .returned (.tuple #[]) ∧ w'.ownsRow base 3 1 (.slice (some ⟨g, 0, none⟩) zs.length cap) zs.length (intCells (sortedL zs)) ∧ w.grownBy w' (some g) := by
 rcases hown.2 with ⟨h0, _⟩ | ⟨g', cap', cur, hv, hg, hb, h1, h2, h3, h4⟩
 · cases h0
 · cases hv
   have hH := holds_of_blockI (ss := zs) hb (by rw [← Nat.mul_one zs.length]; exact h4)
   refine (AnyM.slices_Sort_int Tryz.sortI62 g 0 cap zs w hH (Array.getElem?_eq_some_iff.1 hb).1 (by omega)).mono ?_
   rintro e w1 ⟨rfl, n, os, rfl⟩
   exact ⟨rfl, ownsRow_sortedI (ts := sortedL zs) (sortedL_len zs) hg hb h1 h2 h3, grownBy_sortedI _⟩
theorem own_apart {w : World} {b1 b2 n1 n2 s1 s2 : Nat} {e1 e2 : TypeId} {v1 v2 : Value} {x1 x2 : List Value} (h1 : w.ownsRow b1 e1 s1 v1 n1 x1) (h2 : w.ownsRow b2 e2 s2 v2 n2 x2) (hne : e1 ≠ e2) : ∀ b, v1.ownBlock = some b → v2.ownBlock ≠ some b := by
 intro b hb1 hb2
 rcases h1.2 with ⟨rfl, _⟩ | ⟨g, c, cur, rfl, _, q1, _⟩
 · cases hb1
 rcases h2.2 with ⟨rfl, _⟩ | ⟨g2, c2, cur2, rfl, _, q2, _⟩
 · cases hb2
 simp only [Value.ownBlock, Option.some.injEq] at hb1 hb2
 subst hb1
 subst hb2
 rw [q1] at q2
 simp only [Option.some.injEq, Obj.cells.injEq] at q2
 exact hne q2.2.1
def ForkI (base : Nat) (w0 : World) (ms : List (Int × Int)) (V : Value) (i : Nat) (gv : Value) (w : World) : Prop :=
 ∃ g cap, gv = .slice (some ⟨g, 0, none⟩) (1 + i) cap ∧ Hid (w.ownsRow base 3 1 (.slice (some ⟨g, 0, none⟩) (1 + i) cap) (1 + i) (intCells (1 :: (ms.map (·.2)).take i))) ∧ Hid (w.ownsRow base 124 2 V ms.length (markCells ms)) ∧ Hid (Below w0.heap.size w0 w)
set_option maxHeartbeats 8000000 in
set_option maxRecDepth 100000 in
theorem recordFork_zero (va1 va2 : Option Addr) (vc1 vc2 l1 l2 : Nat) (m1 m2 : List (Int × Int)) (w : World) (h1 : Cells w (.slice va1 m1.length vc1) 2 m1.length (markCells m1)) (h2 : Cells w (.slice va2 m2.length vc2) 2 m2.length (markCells m2)) (n1 : m1.length ≤ 1000) (n2 : m2.length ≤ 1000)
   (hl1 : l1 ≤ 1000000) (hl2 : l2 ≤ 1000000) (hf : ∀ m ∈ m1 ++ m2, 1 ≤ m.2) (hd : 1 ≤ l1 → 1 ≤ l2 → Mk.told 1 0 m1 ≠ Mk.told 1 0 m2) :
   Calls Tryz.prog 25 #[.slice va1 m1.length vc1, .int .i64 (l1 : Int), .slice va2 m2.length vc2, .int .i64 (l2 : Int)] w fun e w' => e = .returned (.int .i64 0) ∧ Below w.heap.size w w' := by
 obtain ⟨M, hM, hM2, hMn⟩ : ∃ M : Nat, max (min (l1 : Int) (l2 : Int)) 0 = (M : Int) ∧ (1 ≤ M → 1 ≤ l1 ∧ 1 ≤ l2) ∧ M ≤ 1000000 := ⟨min l1 l2, by omega, by omega, by omega⟩
 obtain ⟨W1, hW1⟩ : ∃ W1, w.alloc (.cells #[.int .i64 1] 3) = W1 := ⟨_, rfl⟩
 have b1 : Below w.heap.size w W1 := by rw [← hW1]; exact (Below.refl _ _).alloc (Nat.le_refl _) _
 obtain ⟨W2, hW2⟩ : ∃ W2, W1.alloc (.cells #[.slice va1 m1.length vc1, .slice va2 m2.length vc2] 65) = W2 := ⟨_, rfl⟩
 have b2 : Below W1.heap.size W1 W2 := by rw [← hW2]; exact (Below.refl _ _).alloc (Nat.le_refl _) _
 have b12 := b1.trans (b2.mono b1.size)
 have hG2 : W2.heap[W1.heap.size]? = some (.cells #[.slice va1 m1.length vc1, .slice va2 m2.length vc2] 65 (0, 0)) := by rw [← hW2]; exact heap_alloc_new W1 _
 have hO1 : W1.ownsRow w.heap.size 3 1 (.slice (some ⟨w.heap.size, 0, none⟩) 1 1) 1 (intCells [1]) := by
   rw [← hW1]
   exact ⟨rfl, .inr ⟨w.heap.size, 1, _, rfl, Nat.le_refl _, heap_alloc_new w _, Nat.le_refl _, by unfold maxLen; omega, rfl, rfl⟩⟩
 have HC := Lib.hid (concatMark_any W1.heap.size va1 va2 vc1 vc2 m1 m2 W2 (by rw [Lib.cell_of_heap hG2]; rfl) (by rw [Lib.cell_of_heap hG2]; rfl) (Cells.next h1 b12) (Cells.next h2 b12) n1 n2)
 have hs1 : W1.heap.size = w.heap.size + 1 := by rw [← hW1]; simp
 have HW := Lib.hid (And.intro hW1 (And.intro hW2 hs1))
 have HO1 := Lib.hid (owns_turn (T := fun _ => False) hO1 (fun _ _ h => h) (Turn.of_below b2))
 have HB2 := Lib.hid b12
 have H := Lib.hid (And.intro h1 (And.intro h2 (And.intro n1 (And.intro n2 (And.intro hf hd)))))
 have HM := Lib.hid (And.intro hM2 hMn)
 clear h1 h2 n1 n2 hf hd b1 b2 b12 hG2 hO1 hM2 hMn hl1 hl2 hW1 hW2 hs1
 go_enter Tryz.func25, Tryz.ntmps25
 go_wp2_with fail
 rw [HW.out.1, HW.out.2.1]
 have HC := HC.out
 rw [HW.out.2.2] at HC
 refine HC.mono ?_
 rintro e w3 ⟨V, rfl, hV, b3⟩
 obtain ⟨va, vc, rfl, _⟩ := own_form17 hV.out
 have hml : m1.length + m2.length = (m1 ++ m2).length := by rw [List.length_append]
 obtain ⟨ms, hms⟩ : ∃ ms, m1 ++ m2 = ms := ⟨_, rfl⟩
 have hV2 : w3.ownsRow w.heap.size 124 2 (.slice va ms.length vc) ms.length (markCells ms) := by
   have h := hV.out
   rw [← markCells_append, hml, hms] at h
   rcases h.2 with ⟨e1, e2⟩ | ⟨g, cap, cur, e1, e2, e3⟩
   · exact ⟨h.1, .inl ⟨e1, e2⟩⟩
   · exact ⟨h.1, .inr ⟨g, cap, cur, e1, Nat.le_trans HB2.out.size e2, e3⟩⟩
 rw [hml, hms]
 have HL := Lib.hid (show ms.length ≤ 2000 by rw [← hms, List.length_append]; have := H.out; omega)
 have HF := Lib.hid (show ∀ m ∈ ms, 1 ≤ m.2 by rw [← hms]; exact H.out.2.2.2.2.1)
 have HB3 := Lib.hid (HB2.out.trans (b3.mono HB2.out.size))
 have HV := Lib.hid hV2
 have HO3 := Lib.hid (owns_turn (T := fun _ => False) HO1.out (fun _ _ h => h) (Turn.of_below b3))
 clear hV hV2 b3 HC HO1 HB2 hml hms
 go_wp2
 go_loopw [10, 26] (fun gv iv wr => ∃ i : Nat, iv = .int .i64 i ∧ i ≤ ms.length ∧ ForkI w.heap.size w ms (.slice va ms.length vc) i gv wr) (fun _ iv _ => ms.length - (intOf iv).toNat)
 case atStart => exact ⟨0, rfl, by omega, w.heap.size, 1, rfl, HO3, HV, HB3⟩
 case round =>
   obtain ⟨i, rfl, hi, g, cap, rfl, HO, HV, HB⟩ := hrel
   obtain ⟨w5, rfl⟩ : ∃ w5, w5 = wr := ⟨_, rfl⟩
   by_cases hp : i < ms.length
   · rcases (cells_of_owns HV.out).2 with ⟨h0, _⟩ | ⟨vb, vo, vc2, hv, h2⟩
     · omega
     · cases hv
       obtain ⟨k0, k1⟩ := markCells_at ms i hp
       have k0 := h2 _ _ k0
       have k1 := h2 _ _ k1
       rw [← Nat.add_assoc] at k1
       have HT := Lib.hid (show intCells (1 :: (ms.map (·.2)).take i) ++ [.int .i64 ms[i].2] = intCells (1 :: (ms.map (·.2)).take (i + 1)) by
         rw [List.take_add_one, List.getElem?_map, List.getElem?_eq_getElem hp]
         simp [intCells])
       obtain ⟨⟨e, f⟩, hef⟩ : ∃ m, ms[i] = m := ⟨_, rfl⟩
       rw [hef] at k0 k1 HT
       have HWI := Lib.hid (show wrap64 ((i : Int) + 1) = (i : Int) + 1 from IntWalk.wrap64_in _ (by have := HL.out; omega))
       have HP := Lib.hid hp
       have ba : Below w5.heap.size w5 (w5.alloc (.cells #[.int .i64 e, .int .i64 f] 124)) := (Below.refl _ _).alloc (Nat.le_refl _) _
       have bb : Below w5.heap.size w5 ((w5.alloc (.cells #[.int .i64 e, .int .i64 f] 124)).alloc (.cells #[.int .i64 f] 3)) := ba.alloc ba.size _
       have HO6 := Lib.hid (owns_turn (T := fun _ => False) HO.out (fun _ _ h => h) (Turn.of_below bb))
       have HV6 := Lib.hid (owns_turn (T := fun _ => False) HV.out (fun _ _ h => h) (Turn.of_below bb))
       have HB6 := Lib.hid (HB.out.trans (bb.mono HB.out.size))
       have hxc := cells_new1 (w5.alloc (.cells #[.int .i64 e, .int .i64 f] 124)) 3 (.int .i64 f)
       rw [World.size_alloc] at hxc
       clear hef h2 ba bb HO HV HB hi
       go_wp2_with (at_builtin; refine wpList_append_row rfl _ _ rfl intT w.heap.size (.slice (some ⟨g, 0, none⟩) (1 + i) cap) (1 + i) _ rfl HO6.out _ 1 [.int .i64 f] rfl hxc (by simp [Value.oneCell']) ?c3 ?c2 ?_)
       case c3 => have := HL.out; omega
       case c2 => exact (by have := HB6.out.size; simpa using this)
       intro v' w7 hown hg _
       have hV7 := owns_turn (T := fun j => j = g) HV6.out (fun b hb e => own_apart HV6.out HO6.out (by decide) b hb (by rw [e]; rfl)) (Turn.of_grownO hg (fun b hb => by simpa [Value.ownBlock] using hb.symm))
       rw [HT.out] at hown
       have HB7 := Lib.hid (HB6.out.grown hg HB6.out.size (fun k hk => (HO6.out.lt k hk).1))
       rcases hown.2 with ⟨_, h0⟩ | ⟨g7, c7, cur7, rfl, q7⟩
       · omega
       have HO7 := Lib.hid (show w7.ownsRow w.heap.size 3 1 (.slice (some ⟨g7, 0, none⟩) (1 + (i + 1)) c7) (1 + (i + 1)) (intCells (1 :: (ms.map (·.2)).take (i + 1))) from hown)
       have HV7 := Lib.hid hV7
       clear hown hg hV7 q7 hxc HO6 HV6 HB6 k0 k1 HT
       go_wp2
       try rw [HWI.out]
       exact ⟨⟨i + 1, rfl, HP.out, g7, c7, rfl, HO7, HV7, HB7⟩, round_less17 HP.out⟩
   · have hie : i = ms.length := by omega
     have hpi : ¬ (i : Int) < (ms.length : Int) := by omega
     rw [hie, List.take_of_length_le (show (ms.map (·.2)).length ≤ ms.length by simp)] at HO
     have hzl : 1 + ms.length = (1 :: ms.map (·.2)).length := by simp; omega
     obtain ⟨zs, hzs⟩ : ∃ zs, (1 : Int) :: ms.map (·.2) = zs := ⟨_, rfl⟩
     rw [hzl, hzs] at HO
     have HZ := Lib.hid (show (1 : Int) ∈ zs ∧ (∀ x ∈ zs, 1 ≤ x) ∧ zs.length ≤ 2001 by
       rw [← hzs]
       refine ⟨List.mem_cons_self, fun x hx => ?_, by have := HL.out; simp; omega⟩
       rcases List.mem_cons.1 hx with rfl | hx
       · omega
       · obtain ⟨m, hm, rfl⟩ := List.mem_map.1 hx
         exact HF.out m hm)
     have HSO := Lib.hid (sortInts_own w.heap.size g cap zs w5 HO.out (by have := HZ.out.2.2; omega))
     have HG := Lib.hid (fun k (hk : (Value.slice (some ⟨g, 0, none⟩) zs.length cap).ownBlock = some k) => (HO.out.lt k hk).1)
     rw [hie, hzl, hzs]
     clear hie hzl hzs HO hi hp
     go_wp2_with fail
     refine HSO.out.mono ?_
     rintro e w6 ⟨rfl, hO6, hg6⟩
     have HO6 := Lib.hid hO6
     have HB6 := Lib.hid (HB.out.grown hg6 HB.out.size (fun k hk => HG.out k hk))
     clear HSO hO6 hg6 HB HV HG
     have HSL := Lib.hid (sortedL_len zs)
     go_wp2
     go_loopw [40] (fun iv wr => ∃ i : Nat, iv = .int .i64 i ∧ i ≤ zs.length ∧ (1 ≤ M → i = 0) ∧ Hid (wr.ownsRow w.heap.size 3 1 (.slice (some ⟨g, 0, none⟩) zs.length cap) zs.length (intCells (sortedL zs))) ∧ Hid (Below w.heap.size w wr)) (fun iv _ => zs.length - (intOf iv).toNat)
     case atStart => exact ⟨0, rfl, by omega, fun _ => rfl, HO6, HB6⟩
     case round =>
       obtain ⟨i, rfl, hi, hM1, HO, HB⟩ := hrel
       obtain ⟨w7, rfl⟩ : ∃ w7, w7 = wr := ⟨_, rfl⟩
       by_cases hp : i < zs.length
       · have hps : i < (sortedL zs).length := by rw [HSL.out]; exact hp
         have hk : w7.cell? ⟨g, i, none⟩ = some (.int .i64 (sortedL zs)[i]) := by
           rcases (cells_of_owns HO.out).2 with ⟨h0, _⟩ | ⟨vb, vo, vc2, hv, h2⟩
           · omega
           · cases hv
             have h9 := h2 i (.int .i64 (sortedL zs)[i]) (by simp [intCells, List.getElem?_eq_getElem hps])
             rwa [Nat.zero_add] at h9
         obtain ⟨n, hn⟩ : ∃ n, (sortedL zs)[i] = n := ⟨_, rfl⟩
         have hn1 : 1 ≤ n := by rw [← hn]; exact HZ.out.2.1 _ (sortedL_mem.1 (List.getElem_mem hps))
         have HNX := Lib.hid (show 1 ≤ M → n = 1 ∧ i = 0 from fun h => by
           have h0 := hM1 h
           subst h0
           obtain ⟨r, hr⟩ := sortedL_one HZ.out.1 HZ.out.2.1
           refine ⟨?_, rfl⟩
           rw [← hn]
           simp [hr])
         rw [hn] at hk
         have HP := Lib.hid hp
         have hpi : (i : Int) < (zs.length : Int) := by omega
         have HAT := Lib.hid (recordAt_any (.slice va1 m1.length vc1) m1 n w7 (Cells.next H.out.1 HB.out) (by have := H.out.2.2.1; omega))
         clear hn hi hM1 hps
         go_wp2_with fail
         refine HAT.out.mono ?_
         rintro e w8 ⟨rfl, b8⟩
         have HO8 := Lib.hid (owns_turn (T := fun _ => False) HO.out (fun _ _ h => h) (Turn.of_below b8))
         have HB8 := Lib.hid (HB.out.trans (b8.mono HB.out.size))
         clear HAT b8 HO HB hk
         by_cases hM0 : M = 0
         · have hnM : ¬ n ≤ (M : Int) := by omega
           have HWI := Lib.hid (show wrap64 ((i : Int) + 1) = (i : Int) + 1 from IntWalk.wrap64_in _ (by have := HZ.out.2.2; omega))
           go_wp2
           try rw [HWI.out]
           exact ⟨⟨_, _, _, _, ⟨i + 1, rfl, HP.out⟩, rfl, rfl, rfl, rfl⟩, round_less17 HP.out⟩
         · obtain ⟨h1, h2⟩ := HNX.out (by omega)
           subst h1
           have hlm := HM.out.1 (by omega)
           have hAB := H.out.2.2.2.2.2 hlm.1 hlm.2
           have h1M : (1 : Int) ≤ (M : Int) := by omega
           by_cases hA : Mk.told 1 0 m1 = 0
           · clear hAB
             go_wp2
             go_ret
             exact ⟨rfl, HB8.out⟩
           · have HAT := Lib.hid (recordAt_any (.slice va2 m2.length vc2) m2 1 w8 (Cells.next H.out.2.1 HB8.out) (by have := H.out.2.2.2.1; omega))
             go_wp2_with fail
             refine HAT.out.mono ?_
             rintro e w9 ⟨rfl, b9⟩
             have HB9 := Lib.hid (HB8.out.trans (b9.mono HB8.out.size))
             clear HAT b9
             go_wp2
             case roundEnd =>
               rename_i hh
               rw [bne_iff_ne.2 hAB] at hh
               exact absurd hh.2 (by simp)
             go_ret
             exact ⟨rfl, HB9.out⟩
       · have hpi : ¬ (i : Int) < (zs.length : Int) := by omega
         have hi0 : i ≠ 0 := fun e => by have := List.length_pos_of_mem HZ.out.1; omega
         have hMz : M = 0 := by
           by_cases h : 1 ≤ M
           · exact absurd (hM1 h) hi0
           · omega
         subst hMz
         clear hi hp hM1
         go_wp2
         go_ret
         exact ⟨rfl, HB.out⟩
end Go.Proofs.YtgddgipjpdjoaaaGreatDoor
namespace Go.Proofs.YtgddgipjpdjoaaaGreatDoor
open Go.RowKit Go.Shelf
theorem marks_pos : ∀ (l : List Evt.Entry) (p : Option Int) (pos x : Int), Evt.follows l pos x = true → 0 ≤ pos → ∀ m ∈ Mk.marksF p l, 1 ≤ m.2
 | [], _, _, _, _, _, m, hm => by cases hm
 | e :: l, p, pos, x, hf, h0, m, hm => by
   obtain ⟨h1, _, _, h4⟩ := Seg.follows_cons.1 hf
   rw [Mk.marksF] at hm
   rcases List.mem_append.1 hm with hm | hm
   · split at hm
     · cases hm
     · rw [List.mem_singleton.1 hm]; simp only; omega
   · exact marks_pos l (some e.epoch) e.pos e.epoch h4 (by omega) m hm
theorem told_first {L : List Evt.Entry} (hf : Evt.follows L 0 0 = true) (hl : 1 ≤ L.length) : ∃ e ∈ L, Mk.told 1 0 (Mk.marks L) = e.epoch := by
 have h := Mk.marks_tell hf (q := 1) (by omega) (by omega)
 rw [show ((1 : Int) - 1).toNat = 0 by omega, List.getElem?_eq_getElem (by omega)] at h
 simp only [Option.map_some, Option.some.injEq] at h
 exact ⟨L[0], List.getElem_mem _, h.symm⟩
theorem fork_facts {odd1 odd2 : Int} {es1 es2 : List Int} {f1 f2 : List Dk.File} {n1 n2 : Int} {u1 u2 : List Int} {L M : List Evt.Entry} {i1 k1 i2 k2 : Nat} (hA : InvM odd1 es1 f1 n1 u1 L i1 k1) (hB : InvM odd2 es2 f2 n2 u2 M i2 k2) (hne : odd1 ≠ odd2) :
   (∀ m ∈ Mk.marks L ++ Mk.marks M, 1 ≤ m.2) ∧ (1 ≤ L.length → 1 ≤ M.length → Mk.told 1 0 (Mk.marks L) ≠ Mk.told 1 0 (Mk.marks M)) := by
 refine ⟨fun m hm => ?_, fun h1 h2 he => ?_⟩
 · rcases List.mem_append.1 hm with hm | hm
   · exact marks_pos L none 0 0 hA.h.fol (Int.le_refl _) m hm
   · exact marks_pos M none 0 0 hB.h.fol (Int.le_refl _) m hm
 · obtain ⟨e1, q1, q2⟩ := told_first hA.h.fol h1
   obtain ⟨e2, q3, q4⟩ := told_first hB.h.fol h2
   rw [q2, q4] at he
   have r1 := hA.p e1 q1
   have r2 := hB.p e2 q3
   rw [he] at r1
   exact hne (r1.symm.trans r2)
theorem RefNew.next {m : Nat} {room : Int} {w w' : World} (h : RefNew m room w) (hb : Below w.heap.size w w') : RefNew m room w' := (hb.block m (Array.getElem?_eq_some_iff.1 h).1).trans h
theorem refFind_new {m : Nat} {room : Int} {w : World} (h : RefNew m room w) (s : ByteArray) :
   Calls Tryz.prog 115 #[.pointer (some ⟨m, 0, none⟩), .string s] w fun e w' => e = .returned (.tuple #[.int .i64 0, .bool false]) ∧ Below w.heap.size w w' := by
 have k0 : w.cell? ⟨m, 0, none⟩ = some (.slice none 0 0) := by rw [Lib.cell_of_heap h]; rfl
 go_enter Tryz.func115, Tryz.ntmps115
 go_wp2
 go_loopw [6] (fun iv wr => iv = .int .i64 0 ∧ wr = w) (fun _ _ => 0)
 case atStart => exact ⟨rfl, rfl⟩
 case round =>
   obtain ⟨rfl, rfl⟩ := hrel
   go_upto_region 4 with fail
   go_quiet (fail)
   go_wp2
   go_ret2
   exact ⟨rfl, below_drewN (Below.refl _ _) _⟩
theorem refRead_new {m : Nat} {room : Int} {w : World} (h : RefNew m room w) (s : ByteArray) :
   Calls Tryz.prog 57 #[.pointer (some ⟨m, 0, none⟩), .string s] w fun e w' => e = .returned (.tuple #[.string ⟨#[]⟩, .int .i64 6]) ∧ Below w.heap.size w w' := by
 have HF := Lib.hid (refFind_new h s)
 clear h
 go_enter Tryz.func57, Tryz.ntmps57
 go_wp2_with fail
 refine HF.out.mono ?_
 rintro e w1 ⟨rfl, hb⟩
 have HB := Lib.hid hb
 clear HF hb
 go_wp2
 go_ret2
 exact ⟨rfl, HB.out⟩
def RMan (b : Nat) (n : Int) (v : Value) (w : World) : Prop := w.heap[b]? = some (.cells #[.int .i64 n, v] 191 (0, 0))
theorem rman_size : (Tryz.prog.info? 191).map (·.size) = some 2 := by kernel_rfl
set_option maxHeartbeats 2000000 in
theorem ref10Load_new {m : Nat} {room : Int} {w : World} (h : RefNew m room w) :
   Calls Tryz.prog 109 #[.pointer (some ⟨m, 0, none⟩)] w fun e w' => e = .returned (.tuple #[.agg #[.int .i64 1, .slice none 0 0], .int .i64 0]) ∧ Below w.heap.size w w' := by
 obtain ⟨W0, hW0⟩ : ∃ W0, w.alloc (.cells #[.int .i64 0, .slice none 0 0] 191) = W0 := ⟨_, rfl⟩
 have hb0 : Below w.heap.size w W0 := by rw [← hW0]; exact (Below.refl _ _).alloc (Nat.le_refl _) _
 have hr0 : RMan w.heap.size 0 (.slice none 0 0) W0 := by rw [← hW0]; exact heap_alloc_new w _
 have HRD := Lib.hid (refRead_new (h.next hb0) ⟨#[109, 97, 110, 105, 102, 101, 115, 116]⟩)
 have H := Lib.hid (And.intro hW0 (And.intro hb0 hr0))
 clear h hW0 hb0 hr0
 go_enter Tryz.func109, Tryz.ntmps109
 go_wp2_with fail
 rw [H.out.1]
 refine HRD.out.mono ?_
 rintro e w1 ⟨rfl, b1⟩
 have r1 : RMan w.heap.size 0 (.slice none 0 0) w1 := (b1.block _ (Array.getElem?_eq_some_iff.1 H.out.2.2).1).trans H.out.2.2
 have x0 : w1.cell? ⟨w.heap.size, 0, none⟩ = some (.int .i64 0) := by rw [Lib.cell_of_heap r1]; rfl
 have x1 : w1.cell? ⟨w.heap.size, 1, none⟩ = some (.slice none 0 0) := by rw [Lib.cell_of_heap r1]; rfl
 have x2 := Lib.frozen_of_heap r1 0
 have x3 := Lib.frozen_of_heap r1 1
 have HP := Lib.hid (show ((w1.setCell ⟨w.heap.size, 0, none⟩ (.int .i64 1)).setCell ⟨w.heap.size, 1, none⟩ (.slice none 0 0)).heap[w.heap.size]? = some (.cells #[.int .i64 1, .slice none 0 0] 191 (0, 0)) from setCell_at (i := 1) (setCell_at (i := 0) r1 (.int .i64 1)) (.slice none 0 0))
 have hg2 := grown_trans (grown_set w1 w.heap.size 0 (.int .i64 1)) (grown_set _ w.heap.size 1 (.slice none 0 0))
 have hb1 : Below w.heap.size w w1 := H.out.2.1.trans (b1.mono H.out.2.1.size)
 have HB2 := Lib.hid (grown_below hb1 hb1.size (Nat.le_refl _) hg2)
 clear b1 r1 hg2 hb1 HRD
 go_wp2
 (try simp only [Exit.inBlock, Exit.then])
 refine bodyPost_ret (results_cell1 rfl _ _ w.heap.size _ _ _ _ rfl HP.out Tryz.underlying191 rfl rman_size) rfl ?_
 exact ⟨rfl, HB2.out⟩
theorem ref15New_any (w : World) :
   Calls Tryz.prog 56 #[] w fun e w' => ∃ b, e = .returned (.pointer (some ⟨b, 0, none⟩)) ∧ Below w.heap.size w w' := by
 go_enter Tryz.func56, Tryz.ntmps56
 go_wp2
 go_ret
 exact ⟨_, rfl, (((Below.refl _ _).alloc (Nat.le_refl _) _).alloc (by simp) _).alloc (by simp; omega) _⟩
theorem refList_new {m : Nat} {room : Int} {w : World} (h : RefNew m room w) :
   Calls Tryz.prog 184 #[.pointer (some ⟨m, 0, none⟩)] w fun e w' => e = .returned (.slice none 0 0) ∧ Below w.heap.size w w' := by
 have k0 : w.cell? ⟨m, 0, none⟩ = some (.slice none 0 0) := by rw [Lib.cell_of_heap h]; rfl
 go_enter Tryz.func184, Tryz.ntmps184
 go_wp2
 go_loopw [3, 4] (fun lv iv wr => lv = .slice none 0 0 ∧ iv = .int .i64 0 ∧ wr = w) (fun _ _ _ => 0)
 case atStart => exact ⟨rfl, rfl, rfl⟩
 case round =>
   obtain ⟨rfl, rfl, rfl⟩ := hrel
   go_wp2
   go_ret
   exact ⟨rfl, Below.refl _ _⟩
def RLogNew (b m : Nat) (w : World) : Prop := w.heap[b]? = some (.cells #[.pointer (some ⟨m, 0, none⟩), .int .i64 1, .slice none 0 0, .slice none 0 0] 195 (0, 0))
theorem refSweep_new {b m : Nat} {room : Int} {w : World} (h : RefNew m room w) (hl : RLogNew b m w) :
   Calls Tryz.prog 114 #[.pointer (some ⟨b, 0, none⟩)] w fun e w' => e = .returned (.tuple #[]) ∧ Below w.heap.size w w' := by
 have k0 : w.cell? ⟨b, 0, none⟩ = some (.pointer (some ⟨m, 0, none⟩)) := by rw [Lib.cell_of_heap hl]; rfl
 have HL := Lib.hid (refList_new h)
 clear h hl
 go_enter Tryz.func114, Tryz.ntmps114
 go_wp2_with fail
 refine HL.out.mono ?_
 rintro e w1 ⟨rfl, hb⟩
 have HB := Lib.hid hb
 clear HL hb k0
 go_wp2
 go_loopw [3] (fun iv wr => iv = .int .i64 0 ∧ wr = w1) (fun _ _ => 0)
 case atStart => exact ⟨rfl, rfl⟩
 case round =>
   obtain ⟨rfl, rfl⟩ := hrel
   go_wp2
   go_end0
   exact ⟨rfl, HB.out⟩
set_option maxHeartbeats 4000000 in
theorem ref11Open_new {m : Nat} {room : Int} {w : World} (h : RefNew m room w) :
   Calls Tryz.prog 55 #[.pointer (some ⟨m, 0, none⟩)] w fun e w' => ∃ b, e = .returned (.tuple #[.pointer (some ⟨b, 0, none⟩), .int .i64 0]) ∧ RLogNew b m w' ∧ Below w.heap.size w w' := by
 have HLD := Lib.hid (ref10Load_new h)
 have H := Lib.hid h
 clear h
 go_enter Tryz.func55, Tryz.ntmps55
 go_wp2_with fail
 refine HLD.out.mono ?_
 rintro e w1 ⟨rfl, b1⟩
 obtain ⟨W1, hW1⟩ : ∃ W1, w1.alloc (.cells #[.int .i64 1, .slice none 0 0] 191) = W1 := ⟨_, rfl⟩
 have hr1 : RMan w1.heap.size 1 (.slice none 0 0) W1 := by rw [← hW1]; exact heap_alloc_new w1 _
 obtain ⟨W2, hW2⟩ : ∃ W2, W1.alloc (.cells #[.pointer (some ⟨m, 0, none⟩), .int .i64 1, .slice none 0 0, .slice none 0 0] 195) = W2 := ⟨_, rfl⟩
 have hb1 : Below w1.heap.size w1 W1 := by rw [← hW1]; exact (Below.refl _ _).alloc (Nat.le_refl _) _
 have hb2 : Below W1.heap.size W1 W2 := by rw [← hW2]; exact (Below.refl _ _).alloc (Nat.le_refl _) _
 have hr2 : RMan w1.heap.size 1 (.slice none 0 0) W2 := (hb2.block _ (Array.getElem?_eq_some_iff.1 hr1).1).trans hr1
 have hl2 : RLogNew W1.heap.size m W2 := by rw [← hW2]; exact heap_alloc_new W1 _
 have hbb : Below w.heap.size w W2 := Below.up (Below.up b1 (Nat.le_refl _) hb1) (Nat.le_refl _) hb2
 have HSW := Lib.hid (refSweep_new (H.out.next hbb) hl2)
 have x1 : W2.cell? ⟨w1.heap.size, 1, none⟩ = some (.slice none 0 0) := by rw [Lib.cell_of_heap hr2]; rfl
 have y0 : W1.cell? ⟨w1.heap.size, 0, none⟩ = some (.int .i64 1) := by rw [Lib.cell_of_heap hr1]; rfl
 have y1 : W1.cell? ⟨w1.heap.size, 1, none⟩ = some (.slice none 0 0) := by rw [Lib.cell_of_heap hr1]; rfl
 have HX := Lib.hid (And.intro hl2 hbb)
 have hs1 : W1.heap.size = w1.heap.size + 1 := by rw [← hW1]; simp
 have HW := Lib.hid (And.intro hW1 (And.intro hW2 hs1))
 rw [← hW1] at y0 y1
 clear HLD b1 hr1 hb1 hb2 hr2 hl2 hbb hs1 hW1 hW2
 go_upto_block 0 with fail
 rw [HW.out.1, HW.out.2.1]
 have HSW := HSW.out
 rw [HW.out.2.2] at HSW
 have HX := HX.out
 rw [HW.out.2.2] at HX
 have HX := Lib.hid HX
 have HSW := Lib.hid HSW
 go_wp2
 go_loopw [7] (fun iv wr => iv = .int .i64 0 ∧ wr = W2) (fun _ _ => 0)
 case atStart => exact ⟨rfl, rfl⟩
 case round =>
   obtain ⟨rfl, rfl⟩ := hrel
   go_wp2_with fail
   refine HSW.out.mono ?_
   rintro e w5 ⟨rfl, b5⟩
   have HB5 := Lib.hid b5
   clear b5 HSW
   go_wp2
   go_ret2
   exact ⟨_, rfl, (HB5.out.block _ (Array.getElem?_eq_some_iff.1 HX.out.1).1).trans HX.out.1, Below.up HX.out.2 (Nat.le_refl _) HB5.out⟩
theorem refTakeFixed_none (w : World) :
   Calls Tryz.prog 116 #[.string ⟨#[]⟩] w fun e w' => e = .returned (.tuple #[.int .u32 0, .string ⟨#[]⟩, .int .i64 3]) ∧ w' = w := by
 have h0 : ((⟨#[]⟩ : ByteArray).size : Int) < 4 := by decide
 go_enter Tryz.func116, Tryz.ntmps116
 go_wp2
 go_ret3
 exact ⟨rfl, rfl⟩
def RParts (b : Nat) (w : World) : Prop := w.heap[b]? = some (.cells #[.int .i64 0, .slice none 0 0, .slice none 0 0] 78 (0, 0))
theorem rparts_size : (Tryz.prog.info? 78).map (·.size) = some 3 := by kernel_rfl
set_option maxHeartbeats 2000000 in
theorem ref16Take_none (w : World) :
   Calls Tryz.prog 58 #[.string ⟨#[]⟩] w fun e w' => e = .returned (.tuple #[.agg #[.int .i64 0, .slice none 0 0, .slice none 0 0], .int .i64 3]) ∧ Below w.heap.size w w' := by
 obtain ⟨W1, hW1⟩ : ∃ W1, w.alloc (.cells #[.int .i64 0, .slice none 0 0, .slice none 0 0] 78) = W1 := ⟨_, rfl⟩
 have b1 : Below w.heap.size w W1 := by rw [← hW1]; exact (Below.refl _ _).alloc (Nat.le_refl _) _
 have r1 : RParts w.heap.size W1 := by rw [← hW1]; exact heap_alloc_new w _
 have hs1 : W1.heap.size = w.heap.size + 1 := by rw [← hW1]; simp
 obtain ⟨W2, hW2⟩ : ∃ W2, W1.alloc (.cells #[.int .i64 0, .slice none 0 0, .slice none 0 0] 78) = W2 := ⟨_, rfl⟩
 have b2 : Below W1.heap.size W1 W2 := by rw [← hW2]; exact (Below.refl _ _).alloc (Nat.le_refl _) _
 have q2 : RParts W1.heap.size W2 := by rw [← hW2]; exact heap_alloc_new W1 _
 rw [hs1] at q2
 have r2 : RParts w.heap.size W2 := (b2.block _ (Array.getElem?_eq_some_iff.1 r1).1).trans r1
 have hbb : Below w.heap.size w W2 := Below.up b1 (Nat.le_refl _) b2
 have y0 : W2.cell? ⟨w.heap.size + 1, 0, none⟩ = some (.int .i64 0) := by rw [Lib.cell_of_heap q2]; rfl
 have y1 : W2.cell? ⟨w.heap.size + 1, 1, none⟩ = some (.slice none 0 0) := by rw [Lib.cell_of_heap q2]; rfl
 have y2 : W2.cell? ⟨w.heap.size + 1, 2, none⟩ = some (.slice none 0 0) := by rw [Lib.cell_of_heap q2]; rfl
 have x0 : W2.cell? ⟨w.heap.size, 0, none⟩ = some (.int .i64 0) := by rw [Lib.cell_of_heap r2]; rfl
 have x1 : W2.cell? ⟨w.heap.size, 1, none⟩ = some (.slice none 0 0) := by rw [Lib.cell_of_heap r2]; rfl
 have x2 : W2.cell? ⟨w.heap.size, 2, none⟩ = some (.slice none 0 0) := by rw [Lib.cell_of_heap r2]; rfl
 have z0 := Lib.frozen_of_heap r2 0
 have z1 := Lib.frozen_of_heap r2 1
 have z2 := Lib.frozen_of_heap r2 2
 have HP := Lib.hid (show (((W2.setCell ⟨w.heap.size, 0, none⟩ (.int .i64 0)).setCell ⟨w.heap.size, 1, none⟩ (.slice none 0 0)).setCell ⟨w.heap.size, 2, none⟩ (.slice none 0 0)).heap[w.heap.size]? = some (.cells #[.int .i64 0, .slice none 0 0, .slice none 0 0] 78 (0, 0)) from setCell_at (i := 2) (setCell_at (i := 1) (setCell_at (i := 0) r2 (.int .i64 0)) (.slice none 0 0)) (.slice none 0 0))
 have hg2 := grown_trans (grown_trans (grown_set W2 w.heap.size 0 (.int .i64 0)) (grown_set _ w.heap.size 1 (.slice none 0 0))) (grown_set _ w.heap.size 2 (.slice none 0 0))
 have HB2 := Lib.hid (grown_below hbb hbb.size (Nat.le_refl _) hg2)
 have HT := Lib.hid (refTakeFixed_none W2)
 have HW := Lib.hid (And.intro hW1 hW2)
 clear b1 r1 hs1 b2 q2 r2 hbb hg2 hW1 hW2
 go_enter Tryz.func58, Tryz.ntmps58
 go_wp2_with fail
 rw [HW.out.1, HW.out.2]
 refine HT.out.mono ?_
 rintro e w3 ⟨rfl, rfl⟩
 go_wp2
 (try simp only [Exit.inBlock, Exit.then])
 refine bodyPost_ret (results_cell1 rfl _ _ w.heap.size _ _ _ _ rfl HP.out Tryz.underlying78 rfl rparts_size) rfl ?_
 exact ⟨rfl, HB2.out⟩
set_option maxHeartbeats 4000000 in
theorem ref17Open_new {m : Nat} {room : Int} {w : World} (h : RefNew m room w) :
   Calls Tryz.prog 23 #[.pointer (some ⟨m, 0, none⟩)] w fun e w' => ∃ b, e = .returned (.tuple #[.pointer (some ⟨b, 0, none⟩), .int .i64 0]) ∧ Below w.heap.size w w' := by
 have HO := Lib.hid (ref11Open_new h)
 have H := Lib.hid h
 clear h
 go_enter Tryz.func23, Tryz.ntmps23
 go_wp2_with fail
 refine HO.out.mono ?_
 rintro e w1 ⟨b, rfl, _, b1⟩
 have HN := Lib.hid (ref15New_any w1)
 have HB1 := Lib.hid b1
 clear HO b1
 go_wp2_with fail
 refine HN.out.mono ?_
 rintro e w2 ⟨b2, rfl, hb2⟩
 obtain ⟨W, hW⟩ : ∃ W, w2.alloc (.cells #[.pointer (some ⟨m, 0, none⟩), .pointer (some ⟨b, 0, none⟩), .pointer (some ⟨b2, 0, none⟩)] 116) = W := ⟨_, rfl⟩
 have hbW : Below w.heap.size w W := by rw [← hW]; exact (Below.up HB1.out (Nat.le_refl _) hb2).alloc (Nat.le_trans HB1.out.size hb2.size) _
 have HRD := Lib.hid (refRead_new (H.out.next hbW) ⟨#[115, 110, 97, 112]⟩)
 have HW := Lib.hid hW
 have HBW := Lib.hid hbW
 clear HN hb2 hW hbW
 go_wp2_with fail
 rw [HW.out]
 refine HRD.out.mono ?_
 rintro e w4 ⟨rfl, b4⟩
 have HB4 := Lib.hid (Below.up HBW.out (Nat.le_refl _) b4)
 have HT := Lib.hid (ref16Take_none w4)
 clear HRD b4
 go_wp2_with fail
 refine HT.out.mono ?_
 rintro e w5 ⟨rfl, b5⟩
 have HB5 := Lib.hid ((Below.up HB4.out (Nat.le_refl _) b5).alloc (Nat.le_trans HB4.out.size b5.size) (.cells #[.int .i64 0, .slice none 0 0, .slice none 0 0] 78))
 clear HT b5
 go_upto_region 7 with fail
 go_quiet (fail)
 go_wp2
 go_ret2
 exact ⟨_, rfl, below_drewN HB5.out _⟩
set_option maxHeartbeats 1000000 in
set_option maxRecDepth 100000 in
theorem cloneKept_any (v : Value) (n : Nat) (xs : List Value) (w : World) (h : Cells w v 3 n xs) (h1 : ∀ u ∈ xs, u.oneCell' = true) (hn : n ≤ 1000000) (hz : n = 0 → v = .slice none 0 0 ∨ ∃ b o c, v = .slice (some ⟨b, o, none⟩) 0 c) :
   Calls Tryz.prog 205 #[v] w fun e w' => ∃ v', e = .returned v' ∧ Hid (w'.ownsRow w.heap.size 244 3 v' n xs) ∧ Below w.heap.size w w' := by
 have hcase : (n = 0 ∧ v = .slice none 0 0) ∨ ∃ b o c, v = .slice (some ⟨b, o, none⟩) n c := by
   rcases cellsNil h with ⟨h0, _⟩ | h2
   · rcases hz h0 with h3 | ⟨b, o, c, h3⟩
     · exact .inl ⟨h0, h3⟩
     · exact .inr ⟨b, o, c, by rw [h0]; exact h3⟩
   · exact .inr h2
 have hq : ∀ (w : World) (a : Option Addr) (n c n' c' : Nat), (binOp .eql 240 (.slice a n c) (.slice none n' c')).run Tryz.prog w = .ok (.bool a.isNone) w := fun w a n c n' c' => Lib.run_eql_slice_nil w _ _ a n c n' c' Tryz.underlying240
 rcases hcase with ⟨h0, rfl⟩ | ⟨b, o, c, rfl⟩
 · have hx : xs = [] := List.eq_nil_of_length_eq_zero (by have := h.1; omega)
   subst h0 hx
   clear h h1 hz
   go_enter Tryz.func205, Tryz.ntmps205
   go_wp2
   go_ret
   exact ⟨_, rfl, Lib.hid (World.ownsRow_nil _ _ _ _), Below.refl _ _⟩
 · have HX := Lib.hid (h.next ((Below.refl _ w).alloc (Nat.le_refl _) (.cells #[] 244)))
   clear h hz
   go_enter Tryz.func205, Tryz.ntmps205
   go_wp2_with (at_builtin; refine wpList_append_row rfl _ _ rfl keptT w.heap.size _ 0 [] rfl (owns_fresh w w.heap.size 244 3 (Nat.le_refl _)) _ n xs rfl HX.out h1 ?c3 ?c2 ?_)
   case c3 => omega
   case c2 => simp
   intro v' w2 hown hg _
   have HO := Lib.hid (show w2.ownsRow w.heap.size 244 3 v' n xs by simpa using hown)
   have HB := Lib.hid (((Below.refl _ w).alloc (Nat.le_refl _) (.cells #[] 244)).grown hg (by simp) (fun k hk => by cases hk; exact Nat.le_refl _))
   clear hown hg
   go_wp2
   go_ret
   exact ⟨_, rfl, HO, HB.out⟩
theorem repState_of {R : (Nat → Prop) → (Nat → Prop) → World → Prop} {a w : World} {r lg d sb : Nat} {room : Int} {s : Lg.S} {fs : List Dk.File} {st : Stat} {J : List (Nat × Obj)} {P : Nat → World → Prop} (h : RR R J a r lg d sb room s fs st w)
   (hc : Calls Tryz.prog 65 #[.pointer (some ⟨sb, 0, none⟩)] w fun e w' => ∃ c, e = .returned (.pointer (some ⟨c, 0, none⟩)) ∧ Hid (P c w') ∧ Below w.heap.size w w') :
   Calls Tryz.prog 27 #[.pointer (some ⟨r, 0, none⟩)] w fun e w' => ∃ c, e = .returned (.pointer (some ⟨c, 0, none⟩)) ∧ Hid (P c w') ∧ Below w.heap.size w w' := by
 obtain ⟨k0, k1, k2⟩ := h.box.cells
 have HC := Lib.hid hc
 clear h hc
 go_enter Tryz.func27, Tryz.ntmps27
 go_wp2_with fail
 refine HC.out.mono ?_
 rintro e w1 ⟨c, rfl, hp, hb⟩
 have HB := Lib.hid hb
 clear HC hb
 go_wp2
 go_ret
 exact ⟨c, rfl, hp, HB.out⟩
end Go.Proofs.YtgddgipjpdjoaaaGreatDoor
