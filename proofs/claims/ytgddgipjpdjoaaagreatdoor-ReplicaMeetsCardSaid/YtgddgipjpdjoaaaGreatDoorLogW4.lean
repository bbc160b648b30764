/-
  The walks of a log's reading functions (layer 11): At, Range, Segs, Marks; the searches among parts.
  A law's log: a disk in a pair, a log on it, and what else is to be kept.
  The walks of record.Marks and of a log's Marks (layers 6, 11).
-/
import Derived.Test.YtgddgipjpdjoaaaGreatDoorLogW1
import Derived.Test.YtgddgipjpdjoaaaGreatDoorLawL
import Derived.Test.YtgddgipjpdjoaaaGreatDoorLogK
import Derived.Test.YtgddgipjpdjoaaaGreatDoorLogN
namespace Go.Proofs.YtgddgipjpdjoaaaGreatDoor
open Go.RowKit Go.Shelf
variable {a w w' : World} {lg d : Nat} {room : Int} {s : Lg.S} {fs : List Dk.File} {T X ft : Nat → Prop} {pv ev : Value} {ps : List EnX}
theorem enVal_cells (p : EnX) : enVal p = .agg #[.int .i64 p.1.pos, .int .i64 p.1.epoch, .string ⟨p.1.b.stream.toArray⟩, .int .i64 p.1.b.expect, .int .i64 p.1.b.session, .int .i64 p.1.b.seq, p.2] := rfl
set_option maxHeartbeats 2000000 in
theorem logAt_in (h : Lay a lg d room s fs T X ft pv ev ps w) (hn : ps.length ≤ 1000000) (i : Nat) (hi : i < ps.length) : Calls Tryz.prog 50 #[.pointer (some ⟨lg, 0, none⟩), .int .i64 ((i : Int) + 1)] w fun e w' => e = .returned (.tuple #[enVal ps[i], .bool true]) ∧ Below w.heap.size w w' := by
 obtain ⟨b, o, c, p, ep, S, ex, se, sq, sa, sl, sc, es, hv, q0, q1, q2, q3, q4, q5, q6, _, _, _, _, hpe, hp2⟩ := enAt h.entsE i hi
 subst hv
 obtain ⟨k0, k1, k2, k3⟩ := h.cells
 have HV := Lib.hid (show enVal ps[i] = .agg #[.int .i64 p, .int .i64 ep, .string S, .int .i64 ex, .int .i64 se, .int .i64 sq, .slice sa sl sc] by
   rw [enVal_cells, hpe.out, hp2.out])
 have ba : Below w.heap.size w (w.alloc (.cells #[.int .i64 0, .int .i64 0, .string ⟨#[]⟩, .int .i64 0, .int .i64 0, .int .i64 0, .slice none 0 0] 40)) := (Below.refl _ _).alloc (Nat.le_refl _) _
 have k3 := cell_kept ba (Nat.le_refl _) k3
 have q0 := cell_kept ba (Nat.le_refl _) q0
 have q1 := cell_kept ba (Nat.le_refl _) q1
 have q2 := cell_kept ba (Nat.le_refl _) q2
 have q3 := cell_kept ba (Nat.le_refl _) q3
 have q4 := cell_kept ba (Nat.le_refl _) q4
 have q5 := cell_kept ba (Nat.le_refl _) q5
 have q6 := cell_kept ba (Nat.le_refl _) q6
 have hw1 : wrap64 ((i : Int) + 1 - 1) = (i : Int) := by rw [IntWalk.wrap64_in] <;> omega
 have hlt : (i : Int) < (ps.length : Int) := by omega
 have hle : ¬ ((i : Int) + 1 < 1) := by omega
 have hgt : ¬ ((ps.length : Int) < (i : Int) + 1) := by omega
 have HP := Lib.hid (show (w.alloc (.cells #[.int .i64 p, .int .i64 ep, .string S, .int .i64 ex, .int .i64 se, .int .i64 sq, .slice sa sl sc] 40)).heap[w.heap.size]? = some (.cells #[.int .i64 p, .int .i64 ep, .string S, .int .i64 ex, .int .i64 se, .int .i64 sq, .slice sa sl sc] 40 (0, 0)) from heap_alloc_new w _)
 have HB := Lib.hid (show Below w.heap.size w (w.alloc (.cells #[.int .i64 p, .int .i64 ep, .string S, .int .i64 ex, .int .i64 se, .int .i64 sq, .slice sa sl sc] 40)) from (Below.refl _ _).alloc (Nat.le_refl _) _)
 clear h ba hpe hp2 k0 k1 k2
 go_enter Tryz.func50, Tryz.ntmps50
 go_wp2
 (try simp only [Exit.inBlock, Exit.then])
 refine bodyPost_ret (results_cell1 rfl _ _ w.heap.size _ _ _ _ rfl HP.out Tryz.underlying40 rfl entry_size) rfl ?_
 exact ⟨by rw [HV.out]; rfl, HB.out⟩
set_option maxHeartbeats 2000000 in
theorem logAt_out (h : Lay a lg d room s fs T X ft pv ev ps w) (q : Int) (hq : q < 1 ∨ (ps.length : Int) < q) : Calls Tryz.prog 50 #[.pointer (some ⟨lg, 0, none⟩), .int .i64 q] w fun e w' => e = .returned (.tuple #[.agg #[.int .i64 0, .int .i64 0, .string ⟨#[]⟩, .int .i64 0, .int .i64 0, .int .i64 0, .slice none 0 0], .bool false]) ∧ Below w.heap.size w w' := by
 obtain ⟨va, vc, rfl⟩ := cells_slice (cells_of_owns h.ents)
 obtain ⟨k0, k1, k2, k3⟩ := h.cells
 have ba : Below w.heap.size w (w.alloc (.cells #[.int .i64 0, .int .i64 0, .string ⟨#[]⟩, .int .i64 0, .int .i64 0, .int .i64 0, .slice none 0 0] 40)) := (Below.refl _ _).alloc (Nat.le_refl _) _
 have k3 := cell_kept ba (Nat.le_refl _) k3
 have HP := Lib.hid (show (w.alloc (.cells #[.int .i64 0, .int .i64 0, .string ⟨#[]⟩, .int .i64 0, .int .i64 0, .int .i64 0, .slice none 0 0] 40)).heap[w.heap.size]? = some (.cells #[.int .i64 0, .int .i64 0, .string ⟨#[]⟩, .int .i64 0, .int .i64 0, .int .i64 0, .slice none 0 0] 40 (0, 0)) from heap_alloc_new w _)
 have HB := Lib.hid ba
 clear h ba k0 k1 k2
 by_cases h1 : q < 1
 · clear hq
   go_enter Tryz.func50, Tryz.ntmps50
   go_wp2
   (try simp only [Exit.inBlock, Exit.then])
   refine bodyPost_ret (results_cell1 rfl _ _ w.heap.size _ _ _ _ rfl HP.out Tryz.underlying40 rfl entry_size) rfl ?_
   exact ⟨rfl, HB.out⟩
 · have h2 : (ps.length : Int) < q := by omega
   clear hq
   go_enter Tryz.func50, Tryz.ntmps50
   go_wp2
   (try simp only [Exit.inBlock, Exit.then])
   refine bodyPost_ret (results_cell1 rfl _ _ w.heap.size _ _ _ _ rfl HP.out Tryz.underlying40 rfl entry_size) rfl ?_
   exact ⟨rfl, HB.out⟩
def Lg.rangeA (f : Int) (n : Nat) : Int := min (max f 1) ((n : Int) + 1)
def Lg.rangeM (f m : Int) (n : Nat) : Int := min (max m 0) ((n : Int) + 1 - Lg.rangeA f n)
theorem Lg.range_facts (f m : Int) (n : Nat) : 1 ≤ Lg.rangeA f n ∧ Lg.rangeA f n ≤ n + 1 ∧ 0 ≤ Lg.rangeM f m n ∧ Lg.rangeM f m n ≤ n + 1 - Lg.rangeA f n := by unfold Lg.rangeM Lg.rangeA; omega
theorem Lg.range_wraps (i n L : Nat) (h : i + n ≤ L) (hL : L ≤ 1000000) : wrap64 ((L : Int) + 1) = (L : Int) + 1 ∧ wrap64 ((L : Int) + 1 - ((i : Int) + 1)) = (L : Int) + 1 - ((i : Int) + 1) ∧ wrap64 (i : Int) = (i : Int) ∧ wrap64 ((i : Int) + (n : Int)) = (i : Int) + (n : Int) :=
 ⟨IntWalk.wrap64_in _ (by omega), IntWalk.wrap64_in _ (by omega), IntWalk.wrap64_in _ (by omega), IntWalk.wrap64_in _ (by omega)⟩
theorem Lg.range_len {α : Type} (l : List α) {i n : Nat} (h : i + n ≤ l.length) : ((l.drop i).take n).length = n := by rw [List.length_take, List.length_drop]; omega
theorem Lg.range_bounds (i n L c : Nat) (h : i + n ≤ L) (hc : L ≤ c) : (i : Int) ≤ (i : Int) + (n : Int) ∧ (i : Int) + (n : Int) ≤ (c : Int) ∧ i + n ≤ c ∧ ((i : Int) + (n : Int)).toNat = i + n := ⟨by omega, by omega, by omega, by omega⟩
theorem ents_part {w : World} {v : Value} {ps : List EnX} (h : Ents w v ps) {b o c i m : Nat} (hv : v = .slice (some ⟨b, o, none⟩) ps.length c) (hi : i + m ≤ ps.length) (o' c' : Nat) (ho : o' = o + i * 7 ∨ i = ps.length) :
   Ents w (.slice (some ⟨b, o', none⟩) m c') ((ps.drop i).take m) := by
 subst hv
 have h2 := ents_drop (k := i) h (by omega) o' (c - i) ho
 have hl : (ps.drop i).length = ps.length - i := List.length_drop
 rw [← hl] at h2
 exact ents_take h2 (by omega) c'
set_option maxHeartbeats 2000000 in
set_option maxRecDepth 100000 in
theorem logRange_any (f m : Int) (h : Lay a lg d room s fs T X ft pv ev ps w) (hn : ps.length ≤ 1000000) :
   Calls Tryz.prog 44 #[.pointer (some ⟨lg, 0, none⟩), .int .i64 f, .int .i64 m] w fun e w' => ∃ v, e = .returned v ∧
     Hid (w'.ownsRow w.heap.size 40 7 v ((ps.drop (Lg.rangeA f ps.length - 1).toNat).take (Lg.rangeM f m ps.length).toNat).length (enCells ((ps.drop (Lg.rangeA f ps.length - 1).toNat).take (Lg.rangeM f m ps.length).toNat))) ∧ Below w.heap.size w w' := by
 obtain ⟨va, vc, rfl⟩ := cells_slice (cells_of_owns h.ents)
 obtain ⟨k0, k1, k2, k3⟩ := h.cells
 obtain ⟨r1, r2, r3, r4⟩ := Lg.range_facts f m ps.length
 have hcap : ps.length ≤ vc := by
   rcases h.ents.2 with ⟨e, h0⟩ | ⟨g, cap, cur, e, _, _, h2, _⟩
   · omega
   · cases e; exact h2
 obtain ⟨i, hi⟩ : ∃ i : Nat, Lg.rangeA f ps.length = (i : Int) + 1 := ⟨(Lg.rangeA f ps.length - 1).toNat, by omega⟩
 obtain ⟨n, hn'⟩ : ∃ n : Nat, Lg.rangeM f m ps.length = (n : Int) := ⟨(Lg.rangeM f m ps.length).toNat, by omega⟩
 rw [hi] at r1 r2 r4
 rw [hn'] at r3 r4
 have HAM := Lib.hid (show min (max f 1) ((ps.length : Int) + 1) = (i : Int) + 1 ∧ min (max m 0) ((ps.length : Int) + 1 - ((i : Int) + 1)) = (n : Int) from ⟨hi, by rw [← hi, ← hn']; rfl⟩)
 rw [hi, hn', show ((i : Int) + 1 - 1).toNat = i by omega, Int.toNat_natCast]
 have hin : i + n ≤ ps.length := by omega
 obtain ⟨hw1, hw2, hw3, hw4⟩ := Lg.range_wraps i n ps.length hin hn
 have htl : ((ps.drop i).take n).length = n := Lg.range_len ps hin
 obtain ⟨hb1, hb2, hb3, hb4⟩ := Lg.range_bounds i n ps.length vc hin hcap
 have HLay := Lib.hid h
 clear hi hn' h r1 r2 r3 r4 k0 k1 k2 hcap
 by_cases hn0 : n = 0
 · subst hn0
   have HC := Lib.hid (cloneE_any (.slice va 0 0) 0 [] w ⟨rfl, .inl ⟨rfl, va, 0, rfl⟩⟩ (fun u hu => by cases hu) (by omega) (fun _ => by
     cases va with
     | none => exact .inl rfl
     | some x =>
       rcases HLay.out.ents.2 with ⟨e, _⟩ | ⟨g, cap, cur, e, _⟩
       · cases e
       · cases e; exact .inr ⟨g, 0, 0, rfl⟩))
   rw [List.take_zero]
   clear htl hin
   have HB := Lib.hid (And.intro hw3 (And.intro hw4 (And.intro hb1 (And.intro hb2 (And.intro hb3 hb4)))))
   clear hw3 hw4 hb1 hb2 hb3 hb4
   obtain ⟨hA', hM'⟩ := HAM.out
   go_enter Tryz.func44, Tryz.ntmps44
   go_upto_region 3 with fail
   obtain ⟨hw3, hw4, hb1, hb2, hb3, hb4⟩ := HB.out
   clear hA' hM' hw1 hw2
   go_wp2_with fail
   refine HC.out.mono ?_
   rintro e w1 ⟨v', rfl, hO, hb⟩
   have HX := Lib.hid (And.intro hO.out hb)
   clear hO hb HC
   go_wp2
   go_ret
   exact ⟨_, rfl, Lib.hid HX.out.1, HX.out.2⟩
 · have hnp : 0 < n := by omega
   obtain ⟨b, o, rfl⟩ : ∃ b o, va = some ⟨b, o, none⟩ := by
     rcases (cells_of_owns HLay.out.ents).2 with ⟨h0, _⟩ | ⟨b, o, c, e, _⟩
     · omega
     · cases e; exact ⟨_, _, rfl⟩
   have hE := ents_part HLay.out.entsE rfl hin (o + i * 7) n (.inl rfl)
   have hC := hE.1
   rw [htl] at hC
   have HC := Lib.hid (cloneE_any (.slice (some ⟨b, o + i * 7, none⟩) n n) n (enCells ((ps.drop i).take n)) w hC (enCells_one _ (fun p hp => by
     obtain ⟨va, vc, e⟩ := cells_slice (hE.2 p hp).1
     exact ⟨_, _, _, e⟩)) (by omega) (fun h0 => absurd h0 (by omega)))
   have HTL := Lib.hid htl
   clear hE hC htl hin
   have HB := Lib.hid (And.intro hw3 (And.intro hw4 (And.intro hb1 (And.intro hb2 (And.intro hb3 hb4)))))
   clear hw3 hw4 hb1 hb2 hb3 hb4
   obtain ⟨hA', hM'⟩ := HAM.out
   go_enter Tryz.func44, Tryz.ntmps44
   go_upto_region 3 with fail
   obtain ⟨hw3, hw4, hb1, hb2, hb3, hb4⟩ := HB.out
   clear hA' hM' hw1 hw2
   go_wp2_with fail
   refine HC.out.mono ?_
   rintro e w1 ⟨v', rfl, hO, hb⟩
   have HX := Lib.hid (And.intro hO.out hb)
   clear hO hb HC
   go_wp2
   go_ret
   exact ⟨_, rfl, Lib.hid (by rw [HTL.out]; exact HX.out.1), HX.out.2⟩
end Go.Proofs.YtgddgipjpdjoaaaGreatDoor
namespace Go.Proofs.YtgddgipjpdjoaaaGreatDoor
open Go.RowKit Go.Shelf
variable {R : (Nat → Prop) → World → Prop} {a w0 w w' : World} {P lg d : Nat} {mv : Value} {room : Int} {s s' : Lg.S} {fs fs' : List Dk.File}
end Go.Proofs.YtgddgipjpdjoaaaGreatDoor
namespace Go.Proofs.YtgddgipjpdjoaaaGreatDoor
open Go.RowKit Go.Shelf
namespace Mk
def lastEp (p : Option Int) (l : List Evt.Entry) : Option Int := match l.getLast? with | none => p | some e => some e.epoch
theorem marksF_snoc : ∀ (l : List Evt.Entry) (p : Option Int) (e : Evt.Entry), marksF p (l ++ [e]) = marksF p l ++ (if lastEp p l = some e.epoch then [] else [(e.epoch, e.pos)])
 | [], p, e => by by_cases h : p = some e.epoch <;> simp [marksF, lastEp, h]
 | x :: l, p, e => by
   rw [List.cons_append, marksF, marksF, marksF_snoc l (some x.epoch) e, List.append_assoc]
   have : lastEp (some x.epoch) l = lastEp p (x :: l) := by
     unfold lastEp
     cases l with
     | nil => rfl
     | cons y l =>
       rw [List.getLast?_cons_cons]
       cases h : (y :: l).getLast? with
       | none => simp at h
       | some z => rfl
   rw [this]
theorem marks_first {e : Evt.Entry} : marks [e] = [(e.epoch, e.pos)] := by simp [marks, marksF]
theorem marks_next {l : List Evt.Entry} {x e : Evt.Entry} (h : l.getLast? = some x) : marks (l ++ [e]) = marks l ++ (if x.epoch = e.epoch then [] else [(e.epoch, e.pos)]) := by
 unfold marks
 rw [marksF_snoc, lastEp, h]
 simp
end Mk
theorem markT : ElemT Tryz.prog 65 124 2 := by
 have h : (Tryz.prog.info? 124).map (fun i => (i.zero, i.size, i.bytes)) = some (some (.agg #[.int .i64 0, .int .i64 0]), 2, 16) := by kernel_rfl
 obtain ⟨i0, hi, hz0, hz1, hz2⟩ := info_parts h
 exact ⟨Tryz.underlying65, ⟨i0, _, 16, hi, hz0, hz1, hz2, rfl, by omega⟩, by omega⟩
theorem markCells_append (a b : List (Int × Int)) : markCells (a ++ b) = markCells a ++ markCells b := by simp [markCells]
def Mk.upto (ps : List EnX) (i : Nat) : List (Int × Int) := Mk.marks (plainE (ps.take i))
theorem Mk.upto_one {ps : List EnX} (h : 0 < ps.length) {p ep : Int} {b : Evt.Batch} (hx : ps[0].1 = ⟨p, ep, b⟩) : Mk.upto ps 1 = Mk.upto ps 0 ++ [(ep, p)] := by
 unfold Mk.upto
 have : ps.take 1 = [ps[0]] := by
   rw [List.take_succ_eq_append_getElem h, List.take_zero, List.nil_append]
 rw [this, show plainE [ps[0]] = [ps[0].1] from rfl, hx, Mk.marks_first]; rfl
theorem Mk.upto_next {ps : List EnX} {i : Nat} (h : i + 1 < ps.length) {p ep p0 ep0 : Int} {b b0 : Evt.Batch} (hx0 : (ps[i]'(by omega)).1 = ⟨p0, ep0, b0⟩) (hx : (ps[i + 1]'h).1 = ⟨p, ep, b⟩) :
   Mk.upto ps (i + 2) = Mk.upto ps (i + 1) ++ (if ep0 = ep then [] else [(ep, p)]) := by
 unfold Mk.upto
 have e : plainE (ps.take (i + 2)) = plainE (ps.take (i + 1)) ++ [⟨p, ep, b⟩] := by
   rw [List.take_succ_eq_append_getElem h, plainE_cat]
   simp [plainE, hx]
 have hl : (plainE (ps.take (i + 1))).getLast? = some ⟨p0, ep0, b0⟩ := by
   rw [List.take_succ_eq_append_getElem (show i < ps.length by omega), plainE_cat]
   simp [plainE, hx0]
 rw [e, Mk.marks_next hl]
theorem enCells_block {w : World} {c : Array Value} {G : Nat} (h : w.heap[G]? = some (.cells c 40 (0, 0))) (i : Nat) (v : Value) (hv : c[i]? = some v) : w.cell? ⟨G, i, none⟩ = some v := by rw [Lib.cell_of_heap h]; exact hv
set_option maxHeartbeats 8000000 in
set_option maxRecDepth 100000 in
theorem marks6_any (v : Value) (ps : List EnX) (w : World) (hc : Ents w v ps) (hn : ps.length ≤ 1000000) :
   Calls Tryz.prog 127 #[v] w fun e w' => ∃ V, e = .returned V ∧ Hid (w'.ownsRow w.heap.size 124 2 V (Mk.upto ps ps.length).length (markCells (Mk.upto ps ps.length))) ∧ Below w.heap.size w w' := by
 obtain ⟨va, vc, rfl⟩ := cells_slice hc.1
 have HC := Lib.hid hc
 clear hc
 go_enter Tryz.func127, Tryz.ntmps127
 go_wp2
 go_loopw [3, 8] (fun vv lv wr => ∃ (i : Nat) (n : Nat) (xs : List Value), lv = .int .i64 i ∧ i ≤ ps.length ∧ Hid ((Mk.upto ps i).length = n) ∧ Hid (markCells (Mk.upto ps i) = xs) ∧ n ≤ i ∧ Hid (wr.ownsRow w.heap.size 124 2 vv n xs) ∧ Below w.heap.size w wr) (fun _ lv _ => ps.length - (intOf lv).toNat)
 case atStart => exact ⟨0, 0, [], rfl, by omega, Lib.hid rfl, Lib.hid rfl, Nat.le_refl _, Lib.hid (World.ownsRow_nil _ _ _ _), Below.refl _ _⟩
 case round =>
   rename_i vv
   obtain ⟨i, n, xs, rfl, hi, HN, HX, hni, HO, hbw⟩ := hrel
   obtain ⟨Va, Vc, rfl⟩ := cells_slice (cells_of_owns HO.out)
   by_cases hp : i < ps.length
   · obtain ⟨b, o, c, p, ep, S, ex, se, sq, sa, sl, sc, es, hv, q0, q1, q2, q3, q4, q5, q6, _, _, _, _, hpe, _⟩ := enAt HC.out i hp
     cases hv
     have q0 := cell_kept hbw (Nat.le_refl _) q0
     have q1 := cell_kept hbw (Nat.le_refl _) q1
     have q2 := cell_kept hbw (Nat.le_refl _) q2
     have q3 := cell_kept hbw (Nat.le_refl _) q3
     have q4 := cell_kept hbw (Nat.le_refl _) q4
     have q5 := cell_kept hbw (Nat.le_refl _) q5
     have q6 := cell_kept hbw (Nat.le_refl _) q6
     have be : Below wr.heap.size wr (wr.alloc (.cells #[.int .i64 p, .int .i64 ep, .string S, .int .i64 ex, .int .i64 se, .int .i64 sq, .slice sa sl sc] 40)) := (Below.refl _ _).alloc (Nat.le_refl _) _
     obtain ⟨W, hW⟩ : ∃ W, W = wr.alloc (.cells #[.int .i64 p, .int .i64 ep, .string S, .int .i64 ex, .int .i64 se, .int .i64 sq, .slice sa sl sc] 40) := ⟨_, rfl⟩
     have hG : W.heap[wr.heap.size]? = some (.cells #[.int .i64 p, .int .i64 ep, .string S, .int .i64 ex, .int .i64 se, .int .i64 sq, .slice sa sl sc] 40 (0, 0)) := by rw [hW]; exact heap_alloc_new wr _
     rw [← hW] at be
     have g0 := enCells_block hG 0 _ rfl
     have g1 := enCells_block hG 1 _ rfl
     have HW := Lib.hid hW
     have HBW := Lib.hid (Below.up hbw (Nat.le_refl _) be)
     have HO1 := Lib.hid (owns_next HO.out be)
     have hpx := hpe.out
     clear hpe be hW
     rcases Nat.eq_zero_or_pos i with h0 | h0
     · subst h0
       have HU := Lib.hid (Mk.upto_one hp hpx)
       have hz0 : o + 0 * 7 = o := by omega
       rw [hz0] at q0 q1 q2 q3 q4 q5 q6
       clear hpx hbw hz0
       go_upto_region 5 with fail
       rw [← HW.out]
       go_quiet (fail)
       have ba : Below (W.drewN nq).heap.size (W.drewN nq) ((W.drewN nq).alloc (.cells #[.int .i64 ep, .int .i64 p] 124)) := (Below.refl _ _).alloc (Nat.le_refl _) _
       have bw : Below W.heap.size W (W.drewN nq) := below_drewN (Below.refl _ W) nq
       have HO2 := Lib.hid (owns_next (owns_next HO1.out bw) ba)
       have HB2 := Lib.hid (Below.up (Below.up HBW.out (Nat.le_refl _) bw) (Nat.le_refl _) ba)
       have hx := cells_newN (W.drewN nq) [.int .i64 ep, .int .i64 p] 124
       have g0 := cell_kept bw (Nat.le_refl _) g0
       have g1 := cell_kept bw (Nat.le_refl _) g1
       clear ba bw HO1 HBW
       go_wp2_with (at_builtin; refine wpList_append_row rfl _ _ rfl markT w.heap.size (.slice Va n Vc) n xs rfl HO2.out _ 1 [.int .i64 ep, .int .i64 p] rfl hx (by simp [Value.oneCell']) ?c3 ?c2 ?_)
       case c3 => omega
       case c2 => exact HB2.out.size
       intro v' w2 hown hgr _
       have HO3 := Lib.hid hown
       have HB3 := Lib.hid (HB2.out.grown hgr HB2.out.size (fun k hk => (HO2.out.lt k hk).1))
       clear hown hgr hx g0 g1
       go_wp2
       exact ⟨⟨1, n + 1, xs ++ [.int .i64 ep, .int .i64 p], by go_num, by omega, Lib.hid (by rw [HU.out, List.length_append, HN.out]; rfl), Lib.hid (by rw [HU.out, markCells_append, HX.out]; rfl), by omega, HO3, HB3.out⟩, by simp [intOf]; omega⟩
     · obtain ⟨k, rfl⟩ : ∃ k, i = k + 1 := ⟨i - 1, by omega⟩
       obtain ⟨b0, o0, c0, p0, ep0, S0, ex0, se0, sq0, sa0, sl0, sc0, es0, hv0, r0, r1, r2, r3, r4, r5, r6, _, _, _, _, hpe0, _⟩ := enAt HC.out k (by omega)
       cases hv0
       have hnx := Mk.upto_next hp hpe0.out hpx
       have r1 := cell_kept HBW.out (Nat.le_refl _) r1
       have hz : ((k : Int) + 1 == 0) = false := by rw [beq_eq_false_iff_ne]; omega
       have hw1 : IntKind.i64.wrap (k : Int) = (k : Int) := by rw [IntKind.wrap_i64]; omega
       have hw2 : ((k : Int)).toNat = k := by omega
       have hlt : (k : Int) < (ps.length : Int) := by omega
       have hlt2 : k < ps.length := by omega
       clear r0 r2 r3 r4 r5 r6 hpe0 hpx hbw
       by_cases hee : ep0 = ep
       · have HU := Lib.hid (show Mk.upto ps (k + 2) = Mk.upto ps (k + 1) by rw [hnx, if_pos hee, List.append_nil])
         have hne : (ep != ep0) = false := by rw [bne_eq_false_iff_eq]; exact hee.symm
         have hne2 : ¬ ep ≠ ep0 := by simp [hee]
         clear hnx
         go_upto_region 5 with fail
         rw [← HW.out]
         go_quiet (fail)
         have bw : Below W.heap.size W (W.drewN nq) := below_drewN (Below.refl _ W) nq
         have HO2 := Lib.hid (owns_next HO1.out bw)
         have HB2 := Lib.hid (Below.up HBW.out (Nat.le_refl _) bw)
         clear bw hne2
         go_wp2
         exact ⟨⟨k + 2, n, xs, by go_num, by omega, Lib.hid (by rw [HU.out, HN.out]), Lib.hid (by rw [HU.out, HX.out]), by omega, HO2, HB2.out⟩, by simp [intOf]; omega⟩
       · have HU := Lib.hid (show Mk.upto ps (k + 2) = Mk.upto ps (k + 1) ++ [(ep, p)] by rw [hnx, if_neg hee])
         have hne : (ep != ep0) = true := by rw [bne_iff_ne]; exact fun e => hee e.symm
         clear hnx
         go_upto_region 5 with fail
         rw [← HW.out]
         go_quiet (fail)
         have ba : Below (W.drewN nq).heap.size (W.drewN nq) ((W.drewN nq).alloc (.cells #[.int .i64 ep, .int .i64 p] 124)) := (Below.refl _ _).alloc (Nat.le_refl _) _
         have bw : Below W.heap.size W (W.drewN nq) := below_drewN (Below.refl _ W) nq
         have HO2 := Lib.hid (owns_next (owns_next HO1.out bw) ba)
         have HB2 := Lib.hid (Below.up (Below.up HBW.out (Nat.le_refl _) bw) (Nat.le_refl _) ba)
         have hx := cells_newN (W.drewN nq) [.int .i64 ep, .int .i64 p] 124
         have g0 := cell_kept bw (Nat.le_refl _) g0
         have g1 := cell_kept bw (Nat.le_refl _) g1
         clear ba bw HO1 HBW
         go_wp2_with (at_builtin; refine wpList_append_row rfl _ _ rfl markT w.heap.size (.slice Va n Vc) n xs rfl HO2.out _ 1 [.int .i64 ep, .int .i64 p] rfl hx (by simp [Value.oneCell']) ?c3 ?c2 ?_)
         case c3 => omega
         case c2 => exact HB2.out.size
         intro v' w2 hown hgr _
         have HO3 := Lib.hid hown
         have HB3 := Lib.hid (HB2.out.grown hgr HB2.out.size (fun k hk => (HO2.out.lt k hk).1))
         clear hown hgr hx g0 g1
         go_wp2
         exact ⟨⟨k + 2, n + 1, xs ++ [.int .i64 ep, .int .i64 p], by go_num, by omega, Lib.hid (by rw [HU.out, List.length_append, HN.out]; rfl), Lib.hid (by rw [HU.out, markCells_append, HX.out]; rfl), by omega, HO3, HB3.out⟩, by simp [intOf]; omega⟩
   · obtain rfl : i = ps.length := by omega
     have HF := Lib.hid (And.intro HO.out hbw)
     clear hbw
     go_wp2
     go_ret
     exact ⟨_, rfl, Lib.hid (by rw [HN.out, HX.out]; exact HF.out.1), HF.out.2⟩
set_option maxHeartbeats 2000000 in
set_option maxRecDepth 100000 in
theorem logMarks_any {a w : World} {lg d : Nat} {room : Int} {s : Lg.S} {fs : List Dk.File} {T X ft : Nat → Prop} {pv ev : Value} {ps : List EnX} (h : Lay a lg d room s fs T X ft pv ev ps w) (hn : ps.length ≤ 1000000) :
   Calls Tryz.prog 64 #[.pointer (some ⟨lg, 0, none⟩)] w fun e w' => ∃ V, e = .returned V ∧ Hid (w'.ownsRow w.heap.size 124 2 V (Mk.marks s.es).length (markCells (Mk.marks s.es))) ∧ Below w.heap.size w w' := by
 have HE := Lib.hid (show Mk.upto ps ps.length = Mk.marks s.es by unfold Mk.upto; rw [List.take_length, h.plain])
 obtain ⟨k0, k1, k2, k3⟩ := h.cells
 have HM := marks6_any ev ps w h.entsE hn
 rw [HE.out] at HM
 have HM := Lib.hid HM
 clear h k0 k1 k2 HE
 go_enter Tryz.func64, Tryz.ntmps64
 go_wp2_with fail
 refine HM.out.mono ?_
 rintro e w1 ⟨V, rfl, hO, hb⟩
 have HX := Lib.hid (And.intro hO.out hb)
 clear hO hb HM
 go_wp2
 go_ret
 exact ⟨V, rfl, Lib.hid HX.out.1, HX.out.2⟩
end Go.Proofs.YtgddgipjpdjoaaaGreatDoor
