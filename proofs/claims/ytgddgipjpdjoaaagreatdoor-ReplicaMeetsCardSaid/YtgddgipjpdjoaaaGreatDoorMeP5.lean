/-
  The walks of the law package 17's sameEvents, sameInts, same: of parts that are the same.
  The walk of the law package 17's parts: a state's parts as the document has them.
  Plain facts for the law of meeting: what stands beside two replicas; what its loops keep; the states of both.
  The walk of the law package 17's ReplicaMeets.
-/
import Derived.Test.YtgddgipjpdjoaaaGreatDoorMeP4
namespace Go.Proofs.YtgddgipjpdjoaaaGreatDoor
open Go.RowKit Go.Shelf
set_option maxHeartbeats 1000000 in
theorem sameInts17_any (va vb : Value) (l : List Int) (w : World) (ha : Cells w va 1 l.length (intCells l)) (hb : Cells w vb 1 l.length (intCells l)) (hn : l.length ≤ 1000000) :
   Calls Tryz.prog 67 #[va, vb] w fun e w' => e = .returned (.bool true) ∧ Below w.heap.size w w' := by
 obtain ⟨aa, ac, rfl⟩ := cells_lenP' ha
 obtain ⟨ba, bc, rfl⟩ := cells_lenP' hb
 have HA := Lib.hid ha
 have HB := Lib.hid hb
 clear ha hb
 go_enter Tryz.func67, Tryz.ntmps67
 go_wp2
 go_loopw [5] (fun lv wr => ∃ i : Nat, lv = .int .i64 i ∧ i ≤ l.length ∧ Below w.heap.size w wr) (fun lv _ => l.length - (Go.RowKit.intOf lv).toNat)
 case atStart => exact ⟨0, rfl, by omega, Below.refl _ _⟩
 case round =>
   obtain ⟨i, rfl, hi, hbw⟩ := hrel
   by_cases hp : i < l.length
   · obtain ⟨b1, o1, c1, hv1, k1⟩ := intAt17 HA.out i hp
     obtain ⟨b2, o2, c2, hv2, k2⟩ := intAt17 HB.out i hp
     cases hv1
     cases hv2
     obtain ⟨x, hx⟩ : ∃ x, l[i] = x := ⟨_, rfl⟩
     rw [hx] at k1 k2
     have k1 := cell_kept hbw (Nat.le_refl _) k1
     have k2 := cell_kept hbw (Nat.le_refl _) k2
     clear hx
     go_wp2
     go_quiet (fail)
     go_wp2
     exact ⟨⟨i + 1, by go_num, by omega, below_drewN hbw _⟩, by simp [Go.RowKit.intOf]; omega⟩
   · go_wp2
     go_ret
     exact ⟨rfl, hbw⟩
set_option maxHeartbeats 2000000 in
theorem sameEvents17_any (va vb : Value) (es : List Evt.Event) (w : World) (ha : Evs w va es) (hb : Evs w vb es) (hn : es.length ≤ 1000000) :
   Calls Tryz.prog 66 #[va, vb] w fun e w' => e = .returned (.bool true) ∧ Below w.heap.size w w' := by
 obtain ⟨aa, ac, rfl⟩ := cells_lenP' ha
 obtain ⟨ba, bc, rfl⟩ := cells_lenP' hb
 have HA := Lib.hid ha
 have HB := Lib.hid hb
 clear ha hb
 go_enter Tryz.func66, Tryz.ntmps66
 go_wp2
 go_loopw [5] (fun lv wr => ∃ i : Nat, lv = .int .i64 i ∧ i ≤ es.length ∧ Below w.heap.size w wr) (fun lv _ => es.length - (Go.RowKit.intOf lv).toNat)
 case atStart => exact ⟨0, rfl, by omega, Below.refl _ _⟩
 case round =>
   obtain ⟨i, rfl, hi, hbw⟩ := hrel
   by_cases hp : i < es.length
   · obtain ⟨b1, o1, c1, hv1, p1, p2⟩ := evAt (Cells.next HA.out hbw) i hp
     obtain ⟨b2, o2, c2, hv2, q1, q2⟩ := evAt (Cells.next HB.out hbw) i hp
     cases hv1
     cases hv2
     obtain ⟨x, hx⟩ : ∃ x, es[i] = x := ⟨_, rfl⟩
     rw [hx] at p1 p2 q1 q2
     obtain ⟨K, hK, _, _⟩ := str_of x.kind
     obtain ⟨Dd, hDd, _, _⟩ := str_of x.data
     rw [hK] at p1 q1
     rw [hDd] at p2 q2
     clear hx hK hDd
     go_wp2
     go_quiet (fail)
     go_wp2
     exact ⟨⟨i + 1, by go_num, by omega, below_drewN hbw _⟩, by simp [Go.RowKit.intOf]; omega⟩
   · go_wp2
     go_ret
     exact ⟨rfl, hbw⟩
theorem strmAt {w : World} {v : Value} {xs : List StX} (h : Cells w v 3 xs.length (strmCells xs)) (i : Nat) (hi : i < xs.length) :
   ∃ b o c, v = .slice (some ⟨b, o, none⟩) xs.length c ∧ w.cell? ⟨b, o + i * 3, none⟩ = some (.string ⟨xs[i].1.toArray⟩) ∧ w.cell? ⟨b, o + i * 3 + 1, none⟩ = some xs[i].2.1 ∧ w.cell? ⟨b, o + i * 3 + 2, none⟩ = some xs[i].2.2 := by
 obtain ⟨b, o, c, h1, h2⟩ := cellsFlat (fun x : StX => [Value.string ⟨x.1.toArray⟩, x.2.1, x.2.2]) 3 (fun _ => rfl) h i hi
 exact ⟨b, o, c, h1, h2 0 _ (by omega) rfl, h2 1 _ (by omega) rfl, h2 2 _ (by omega) rfl⟩
theorem reqAt {w : World} {v : Value} {rs : List ReqX} (h : Cells w v 6 rs.length (reqCells rs)) (i : Nat) (hi : i < rs.length) :
   ∃ b o c, v = .slice (some ⟨b, o, none⟩) rs.length c ∧ w.cell? ⟨b, o + i * 6, none⟩ = some (.int .i64 rs[i].1) ∧ w.cell? ⟨b, o + i * 6 + 1, none⟩ = some (.int .i64 rs[i].2.1) ∧ w.cell? ⟨b, o + i * 6 + 2, none⟩ = some (.int .i64 rs[i].2.2.code) ∧
     w.cell? ⟨b, o + i * 6 + 3, none⟩ = some (.int .i64 rs[i].2.2.pos) ∧ w.cell? ⟨b, o + i * 6 + 4, none⟩ = some (.int .i64 rs[i].2.2.first) ∧ w.cell? ⟨b, o + i * 6 + 5, none⟩ = some (.int .i64 rs[i].2.2.version) := by
 obtain ⟨b, o, c, h1, h2⟩ := cellsFlat (fun r : ReqX => [Value.int .i64 r.1, .int .i64 r.2.1, .int .i64 r.2.2.code, .int .i64 r.2.2.pos, .int .i64 r.2.2.first, .int .i64 r.2.2.version]) 6 (fun _ => rfl) h i hi
 exact ⟨b, o, c, h1, h2 0 _ (by omega) rfl, h2 1 _ (by omega) rfl, h2 2 _ (by omega) rfl, h2 3 _ (by omega) rfl, h2 4 _ (by omega) rfl, h2 5 _ (by omega) rfl⟩
set_option maxHeartbeats 8000000 in
set_option maxRecDepth 100000 in
theorem same17_any (app : Int) (sv rv sv2 rv2 : Value) (f : Streams) (ns : List (List UInt8)) (rs : List ReqX) (w : World) (h1 : PartsAt w sv rv f ns rs) (h2 : PartsAt w sv2 rv2 f ns rs) (hn : ns.length ≤ 800) (hr : rs.length ≤ 640000) (hf : ∀ k ∈ ns, (f k).length ≤ 1000000) :
   Calls Tryz.prog 28 #[.agg #[.int .i64 app, sv, rv], .agg #[.int .i64 app, sv2, rv2]] w fun e w' => e = .returned (.bool true) ∧ Below w.heap.size w w' := by
 obtain ⟨xs, hx1, hx2, hx3, hx4⟩ := h1
 obtain ⟨ys, hy1, hy2, hy3, hy4⟩ := h2
 have hxl : xs.length = ns.length := by rw [← hx1, List.length_map]
 have hyl : ys.length = ns.length := by rw [← hy1, List.length_map]
 obtain ⟨s1, s2, rfl⟩ := cells_lenP' hx2
 obtain ⟨s3, s4, rfl⟩ := cells_lenP' hy2
 obtain ⟨s5, s6, rfl⟩ := cells_lenP' hx4
 obtain ⟨s7, s8, rfl⟩ := cells_lenP' hy4
 rw [hxl] at hx2 ⊢
 rw [hyl] at hy2 ⊢
 obtain ⟨W, hW⟩ : ∃ W, W = (w.alloc (.cells #[.int .i64 app, .slice s1 ns.length s2, .slice s5 rs.length s6] 73)).alloc (.cells #[.int .i64 app, .slice s3 ns.length s4, .slice s7 rs.length s8] 78) := ⟨_, rfl⟩
 have bA : Below w.heap.size w (w.alloc (.cells #[.int .i64 app, .slice s1 ns.length s2, .slice s5 rs.length s6] 73)) := (Below.refl _ w).alloc (Nat.le_refl _) _
 have bW : Below w.heap.size w W := by rw [hW]; exact bA.alloc bA.size _
 have ha : W.heap[w.heap.size]? = some (.cells #[.int .i64 app, .slice s1 ns.length s2, .slice s5 rs.length s6] 73 (0, 0)) := by
   rw [hW]; exact (Below.heap_alloc _ _ _ (by simp)).trans (heap_alloc_new w _)
 have hb : W.heap[w.heap.size + 1]? = some (.cells #[.int .i64 app, .slice s3 ns.length s4, .slice s7 rs.length s8] 78 (0, 0)) := by
   rw [hW]
   have := heap_alloc_new (w.alloc (.cells #[.int .i64 app, .slice s1 ns.length s2, .slice s5 rs.length s6] 73)) (.cells #[.int .i64 app, .slice s3 ns.length s4, .slice s7 rs.length s8] 78)
   rw [World.size_alloc] at this
   exact this
 have HC := Lib.hid (fun (Z : World) (hZ : Below W.heap.size W Z) => (show (Z.cell? ⟨w.heap.size, 1, none⟩ = some (.slice s1 ns.length s2) ∧ Z.cell? ⟨w.heap.size, 2, none⟩ = some (.slice s5 rs.length s6)) ∧ Z.cell? ⟨w.heap.size + 1, 1, none⟩ = some (.slice s3 ns.length s4) ∧ Z.cell? ⟨w.heap.size + 1, 2, none⟩ = some (.slice s7 rs.length s8) from by
   have e1 := (hZ.block _ (Array.getElem?_eq_some_iff.1 ha).1).trans ha
   have e2 := (hZ.block _ (Array.getElem?_eq_some_iff.1 hb).1).trans hb
   refine ⟨⟨?_, ?_⟩, ?_, ?_⟩
   · rw [Lib.cell_of_heap e1]; rfl
   · rw [Lib.cell_of_heap e1]; rfl
   · rw [Lib.cell_of_heap e2]; rfl
   · rw [Lib.cell_of_heap e2]; rfl))
 have HXS := Lib.hid (And.intro hx1 (And.intro hxl (And.intro (show Cells W (.slice s1 ns.length s2) 3 xs.length (strmCells xs) from by have := hx2.next bW; rw [hxl]; exact this) (fun x hx => ((hx3 x hx).next bW).evs))))
 have HYS := Lib.hid (And.intro hy1 (And.intro hyl (And.intro (show Cells W (.slice s3 ns.length s4) 3 ys.length (strmCells ys) from by have := hy2.next bW; rw [hyl]; exact this) (fun x hx => ((hy3 x hx).next bW).evs))))
 have HRS := Lib.hid (And.intro (hx4.next bW) (hy4.next bW))
 have HW := Lib.hid hW
 have HBW := Lib.hid bW
 have HN := Lib.hid (And.intro hn hr)
 have HF := Lib.hid hf
 clear hW bA bW ha hb hx1 hx2 hx3 hx4 hy1 hy2 hy3 hy4 hxl hyl hn hr hf
 go_enter Tryz.func28, Tryz.ntmps28
 go_wp2
 rw [← HW.out]
 go_loopw [5] (fun lv wr => ∃ i : Nat, lv = .int .i64 i ∧ i ≤ ns.length ∧ Below W.heap.size W wr) (fun lv _ => ns.length - (Go.RowKit.intOf lv).toNat)
 case atStart => exact ⟨0, rfl, by omega, Below.refl _ _⟩
 case round =>
   obtain ⟨i, rfl, hi, hbr⟩ := hrel
   obtain ⟨w4, rfl⟩ : ∃ w4, w4 = wr := ⟨_, rfl⟩
   obtain ⟨⟨a1, a2⟩, a3, a4⟩ := HC.out w4 hbr
   by_cases hp : i < ns.length
   · have hpx : i < xs.length := by rw [HXS.out.2.1]; exact hp
     have hpy : i < ys.length := by rw [HYS.out.2.1]; exact hp
     obtain ⟨b1, o1, c1, hv1, p0, p1, p2⟩ := strmAt (HXS.out.2.2.1.next hbr) i hpx
     rw [HXS.out.2.1] at hv1
     cases hv1
     obtain ⟨nm, hnm⟩ : ∃ nm, ns[i] = nm := ⟨_, rfl⟩
     have hxn : xs[i].1 = nm := by rw [← hnm]; simp [← HXS.out.1]
     have hyn : ys[i].1 = nm := by rw [← hnm]; simp [← HYS.out.1]
     have hrx := HXS.out.2.2.2 _ (List.getElem_mem hpx)
     have hry := HYS.out.2.2.2 _ (List.getElem_mem hpy)
     have hfl : (f nm).length ≤ 1000000 := HF.out nm (hnm ▸ List.getElem_mem hp)
     obtain ⟨e1, he1⟩ : ∃ e1, xs[i].2.1 = e1 := ⟨_, rfl⟩
     obtain ⟨e2, he2⟩ : ∃ e2, ys[i].2.1 = e2 := ⟨_, rfl⟩
     obtain ⟨t1, ht1⟩ : ∃ t1, xs[i].2.2 = t1 := ⟨_, rfl⟩
     obtain ⟨t2, ht2⟩ : ∃ t2, ys[i].2.2 = t2 := ⟨_, rfl⟩
     rw [hxn] at p0 hrx
     rw [hyn] at hry
     rw [he1] at p1 hrx
     rw [he2] at hry
     rw [ht1] at p2 hrx
     rw [ht2] at hry
     obtain ⟨es, hes⟩ : ∃ es, (f nm).map (·.2) = es := ⟨_, rfl⟩
     obtain ⟨is, his⟩ : ∃ is, (f nm).map (·.1) = is := ⟨_, rfl⟩
     have hel : es.length ≤ 1000000 := by rw [← hes, List.length_map]; exact hfl
     have hil : (f nm).length = is.length := by rw [← his, List.length_map]
     have hil2 : is.length ≤ 1000000 := hil ▸ hfl
     rw [hes, his, hil] at hrx hry
     clear hes his hil
     obtain ⟨l1, l2, rfl⟩ := cells_lenP' hrx.1
     obtain ⟨l3, l4, rfl⟩ := cells_lenP' hrx.2
     obtain ⟨l5, l6, rfl⟩ := cells_lenP' hry.1
     obtain ⟨l7, l8, rfl⟩ := cells_lenP' hry.2
     have bA1 : Below W.heap.size W (w4.alloc (.cells #[.string ⟨nm.toArray⟩, .slice l1 es.length l2, .slice l3 is.length l4] 128)) := hbr.alloc hbr.size _
     have a5 := (HC.out _ bA1).2.1
     obtain ⟨b2, o2, c2, hv2, q0, q1, q2⟩ := strmAt (HYS.out.2.2.1.next bA1) i hpy
     rw [HYS.out.2.1] at hv2
     cases hv2
     rw [hyn] at q0
     rw [he2] at q1
     rw [ht2] at q2
     obtain ⟨A2, hA2⟩ : ∃ A2, (w4.alloc (.cells #[.string ⟨nm.toArray⟩, .slice l1 es.length l2, .slice l3 is.length l4] 128)).alloc (.cells #[.string ⟨nm.toArray⟩, .slice l5 es.length l6, .slice l7 is.length l8] 129) = A2 := ⟨_, rfl⟩
     have bA2 : Below w4.heap.size w4 A2 := by rw [← hA2]; exact ((Below.refl _ w4).alloc (Nat.le_refl _) _).alloc (by simp) _
     have bW2 : Below W.heap.size W A2 := hbr.trans (bA2.mono hbr.size)
     have ga : A2.heap[w4.heap.size]? = some (.cells #[.string ⟨nm.toArray⟩, .slice l1 es.length l2, .slice l3 is.length l4] 128 (0, 0)) := by
       rw [← hA2]; exact (Below.heap_alloc _ _ _ (by simp)).trans (heap_alloc_new w4 _)
     have gb : A2.heap[w4.heap.size + 1]? = some (.cells #[.string ⟨nm.toArray⟩, .slice l5 es.length l6, .slice l7 is.length l8] 129 (0, 0)) := by
       rw [← hA2]
       have := heap_alloc_new (w4.alloc (.cells #[.string ⟨nm.toArray⟩, .slice l1 es.length l2, .slice l3 is.length l4] 128)) (.cells #[.string ⟨nm.toArray⟩, .slice l5 es.length l6, .slice l7 is.length l8] 129)
       rw [World.size_alloc] at this
       exact this
     have HG := Lib.hid (And.intro ga gb)
     have HSE := Lib.hid (sameEvents17_any (.slice l1 es.length l2) (.slice l5 es.length l6) es A2 (Cells.next hrx.1 bW2) (Cells.next hry.1 bW2) hel)
     have HSI := Lib.hid (fun (Z : World) (hZ : Below W.heap.size W Z) => sameInts17_any (.slice l3 is.length l4) (.slice l7 is.length l8) is Z (hrx.2.next hZ) (hry.2.next hZ) hil2)
     have HA2 := Lib.hid hA2
     have HB2 := Lib.hid bW2
     have HI := Lib.hid (And.intro hi hp)
     have HWI := Lib.hid (show wrap64 ((i : Int) + 1) = (i : Int) + 1 from wrap_next hp (Nat.le_trans HN.out.1 (by decide)))
     clear hA2 bA2 bW2 ga gb hrx hry hfl hxn hyn hnm hpx hpy he1 he2 ht1 ht2 hi bA1 hel hil2
     go_wp2_with fail
     rw [HA2.out]
     refine HSE.out.mono ?_
     rintro e w5 ⟨rfl, b5⟩
     have HB5 := Lib.hid (show Below W.heap.size W w5 from HB2.out.trans (b5.mono HB2.out.size))
     have x2 : w5.cell? ⟨w4.heap.size, 2, none⟩ = some (.slice l3 is.length l4) := by rw [Lib.cell_of_heap ((b5.block _ (Array.getElem?_eq_some_iff.1 HG.out.1).1).trans HG.out.1)]; rfl
     have y2 : w5.cell? ⟨w4.heap.size + 1, 2, none⟩ = some (.slice l7 is.length l8) := by rw [Lib.cell_of_heap ((b5.block _ (Array.getElem?_eq_some_iff.1 HG.out.2).1).trans HG.out.2)]; rfl
     clear HSE b5
     go_wp2_with fail
     refine (HSI.out w5 HB5.out).mono ?_
     rintro e w6 ⟨rfl, b6⟩
     have HB6 := Lib.hid (show Below W.heap.size W w6 from HB5.out.trans (b6.mono HB5.out.size))
     clear HSI b6 x2 y2
     go_wp2
     try rw [HWI.out]
     exact ⟨⟨i + 1, rfl, by have := HI.out; omega, HB6.out⟩, by simp [Go.RowKit.intOf]; have := HI.out; omega⟩
   · have HBR := Lib.hid hbr
     clear hbr
     go_wp2
     go_loopw [8] (fun lv wr => ∃ i : Nat, lv = .int .i64 i ∧ i ≤ rs.length ∧ Below W.heap.size W wr) (fun lv _ => rs.length - (Go.RowKit.intOf lv).toNat)
     case atStart => exact ⟨0, rfl, by omega, HBR.out⟩
     case round =>
       obtain ⟨j, rfl, hj, hbr⟩ := hrel
       obtain ⟨w7, rfl⟩ : ∃ w7, w7 = wr := ⟨_, rfl⟩
       clear a1 a2 a3 a4
       obtain ⟨⟨a1, a2⟩, a3, a4⟩ := HC.out w7 hbr
       by_cases hq : j < rs.length
       · obtain ⟨b1, o1, c1, hv1, p0, p1, p2, p3, p4, p5⟩ := reqAt (HRS.out.1.next hbr) j hq
         cases hv1
         obtain ⟨⟨k, q, ⟨oc, op, of, ov⟩⟩, hr⟩ : ∃ r, rs[j] = r := ⟨_, rfl⟩
         rw [hr] at p0 p1 p2 p3 p4 p5
         have bA1 : Below W.heap.size W (w7.alloc (.cells #[.int .i64 k, .int .i64 q, .int .i64 oc, .int .i64 op, .int .i64 of, .int .i64 ov] 133)) := hbr.alloc hbr.size _
         have a5 := (HC.out _ bA1).2.2
         obtain ⟨b2, o2, c2, hv2, q0, q1, q2, q3, q4, q5⟩ := reqAt (HRS.out.2.next bA1) j hq
         cases hv2
         rw [hr] at q0 q1 q2 q3 q4 q5
         have HB8 := Lib.hid (show Below W.heap.size W ((w7.alloc (.cells #[.int .i64 k, .int .i64 q, .int .i64 oc, .int .i64 op, .int .i64 of, .int .i64 ov] 133)).alloc (.cells #[.int .i64 k, .int .i64 q, .int .i64 oc, .int .i64 op, .int .i64 of, .int .i64 ov] 134)) from (hbr.alloc hbr.size _).alloc (by have := hbr.size; simp; omega) _)
         have HWI := Lib.hid (show wrap64 ((j : Int) + 1) = (j : Int) + 1 from wrap_next hq (Nat.le_trans HN.out.2 (by decide)))
         clear hr hbr bA1
         go_wp2
         try rw [HWI.out]
         exact ⟨⟨j + 1, rfl, by omega, HB8.out⟩, by simp [Go.RowKit.intOf]; omega⟩
       · have HB9 := Lib.hid (HBW.out.trans (hbr.mono HBW.out.size))
         clear hj hbr
         go_wp2
         go_ret
         exact ⟨rfl, HB9.out⟩
abbrev PPr := PP 78 129 134
theorem strm15T : ElemT Tryz.prog 75 129 3 := by
 have h : (Tryz.prog.info? 129).map (fun i => (i.zero, i.size, i.bytes)) = some (some (.agg #[.string ⟨#[]⟩, .slice none 0 0, .slice none 0 0]), 3, 64) := by kernel_rfl
 obtain ⟨i0, hi, hz0, hz1, hz2⟩ := info_parts h
 exact ⟨Tryz.underlying75, ⟨i0, _, 64, hi, hz0, hz1, hz2, rfl, by omega⟩, by omega⟩
theorem req15T : ElemT Tryz.prog 76 134 6 := by
 have h : (Tryz.prog.info? 134).map (fun i => (i.zero, i.size, i.bytes)) = some (some (.agg #[.int .i64 0, .int .i64 0, .int .i64 0, .int .i64 0, .int .i64 0, .int .i64 0]), 6, 48) := by kernel_rfl
 obtain ⟨i0, hi, hz0, hz1, hz2⟩ := info_parts h
 exact ⟨Tryz.underlying76, ⟨i0, _, 48, hi, hz0, hz1, hz2, rfl, by omega⟩, by omega⟩
theorem parts15_size : (Tryz.prog.info? 78).map (·.size) = some 3 := by kernel_rfl
theorem prsT : 129 ≠ 149 ∧ 129 ≠ 3 ∧ 129 ≠ 134 ∧ 129 ≠ 78 ∧ 78 ≠ 149 ∧ 78 ≠ 3 ∧ 78 ≠ 134 := by decide
theorem prrT : 134 ≠ 149 ∧ 134 ≠ 3 ∧ 134 ≠ 129 ∧ 134 ≠ 78 ∧ 78 ≠ 149 ∧ 78 ≠ 3 ∧ 78 ≠ 129 := by decide
set_option maxHeartbeats 16000000 in
set_option maxRecDepth 100000 in
theorem parts17_any (c : Nat) (st : Stat) (w : World) (h : IsC w c st) (hS : SOk st.S) (hn : st.n ≤ 400) (hm : st.m ≤ 400) :
   Calls Tryz.prog 30 #[.pointer (some ⟨c, 0, none⟩)] w fun e w' => ∃ sv rv ns ks qf, e = .returned (.agg #[.int .i64 st.app, sv, rv]) ∧ Hid (PartsR st ns ks qf) ∧ Hid (PartsAt w' sv rv st.f ns (reqsL st.S ks qf)) ∧ Below w.heap.size w w' := by
 obtain ⟨A, hA⟩ : ∃ A, w.alloc (.cells #[.int .i64 0, .slice none 0 0, .slice none 0 0] 78) = A := ⟨_, rfl⟩
 have bA : Below w.heap.size w A := by rw [← hA]; exact (Below.refl _ w).alloc (Nat.le_refl _) _
 have rA : A.heap[w.heap.size]? = some (.cells #[.int .i64 0, .slice none 0 0, .slice none 0 0] 78 (0, 0)) := by rw [← hA]; exact heap_alloc_new w _
 have HP := Lib.hid (stateParts_any c st A (h.next bA) hS hn hm)
 have HA := Lib.hid (And.intro hA (And.intro bA rA))
 obtain ⟨app, happ⟩ : ∃ app, st.app = app := ⟨_, rfl⟩
 rw [happ] at HP ⊢
 clear h hS hn hm hA bA rA
 go_enter Tryz.func30, Tryz.ntmps30
 go_wp2_with fail
 rw [HA.out.1]
 refine HP.out.mono ?_
 rintro e w1 ⟨sv, rv, ns, ks, qf, rfl, HPR, hnl, hrl, HPA, b1⟩
 obtain ⟨rs, hrs⟩ : ∃ rs, reqsL st.S ks qf = rs := ⟨_, rfl⟩
 rw [hrs] at HPA hrl
 have HRS := Lib.hid hrs
 obtain ⟨xs, hx1, hx2, hx3, hx4⟩ := HPA.out
 have hxl : xs.length = ns.length := by rw [← hx1, List.length_map]
 obtain ⟨s1, s2, rfl⟩ := cells_lenP' hx2
 obtain ⟨s5, s6, rfl⟩ := cells_lenP' hx4
 obtain ⟨W3, hW3⟩ : ∃ W3, w1.alloc (.cells #[.int .i64 app, .slice s1 xs.length s2, .slice s5 rs.length s6] 73) = W3 := ⟨_, rfl⟩
 obtain ⟨pq, hpq⟩ : ∃ pq, w1.heap.size = pq := ⟨_, rfl⟩
 have b3 : Below w1.heap.size w1 W3 := by rw [← hW3]; exact (Below.refl _ w1).alloc (Nat.le_refl _) _
 have g3 : W3.heap[pq]? = some (.cells #[.int .i64 app, .slice s1 xs.length s2, .slice s5 rs.length s6] 73 (0, 0)) := by rw [← hW3, ← hpq]; exact heap_alloc_new w1 _
 have hz3 : W3.heap.size = pq + 1 := by rw [← hW3, World.size_alloc, hpq]
 have r3 : W3.heap[w.heap.size]? = some (.cells #[.int .i64 0, .slice none 0 0, .slice none 0 0] 78 (0, 0)) := by
   have l1 := (Array.getElem?_eq_some_iff.1 HA.out.2.2).1
   have e1 := (b1.block _ l1).trans HA.out.2.2
   exact (b3.block _ (Array.getElem?_eq_some_iff.1 e1).1).trans e1
 have hlt3 : w.heap.size < W3.heap.size := (Array.getElem?_eq_some_iff.1 r3).1
 have bw3 : Below w.heap.size w W3 := (HA.out.2.1.trans (b1.mono HA.out.2.1.size)).trans (b3.mono (Nat.le_trans HA.out.2.1.size b1.size))
 obtain ⟨W4, hW4⟩ : ∃ W4, W3.alloc (.cells #[.int .i64 app, .slice none 0 0, .slice none 0 0] 78) = W4 := ⟨_, rfl⟩
 have b4 : Below W3.heap.size W3 W4 := by rw [← hW4]; exact (Below.refl _ W3).alloc (Nat.le_refl _) _
 have hPP : PPr W3 (pq + 2) (pq + 1) w.heap.size app st.f [] (.slice none 0 0) [] (.slice none 0 0) W4 := by
   refine ⟨by rw [← hW4, ← hz3]; exact heap_alloc_new W3 _, (b4.block _ hlt3).trans r3, World.ownsRow_nil _ _ _ _, fun x hx => (by cases hx), World.ownsRow_nil _ _ _ _, b4, by omega⟩
 have HSRC := Lib.hid (fun (Z : World) (hZ : Below W3.heap.size W3 Z) => (show (Z.cell? ⟨pq, 1, none⟩ = some (.slice s1 xs.length s2) ∧ Z.cell? ⟨pq, 2, none⟩ = some (.slice s5 rs.length s6)) ∧ Cells Z (.slice s1 xs.length s2) 3 xs.length (strmCells xs) ∧ (∀ x ∈ xs, StrRows Z st.f x) ∧ Cells Z (.slice s5 rs.length s6) 6 rs.length (reqCells rs) from by
   have e1 := (hZ.block _ (Array.getElem?_eq_some_iff.1 g3).1).trans g3
   refine ⟨⟨?_, ?_⟩, (hx2.next b3).next hZ, fun x hx => ((hx3 x hx).next b3).next hZ, (hx4.next b3).next hZ⟩
   · rw [Lib.cell_of_heap e1]; rfl
   · rw [Lib.cell_of_heap e1]; rfl))
 have HW3 := Lib.hid hW3
 have HW4 := Lib.hid hW4
 have HPP := Lib.hid hPP
 have HX1 := Lib.hid hx1
 have HNL := Lib.hid (show xs.length ≤ 800 by omega)
 have HRL := Lib.hid hrl
 have HPQ := Lib.hid hpq
 have HBW := Lib.hid bw3
 clear HP hx1 hx2 hx3 hx4 hxl hnl hrl hrs b1 b3 g3 r3 hlt3 bw3 b4 hPP HPA hz3 hW3 hW4 hpq
 go_wp2_with fail
 rw [HW3.out, HW4.out, HPQ.out]
 go_loopw [5] (fun iv wr => ∃ (i : Nat) (sv : Value), iv = .int .i64 i ∧ i ≤ xs.length ∧ Hid (PPr W3 (pq + 2) (pq + 1) w.heap.size app st.f (xs.take i) sv [] (.slice none 0 0) wr)) (fun iv _ => xs.length - (Go.RowKit.intOf iv).toNat)
 case atStart => exact ⟨0, .slice none 0 0, rfl, by omega, Lib.hid (by rw [List.take_zero]; exact HPP.out)⟩
 case round =>
   obtain ⟨i, sv, rfl, hi, HPi⟩ := hrel
   obtain ⟨w5, rfl⟩ : ∃ w5, w5 = wr := ⟨_, rfl⟩
   obtain ⟨⟨a1, a2⟩, c1, hrw, _⟩ := HSRC.out w5 HPi.out.bel
   by_cases hp : i < xs.length
   · obtain ⟨b1, o1, cc1, hv1, _, _, _⟩ := strmAt c1 i hp
     cases hv1
     obtain ⟨⟨nm, e1, t1⟩, hx⟩ : ∃ x, xs[i] = x := ⟨_, rfl⟩
     have hrx := hrw _ (List.getElem_mem hp)
     rw [hx] at hrx
     obtain ⟨l1, l2, rfl⟩ : ∃ l1 l2, e1 = .slice l1 (st.f nm).length l2 := owns_slice hrx.1
     obtain ⟨l3, l4, rfl⟩ : ∃ l3 l4, t1 = .slice l3 (st.f nm).length l4 := owns_slice hrx.2
     obtain ⟨m, hm⟩ : ∃ m, (st.f nm).length = m := ⟨_, rfl⟩
     have HMM := Lib.hid hm
     rw [hm] at hx hrx
     have HSX := Lib.hid (fun (Z : World) (hZ : Below W3.heap.size W3 Z) => (show Z.cell? ⟨pq, 1, none⟩ = some (.slice (some ⟨b1, o1, none⟩) xs.length s2) ∧ Z.cell? ⟨b1, o1 + i * 3, none⟩ = some (.string ⟨nm.toArray⟩) ∧ Z.cell? ⟨b1, o1 + i * 3 + 1, none⟩ = some (.slice l1 m l2) ∧ Z.cell? ⟨b1, o1 + i * 3 + 2, none⟩ = some (.slice l3 m l4) from by
       obtain ⟨⟨q1, _⟩, q2, _, _⟩ := HSRC.out Z hZ
       obtain ⟨b', o', c', hv', r0, r1, r2⟩ := strmAt q2 i hp
       cases hv'
       rw [hx] at r0 r1 r2
       exact ⟨q1, r0, r1, r2⟩))
     have HTK := Lib.hid (show xs.take (i + 1) = xs.take i ++ [(nm, Value.slice l1 m l2, Value.slice l3 m l4)] by rw [List.take_succ_eq_append_getElem hp, hx])
     have HLT := Lib.hid (show (xs.take i).length = i by rw [List.length_take]; omega)
     have HI := Lib.hid (And.intro hi hp)
     have HWI := Lib.hid (show wrap64 ((i : Int) + 1) = (i : Int) + 1 from wrap_next hp (Nat.le_trans HNL.out (by decide)))
     have HD5 := Lib.hid (show Below w5.heap.size w5 w5.drew from (Below.refl _ w5).drew)
     have HB8 := Lib.hid (show Below w5.heap.size w5 (w5.drew.alloc (.cells #[.string ⟨nm.toArray⟩, Value.slice l1 m l2, Value.slice l3 m l4] 129)) from HD5.out.alloc HD5.out.size _)
     have HP8 := Lib.hid (HPi.out.next HB8.out)
     have s0 := HSX.out w5.drew (HPi.out.next HD5.out).bel
     have s1 := HSX.out _ HP8.out.bel
     have p0 := (HPi.out.next HD5.out).cells.2.1
     have p8 := HP8.out.cells.2.1
     have p8' := (HPi.out.next (((Below.refl _ w5).alloc (Nat.le_refl _) (.cells #[.string ⟨nm.toArray⟩, Value.slice l1 m l2, Value.slice l3 m l4] 129)).drew)).cells.2.1
     have hx8 := cells_newN w5.drew [.string ⟨nm.toArray⟩, Value.slice l1 m l2, Value.slice l3 m l4] 129
     have HR8 := Lib.hid (hrx.next HB8.out)
     have HSo := Lib.hid (show World.ownsRow _ (pq + 2) 129 3 sv i (strmCells (xs.take i)) from by have := HP8.out.so; rw [HLT.out] at this; exact this)
     clear hx hrx hrw c1 a2 hi
     go_upto_block 1 with fail
     go_cut [] (fun wx => ∃ sv2, Hid (PPr W3 (pq + 2) (pq + 1) w.heap.size app st.f (xs.take (i + 1)) sv2 [] (.slice none 0 0) wx))
     case rest =>
       obtain ⟨sv2, HP9⟩ := hcut
       clear s0 s1 p0 p8 p8' hx8 HSX HP8 HB8 HD5 HR8
       go_wp2
       try rw [HWI.out]
       exact ⟨⟨i + 1, sv2, rfl, by have := HI.out; omega, HP9⟩, by simp [Go.RowKit.intOf]; have := HI.out; omega⟩
     case first =>
       clear a1
       go_upto_region 6 with fail
       obtain ⟨v8, w8, hrun, hown, hgr, _⟩ := run_append_row strm15T _ (pq + 2) 75 sv i (strmCells (xs.take i)) HSo.out _ 1 [.string ⟨nm.toArray⟩, Value.slice l1 m l2, Value.slice l3 m l4] hx8 (by simp [Value.oneCell']) (by have := HLT.out; have := HNL.out; have := HI.out; omega) (by have h8 := (Array.getElem?_eq_some_iff.1 HPi.out.p).1; first | omega | (simp only [World.size_alloc]; omega) | (simp; omega))
       obtain ⟨z1, z2, rfl⟩ := owns_slice hown
       obtain ⟨g1, g2⟩ := HP8.out.grownS hgr
       have hp9 := HP8.out.addS (Below.refl _ _) (nm, Value.slice l1 m l2, Value.slice l3 m l4) (by rw [HLT.out]; exact hown) hgr HR8.out prsT
       have HF := Lib.hid hp9
       have hrun2 : (Builtin.append_ #[75, 75] 75 #[sv, Value.slice (some ⟨w5.heap.size, 0, none⟩) 1 1]).run Tryz.prog ((w5.alloc (.cells #[.string ⟨nm.toArray⟩, Value.slice l1 m l2, Value.slice l3 m l4] 129)).drew) = .ok (.slice z1 (i + 1) z2) w8 := hrun
       simp [go_sem] at hrun2
       clear hown hgr hp9 hrun s1 hx8
       go_region
       all_goals go_wp2
       all_goals go_meet
       all_goals exact ⟨_, Lib.hid (by rw [HTK.out]; exact HF.out)⟩
   · obtain rfl : i = xs.length := by omega
     have HP0 := Lib.hid (show PPr W3 (pq + 2) (pq + 1) w.heap.size app st.f xs sv [] (.slice none 0 0) w5 from by have := HPi.out; rw [List.take_length] at this; exact this)
     clear HPi hi hp c1 hrw
     go_wp2_with fail
     go_loopw [6] (fun iv wr => ∃ (j : Nat) (rv : Value), iv = .int .i64 j ∧ j ≤ rs.length ∧ Hid (PPr W3 (pq + 2) (pq + 1) w.heap.size app st.f xs sv (rs.take j) rv wr)) (fun iv _ => rs.length - (Go.RowKit.intOf iv).toNat)
     case atStart => exact ⟨0, .slice none 0 0, rfl, by omega, Lib.hid (by rw [List.take_zero]; exact HP0.out)⟩
     case round =>
       obtain ⟨j, rv, rfl, hj, HPj⟩ := hrel
       obtain ⟨w6, rfl⟩ : ∃ w6, w6 = wr := ⟨_, rfl⟩
       clear a1 a2
       obtain ⟨⟨a1, a2⟩, _, _, c2⟩ := HSRC.out w6 HPj.out.bel
       by_cases hq : j < rs.length
       · obtain ⟨b1, o1, cc1, hv1, _, _, _, _, _, _⟩ := reqAt c2 j hq
         cases hv1
         obtain ⟨⟨k, q, ⟨oc, op, of, ov⟩⟩, hx⟩ : ∃ x, rs[j] = x := ⟨_, rfl⟩
         have HSX := Lib.hid (fun (Z : World) (hZ : Below W3.heap.size W3 Z) => (show Z.cell? ⟨pq, 2, none⟩ = some (.slice (some ⟨b1, o1, none⟩) rs.length s6) ∧ Z.cell? ⟨b1, o1 + j * 6, none⟩ = some (.int .i64 k) ∧ Z.cell? ⟨b1, o1 + j * 6 + 1, none⟩ = some (.int .i64 q) ∧ Z.cell? ⟨b1, o1 + j * 6 + 2, none⟩ = some (.int .i64 oc) ∧ Z.cell? ⟨b1, o1 + j * 6 + 3, none⟩ = some (.int .i64 op) ∧ Z.cell? ⟨b1, o1 + j * 6 + 4, none⟩ = some (.int .i64 of) ∧ Z.cell? ⟨b1, o1 + j * 6 + 5, none⟩ = some (.int .i64 ov) from by
           obtain ⟨⟨_, q1⟩, _, _, q2⟩ := HSRC.out Z hZ
           obtain ⟨b', o', c', hv', r0, r1, r2, r3, r4, r5⟩ := reqAt q2 j hq
           cases hv'
           rw [hx] at r0 r1 r2 r3 r4 r5
           exact ⟨q1, r0, r1, r2, r3, r4, r5⟩))
         have HTK := Lib.hid (show rs.take (j + 1) = rs.take j ++ [(k, q, ⟨oc, op, of, ov⟩)] by rw [List.take_succ_eq_append_getElem hq, hx])
         have HLT := Lib.hid (show (rs.take j).length = j by rw [List.length_take]; omega)
         have HI := Lib.hid (And.intro hj hq)
         have HWI := Lib.hid (show wrap64 ((j : Int) + 1) = (j : Int) + 1 from wrap_next hq (Nat.le_trans HRL.out (by decide)))
         have HD5 := Lib.hid (show Below w6.heap.size w6 w6.drew from (Below.refl _ w6).drew)
         have HB8 := Lib.hid (show Below w6.heap.size w6 (w6.drew.alloc (.cells #[.int .i64 k, .int .i64 q, .int .i64 oc, .int .i64 op, .int .i64 of, .int .i64 ov] 134)) from HD5.out.alloc HD5.out.size _)
         have HP8 := Lib.hid (HPj.out.next HB8.out)
         have s0 := HSX.out w6.drew (HPj.out.next HD5.out).bel
         have s1 := HSX.out _ HP8.out.bel
         have p0 := (HPj.out.next HD5.out).cells.2.2.1
         have p8 := HP8.out.cells.2.2.1
         have p8' := (HPj.out.next (((Below.refl _ w6).alloc (Nat.le_refl _) (.cells #[.int .i64 k, .int .i64 q, .int .i64 oc, .int .i64 op, .int .i64 of, .int .i64 ov] 134)).drew)).cells.2.2.1
         have hx8 := cells_newN w6.drew [.int .i64 k, .int .i64 q, .int .i64 oc, .int .i64 op, .int .i64 of, .int .i64 ov] 134
         have HSo := Lib.hid (show World.ownsRow _ (pq + 2) 134 6 rv j (reqCells (rs.take j)) from by have := HP8.out.ro; rw [HLT.out] at this; exact this)
         clear hx c2 a1 hj
         go_upto_block 3 with fail
         go_cut [] (fun wx => ∃ rv2, Hid (PPr W3 (pq + 2) (pq + 1) w.heap.size app st.f xs sv (rs.take (j + 1)) rv2 wx))
         case rest =>
           obtain ⟨rv2, HP9⟩ := hcut
           clear s0 s1 p0 p8 p8' hx8 HSX HP8 HB8 HD5
           go_wp2
           try rw [HWI.out]
           exact ⟨⟨j + 1, rv2, rfl, by have := HI.out; omega, HP9⟩, by simp [Go.RowKit.intOf]; have := HI.out; omega⟩
         case first =>
           clear a2
           go_upto_region 10 with fail
           obtain ⟨v8, w8, hrun, hown, hgr, _⟩ := run_append_row req15T _ (pq + 2) 76 rv j (reqCells (rs.take j)) HSo.out _ 1 [.int .i64 k, .int .i64 q, .int .i64 oc, .int .i64 op, .int .i64 of, .int .i64 ov] hx8 (by simp [Value.oneCell']) (by have := HLT.out; have := HRL.out; have := HI.out; omega) (by have h8 := (Array.getElem?_eq_some_iff.1 HPj.out.p).1; first | omega | (simp only [World.size_alloc]; omega) | (simp; omega))
           obtain ⟨z1, z2, rfl⟩ := owns_slice hown
           obtain ⟨g1, g2⟩ := HP8.out.grownR hgr
           have hp9 := HP8.out.addR (Below.refl _ _) (k, q, ⟨oc, op, of, ov⟩) (by rw [HLT.out]; exact hown) hgr prrT
           have HF := Lib.hid hp9
           have hrun2 : (Builtin.append_ #[76, 76] 76 #[rv, Value.slice (some ⟨w6.heap.size, 0, none⟩) 1 1]).run Tryz.prog ((w6.alloc (.cells #[.int .i64 k, .int .i64 q, .int .i64 oc, .int .i64 op, .int .i64 of, .int .i64 ov] 134)).drew) = .ok (.slice z1 (j + 1) z2) w8 := hrun
           simp [go_sem] at hrun2
           clear hown hgr hp9 hrun s1 hx8
           go_region
           all_goals go_wp2
           all_goals go_meet
           all_goals exact ⟨_, Lib.hid (by rw [HTK.out]; exact HF.out)⟩
       · obtain rfl : j = rs.length := by omega
         have HP9 := Lib.hid (show PPr W3 (pq + 2) (pq + 1) w.heap.size app st.f xs sv rs rv w6 from by have := HPj.out; rw [List.take_length] at this; exact this)
         obtain ⟨y1, y2, rfl⟩ := owns_slice HP9.out.so
         obtain ⟨y3, y4, rfl⟩ := owns_slice HP9.out.ro
         obtain ⟨p0, p1, p2, _, _⟩ := HP9.out.cells
         obtain ⟨f1, f2, f3⟩ := HP9.out.fin (by decide)
         have hbb : Below w.heap.size w w6 := HBW.out.trans (HP9.out.bel.mono HBW.out.size)
         have f3 := hbb.grown f3 hbb.size (fun j hj => by cases hj; exact Nat.le_refl _)
         have r0 : w6.cell? ⟨w.heap.size, 0, none⟩ = some (.int .i64 0) := by rw [Lib.cell_of_heap HP9.out.r]; rfl
         have r1 : w6.cell? ⟨w.heap.size, 1, none⟩ = some (.slice none 0 0) := by rw [Lib.cell_of_heap HP9.out.r]; rfl
         have r2 : w6.cell? ⟨w.heap.size, 2, none⟩ = some (.slice none 0 0) := by rw [Lib.cell_of_heap HP9.out.r]; rfl
         have g0 := Lib.frozen_of_heap HP9.out.r 0
         have g1 := Lib.frozen_of_heap HP9.out.r 1
         have g2 := Lib.frozen_of_heap HP9.out.r 2
         have HF1 := Lib.hid f1
         have HF2 := Lib.hid (And.intro f2 f3)
         clear f1 f2 f3 hj hq HPj hbb c2
         go_wp2
         refine bodyPost_ret (results_cellOne rfl _ _ w.heap.size _ _ _ _ rfl HF1.out Tryz.underlying78 rfl parts15_size) rfl ?_
         refine ⟨_, _, ns, ks, qf, rfl, HPR, Lib.hid ?_, HF2.out.2⟩
         have := HF2.out.1
         rw [HX1.out] at this
         rw [HRS.out]
         exact this
def QB (L : List (Nat × Obj)) : (Nat → Prop) → World → Prop := fun X w => ∀ p ∈ L, w.heap[p.1]? = some p.2 ∧ ¬ X p.1
theorem keptQ_b (L : List (Nat × Obj)) : KeptQ (QB L) := by
 intro T X X' w w' h ht ht2 hx p hp
 obtain ⟨h1, h2⟩ := h p hp
 have hlt := (Array.getElem?_eq_some_iff.1 h1).1
 refine ⟨(ht.block p.1 hlt (fun e => h2 (ht2 _ e))).trans h1, fun e => ?_⟩
 rcases hx p.1 e with e | e
 · exact h2 e
 · omega
section
variable {Q : (Nat → Prop) → World → Prop} {a w w' : World} {r lg d sb r2 lg2 d2 sb2 : Nat} {room room2 : Int} {s s2 : Lg.S} {fs fs2 : List Dk.File} {st st2 : Stat} {BL : List (Nat × Obj)}
theorem RR.dbB {ft : Nat → Prop} (h : RR (DB room2 d2 ft (QB BL)) [] a r lg d sb room s fs st w) : ∀ p ∈ BL, w.heap[p.1]? = some p.2 := by
 obtain ⟨TL, TS, X, h, hd, hf, hq⟩ := h
 exact fun p hp => (hq p hp).1
theorem RR.besideB (h : RR (Beside a r2 lg2 d2 sb2 room2 s2 fs2 st2 (QB BL)) [] a r lg d sb room s fs st w) : ∀ p ∈ BL, w.heap[p.1]? = some p.2 := by
 obtain ⟨TL, TS, X, h, TL2, TS2, h2, hd, hq⟩ := h
 exact fun p hp => (hq p hp).1
theorem repState_any {R : (Nat → Prop) → (Nat → Prop) → World → Prop} {J : List (Nat × Obj)} (h : RR R J a r lg d sb room s fs st w) (hn : st.n ≤ 400) (hm : st.m ≤ 400) :
   Calls Tryz.prog 27 #[.pointer (some ⟨r, 0, none⟩)] w fun e w' => ∃ c, e = .returned (.pointer (some ⟨c, 0, none⟩)) ∧ Hid (IsC w' c st) ∧ Below w.heap.size w w' := by
 have h0 := h
 obtain ⟨TL, TS, X, hr, _⟩ := h
 exact repState_of (P := fun c w' => IsC w' c st) h0 (stateClone_any sb st TS w hr.sta (by omega) (by omega))
theorem rows17 {J : List (Nat × Obj)} {v1 v2 : Value} {q1 q2 : List EnX} (h : RR (WithRow (Beside a r2 lg2 d2 sb2 room2 s2 fs2 st2 (QRow Q v1 q1)) v2 q2) J a r lg d sb room s fs st w) : Ents w v1 q1 ∧ Ents w v2 q2 ∧ RR (Beside a r2 lg2 d2 sb2 room2 s2 fs2 st2 Q) J a r lg d sb room s fs st w := by
 obtain ⟨TL, TS, X, hx, ⟨TL2, TS2, h2, hd, hq, hq2⟩, ha⟩ := h
 exact ⟨hq2.ents, ha.ents, TL, TS, X, hx, TL2, TS2, h2, hd, hq⟩
theorem IsC.lens {c : Nat} (h : IsC w c st) (k : List UInt8) : (st.f k).length ≤ st.n + st.n := by
 obtain ⟨x, t, fx, fq, _, ⟨bm, D, g, ev, hM⟩, _⟩ := h
 exact (hM.2.2.2.2.2.1 k).2.1
end
theorem Stat.Ok.plays : ∀ (M : List Evt.Entry) {st : Stat}, st.Ok → (st.plays M).2.Ok
 | [], _, h => h
 | e :: l, _, h => Stat.Ok.plays l (h.apply e).1
theorem plays_bounds {M : List Evt.Entry} (hM : Evt.follows M 0 0 = true) (hl : M.length ≤ 40) : (Stat.new.plays M).2.n ≤ 400 ∧ (Stat.new.plays M).2.m ≤ 400 ∧ SOk (Stat.new.plays M).2.S := by
 have h := Stat.Ok.plays M Stat.ok_new
 have ha := Stat.plays_full M Stat.new 0 hM
 have h0 : Stat.new.app = 0 := rfl
 have hn := h.n
 have hm := h.m
 exact ⟨by omega, by omega, h.s⟩
def LM1 (a : World) (ra lga da sba rb lgb db sbb : Nat) (Q : (Nat → Prop) → World → Prop) (i : Nat) (w : World) : Prop :=
 ∃ es fs next nums L, Hid (InvM 0 es fs next nums L i i) ∧ Hid (Two a ra lga da sba rb lgb db sbb Q (Lg.stateOf next nums L) (Lg.stateOf 1 [] []) fs [] w)
def LM2 (a : World) (ra lga da sba rb lgb db sbb : Nat) (Q : (Nat → Prop) → World → Prop) (sA : Lg.S) (fA : List Dk.File) (i : Nat) (w : World) : Prop :=
 ∃ es fs next nums M, Hid (InvM 1 es fs next nums M i i) ∧ Hid (Two a ra lga da sba rb lgb db sbb Q sA (Lg.stateOf next nums M) fA fs w)
theorem marks_len17 {L : List Evt.Entry} : (Mk.marks L).length ≤ L.length := Mk.marks_len _ none
end Go.Proofs.YtgddgipjpdjoaaaGreatDoor
namespace Go.Proofs.YtgddgipjpdjoaaaGreatDoor
open Go.RowKit Go.Shelf
set_option maxHeartbeats 32000000 in
set_option maxRecDepth 100000 in
theorem replicaMeets_any (v : Value) (ps : List Act17X) (u : Value) (qs : List Act17X) (w : World) (hE : Env w) (hs : Acts17R w v ps) (hu : Acts17R w u qs) :
   Calls Tryz.prog 5 #[v, u] w fun e w' => e = .returned (.bool true) ∧ Below w.heap.size w w' := by
 obtain ⟨aa, ac, rfl⟩ := cells_lenC hs.1
 obtain ⟨oa, oc, rfl⟩ := cells_lenC hu.1
 have HS := Lib.hid (shown17_any w hE)
 have HE := Lib.hid hE
 have HA := Lib.hid hs
 have HU := Lib.hid hu
 clear hE hs hu
 go_enter Tryz.func5, Tryz.ntmps5
 go_wp2_with fail
 refine HS.out.mono ?_
 rintro e w0 ⟨rfl, b0⟩
 have HSM := Lib.hid (small17_any (.slice aa ps.length ac) ps w0 (HA.out.next b0))
 have HB0 := Lib.hid b0
 clear HS b0
 go_wp2_with fail
 refine HSM.out.mono ?_
 rintro e w1 ⟨rfl, b1⟩
 have HB1 := Lib.hid (Below.up HB0.out (Nat.le_refl _) b1)
 have HSM2 := Lib.hid (small17_any (.slice oa qs.length oc) qs w1 (HU.out.next HB1.out))
 clear HSM HB0 b1
 go_wp2_with fail
 refine HSM2.out.mono ?_
 rintro e wA ⟨rfl, b1⟩
 have HB2 := Lib.hid (Below.up HB1.out (Nat.le_refl _) b1)
 have HBG := Lib.hid (begun17_any 1048576 wA (by decide) (by decide))
 clear HSM2 HB1 b1
 go_wp2_with fail
 refine HBG.out.mono ?_
 rintro e w2 ⟨d, m, ft, rfl, hd, hft, hm1, hm2, hm3, b2⟩
 obtain ⟨W, hW⟩ : ∃ W, w2.alloc (.cells #[.pointer (some ⟨d, 0, none⟩), .pointer (some ⟨m, 0, none⟩)] 28) = W := ⟨_, rfl⟩
 have bp : Below w2.heap.size w2 W := by rw [← hW]; exact (Below.refl _ _).alloc (Nat.le_refl _) _
 have hP : PB17 w2.heap.size (.pointer (some ⟨d, 0, none⟩)) (.pointer (some ⟨m, 0, none⟩)) W := by rw [← hW]; exact heap_alloc_new w2 _
 have hbW : Below w.heap.size w W := Below.up (Below.up HB2.out (Nat.le_refl _) b2) (Nat.le_refl _) bp
 have hs2 : w2.heap.size < W.heap.size := by rw [← hW]; simp
 have hml : m < w2.heap.size := (Array.getElem?_eq_some_iff.1 hm1).1
 have HF1 := Lib.hid (And.intro hP (And.intro (hd.next bp) (And.intro (show ∀ j, ft j → w.heap.size ≤ j ∧ j < w2.heap.size from fun j hj => ⟨Nat.le_trans HB2.out.size (hft j hj).1, (hft j hj).2⟩) (And.intro hbW (And.intro hs2 (And.intro (hm1.next bp) (And.intro hm2 hml)))))))
 have HBG2 := Lib.hid (begun17_any 1048576 W (by decide) (by decide))
 have HW := Lib.hid hW
 clear HBG hd hft b2 bp hP hbW hs2 hW hm1 hm2 hm3 hml
 go_wp2_with fail
 try rw [HW.out]
 refine HBG2.out.mono ?_
 rintro e w3 ⟨d2, m2, ft2, rfl, hd2, hft2, hn1, hn2, hn3, b3⟩
 obtain ⟨W2, hW2⟩ : ∃ W2, w3.alloc (.cells #[.pointer (some ⟨d2, 0, none⟩), .pointer (some ⟨m2, 0, none⟩)] 28) = W2 := ⟨_, rfl⟩
 have bp : Below w3.heap.size w3 W2 := by rw [← hW2]; exact (Below.refl _ _).alloc (Nat.le_refl _) _
 have hP2 : PB17 w3.heap.size (.pointer (some ⟨d2, 0, none⟩)) (.pointer (some ⟨m2, 0, none⟩)) W2 := by rw [← hW2]; exact heap_alloc_new w3 _
 obtain ⟨hP, hd, hft, hbW, hs2, hm1, hm2, hml⟩ := HF1.out
 have hb3 := b3.size
 have hbp := bp.size
 have hbw := hbW.size
 have hnl : m2 < w3.heap.size := (Array.getElem?_eq_some_iff.1 hn1).1
 have hbW2 : Below w.heap.size w W2 := Below.up (Below.up hbW (Nat.le_refl _) b3) (Nat.le_refl _) bp
 have hP3 := (hP.next b3).next bp
 have c0 := hP3.cells.1
 obtain ⟨BL, hBL⟩ : ∃ BL : List (Nat × Obj), BL = [(w2.heap.size, .cells #[.pointer (some ⟨d, 0, none⟩), .pointer (some ⟨m, 0, none⟩)] 28 (0, 0)), (m, .cells #[.slice none 0 0, .int .i64 1048576] 155 (0, 0)), (w3.heap.size, .cells #[.pointer (some ⟨d2, 0, none⟩), .pointer (some ⟨m2, 0, none⟩)] 28 (0, 0)), (m2, .cells #[.slice none 0 0, .int .i64 1048576] 155 (0, 0))] := ⟨_, rfl⟩
 have hQB : QB BL (fun j => ft j ∨ ft2 j) W2 := by
   intro p hp
   rw [hBL] at hp
   simp only [List.mem_cons, List.not_mem_nil, or_false] at hp
   rcases hp with rfl | rfl | rfl | rfl
   · refine ⟨hP3, fun e => ?_⟩
     rcases e with e | e
     · have := hft _ e; simp only at this; omega
     · have := hft2 _ e; simp only at this; omega
   · refine ⟨(hm1.next b3).next bp, fun e => ?_⟩
     rcases e with e | e
     · exact hm2 e
     · have := hft2 _ e; simp only at this; omega
   · refine ⟨hP2, fun e => ?_⟩
     rcases e with e | e
     · have := hft _ e; simp only at this; omega
     · have := hft2 _ e; simp only at this; omega
   · refine ⟨hn1.next bp, fun e => ?_⟩
     rcases e with e | e
     · have := hft _ e; simp only at this; omega
     · exact hn2 e
 have HO := Lib.hid (repOpen_new (R := DB 1048576 d2 ft2 (QB BL)) (a := w) (X := fun j => ft j ∨ ft2 j) (ft := ft) ⟨HE.out, hbW2, fun j hj => (hft j hj).1⟩ ((hd.next b3).next bp)
   (fun j hj => by
     rcases hj with hj | hj
     · have := hft j hj; exact ⟨by omega, by omega⟩
     · have := hft2 j hj; exact ⟨by omega, by omega⟩) (fun j hj => .inl hj) (by decide) (stable2_db (keptQ_b BL))
   ⟨hd2.next bp, fun j hj => ⟨.inr hj, fun e => by have := hft j e; have := hft2 j hj; omega, by have := hft2 j hj; omega⟩, hQB⟩)
 have HBW2 := Lib.hid hbW2
 have HW2 := Lib.hid hW2
 have HL1 := Lib.hid (show (w2.heap.size, Obj.cells #[.pointer (some ⟨d, 0, none⟩), .pointer (some ⟨m, 0, none⟩)] 28 (0, 0)) ∈ BL by rw [hBL]; simp)
 have HL2 := Lib.hid (show (m, Obj.cells #[.slice none 0 0, .int .i64 1048576] 155 (0, 0)) ∈ BL by rw [hBL]; simp)
 have HL3 := Lib.hid (show (w3.heap.size, Obj.cells #[.pointer (some ⟨d2, 0, none⟩), .pointer (some ⟨m2, 0, none⟩)] 28 (0, 0)) ∈ BL by rw [hBL]; simp)
 have HL4 := Lib.hid (show (m2, Obj.cells #[.slice none 0 0, .int .i64 1048576] 155 (0, 0)) ∈ BL by rw [hBL]; simp)
 rw [← hW2] at c0
 clear HBG2 HF1 hd2 hft2 b3 bp hP2 hP hd hft hbW hs2 hb3 hbp hbw hbW2 hW2 HW hP3 hBL hQB hm1 hm2 hml hn1 hn2 hn3 hnl
 cases hsm : small17L ps with
 | false =>
   clear hsm c0 HO
   go_wp2
   go_ret
   try rw [HW2.out]
   exact ⟨rfl, HBW2.out⟩
 | true =>
  cases hsm2 : small17L qs with
  | false =>
   clear hsm hsm2 c0 HO
   go_wp2
   go_ret
   try rw [HW2.out]
   exact ⟨rfl, HBW2.out⟩
  | true =>
   have HSL := Lib.hid (small17_facts hsm)
   have HSL2 := Lib.hid (small17_facts hsm2)
   clear hsm hsm2
   go_wp2_with fail
   try rw [HW2.out]
   refine HO.out.mono ?_
   rintro e w4 ⟨ra, lga, sba, rfl, h4⟩
   have c1 : w4.cell? ⟨w2.heap.size, 1, none⟩ = some (.pointer (some ⟨m, 0, none⟩)) := by rw [Lib.cell_of_heap (h4.dbB _ HL1.out)]; rfl
   have HR1 := Lib.hid (ref17Open_new (m := m) (room := 1048576) (w := w4) (h4.dbB _ HL2.out))
   have H4 := Lib.hid h4
   clear HO h4 HW2 HBW2 c0
   go_wp2_with fail
   refine HR1.out.mono ?_
   rintro e w5 ⟨rm, rfl, b5⟩
   have h5 := H4.out.next (stable2_db (keptQ_b BL)) b5
   have c0 : w5.cell? ⟨w3.heap.size, 0, none⟩ = some (.pointer (some ⟨d2, 0, none⟩)) := by rw [Lib.cell_of_heap (h5.dbB _ HL3.out)]; rfl
   have HO2 := Lib.hid (repOpen_second h5 (keptQ_b BL) HE.out (by decide))
   clear HR1 H4 b5 h5 c1
   go_wp2_with fail
   refine HO2.out.mono ?_
   rintro e w6 ⟨rb, lgb, sbb, rfl, h6⟩
   have c1 : w6.cell? ⟨w3.heap.size, 1, none⟩ = some (.pointer (some ⟨m2, 0, none⟩)) := by rw [Lib.cell_of_heap (h6.besideB _ HL3.out)]; rfl
   have HR2 := Lib.hid (ref17Open_new (m := m2) (room := 1048576) (w := w6) (h6.besideB _ HL4.out))
   have H6 := Lib.hid h6.swap
   clear HO2 h6 c0
   go_wp2_with fail
   refine HR2.out.mono ?_
   rintro e w7 ⟨rn, rfl, b7⟩
   obtain ⟨Q, hQ⟩ : ∃ Q, QB BL = Q := ⟨_, rfl⟩
   have HQ := Lib.hid (show KeptQ Q by rw [← hQ]; exact keptQ_b _)
   rw [hQ] at H6
   have H7 := Lib.hid (H6.out.next (stable2_beside HQ.out) b7)
   clear HR2 H6 b7 c1 hQ HL1 HL2 HL3 HL4
   go_wp2_with fail
   go_loopw [20] (fun iv wr => ∃ i : Nat, iv = .int .i64 i ∧ i ≤ ps.length ∧ LM1 w ra lga d sba rb lgb d2 sbb Q i wr) (fun iv _ => ps.length - (Go.RowKit.intOf iv).toNat)
   case atStart => exact ⟨0, rfl, by omega, [], [], 1, [], [], Lib.hid (invM_start 0), H7⟩
   case round =>
     obtain ⟨i, rfl, hi, hL1⟩ := hrel
     obtain ⟨wq, rfl⟩ : ∃ wq, wq = wr := ⟨_, rfl⟩
     clear H7
     by_cases hp : i < ps.length
     · obtain ⟨es, fs, next, nums, L, HI, HT⟩ := hL1
       obtain ⟨⟨⟨o, n, m3, s, ex, se, sq, bes, al, ks⟩, ev, lv, kv⟩, hx⟩ : ∃ x, ps[i] = x := ⟨_, rfl⟩
       have hi40 : i < 40 := by have := HSL.out.1; omega
       obtain ⟨b, f, c, hv, k0, k1, k2, k3, k4, k5, k6, k7, k8, k9, hact⟩ := act17At (HA.out.next (RR.below HT.out)) i hp hx
       cases hv
       have hact0 := HA.out.2 ps[i] (List.getElem_mem hp)
       have hsm := HSL.out.2 ps[i] (List.getElem_mem hp)
       rw [hx] at hact0 hsm
       have HPR := Lib.hid (propose17_any (n := n) (m := m3) (ex := ex) (se := se) (sq := sq) (ev := ev) (lv := lv) (kv := kv) HT.out (stable2_beside HQ.out) HI.out (by omega) (.inl rfl) hact.2.2.2.1 (by have := hsm.1; simp only at this; omega) hact0.2.2.1 (by have := hsm.2.1; simp only at this; omega) hsm.2.2)
       have HIP := Lib.hid (And.intro hi (And.intro hp hi40))
       have HWI := Lib.hid (show wrap64 ((i : Int) + 1) = (i : Int) + 1 from IntWalk.wrap64_in _ (by omega))
       clear hact hact0 hsm hx hi40 HI HT
       go_wp2_with fail
       refine HPR.out.mono ?_
       rintro e w8 ⟨rfl, es2, f2, n2, u2, L2, HI2, HT2⟩
       clear HPR k0 k1 k2 k3 k4 k5 k6 k7 k8 k9
       go_wp2
       try rw [HWI.out]
       exact ⟨⟨i + 1, rfl, HIP.out.2.1, es2, f2, n2, u2, L2, HI2, HT2⟩, round_less17 HIP.out.2.1⟩
     · obtain ⟨es, fs, next, nums, L, HI, HT⟩ := hL1
       have hip : i = ps.length := by omega
       have HN := Lib.hid (show L.length ≤ 40 ∧ i ≤ 40 from ⟨by have := HI.out.n; have := HSL.out.1; omega, by have := HSL.out.1; omega⟩)
       have HLA := Lib.hid (show Calls Tryz.prog 13 #[.pointer (some ⟨ra, 0, none⟩)] wq (fun e w' => e = .returned (.int .i64 (L.length : Int)) ∧ w' = wq) from by
         refine (repLast_any HT.out).mono ?_
         rintro e wz ⟨rfl, rfl⟩
         exact ⟨rfl, rfl⟩)
       have hpi : ¬ (i : Int) < (ps.length : Int) := by omega
       clear hip hi hp
       go_wp2_with fail
       refine HLA.out.mono ?_
       rintro e w8 ⟨rfl, rfl⟩
       clear HLA hpi
       go_wp2_with fail
       go_loopw [22] (fun iv wx => ∃ j : Nat, iv = .int .i64 j ∧ j ≤ qs.length ∧ LM2 w ra lga d sba rb lgb d2 sbb Q (Lg.stateOf next nums L) fs j wx) (fun iv _ => qs.length - (Go.RowKit.intOf iv).toNat)
       case atStart => exact ⟨0, rfl, by omega, [], [], 1, [], [], Lib.hid (invM_start 1), HT⟩
       case round =>
         obtain ⟨j, rfl, hj, hL2⟩ := hrel
         obtain ⟨wy, rfl⟩ : ∃ wy, wy = wr := ⟨_, rfl⟩
         clear HT
         by_cases hq : j < qs.length
         · obtain ⟨es1, f1, n1, u1, M, HJ, HT⟩ := hL2
           obtain ⟨⟨⟨o, n, m3, s, ex, se, sq, bes, al, ks⟩, ev, lv, kv⟩, hx⟩ : ∃ x, qs[j] = x := ⟨_, rfl⟩
           have hi40 : j < 40 := by have := HSL2.out.1; omega
           obtain ⟨b, f, c, hv, k0, k1, k2, k3, k4, k5, k6, k7, k8, k9, hact⟩ := act17At (HU.out.next (RR.below HT.out)) j hq hx
           cases hv
           have hact0 := HU.out.2 qs[j] (List.getElem_mem hq)
           have hsm := HSL2.out.2 qs[j] (List.getElem_mem hq)
           rw [hx] at hact0 hsm
           have HPR := Lib.hid (propose17_any (n := n) (m := m3) (ex := ex) (se := se) (sq := sq) (ev := ev) (lv := lv) (kv := kv) HT.out.swap (stable2_beside HQ.out) HJ.out (by omega) (.inr rfl) hact.2.2.2.1 (by have := hsm.1; simp only at this; omega) hact0.2.2.1 (by have := hsm.2.1; simp only at this; omega) hsm.2.2)
           have HIP := Lib.hid (And.intro hj (And.intro hq hi40))
           have HWI := Lib.hid (show wrap64 ((j : Int) + 1) = (j : Int) + 1 from IntWalk.wrap64_in _ (by omega))
           clear hact hact0 hsm hx hi40 HJ HT
           go_wp2_with fail
           refine HPR.out.mono ?_
           rintro e w8 ⟨rfl, es2, f2, n2, u2, L2, HI2, HT2⟩
           clear HPR k0 k1 k2 k3 k4 k5 k6 k7 k8 k9
           go_wp2
           try rw [HWI.out]
           exact ⟨⟨j + 1, rfl, HIP.out.2.1, es2, f2, n2, u2, L2, HI2, Lib.hid (RR.swap HT2.out)⟩, round_less17 HIP.out.2.1⟩
         · obtain ⟨es1, f1, n1, u1, M, HJ, HT⟩ := hL2
           have HM := Lib.hid (show M.length ≤ 40 ∧ j ≤ 40 ∧ Evt.follows M 0 0 = true from ⟨by have := HJ.out.n; have := HSL2.out.1; omega, by have := HSL2.out.1; omega, HJ.out.h.fol⟩)
           have hpi : ¬ (j : Int) < (qs.length : Int) := by omega
           have HMA := Lib.hid (repMarks_any HT.out (by show L.length ≤ 1000000; have := HN.out.1; omega))
           clear hj hq
           go_wp2_with fail
           refine HMA.out.mono ?_
           rintro e w9 ⟨V1, rfl, HV1, b9⟩
           have HT9 := Lib.hid (RR.next HT.out (stable2_beside HQ.out) b9)
           have HLA := Lib.hid (show Calls Tryz.prog 13 #[.pointer (some ⟨ra, 0, none⟩)] w9 (fun e w' => e = .returned (.int .i64 (L.length : Int)) ∧ w' = w9) from by
             refine (repLast_any HT9.out).mono ?_
             rintro e wz ⟨rfl, rfl⟩
             exact ⟨rfl, rfl⟩)
           clear HMA b9 hpi
           go_wp2_with fail
           refine HLA.out.mono ?_
           rintro e w10 ⟨rfl, rfl⟩
           have HMB := Lib.hid (repMarks_any HT9.out.swap (by show M.length ≤ 1000000; have := HM.out.1; omega))
           clear HLA
           go_wp2_with fail
           refine HMB.out.mono ?_
           rintro e w11 ⟨V2, rfl, HV2, b11⟩
           have HT11 := Lib.hid (RR.next HT9.out (stable2_beside HQ.out) b11)
           have HC1 := Lib.hid (owns_next HV1.out b11)
           have HLB := Lib.hid (show Calls Tryz.prog 13 #[.pointer (some ⟨rb, 0, none⟩)] w11 (fun e w' => e = .returned (.int .i64 (M.length : Int)) ∧ w' = w11) from by
             refine (repLast_any HT11.out.swap).mono ?_
             rintro e wz ⟨rfl, rfl⟩
             exact ⟨rfl, rfl⟩)
           clear HMB b11
           go_wp2_with fail
           refine HLB.out.mono ?_
           rintro e w12 ⟨rfl, rfl⟩
           obtain ⟨va1, vc1, hv1⟩ := owns_slice HC1.out
           obtain ⟨va2, vc2, hv2⟩ := owns_slice HV2.out
           obtain ⟨g1, g2⟩ := fork_facts HI.out HJ.out (by decide)
           have HFK := Lib.hid (recordFork_zero va1 va2 vc1 vc2 L.length M.length (Mk.marks L) (Mk.marks M) w12 (by have := cells_of_owns HC1.out; rw [hv1] at this; exact this) (by have := cells_of_owns HV2.out; rw [hv2] at this; exact this)
             (by have := marks_len17 (L := L); have := HN.out.1; omega) (by have := marks_len17 (L := M); have := HM.out.1; omega) (by have := HN.out.1; omega) (by have := HM.out.1; omega) g1 g2)
           have hv1 : V1 = .slice va1 (Mk.marks L).length vc1 := hv1
           have hv2 : V2 = .slice va2 (Mk.marks M).length vc2 := hv2
           rw [hv1, hv2]
           clear HLB g1 g2 hv1 hv2 HC1 HV2
           go_wp2_with fail
           refine HFK.out.mono ?_
           rintro e w13 ⟨rfl, b13⟩
           have HT13 := Lib.hid (RR.next HT11.out (stable2_beside HQ.out) b13)
           have HR1 := Lib.hid (repRange_any 1 1000 (RR.swap HT13.out) (stable2_beside HQ.out) (by show M.length ≤ 1000000; have := HM.out.1; omega))
           clear HFK b13 HV1
           go_wp2_with fail
           refine HR1.out.mono ?_
           rintro e w14 ⟨ga, q1, gc, rfl, hpl1, hcap, hrr1, b14⟩
           have hpl := hpl1.out.trans (show rangeR 1 1000 (Lg.stateOf n1 u1 M).es = M from Lg.range_all (show ((M.length : Nat) : Int) ≤ 1000 by have := HM.out.1; omega))
           obtain ⟨f9, n9, u9, p1, p2⟩ := accept_all HI.out HJ.out (by decide) HN.out.2 HM.out.2.1
           have hql : q1.length = M.length := by have := congrArg List.length hpl; rw [plainE_len17] at this; exact this
           have HAC := repAccept_any (c := 0) (prev := 0) (pe := 0) (hrr1.out.rowIn.swap.rowOut) (stable2_beside HQ.out) (by decide) (Lg.hold_bk HI.out.h q1.length (by rw [hql]; have := HN.out; have := HM.out.1; have := HI.out.x; omega)) hcap (by have := HM.out.1; omega) (by decide) (by decide) (by rw [hpl]; exact p1)
           have HAC := Lib.hid HAC
           have HP2 := Lib.hid p2
           clear HR1 hrr1 b14 hpl hql p1 p2 hpl1
           go_wp2_with fail
           refine HAC.out.mono ?_
           rintro e w15 ⟨rfl, h15⟩
           have H15 := Lib.hid h15
           have HLB := Lib.hid (show Calls Tryz.prog 13 #[.pointer (some ⟨rb, 0, none⟩)] w15 (fun e w' => e = .returned (.int .i64 (M.length : Int)) ∧ w' = w15) from by
             refine (repLast_any h15.swap).mono ?_
             rintro e wz ⟨rfl, rfl⟩
             exact ⟨rfl, rfl⟩)
           clear HAC h15
           go_wp2_with fail
           refine HLB.out.mono ?_
           rintro e w16 ⟨rfl, rfl⟩
           clear HLB
           by_cases hM0 : M = []
           · have hml : M.length = 0 := by rw [hM0]; rfl
             have HLA := Lib.hid (show Calls Tryz.prog 13 #[.pointer (some ⟨ra, 0, none⟩)] w16 (fun e w' => e = .returned (.int .i64 (L.length : Int)) ∧ w' = w16) from by
               refine (repLast_any H15.out).mono ?_
               rintro e wz ⟨rfl, rfl⟩
               exact ⟨by rw [if_pos hM0]; rfl, rfl⟩)
             rw [hml]
             clear hM0 hml
             go_wp2_with fail
             refine HLA.out.mono ?_
             rintro e w17 ⟨rfl, rfl⟩
             clear HLA
             go_wp2
             go_ret
             exact ⟨rfl, RR.below H15.out⟩
           · have hml : ¬ ((M.length : Int) = 0) := by
               intro e
               exact hM0 (List.length_eq_zero_iff.1 (by omega))
             have h15 := H15.out
             rw [if_neg hM0] at h15
             have hmf := HM.out.2.2
             have hmc := HM.out.1
             have hbk : ∀ k, k ≤ M.length → (Stat.new.plays ((advL Stat.new 1000 M).take k)).2.app ≤ 400000 := fun k _ => by
               have h1 := Stat.plays_app ((advL Stat.new 1000 M).take k) Stat.new
               have h2 : ((advL Stat.new 1000 M).take k).length ≤ M.length := by rw [adv_take, List.length_take, List.length_take]; omega
               have h3 : Stat.new.app = 0 := rfl
               omega
             have HAD := repAdvance_any 1000 h15 (stable2_beside HQ.out) (by show M.length ≤ 300000; omega) (fun p hp => by cases hp) (by decide) ⟨by decide, by decide⟩ hbk
             rw [show (Lg.stateOf n9 u9 M).es = M from rfl, show advL Stat.new 1000 M = M by rw [adv_take]; exact List.take_of_length_le (by show M.length ≤ 1000; omega)] at HAD
             obtain ⟨st1, hst⟩ : ∃ st1, (Stat.new.plays M).2 = st1 := ⟨_, rfl⟩
             have hpb := plays_bounds hmf hmc
             rw [hst] at HAD hpb
             have HAD := Lib.hid HAD
             have HPB := Lib.hid hpb
             have HST := Lib.hid hst
             have HBK := Lib.hid hbk
             clear hM0 h15 hmf hbk hst hpb H15 HP2 hmc
             go_wp2_with fail
             refine HAD.out.mono ?_
             rintro e w17 ⟨xa, xc, dn, rfl, hdn, h17⟩
             have hdl : dn.length = M.length := by
               have h9 := congrArg List.length hdn.out
               rw [List.length_map, Stat.plays_len] at h9
               exact h9
             rw [hdl]
             have HAD2 := repAdvance_any 1000 h17.swap (stable2_beside HQ.out) (by show M.length ≤ 300000; have := HM.out.1; omega) (fun p hp => by cases hp) (by decide) ⟨by decide, by decide⟩ HBK.out
             rw [show (Lg.stateOf n1 u1 M).es = M from rfl, show advL Stat.new 1000 M = M by rw [adv_take]; exact List.take_of_length_le (by show M.length ≤ 1000; have := HM.out.1; omega), HST.out] at HAD2
             have HAD2 := Lib.hid HAD2
             clear HAD hdn h17 hdl
             go_wp2_with fail
             refine HAD2.out.mono ?_
             rintro e w18 ⟨ya, yc, dm, rfl, hdn, h18⟩
             have hdl : dm.length = M.length := by
               have h9 := congrArg List.length hdn.out
               rw [List.length_map, Stat.plays_len] at h9
               exact h9
             rw [hdl]
             have HR1 := Lib.hid (repRange_any 1 1000 h18.swap (stable2_beside HQ.out) (by show M.length ≤ 1000000; have := HM.out.1; omega))
             clear HAD2 hdn h18 hdl HBK
             go_wp2_with fail
             refine HR1.out.mono ?_
             rintro e w19 ⟨ga, q1, gc, rfl, hpl1, _, hrr1, b19⟩
             have hra : rangeR 1 1000 M = M := Lg.range_all (show ((M.length : Nat) : Int) ≤ 1000 by have := HM.out.1; omega)
             have hpl1 := Lib.hid (hpl1.out.trans hra)
             have HR2 := Lib.hid (repRange_any 1 1000 hrr1.out.rowIn.swap (stable2_beside (keptQ_row HQ.out _ _)) (by show M.length ≤ 1000000; have := HM.out.1; omega))
             clear HR1 hrr1 b19
             go_wp2_with fail
             refine HR2.out.mono ?_
             rintro e w20 ⟨ga2, q2, gc2, rfl, hpl2, _, hrr2, b20⟩
             have hpl2 := Lib.hid (hpl2.out.trans hra)
             obtain ⟨hE1, hE2, hT3⟩ := rows17 hrr2.out
             have HT3 := Lib.hid hT3
             have HSR := Lib.hid (sameRow6_any (.slice ga q1.length gc) (.slice ga2 q2.length gc2) q1 q2 w20 hE1 hE2 (hpl1.out.trans hpl2.out.symm) (by have h1 := congrArg List.length hpl1.out; rw [plainE_len17] at h1; have := HM.out.1; omega))
             clear HR2 hrr2 b20 hE1 hE2 hT3 hpl1 hpl2 hra
             go_wp2_with fail
             refine HSR.out.mono ?_
             rintro e w21 ⟨rfl, b21⟩
             have H21 := Lib.hid (RR.next HT3.out (stable2_beside HQ.out) b21)
             have HS1 := Lib.hid (repState_any H21.out.swap HPB.out.1 HPB.out.2.1)
             clear HSR HT3 b21
             go_wp2_with fail
             refine HS1.out.mono ?_
             rintro e w22 ⟨c1, rfl, _, b22⟩
             have H22 := Lib.hid (RR.next H21.out (stable2_beside HQ.out) b22)
             have HS2 := Lib.hid (repState_any H22.out HPB.out.1 HPB.out.2.1)
             clear HS1 b22
             go_wp2_with fail
             refine HS2.out.mono ?_
             rintro e w23 ⟨c2, rfl, _, b23⟩
             have H23 := Lib.hid (RR.next H22.out (stable2_beside HQ.out) b23)
             have HS3 := Lib.hid (repState_any H23.out.swap HPB.out.1 HPB.out.2.1)
             clear HS2 b23
             go_wp2_with fail
             refine HS3.out.mono ?_
             rintro e w24 ⟨c3, rfl, HC3, b24⟩
             have H24 := Lib.hid (RR.next H23.out (stable2_beside HQ.out) b24)
             have HPA := Lib.hid (stateParts_any c3 st1 w24 HC3.out HPB.out.2.2 HPB.out.1 HPB.out.2.1)
             clear HS3 b24
             go_wp2_with fail
             refine HPA.out.mono ?_
             rintro e w25 ⟨sv, rv, ns, ks, qf, rfl, HPR, hnl, hrl, HPT, b25⟩
             have H25 := Lib.hid (RR.next H24.out (stable2_beside HQ.out) b25)
             have HS4 := Lib.hid (repState_any H25.out HPB.out.1 HPB.out.2.1)
             clear HPA b25
             go_wp2_with fail
             refine HS4.out.mono ?_
             rintro e w26 ⟨c4, rfl, HC4, b26⟩
             have H26 := Lib.hid (RR.next H25.out (stable2_beside HQ.out) b26)
             have HPT6 := Lib.hid (HPT.out.next b26)
             have HPB2 := Lib.hid (parts17_any c4 st1 w26 HC4.out HPB.out.2.2 HPB.out.1 HPB.out.2.1)
             clear HS4 b26
             go_wp2_with fail
             refine HPB2.out.mono ?_
             rintro e w27 ⟨sv2, rv2, ns2, ks2, qf2, rfl, HPR2, HPT2, b27⟩
             obtain ⟨hn2, hr2⟩ := HPR.out.one HPR2.out
             have HPT7 := Lib.hid (HPT6.out.next b27)
             have H27 := Lib.hid (RR.next H26.out (stable2_beside HQ.out) b27)
             have HSA := Lib.hid (same17_any st1.app sv rv sv2 rv2 st1.f ns (reqsL st1.S ks qf) w27 HPT7.out (by rw [hn2, hr2]; exact HPT2.out) hnl hrl (fun k _ => Nat.le_trans (HC4.out.lens k) (by have := HPB.out.1; omega)))
             clear HPB2 b27 hn2 hr2
             go_wp2_with fail
             refine HSA.out.mono ?_
             rintro e w28 ⟨rfl, b28⟩
             have HB28 := Lib.hid (Below.up (RR.below H27.out) (Nat.le_refl _) b28)
             clear HSA b28
             go_wp2
             go_ret
             exact ⟨rfl, HB28.out⟩
end Go.Proofs.YtgddgipjpdjoaaaGreatDoor
