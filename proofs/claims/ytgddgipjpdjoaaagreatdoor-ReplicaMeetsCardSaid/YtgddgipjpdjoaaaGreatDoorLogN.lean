/-
  The walk of log.Open (layer 11), on a disk whose segments go on, and that has nothing to be cleaned.
-/
import Derived.Test.YtgddgipjpdjoaaaGreatDoorLogW3
import Derived.Test.YtgddgipjpdjoaaaGreatDoorLogPm
namespace Go.Proofs.YtgddgipjpdjoaaaGreatDoor
open Go.RowKit Go.Shelf
theorem Lg.Reads.grows {room : Int} : ∀ {l : List Int} {s s' : Lg.S} {fs fs' : List Dk.File}, Lg.Reads room l s fs s' fs' → s.es.length ≤ s'.es.length ∧ s'.parts.length = s.parts.length + l.length
 | [], s, s', fs, fs', h => by obtain ⟨rfl, _⟩ := h; exact ⟨Nat.le_refl _, rfl⟩
 | n :: l, s, s', fs, fs', h => by
   obtain ⟨s1, f1, h1, h2⟩ := h
   obtain ⟨_, _, h3, _⟩ := Lg.readF_inv h1
   obtain ⟨q1, q2⟩ := Lg.Reads.grows h2
   rw [h3] at q1 q2
   simp only [Lg.S.more, List.length_append, List.length_singleton] at q1 q2
   exact ⟨by omega, by rw [q2, List.length_cons]; omega⟩
theorem Lay.fresh {a w w' : World} {d lg : Nat} {room next : Int} {fs : List Dk.File} {ft X : Nat → Prop} (hA : Base a w ft) (h : IsDisk w d room fs ft) (hX : ∀ j, X j → j < w.heap.size) (hf : ∀ j, ft j → X j) (hb : Below w.heap.size w w') (hg : w.heap.size ≤ lg)
   (hlog : w'.heap[lg]? = some (.cells #[.pointer (some ⟨d, 0, none⟩), .int .i64 next, .slice none 0 0, .slice none 0 0] 162 (0, 0))) :
   Lay a lg d room ⟨next, [], []⟩ fs (fun j => ft j ∨ j = lg) (fun j => X j ∨ j = lg) ft (.slice none 0 0) (.slice none 0 0) [] w' := by
 have hlt := (Array.getElem?_eq_some_iff.1 hlog).1
 have hs := hb.size
 refine ⟨h.next hb, ⟨hA.env, Below.up hA.below (Nat.le_refl _) hb, fun j hj => ?_⟩, fun j hj => ?_, fun j hj => .inl hj, fun j hj => hj.imp (hf j) id, hlog, World.ownsRow_nil _ _ _ _, World.ownsRow_nil _ _ _ _, rfl, fun p hp => (by cases hp), ⟨.inr rfl, fun h => ?_⟩, fun b hb' => (by cases hb'), fun b hb' => (by cases hb'), fun b hb' => (by cases hb')⟩
 · rcases hj with hj | hj
   · exact hA.out j hj
   · rw [hj]; exact Nat.le_trans hA.below.size hg
 · rcases hj with hj | hj
   · have := hX j hj; omega
   · omega
 · have := hX _ (hf _ h); omega
variable {a w w' : World} {lg d : Nat} {room : Int} {s s' : Lg.S} {fs fs' : List Dk.File} {T X ft T2 ft2 : Nat → Prop} {pv ev lv : Value} {ps qs : List EnX}
set_option maxHeartbeats 16000000 in
set_option maxRecDepth 100000 in
theorem logOpen_any {next : Int} {nums : List Int} (hA : Base a w ft) (h : IsDisk w d room fs ft) (hX : ∀ j, X j → j < w.heap.size) (hf : ∀ j, ft j → X j) (hroom : room ≤ 1048576) (hl : Man.load fs = ((next, nums), 0)) (hn : nums.length ≤ 100)
   (hr : Lg.Reads room nums ⟨next, [], []⟩ fs s' fs') (hes : s'.es.length ≤ 500000) (hg : ∀ x ∈ fs', Lg.goneN s'.nums x.name = false ∧ x.name.length ≤ 1000) :
   Calls Tryz.prog 35 #[.pointer (some ⟨d, 0, none⟩)] w fun e w' => ∃ lg T', e = .returned (.tuple #[.pointer (some ⟨lg, 0, none⟩), .int .i64 0]) ∧ LAt a lg d room s' fs' T' (fun j => X j ∨ T' j) w' ∧ (∀ j, T' j → ft j ∨ w.heap.size ≤ j) ∧ Turn ft w w' ∧ w.heap.size ≤ lg := by
 have HML := Lib.hid (manLoad_any d room next nums fs ft w h hroom hl)
 have HA := Lib.hid (And.intro hA (And.intro h (And.intro hX hf)))
 have HR := Lib.hid hr
 have HG := Lib.hid hg
 have hgr := hr.grows.2
 have HGR := Lib.hid hgr
 clear hA h hX hf hl hr hg hgr
 go_enter Tryz.func35, Tryz.ntmps35
 go_wp2_with fail
 refine HML.out.mono ?_
 rintro e w1 ⟨v, rfl, hV, b1⟩
 obtain ⟨va, vc, rfl⟩ := cells_slice (cells_of_owns hV.out)
 obtain ⟨W2, hW2⟩ : ∃ W2, W2 = w1.alloc (.cells #[.int .i64 next, .slice va nums.length vc] 157) := ⟨_, rfl⟩
 have bm : Below w1.heap.size w1 W2 := by rw [hW2]; exact (Below.refl _ _).alloc (Nat.le_refl _) _
 have hm2 : ManAt w1.heap.size next (.slice va nums.length vc) W2 := by rw [hW2]; exact heap_alloc_new w1 _
 obtain ⟨W3, hW3⟩ : ∃ W3, W3 = W2.alloc (.cells #[.pointer (some ⟨d, 0, none⟩), .int .i64 next, .slice none 0 0, .slice none 0 0] 162) := ⟨_, rfl⟩
 have bl : Below W2.heap.size W2 W3 := by rw [hW3]; exact (Below.refl _ _).alloc (Nat.le_refl _) _
 have hlog : W3.heap[W2.heap.size]? = some (.cells #[.pointer (some ⟨d, 0, none⟩), .int .i64 next, .slice none 0 0, .slice none 0 0] 162 (0, 0)) := by rw [hW3]; exact heap_alloc_new W2 _
 have b2 : Below w.heap.size w W2 := Below.up b1 (Nat.le_refl _) bm
 have b3 : Below w.heap.size w W3 := Below.up b2 (Nat.le_refl _) bl
 have HM := Lib.hid (LMid.start (Lay.fresh HA.out.1 HA.out.2.1 HA.out.2.2.1 HA.out.2.2.2 b3 b2.size hlog))
 have hm3 := hm2.next bl
 have HV3 := Lib.hid (Cells.next (Cells.next (cells_of_owns hV.out) bm) bl)
 have hmw : w.heap.size ≤ w1.heap.size := b1.size
 have hmlt : w1.heap.size < W2.heap.size := (Array.getElem?_eq_some_iff.1 hm2).1
 have HM3 := Lib.hid hm3
 have HB3 := Lib.hid b3
 have HW2 := Lib.hid hW2
 have HW3 := Lib.hid hW3
 have HW2s := Lib.hid (show W2.heap.size = w1.heap.size + 1 by rw [hW2]; simp)
 obtain ⟨c0, c1, f0, f1⟩ := hm2.cells
 have c1' := hm3.cells.2.1
 have HLT := Lib.hid (show ∀ b, (Value.slice va nums.length vc).ownBlock = some b → w.heap.size ≤ b ∧ b < w1.heap.size from fun b hb => ⟨(hV.out.lt b hb).1, (hV.out.lt b hb).2⟩)
 clear HML hV b1 bm bl hlog b2 b3 hm2 hm3 hW2 hW3
 go_wp2_with fail
 rw [← HW2.out, ← HW3.out, ← HW2s.out]
 go_loopw [31] (fun lv wr => ∃ (i : Nat) (s1 : Lg.S) (f1 : List Dk.File) (T4 ft4 : Nat → Prop) (p4 e4 : Value) (q4 : List EnX), lv = .int .i64 i ∧ i ≤ nums.length ∧ s1.parts.length = i ∧ Hid (Lg.Reads room (nums.drop i) s1 f1 s' fs') ∧ Hid (LMid a W2.heap.size d room (fun j => ft j ∨ j = W2.heap.size) (fun j => X j ∨ j = W2.heap.size) W3 s1 f1 T4 ft4 p4 e4 q4 wr)) (fun lv _ => nums.length - (intOf lv).toNat)
 case atStart => exact ⟨0, _, fs, _, ft, _, _, [], rfl, by omega, rfl, HR, HM⟩
 case round =>
   obtain ⟨i, s1, f1, T4, ft4, p4, e4, q4, rfl, hi, hpi, HRD, HM4⟩ := hrel
   have hG : ¬ (ft w1.heap.size ∨ w1.heap.size = W2.heap.size) := fun hx => by
     rcases hx with hx | hx
     · have := HA.out.2.2.1 _ (HA.out.2.2.2 _ hx); omega
     · omega
   by_cases hp : i < nums.length
   · obtain ⟨x, hx⟩ : ∃ x, nums[i] = x := ⟨_, rfl⟩
     have hVr := cells_turn HV3.out (fun b hb hx => by
       have hlt := HLT.out b hb
       rcases hx with hx | hx
       · have := HA.out.2.2.1 _ (HA.out.2.2.2 _ hx); omega
       · omega) HM4.out.turn
     obtain ⟨b, o, c, hv, k0⟩ := intAt hVr i hp
     cases hv
     rw [hx] at k0
     have hrd := HRD.out
     rw [List.drop_eq_getElem_cons hp, hx] at hrd
     obtain ⟨s2, f2, hrf, hrd2⟩ := hrd
     have hgrow := hrd2.grows.1
     have hs1 : s1.es.length ≤ s2.es.length := by
       obtain ⟨_, _, h3, _⟩ := Lg.readF_inv hrf
       rw [h3]; simp only [Lg.S.more, List.length_append]; omega
     have hs2p : s2.parts.length = i + 1 := by
       obtain ⟨_, _, h3, _⟩ := Lg.readF_inv hrf
       rw [h3]; simp only [Lg.S.more, List.length_append, List.length_singleton]; omega
     have HRE := Lib.hid (logRead_any HM4.out.lay hroom (by omega) (by rw [HM4.out.lay.len]; omega) hrf)
     have HRD2 := Lib.hid hrd2
     have HPI := Lib.hid hs2p
     clear hrd2 hrf hgrow hs1 hs2p hx hVr HRD hpi
     go_wp2_with fail
     refine HRE.out.mono ?_
     rintro e w5 ⟨rfl, T5, ⟨ft5, p5, e5, q5, hL5⟩, m5, n5, t5⟩
     have HM5 := Lib.hid (HM4.out.of hL5 m5 n5 t5)
     clear hL5 m5 n5 t5 HRE HM4
     go_wp2
     exact ⟨⟨i + 1, s2, f2, T5, ft5, p5, e5, q5, by go_num, by omega, HPI.out, HRD2, HM5⟩, by simp [intOf]; omega⟩
   · obtain rfl : i = nums.length := by omega
     have hrd := HRD.out
     rw [List.drop_length] at hrd
     obtain ⟨rfl, rfl⟩ := hrd
     obtain ⟨p4a, p4c, rfl⟩ := cells_slice (cells_of_owns HM4.out.lay.parts)
     obtain ⟨d0, d1, d2, d3⟩ := HM4.out.lay.cells
     rw [hpi] at d2
     have cm := turn_cell HM4.out.turn hG c1'
     have HPI := Lib.hid hpi
     clear hpi HRD
     go_wp2_with fail
     go_quiet (fail)
     have bq : Below wr.heap.size wr (wr.drewN nq) := below_drewN (Below.refl _ wr) nq
     have HMq := Lib.hid (HM4.out.next bq)
     obtain ⟨bm, D, g, hrep⟩ := HMq.out.lay.disk
     have HLS := Lib.hid (diskList_rep (u := Dk.total fs') (wr.drewN nq) hrep)
     have d2 := cell_kept bq (Nat.le_refl _) d2
     have HSZ := Lib.hid (show fs'.length ≤ 40 from hrep.2.2.2.1)
     clear hrep bq
     go_wp2_with fail
     refine HLS.out.mono ?_
     rintro e w6 ⟨sa, sc, rfl, hS, b6⟩
     have HM6 := Lib.hid (HMq.out.next b6)
     have d2 := cell_kept b6 (Nat.le_refl _) d2
     have HS := Lib.hid (show Cells w6 (.slice sa (fs'.map (·.name)).length sc) 1 (fs'.map (·.name)).length (strCells (fs'.map (·.name))) by
       rw [List.length_map]; exact cells_of_owns hS.out)
     have HNL := Lib.hid (show fs'.length = (fs'.map (·.name)).length by rw [List.length_map])
     clear hS b6 HLS
     go_wp2_with fail
     go_loopw [73] (fun lv wr => ∃ i : Nat, lv = .int .i64 i ∧ i ≤ fs'.length ∧ Below w6.heap.size w6 wr) (fun lv _ => fs'.length - (intOf lv).toNat)
     case atStart => exact ⟨0, rfl, by omega, Below.refl _ _⟩
     case round =>
       obtain ⟨i, rfl, hi, hbw⟩ := hrel
       have d2r := cell_kept hbw (Nat.le_refl _) d2
       have HMr := Lib.hid (HM6.out.next hbw)
       by_cases hp : i < fs'.length
       · obtain ⟨b, o, c, hv, k0⟩ := strAt HS.out i (by rw [← HNL.out]; exact hp)
         cases hv
         have k0 := cell_kept hbw (Nat.le_refl _) k0
         rw [List.getElem_map] at k0
         obtain ⟨x, hx⟩ : ∃ x, fs'[i] = x := ⟨_, rfl⟩
         rw [hx] at k0
         obtain ⟨nm, hnm⟩ : ∃ nm : ByteArray, nm = ⟨x.name.toArray⟩ := ⟨_, rfl⟩
         rw [← hnm] at k0
         obtain ⟨hgn, hln⟩ := HG.out x (by rw [← hx]; exact List.getElem_mem _)
         have hnl : nm.data.toList = x.name := by rw [hnm]
         rw [← hnl] at hgn hln
         have hns : nm.size ≤ 1000 := by rw [Lib.size_eq]; exact hln
         have hne : nm.data.toList ≠ [116, 101, 109, 112] := fun e => by
           rw [e] at hgn
           simp [Lg.goneN, Seg.temp] at hgn
         have hnt : (nm.toList == (⟨#[116, 101, 109, 112]⟩ : ByteArray).toList) = false := by
           rw [Lib.toList_data, Lib.toList_data, beq_eq_false_iff_ne]; exact hne
         have hnt2 : (nm.toList == [116, 101, 109, 112]) = false := by
           rw [Lib.toList_data, beq_eq_false_iff_ne]; exact hne
         have hgo : (decide (0 < Seg.numberOf nm.data.toList) && !s'.nums.contains (Seg.numberOf nm.data.toList)) = false := by
           unfold Lg.goneN at hgn
           rw [Bool.or_eq_false_iff] at hgn
           exact hgn.2
         have HNB := Lib.hid (segNumber_any nm wr HMr.out.lay.env (by omega))
         obtain ⟨N, hN⟩ : ∃ N, Seg.numberOf nm.data.toList = N := ⟨_, rfl⟩
         rw [hN] at HNB hgo
         have HGO := Lib.hid hgo
         clear hx hnm hnl hgn hln hgo hN hne
         go_wp2_with fail
         refine HNB.out.mono ?_
         rintro e w7 ⟨rfl, b7⟩
         obtain ⟨W8, hW8⟩ : ∃ W8, W8 = w7.alloc (.cells #[.int .i64 N] 3) := ⟨_, rfl⟩
         have b8 : Below w7.heap.size w7 W8 := by rw [hW8]; exact (Below.refl _ _).alloc (Nat.le_refl _) _
         have hbx : W8.cell? ⟨w7.heap.size, 0, none⟩ = some (.int .i64 N) := by rw [hW8, Lib.cell_of_heap (heap_alloc_new w7 _)]; rfl
         have b68 := (Below.up hbw (Nat.le_refl _) b7).trans (b8.mono (by have := hbw.size; have h2 := b7.size; omega))
         have d2w := cell_kept ((Below.refl _ w7).alloc (Nat.le_refl _) (.cells #[.int .i64 N] 3)) (Nat.le_refl _) (cell_kept b7 (Nat.le_refl _) d2r)
         have hp1 : i + 1 ≤ fs'.length := hp
         have hi40 : i < 40 := Nat.lt_of_lt_of_le hp HSZ.out
         have hms : fs'.length - (i + 1) < fs'.length - i := by omega
         have HW8 := Lib.hid hW8
         have HB68 := Lib.hid b68
         have HM8 := Lib.hid (HM6.out.next b68)
         clear HNB b7 b8 hW8 b68 hbw
         by_cases hN0 : 0 < N
         · have HCT := containsHas_any (.slice p4a s'.parts.length p4c) s'.parts w7.heap.size N W8 (cells_of_owns HM8.out.lay.parts) (by rw [HPI.out]; omega) hbx
           have hany : (s'.parts.any fun p => p.1 == N) = true := by
             have := HGO.out
             rw [decide_eq_true hN0, Bool.true_and, Bool.not_eq_false'] at this
             rw [List.any_eq_true]
             have h2 : N ∈ s'.nums := by simpa using this
             obtain ⟨p, hp1, hp2⟩ := List.mem_map.1 h2
             exact ⟨p, hp1, by rw [hp2]; simp⟩
           rw [hany, HPI.out] at HCT
           have HCT := Lib.hid HCT
           clear hany
           go_wp2_with fail
           rw [← HW8.out]
           refine HCT.out.mono ?_
           rintro e w9 ⟨rfl, b9⟩
           have hbz := Below.up HB68.out (Nat.le_refl _) b9
           clear b9 HCT
           go_wp2
           exact ⟨⟨i + 1, by go_num, hp1, hbz⟩, by simp [intOf]; omega⟩
         · clear HGO
           go_wp2
           rw [← HW8.out]
           go_wp2
           exact ⟨⟨i + 1, by go_num, hp1, HB68.out⟩, by simp [intOf]; omega⟩
       · obtain rfl : i = fs'.length := by omega
         clear hp
         go_wp2
         go_ret2
         refine ⟨W2.heap.size, T4, rfl, ?_, ?_, ?_, Nat.le_trans hmw (by omega)⟩
         · exact LAt.wide ⟨_, _, _, _, HMr.out.lay⟩ (fun j hj => by
             rcases hj with hj | hj
             · exact .inl (.inl hj)
             · exact .inr hj) (fun j hj => .inr hj)
         · intro j hj
           rcases HMr.out.new j hj with h | h
           · rcases h with h | h
             · exact .inl h
             · right; omega
           · have := HB3.out.size; right; omega
         · have ht := HMr.out.turn
           refine (Turn.of_below HB3.out).trans ht (fun j hj => ?_)
           rcases hj with h | h
           · exact .inl h
           · right; omega
end Go.Proofs.YtgddgipjpdjoaaaGreatDoor
