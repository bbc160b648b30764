/-
  The walk of frame.Scan, with the place where the whole frames end. The walks of manifest.epochs, Epoch, Raise.
  The walks of manifest.epochs, Epoch, Raise.
-/
import Derived.Test.YtgddgipjpdjoaaaGreatDoorFrms
import Derived.Test.YtgddgipjpdjoaaaGreatDoorMan
import Derived.Test.YtgddgipjpdjoaaaGreatDoorManP
namespace Go.Proofs.YtgddgipjpdjoaaaGreatDoor
open Go.RowKit Go.Shelf
attribute [local go_sem] Oper.semAt_some
theorem boxEnd_own (B : Nat) (t : TypeId) : Own (fun (s : List (ByteArray × Nat)) W => Boxed W B t (.int .i64 ((lastEnd s : Nat) : Int))) := by
 rintro s X Y row ha hg hrow
 refine ha.kept hg (fun e' => ?_)
 obtain ⟨o, ho, hc⟩ := hrow B e'.symm
 rw [show X.heap[B]? = _ from ha] at ho; cases ho; cases hc
set_option maxRecDepth 100000 in
set_option maxHeartbeats 2000000 in
theorem scanAt_any (s : ByteArray) (w : World) (hs : s.size ≤ 1073741824) :
   Calls Tryz.prog 155 #[.string s] w fun e w' => ∃ (v : Value) (at_ : Nat), e = .returned (.tuple #[v, .int .i64 (at_ : Int)]) ∧ at_ + (Frm.scan s.data.toList).2.length = s.size ∧ w'.ownsRow w.heap.size 9 1 v (Frm.scan s.data.toList).1.length (strCells (Frm.scan s.data.toList).1) ∧ Below w.heap.size w w' := by
 refine (callsIn_wide (n := 6)).1 ?_
 obtain ⟨i0, z0, by0, hi, hz0, hz1, hz2, hz3, hz4⟩ := strT.info
 refine callsIn_of_wp_marks Tryz.func155 rfl trivial ?_ rfl
 simp only [Tryz.ntmps155, List.size_toArray, List.length_cons, List.length_nil, Nat.reduceAdd, Nat.reduceSub, Array.replicate_succ, Array.replicate_zero, List.push_toArray, List.append_toArray, List.nil_append, List.cons_append]
 gi_wp2
 refine ⟨trivial, (callsIn_wide.2 (frames_any s _)).mono ?_⟩
 rintro e w' ⟨rfl, rfl⟩
 gi_wp2
 have bO := ((Boxed.new w 139 (.slice none 0 0)).alloc (.cells #[.int .i64 0] 3)).alloc (.cells #[.string s] 9)
 have bA := (Boxed.new (w.alloc (.cells #[.slice none 0 0] 139)) 3 (.int .i64 0)).alloc (.cells #[.string s] 9)
 have bN := Boxed.new ((w.alloc (.cells #[.slice none 0 0] 139)).alloc (.cells #[.int .i64 0] 3)) 9 (.string s)
 rw [World.size_alloc] at bA
 rw [World.size_alloc, World.size_alloc] at bN
 have hB0 : Below w.heap.size w (((w.alloc (.cells #[.slice none 0 0] 139)).alloc (.cells #[.int .i64 0] 3)).alloc (.cells #[.string s] 9)) := (((Below.refl _ w).alloc (Nat.le_refl _) _).alloc (by simp) _).alloc (by simp; omega) _
 obtain ⟨W0, hW0⟩ : ∃ W0, (((w.alloc (.cells #[.slice none 0 0] 139)).alloc (.cells #[.int .i64 0] 3)).alloc (.cells #[.string s] 9)) = W0 := ⟨_, rfl⟩
 have hsz0 : W0.heap.size = w.heap.size + 3 := by rw [← hW0]; simp
 rw [hW0] at bO bA bN hB0 ⊢
 clear hW0
 refine wpIn_rangeFunc_ownF rfl (by omega) (gf := 268) (lb := #[.pointer (some ⟨w.heap.size + 1 + 1, 0, none⟩)]) rfl trivial (enters_of Tryz.func268 (by kernel_rfl) rfl)
   (frames_stops 5 (by omega) (w.heap.size + 1 + 1) s (by omega) W0 bN.cell) keepsCell_t (fun W l o o' _ h1 h2 _ => keepsCell_b _ W l o o' h1 h2) (Below.refl _ _) (fun _ => rfl)
   (fun pre W => (∃ v, Boxed W w.heap.size 139 v ∧ W.ownsRow (w.heap.size + 3) 9 1 v (loads pre).length (strCells (loads pre)) ∧ True) ∧ (Boxed W (w.heap.size + 1) 3 (.int .i64 ((lastEnd pre : Nat) : Int))) ∧ Below w.heap.size W0 W)
   (fun _ _ _ => False)
   (OwnFrom.and (Own.from (holdsRow_own (w.heap.size + 3) w.heap.size 139 9 1 (fun pre => (loads pre).length) (fun pre => strCells (loads pre)) (fun _ _ => True)) _) (OwnFrom.and (Own.from (boxEnd_own _ _) _) (ownFrom_below (by omega) (by omega))))
   (fun _ _ _ _ _ hs _ _ => hs)
   ⟨⟨_, bO, World.ownsRow_nil _ _ _ _, trivial⟩, bA, Below.refl _ _⟩
   (fun x => { tmps := #[.string s, undef, .slice none 0 0, .int .i64 0, .pointer (some ⟨w.heap.size, 0, none⟩), .pointer (some ⟨w.heap.size + 1, 0, none⟩), .string x.1, .int .i64 x.2, .string s, .func (.func 268) #[] #[.pointer (some ⟨w.heap.size + 1 + 1, 0, none⟩)], .string x.1, .int .i64 x.2, undef, undef, undef, undef, undef, undef, undef], defers := [] }) ?assign ?body ?done ?stop
 case assign =>
   intro l x W K hK
   gi_wp2
   exact hK
 case body =>
   rintro l pre x W ⟨⟨v, hv, hrow, _⟩, ha, hB⟩ hlt
   have hc := hv.cell
   have hca := ha.cell
   have hpl : (loads pre).length ≤ pre.length := by simp [loads]
   have hBs : w.heap.size + 3 ≤ W.heap.size := by have := hB.size; omega
   gi_wp2_with (gi_at_builtin; refine wpListIn_append_own _ rfl _ _ 139 rfl (w.heap.size + 3) 9 i0 z0 1 by0 Tryz.underlying139 hi hz0 hz1 hz2 hz3 (by decide) v _ _ rfl (hrow.alloc _) ⟨W.heap.size, 0, none⟩ 1 1 [.string x.1] rfl rfl (cells_top W [.string x.1] _) (by simp [Value.oneCell']) (by unfold maxLen; omega) (Nat.le_trans (Nat.mul_le_mul_left _ hz4) (by omega)) (by simp; omega) ?_; intro v' w1 hown' hgrow _; obtain ⟨g', cap', rfl⟩ := ownsRow_succ hown'; have hv1 := (hv.alloc (.cells #[.string x.1] 9)).kept hgrow (hv.not_row (by decide) hrow); have hc1 := hv1.cell; have hf1 := hv1.frozen; have ha1 := (ha.alloc (.cells #[.string x.1] 9)).kept hgrow (ha.not_row (by decide) hrow); have hc2 := ha1.cell; have hf2 := ha1.frozen)
   obtain ⟨_, hv2, _, hk2, hb2⟩ := hv.appended (by decide) (ownsRow_low hrow (by omega)) (Nat.le_trans (by omega) hBs) (Nat.le_refl _) (ownsRow_low hown' (by omega)) hgrow
   have hr2 := hown'.kept (grownBy_setCell' w1 w.heap.size (.slice (some ⟨g', 0, none⟩) ((loads pre).length + 1) cap')) (.inr (hv1.not_row (by decide) hown').symm)
   have ha2 := ha1.kept (grownBy_setCell' w1 w.heap.size (.slice (some ⟨g', 0, none⟩) ((loads pre).length + 1) cap')) (by simp)
   refine ⟨hk2.trans (KeepsOthers.setCell _ _ _), fun u hu => ?_, ⟨⟨_, hv2.kept (grownBy_setCell' _ (w.heap.size + 1) _) (by simp), ?_, trivial⟩, by rw [lastEnd_snoc]; exact ha2.set _, ?_⟩⟩
   · have h1 := (hgrow.cell ((World.grownBy_alloc W _ none).cell hu (by simp)) (fun e => by have := (hrow.lt _ e.symm).1; simp only at this; omega) : w1.cell? ⟨w.heap.size + 1 + 1, 0, none⟩ = some u)
     exact (grownBy_setCell' _ (w.heap.size + 1) _).cell ((grownBy_setCell' w1 w.heap.size _).cell h1 (by simp; omega)) (by simp)
   · have hr3 := hr2.kept (grownBy_setCell' _ (w.heap.size + 1) (.int .i64 x.2)) (.inr (ha2.not_row (by decide) hr2).symm)
     rw [loads_snoc]
     simpa [strCells] using hr3
   · exact (hB.trans hb2).setCell (p := ⟨w.heap.size + 1, 0, none⟩) (by simp) _
 case done =>
   rintro D ys W hD ⟨hl1, hl2⟩ ⟨⟨v, hv, hrow, _⟩, ha, hB⟩ hK
   have hc := hv.cell
   have hca := ha.cell
   gi_wp2
   gi_region
   gi_wp2
   have hK' : W.drew.heap[D]? = some (.deferred (some [])) := hK
   refine ⟨by simp, .inl ⟨_, _, rfl, run_takeDeferred hK', ?_⟩⟩
   refine ⟨.tuple #[v, .int .i64 ((lastEnd ys : Nat) : Int)], ?_, v, lastEnd ys, rfl, hl2, ?_, ?_⟩
   · simp [results, Tryz.f155, go_sem]
   · rw [← hl1]
     exact ownsRow_low (ownsRow_putObj (hrow.kept (grown_of_below ((Below.refl _ W).drew)) (by cases v.ownBlock <;> simp)) _ hK' rfl) (by omega)
   · exact (hB0.trans hB.drew).trans (belowK_b (w := w) (Nat.le_refl _) W.drew D _ _ (by omega) hK' rfl rfl)
 case stop =>
   rintro D c pre W _ _ h _
   exact h.elim
theorem cells_lenP {w : World} {v : Value} {sz n : Nat} {xs : List Value} (h : Cells w v sz n xs) : ∃ va vc, v = .slice va n vc := by
 rcases cellsNil h with ⟨h0, a, c, rfl⟩ | ⟨b, o, c, rfl⟩
 · exact ⟨a, c, by rw [h0]⟩
 · exact ⟨_, _, rfl⟩
theorem mw1 {i n : Nat} (h : i < n) : (i : Int) < (n : Int) := by omega
set_option maxHeartbeats 4000000 in
set_option maxRecDepth 100000 in
theorem manEpochs_any (a : World) (d : Nat) (room : Int) (fs : List Dk.File) (ft : Nat → Prop) (w : World) (_hA : Base a w ft) (h : IsDisk w d room fs ft) (hroom : room ≤ 1048576) :
   Calls Tryz.prog 88 #[.pointer (some ⟨d, 0, none⟩)] w fun e w' => e = .returned (.tuple #[.int .i64 (Man.epochsD fs).1, .int .i64 ((Man.epochsD fs).2.1 : Nat), .bool (Man.epochsD fs).2.2]) ∧ Below w.heap.size w w' := by
 obtain ⟨s, hs⟩ : ∃ s, (Dk.read Man.mark fs).1 = s := ⟨_, rfl⟩
 obtain ⟨c0, hc0⟩ : ∃ c, (Dk.read Man.mark fs).2 = c := ⟨_, rfl⟩
 have hss : s.size ≤ 1048576 := by rw [← hs]; exact read_room h hroom Man.mark
 have HRD := diskRead_any d room fs ft ⟨#[101, 112, 111, 99, 104]⟩ w h (by decide)
 rw [show (Dk.read (⟨#[101, 112, 111, 99, 104]⟩ : ByteArray).data.toList fs).1 = s from hs, show (Dk.read (⟨#[101, 112, 111, 99, 104]⟩ : ByteArray).data.toList fs).2 = c0 from hc0] at HRD
 have HRD := Lib.hid HRD
 have HEP := Lib.hid (show Man.epochsD fs = Man.epochs s.data.toList by unfold Man.epochsD; rw [hs])
 have HSC := Lib.hid (scanAt_any s w (by omega))
 have hmem := Frm.scan_members _ s.data.toList (Nat.le_refl _)
 have hcnt := Frm.scan_count _ s.data.toList (Nat.le_refl _)
 rw [← Lib.size_eq] at hcnt
 obtain ⟨L, hL⟩ : ∃ L, (Frm.scan s.data.toList).1 = L := ⟨_, rfl⟩
 obtain ⟨r, hr⟩ : ∃ r, (Frm.scan s.data.toList).2 = r := ⟨_, rfl⟩
 have HEP := Lib.hid (show Man.epochsD fs = ((Man.epF 0 L).1, (Man.epF 0 L).2.1, (Man.epF 0 L).2.2 && r.isEmpty) by rw [HEP.out, Man.epochs, hL, hr])
 rw [hL, hr] at HSC
 rw [hL] at hmem hcnt
 have HM := Lib.hid hmem
 have hLn : L.length ≤ 200000 := by omega
 clear hs hc0 hL hr hmem hcnt h _hA
 go_enter Tryz.func88, Tryz.ntmps88
 go_wp2_with fail
 refine HRD.out.mono ?_
 rintro e w1 ⟨rfl, rfl⟩
 go_wp2_with fail
 refine HSC.out.mono ?_
 rintro e w2 ⟨v, at_, rfl, hat, own, b2⟩
 have HCL := Lib.hid (cells_of_owns own)
 obtain ⟨sa, sc, rfl⟩ := cells_lenP HCL.out
 have HAT := Lib.hid hat
 have hatn : at_ ≤ 1048576 := by omega
 clear HRD HSC own hat
 go_wp2
 go_loopw [9, 27] (fun lv iv wr => ∃ (i : Nat) (last : Int), lv = .int .i64 last ∧ iv = .int .i64 (i : Int) ∧ i ≤ L.length ∧ 0 ≤ last ∧ last ≤ 274877906944 ∧ Below w2.heap.size w2 wr ∧ Hid (Man.epF 0 L = ((Man.epF last (L.drop i)).1, (Man.epF last (L.drop i)).2.1 + i, (Man.epF last (L.drop i)).2.2))) (fun _ iv _ => L.length - (intOf iv).toNat)
 case atStart => exact ⟨0, 0, rfl, rfl, Nat.zero_le _, by omega, by omega, Below.refl _ _, Lib.hid rfl⟩
 case round =>
   obtain ⟨i, last, rfl, rfl, hi, hl0, hl1, hbr, hinv⟩ := hrel
   by_cases hgo : i < L.length
   · have hgoI := mw1 hgo
     obtain ⟨b, o, c, hv, hr0⟩ := strAt (Cells.next HCL.out hbr) i hgo
     cases hv
     obtain ⟨row, hrow⟩ : ∃ row, L[i] = row := ⟨_, rfl⟩
     rw [hrow] at hr0
     have hrl := HM.out row (by rw [← hrow]; exact List.getElem_mem _)
     obtain ⟨rs, hrs, hrd, hrz⟩ := str_of row
     rw [hrs] at hr0
     have hz8 : rs.size ≤ 8000 := by omega
     have HD := Lib.hid (show L.drop i = row :: L.drop (i + 1) by rw [List.drop_eq_getElem_cons hgo, hrow])
     have HRD := Lib.hid hrd
     have HTK := Lib.hid (numTake_any rs wr (by omega))
     have HBR := Lib.hid hbr
     clear hrow hrs hrz hrl hbr hrd
     go_wp2_with fail
     refine HTK.out.mono ?_
     rintro e w3 ⟨n, q, c1, rfl, HT, b3⟩
     have HB3 := Lib.hid (HBR.out.trans (b3.mono HBR.out.size))
     have HOK := Lib.hid (show Man.okE last row = ((c1 == 0) && q.data.toList.isEmpty && decide (last < (n : Int)) && decide ((n : Int) ≤ 274877906944)) by
       unfold Man.okE; rw [← HRD.out, HT.out])
     have HNX := Lib.hid (show ((Num.take row).1 : Int) = (n : Int) by rw [← HRD.out, HT.out])
     have HBAD := Lib.hid (fun (hb : Man.okE last row = false) => (show Man.epochsD fs = (last, i, false) by
       rw [HEP.out, hinv.out, HD.out, Man.epF_stop hb]; simp))
     have HGO := Lib.hid (fun (hb : Man.okE last row = true) => (show Man.epF 0 L = ((Man.epF (n : Int) (L.drop (i + 1))).1, (Man.epF (n : Int) (L.drop (i + 1))).2.1 + (i + 1), (Man.epF (n : Int) (L.drop (i + 1))).2.2) by
       rw [hinv.out, HD.out, Man.epF_go hb, HNX.out]
       simp only [Prod.mk.injEq, true_and, and_true]
       omega))
     have HBW := Lib.hid (b2.trans (HB3.out.mono b2.size))
     clear HTK HT hinv HD HRD HBR b3 hr0
     by_cases hc1 : ¬ c1 = 0
     · have hcb : ((c1 : Int) != 0) = true := by simp; omega
       have HF := Lib.hid (HBAD.out (by rw [HOK.out]; simp; omega))
       clear HBAD HGO HOK HNX
       go_wp2
       go_ret3
       exact ⟨by rw [HF.out]; rfl, HBW.out⟩
     have hc1 := Classical.not_not.mp hc1
     subst hc1
     cases hre : q.toList.isEmpty with
     | false =>
       have HF := Lib.hid (HBAD.out (by rw [HOK.out]; rw [← Lib.toList_data, hre]; simp))
       clear HBAD HGO HOK HNX
       go_wp2
       go_ret3
       exact ⟨by rw [HF.out]; rfl, HBW.out⟩
     | true =>
     by_cases hn1 : (n : Int) ≤ last
     · have HF := Lib.hid (HBAD.out (by rw [HOK.out]; rw [decide_eq_false (show ¬ last < (n : Int) by omega)]; simp))
       clear HBAD HGO HOK HNX
       go_wp2
       go_ret3
       exact ⟨by rw [HF.out]; rfl, HBW.out⟩
     by_cases hn2 : 274877906944 < n
     · have hn2i : (n : Int) > 274877906944 := by omega
       have HF := Lib.hid (HBAD.out (by rw [HOK.out]; rw [decide_eq_false (show ¬ (n : Int) ≤ 274877906944 by omega)]; simp))
       clear HBAD HGO HOK HNX
       go_wp2
       go_ret3
       exact ⟨by rw [HF.out]; rfl, HBW.out⟩
     have HG := Lib.hid (HGO.out (by
       rw [HOK.out, ← Lib.toList_data, hre, decide_eq_true (show last < (n : Int) by omega), decide_eq_true (show (n : Int) ≤ 274877906944 by omega)]; rfl))
     clear HBAD HGO HOK HNX HEP
     go_wp2
     exact ⟨⟨i + 1, (n : Int), rfl, by go_num, hgo, by omega, by omega, HB3.out, HG⟩, by simp [intOf]; omega⟩
   · have hgoI : ¬ (i : Int) < (L.length : Int) := by omega
     have HFIN := Lib.hid (show Man.epochsD fs = (last, L.length, decide (at_ = s.size)) by
       have e : i = L.length := by omega
       have h1 := hinv.out
       rw [e, List.drop_length] at h1
       rw [HEP.out, h1]
       have h2 := HAT.out
       simp only [Man.epF, Nat.zero_add, Bool.true_and, Prod.mk.injEq, true_and]
       rw [Bool.eq_iff_iff, List.isEmpty_iff, decide_eq_true_eq]
       exact ⟨fun e => by rw [e] at h2; simpa using h2, fun e => List.eq_nil_of_length_eq_zero (by omega)⟩)
     have HBW := Lib.hid (b2.trans (hbr.mono b2.size))
     obtain ⟨bb, hbb⟩ : ∃ bb, decide (at_ = s.size) = bb := ⟨_, rfl⟩
     have hbq : ((at_ : Int) == (s.size : Int)) = bb := by rw [← hbb, Bool.eq_iff_iff, beq_iff_eq, decide_eq_true_eq]; omega
     rw [hbb] at HFIN
     clear hinv hbr hbb
     go_wp2
     go_ret3
     exact ⟨by rw [HFIN.out]; rfl, HBW.out⟩
theorem manEpoch_any (a : World) (d : Nat) (room : Int) (fs : List Dk.File) (ft : Nat → Prop) (w : World) (hA : Base a w ft) (h : IsDisk w d room fs ft) (hroom : room ≤ 1048576) :
   Calls Tryz.prog 49 #[.pointer (some ⟨d, 0, none⟩)] w fun e w' => e = .returned (.int .i64 (Man.epochsD fs).1) ∧ Below w.heap.size w w' := by
 have HE := Lib.hid (manEpochs_any a d room fs ft w hA h hroom)
 clear hA h
 go_enter Tryz.func49, Tryz.ntmps49
 go_wp2_with fail
 refine HE.out.mono ?_
 rintro e w1 ⟨rfl, b1⟩
 go_wp2
 go_ret
 exact ⟨rfl, b1⟩
set_option maxHeartbeats 4000000 in
set_option maxRecDepth 100000 in
theorem manRaise_any (a : World) (d : Nat) (room e : Int) (fs : List Dk.File) (ft : Nat → Prop) (w : World) (hA : Base a w ft) (h : IsDisk w d room fs ft) (hroom : room ≤ 1048576) :
   Calls Tryz.prog 40 #[.pointer (some ⟨d, 0, none⟩), .int .i64 e] w fun r w' => r = .returned (.int .i64 ((Man.raiseF room e fs).2 : Nat)) ∧ DStep d room (Man.raiseF room e fs).1 ft w w' := by
 have HE := Lib.hid (manEpochs_any a d room fs ft w hA h hroom)
 have HRF := Lib.hid (show Man.raiseF room e fs = if e < 1 ∨ 274877906944 < e then (fs, 1) else
   if e < (Man.epochsD fs).1 then (fs, 10) else
   if e = (Man.epochsD fs).1 then Dk.sync Man.mark fs else
   if (Man.keepF room e fs).2 = 0 then Dk.sync Man.mark (Man.keepF room e fs).1 else Man.keepF room e fs from rfl)
 have HKF := Lib.hid (show Man.keepF room e fs = if (Man.epochsD fs).2.2 = true ∧ (Man.epochsD fs).2.1 ≤ 20 then Dk.append room Man.mark (Man.rowE e) fs else Man.writeM room Man.mark (Man.rowE e) fs from rfl)
 obtain ⟨now, many, alone, hep⟩ : ∃ n m b, Man.epochsD fs = (n, m, b) := ⟨_, _, _, rfl⟩
 rw [hep] at HE HRF HKF
 simp only at HE HRF HKF
 have HD := Lib.hid h
 have HA := Lib.hid hA
 clear hep h hA
 go_enter Tryz.func40, Tryz.ntmps40
 go_wp2_with fail
 refine HE.out.mono ?_
 rintro r w1 ⟨rfl, b1⟩
 have HB1 := Lib.hid b1
 clear HE b1
 by_cases h1 : e < 1
 · have HR := Lib.hid (HRF.out.trans (if_pos (.inl h1)))
   clear HRF HKF
   go_wp2
   go_ret
   exact ⟨by rw [HR.out]; rfl, by rw [HR.out]; exact DStep.of_below HD.out HB1.out⟩
 by_cases h2 : 274877906944 < e
 · have HR := Lib.hid (HRF.out.trans (if_pos (.inr h2)))
   clear HRF HKF
   go_wp2
   go_ret
   exact ⟨by rw [HR.out]; rfl, by rw [HR.out]; exact DStep.of_below HD.out HB1.out⟩
 replace HRF := Lib.hid (HRF.out.trans (if_neg (by omega)))
 by_cases h3 : e < now
 · have HR := Lib.hid (HRF.out.trans (if_pos h3))
   clear HRF HKF
   go_wp2
   go_ret
   exact ⟨by rw [HR.out]; rfl, by rw [HR.out]; exact DStep.of_below HD.out HB1.out⟩
 replace HRF := Lib.hid (HRF.out.trans (if_neg h3))
 by_cases h4 : e = now
 · have HR := Lib.hid (HRF.out.trans (if_pos h4))
   have HS := Lib.hid (diskSync_any d room fs ft ⟨#[101, 112, 111, 99, 104]⟩ w1 (HD.out.next HB1.out) (by decide))
   have h4b : (e == now) = true := by rw [h4]; simp
   clear HRF HKF
   go_wp2_with fail
   refine HS.out.mono ?_
   rintro r w2 ⟨rfl, hds⟩
   have HDS := Lib.hid (DStep.under HB1.out hds)
   clear hds HS
   go_wp2
   go_ret
   exact ⟨by rw [HR.out]; rfl, by rw [HR.out]; exact HDS.out⟩
 replace HRF := Lib.hid (HRF.out.trans (if_neg h4))
 have h4b : (e == now) = false := by rw [beq_eq_false_iff_ne]; exact h4
 have hgood := Man.put_good (e := e) (by omega) (by omega)
 have hlen := Num.put_le6 (Num.held e) (Man.held_of (by omega) (by omega)).2
 have HPU := Lib.hid (numPut_any e w1)
 obtain ⟨P, hP⟩ : ∃ P, Num.put (Num.held e) = P := ⟨_, rfl⟩
 have hrow : Man.rowE e = ⟨(Frm.framed P).toArray⟩ := by rw [← hP]; rfl
 rw [hP] at hgood hlen HPU
 have HROW := Lib.hid hrow
 have HGD := Lib.hid hgood
 have hPs : (⟨P.toArray⟩ : ByteArray).size ≤ 6 := by rw [Lib.size_eq]; exact hlen
 clear hP hrow hgood hlen
 go_wp2_with fail
 refine HPU.out.mono ?_
 rintro r w2 ⟨rfl, b2⟩
 have HB2 := Lib.hid (HB1.out.trans (b2.mono HB1.out.size))
 have HFP := Lib.hid (framePut_any ⟨P.toArray⟩ w2 (by omega))
 clear HPU b2 HB1
 go_wp2_with fail
 refine HFP.out.mono ?_
 rintro r w3 ⟨F, c, rfl, hF, hFs, b3⟩
 have HB3 := Lib.hid (HB2.out.trans (b3.mono HB2.out.size))
 have hFF : F = Man.rowE e ∧ c = 0 := by
   have h : Frm.put P = (F.data.toList, c) := hF.out
   rw [Frm.put_good HGD.out] at h
   refine ⟨?_, (congrArg Prod.snd h).symm⟩
   rw [HROW.out]
   exact ba_eq (congrArg Prod.fst h).symm
 obtain ⟨hF1, rfl⟩ := hFF
 rw [← hF1] at HKF
 clear HFP hF b3 HB2 HROW HGD hPs hF1
 obtain ⟨K, hK⟩ : ∃ K, Man.keepF room e fs = K := ⟨_, rfl⟩
 rw [hK] at HRF HKF
 clear hK
 by_cases hal : alone = true ∧ many ≤ 20
 · obtain ⟨ha1, ha2⟩ := hal
   subst ha1
   have ha2i : (many : Int) ≤ 20 := by omega
   replace HKF := Lib.hid (HKF.out.trans (if_pos ⟨rfl, ha2⟩))
   have HAP := Lib.hid (diskAppend_any d room fs ft ⟨#[101, 112, 111, 99, 104]⟩ F w3 (HA.out.next HB3.out).envW (HD.out.next HB3.out) (by decide) (by omega))
   go_wp2_with fail
   refine HAP.out.mono ?_
   rintro r w4 ⟨rfl, hst⟩
   rw [show Dk.append room (⟨#[101, 112, 111, 99, 104]⟩ : ByteArray).data.toList F fs = K from HKF.out.symm] at hst ⊢
   obtain ⟨FK, ck⟩ := K
   simp only at hst HRF ⊢
   obtain ⟨g4, hd4, hf4, hl4, ht4⟩ := (DStep.under HB3.out hst).open
   clear HAP hst HKF
   by_cases hck : ck = 0
   · subst hck
     replace HRF := Lib.hid (HRF.out.trans (if_pos rfl))
     have HS := Lib.hid (diskSync_any d room FK g4 ⟨#[101, 112, 111, 99, 104]⟩ w4 hd4 (by decide))
     have HT := Lib.hid (And.intro ht4 hf4)
     clear hd4 hf4 hl4 ht4
     go_wp2_with fail
     refine HS.out.mono ?_
     rintro r w5 ⟨rfl, hds⟩
     have HDS := Lib.hid (DStep.trans HT.out.1 HT.out.2 hds)
     clear hds HS
     go_wp2
     go_ret
     exact ⟨by rw [HRF.out]; rfl, by rw [HRF.out]; exact HDS.out⟩
   · replace HRF := Lib.hid (HRF.out.trans (if_neg hck))
     have hcb : ((ck : Int) != 0) = true := by rw [bne_iff_ne]; omega
     have HDS := Lib.hid (show DStep d room FK ft w w4 from ⟨g4, hd4, hf4, ht4⟩)
     clear hd4 hf4 hl4 ht4 hck
     go_wp2
     go_ret
     exact ⟨by rw [HRF.out]; rfl, by rw [HRF.out]; exact HDS.out⟩
 · replace HKF := Lib.hid (HKF.out.trans (if_neg hal))
   have HWR := Lib.hid (manWrite_any a d room fs ft ⟨#[101, 112, 111, 99, 104]⟩ F w3 (HA.out.next HB3.out) (HD.out.next HB3.out) (by decide) (by omega))
   have hcs : alone = false ∨ (alone = true ∧ 20 < many) := by
     cases alone with
     | false => exact .inl rfl
     | true => exact .inr ⟨rfl, by
         apply Classical.byContradiction; intro g; exact hal ⟨rfl, by omega⟩⟩
   clear hal
   rcases hcs with hx | ⟨hx, hy⟩
   all_goals subst hx
   all_goals (
     try have hyi : ¬ (many : Int) ≤ 20 := by omega
     go_wp2_with fail
     refine HWR.out.mono ?_
     rintro r w4 ⟨rfl, hst⟩
     rw [show Man.writeM room (⟨#[101, 112, 111, 99, 104]⟩ : ByteArray).data.toList F fs = K from HKF.out.symm] at hst ⊢
     obtain ⟨FK, ck⟩ := K
     simp only at hst HRF ⊢
     obtain ⟨g4, hd4, hf4, hl4, ht4⟩ := (DStep.under HB3.out hst).open
     clear HWR hst HKF
     by_cases hck : ck = 0
     · subst hck
       replace HRF := Lib.hid (HRF.out.trans (if_pos rfl))
       have HS := Lib.hid (diskSync_any d room FK g4 ⟨#[101, 112, 111, 99, 104]⟩ w4 hd4 (by decide))
       have HT := Lib.hid (And.intro ht4 hf4)
       clear hd4 hf4 hl4 ht4
       go_wp2_with fail
       refine HS.out.mono ?_
       rintro r w5 ⟨rfl, hds⟩
       have HDS := Lib.hid (DStep.trans HT.out.1 HT.out.2 hds)
       clear hds HS
       go_wp2
       go_ret
       exact ⟨by rw [HRF.out]; rfl, by rw [HRF.out]; exact HDS.out⟩
     · replace HRF := Lib.hid (HRF.out.trans (if_neg hck))
       have hcb : ((ck : Int) != 0) = true := by rw [bne_iff_ne]; omega
       have HDS := Lib.hid (show DStep d room FK ft w w4 from ⟨g4, hd4, hf4, ht4⟩)
       clear hd4 hf4 hl4 ht4 hck
       go_wp2
       go_ret
       exact ⟨by rw [HRF.out]; rfl, by rw [HRF.out]; exact HDS.out⟩)
end Go.Proofs.YtgddgipjpdjoaaaGreatDoor
