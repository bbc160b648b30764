/-
  The walks of the document's answer to layer 5 (bucketlineref5): bytes, PutBatch, parts.
-/
import Derived.Test.YtiaddfghojdgkaaGreatDoorREvt
namespace Go.Proofs.YtiaddfghojdgkaaGreatDoor
open Go.RowKit Go.Shelf

theorem rputText_det (s : ByteArray) (w : World) (hs : s.size ≤ 1000000000000) :
    Calls Tryz.prog 283 #[.string s] w fun e w' => e = .returned (.string ⟨(Num.putText s.data.toList).toArray⟩) ∧ Below w.heap.size w w' := by
  refine (rputText_any s w hs).mono ?_
  rintro e w' ⟨r, rfl, HR, _, hb⟩
  exact ⟨by rw [str_det HR.out], hb⟩
theorem rputInt_det (n : Int) (w : World) :
    Calls Tryz.prog 324 #[.int .i64 n] w fun e w' => e = .returned (.string ⟨(Num.putInt n).toArray⟩) ∧ Below w.heap.size w w' := by
  refine (rputInt_any n w).mono ?_
  rintro e w' ⟨r, rfl, HR, _, hb⟩
  exact ⟨by rw [str_det HR.out], hb⟩
theorem rput_det (n : Int) (w : World) :
    Calls Tryz.prog 166 #[.int .i64 n] w fun e w' => e = .returned (.string ⟨(Num.put (Num.held n)).toArray⟩) ∧ Below w.heap.size w w' := by
  refine (rput_any n w).mono ?_
  rintro e w' ⟨r, rfl, HR, _, hb⟩
  exact ⟨by rw [str_det HR.out], hb⟩
set_option maxHeartbeats 1000000 in
set_option maxRecDepth 100000 in
theorem rbytes_any (k d : ByteArray) (w : World) (hk : k.size ≤ 1000000) (hd : d.size ≤ 1000000) :
    Calls Tryz.prog 325 #[.agg #[.string k, .string d]] w fun e w' => ∃ r : ByteArray, e = .returned (.string r) ∧ Hid (r.data.toList = Evt.bytesE ⟨k.data.toList, d.data.toList⟩) ∧ r.size ≤ k.size + d.size + 12 ∧ Below w.heap.size w w' := by
  obtain ⟨A, hA, hA2, hA3⟩ := str_of (Num.putText k.data.toList)
  obtain ⟨B, hB, hB2, hB3⟩ := str_of (Num.putText d.data.toList)
  obtain ⟨R, hR, hR2, hR3⟩ := str_of (Evt.bytesE ⟨k.data.toList, d.data.toList⟩)
  have c1 := rputText_det k
  have c2 := rputText_det d
  rw [hA] at c1
  rw [hB] at c2
  have l1 := Evt.putText_len k.data.toList
  have l2 := Evt.putText_len d.data.toList
  rw [← hA3, ← Lib.size_eq] at l1
  rw [← hB3, ← Lib.size_eq] at l2
  have hadd : ∀ w, (Op.stringOp .add A B).run Tryz.prog w = .ok (.string R) w := fun w => add_lists w A B R (by omega) (by rw [hA2, hB2, hR2]; rfl)
  have hRs : R.size ≤ k.size + d.size + 12 := by rw [hR3]; simp only [Evt.bytesE, List.length_append]; rw [← hA3, ← hB3]; omega
  have HR := Lib.hid hR2
  clear hA hB hA2 hB2 hA3 hB3 hR hR2 hR3
  go_enter Tryz.func325, Tryz.ntmps325
  go_wp2
  have h0 : (w.alloc (.cells #[.string k, .string d] 222)).cell? ⟨w.heap.size, 0, none⟩ = some (.string k) := by simp
  have h1 : (w.alloc (.cells #[.string k, .string d] 222)).cell? ⟨w.heap.size, 1, none⟩ = some (.string d) := by simp
  have hb0 : Below w.heap.size w (w.alloc (.cells #[.string k, .string d] 222)) := (Below.refl _ _).alloc (Nat.le_refl _) _
  obtain ⟨W, hW⟩ : ∃ W, w.alloc (.cells #[.string k, .string d] 222) = W := ⟨_, rfl⟩
  rw [hW] at h0 h1 hb0 ⊢
  clear hW
  go_region_held3 (fun w' => w'.cell? ⟨w.heap.size, 0, none⟩ = some (.string k) ∧ w'.cell? ⟨w.heap.size, 1, none⟩ = some (.string d) ∧ Below w.heap.size w w') (first | exact ⟨h0, h1, hb0.drew⟩ | exact held2 (by assumption) hb)
    (first | (go_at_call 283; refine (c1 _ (by omega)).mono ?_; rintro e w' ⟨rfl, hb⟩) | (go_at_call 283; refine (c2 _ (by omega)).mono ?_; rintro e w' ⟨rfl, hb⟩))
  go_wp2
  go_ret
  exact ⟨R, rfl, HR, hRs, And.right (And.right (by assumption))⟩
theorem bytesE_len (x : Evt.Event) (h : Evt.right x = true) : (Evt.bytesE x).length ≤ 340 := by
  have h2 : x.data.length ≤ 200 ∧ Txt.name x.kind = true := by simpa [Evt.right] using h
  have h3 := Evt.name_len h2.2
  have h4 := Evt.putText_len x.kind
  have h5 := Evt.putText_len x.data
  simp only [Evt.bytesE, List.length_append]
  omega
set_option maxHeartbeats 4000000 in
set_option maxRecDepth 100000 in
theorem rputBatch_any (S : ByteArray) (ex se sq : Int) (v : Value) (es : List Evt.Event) (w : World) (hS : S.size ≤ 1000000) (hc : Evs w v es) (hn : es.length ≤ 1000000) (hx : Small es) :
    Calls Tryz.prog 256 #[.agg #[.string S, .int .i64 ex, .int .i64 se, .int .i64 sq, v]] w fun e w' => ∃ r : ByteArray, e = .returned (.string r) ∧ Hid (r.data.toList = Evt.putBatch ⟨S.data.toList, ex, se, sq, es⟩) ∧ Below w.heap.size w w' := by
  obtain ⟨sa, sc, rfl⟩ := cells_sliceV hc
  obtain ⟨W, hW⟩ : ∃ W, W = w.alloc (.cells #[.string S, .int .i64 ex, .int .i64 se, .int .i64 sq, .slice sa es.length sc] 59) := ⟨_, rfl⟩
  have hb0 : Below w.heap.size w W := by rw [hW]; exact (Below.refl _ _).alloc (Nat.le_refl _) _
  have hG : W.heap[w.heap.size]? = some (.cells #[.string S, .int .i64 ex, .int .i64 se, .int .i64 sq, .slice sa es.length sc] 59 (0, 0)) := by rw [hW]; exact heap_alloc_new w _
  have g0 : W.cell? ⟨w.heap.size, 0, none⟩ = some (.string S) := by rw [Lib.cell_of_heap hG]; rfl
  have g1 : W.cell? ⟨w.heap.size, 1, none⟩ = some (.int .i64 ex) := by rw [Lib.cell_of_heap hG]; rfl
  have g2 : W.cell? ⟨w.heap.size, 2, none⟩ = some (.int .i64 se) := by rw [Lib.cell_of_heap hG]; rfl
  have g3 : W.cell? ⟨w.heap.size, 3, none⟩ = some (.int .i64 sq) := by rw [Lib.cell_of_heap hG]; rfl
  have g4 : W.cell? ⟨w.heap.size, 4, none⟩ = some (.slice sa es.length sc) := by rw [Lib.cell_of_heap hG]; rfl
  have HG := Lib.hid hG
  have HW := Lib.hid hW
  have hf := rfits_any S ex se sq _ es W hS (Cells.next hc hb0) hn hx
  obtain ⟨F, hF⟩ : ∃ F, Evt.fits ⟨S.data.toList, ex, se, sq, es⟩ = F := ⟨_, rfl⟩
  rw [hF] at hf
  have HFF := Lib.hid hf
  have HF := Lib.hid hF
  have HC := Lib.hid (Cells.next hc hb0)
  clear hf hF hx hG hW hc
  go_enter Tryz.func256, Tryz.ntmps256
  go_upto_region 1 with fail
  rw [← HW.out]
  go_wp2_with fail
  refine HFF.out.mono ?_
  rintro e w1 ⟨rfl, b1⟩
  have hbw := Below.up hb0 (Nat.le_refl _) b1
  have hk := heap_kept b1 (Nat.le_refl _) HG.out
  have HC1 := Lib.hid (Cells.next HC.out b1)
  clear HFF HG hb0 b1 HC g0 g1 g2 g3 g4 HW
  by_cases hF0 : F = 0
  · have hfb : ((F : Int) != 0) = false := by simp [hF0]
    have HP := Lib.hid (show Evt.putBatch ⟨S.data.toList, ex, se, sq, es⟩ = Evt.bytesB ⟨S.data.toList, ex, se, sq, es⟩ by rw [Evt.putBatch, HF.out, if_neg (by simp [hF0])])
    have hfz := Evt.fits_zero (by rw [HF.out]; exact hF0)
    have hlen8 : es.length ≤ 8 := hfz.2.2.2.2.2.1
    have HRT := Lib.hid hfz.2.2.2.2.2.2
    clear hF0 HF hfz
    obtain ⟨A1, hA1, e1, s1⟩ := str_of (Num.putText S.data.toList)
    obtain ⟨A2, hA2, e2, s2⟩ := str_of (Num.putInt ex)
    obtain ⟨A3, hA3, e3, s3⟩ := str_of (Num.put (Num.held se))
    obtain ⟨A4, hA4, e4, s4⟩ := str_of (Num.put (Num.held sq))
    obtain ⟨A5, hA5, e5, s5⟩ := str_of (Num.put (Num.held (es.length : Int)))
    obtain ⟨B1, _, f1, t1⟩ := str_of (A1.data.toList ++ A2.data.toList)
    obtain ⟨B2, _, f2, t2⟩ := str_of (B1.data.toList ++ A3.data.toList)
    obtain ⟨B3, _, f3, t3⟩ := str_of (B2.data.toList ++ A4.data.toList)
    obtain ⟨B4, _, f4, t4⟩ := str_of (B3.data.toList ++ A5.data.toList)
    have c1 := rputText_det S
    have c2 := rputInt_det ex
    have c3 := rput_det se
    have c4 := rput_det sq
    have c5 := rput_det (es.length : Int)
    rw [hA1] at c1
    rw [hA2] at c2
    rw [hA3] at c3
    rw [hA4] at c4
    rw [hA5] at c5
    have l1 : A1.size ≤ 1000006 := by have := Evt.putText_len S.data.toList; rw [s1]; rw [← Lib.size_eq] at this; omega
    have l2 : A2.size ≤ 6 := by rw [s2]; exact Num.put_le6 _ (Num.zig_le ex)
    have l3 : A3.size ≤ 6 := by rw [s3]; exact Num.put_le6 _ (Num.held_le se)
    have l4 : A4.size ≤ 6 := by rw [s4]; exact Num.put_le6 _ (Num.held_le sq)
    have l5 : A5.size ≤ 6 := by rw [s5]; exact Num.put_le6 _ (Num.held_le _)
    rw [List.length_append, ← Lib.size_eq, ← Lib.size_eq] at t1 t2 t3 t4
    have a1 : ∀ w, (Op.stringOp .add A1 A2).run Tryz.prog w = .ok (.string B1) w := fun w => add_lists w _ _ _ (by omega) f1.symm
    have a2 : ∀ w, (Op.stringOp .add B1 A3).run Tryz.prog w = .ok (.string B2) w := fun w => add_lists w _ _ _ (by omega) f2.symm
    have a3 : ∀ w, (Op.stringOp .add B2 A4).run Tryz.prog w = .ok (.string B3) w := fun w => add_lists w _ _ _ (by omega) f3.symm
    have a4 : ∀ w, (Op.stringOp .add B3 A5).run Tryz.prog w = .ok (.string B4) w := fun w => add_lists w _ _ _ (by omega) f4.symm
    have hB4 : B4.size ≤ 1000100 := by omega
    have HB := Lib.hid (show B4.data.toList ++ (es.drop 0).flatMap Evt.bytesE = Evt.putBatch ⟨S.data.toList, ex, se, sq, es⟩ by
      rw [HP.out, Evt.bytesB, f4, f3, f2, f1, e1, e2, e3, e4, e5]; simp)
    clear e1 e2 e3 e4 e5 s1 s2 s3 s4 s5 f1 f2 f3 f4 t1 t2 t3 t4 hA1 hA2 hA3 hA4 hA5 HP
    have k0 : w1.cell? ⟨w.heap.size, 0, none⟩ = some (.string S) := by rw [Lib.cell_of_heap hk]; rfl
    have k1 : w1.cell? ⟨w.heap.size, 1, none⟩ = some (.int .i64 ex) := by rw [Lib.cell_of_heap hk]; rfl
    have k2 : w1.cell? ⟨w.heap.size, 2, none⟩ = some (.int .i64 se) := by rw [Lib.cell_of_heap hk]; rfl
    have k3 : w1.cell? ⟨w.heap.size, 3, none⟩ = some (.int .i64 sq) := by rw [Lib.cell_of_heap hk]; rfl
    have k4 : w1.cell? ⟨w.heap.size, 4, none⟩ = some (.slice sa es.length sc) := by rw [Lib.cell_of_heap hk]; rfl
    clear hk
    go_upto_region 3 with fail
    go_region_held3 (fun w' => w'.cell? ⟨w.heap.size, 0, none⟩ = some (.string S) ∧ w'.cell? ⟨w.heap.size, 1, none⟩ = some (.int .i64 ex) ∧ w'.cell? ⟨w.heap.size, 2, none⟩ = some (.int .i64 se) ∧ w'.cell? ⟨w.heap.size, 3, none⟩ = some (.int .i64 sq) ∧ w'.cell? ⟨w.heap.size, 4, none⟩ = some (.slice sa es.length sc) ∧ Below w1.heap.size w1 w')
      (first | exact ⟨k0, k1, k2, k3, k4, (Below.refl _ w1).drew⟩ | exact held5n (by assumption) hb)
      (first
        | (go_at_call 283; refine (c1 _ (by omega)).mono ?_; rintro e w' ⟨rfl, hb⟩)
        | (go_at_call 324; refine (c2 _).mono ?_; rintro e w' ⟨rfl, hb⟩)
        | (go_at_call_of 166 (Value.int .i64 se); refine (c3 _).mono ?_; rintro e w' ⟨rfl, hb⟩)
        | (go_at_call_of 166 (Value.int .i64 sq); refine (c4 _).mono ?_; rintro e w' ⟨rfl, hb⟩)
        | (go_at_call_of 166 (Value.int .i64 (es.length : Int)); refine (c5 _).mono ?_; rintro e w' ⟨rfl, hb⟩))
    have hq : w'.cell? ⟨w.heap.size, 0, none⟩ = some (.string S) ∧ w'.cell? ⟨w.heap.size, 1, none⟩ = some (.int .i64 ex) ∧ w'.cell? ⟨w.heap.size, 2, none⟩ = some (.int .i64 se) ∧ w'.cell? ⟨w.heap.size, 3, none⟩ = some (.int .i64 sq) ∧ w'.cell? ⟨w.heap.size, 4, none⟩ = some (.slice sa es.length sc) ∧ Below w1.heap.size w1 w' := by assumption
    have hk4 := hq.2.2.2.2.1
    have hbN := hq.2.2.2.2.2
    have HQ := Lib.hid hq
    have HCN := Lib.hid (Cells.next HC1.out hbN)
    have HBN := Lib.hid (Below.up hbw (Nat.le_refl _) hbN)
    clear hq c1 c2 c3 c4 c5 a1 a2 a3 a4 k0 k1 k2 k3 k4 hb hbN HQ
    go_wp2
    go_loopw [3, 4] (fun sv lv wr => ∃ (i : Nat) (X : ByteArray), sv = .string X ∧ lv = .int .i64 i ∧ i ≤ es.length ∧ Below w'.heap.size w' wr ∧ Hid (X.data.toList ++ (es.drop i).flatMap Evt.bytesE = Evt.putBatch ⟨S.data.toList, ex, se, sq, es⟩) ∧ X.size ≤ 1000100 + i * 340) (fun _ lv _ => es.length - (intOf lv).toNat)
    case atStart => exact ⟨0, B4, rfl, rfl, by omega, Below.refl _ _, HB, by omega⟩
    case round =>
      obtain ⟨i, X, rfl, rfl, hi, hbr, hacc, hal⟩ := hrel
      have hk4 := cell_kept hbr (Nat.le_refl _) hk4
      by_cases hp : i < es.length
      · obtain ⟨b, o, c, hv, hc1, hc2⟩ := evAt (Cells.next HCN.out hbr) i hp
        cases hv
        have hsm := HRT.out _ (List.getElem_mem hp)
        have hdr : es.drop i = es[i] :: es.drop (i + 1) := List.drop_eq_getElem_cons hp
        obtain ⟨x, hx⟩ : ∃ x, es[i] = x := ⟨_, rfl⟩
        rw [hx] at hc1 hc2 hsm hdr
        have hxl := bytesE_len x hsm
        have hxn : x.data.length ≤ 200 ∧ Txt.name x.kind = true := by simpa [Evt.right] using hsm
        have hxk := Evt.name_len hxn.2
        obtain ⟨K, hK, hK2, hK3⟩ := str_of x.kind
        obtain ⟨D, hD, hD2, hD3⟩ := str_of x.data
        rw [hK] at hc1
        rw [hD] at hc2
        have HBY := rbytes_any K D wr (by omega) (by omega)
        rw [hK2, hD2] at HBY
        have HBY := Lib.hid HBY
        have HX := Lib.hid (show X.data.toList ++ (Evt.bytesE ⟨x.kind, x.data⟩ ++ (es.drop (i + 1)).flatMap Evt.bytesE) = Evt.putBatch ⟨S.data.toList, ex, se, sq, es⟩ by rw [← hacc.out, hdr]; rfl)
        have hxl2 : (Evt.bytesE ⟨x.kind, x.data⟩).length ≤ 340 := hxl
        clear hx hdr hacc hK hD hK2 hD2 hK3 hD3 hsm hxn hxk hxl
        go_wp2_with fail
        refine HBY.out.mono ?_
        rintro e w3 ⟨r, rfl, HR, _, b3⟩
        have hbr2 := Below.up hbr (Nat.le_refl _) b3
        obtain ⟨Y, _, hY2, hY3⟩ := str_of (X.data.toList ++ r.data.toList)
        have hrl : r.size ≤ 340 := by rw [Lib.size_eq, HR.out]; exact hxl2
        rw [List.length_append, ← Lib.size_eq, ← Lib.size_eq] at hY3
        have hadd : ∀ w, (Op.stringOp .add X r).run Tryz.prog w = .ok (.string Y) w := fun w => add_lists w X r Y (by omega) hY2.symm
        have HN := Lib.hid (show Y.data.toList ++ (es.drop (i + 1)).flatMap Evt.bytesE = Evt.putBatch ⟨S.data.toList, ex, se, sq, es⟩ by rw [← HX.out, hY2, HR.out, List.append_assoc])
        have hYs : Y.size ≤ 1000100 + (i + 1) * 340 := by omega
        clear HBY HX HR b3 hY2 hY3 hxl2
        go_wp2
        exact ⟨⟨i + 1, Y, rfl, by go_num, by omega, hbr2, HN, hYs⟩, by simp [intOf]; omega⟩
      · obtain rfl : i = es.length := by omega
        have HR := Lib.hid (show X.data.toList = Evt.putBatch ⟨S.data.toList, ex, se, sq, es⟩ by rw [← hacc.out, List.drop_length]; simp)
        clear hacc
        go_wp2
        go_ret
        exact ⟨X, rfl, HR, Below.up HBN.out (Nat.le_refl _) hbr⟩
  · have hfb : ((F : Int) != 0) = true := by simp; omega
    have HP := Lib.hid (show Evt.putBatch ⟨S.data.toList, ex, se, sq, es⟩ = [] by rw [Evt.putBatch, HF.out, if_pos hF0])
    clear HF hF0
    go_wp2
    go_ret
    exact ⟨_, rfl, Lib.hid HP.out.symm, hbw⟩
end Go.Proofs.YtiaddfghojdgkaaGreatDoor
