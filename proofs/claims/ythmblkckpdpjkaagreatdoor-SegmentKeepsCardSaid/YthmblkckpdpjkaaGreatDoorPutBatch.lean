/-
  The walk of event.PutBatch: at every batch.
-/
import Derived.Test.YthmblkckpdpjkaaGreatDoorFits
namespace Go.Proofs.YthmblkckpdpjkaaGreatDoor
open Go.RowKit Go.Shelf

theorem putInt_det (n : Int) (w : World) :
    Calls Tryz.prog 142 #[.int .i64 n] w fun e w' => e = .returned (.string ⟨(Num.putInt n).toArray⟩) ∧ Below w.heap.size w w' := by
  refine (putInt_any n w).mono ?_
  rintro e w' ⟨r, rfl, HR, _, hb⟩
  exact ⟨by rw [str_det HR.out], hb⟩
theorem held5 {w0 wa wb : World} {B : Nat} {a1 a2 a3 a4 a5 : Addr} {u1 u2 u3 u4 u5 : Value} (h : wa.cell? a1 = some u1 ∧ wa.cell? a2 = some u2 ∧ wa.cell? a3 = some u3 ∧ wa.cell? a4 = some u4 ∧ wa.cell? a5 = some u5 ∧ Below w0.heap.size w0 wa) (hb : Below B wa wb) (hB : w0.heap.size ≤ B)
    (h1 : a1.block < B) (h2 : a2.block < B) (h3 : a3.block < B) (h4 : a4.block < B) (h5 : a5.block < B) :
    wb.cell? a1 = some u1 ∧ wb.cell? a2 = some u2 ∧ wb.cell? a3 = some u3 ∧ wb.cell? a4 = some u4 ∧ wb.cell? a5 = some u5 ∧ Below w0.heap.size w0 wb :=
  ⟨(hb.cell h1).trans h.1, (hb.cell h2).trans h.2.1, (hb.cell h3).trans h.2.2.1, (hb.cell h4).trans h.2.2.2.1, (hb.cell h5).trans h.2.2.2.2.1, h.2.2.2.2.2.trans (hb.mono hB)⟩
theorem held5n {w0 wa wb : World} {a1 a2 a3 a4 a5 : Addr} {u1 u2 u3 u4 u5 : Value} (h : wa.cell? a1 = some u1 ∧ wa.cell? a2 = some u2 ∧ wa.cell? a3 = some u3 ∧ wa.cell? a4 = some u4 ∧ wa.cell? a5 = some u5 ∧ Below w0.heap.size w0 wa) (hb : Below wa.heap.size wa wb) :
    wb.cell? a1 = some u1 ∧ wb.cell? a2 = some u2 ∧ wb.cell? a3 = some u3 ∧ wb.cell? a4 = some u4 ∧ wb.cell? a5 = some u5 ∧ Below w0.heap.size w0 wb :=
  held5 h hb h.2.2.2.2.2.size (World.block_lt_of_cell? _ _ h.1) (World.block_lt_of_cell? _ _ h.2.1) (World.block_lt_of_cell? _ _ h.2.2.1) (World.block_lt_of_cell? _ _ h.2.2.2.1) (World.block_lt_of_cell? _ _ h.2.2.2.2.1)

set_option maxHeartbeats 4000000 in
set_option maxRecDepth 100000 in
theorem putBatch_any (S : ByteArray) (ex se sq : Int) (v : Value) (es : List Evt.Event) (w : World) (hE : Env w) (hS : S.size ≤ 1000000) (hc : Evs w v es) (hn : es.length ≤ 1000000) (hx : Small es) :
    Calls Tryz.prog 106 #[.agg #[.string S, .int .i64 ex, .int .i64 se, .int .i64 sq, v]] w fun e w' => ∃ r : ByteArray, e = .returned (.string r) ∧ Hid (r.data.toList = Evt.putBatch ⟨S.data.toList, ex, se, sq, es⟩) ∧ Below w.heap.size w w' := by
  have HX := Lib.hid hx
  obtain ⟨sa, sl, sc, rfl, hsl⟩ : ∃ sa sl sc, v = .slice sa sl sc ∧ sl = es.length := by
    rcases cellsNil hc with ⟨h0, a0, c0, rfl⟩ | ⟨b, o, c, rfl⟩
    · exact ⟨a0, 0, c0, rfl, h0.symm⟩
    · exact ⟨_, _, _, rfl, rfl⟩
  have HSL := Lib.hid hsl
  have hsb : sl ≤ 1000000 := by omega
  clear hsl
  have hb0 : Below w.heap.size w (w.alloc (.cells #[.string S, .int .i64 ex, .int .i64 se, .int .i64 sq, .slice sa sl sc] 36)) := (Below.refl _ _).alloc (Nat.le_refl _) _
  have k : (w.alloc (.cells #[.string S, .int .i64 ex, .int .i64 se, .int .i64 sq, .slice sa sl sc] 36)).heap[w.heap.size]? = some (.cells #[.string S, .int .i64 ex, .int .i64 se, .int .i64 sq, .slice sa sl sc] 36 (0, 0)) := heap_alloc_new w _
  have HK := Lib.hid k
  clear k
  have hf := fits_any S ex se sq _ es _ (hE.next hb0) hS (Cells.next hc hb0) hn hx
  obtain ⟨F, hF⟩ : ∃ F, Evt.fits ⟨S.data.toList, ex, se, sq, es⟩ = F := ⟨_, rfl⟩
  rw [hF] at hf
  have HFF := Lib.hid hf
  have HF := Lib.hid hF
  clear hf hF hx
  go_enter Tryz.func106, Tryz.ntmps106
  go_wp2_with fail
  refine HFF.out.mono ?_
  rintro e w1 ⟨rfl, b1⟩
  have hbw := Below.up hb0 (Nat.le_refl _) b1
  have hE1 := hE.next hbw
  have hk := heap_kept b1 (Nat.le_refl _) HK.out
  have HC := Lib.hid hc
  clear HFF HK hb0 b1 hc
  by_cases hF0 : F = 0
  · have hfb : ((F : Int) != 0) = false := by simp [hF0]
    have HP := Lib.hid (show Evt.putBatch ⟨S.data.toList, ex, se, sq, es⟩ = Evt.bytesB ⟨S.data.toList, ex, se, sq, es⟩ by rw [Evt.putBatch, HF.out, if_neg (by simp [hF0])])
    have hfz := Evt.fits_zero (by rw [HF.out]; exact hF0)
    have hlen8 : es.length ≤ 8 := hfz.2.2.2.2.2.1
    have hright := hfz.2.2.2.2.2.2
    have HRT := Lib.hid hright
    clear hF0 HF hfz hright
    obtain ⟨A1, hA1, e1, s1⟩ := str_of (Num.putText S.data.toList)
    obtain ⟨A2, hA2, e2, s2⟩ := str_of (Num.putInt ex)
    obtain ⟨A3, hA3, e3, s3⟩ := str_of (Num.put (Num.held se))
    obtain ⟨A4, hA4, e4, s4⟩ := str_of (Num.put (Num.held sq))
    obtain ⟨A5, hA5, e5, s5⟩ := str_of (Num.put (Num.held sl))
    obtain ⟨B1, _, f1, t1⟩ := str_of (A1.data.toList ++ A2.data.toList)
    obtain ⟨B2, _, f2, t2⟩ := str_of (B1.data.toList ++ A3.data.toList)
    obtain ⟨B3, _, f3, t3⟩ := str_of (B2.data.toList ++ A4.data.toList)
    obtain ⟨B4, _, f4, t4⟩ := str_of (B3.data.toList ++ A5.data.toList)
    have c1 := putText_det S
    have c2 := putInt_det ex
    have c3 := numPut_any se
    have c4 := numPut_any sq
    have c5 := numPut_any (sl : Int)
    rw [hA1] at c1
    rw [hA2] at c2
    rw [hA3] at c3
    rw [hA4] at c4
    rw [hA5] at c5
    have l1 : A1.size ≤ 1000006 := by have := Evt.putText_len S.data.toList; rw [s1]; rw [← Lib.size_eq] at this; omega
    have l2 : A2.size ≤ 6 := by rw [s2]; exact Num.put_le6 _ (Num.zig_le ex)
    have l3 : A3.size ≤ 6 := by rw [s3]; exact Num.put_le6 _ (Num.held_le se)
    have l4 : A4.size ≤ 6 := by rw [s4]; exact Num.put_le6 _ (Num.held_le sq)
    have l5 : A5.size ≤ 6 := by rw [s5]; exact Num.put_le6 _ (Num.held_le sl)
    rw [List.length_append, ← Lib.size_eq, ← Lib.size_eq] at t1 t2 t3 t4
    have a1 : ∀ w, (Op.stringOp .add A1 A2).run Tryz.prog w = .ok (.string B1) w := fun w => add_lists w _ _ _ (by omega) f1.symm
    have a2 : ∀ w, (Op.stringOp .add B1 A3).run Tryz.prog w = .ok (.string B2) w := fun w => add_lists w _ _ _ (by omega) f2.symm
    have a3 : ∀ w, (Op.stringOp .add B2 A4).run Tryz.prog w = .ok (.string B3) w := fun w => add_lists w _ _ _ (by omega) f3.symm
    have a4 : ∀ w, (Op.stringOp .add B3 A5).run Tryz.prog w = .ok (.string B4) w := fun w => add_lists w _ _ _ (by omega) f4.symm
    have hB4 : B4.size ≤ 1000100 := by omega
    have HB := Lib.hid (show B4.data.toList ++ (es.drop 0).flatMap Evt.bytesE = Evt.putBatch ⟨S.data.toList, ex, se, sq, es⟩ by
      rw [HP.out, Evt.bytesB, f4, f3, f2, f1, e1, e2, e3, e4, e5, HSL.out]; simp)
    clear e1 e2 e3 e4 e5 s1 s2 s3 s4 s5 f1 f2 f3 f4 t1 t2 t3 t4 hA1 hA2 hA3 hA4 hA5 HP
    have hlt : w.heap.size < w1.heap.size := (Array.getElem?_eq_some_iff.1 hk).1
    have kk := (Below.heap_alloc w1 (.cells #[.pointer none, .slice none 0 0] 153) _ hlt).trans hk
    have hI := bld_fresh w1
    have hbw2 : Below w.heap.size w (w1.alloc (.cells #[.pointer none, .slice none 0 0] 153)) := hbw.alloc hbw.size _
    have hE2 := hE1.next ((Below.refl _ w1).alloc (Nat.le_refl _) (.cells #[.pointer none, .slice none 0 0] 153))
    have hsz2 : (w1.alloc (.cells #[.pointer none, .slice none 0 0] 153)).heap.size = w1.heap.size + 1 := by simp
    clear hk
    go_wp2
    obtain ⟨W, hW⟩ : ∃ W, w1.alloc (.cells #[.pointer none, .slice none 0 0] 153) = W := ⟨_, rfl⟩
    rw [hW] at hI kk hbw2 hE2 hsz2 ⊢
    clear hW
    have k0 : W.cell? ⟨w.heap.size, 0, none⟩ = some (.string S) := by rw [Lib.cell_of_heap kk]; rfl
    have k1 : W.cell? ⟨w.heap.size, 1, none⟩ = some (.int .i64 ex) := by rw [Lib.cell_of_heap kk]; rfl
    have k2 : W.cell? ⟨w.heap.size, 2, none⟩ = some (.int .i64 se) := by rw [Lib.cell_of_heap kk]; rfl
    have k3 : W.cell? ⟨w.heap.size, 3, none⟩ = some (.int .i64 sq) := by rw [Lib.cell_of_heap kk]; rfl
    have k4 : W.cell? ⟨w.heap.size, 4, none⟩ = some (.slice sa sl sc) := by rw [Lib.cell_of_heap kk]; rfl
    have hI : Bld w1.heap.size w1.heap.size [] W.drew := hI.next ((Below.refl _ W).drew)
    have hz : w1.heap.size ≤ W.drew.heap.size := by show w1.heap.size ≤ W.heap.size; omega
    have hbs := hbw.size
    clear kk hE1
    go_region_held3 (fun w' => w'.cell? ⟨w.heap.size, 0, none⟩ = some (.string S) ∧ w'.cell? ⟨w.heap.size, 1, none⟩ = some (.int .i64 ex) ∧ w'.cell? ⟨w.heap.size, 2, none⟩ = some (.int .i64 se) ∧ w'.cell? ⟨w.heap.size, 3, none⟩ = some (.int .i64 sq) ∧ w'.cell? ⟨w.heap.size, 4, none⟩ = some (.slice sa sl sc) ∧ Below w.heap.size w w')
      (first | exact ⟨k0, k1, k2, k3, k4, hbw2.drew⟩ | exact held5n (by assumption) hb | exact held5 (by assumption) hb hbs hlt hlt hlt hlt hlt)
      (first
        | (go_at_call 141; refine (c1 _ (by omega)).mono ?_; rintro e w' ⟨rfl, hb⟩; have hI := hI.next hb; have hz := Nat.le_trans hz hb.size)
        | (go_at_call 142; refine (c2 _).mono ?_; rintro e w' ⟨rfl, hb⟩; have hI := hI.next hb; have hz := Nat.le_trans hz hb.size)
        | (go_at_call_of 77 (Value.int .i64 se); refine (c3 _).mono ?_; rintro e w' ⟨rfl, hb⟩; have hI := hI.next hb; have hz := Nat.le_trans hz hb.size)
        | (go_at_call_of 77 (Value.int .i64 sq); refine (c4 _).mono ?_; rintro e w' ⟨rfl, hb⟩; have hI := hI.next hb; have hz := Nat.le_trans hz hb.size)
        | (go_at_call_of 77 (Value.int .i64 (sl : Int)); refine (c5 _).mono ?_; rintro e w' ⟨rfl, hb⟩; have hI := hI.next hb; have hz := Nat.le_trans hz hb.size)
        | (go_at_call 111; refine (writeString w1.heap.size w1.heap.size [] B4 _ hI (by simp; omega) hz).mono ?_; rintro e w' ⟨rfl, hI, hb, _⟩))
    have hq : w'.cell? ⟨w.heap.size, 0, none⟩ = some (.string S) ∧ w'.cell? ⟨w.heap.size, 1, none⟩ = some (.int .i64 ex) ∧ w'.cell? ⟨w.heap.size, 2, none⟩ = some (.int .i64 se) ∧ w'.cell? ⟨w.heap.size, 3, none⟩ = some (.int .i64 sq) ∧ w'.cell? ⟨w.heap.size, 4, none⟩ = some (.slice sa sl sc) ∧ Below w.heap.size w w' := by assumption
    have hk4 := hq.2.2.2.2.1
    have hbN := hq.2.2.2.2.2
    have hz' := Nat.le_trans hz hb.size
    rw [List.nil_append] at hI
    have h0 : B4.data.toList.length ≤ 1000100 := by rw [← Lib.size_eq]; exact hB4
    clear hq c1 c2 c3 c4 c5 a1 a2 a3 a4 k0 k1 k2 k3 k4
    go_wp2
    go_loopw [33] (fun lv wr => ∃ (i : Nat) (acc : List UInt8), lv = .int .i64 i ∧ Bld w1.heap.size w1.heap.size acc wr ∧ Below w.heap.size w wr ∧ w1.heap.size ≤ wr.heap.size ∧ acc ++ (es.drop i).flatMap Evt.bytesE = Evt.putBatch ⟨S.data.toList, ex, se, sq, es⟩ ∧ acc.length ≤ 1000100 + i * 340 ∧ i ≤ sl) (fun lv _ => sl - (intOf lv).toNat)
    case atStart => exact ⟨0, B4.data.toList, rfl, hI, hbN, hz', HB.out, by omega, by omega⟩
    case round =>
      obtain ⟨i, acc, rfl, hIr, hbr, hzr, hacc, hal, hi⟩ := hrel
      have HA := Lib.hid hacc
      clear hacc
      by_cases hp : i < sl
      · obtain ⟨b, o, c, hv, hc1, hc2⟩ := evAt HC.out i (by rw [← HSL.out]; exact hp)
        cases hv
        have hc1 := cell_kept hbr (Nat.le_refl _) hc1
        have hc2 := cell_kept hbr (Nat.le_refl _) hc2
        have hlt2 : i < es.length := by rw [← HSL.out]; exact hp
        have hsm := HRT.out _ (List.getElem_mem hlt2)
        have hdr : es.drop i = es[i] :: es.drop (i + 1) := List.drop_eq_getElem_cons hlt2
        obtain ⟨x, hx⟩ : ∃ x, es[i] = x := ⟨_, rfl⟩
        rw [hx] at hc1 hc2 hsm hdr
        obtain ⟨K, hK, hK2, hK3⟩ := str_of x.kind
        obtain ⟨D, hD, hD2, hD3⟩ := str_of x.data
        rw [hK] at hc1
        rw [hD] at hc2
        have hr := Evt.right_len hsm
        have hKs : K.size ≤ 128 := by rw [hK3]; exact hr.1
        have hDs : D.size ≤ 200 := by rw [hD3]; exact hr.2
        have HR := Lib.hid (show acc ++ (Evt.bytesE ⟨K.data.toList, D.data.toList⟩ ++ (es.drop (i + 1)).flatMap Evt.bytesE) = Evt.putBatch ⟨S.data.toList, ex, se, sq, es⟩ by rw [← HA.out, hdr, hK2, hD2]; rfl)
        clear hsm hdr hx hK hD hK2 hD2 hK3 hD3 hr HA hlt2
        go_wp2_with fail
        refine (eventBytes_any K D _ (by omega) (by omega)).mono ?_
        rintro e w2 ⟨r, rfl, HB2, hrs, b2⟩
        have hI2 := (hIr.alloc (.cells #[.string K, .string D] 77)).next b2
        have hbw2 := Below.up (hbr.alloc hbr.size (.cells #[.string K, .string D] 77)) (Nat.le_refl _) b2
        have hz2 : w1.heap.size ≤ w2.heap.size := by have := b2.size; simp at this; omega
        clear b2
        go_wp2_with fail
        refine (writeString w1.heap.size w1.heap.size acc r w2 hI2 (by omega) hz2).mono ?_
        rintro e w3 ⟨rfl, h3, b3, _⟩
        have hbw3 : Below w.heap.size w w3 := hbw2.trans (b3.mono hbs)
        have hz3 := Nat.le_trans hz2 b3.size
        have HN := Lib.hid (show (acc ++ r.data.toList) ++ (es.drop (i + 1)).flatMap Evt.bytesE = Evt.putBatch ⟨S.data.toList, ex, se, sq, es⟩ by rw [← HR.out, HB2.out]; simp)
        have hl3 : (acc ++ r.data.toList).length ≤ 1000100 + (i + 1) * 340 := by rw [List.length_append, ← Lib.size_eq]; omega
        clear HR HB2 b3
        go_wp2
        exact ⟨⟨i + 1, _, by go_num, h3, hbw3, hz3, HN.out, hl3, by omega⟩, by simp [intOf]; omega⟩
      · obtain rfl : i = sl := by omega
        have HQ := Lib.hid (show acc = Evt.putBatch ⟨S.data.toList, ex, se, sq, es⟩ by rw [← HA.out, HSL.out, List.drop_length]; simp)
        clear HA
        go_wp2_with fail
        refine (bldString w1.heap.size w1.heap.size _ _ hIr hzr).mono ?_
        rintro e w3 ⟨rfl, b3⟩
        go_wp2
        go_ret
        exact ⟨_, rfl, HQ.out, hbr.trans (b3.mono hbs)⟩
  · have hfb : ((F : Int) != 0) = true := by simp; omega
    have HP := Lib.hid (show Evt.putBatch ⟨S.data.toList, ex, se, sq, es⟩ = [] by rw [Evt.putBatch, HF.out, if_pos hF0])
    clear hF0 HF
    go_wp2
    go_ret
    exact ⟨_, rfl, by rw [HP.out]; rfl, hbw⟩
end Go.Proofs.YthmblkckpdpjkaaGreatDoor
