/-
  The walks of the document's answer to layer 6 (bucketlineref6): Right, Put, Follows.
-/
import Derived.Test.YtiaddfghojdgkaaGreatDoorREvp
namespace Go.Proofs.YtiaddfghojdgkaaGreatDoor
open Go.RowKit Go.Shelf

set_option maxHeartbeats 2000000 in
set_option maxRecDepth 100000 in
theorem rrecRight_any (p ep : Int) (S : ByteArray) (ex se sq : Int) (v : Value) (es : List Evt.Event) (w : World) (hS : S.size ≤ 1000000) (hc : Evs w v es) (hn : es.length ≤ 1000000) (hx : Small es) :
    Calls Tryz.prog 165 #[.agg #[.int .i64 p, .int .i64 ep, .string S, .int .i64 ex, .int .i64 se, .int .i64 sq, v]] w fun e w' => e = .returned (.bool (Evt.rightN ⟨p, ep, ⟨S.data.toList, ex, se, sq, es⟩⟩)) ∧ Below w.heap.size w w' := by
  obtain ⟨sa, sl, sc, rfl⟩ := evs_slice hc
  have hb0 : Below w.heap.size w (w.alloc (.cells #[.int .i64 p, .int .i64 ep, .string S, .int .i64 ex, .int .i64 se, .int .i64 sq, .slice sa sl sc] 61)) := (Below.refl _ _).alloc (Nat.le_refl _) _
  have HFI := Lib.hid (rfits_any S ex se sq _ es (w.alloc (.cells #[.int .i64 p, .int .i64 ep, .string S, .int .i64 ex, .int .i64 se, .int .i64 sq, .slice sa sl sc] 61)) hS (Cells.next hc hb0) hn hx)
  have HR := Lib.hid (show Evt.rightN ⟨p, ep, ⟨S.data.toList, ex, se, sq, es⟩⟩ = (decide (1 ≤ p) && decide (p ≤ 274877906944) && (decide (1 ≤ ep) && decide (ep ≤ 274877906944)) && (Evt.fits ⟨S.data.toList, ex, se, sq, es⟩ == 0)) from rfl)
  obtain ⟨R, hR⟩ : ∃ R, Evt.rightN ⟨p, ep, ⟨S.data.toList, ex, se, sq, es⟩⟩ = R := ⟨_, rfl⟩
  obtain ⟨F, hF⟩ : ∃ F, Evt.fits ⟨S.data.toList, ex, se, sq, es⟩ = F := ⟨_, rfl⟩
  rw [hF] at HFI HR
  rw [hR] at HR ⊢
  clear hR hF hx hc
  by_cases h1 : (1 : Int) ≤ p
  · by_cases h2 : p ≤ 274877906944
    · by_cases h3 : (1 : Int) ≤ ep
      · by_cases h4 : ep ≤ 274877906944
        · have HN := Lib.hid (show R = (F == 0) by rw [HR.out, decide_eq_true h1, decide_eq_true h2, decide_eq_true h3, decide_eq_true h4]; rfl)
          clear HR
          go_enter Tryz.func165, Tryz.ntmps165
          go_wp2_with fail
          refine HFI.out.mono ?_
          rintro e w1 ⟨rfl, b1⟩
          go_wp2
          go_ret
          refine ⟨ret_bool ?_, Below.up hb0 (Nat.le_refl _) b1⟩
          rw [HN.out]
          exact beq_of (by simp)
        · have HN := Lib.hid (show R = false by rw [HR.out, decide_eq_false h4]; simp)
          clear HR
          go_enter Tryz.func165, Tryz.ntmps165
          go_wp2
          go_ret
          exact ⟨ret_bool HN.out.symm, hb0⟩
      · have HN := Lib.hid (show R = false by rw [HR.out, decide_eq_false h3]; simp)
        clear HR
        go_enter Tryz.func165, Tryz.ntmps165
        go_wp2
        go_ret
        exact ⟨ret_bool HN.out.symm, hb0⟩
    · have HN := Lib.hid (show R = false by rw [HR.out, decide_eq_false h2]; simp)
      clear HR
      go_enter Tryz.func165, Tryz.ntmps165
      go_wp2
      go_ret
      exact ⟨ret_bool HN.out.symm, hb0⟩
  · have HN := Lib.hid (show R = false by rw [HR.out, decide_eq_false h1]; simp)
    clear HR
    go_enter Tryz.func165, Tryz.ntmps165
    go_wp2
    go_ret
    exact ⟨ret_bool HN.out.symm, hb0⟩
theorem rputBatch_det (S : ByteArray) (ex se sq : Int) (v : Value) (es : List Evt.Event) (w : World) (hS : S.size ≤ 1000000) (hc : Evs w v es) (hn : es.length ≤ 1000000) (hx : Small es) :
    Calls Tryz.prog 256 #[.agg #[.string S, .int .i64 ex, .int .i64 se, .int .i64 sq, v]] w fun e w' => e = .returned (.string ⟨(Evt.putBatch ⟨S.data.toList, ex, se, sq, es⟩).toArray⟩) ∧ Below w.heap.size w w' := by
  refine (rputBatch_any S ex se sq v es w hS hc hn hx).mono ?_
  rintro e w' ⟨r, rfl, HR, hb⟩
  exact ⟨by rw [str_det HR.out], hb⟩
set_option maxHeartbeats 4000000 in
set_option maxRecDepth 100000 in
theorem rrecPut_any (p ep : Int) (S : ByteArray) (ex se sq : Int) (v : Value) (es : List Evt.Event) (w : World) (hS : S.size ≤ 1000000) (hc : Evs w v es) (hn : es.length ≤ 1000000) (hx : Small es) :
    Calls Tryz.prog 167 #[.agg #[.int .i64 p, .int .i64 ep, .string S, .int .i64 ex, .int .i64 se, .int .i64 sq, v]] w fun e w' => ∃ r : ByteArray, e = .returned (.string r) ∧ Hid (r.data.toList = Evt.put ⟨p, ep, ⟨S.data.toList, ex, se, sq, es⟩⟩) ∧ Below w.heap.size w w' := by
  obtain ⟨sa, sl, sc, rfl⟩ := evs_slice hc
  have hb0 : Below w.heap.size w (w.alloc (.cells #[.int .i64 p, .int .i64 ep, .string S, .int .i64 ex, .int .i64 se, .int .i64 sq, .slice sa sl sc] 61)) := (Below.refl _ _).alloc (Nat.le_refl _) _
  have HRI := Lib.hid (rrecRight_any p ep S ex se sq _ es (w.alloc (.cells #[.int .i64 p, .int .i64 ep, .string S, .int .i64 ex, .int .i64 se, .int .i64 sq, .slice sa sl sc] 61)) hS (Cells.next hc hb0) hn hx)
  have hEB : EB w.heap.size p ep S ex se sq (.slice sa sl sc) (w.alloc (.cells #[.int .i64 p, .int .i64 ep, .string S, .int .i64 ex, .int .i64 se, .int .i64 sq, .slice sa sl sc] 61)) := heap_alloc_new w _
  have HEB := Lib.hid hEB
  clear hEB
  go_enter Tryz.func167, Tryz.ntmps167
  go_wp2_with fail
  refine HRI.out.mono ?_
  rintro e w1 ⟨rfl, b1⟩
  have hbw := Below.up hb0 (Nat.le_refl _) b1
  have hc1 := Cells.next hc hbw
  have eb1 := HEB.out.next b1
  clear HRI HEB b1 hb0 hc
  cases hr : Evt.rightN ⟨p, ep, ⟨S.data.toList, ex, se, sq, es⟩⟩ with
  | false =>
    have HP := Lib.hid (show Evt.put ⟨p, ep, ⟨S.data.toList, ex, se, sq, es⟩⟩ = [] by rw [Evt.put, hr]; rfl)
    clear hr
    go_wp2
    go_ret
    exact ⟨_, rfl, Lib.hid HP.out.symm, hbw⟩
  | true =>
    have HP := Lib.hid (show Evt.put ⟨p, ep, ⟨S.data.toList, ex, se, sq, es⟩⟩ = Num.put (Num.held p) ++ Num.put (Num.held ep) ++ Evt.putBatch ⟨S.data.toList, ex, se, sq, es⟩ by rw [Evt.put, hr]; rfl)
    clear hr
    obtain ⟨A1, hA1, e1, s1⟩ := str_of (Num.put (Num.held p))
    obtain ⟨A2, hA2, e2, s2⟩ := str_of (Num.put (Num.held ep))
    obtain ⟨A3, hA3, e3, s3⟩ := str_of (Evt.putBatch ⟨S.data.toList, ex, se, sq, es⟩)
    obtain ⟨B1, _, f1, t1⟩ := str_of (A1.data.toList ++ A2.data.toList)
    obtain ⟨B2, _, f2, t2⟩ := str_of (B1.data.toList ++ A3.data.toList)
    have c1 := rput_det p
    have c2 := rput_det ep
    have c3 := fun (W : World) (h2 : Evs W (.slice sa sl sc) es) => rputBatch_det S ex se sq (.slice sa sl sc) es W hS h2 hn hx
    rw [hA1] at c1
    rw [hA2] at c2
    rw [hA3] at c3
    have l1 : A1.size ≤ 6 := by rw [s1]; exact Num.put_le6 _ (Num.held_le p)
    have l2 : A2.size ≤ 6 := by rw [s2]; exact Num.put_le6 _ (Num.held_le ep)
    have l3 : A3.size ≤ 3000 := by rw [s3]; exact Evt.putBatch_len _
    rw [List.length_append, ← Lib.size_eq, ← Lib.size_eq] at t1 t2
    have a1 : ∀ w, (Op.stringOp .add A1 A2).run Tryz.prog w = .ok (.string B1) w := fun w => add_lists w _ _ _ (by omega) f1.symm
    have a2 : ∀ w, (Op.stringOp .add B1 A3).run Tryz.prog w = .ok (.string B2) w := fun w => add_lists w _ _ _ (by omega) f2.symm
    have HB := Lib.hid (show B2.data.toList = Evt.put ⟨p, ep, ⟨S.data.toList, ex, se, sq, es⟩⟩ by rw [HP.out, f2, f1, e1, e2, e3])
    obtain ⟨k0, k1, k2, k3, k4, k5, k6⟩ := eb1.cells
    clear e1 e2 e3 s1 s2 s3 f1 f2 t1 t2 hA1 hA2 hA3 HP eb1
    have hc2 : Evs w1.drew (.slice sa sl sc) es := Cells.next hc1 ((Below.refl _ w1).drew)
    clear hc1
    go_wp2
    go_region_held3 (fun w' => w'.cell? ⟨w.heap.size, 0, none⟩ = some (.int .i64 p) ∧ w'.cell? ⟨w.heap.size, 1, none⟩ = some (.int .i64 ep) ∧ w'.cell? ⟨w.heap.size, 2, none⟩ = some (.string S) ∧ w'.cell? ⟨w.heap.size, 3, none⟩ = some (.int .i64 ex) ∧ w'.cell? ⟨w.heap.size, 4, none⟩ = some (.int .i64 se) ∧ w'.cell? ⟨w.heap.size, 5, none⟩ = some (.int .i64 sq) ∧ w'.cell? ⟨w.heap.size, 6, none⟩ = some (.slice sa sl sc) ∧ Below w.heap.size w w')
      (first | exact ⟨k0, k1, k2, k3, k4, k5, k6, hbw.drew⟩ | exact held7 (by assumption) hb)
      (first
        | (go_at_call_of 166 (Value.int .i64 p); refine (c1 _).mono ?_; rintro e w' ⟨rfl, hb⟩; have hc2 := Cells.next hc2 hb)
        | (go_at_call_of 166 (Value.int .i64 ep); refine (c2 _).mono ?_; rintro e w' ⟨rfl, hb⟩; have hc2 := Cells.next hc2 hb)
        | (go_at_call 256; refine (c3 _ hc2).mono ?_; rintro e w' ⟨rfl, hb⟩))
    have hq : w'.cell? ⟨w.heap.size, 0, none⟩ = some (.int .i64 p) ∧ w'.cell? ⟨w.heap.size, 1, none⟩ = some (.int .i64 ep) ∧ w'.cell? ⟨w.heap.size, 2, none⟩ = some (.string S) ∧ w'.cell? ⟨w.heap.size, 3, none⟩ = some (.int .i64 ex) ∧ w'.cell? ⟨w.heap.size, 4, none⟩ = some (.int .i64 se) ∧ w'.cell? ⟨w.heap.size, 5, none⟩ = some (.int .i64 sq) ∧ w'.cell? ⟨w.heap.size, 6, none⟩ = some (.slice sa sl sc) ∧ Below w.heap.size w w' := by assumption
    have hbN := hq.2.2.2.2.2.2.2
    clear hq c1 c2 c3 k0 k1 k2 k3 k4 k5 k6
    go_wp2
    go_ret
    exact ⟨B2, rfl, HB, hbN⟩
set_option maxHeartbeats 4000000 in
set_option maxRecDepth 100000 in
theorem rfollows_any (v : Value) (ps : List (Evt.Entry × Value)) (pos epoch : Int) (w : World) (hc : Ents w v ps) (hn : ps.length ≤ 1000000) (hp1 : -1000000000000 ≤ pos) (hp2 : pos ≤ 1000000000000) :
    Calls Tryz.prog 83 #[v, .int .i64 pos, .int .i64 epoch] w fun e w' => e = .returned (.bool (Evt.follows (plainE ps) pos epoch)) ∧ Below w.heap.size w w' := by
  obtain ⟨va, vc, rfl⟩ := cells_sliceV hc.1
  have HC := Lib.hid hc
  clear hc
  go_enter Tryz.func83, Tryz.ntmps83
  go_wp2
  go_loopw [1, 2, 7] (fun pv ev lv wr => ∃ (i : Nat) (p e : Int), pv = .int .i64 p ∧ ev = .int .i64 e ∧ lv = .int .i64 i ∧ i ≤ ps.length ∧ -1000000000000 ≤ p ∧ p ≤ 1000000000000 ∧ Below w.heap.size w wr ∧ Hid (Evt.follows (plainE (ps.drop i)) p e = Evt.follows (plainE ps) pos epoch)) (fun _ _ lv _ => ps.length - (intOf lv).toNat)
  case atStart => exact ⟨0, pos, epoch, rfl, rfl, rfl, by omega, hp1, hp2, Below.refl _ _, Lib.hid rfl⟩
  case round =>
    obtain ⟨i, p0, e0, rfl, rfl, rfl, hi, hq1, hq2, hbw, HF⟩ := hrel
    by_cases hp : i < ps.length
    · obtain ⟨b', o', c', p, ep, S, ex, se, sq, sa, sl, sc, es, hv, k0, k1, k2, k3, k4, k5, k6, hev, hS, hsm, hes, hpe, _⟩ := enAt HC.out i hp
      cases hv
      have k0 := cell_kept hbw (Nat.le_refl _) k0
      have k1 := cell_kept hbw (Nat.le_refl _) k1
      have k2 := cell_kept hbw (Nat.le_refl _) k2
      have k3 := cell_kept hbw (Nat.le_refl _) k3
      have k4 := cell_kept hbw (Nat.le_refl _) k4
      have k5 := cell_kept hbw (Nat.le_refl _) k5
      have k6 := cell_kept hbw (Nat.le_refl _) k6
      have HRI := Lib.hid (rrecRight_any p ep S ex se sq _ es wr hS (Cells.next hev hbw) hes hsm)
      have HD := Lib.hid (show plainE (ps.drop i) = ⟨p, ep, ⟨S.data.toList, ex, se, sq, es⟩⟩ :: plainE (ps.drop (i + 1)) by rw [List.drop_eq_getElem_cons hp, ← hpe.out]; rfl)
      have hw1 : wrap64 (p0 + 1) = p0 + 1 := IntWalk.wrap64_in _ (by omega)
      clear hev hpe
      go_wp2_with fail
      refine HRI.out.mono ?_
      rintro e w2 ⟨rfl, b2⟩
      have hb2 := Below.up hbw (Nat.le_refl _) b2
      have k0 := cell_kept b2 (Nat.le_refl _) k0
      have k1 := cell_kept b2 (Nat.le_refl _) k1
      clear HRI b2
      cases hr : Evt.rightN ⟨p, ep, ⟨S.data.toList, ex, se, sq, es⟩⟩ with
      | false =>
        have HN := Lib.hid (show Evt.follows (plainE ps) pos epoch = false by rw [← HF.out, HD.out, Evt.follows, if_pos (.inr (.inr hr))])
        clear HF HD hr
        go_wp2
        go_ret
        exact ⟨ret_bool (by rw [HN.out]), hb2⟩
      | true =>
        have hpr := (Evt.number_iff p).1 (Evt.rightN_iff.1 hr).1
        have HRT := Lib.hid hr
        clear hr
        by_cases h1 : p = p0 + 1
        · have h1b : (p != p0 + 1) = false := by simp [h1]
          by_cases h2 : ep < e0
          · have HN := Lib.hid (show Evt.follows (plainE ps) pos epoch = false by rw [← HF.out, HD.out, Evt.follows, if_pos (.inr (.inl h2))])
            clear HF HD h1
            go_wp2
            go_ret
            exact ⟨ret_bool (by rw [HN.out]), hb2⟩
          · have HN := Lib.hid (show Evt.follows (plainE (ps.drop (i + 1))) p ep = Evt.follows (plainE ps) pos epoch by
              rw [← HF.out, HD.out, Evt.follows, if_neg (by simp only [HRT.out]; intro h; rcases h with h | h | h
                                                            · exact h h1
                                                            · exact h2 h
                                                            · cases h)])
            clear HF HD h1 HRT
            go_wp2
            exact ⟨⟨i + 1, p, ep, rfl, rfl, by go_num, by omega, by omega, by omega, hb2, HN⟩, by simp [intOf]; omega⟩
        · have h1b : (p != p0 + 1) = true := by simp [h1]
          have HN := Lib.hid (show Evt.follows (plainE ps) pos epoch = false by rw [← HF.out, HD.out, Evt.follows, if_pos (.inl h1)])
          clear HF HD
          go_wp2
          go_ret
          exact ⟨ret_bool (by rw [HN.out]), hb2⟩
    · obtain rfl : i = ps.length := by omega
      have HN := Lib.hid (show Evt.follows (plainE ps) pos epoch = true by rw [← HF.out, List.drop_length]; rfl)
      go_wp2
      go_ret
      exact ⟨ret_bool (by rw [HN.out]), hbw⟩
end Go.Proofs.YtiaddfghojdgkaaGreatDoor
