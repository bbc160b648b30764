/-
  The walks of record.Right, Put.
-/
import Derived.Test.YthmblkckpdpjkaaGreatDoorTakeBatch
namespace Go.Proofs.YthmblkckpdpjkaaGreatDoor
open Go.RowKit Go.Shelf

/-- An entry's block: its seven cells. -/
def EB (b : Nat) (p ep : Int) (S : ByteArray) (ex se sq : Int) (v : Value) (w : World) : Prop := w.heap[b]? = some (.cells #[.int .i64 p, .int .i64 ep, .string S, .int .i64 ex, .int .i64 se, .int .i64 sq, v] 38 (0, 0))
theorem EB.kept {b : Nat} {p ep : Int} {S : ByteArray} {ex se sq : Int} {v : Value} {w w' : World} {r : Option Nat} (h : EB b p ep S ex se sq v w) (hg : w.grownBy w' r) (hr : some b ≠ r) : EB b p ep S ex se sq v w' :=
  (hg.block b (Array.getElem?_eq_some_iff.1 h).1 hr).trans h
theorem EB.next {b : Nat} {p ep : Int} {S : ByteArray} {ex se sq : Int} {v : Value} {w w' : World} (h : EB b p ep S ex se sq v w) (hb : Below w.heap.size w w') : EB b p ep S ex se sq v w' := h.kept (grown_of_below hb) (by simp)
theorem EB.cells {b : Nat} {p ep : Int} {S : ByteArray} {ex se sq : Int} {v : Value} {w : World} (h : EB b p ep S ex se sq v w) :
    w.cell? ⟨b, 0, none⟩ = some (.int .i64 p) ∧ w.cell? ⟨b, 1, none⟩ = some (.int .i64 ep) ∧ w.cell? ⟨b, 2, none⟩ = some (.string S) ∧ w.cell? ⟨b, 3, none⟩ = some (.int .i64 ex) ∧ w.cell? ⟨b, 4, none⟩ = some (.int .i64 se) ∧ w.cell? ⟨b, 5, none⟩ = some (.int .i64 sq) ∧ w.cell? ⟨b, 6, none⟩ = some v :=
  ⟨by rw [Lib.cell_of_heap h]; rfl, by rw [Lib.cell_of_heap h]; rfl, by rw [Lib.cell_of_heap h]; rfl, by rw [Lib.cell_of_heap h]; rfl, by rw [Lib.cell_of_heap h]; rfl, by rw [Lib.cell_of_heap h]; rfl, by rw [Lib.cell_of_heap h]; rfl⟩
theorem evs_slice {w : World} {v : Value} {es : List Evt.Event} (h : Evs w v es) : ∃ a l c, v = .slice a l c := by
  rcases h.2 with ⟨_, a, c, rfl⟩ | ⟨b, o, c, rfl, _⟩
  · exact ⟨_, _, _, rfl⟩
  · exact ⟨_, _, _, rfl⟩

set_option maxHeartbeats 2000000 in
set_option maxRecDepth 100000 in
theorem recRight_any (p ep : Int) (S : ByteArray) (ex se sq : Int) (v : Value) (es : List Evt.Event) (w : World) (hE : Env w) (hS : S.size ≤ 1000000) (hc : Evs w v es) (hn : es.length ≤ 1000000) (hx : Small es) :
    Calls Tryz.prog 52 #[.agg #[.int .i64 p, .int .i64 ep, .string S, .int .i64 ex, .int .i64 se, .int .i64 sq, v]] w fun e w' => e = .returned (.bool (Evt.rightN ⟨p, ep, ⟨S.data.toList, ex, se, sq, es⟩⟩)) ∧ Below w.heap.size w w' := by
  obtain ⟨sa, sl, sc, rfl⟩ := evs_slice hc
  have hb0 : Below w.heap.size w (w.alloc (.cells #[.int .i64 p, .int .i64 ep, .string S, .int .i64 ex, .int .i64 se, .int .i64 sq, .slice sa sl sc] 38)) := (Below.refl _ _).alloc (Nat.le_refl _) _
  have HFI := Lib.hid (fits_any S ex se sq _ es _ (hE.next hb0) hS (Cells.next hc hb0) hn hx)
  have HR := Lib.hid (show Evt.rightN ⟨p, ep, ⟨S.data.toList, ex, se, sq, es⟩⟩ = (decide (1 ≤ p) && decide (p ≤ 274877906944) && (decide (1 ≤ ep) && decide (ep ≤ 274877906944)) && (Evt.fits ⟨S.data.toList, ex, se, sq, es⟩ == 0)) from rfl)
  obtain ⟨R, hR⟩ : ∃ R, Evt.rightN ⟨p, ep, ⟨S.data.toList, ex, se, sq, es⟩⟩ = R := ⟨_, rfl⟩
  obtain ⟨F, hF⟩ : ∃ F, Evt.fits ⟨S.data.toList, ex, se, sq, es⟩ = F := ⟨_, rfl⟩
  rw [hF] at HFI HR
  rw [hR] at HR ⊢
  clear hR hF hx hc
  by_cases h1 : (1 : Int) ≤ p
  · by_cases h2 : p ≤ 274877906944
    · by_cases h3 : (1 : Int) ≤ ep
      · by_cases h4 : ep ≤ 274877906944
        · have HN := Lib.hid (show R = (F == 0) by rw [HR.out, decide_eq_true h1, decide_eq_true h2, decide_eq_true h3, decide_eq_true h4]; rfl)
          clear HR
          go_enter Tryz.func52, Tryz.ntmps52
          go_wp2_with fail
          refine HFI.out.mono ?_
          rintro e w1 ⟨rfl, b1⟩
          go_wp2
          go_ret
          refine ⟨ret_bool ?_, Below.up hb0 (Nat.le_refl _) b1⟩
          rw [HN.out]
          exact beq_of (by simp)
        · have HN := Lib.hid (show R = false by rw [HR.out, decide_eq_false h4]; simp)
          clear HR
          go_enter Tryz.func52, Tryz.ntmps52
          go_wp2
          go_ret
          exact ⟨ret_bool HN.out.symm, hb0⟩
      · have HN := Lib.hid (show R = false by rw [HR.out, decide_eq_false h3]; simp)
        clear HR
        go_enter Tryz.func52, Tryz.ntmps52
        go_wp2
        go_ret
        exact ⟨ret_bool HN.out.symm, hb0⟩
    · have HN := Lib.hid (show R = false by rw [HR.out, decide_eq_false h2]; simp)
      clear HR
      go_enter Tryz.func52, Tryz.ntmps52
      go_wp2
      go_ret
      exact ⟨ret_bool HN.out.symm, hb0⟩
  · have HN := Lib.hid (show R = false by rw [HR.out, decide_eq_false h1]; simp)
    clear HR
    go_enter Tryz.func52, Tryz.ntmps52
    go_wp2
    go_ret
    exact ⟨ret_bool HN.out.symm, hb0⟩
theorem putBatch_det (S : ByteArray) (ex se sq : Int) (v : Value) (es : List Evt.Event) (w : World) (hE : Env w) (hS : S.size ≤ 1000000) (hc : Evs w v es) (hn : es.length ≤ 1000000) (hx : Small es) :
    Calls Tryz.prog 106 #[.agg #[.string S, .int .i64 ex, .int .i64 se, .int .i64 sq, v]] w fun e w' => e = .returned (.string ⟨(Evt.putBatch ⟨S.data.toList, ex, se, sq, es⟩).toArray⟩) ∧ Below w.heap.size w w' := by
  refine (putBatch_any S ex se sq v es w hE hS hc hn hx).mono ?_
  rintro e w' ⟨r, rfl, HR, hb⟩
  exact ⟨by rw [str_det HR.out], hb⟩
theorem held7 {w0 wa wb : World} {a1 a2 a3 a4 a5 a6 a7 : Addr} {u1 u2 u3 u4 u5 u6 u7 : Value} (h : wa.cell? a1 = some u1 ∧ wa.cell? a2 = some u2 ∧ wa.cell? a3 = some u3 ∧ wa.cell? a4 = some u4 ∧ wa.cell? a5 = some u5 ∧ wa.cell? a6 = some u6 ∧ wa.cell? a7 = some u7 ∧ Below w0.heap.size w0 wa) (hb : Below wa.heap.size wa wb) :
    wb.cell? a1 = some u1 ∧ wb.cell? a2 = some u2 ∧ wb.cell? a3 = some u3 ∧ wb.cell? a4 = some u4 ∧ wb.cell? a5 = some u5 ∧ wb.cell? a6 = some u6 ∧ wb.cell? a7 = some u7 ∧ Below w0.heap.size w0 wb :=
  ⟨cell_kept hb (Nat.le_refl _) h.1, cell_kept hb (Nat.le_refl _) h.2.1, cell_kept hb (Nat.le_refl _) h.2.2.1, cell_kept hb (Nat.le_refl _) h.2.2.2.1, cell_kept hb (Nat.le_refl _) h.2.2.2.2.1, cell_kept hb (Nat.le_refl _) h.2.2.2.2.2.1, cell_kept hb (Nat.le_refl _) h.2.2.2.2.2.2.1, Below.up h.2.2.2.2.2.2.2 (Nat.le_refl _) hb⟩

set_option maxHeartbeats 4000000 in
set_option maxRecDepth 100000 in
theorem recPut_any (p ep : Int) (S : ByteArray) (ex se sq : Int) (v : Value) (es : List Evt.Event) (w : World) (hE : Env w) (hS : S.size ≤ 1000000) (hc : Evs w v es) (hn : es.length ≤ 1000000) (hx : Small es) :
    Calls Tryz.prog 75 #[.agg #[.int .i64 p, .int .i64 ep, .string S, .int .i64 ex, .int .i64 se, .int .i64 sq, v]] w fun e w' => ∃ r : ByteArray, e = .returned (.string r) ∧ Hid (r.data.toList = Evt.put ⟨p, ep, ⟨S.data.toList, ex, se, sq, es⟩⟩) ∧ Below w.heap.size w w' := by
  obtain ⟨sa, sl, sc, rfl⟩ := evs_slice hc
  have hb0 : Below w.heap.size w (w.alloc (.cells #[.int .i64 p, .int .i64 ep, .string S, .int .i64 ex, .int .i64 se, .int .i64 sq, .slice sa sl sc] 38)) := (Below.refl _ _).alloc (Nat.le_refl _) _
  have HRI := Lib.hid (recRight_any p ep S ex se sq _ es _ (hE.next hb0) hS (Cells.next hc hb0) hn hx)
  have hEB : EB w.heap.size p ep S ex se sq (.slice sa sl sc) (w.alloc (.cells #[.int .i64 p, .int .i64 ep, .string S, .int .i64 ex, .int .i64 se, .int .i64 sq, .slice sa sl sc] 38)) := heap_alloc_new w _
  have HEB := Lib.hid hEB
  clear hEB
  go_enter Tryz.func75, Tryz.ntmps75
  go_wp2_with fail
  refine HRI.out.mono ?_
  rintro e w1 ⟨rfl, b1⟩
  have hbw := Below.up hb0 (Nat.le_refl _) b1
  have hE1 := hE.next hbw
  have hc1 := Cells.next hc hbw
  have eb1 := HEB.out.next b1
  clear HRI HEB b1 hb0 hc
  cases hr : Evt.rightN ⟨p, ep, ⟨S.data.toList, ex, se, sq, es⟩⟩ with
  | false =>
    have HP := Lib.hid (show Evt.put ⟨p, ep, ⟨S.data.toList, ex, se, sq, es⟩⟩ = [] by rw [Evt.put, hr]; rfl)
    clear hr
    go_wp2
    go_ret
    exact ⟨_, rfl, by rw [HP.out]; rfl, hbw⟩
  | true =>
    have HP := Lib.hid (show Evt.put ⟨p, ep, ⟨S.data.toList, ex, se, sq, es⟩⟩ = Num.put (Num.held p) ++ Num.put (Num.held ep) ++ Evt.putBatch ⟨S.data.toList, ex, se, sq, es⟩ by rw [Evt.put, hr]; rfl)
    clear hr
    obtain ⟨A1, hA1, e1, s1⟩ := str_of (Num.put (Num.held p))
    obtain ⟨A2, hA2, e2, s2⟩ := str_of (Num.put (Num.held ep))
    obtain ⟨A3, hA3, e3, s3⟩ := str_of (Evt.putBatch ⟨S.data.toList, ex, se, sq, es⟩)
    obtain ⟨B1, _, f1, t1⟩ := str_of (A1.data.toList ++ A2.data.toList)
    obtain ⟨B2, _, f2, t2⟩ := str_of (B1.data.toList ++ A3.data.toList)
    have c1 := numPut_any p
    have c2 := numPut_any ep
    have c3 := fun (W : World) (h : Env W) (h2 : Evs W (.slice sa sl sc) es) => putBatch_det S ex se sq (.slice sa sl sc) es W h hS h2 hn hx
    rw [hA1] at c1
    rw [hA2] at c2
    rw [hA3] at c3
    have l1 : A1.size ≤ 6 := by rw [s1]; exact Num.put_le6 _ (Num.held_le p)
    have l2 : A2.size ≤ 6 := by rw [s2]; exact Num.put_le6 _ (Num.held_le ep)
    have l3 : A3.size ≤ 3000 := by rw [s3]; exact Evt.putBatch_len _
    rw [List.length_append, ← Lib.size_eq, ← Lib.size_eq] at t1 t2
    have a1 : ∀ w, (Op.stringOp .add A1 A2).run Tryz.prog w = .ok (.string B1) w := fun w => add_lists w _ _ _ (by omega) f1.symm
    have a2 : ∀ w, (Op.stringOp .add B1 A3).run Tryz.prog w = .ok (.string B2) w := fun w => add_lists w _ _ _ (by omega) f2.symm
    have HB := Lib.hid (show B2.data.toList = Evt.put ⟨p, ep, ⟨S.data.toList, ex, se, sq, es⟩⟩ by rw [HP.out, f2, f1, e1, e2, e3])
    obtain ⟨k0, k1, k2, k3, k4, k5, k6⟩ := eb1.cells
    clear e1 e2 e3 s1 s2 s3 f1 f2 t1 t2 hA1 hA2 hA3 HP eb1
    have hE2 : Env w1.drew := hE1.next ((Below.refl _ w1).drew)
    have hc2 : Evs w1.drew (.slice sa sl sc) es := Cells.next hc1 ((Below.refl _ w1).drew)
    clear hE1 hc1
    go_wp2
    go_region_held3 (fun w' => w'.cell? ⟨w.heap.size, 0, none⟩ = some (.int .i64 p) ∧ w'.cell? ⟨w.heap.size, 1, none⟩ = some (.int .i64 ep) ∧ w'.cell? ⟨w.heap.size, 2, none⟩ = some (.string S) ∧ w'.cell? ⟨w.heap.size, 3, none⟩ = some (.int .i64 ex) ∧ w'.cell? ⟨w.heap.size, 4, none⟩ = some (.int .i64 se) ∧ w'.cell? ⟨w.heap.size, 5, none⟩ = some (.int .i64 sq) ∧ w'.cell? ⟨w.heap.size, 6, none⟩ = some (.slice sa sl sc) ∧ Below w.heap.size w w')
      (first | exact ⟨k0, k1, k2, k3, k4, k5, k6, hbw.drew⟩ | exact held7 (by assumption) hb)
      (first
        | (go_at_call_of 77 (Value.int .i64 p); refine (c1 _).mono ?_; rintro e w' ⟨rfl, hb⟩; have hE2 := hE2.next hb; have hc2 := Cells.next hc2 hb)
        | (go_at_call_of 77 (Value.int .i64 ep); refine (c2 _).mono ?_; rintro e w' ⟨rfl, hb⟩; have hE2 := hE2.next hb; have hc2 := Cells.next hc2 hb)
        | (go_at_call 106; refine (c3 _ hE2 hc2).mono ?_; rintro e w' ⟨rfl, hb⟩))
    have hq : w'.cell? ⟨w.heap.size, 0, none⟩ = some (.int .i64 p) ∧ w'.cell? ⟨w.heap.size, 1, none⟩ = some (.int .i64 ep) ∧ w'.cell? ⟨w.heap.size, 2, none⟩ = some (.string S) ∧ w'.cell? ⟨w.heap.size, 3, none⟩ = some (.int .i64 ex) ∧ w'.cell? ⟨w.heap.size, 4, none⟩ = some (.int .i64 se) ∧ w'.cell? ⟨w.heap.size, 5, none⟩ = some (.int .i64 sq) ∧ w'.cell? ⟨w.heap.size, 6, none⟩ = some (.slice sa sl sc) ∧ Below w.heap.size w w' := by assumption
    have hbN := hq.2.2.2.2.2.2.2
    clear hq c1 c2 c3 k0 k1 k2 k3 k4 k5 k6
    go_wp2
    go_ret
    exact ⟨B2, rfl, HB, hbN⟩
end Go.Proofs.YthmblkckpdpjkaaGreatDoor
