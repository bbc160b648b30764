/-
  The walks of event.Right, bytes, Fits and its closures, slices.ContainsFunc over events.
  The walk of event.Fits: at every batch.
  The walk of event.PutBatch: at every batch.
  The walks of event.reader's methods: parts off the front of bytes, up to the first error.
  The walks of event.reader.event, event.TakeBatch.
  The walks of record.Right, Put.
  The walk of record.Take: at every text.
  The walk of record.Follows: at every row of entries.
-/
import Derived.Test.YtgddgipjpdjoaaaGreatDoorFrms
import Derived.Test.YtgddgipjpdjoaaaGreatDoorPln
import Derived.Test.YtgddgipjpdjoaaaGreatDoorNums
import Derived.Deep.RegionHeld3
import Derived.BigRegion
import Derived.Deep.DeepCutAuto
namespace Go.Proofs.YtgddgipjpdjoaaaGreatDoor
open Go.RowKit Go.Shelf
theorem str_det {r : ByteArray} {l : List UInt8} (h : r.data.toList = l) : r = ⟨l.toArray⟩ := by
 apply ByteArray.ext
 rw [← h]
theorem putText_det (s : ByteArray) (w : World) (hs : s.size ≤ 1000000000000) :
   Calls Tryz.prog 294 #[.string s] w fun e w' => e = .returned (.string ⟨(Num.putText s.data.toList).toArray⟩) ∧ Below w.heap.size w w' := by
 refine (putText_any s w hs).mono ?_
 rintro e w' ⟨r, rfl, HR, _, hb⟩
 exact ⟨by rw [str_det HR.out], hb⟩
theorem held2 {w0 wa wb : World} {a b : Addr} {u v : Value} (h : wa.cell? a = some u ∧ wa.cell? b = some v ∧ Below w0.heap.size w0 wa) (hb : Below wa.heap.size wa wb) : wb.cell? a = some u ∧ wb.cell? b = some v ∧ Below w0.heap.size w0 wb :=
 ⟨cell_kept hb (Nat.le_refl _) h.1, cell_kept hb (Nat.le_refl _) h.2.1, Below.up h.2.2 (Nat.le_refl _) hb⟩
set_option maxHeartbeats 1000000 in
set_option maxRecDepth 100000 in
theorem eventBytes_any (k d : ByteArray) (w : World) (hk : k.size ≤ 1000000) (hd : d.size ≤ 1000000) :
   Calls Tryz.prog 296 #[.agg #[.string k, .string d]] w fun e w' => ∃ r : ByteArray, e = .returned (.string r) ∧ Hid (r.data.toList = Evt.bytesE ⟨k.data.toList, d.data.toList⟩) ∧ r.size ≤ k.size + d.size + 12 ∧ Below w.heap.size w w' := by
 obtain ⟨A, hA, hA2, hA3⟩ := str_of (Num.putText k.data.toList)
 obtain ⟨B, hB, hB2, hB3⟩ := str_of (Num.putText d.data.toList)
 obtain ⟨R, hR, hR2, hR3⟩ := str_of (Evt.bytesE ⟨k.data.toList, d.data.toList⟩)
 have c1 := putText_det k
 have c2 := putText_det d
 rw [hA] at c1
 rw [hB] at c2
 have l1 := Evt.putText_len k.data.toList
 have l2 := Evt.putText_len d.data.toList
 rw [← hA3, ← Lib.size_eq] at l1
 rw [← hB3, ← Lib.size_eq] at l2
 have hadd : ∀ w, (Op.stringOp .add A B).run Tryz.prog w = .ok (.string R) w := fun w => add_lists w A B R (by omega) (by rw [hA2, hB2, hR2]; rfl)
 have hRs : R.size ≤ k.size + d.size + 12 := by rw [hR3]; simp only [Evt.bytesE, List.length_append]; rw [← hA3, ← hB3]; omega
 have HR := Lib.hid hR2
 clear hA hB hA2 hB2 hA3 hB3 hR hR2 hR3
 go_enter Tryz.func296, Tryz.ntmps296
 go_wp2
 have h0 : (w.alloc (.cells #[.string k, .string d] 149)).cell? ⟨w.heap.size, 0, none⟩ = some (.string k) := by simp
 have h1 : (w.alloc (.cells #[.string k, .string d] 149)).cell? ⟨w.heap.size, 1, none⟩ = some (.string d) := by simp
 have hb0 : Below w.heap.size w (w.alloc (.cells #[.string k, .string d] 149)) := (Below.refl _ _).alloc (Nat.le_refl _) _
 obtain ⟨W, hW⟩ : ∃ W, w.alloc (.cells #[.string k, .string d] 149) = W := ⟨_, rfl⟩
 rw [hW] at h0 h1 hb0 ⊢
 clear hW
 go_region_held3 (fun w' => w'.cell? ⟨w.heap.size, 0, none⟩ = some (.string k) ∧ w'.cell? ⟨w.heap.size, 1, none⟩ = some (.string d) ∧ Below w.heap.size w w') (first | exact ⟨h0, h1, hb0.drew⟩ | exact held2 (by assumption) hb)
   (first | (go_at_call 294; refine (c1 _ (by omega)).mono ?_; rintro e w' ⟨rfl, hb⟩) | (go_at_call 294; refine (c2 _ (by omega)).mono ?_; rintro e w' ⟨rfl, hb⟩))
 go_wp2
 go_ret
 exact ⟨R, rfl, HR, hRs, And.right (And.right (by assumption))⟩
theorem right_any (k d : ByteArray) (w : World) (hE : Env w) (hk : k.size ≤ 1000000) :
   Calls Tryz.prog 98 #[.agg #[.string k, .string d]] w fun e w' => e = .returned (.bool (Evt.right ⟨k.data.toList, d.data.toList⟩)) ∧ Below w.heap.size w w' := by
 have HZ := Lib.hid (Lib.size_eq d)
 have hb0 : Below w.heap.size w (w.alloc (.cells #[.string k, .string d] 149)) := (Below.refl _ _).alloc (Nat.le_refl _) _
 by_cases h : (d.size : Int) ≤ 200
 · have HF := Lib.hid (show Evt.right ⟨k.data.toList, d.data.toList⟩ = Txt.name k.data.toList by rw [Evt.right, decide_eq_true (by simp only; rw [← HZ.out]; omega)]; rfl)
   go_enter Tryz.func98, Tryz.ntmps98
   go_wp2_with fail
   refine (name_any k _ (hE.next hb0) (by omega)).mono ?_
   rintro e w1 ⟨rfl, b1⟩
   rw [← HF.out]
   go_wp2
   go_ret
   exact ⟨rfl, Below.up hb0 (Nat.le_refl _) b1⟩
 · have HF := Lib.hid (show Evt.right ⟨k.data.toList, d.data.toList⟩ = false by rw [Evt.right, decide_eq_false (by simp only; rw [← HZ.out]; omega)]; rfl)
   go_enter Tryz.func98, Tryz.ntmps98
   go_wp2
   go_ret
   exact ⟨ret_bool (by rw [HF.out]), hb0⟩
theorem fits1_any (n : Int) (w : World) : Calls Tryz.prog 94 #[.int .i64 n] w fun e w' => e = .returned (.bool (Evt.number n)) ∧ w = w' := by
 go_enter Tryz.func94, Tryz.ntmps94
 go_wp2
 all_goals (go_ret; refine ⟨ret_bool (beq_of ?_), rfl⟩; rw [Evt.number_iff]; simp; try omega)
theorem fits2_any (k d : ByteArray) (w : World) (hE : Env w) (hk : k.size ≤ 1000000) :
   Calls Tryz.prog 97 #[.agg #[.string k, .string d]] w fun e w' => e = .returned (.bool (!Evt.right ⟨k.data.toList, d.data.toList⟩)) ∧ Below w.heap.size w w' := by
 have hb0 : Below w.heap.size w (w.alloc (.cells #[.string k, .string d] 149)) := (Below.refl _ _).alloc (Nat.le_refl _) _
 go_enter Tryz.func97, Tryz.ntmps97
 go_wp2_with fail
 refine (right_any k d _ (hE.next hb0) hk).mono ?_
 rintro e w1 ⟨rfl, b1⟩
 go_wp2
 go_ret
 exact ⟨rfl, Below.up hb0 (Nat.le_refl _) b1⟩
def evCells (es : List Evt.Event) : List Value := es.flatMap fun e => [.string ⟨e.kind.toArray⟩, .string ⟨e.data.toArray⟩]
theorem evCells_at : ∀ (es : List Evt.Event) (i : Nat) (hi : i < es.length), (evCells es)[i * 2]? = some (.string ⟨es[i].kind.toArray⟩) ∧ (evCells es)[i * 2 + 1]? = some (.string ⟨es[i].data.toArray⟩)
 | e :: es, 0, _ => ⟨rfl, rfl⟩
 | e :: es, i + 1, hi => by
   have := evCells_at es i (by simpa using hi)
   have e1 : evCells (e :: es) = .string ⟨e.kind.toArray⟩ :: .string ⟨e.data.toArray⟩ :: evCells es := rfl
   rw [e1, show (i + 1) * 2 = i * 2 + 1 + 1 by omega, show i * 2 + 1 + 1 + 1 = (i * 2 + 1) + 1 + 1 by omega]
   simpa using this
def Evs (w : World) (v : Value) (es : List Evt.Event) : Prop := Cells w v 2 es.length (evCells es)
theorem evAt {w : World} {v : Value} {es : List Evt.Event} (h : Evs w v es) (i : Nat) (hi : i < es.length) :
   ∃ b o c, v = .slice (some ⟨b, o, none⟩) es.length c ∧ w.cell? ⟨b, o + i * 2, none⟩ = some (.string ⟨es[i].kind.toArray⟩) ∧ w.cell? ⟨b, o + i * 2 + 1, none⟩ = some (.string ⟨es[i].data.toArray⟩) := by
 rcases h.2 with ⟨h0, _⟩ | ⟨b, o, c, h1, h2⟩
 · omega
 · exact ⟨b, o, c, h1, h2 _ _ (evCells_at es i hi).1, h2 _ _ (evCells_at es i hi).2⟩
def Small (es : List Evt.Event) : Prop := ∀ e ∈ es, e.kind.length ≤ 1000000 ∧ e.data.length ≤ 1000000
set_option maxHeartbeats 1000000 in
set_option maxRecDepth 100000 in
theorem indexFunc_any (v : Value) (es : List Evt.Event) (w : World) (hE : Env w) (hc : Evs w v es) (hn : es.length ≤ 1000000) (hx : Small es) :
   Calls Tryz.prog 162 #[v, .func (.func 97) #[] #[]] w fun e w' => ∃ r : Int, e = .returned (.int .i64 r) ∧ Hid (decide (0 ≤ r) = !es.all Evt.right) ∧ Below w.heap.size w w' := by
 rcases cellsNil hc with ⟨h0, a0, c0, rfl⟩ | ⟨b, o, c, rfl⟩
 · go_enter Tryz.func162, Tryz.ntmps162
   go_wp2
   go_loopw [8] (fun lv wr => lv = .int .i64 0 ∧ wr = w) (fun _ _ => 0)
   case atStart => exact ⟨rfl, rfl⟩
   case round =>
     obtain ⟨rfl, rfl⟩ := hrel
     have HN := Lib.hid (List.eq_nil_of_length_eq_zero h0)
     clear h0
     go_wp2
     go_ret
     exact ⟨-1, rfl, by rw [HN.out]; rfl, Below.refl _ _⟩
 · have HX := Lib.hid hx
   have HC := Lib.hid hc
   clear hx hc
   go_enter Tryz.func162, Tryz.ntmps162
   go_wp2
   go_loopw [8] (fun lv wr => ∃ i : Nat, lv = .int .i64 i ∧ i ≤ es.length ∧ Below w.heap.size w wr ∧ Env wr ∧ (es.drop i).all Evt.right = es.all Evt.right) (fun lv _ => es.length - (intOf lv).toNat)
   case atStart => exact ⟨0, rfl, by omega, Below.refl _ _, hE, rfl⟩
   case round =>
     obtain ⟨i, rfl, hi, hbw, hEr, hall⟩ := hrel
     have HA := Lib.hid hall
     clear hall
     by_cases hp : i < es.length
     · obtain ⟨b', o', c', hv, hc1, hc2⟩ := evAt HC.out i hp
       cases hv
       have hc1 := cell_kept hbw (Nat.le_refl _) hc1
       have hc2 := cell_kept hbw (Nat.le_refl _) hc2
       have hsm := HX.out _ (List.getElem_mem hp)
       have hdr : es.drop i = es[i] :: es.drop (i + 1) := List.drop_eq_getElem_cons hp
       obtain ⟨x, hx⟩ : ∃ x, es[i] = x := ⟨_, rfl⟩
       rw [hx] at hc1 hc2 hsm hdr
       obtain ⟨K, hK, hK2, hK3⟩ := str_of x.kind
       obtain ⟨D, hD, hD2, hD3⟩ := str_of x.data
       rw [hK] at hc1
       rw [hD] at hc2
       have hKs : K.size ≤ 1000000 := by rw [hK3]; exact hsm.1
       have HR := Lib.hid (show (es.drop i).all Evt.right = (Evt.right ⟨K.data.toList, D.data.toList⟩ && (es.drop (i + 1)).all Evt.right) by rw [hdr, hK2, hD2]; rfl)
       clear hsm hdr hx hK hD hK2 hD2 hK3 hD3
       go_wp2_with fail
       refine (fits2_any K D wr hEr hKs).mono ?_
       rintro e w1 ⟨rfl, b1⟩
       have hbw1 := Below.up hbw (Nat.le_refl _) b1
       have hE1 := hEr.next b1
       cases hr : Evt.right ⟨K.data.toList, D.data.toList⟩ with
       | true =>
         have HN := Lib.hid (show (es.drop (i + 1)).all Evt.right = es.all Evt.right by rw [← HA.out, HR.out, hr]; rfl)
         clear HR HA hr b1
         go_wp2
         exact ⟨⟨i + 1, by go_num, by omega, hbw1, hE1, HN.out⟩, by simp [intOf]; omega⟩
       | false =>
         have HN := Lib.hid (show es.all Evt.right = false by rw [← HA.out, HR.out, hr]; rfl)
         clear HR HA hr b1
         go_wp2
         go_ret
         exact ⟨_, rfl, (show decide ((0 : Int) ≤ (i : Int)) = !es.all Evt.right by rw [HN.out]; exact decide_eq_true (by omega)), hbw1⟩
     · obtain rfl : i = es.length := by omega
       have HN := Lib.hid (show es.all Evt.right = true by rw [← HA.out, List.drop_length]; rfl)
       clear HA
       go_wp2
       go_ret
       exact ⟨-1, rfl, by rw [HN.out]; rfl, hbw⟩
theorem containsFunc_any (v : Value) (es : List Evt.Event) (w : World) (hE : Env w) (hc : Evs w v es) (hn : es.length ≤ 1000000) (hx : Small es) :
   Calls Tryz.prog 96 #[v, .func (.func 97) #[] #[]] w fun e w' => e = .returned (.bool (!es.all Evt.right)) ∧ Below w.heap.size w w' := by
 go_enter Tryz.func96, Tryz.ntmps96
 go_wp2_with fail
 refine (indexFunc_any v es w hE hc hn hx).mono ?_
 rintro e w1 ⟨r, rfl, HR, b1⟩
 go_wp2
 go_ret
 exact ⟨ret_bool HR.out, b1⟩
set_option maxHeartbeats 2000000 in
set_option maxRecDepth 100000 in
theorem fits_any (S : ByteArray) (ex se sq : Int) (v : Value) (es : List Evt.Event) (w : World) (hE : Env w) (hS : S.size ≤ 1000000) (hc : Evs w v es) (hn : es.length ≤ 1000000) (hx : Small es) :
   Calls Tryz.prog 41 #[.agg #[.string S, .int .i64 ex, .int .i64 se, .int .i64 sq, v]] w fun e w' => e = .returned (.int .i64 (Evt.fits ⟨S.data.toList, ex, se, sq, es⟩ : Nat)) ∧ Below w.heap.size w w' := by
 have HF := Lib.hid (show Evt.fits ⟨S.data.toList, ex, se, sq, es⟩ = if (Txt.name S.data.toList && decide (-1 ≤ ex) && decide (ex ≤ 274877906944) && Evt.number se && Evt.number sq && !es.isEmpty) = false then 1 else if 8 < es.length then 4 else if es.all Evt.right = false then 1 else 0 from rfl)
 obtain ⟨F, hF⟩ : ∃ F, Evt.fits ⟨S.data.toList, ex, se, sq, es⟩ = F := ⟨_, rfl⟩
 rw [hF] at HF ⊢
 clear hF
 have HX := Lib.hid hx
 clear hx
 obtain ⟨sa, sl, sc, rfl, hsl⟩ : ∃ sa sl sc, v = .slice sa sl sc ∧ sl = es.length := by
   rcases cellsNil hc with ⟨h0, a0, c0, rfl⟩ | ⟨b, o, c, rfl⟩
   · exact ⟨a0, 0, c0, rfl, h0.symm⟩
   · exact ⟨_, _, _, rfl, rfl⟩
 have HSL := Lib.hid hsl
 have hsb : sl ≤ 1000000 := by omega
 clear hsl
 have hb0 : Below w.heap.size w (w.alloc (.cells #[.string S, .int .i64 ex, .int .i64 se, .int .i64 sq, .slice sa sl sc] 38)) := (Below.refl _ _).alloc (Nat.le_refl _) _
 have k0 : (w.alloc (.cells #[.string S, .int .i64 ex, .int .i64 se, .int .i64 sq, .slice sa sl sc] 38)).cell? ⟨w.heap.size, 1, none⟩ = some (.int .i64 ex) := by simp
 have k1 : (w.alloc (.cells #[.string S, .int .i64 ex, .int .i64 se, .int .i64 sq, .slice sa sl sc] 38)).cell? ⟨w.heap.size, 2, none⟩ = some (.int .i64 se) := by simp
 have k2 : (w.alloc (.cells #[.string S, .int .i64 ex, .int .i64 se, .int .i64 sq, .slice sa sl sc] 38)).cell? ⟨w.heap.size, 3, none⟩ = some (.int .i64 sq) := by simp
 have k3 : (w.alloc (.cells #[.string S, .int .i64 ex, .int .i64 se, .int .i64 sq, .slice sa sl sc] 38)).cell? ⟨w.heap.size, 4, none⟩ = some (.slice sa sl sc) := by simp
 have HK0 := Lib.hid k0; have HK1 := Lib.hid k1; have HK2 := Lib.hid k2; have HK3 := Lib.hid k3
 clear k0 k1 k2 k3
 go_enter Tryz.func41, Tryz.ntmps41
 go_wp2_with fail
 refine (name_any S _ (hE.next hb0) (by omega)).mono ?_
 rintro e w1 ⟨rfl, b1⟩
 have hbw := Below.up hb0 (Nat.le_refl _) b1
 have hE1 := hE.next hbw
 have k0 := cell_kept b1 (Nat.le_refl _) HK0.out
 have k1 := cell_kept b1 (Nat.le_refl _) HK1.out
 have k2 := cell_kept b1 (Nat.le_refl _) HK2.out
 have k3 := cell_kept b1 (Nat.le_refl _) HK3.out
 have hc1 := Cells.next hc hbw
 have HC := Lib.hid hc1
 clear HK0 HK1 HK2 HK3 hb0 b1 hc hc1
 cases hnm : Txt.name S.data.toList with
 | false =>
   have HR := Lib.hid (show F = 1 by rw [HF.out, hnm]; rfl)
   clear hnm HF
   go_wp2
   go_ret
   exact ⟨ret_i64 (by rw [HR.out]; rfl), hbw⟩
 | true =>
   rw [hnm] at HF
   clear hnm
   by_cases h1 : ex < -1
   · have HR := Lib.hid (show F = 1 by rw [HF.out, decide_eq_false (show ¬ -1 ≤ ex by omega)]; rfl)
     clear HF
     go_wp2
     go_ret
     exact ⟨ret_i64 (by rw [HR.out]; rfl), hbw⟩
   · by_cases h2 : 274877906944 < ex
     · have HR := Lib.hid (show F = 1 by rw [HF.out, decide_eq_false (show ¬ ex ≤ 274877906944 by omega)]; simp)
       clear HF
       go_wp2
       go_ret
       exact ⟨ret_i64 (by rw [HR.out]; rfl), hbw⟩
     · have HF2 := Lib.hid (show F = if (Evt.number se && Evt.number sq && !es.isEmpty) = false then 1 else if 8 < es.length then 4 else if es.all Evt.right = false then 1 else 0 by
         rw [HF.out, decide_eq_true (show -1 ≤ ex by omega), decide_eq_true (show ex ≤ 274877906944 by omega)]; simp only [Bool.true_and])
       clear HF
       go_wp2_with fail
       refine (fits1_any se w1).mono ?_
       rintro e w2 ⟨rfl, rfl⟩
       cases hns : Evt.number se with
       | false =>
         have HR := Lib.hid (show F = 1 by rw [HF2.out, hns]; rfl)
         clear hns HF2
         go_wp2
         go_ret
         exact ⟨ret_i64 (by rw [HR.out]; rfl), hbw⟩
       | true =>
         rw [hns] at HF2
         clear hns
         go_wp2_with fail
         refine (fits1_any sq w1).mono ?_
         rintro e w2 ⟨rfl, rfl⟩
         cases hnq : Evt.number sq with
         | false =>
           have HR := Lib.hid (show F = 1 by rw [HF2.out, hnq]; rfl)
           clear hnq HF2
           go_wp2
           go_ret
           exact ⟨ret_i64 (by rw [HR.out]; rfl), hbw⟩
         | true =>
           rw [hnq] at HF2
           clear hnq
           by_cases h0 : sl = 0
           · have HR := Lib.hid (show F = 1 by rw [HF2.out, List.eq_nil_of_length_eq_zero (show es.length = 0 by have := HSL.out; omega)]; rfl)
             have h0b : ((sl : Int) == 0) = true := by simp [h0]
             clear HF2 h0
             go_wp2
             go_ret
             exact ⟨ret_i64 (by rw [HR.out]; rfl), hbw⟩
           · have h0b : ((sl : Int) == 0) = false := by simp; omega
             have HF3 := Lib.hid (show F = if 8 < sl then 4 else if es.all Evt.right = false then 1 else 0 by
               rw [HF2.out, HSL.out]
               have : es.isEmpty = false := by
                 have hsl := HSL.out
                 cases es with
                 | nil => simp at hsl; omega
                 | cons => rfl
               rw [this]; simp)
             clear HF2
             by_cases h8 : (8 : Int) < sl
             · have HR := Lib.hid (show F = 4 by rw [HF3.out, if_pos (by omega)])
               clear HF3
               go_wp2
               go_ret
               exact ⟨ret_i64 (by rw [HR.out]; rfl), hbw⟩
             · have HF4 := Lib.hid (show F = if es.all Evt.right = false then 1 else 0 by rw [HF3.out, if_neg (by omega)])
               clear HF3
               go_wp2_with fail
               refine (containsFunc_any _ es w1 hE1 HC.out hn HX.out).mono ?_
               rintro e w3 ⟨rfl, b3⟩
               have hbw3 := Below.up hbw (Nat.le_refl _) b3
               cases hal : es.all Evt.right with
               | true =>
                 have HR := Lib.hid (show F = 0 by rw [HF4.out, hal]; rfl)
                 clear hal HF4
                 go_wp2
                 go_ret
                 exact ⟨ret_i64 (by rw [HR.out]; rfl), hbw3⟩
               | false =>
                 have HR := Lib.hid (show F = 1 by rw [HF4.out, hal]; rfl)
                 clear hal HF4
                 go_wp2
                 go_ret
                 exact ⟨ret_i64 (by rw [HR.out]; rfl), hbw3⟩
theorem putInt_det (n : Int) (w : World) :
   Calls Tryz.prog 295 #[.int .i64 n] w fun e w' => e = .returned (.string ⟨(Num.putInt n).toArray⟩) ∧ Below w.heap.size w w' := by
 refine (putInt_any n w).mono ?_
 rintro e w' ⟨r, rfl, HR, _, hb⟩
 exact ⟨by rw [str_det HR.out], hb⟩
theorem held5 {w0 wa wb : World} {B : Nat} {a1 a2 a3 a4 a5 : Addr} {u1 u2 u3 u4 u5 : Value} (h : wa.cell? a1 = some u1 ∧ wa.cell? a2 = some u2 ∧ wa.cell? a3 = some u3 ∧ wa.cell? a4 = some u4 ∧ wa.cell? a5 = some u5 ∧ Below w0.heap.size w0 wa) (hb : Below B wa wb) (hB : w0.heap.size ≤ B)
   (h1 : a1.block < B) (h2 : a2.block < B) (h3 : a3.block < B) (h4 : a4.block < B) (h5 : a5.block < B) :
   wb.cell? a1 = some u1 ∧ wb.cell? a2 = some u2 ∧ wb.cell? a3 = some u3 ∧ wb.cell? a4 = some u4 ∧ wb.cell? a5 = some u5 ∧ Below w0.heap.size w0 wb :=
 ⟨(hb.cell h1).trans h.1, (hb.cell h2).trans h.2.1, (hb.cell h3).trans h.2.2.1, (hb.cell h4).trans h.2.2.2.1, (hb.cell h5).trans h.2.2.2.2.1, h.2.2.2.2.2.trans (hb.mono hB)⟩
theorem held5n {w0 wa wb : World} {a1 a2 a3 a4 a5 : Addr} {u1 u2 u3 u4 u5 : Value} (h : wa.cell? a1 = some u1 ∧ wa.cell? a2 = some u2 ∧ wa.cell? a3 = some u3 ∧ wa.cell? a4 = some u4 ∧ wa.cell? a5 = some u5 ∧ Below w0.heap.size w0 wa) (hb : Below wa.heap.size wa wb) :
   wb.cell? a1 = some u1 ∧ wb.cell? a2 = some u2 ∧ wb.cell? a3 = some u3 ∧ wb.cell? a4 = some u4 ∧ wb.cell? a5 = some u5 ∧ Below w0.heap.size w0 wb :=
 held5 h hb h.2.2.2.2.2.size (World.block_lt_of_cell? _ _ h.1) (World.block_lt_of_cell? _ _ h.2.1) (World.block_lt_of_cell? _ _ h.2.2.1) (World.block_lt_of_cell? _ _ h.2.2.2.1) (World.block_lt_of_cell? _ _ h.2.2.2.2.1)
set_option maxHeartbeats 4000000 in
set_option maxRecDepth 100000 in
theorem putBatch_any (S : ByteArray) (ex se sq : Int) (v : Value) (es : List Evt.Event) (w : World) (hE : Env w) (hS : S.size ≤ 1000000) (hc : Evs w v es) (hn : es.length ≤ 1000000) (hx : Small es) :
   Calls Tryz.prog 270 #[.agg #[.string S, .int .i64 ex, .int .i64 se, .int .i64 sq, v]] w fun e w' => ∃ r : ByteArray, e = .returned (.string r) ∧ Hid (r.data.toList = Evt.putBatch ⟨S.data.toList, ex, se, sq, es⟩) ∧ Below w.heap.size w w' := by
 have HX := Lib.hid hx
 obtain ⟨sa, sl, sc, rfl, hsl⟩ : ∃ sa sl sc, v = .slice sa sl sc ∧ sl = es.length := by
   rcases cellsNil hc with ⟨h0, a0, c0, rfl⟩ | ⟨b, o, c, rfl⟩
   · exact ⟨a0, 0, c0, rfl, h0.symm⟩
   · exact ⟨_, _, _, rfl, rfl⟩
 have HSL := Lib.hid hsl
 have hsb : sl ≤ 1000000 := by omega
 clear hsl
 have hb0 : Below w.heap.size w (w.alloc (.cells #[.string S, .int .i64 ex, .int .i64 se, .int .i64 sq, .slice sa sl sc] 38)) := (Below.refl _ _).alloc (Nat.le_refl _) _
 have k : (w.alloc (.cells #[.string S, .int .i64 ex, .int .i64 se, .int .i64 sq, .slice sa sl sc] 38)).heap[w.heap.size]? = some (.cells #[.string S, .int .i64 ex, .int .i64 se, .int .i64 sq, .slice sa sl sc] 38 (0, 0)) := heap_alloc_new w _
 have HK := Lib.hid k
 clear k
 have hf := fits_any S ex se sq _ es _ (hE.next hb0) hS (Cells.next hc hb0) hn hx
 obtain ⟨F, hF⟩ : ∃ F, Evt.fits ⟨S.data.toList, ex, se, sq, es⟩ = F := ⟨_, rfl⟩
 rw [hF] at hf
 have HFF := Lib.hid hf
 have HF := Lib.hid hF
 clear hf hF hx
 go_enter Tryz.func270, Tryz.ntmps270
 go_wp2_with fail
 refine HFF.out.mono ?_
 rintro e w1 ⟨rfl, b1⟩
 have hbw := Below.up hb0 (Nat.le_refl _) b1
 have hE1 := hE.next hbw
 have hk := heap_kept b1 (Nat.le_refl _) HK.out
 have HC := Lib.hid hc
 clear HFF HK hb0 b1 hc
 by_cases hF0 : F = 0
 · have hfb : ((F : Int) != 0) = false := by simp [hF0]
   have HP := Lib.hid (show Evt.putBatch ⟨S.data.toList, ex, se, sq, es⟩ = Evt.bytesB ⟨S.data.toList, ex, se, sq, es⟩ by rw [Evt.putBatch, HF.out, if_neg (by simp [hF0])])
   have hfz := Evt.fits_zero (by rw [HF.out]; exact hF0)
   have hlen8 : es.length ≤ 8 := hfz.2.2.2.2.2.1
   have hright := hfz.2.2.2.2.2.2
   have HRT := Lib.hid hright
   clear hF0 HF hfz hright
   obtain ⟨A1, hA1, e1, s1⟩ := str_of (Num.putText S.data.toList)
   obtain ⟨A2, hA2, e2, s2⟩ := str_of (Num.putInt ex)
   obtain ⟨A3, hA3, e3, s3⟩ := str_of (Num.put (Num.held se))
   obtain ⟨A4, hA4, e4, s4⟩ := str_of (Num.put (Num.held sq))
   obtain ⟨A5, hA5, e5, s5⟩ := str_of (Num.put (Num.held sl))
   obtain ⟨B1, _, f1, t1⟩ := str_of (A1.data.toList ++ A2.data.toList)
   obtain ⟨B2, _, f2, t2⟩ := str_of (B1.data.toList ++ A3.data.toList)
   obtain ⟨B3, _, f3, t3⟩ := str_of (B2.data.toList ++ A4.data.toList)
   obtain ⟨B4, _, f4, t4⟩ := str_of (B3.data.toList ++ A5.data.toList)
   have c1 := putText_det S
   have c2 := putInt_det ex
   have c3 := numPut_any se
   have c4 := numPut_any sq
   have c5 := numPut_any (sl : Int)
   rw [hA1] at c1
   rw [hA2] at c2
   rw [hA3] at c3
   rw [hA4] at c4
   rw [hA5] at c5
   have l1 : A1.size ≤ 1000006 := by have := Evt.putText_len S.data.toList; rw [s1]; rw [← Lib.size_eq] at this; omega
   have l2 : A2.size ≤ 6 := by rw [s2]; exact Num.put_le6 _ (Num.zig_le ex)
   have l3 : A3.size ≤ 6 := by rw [s3]; exact Num.put_le6 _ (Num.held_le se)
   have l4 : A4.size ≤ 6 := by rw [s4]; exact Num.put_le6 _ (Num.held_le sq)
   have l5 : A5.size ≤ 6 := by rw [s5]; exact Num.put_le6 _ (Num.held_le sl)
   rw [List.length_append, ← Lib.size_eq, ← Lib.size_eq] at t1 t2 t3 t4
   have a1 : ∀ w, (Op.stringOp .add A1 A2).run Tryz.prog w = .ok (.string B1) w := fun w => add_lists w _ _ _ (by omega) f1.symm
   have a2 : ∀ w, (Op.stringOp .add B1 A3).run Tryz.prog w = .ok (.string B2) w := fun w => add_lists w _ _ _ (by omega) f2.symm
   have a3 : ∀ w, (Op.stringOp .add B2 A4).run Tryz.prog w = .ok (.string B3) w := fun w => add_lists w _ _ _ (by omega) f3.symm
   have a4 : ∀ w, (Op.stringOp .add B3 A5).run Tryz.prog w = .ok (.string B4) w := fun w => add_lists w _ _ _ (by omega) f4.symm
   have hB4 : B4.size ≤ 1000100 := by omega
   have HB := Lib.hid (show B4.data.toList ++ (es.drop 0).flatMap Evt.bytesE = Evt.putBatch ⟨S.data.toList, ex, se, sq, es⟩ by
     rw [HP.out, Evt.bytesB, f4, f3, f2, f1, e1, e2, e3, e4, e5, HSL.out]; simp)
   clear e1 e2 e3 e4 e5 s1 s2 s3 s4 s5 f1 f2 f3 f4 t1 t2 t3 t4 hA1 hA2 hA3 hA4 hA5 HP
   have hlt : w.heap.size < w1.heap.size := (Array.getElem?_eq_some_iff.1 hk).1
   have kk := (Below.heap_alloc w1 (.cells #[.pointer none, .slice none 0 0] 268) _ hlt).trans hk
   have hI := bld_fresh w1
   have hbw2 : Below w.heap.size w (w1.alloc (.cells #[.pointer none, .slice none 0 0] 268)) := hbw.alloc hbw.size _
   have hE2 := hE1.next ((Below.refl _ w1).alloc (Nat.le_refl _) (.cells #[.pointer none, .slice none 0 0] 268))
   have hsz2 : (w1.alloc (.cells #[.pointer none, .slice none 0 0] 268)).heap.size = w1.heap.size + 1 := by simp
   clear hk
   go_wp2
   obtain ⟨W, hW⟩ : ∃ W, w1.alloc (.cells #[.pointer none, .slice none 0 0] 268) = W := ⟨_, rfl⟩
   rw [hW] at hI kk hbw2 hE2 hsz2 ⊢
   clear hW
   have k0 : W.cell? ⟨w.heap.size, 0, none⟩ = some (.string S) := by rw [Lib.cell_of_heap kk]; rfl
   have k1 : W.cell? ⟨w.heap.size, 1, none⟩ = some (.int .i64 ex) := by rw [Lib.cell_of_heap kk]; rfl
   have k2 : W.cell? ⟨w.heap.size, 2, none⟩ = some (.int .i64 se) := by rw [Lib.cell_of_heap kk]; rfl
   have k3 : W.cell? ⟨w.heap.size, 3, none⟩ = some (.int .i64 sq) := by rw [Lib.cell_of_heap kk]; rfl
   have k4 : W.cell? ⟨w.heap.size, 4, none⟩ = some (.slice sa sl sc) := by rw [Lib.cell_of_heap kk]; rfl
   have hI : Bld w1.heap.size w1.heap.size [] W.drew := hI.next ((Below.refl _ W).drew)
   have hz : w1.heap.size ≤ W.drew.heap.size := by show w1.heap.size ≤ W.heap.size; omega
   have hbs := hbw.size
   clear kk hE1
   go_region_held3 (fun w' => w'.cell? ⟨w.heap.size, 0, none⟩ = some (.string S) ∧ w'.cell? ⟨w.heap.size, 1, none⟩ = some (.int .i64 ex) ∧ w'.cell? ⟨w.heap.size, 2, none⟩ = some (.int .i64 se) ∧ w'.cell? ⟨w.heap.size, 3, none⟩ = some (.int .i64 sq) ∧ w'.cell? ⟨w.heap.size, 4, none⟩ = some (.slice sa sl sc) ∧ Below w.heap.size w w')
     (first | exact ⟨k0, k1, k2, k3, k4, hbw2.drew⟩ | exact held5n (by assumption) hb | exact held5 (by assumption) hb hbs hlt hlt hlt hlt hlt)
     (first
       | (go_at_call 294; refine (c1 _ (by omega)).mono ?_; rintro e w' ⟨rfl, hb⟩; have hI := hI.next hb; have hz := Nat.le_trans hz hb.size)
       | (go_at_call 295; refine (c2 _).mono ?_; rintro e w' ⟨rfl, hb⟩; have hI := hI.next hb; have hz := Nat.le_trans hz hb.size)
       | (go_at_call_of 91 (Value.int .i64 se); refine (c3 _).mono ?_; rintro e w' ⟨rfl, hb⟩; have hI := hI.next hb; have hz := Nat.le_trans hz hb.size)
       | (go_at_call_of 91 (Value.int .i64 sq); refine (c4 _).mono ?_; rintro e w' ⟨rfl, hb⟩; have hI := hI.next hb; have hz := Nat.le_trans hz hb.size)
       | (go_at_call_of 91 (Value.int .i64 (sl : Int)); refine (c5 _).mono ?_; rintro e w' ⟨rfl, hb⟩; have hI := hI.next hb; have hz := Nat.le_trans hz hb.size)
       | (go_at_call 142; refine (writeString w1.heap.size w1.heap.size [] B4 _ hI (by simp; omega) hz).mono ?_; rintro e w' ⟨rfl, hI, hb, _⟩))
   have hq : w'.cell? ⟨w.heap.size, 0, none⟩ = some (.string S) ∧ w'.cell? ⟨w.heap.size, 1, none⟩ = some (.int .i64 ex) ∧ w'.cell? ⟨w.heap.size, 2, none⟩ = some (.int .i64 se) ∧ w'.cell? ⟨w.heap.size, 3, none⟩ = some (.int .i64 sq) ∧ w'.cell? ⟨w.heap.size, 4, none⟩ = some (.slice sa sl sc) ∧ Below w.heap.size w w' := by assumption
   have hk4 := hq.2.2.2.2.1
   have hbN := hq.2.2.2.2.2
   have hz' := Nat.le_trans hz hb.size
   rw [List.nil_append] at hI
   have h0 : B4.data.toList.length ≤ 1000100 := by rw [← Lib.size_eq]; exact hB4
   clear hq c1 c2 c3 c4 c5 a1 a2 a3 a4 k0 k1 k2 k3 k4
   go_wp2
   go_loopw [33] (fun lv wr => ∃ (i : Nat) (acc : List UInt8), lv = .int .i64 i ∧ Bld w1.heap.size w1.heap.size acc wr ∧ Below w.heap.size w wr ∧ w1.heap.size ≤ wr.heap.size ∧ acc ++ (es.drop i).flatMap Evt.bytesE = Evt.putBatch ⟨S.data.toList, ex, se, sq, es⟩ ∧ acc.length ≤ 1000100 + i * 340 ∧ i ≤ sl) (fun lv _ => sl - (intOf lv).toNat)
   case atStart => exact ⟨0, B4.data.toList, rfl, hI, hbN, hz', HB.out, by omega, by omega⟩
   case round =>
     obtain ⟨i, acc, rfl, hIr, hbr, hzr, hacc, hal, hi⟩ := hrel
     have HA := Lib.hid hacc
     clear hacc
     by_cases hp : i < sl
     · obtain ⟨b, o, c, hv, hc1, hc2⟩ := evAt HC.out i (by rw [← HSL.out]; exact hp)
       cases hv
       have hc1 := cell_kept hbr (Nat.le_refl _) hc1
       have hc2 := cell_kept hbr (Nat.le_refl _) hc2
       have hlt2 : i < es.length := by rw [← HSL.out]; exact hp
       have hsm := HRT.out _ (List.getElem_mem hlt2)
       have hdr : es.drop i = es[i] :: es.drop (i + 1) := List.drop_eq_getElem_cons hlt2
       obtain ⟨x, hx⟩ : ∃ x, es[i] = x := ⟨_, rfl⟩
       rw [hx] at hc1 hc2 hsm hdr
       obtain ⟨K, hK, hK2, hK3⟩ := str_of x.kind
       obtain ⟨D, hD, hD2, hD3⟩ := str_of x.data
       rw [hK] at hc1
       rw [hD] at hc2
       have hr := Evt.right_len hsm
       have hKs : K.size ≤ 128 := by rw [hK3]; exact hr.1
       have hDs : D.size ≤ 200 := by rw [hD3]; exact hr.2
       have HR := Lib.hid (show acc ++ (Evt.bytesE ⟨K.data.toList, D.data.toList⟩ ++ (es.drop (i + 1)).flatMap Evt.bytesE) = Evt.putBatch ⟨S.data.toList, ex, se, sq, es⟩ by rw [← HA.out, hdr, hK2, hD2]; rfl)
       clear hsm hdr hx hK hD hK2 hD2 hK3 hD3 hr HA hlt2
       go_wp2_with fail
       refine (eventBytes_any K D _ (by omega) (by omega)).mono ?_
       rintro e w2 ⟨r, rfl, HB2, hrs, b2⟩
       have hI2 := (hIr.alloc (.cells #[.string K, .string D] 149)).next b2
       have hbw2 := Below.up (hbr.alloc hbr.size (.cells #[.string K, .string D] 149)) (Nat.le_refl _) b2
       have hz2 : w1.heap.size ≤ w2.heap.size := by have := b2.size; simp at this; omega
       clear b2
       go_wp2_with fail
       refine (writeString w1.heap.size w1.heap.size acc r w2 hI2 (by omega) hz2).mono ?_
       rintro e w3 ⟨rfl, h3, b3, _⟩
       have hbw3 : Below w.heap.size w w3 := hbw2.trans (b3.mono hbs)
       have hz3 := Nat.le_trans hz2 b3.size
       have HN := Lib.hid (show (acc ++ r.data.toList) ++ (es.drop (i + 1)).flatMap Evt.bytesE = Evt.putBatch ⟨S.data.toList, ex, se, sq, es⟩ by rw [← HR.out, HB2.out]; simp)
       have hl3 : (acc ++ r.data.toList).length ≤ 1000100 + (i + 1) * 340 := by rw [List.length_append, ← Lib.size_eq]; omega
       clear HR HB2 b3
       go_wp2
       exact ⟨⟨i + 1, _, by go_num, h3, hbw3, hz3, HN.out, hl3, by omega⟩, by simp [intOf]; omega⟩
     · obtain rfl : i = sl := by omega
       have HQ := Lib.hid (show acc = Evt.putBatch ⟨S.data.toList, ex, se, sq, es⟩ by rw [← HA.out, HSL.out, List.drop_length]; simp)
       clear HA
       go_wp2_with fail
       refine (bldString w1.heap.size w1.heap.size _ _ hIr hzr).mono ?_
       rintro e w3 ⟨rfl, b3⟩
       go_wp2
       go_ret
       exact ⟨_, rfl, HQ.out, hbr.trans (b3.mono hbs)⟩
 · have hfb : ((F : Int) != 0) = true := by simp; omega
   have HP := Lib.hid (show Evt.putBatch ⟨S.data.toList, ex, se, sq, es⟩ = [] by rw [Evt.putBatch, HF.out, if_pos hF0])
   clear hF0 HF
   go_wp2
   go_ret
   exact ⟨_, rfl, by rw [HP.out]; rfl, hbw⟩
def Rdr (b : Nat) (L : ByteArray) (c : Nat) (w : World) : Prop := w.heap[b]? = some (.cells #[.string L, .int .i64 (c : Int)] 391 (0, 0))
theorem grown_some {A B : World} {b : Nat} (h : A.grownBy B none) : A.grownBy B (some b) := ⟨h.os, h.tape, h.output, h.size, fun k hk _ => h.block k hk (by simp)⟩
theorem grown_trans {A B C : World} {r : Option Nat} (h : A.grownBy B r) (k : B.grownBy C r) : A.grownBy C r :=
 ⟨k.os.trans h.os, k.tape.trans h.tape, k.output.trans h.output, Nat.le_trans h.size k.size, fun j hj hr => (k.block j (Nat.lt_of_lt_of_le hj h.size) hr).trans (h.block j hj hr)⟩
theorem grown_set (W : World) (b i : Nat) (v : Value) : W.grownBy (W.setCell ⟨b, i, none⟩ v) (some b) :=
 ⟨rfl, rfl, rfl, by simp, fun k _ hk => Below.heap_setCell _ _ _ k (fun e => hk (by rw [e]))⟩
theorem below_of_grown {A B : World} {b n : Nat} (h : A.grownBy B (some b)) (hn : n ≤ b) (hA : n ≤ A.heap.size) : Below n A B :=
 (Below.refl n A).grown h hA (fun k e => by cases e; exact hn)
theorem Rdr.lt {b : Nat} {L : ByteArray} {c : Nat} {w : World} (h : Rdr b L c w) : b < w.heap.size := (Array.getElem?_eq_some_iff.1 h).1
theorem Rdr.cells {b : Nat} {L : ByteArray} {c : Nat} {w : World} (h : Rdr b L c w) : w.cell? ⟨b, 0, none⟩ = some (.string L) ∧ w.cell? ⟨b, 1, none⟩ = some (.int .i64 (c : Int)) ∧ w.frozen? ⟨b, 0, none⟩ = false ∧ w.frozen? ⟨b, 1, none⟩ = false :=
 ⟨by rw [Lib.cell_of_heap h]; rfl, by rw [Lib.cell_of_heap h]; rfl, Lib.frozen_of_heap h 0, Lib.frozen_of_heap h 1⟩
theorem Rdr.kept {b : Nat} {L : ByteArray} {c : Nat} {w w' : World} {r : Option Nat} (h : Rdr b L c w) (hg : w.grownBy w' r) (hr : some b ≠ r) : Rdr b L c w' := (hg.block b h.lt hr).trans h
theorem Rdr.put {b : Nat} {L : ByteArray} {c : Nat} {w w1 : World} (h : Rdr b L c w) (hb : Below w.heap.size w w1) (L' : ByteArray) (c' : Nat) :
   Rdr b L' c' ((w1.setCell ⟨b, 0, none⟩ (.string L')).setCell ⟨b, 1, none⟩ (.int .i64 (c' : Int))) ∧ w.grownBy ((w1.setCell ⟨b, 0, none⟩ (.string L')).setCell ⟨b, 1, none⟩ (.int .i64 (c' : Int))) (some b) :=
 ⟨setCell_at (setCell_at (heap_kept hb (Nat.le_refl _) h) _) _, grown_trans (grown_trans (grown_some (grown_of_below hb)) (grown_set _ _ _ _)) (grown_set _ _ _ _)⟩
theorem note_any (b : Nat) (L : ByteArray) (c k : Nat) (w : World) (h : Rdr b L c w) :
   Calls Tryz.prog 293 #[.pointer (some ⟨b, 0, none⟩), .int .i64 (k : Int)] w fun e w' => ∃ c', e = .returned (.tuple #[]) ∧ Hid (Evt.note (L.data.toList, c) k = (L.data.toList, c')) ∧ Rdr b L c' w' ∧ w.grownBy w' (some b) := by
 obtain ⟨h0, h1, f0, f1⟩ := h.cells
 by_cases hc : c = 0
 · have hcb : ((c : Int) == 0) = true := by simp [hc]
   have HF := Lib.hid (show Evt.note (L.data.toList, c) k = (L.data.toList, k) by rw [Evt.note, if_pos hc])
   go_enter Tryz.func293, Tryz.ntmps293
   go_wp2
   go_end0
   exact ⟨k, rfl, HF, setCell_at h _, grown_set _ _ _ _⟩
 · have hcb : ((c : Int) == 0) = false := by simp; omega
   have HF := Lib.hid (show Evt.note (L.data.toList, c) k = (L.data.toList, c) by rw [Evt.note, if_neg hc])
   go_enter Tryz.func293, Tryz.ntmps293
   go_wp2
   go_end0
   exact ⟨c, rfl, HF, h, grown_some ⟨rfl, rfl, rfl, Nat.le_refl _, fun _ _ _ => rfl⟩⟩
theorem number_any (b : Nat) (L : ByteArray) (c : Nat) (w : World) (h : Rdr b L c w) (hL : L.size ≤ 1000000000) :
   Calls Tryz.prog 306 #[.pointer (some ⟨b, 0, none⟩)] w fun e w' => ∃ (n : Nat) (L' : ByteArray) (c' : Nat), e = .returned (.int .i64 (n : Int)) ∧ Hid (Evt.rdNum (L.data.toList, c) = (n, L'.data.toList, c')) ∧ L'.size ≤ L.size ∧ Rdr b L' c' w' ∧ w.grownBy w' (some b) := by
 obtain ⟨h0, h1, f0, f1⟩ := h.cells
 have hbl := h.lt
 by_cases hc : c = 0
 · have hcb : ((c : Int) != 0) = false := by simp [hc]
   go_enter Tryz.func306, Tryz.ntmps306
   go_wp2_with fail
   refine (numTake_any L w (by omega)).mono ?_
   rintro e w1 ⟨n, r, c', rfl, HT, b1⟩
   have hrs : r.size ≤ L.size := by have := (Num.take_le L.data.toList).2.1; rw [HT.out, ← Lib.size_eq, ← Lib.size_eq] at this; exact this
   have HF := Lib.hid (show Evt.rdNum (L.data.toList, c) = (n, r.data.toList, c') by rw [Evt.rdNum, if_neg (by simpa using hc), HT.out])
   have h0' := cell_kept b1 (Nat.le_refl _) h0
   have h1' := cell_kept b1 (Nat.le_refl _) h1
   have hk := heap_kept b1 (Nat.le_refl _) h
   have f0' := Lib.frozen_of_heap hk 0
   have f1' := Lib.frozen_of_heap hk 1
   have HP := Lib.hid (h.put b1 r c')
   clear hk h0 h1 f0 f1 HT
   go_wp2
   go_ret
   exact ⟨n, r, c', rfl, HF, hrs, HP.out.1, HP.out.2⟩
 · have hcb : ((c : Int) != 0) = true := by simp; omega
   have HF := Lib.hid (show Evt.rdNum (L.data.toList, c) = (0, L.data.toList, c) by rw [Evt.rdNum, if_pos hc])
   go_enter Tryz.func306, Tryz.ntmps306
   go_wp2
   go_ret
   exact ⟨0, L, c, rfl, HF, Nat.le_refl _, h, grown_some ⟨rfl, rfl, rfl, Nat.le_refl _, fun _ _ _ => rfl⟩⟩
theorem signed_any (b : Nat) (L : ByteArray) (c : Nat) (w : World) (h : Rdr b L c w) (hL : L.size ≤ 1000000000) :
   Calls Tryz.prog 305 #[.pointer (some ⟨b, 0, none⟩)] w fun e w' => ∃ (n : Int) (L' : ByteArray) (c' : Nat), e = .returned (.int .i64 n) ∧ Hid (Evt.rdInt (L.data.toList, c) = (n, L'.data.toList, c')) ∧ L'.size ≤ L.size ∧ Rdr b L' c' w' ∧ w.grownBy w' (some b) := by
 obtain ⟨h0, h1, f0, f1⟩ := h.cells
 have hbl := h.lt
 by_cases hc : c = 0
 · have hcb : ((c : Int) != 0) = false := by simp [hc]
   go_enter Tryz.func305, Tryz.ntmps305
   go_wp2_with fail
   refine (takeInt_any L w (by omega)).mono ?_
   rintro e w1 ⟨n, r, c', rfl, HT, b1⟩
   have hrs : r.size ≤ L.size := by
     have h1 := (Num.take_le L.data.toList).2.1
     have h2 : (Num.take L.data.toList).2.1 = r.data.toList := by have := HT.out; unfold Num.takeInt at this; simp only [Prod.mk.injEq] at this; exact this.2.1
     rw [h2, ← Lib.size_eq, ← Lib.size_eq] at h1; exact h1
   have HF := Lib.hid (show Evt.rdInt (L.data.toList, c) = (n, r.data.toList, c') by rw [Evt.rdInt, if_neg (by simpa using hc), HT.out])
   have h0' := cell_kept b1 (Nat.le_refl _) h0
   have h1' := cell_kept b1 (Nat.le_refl _) h1
   have hk := heap_kept b1 (Nat.le_refl _) h
   have f0' := Lib.frozen_of_heap hk 0
   have f1' := Lib.frozen_of_heap hk 1
   have HP := Lib.hid (h.put b1 r c')
   clear hk h0 h1 f0 f1 HT
   go_wp2
   go_ret
   exact ⟨n, r, c', rfl, HF, hrs, HP.out.1, HP.out.2⟩
 · have hcb : ((c : Int) != 0) = true := by simp; omega
   have HF := Lib.hid (show Evt.rdInt (L.data.toList, c) = (0, L.data.toList, c) by rw [Evt.rdInt, if_pos hc])
   go_enter Tryz.func305, Tryz.ntmps305
   go_wp2
   go_ret
   exact ⟨0, L, c, rfl, HF, Nat.le_refl _, h, grown_some ⟨rfl, rfl, rfl, Nat.le_refl _, fun _ _ _ => rfl⟩⟩
theorem rname_any (b : Nat) (L : ByteArray) (c : Nat) (w : World) (h : Rdr b L c w) (hL : L.size ≤ 1000000000) :
   Calls Tryz.prog 304 #[.pointer (some ⟨b, 0, none⟩)] w fun e w' => ∃ (n : ByteArray) (L' : ByteArray) (c' : Nat), e = .returned (.string n) ∧ Hid (Evt.rdName (L.data.toList, c) = (n.data.toList, L'.data.toList, c')) ∧ L'.size ≤ L.size ∧ n.size ≤ L.size ∧ Rdr b L' c' w' ∧ w.grownBy w' (some b) := by
 obtain ⟨h0, h1, f0, f1⟩ := h.cells
 have hbl := h.lt
 by_cases hc : c = 0
 · have hcb : ((c : Int) != 0) = false := by simp [hc]
   go_enter Tryz.func304, Tryz.ntmps304
   go_wp2_with fail
   refine (takeText_any L 200 w (by omega)).mono ?_
   rintro e w1 ⟨n, r, c', rfl, HT, b1⟩
   have hle := Num.takeText_le L.data.toList 200
   rw [HT.out] at hle
   simp only [← Lib.size_eq] at hle
   have hrs : r.size ≤ L.size := hle.2.2.2.1
   have hns : n.size ≤ L.size := hle.2.2.1
   have HF := Lib.hid (show Evt.rdName (L.data.toList, c) = (n.data.toList, r.data.toList, c') by rw [Evt.rdName, if_neg (by simpa using hc), HT.out])
   have h0' := cell_kept b1 (Nat.le_refl _) h0
   have h1' := cell_kept b1 (Nat.le_refl _) h1
   have hk := heap_kept b1 (Nat.le_refl _) h
   have f0' := Lib.frozen_of_heap hk 0
   have f1' := Lib.frozen_of_heap hk 1
   have HP := Lib.hid (h.put b1 r c')
   clear hk h0 h1 f0 f1 HT hle
   go_wp2
   go_ret
   exact ⟨n, r, c', rfl, HF, hrs, hns, HP.out.1, HP.out.2⟩
 · have hcb : ((c : Int) != 0) = true := by simp; omega
   have HF := Lib.hid (show Evt.rdName (L.data.toList, c) = ([], L.data.toList, c) by rw [Evt.rdName, if_pos hc])
   go_enter Tryz.func304, Tryz.ntmps304
   go_wp2
   go_ret
   exact ⟨_, L, c, rfl, HF, Nat.le_refl _, Nat.zero_le _, h, grown_some ⟨rfl, rfl, rfl, Nat.le_refl _, fun _ _ _ => rfl⟩⟩
theorem event_size : (Tryz.prog.info? 149).map (·.size) = some 2 := by kernel_rfl
theorem batch_size : (Tryz.prog.info? 38).map (·.size) = some 5 := by kernel_rfl
theorem results_cell3 {P : Program} {fn : Func} {p u x : Tmp} {ty : TypeId} (h : fn.results = #[.cell p ty, .tmp u, .tmp x]) (tmps : Array Value) (w : World) (g : Nat) (t : TypeId) (cs : Array Value) (fr : Nat × Nat) (d : TypeDesc)
   (hp : tmps.getD p undef = .pointer (some ⟨g, 0, none⟩)) (hg : w.heap[g]? = some (.cells cs t fr))
   (hu : P.underlying ty = some d) (hd : (match d with | .struct _ | .array _ _ => true | _ => false) = true) (hi : (P.info? ty).map (·.size) = some cs.size) :
   (results fn tmps).run P w = .ok (.tuple #[.agg cs, tmps.getD u undef, tmps.getD x undef]) w := by
 have hp' : tmps[p]?.getD undef = .pointer (some ⟨g, 0, none⟩) := by simpa using hp
 simp [results, h, hp', asAddr, run_loadVar_row w g t ty cs fr d hg hu hd hi]
set_option maxHeartbeats 1000000 in
theorem revent_any (b : Nat) (L : ByteArray) (c : Nat) (w : World) (h : Rdr b L c w) (hL : L.size ≤ 1000000000) :
   Calls Tryz.prog 292 #[.pointer (some ⟨b, 0, none⟩)] w fun e w' => ∃ (k d L' : ByteArray) (c' : Nat), e = .returned (.agg #[.string k, .string d]) ∧ Hid (Evt.rdEvent (L.data.toList, c) = (⟨k.data.toList, d.data.toList⟩, L'.data.toList, c')) ∧ L'.size ≤ L.size ∧ k.size ≤ L.size ∧ d.size ≤ L.size ∧ Rdr b L' c' w' ∧ w.grownBy w' (some b) := by
 have hbl := h.lt
 have hw0 : w.grownBy (w.alloc (.cells #[.string ⟨#[]⟩, .string ⟨#[]⟩] 149)) (some b) := World.grownBy_alloc w _ _
 have h1 : Rdr b L c (w.alloc (.cells #[.string ⟨#[]⟩, .string ⟨#[]⟩] 149)) := h.kept (World.grownBy_alloc w _ none) (by simp)
 have hE0 : (w.alloc (.cells #[.string ⟨#[]⟩, .string ⟨#[]⟩] 149)).heap[w.heap.size]? = some (.cells #[.string ⟨#[]⟩, .string ⟨#[]⟩] 149 (0, 0)) := heap_alloc_new w _
 have HE0 := Lib.hid hE0
 clear hE0
 go_enter Tryz.func292, Tryz.ntmps292
 go_wp2_with fail
 refine (rname_any b L c _ h1 hL).mono ?_
 rintro e w1 ⟨k, L1, c1, rfl, HK, hL1, hk1, hr1, g1⟩
 have hEk := (g1.block w.heap.size (by simp) (by simp; omega)).trans HE0.out
 have HE1 := Lib.hid hEk
 clear hEk HE0
 go_wp2_with fail
 refine (rname_any b L1 c1 w1 hr1 (by omega)).mono ?_
 rintro e w2 ⟨d, L2, c2, rfl, HD, hL2, hd1, hr2, g2⟩
 have hE2 := (g2.block w.heap.size (by have := g1.size; simp at this; omega) (by simp; omega)).trans HE1.out
 have ck0 : w2.cell? ⟨w.heap.size, 0, none⟩ = some (.string ⟨#[]⟩) := by rw [Lib.cell_of_heap hE2]; rfl
 have ck1 : w2.cell? ⟨w.heap.size, 1, none⟩ = some (.string ⟨#[]⟩) := by rw [Lib.cell_of_heap hE2]; rfl
 have cf0 := Lib.frozen_of_heap hE2 0
 have cf1 := Lib.frozen_of_heap hE2 1
 have HF := Lib.hid (show Evt.rdEvent (L.data.toList, c) = (⟨k.data.toList, d.data.toList⟩, L2.data.toList, c2) by rw [Evt.rdEvent, HK.out]; simp only; rw [HD.out])
 have hE3 := setCell_at (i := 1) (setCell_at (i := 0) hE2 (.string k)) (.string d)
 have hr3 := (hr2.kept (grown_set w2 w.heap.size 0 (.string k)) (by simp; omega)).kept (grown_set _ w.heap.size 1 (.string d)) (by simp; omega)
 have hg3 : w.grownBy ((w2.setCell ⟨w.heap.size, 0, none⟩ (.string k)).setCell ⟨w.heap.size, 1, none⟩ (.string d)) (some b) := by
   have ga := grown_trans (grown_trans hw0 g1) g2
   refine ⟨ga.os, ga.tape, ga.output, by have := ga.size; simp; omega, fun j hj hr => ?_⟩
   rw [Below.heap_setCell _ _ _ j (by simp; omega), Below.heap_setCell _ _ _ j (by simp; omega)]
   exact ga.block j hj hr
 have HE3 := Lib.hid hE3; have HR3 := Lib.hid hr3; have HG3 := Lib.hid hg3
 clear hE2 HE1 hE3 hr3 hg3 hw0 g1 g2
 go_wp2
 (try simp only [Exit.inBlock, Exit.then])
 refine bodyPost_ret (results_cell_row rfl _ _ w.heap.size _ _ _ _ rfl HE3.out Tryz.underlying149 rfl event_size) rfl ?_
 exact ⟨k, d, L2, c2, rfl, HF, by omega, hk1, by omega, HR3.out, HG3.out⟩
def Bat (b : Nat) (S : ByteArray) (ex se sq : Int) (v : Value) (w : World) : Prop := w.heap[b]? = some (.cells #[.string S, .int .i64 ex, .int .i64 se, .int .i64 sq, v] 38 (0, 0))
theorem Bat.kept {b : Nat} {S : ByteArray} {ex se sq : Int} {v : Value} {w w' : World} {r : Option Nat} (h : Bat b S ex se sq v w) (hg : w.grownBy w' r) (hr : some b ≠ r) : Bat b S ex se sq v w' :=
 (hg.block b (Array.getElem?_eq_some_iff.1 h).1 hr).trans h
theorem Bat.cells {b : Nat} {S : ByteArray} {ex se sq : Int} {v : Value} {w : World} (h : Bat b S ex se sq v w) :
   w.cell? ⟨b, 0, none⟩ = some (.string S) ∧ w.cell? ⟨b, 1, none⟩ = some (.int .i64 ex) ∧ w.cell? ⟨b, 2, none⟩ = some (.int .i64 se) ∧ w.cell? ⟨b, 3, none⟩ = some (.int .i64 sq) ∧ w.cell? ⟨b, 4, none⟩ = some v ∧
     w.frozen? ⟨b, 0, none⟩ = false ∧ w.frozen? ⟨b, 1, none⟩ = false ∧ w.frozen? ⟨b, 2, none⟩ = false ∧ w.frozen? ⟨b, 3, none⟩ = false ∧ w.frozen? ⟨b, 4, none⟩ = false :=
 ⟨by rw [Lib.cell_of_heap h]; rfl, by rw [Lib.cell_of_heap h]; rfl, by rw [Lib.cell_of_heap h]; rfl, by rw [Lib.cell_of_heap h]; rfl, by rw [Lib.cell_of_heap h]; rfl, Lib.frozen_of_heap h 0, Lib.frozen_of_heap h 1, Lib.frozen_of_heap h 2, Lib.frozen_of_heap h 3, Lib.frozen_of_heap h 4⟩
theorem grown_drew {A B : World} {r : Option Nat} (h : A.grownBy B r) : A.grownBy B.drew r := ⟨h.os, h.tape, h.output, h.size, h.block⟩
theorem Bat.put5 {b : Nat} {S0 : ByteArray} {e0 s0 q0 : Int} {v0 : Value} {w : World} (h : Bat b S0 e0 s0 q0 v0 w) (S : ByteArray) (ex se sq : Int) (v : Value) :
   Bat b S ex se sq v ((((((w.setCell ⟨b, 0, none⟩ (.string S)).setCell ⟨b, 1, none⟩ (.int .i64 ex)).setCell ⟨b, 2, none⟩ (.int .i64 se)).setCell ⟨b, 3, none⟩ (.int .i64 sq)).setCell ⟨b, 4, none⟩ v).drew) ∧
     w.grownBy ((((((w.setCell ⟨b, 0, none⟩ (.string S)).setCell ⟨b, 1, none⟩ (.int .i64 ex)).setCell ⟨b, 2, none⟩ (.int .i64 se)).setCell ⟨b, 3, none⟩ (.int .i64 sq)).setCell ⟨b, 4, none⟩ v).drew) (some b) := by
 have h1 := setCell_at (i := 0) h (.string S)
 have h2 := setCell_at (i := 1) h1 (.int .i64 ex)
 have h3 := setCell_at (i := 2) h2 (.int .i64 se)
 have h4 := setCell_at (i := 3) h3 (.int .i64 sq)
 have h5 := setCell_at (i := 4) h4 v
 refine ⟨?_, ?_⟩
 · have e : ∀ W : World, W.drew.heap = W.heap := fun _ => rfl
   unfold Bat
   rw [e, h5]
   simp
 have g := grown_trans (grown_trans (grown_trans (grown_trans (grown_set w b 0 (.string S)) (grown_set _ b 1 (.int .i64 ex))) (grown_set _ b 2 (.int .i64 se))) (grown_set _ b 3 (.int .i64 sq))) (grown_set _ b 4 v)
 exact grown_drew g
theorem cells_not_row {W : World} {b : Nat} {c : Array Value} {t e : TypeId} {fz : Nat × Nat} (h : W.heap[b]? = some (.cells c t fz)) (hte : t ≠ e) {base size k : Nat} {v : Value} {xs : List Value} (hr : W.ownsRow base e size v k xs) : some b ≠ v.ownBlock := by
 rcases hr.2 with ⟨rfl, _⟩ | ⟨g, cap, cur, rfl, _, hgb, _⟩
 · simp [Value.ownBlock]
 · intro e'
   obtain rfl : b = g := by simpa [Value.ownBlock] using e'
   have := h.symm.trans hgb
   simp at this
   exact hte this.2.1
theorem slice_of_owns {W : World} {e base size k : Nat} {v : Value} {xs : List Value} (hr : W.ownsRow base e size v k xs) : ∃ a l c, v = .slice a l c := by
 rcases hr.2 with ⟨rfl, _⟩ | ⟨g, cap, cur, rfl, _⟩
 · exact ⟨_, _, _, rfl⟩
 · exact ⟨_, _, _, rfl⟩
theorem evT : ElemT Tryz.prog 36 149 2 := by
 have h : (Tryz.prog.info? 149).map (fun i => (i.zero, i.size, i.bytes)) = some (some (.agg #[.string ⟨#[]⟩, .string ⟨#[]⟩]), 2, 32) := by kernel_rfl
 obtain ⟨i0, hi, hz0, hz1, hz2⟩ := info_parts h
 exact ⟨Tryz.underlying36, ⟨i0, _, 32, hi, hz0, hz1, hz2, rfl, by omega⟩, by omega⟩
theorem evCells_snoc (es : List Evt.Event) (k d : ByteArray) : evCells (es ++ [⟨k.data.toList, d.data.toList⟩]) = evCells es ++ [.string k, .string d] := by
 simp [evCells]
theorem small_snoc {es : List Evt.Event} (h : Small es) (k d : ByteArray) (hk : k.size ≤ 1000000) (hd : d.size ≤ 1000000) : Small (es ++ [⟨k.data.toList, d.data.toList⟩]) := by
 intro e he
 rcases List.mem_append.1 he with he | he
 · exact h e he
 · obtain rfl : e = ⟨k.data.toList, d.data.toList⟩ := by simpa using he
   exact ⟨by simp only; rw [← Lib.size_eq]; exact hk, by simp only; rw [← Lib.size_eq]; exact hd⟩
def ZBat (b : Nat) (w : World) : Prop := Bat b ⟨#[]⟩ 0 0 0 (.slice none 0 0) w
set_option maxHeartbeats 4000000 in
set_option maxRecDepth 100000 in
theorem takeBatch_any (s : ByteArray) (w : World) (hE : Env w) (hs : s.size ≤ 1000000) :
   Calls Tryz.prog 287 #[.string s] w fun e w' => ∃ (S : ByteArray) (ex se sq : Int) (v : Value) (es : List Evt.Event) (r : ByteArray) (c : Nat), e = .returned (.tuple #[.agg #[.string S, .int .i64 ex, .int .i64 se, .int .i64 sq, v], .string r, .int .i64 (c : Int)]) ∧
     Hid (Evt.takeBatch s.data.toList = (⟨S.data.toList, ex, se, sq, es⟩, r.data.toList, c)) ∧ w'.ownsRow w.heap.size 149 2 v es.length (evCells es) ∧ S.size ≤ 1000000 ∧ Small es ∧ es.length ≤ 8 ∧ r.size ≤ s.size ∧ Below w.heap.size w w' := by
 have hz0 : ZBat w.heap.size (w.alloc (.cells #[.string ⟨#[]⟩, .int .i64 0, .int .i64 0, .int .i64 0, .slice none 0 0] 38)) := heap_alloc_new w _
 have hr0 : Rdr (w.heap.size + 1) s 0 ((w.alloc (.cells #[.string ⟨#[]⟩, .int .i64 0, .int .i64 0, .int .i64 0, .slice none 0 0] 38)).alloc (.cells #[.string s, .int .i64 0] 391)) := by
   have := heap_alloc_new (w.alloc (.cells #[.string ⟨#[]⟩, .int .i64 0, .int .i64 0, .int .i64 0, .slice none 0 0] 38)) (.cells #[.string s, .int .i64 0] 391)
   rw [World.size_alloc] at this
   exact this
 have hz1 : ZBat w.heap.size ((w.alloc (.cells #[.string ⟨#[]⟩, .int .i64 0, .int .i64 0, .int .i64 0, .slice none 0 0] 38)).alloc (.cells #[.string s, .int .i64 0] 391)) := hz0.kept (World.grownBy_alloc _ _ none) (by simp)
 have hb1 : Below w.heap.size w ((w.alloc (.cells #[.string ⟨#[]⟩, .int .i64 0, .int .i64 0, .int .i64 0, .slice none 0 0] 38)).alloc (.cells #[.string s, .int .i64 0] 391)) := ((Below.refl _ _).alloc (Nat.le_refl _) _).alloc (by simp) _
 have hsz1 : ((w.alloc (.cells #[.string ⟨#[]⟩, .int .i64 0, .int .i64 0, .int .i64 0, .slice none 0 0] 38)).alloc (.cells #[.string s, .int .i64 0] 391)).heap.size = w.heap.size + 2 := by simp
 go_enter Tryz.func287, Tryz.ntmps287
 go_wp2_with fail
 obtain ⟨W1, hW1⟩ : ∃ W1, ((w.alloc (.cells #[.string ⟨#[]⟩, .int .i64 0, .int .i64 0, .int .i64 0, .slice none 0 0] 38)).alloc (.cells #[.string s, .int .i64 0] 391)) = W1 := ⟨_, rfl⟩
 rw [hW1] at hr0 hz1 hb1 hsz1 ⊢
 clear hW1 hz0
 refine (rname_any (w.heap.size + 1) s 0 W1 hr0 (by omega)).mono ?_
 rintro e w1 ⟨S, L1, c1, rfl, H1, l1, n1, r1, g1⟩
 go_wp2_with fail
 refine (signed_any (w.heap.size + 1) L1 c1 w1 r1 (by omega)).mono ?_
 rintro e w2 ⟨ex, L2, c2, rfl, H2, l2, r2, g2⟩
 go_wp2_with fail
 refine (number_any (w.heap.size + 1) L2 c2 w2 r2 (by omega)).mono ?_
 rintro e w3 ⟨se, L3, c3, rfl, H3, l3, r3, g3⟩
 go_wp2_with fail
 refine (number_any (w.heap.size + 1) L3 c3 w3 r3 (by omega)).mono ?_
 rintro e w4 ⟨sq, L4, c4, rfl, H4, l4, r4, g4⟩
 have hR : w.heap.size ≤ w.heap.size + 1 := by omega
 have g14 := grown_trans (grown_trans (grown_trans g1 g2) g3) g4
 have hb4 : Below w.heap.size w w4 := hb1.trans (below_of_grown g14 hR (by omega))
 have hz4 : ZBat w.heap.size w4 := hz1.kept g14 (by simp)
 have hs4 : w.heap.size + 2 ≤ w4.heap.size := by have := g14.size; omega
 have hB4 : Bat w4.heap.size S ex se sq (.slice none 0 0) (w4.alloc (.cells #[.string S, .int .i64 ex, .int .i64 (se : Int), .int .i64 (sq : Int), .slice none 0 0] 38)) := heap_alloc_new w4 _
 have r5 : Rdr (w.heap.size + 1) L4 c4 (w4.alloc (.cells #[.string S, .int .i64 ex, .int .i64 (se : Int), .int .i64 (sq : Int), .slice none 0 0] 38)) := r4.kept (World.grownBy_alloc _ _ none) (by simp)
 have hz5 : ZBat w.heap.size (w4.alloc (.cells #[.string S, .int .i64 ex, .int .i64 (se : Int), .int .i64 (sq : Int), .slice none 0 0] 38)) := hz4.kept (World.grownBy_alloc _ _ none) (by simp)
 have hb5 : Below w.heap.size w (w4.alloc (.cells #[.string S, .int .i64 ex, .int .i64 (se : Int), .int .i64 (sq : Int), .slice none 0 0] 38)) := hb4.alloc (by omega) _
 have hs5 : (w4.alloc (.cells #[.string S, .int .i64 ex, .int .i64 (se : Int), .int .i64 (sq : Int), .slice none 0 0] 38)).heap.size = w4.heap.size + 1 := by simp
 go_wp2_with fail
 obtain ⟨W5, hW5⟩ : ∃ W5, w4.alloc (.cells #[.string S, .int .i64 ex, .int .i64 (se : Int), .int .i64 (sq : Int), .slice none 0 0] 38) = W5 := ⟨_, rfl⟩
 rw [hW5] at hB4 r5 hz5 hb5 hs5 ⊢
 clear hW5
 refine (number_any (w.heap.size + 1) L4 c4 W5 r5 (by omega)).mono ?_
 rintro e w6 ⟨many, L5, c5, rfl, H5, l5, r6, g6⟩
 obtain ⟨B6, hB6⟩ : ∃ B6, w4.heap.size = B6 := ⟨_, rfl⟩
 rw [hB6] at hB4 hs4 hs5 ⊢
 clear hB6
 have hne : some B6 ≠ some (w.heap.size + 1) := by simp; omega
 have hB6 := hB4.kept g6 hne
 have hz6 := Bat.kept hz5 g6 (by simp)
 have hb6 : Below w.heap.size w w6 := hb5.trans (below_of_grown g6 hR (by omega))
 have hs6 : B6 < w6.heap.size := by have := g6.size; omega
 have HH := Lib.hid (show Evt.rdHead s.data.toList = (S.data.toList, ex, se, sq, many, L5.data.toList, c5) by
   unfold Evt.rdHead; simp only; rw [H1.out]; simp only; rw [H2.out]; simp only; rw [H3.out]; simp only; rw [H4.out]; simp only; rw [H5.out])
 have hl5 : L5.size ≤ s.size := by omega
 have hSs : S.size ≤ 1000000 := by omega
 clear H1 H2 H3 H4 H5 l1 l2 l3 l4 l5 n1 r1 r2 r3 r4 r5 g1 g2 g3 g4 g14 g6 hb1 hb4 hb5 hz1 hz4 hz5 hB4 hr0 hs5 hsz1
 go_upto_if 25 with fail
 go_cut [] (fun wx => ∃ c6, Hid (Evt.rdMany many (L5.data.toList, c5) = (L5.data.toList, c6)) ∧ (many ≤ 8 ∨ c6 ≠ 0) ∧ Rdr (w.heap.size + 1) L5 c6 wx ∧ Bat B6 S ex se sq (.slice none 0 0) wx ∧ ZBat w.heap.size wx ∧ Below w.heap.size w wx ∧ B6 < wx.heap.size)
 case first =>
   by_cases h8 : (8 : Int) < many
   · go_wp2_with fail
     refine (note_any (w.heap.size + 1) L5 c5 4 w6 r6).mono ?_
     rintro e w7 ⟨c6, rfl, H6, r7, g7⟩
     have HM := Lib.hid (show Evt.rdMany many (L5.data.toList, c5) = (L5.data.toList, c6) by rw [Evt.rdMany, if_pos (by omega)]; exact H6.out)
     have hc6 : c6 ≠ 0 := by
       have := H6.out
       unfold Evt.note at this
       split at this
       · simp only [Prod.mk.injEq] at this; omega
       · rename_i h; simp only [Prod.mk.injEq] at this h; omega
     go_wp2
     go_meet
     exact ⟨c6, HM, .inr hc6, r7, hB6.kept g7 hne, Bat.kept hz6 g7 (by simp), hb6.trans (below_of_grown g7 hR hb6.size), by have := g7.size; omega⟩
   · have HM := Lib.hid (show Evt.rdMany many (L5.data.toList, c5) = (L5.data.toList, c5) by rw [Evt.rdMany, if_neg (by omega)])
     go_wp2
     go_meet
     exact ⟨c5, HM, .inl (by omega), r6, hB6, hz6, hb6, hs6⟩
 case rest =>
   obtain ⟨c6, HM, h8, r7, hB7, hz7, hb7, hs7⟩ := hcut
   obtain ⟨Q, hQ⟩ : ∃ Q, Evt.rdEvents many (L5.data.toList, c6) = Q := ⟨_, rfl⟩
   have HQ := Lib.hid hQ
   clear hQ r6 hB6 hz6 hb6 hs6
   go_wp2
   go_loopw [8] (fun iv wr => ∃ (i : Nat) (es : List Evt.Event) (L : ByteArray) (c : Nat) (v : Value), iv = .int .i64 (i : Int) ∧ i ≤ many ∧ (many ≤ 8 ∨ c ≠ 0) ∧ Rdr (w.heap.size + 1) L c wr ∧ Bat B6 S ex se sq v wr ∧ ZBat w.heap.size wr ∧ Below w.heap.size w wr ∧ B6 < wr.heap.size ∧
       wr.ownsRow w.heap.size 149 2 v es.length (evCells es) ∧ Small es ∧ es.length ≤ i ∧ es.length ≤ 8 ∧ L.size ≤ s.size ∧ es ++ (Evt.rdEvents (many - i) (L.data.toList, c)).1 = Q.1 ∧ (Evt.rdEvents (many - i) (L.data.toList, c)).2 = Q.2) (fun iv _ => many - (intOf iv).toNat)
   case atStart => exact ⟨0, [], L5, c6, _, rfl, by omega, h8, r7, hB7, hz7, hb7, hs7, World.ownsRow_nil _ _ _ _, (fun e he => by cases he), by simp, by simp, hl5, by rw [Nat.sub_zero, HQ.out]; rfl, by rw [Nat.sub_zero, HQ.out]⟩
   case round =>
     obtain ⟨i, es, L, c, v, rfl, hi, h8', hr, hB, hz, hb, hsz, hown, hsm, hel, hel8, hL, hq1, hq2⟩ := hrel
     have HQ1 := Lib.hid hq1; have HQ2 := Lib.hid hq2
     clear hq1 hq2 r7 hB7 hz7 hb7 hs7
     by_cases hgo : i < many ∧ c = 0
     · obtain ⟨hi1, hc0⟩ := hgo
       subst hc0
       have hi1' : (i : Int) < many := by omega
       have h0b : (((0 : Nat) : Int) == 0) = true := rfl
       obtain ⟨sa, sl, sc, rfl⟩ := slice_of_owns hown
       obtain ⟨p0, p1, q0, q1⟩ := hr.cells
       go_wp2_with fail
       refine (revent_any (w.heap.size + 1) L 0 wr hr (by omega)).mono ?_
       rintro e w1 ⟨k, d, L', c', rfl, HE, hl1, hk1, hd1, r1, g1⟩
       have B1 := hB.kept g1 hne
       have Z1 := Bat.kept hz g1 (by simp)
       have own1 := hown.kept g1 (.inr (cells_not_row hr (by decide) hown).symm)
       have hb1 : Below w.heap.size w w1 := hb.trans (below_of_grown g1 hR hb.size)
       have hs1 : B6 < w1.heap.size := by have := g1.size; omega
       have B1a := B1.kept (World.grownBy_alloc w1 (.cells #[.string k, .string d] 149) none) (by simp)
       have Z1a := Bat.kept Z1 (World.grownBy_alloc w1 (.cells #[.string k, .string d] 149) none) (by simp)
       have r1a := r1.kept (World.grownBy_alloc w1 (.cells #[.string k, .string d] 149) none) (by simp)
       have own1a := own1.alloc (.cells #[.string k, .string d] 149)
       have hb1a := hb1.alloc hb1.size (.cells #[.string k, .string d] 149)
       have hs1a : B6 < (w1.alloc (.cells #[.string k, .string d] 149)).heap.size := by simp; omega
       have b4 : w1.cell? ⟨B6, 4, none⟩ = some (.slice sa sl sc) := by rw [Lib.cell_of_heap B1]; rfl
       have HS := Lib.hid (show Evt.rdEvents (many - i) (L.data.toList, 0) = (⟨k.data.toList, d.data.toList⟩ :: (Evt.rdEvents (many - (i + 1)) (L'.data.toList, c')).1, (Evt.rdEvents (many - (i + 1)) (L'.data.toList, c')).2) by
         rw [show many - i = (many - (i + 1)) + 1 by omega, Evt.rdEvents, if_neg (by simp), HE.out])
       have HN1 := Lib.hid (show (es ++ [⟨k.data.toList, d.data.toList⟩]) ++ (Evt.rdEvents (many - (i + 1)) (L'.data.toList, c')).1 = Q.1 by rw [← HQ1.out, HS.out]; simp)
       have HN2 := Lib.hid (show (Evt.rdEvents (many - (i + 1)) (L'.data.toList, c')).2 = Q.2 by rw [← HQ2.out, HS.out])
       have hm8 : many ≤ 8 := by omega
       clear HS HE HQ1 HQ2 HQ HM HH hr hB hz hown hb p0 p1 q0 q1 g1 B1 Z1 r1 own1
       go_wp2_with (at_builtin; refine wpList_append_newG rfl _ _ _ rfl evT rfl own1a hb1a (Nat.le_trans hb1.size (by simp)) _ _ rfl (by simp) rfl (by simp [Value.oneCell']) (by omega) ?_)
       intro v' w2 hown' hg2 hb2 hs2
       obtain ⟨g', cap', rfl⟩ := ownsRow_succ hown'
       have B2 := B1a.kept hg2 (cells_not_row B1a (by decide) own1a)
       have Z2 := Bat.kept Z1a hg2 (cells_not_row Z1a (by decide) own1a)
       have r2 := r1a.kept hg2 (cells_not_row r1a (by decide) own1a)
       have b4' : w2.cell? ⟨B6, 4, none⟩ = some (.slice sa sl sc) := by rw [Lib.cell_of_heap B2]; rfl
       have b4f := Lib.frozen_of_heap B2 4
       have B3 := setCell_at (i := 4) B2 (.slice (some ⟨g', 0, none⟩) (es.length + 1) cap')
       have Z3 := Bat.kept Z2 (grown_set w2 B6 4 (.slice (some ⟨g', 0, none⟩) (es.length + 1) cap')) (by simp; omega)
       have r3 := r2.kept (grown_set w2 B6 4 (.slice (some ⟨g', 0, none⟩) (es.length + 1) cap')) (by simp; omega)
       have own3 := hown'.kept (grown_set w2 B6 4 (.slice (some ⟨g', 0, none⟩) (es.length + 1) cap')) (.inr (cells_not_row B2 (by decide) hown').symm)
       rw [← evCells_snoc] at own3
       have H3 := Lib.hid (And.intro (show Bat B6 S ex se sq (.slice (some ⟨g', 0, none⟩) (es.length + 1) cap') _ from B3) (And.intro Z3 (And.intro r3 own3)))
       have hb3 := hb2.setCell (p := ⟨B6, 4, none⟩) (by simp; omega) (.slice (some ⟨g', 0, none⟩) (es.length + 1) cap')
       have HB3 := Lib.hid hb3
       clear B2 Z2 r2 B3 Z3 r3 own3 B1a Z1a r1a own1a hown' hg2 hb2 hb3 hb1a
       go_wp2
       exact ⟨⟨i + 1, es ++ [⟨k.data.toList, d.data.toList⟩], L', c', _, by go_num, by omega, .inl hm8, H3.out.2.2.1, H3.out.1, H3.out.2.1, HB3.out, by simp at hs2 ⊢; omega, by simpa using H3.out.2.2.2, small_snoc hsm k d (by omega) (by omega), by simp; omega, by simp; omega, by omega, HN1.out, HN2.out⟩, by simp [intOf]; omega⟩
     · have hend : Evt.rdEvents (many - i) (L.data.toList, c) = ([], L.data.toList, c) := by
         by_cases hc0 : c = 0
         · rw [show many - i = 0 by omega]; rfl
         · cases e : many - i with
           | zero => rfl
           | succ n => rw [Evt.rdEvents, if_pos (by simpa using hc0)]
       have HTB := Lib.hid (show Evt.takeBatch s.data.toList = if (Evt.rdLast ⟨S.data.toList, ex, se, sq, es⟩ (L.data.toList, c)).2 ≠ 0 then (Evt.zeroB, [], (Evt.rdLast ⟨S.data.toList, ex, se, sq, es⟩ (L.data.toList, c)).2) else (⟨S.data.toList, ex, se, sq, es⟩, (Evt.rdLast ⟨S.data.toList, ex, se, sq, es⟩ (L.data.toList, c)).1, 0) by
         have q1 := HQ1.out
         have q2 := HQ2.out
         rw [hend] at q1 q2
         simp only [List.append_nil] at q1 q2
         unfold Evt.takeBatch
         rw [HH.out]
         simp only
         rw [HM.out, HQ.out, ← q1, ← q2])
       have hts : ((i : Int) < many ∧ ((c : Int) == 0) = false) ∨ ¬ (i : Int) < many := by
         by_cases h : i < many
         · left; refine ⟨by omega, ?_⟩
           have : c ≠ 0 := fun h0 => hgo ⟨h, h0⟩
           simp; omega
         · right; omega
       obtain ⟨sa, sl, sc, rfl⟩ := slice_of_owns hown
       obtain ⟨p0, p1, q0, q1⟩ := hr.cells
       have hZc : wr.cell? ⟨B6, 4, none⟩ = some (.slice sa sl sc) := by rw [Lib.cell_of_heap hB]; rfl
       have hB0 : wr.cell? ⟨B6, 0, none⟩ = some (.string S) := by rw [Lib.cell_of_heap hB]; rfl
       have hB1 : wr.cell? ⟨B6, 1, none⟩ = some (.int .i64 ex) := by rw [Lib.cell_of_heap hB]; rfl
       have hB2 : wr.cell? ⟨B6, 2, none⟩ = some (.int .i64 (se : Int)) := by rw [Lib.cell_of_heap hB]; rfl
       have hB3 : wr.cell? ⟨B6, 3, none⟩ = some (.int .i64 (sq : Int)) := by rw [Lib.cell_of_heap hB]; rfl
       have HFI := Lib.hid (fits_any S ex se sq (.slice sa sl sc) es wr (hE.next hb) hSs (cells_of_owns hown) (by omega) hsm)
       obtain ⟨F, hF⟩ : ∃ F, Evt.fits ⟨S.data.toList, ex, se, sq, es⟩ = F := ⟨_, rfl⟩
       rw [hF] at HFI
       have HFF := Lib.hid hF
       clear hF hgo hend HQ HQ1 HQ2 HM HH hi h8 h8'
       rcases hts with ⟨ht1, ht2⟩ | ht1
       all_goals
         go_wp2_with fail
         refine HFI.out.mono ?_
         rintro e w8 ⟨rfl, b8⟩
         have r8 := hr.kept (grown_of_below b8) (by simp)
         have z8 := Bat.kept hz (grown_of_below b8) (by simp)
         have hB8 := hB.kept (grown_of_below b8) (by simp)
         have own8 := owns_next hown b8
         have hb8 := Below.up hb (Nat.le_refl _) b8
         have hs8 := hb8.size
         clear hZc hB0 hB1 hB2 hB3 p0 p1 q0 q1 hr hz hB hown hb b8 HFI
         by_cases hF0 : F = 0
         · have hFb : ((F : Int) != 0) = false := by simp [hF0]
           have HL := Lib.hid (show Evt.rdLast ⟨S.data.toList, ex, se, sq, es⟩ (L.data.toList, c) = (L.data.toList, c) by rw [Evt.rdLast, HFF.out, if_neg (by simp [hF0])])
           obtain ⟨p0, p1, q0, q1⟩ := r8.cells
           have hB0 : w8.cell? ⟨B6, 0, none⟩ = some (.string S) := by rw [Lib.cell_of_heap hB8]; rfl
           have hB1 : w8.cell? ⟨B6, 1, none⟩ = some (.int .i64 ex) := by rw [Lib.cell_of_heap hB8]; rfl
           have hB2 : w8.cell? ⟨B6, 2, none⟩ = some (.int .i64 (se : Int)) := by rw [Lib.cell_of_heap hB8]; rfl
           have hB3 : w8.cell? ⟨B6, 3, none⟩ = some (.int .i64 (sq : Int)) := by rw [Lib.cell_of_heap hB8]; rfl
           have hB4 : w8.cell? ⟨B6, 4, none⟩ = some (.slice sa sl sc) := by rw [Lib.cell_of_heap hB8]; rfl
           obtain ⟨z0, z1, z2, z3, z4, f0, f1, f2, f3, f4⟩ := Bat.cells z8
           by_cases hc0 : c = 0
           · subst hc0
             have HT := Lib.hid (show Evt.takeBatch s.data.toList = (⟨S.data.toList, ex, se, sq, es⟩, L.data.toList, 0) by rw [HTB.out, HL.out, if_neg (by simp)])
             first
             | (exfalso; simp at ht2; done)
             | (have HP := Lib.hid (Bat.put5 z8 S ex se sq (.slice sa sl sc))
                have ownN := own8.kept HP.out.2 (.inr (cells_not_row z8 (by decide) own8).symm)
                have HN := Lib.hid ownN
                have HBN := Lib.hid (hb8.trans (below_of_grown HP.out.2 (Nat.le_refl _) hs8))
                clear HTB HL hF0 ownN
                go_wp2
                go_region
                go_wp2
                (try simp only [Exit.inBlock, Exit.then])
                refine bodyPost_ret (results_cell3 rfl _ _ w.heap.size _ _ _ _ rfl HP.out.1 Tryz.underlying38 rfl batch_size) rfl ?_
                exact ⟨S, ex, se, sq, _, es, L, 0, rfl, HT, HN.out, hSs, hsm, hel8, hL, HBN.out⟩)
           · have hcb : ((c : Int) != 0) = true := by simp; omega
             have HT := Lib.hid (show Evt.takeBatch s.data.toList = (Evt.zeroB, [], c) by rw [HTB.out, HL.out, if_pos (by simpa using hc0)])
             have HP := Lib.hid (Bat.put5 z8 ⟨#[]⟩ 0 0 0 (.slice none 0 0))
             have HBN := Lib.hid (hb8.trans (below_of_grown HP.out.2 (Nat.le_refl _) hs8))
             clear HTB HL hF0
             go_wp2
             go_region
             go_wp2
             (try simp only [Exit.inBlock, Exit.then])
             refine bodyPost_ret (results_cell3 rfl _ _ w.heap.size _ _ _ _ rfl HP.out.1 Tryz.underlying38 rfl batch_size) rfl ?_
             exact ⟨⟨#[]⟩, 0, 0, 0, _, [], ⟨#[]⟩, c, rfl, HT, World.ownsRow_nil _ _ _ _, Nat.zero_le _, (fun e he => by cases he), by simp, Nat.zero_le _, HBN.out⟩
         · have hFb : ((F : Int) != 0) = true := by simp; omega
           have HL := Lib.hid (show Evt.rdLast ⟨S.data.toList, ex, se, sq, es⟩ (L.data.toList, c) = Evt.note (L.data.toList, c) 2 by rw [Evt.rdLast, HFF.out, if_pos hF0])
           go_wp2_with fail
           refine (note_any (w.heap.size + 1) L c 2 w8 r8).mono ?_
           rintro e w9 ⟨c9, rfl, H9, r9, g9⟩
           have hc9 : c9 ≠ 0 := by
             have := H9.out
             unfold Evt.note at this
             split at this
             · simp only [Prod.mk.injEq] at this; omega
             · rename_i h; simp only [Prod.mk.injEq] at this h; omega
           have hcb : ((c9 : Int) != 0) = true := by simp; omega
           have HT := Lib.hid (show Evt.takeBatch s.data.toList = (Evt.zeroB, [], c9) by rw [HTB.out, HL.out, H9.out, if_pos (by simpa using hc9)])
           have z9 := Bat.kept z8 g9 (by simp)
           have hb9 := hb8.trans (below_of_grown g9 hR hs8)
           obtain ⟨p0, p1, q0, q1⟩ := r9.cells
           obtain ⟨z0, z1, z2, z3, z4, f0, f1, f2, f3, f4⟩ := Bat.cells z9
           have HP := Lib.hid (Bat.put5 z9 ⟨#[]⟩ 0 0 0 (.slice none 0 0))
           have HBN := Lib.hid (hb9.trans (below_of_grown HP.out.2 (Nat.le_refl _) hb9.size))
           clear HTB HL H9 hF0 HFF
           go_wp2
           go_region
           go_wp2
           (try simp only [Exit.inBlock, Exit.then])
           refine bodyPost_ret (results_cell3 rfl _ _ w.heap.size _ _ _ _ rfl HP.out.1 Tryz.underlying38 rfl batch_size) rfl ?_
           exact ⟨⟨#[]⟩, 0, 0, 0, _, [], ⟨#[]⟩, c9, rfl, HT, World.ownsRow_nil _ _ _ _, Nat.zero_le _, (fun e he => by cases he), by simp, Nat.zero_le _, HBN.out⟩
def EB (b : Nat) (p ep : Int) (S : ByteArray) (ex se sq : Int) (v : Value) (w : World) : Prop := w.heap[b]? = some (.cells #[.int .i64 p, .int .i64 ep, .string S, .int .i64 ex, .int .i64 se, .int .i64 sq, v] 40 (0, 0))
theorem EB.kept {b : Nat} {p ep : Int} {S : ByteArray} {ex se sq : Int} {v : Value} {w w' : World} {r : Option Nat} (h : EB b p ep S ex se sq v w) (hg : w.grownBy w' r) (hr : some b ≠ r) : EB b p ep S ex se sq v w' :=
 (hg.block b (Array.getElem?_eq_some_iff.1 h).1 hr).trans h
theorem EB.next {b : Nat} {p ep : Int} {S : ByteArray} {ex se sq : Int} {v : Value} {w w' : World} (h : EB b p ep S ex se sq v w) (hb : Below w.heap.size w w') : EB b p ep S ex se sq v w' := h.kept (grown_of_below hb) (by simp)
theorem EB.cells {b : Nat} {p ep : Int} {S : ByteArray} {ex se sq : Int} {v : Value} {w : World} (h : EB b p ep S ex se sq v w) :
   w.cell? ⟨b, 0, none⟩ = some (.int .i64 p) ∧ w.cell? ⟨b, 1, none⟩ = some (.int .i64 ep) ∧ w.cell? ⟨b, 2, none⟩ = some (.string S) ∧ w.cell? ⟨b, 3, none⟩ = some (.int .i64 ex) ∧ w.cell? ⟨b, 4, none⟩ = some (.int .i64 se) ∧ w.cell? ⟨b, 5, none⟩ = some (.int .i64 sq) ∧ w.cell? ⟨b, 6, none⟩ = some v :=
 ⟨by rw [Lib.cell_of_heap h]; rfl, by rw [Lib.cell_of_heap h]; rfl, by rw [Lib.cell_of_heap h]; rfl, by rw [Lib.cell_of_heap h]; rfl, by rw [Lib.cell_of_heap h]; rfl, by rw [Lib.cell_of_heap h]; rfl, by rw [Lib.cell_of_heap h]; rfl⟩
theorem evs_slice {w : World} {v : Value} {es : List Evt.Event} (h : Evs w v es) : ∃ a l c, v = .slice a l c := by
 rcases h.2 with ⟨_, a, c, rfl⟩ | ⟨b, o, c, rfl, _⟩
 · exact ⟨_, _, _, rfl⟩
 · exact ⟨_, _, _, rfl⟩
set_option maxHeartbeats 2000000 in
set_option maxRecDepth 100000 in
theorem recRight_any (p ep : Int) (S : ByteArray) (ex se sq : Int) (v : Value) (es : List Evt.Event) (w : World) (hE : Env w) (hS : S.size ≤ 1000000) (hc : Evs w v es) (hn : es.length ≤ 1000000) (hx : Small es) :
   Calls Tryz.prog 103 #[.agg #[.int .i64 p, .int .i64 ep, .string S, .int .i64 ex, .int .i64 se, .int .i64 sq, v]] w fun e w' => e = .returned (.bool (Evt.rightN ⟨p, ep, ⟨S.data.toList, ex, se, sq, es⟩⟩)) ∧ Below w.heap.size w w' := by
 obtain ⟨sa, sl, sc, rfl⟩ := evs_slice hc
 have hb0 : Below w.heap.size w (w.alloc (.cells #[.int .i64 p, .int .i64 ep, .string S, .int .i64 ex, .int .i64 se, .int .i64 sq, .slice sa sl sc] 40)) := (Below.refl _ _).alloc (Nat.le_refl _) _
 have HFI := Lib.hid (fits_any S ex se sq _ es _ (hE.next hb0) hS (Cells.next hc hb0) hn hx)
 have HR := Lib.hid (show Evt.rightN ⟨p, ep, ⟨S.data.toList, ex, se, sq, es⟩⟩ = (decide (1 ≤ p) && decide (p ≤ 274877906944) && (decide (1 ≤ ep) && decide (ep ≤ 274877906944)) && (Evt.fits ⟨S.data.toList, ex, se, sq, es⟩ == 0)) from rfl)
 obtain ⟨R, hR⟩ : ∃ R, Evt.rightN ⟨p, ep, ⟨S.data.toList, ex, se, sq, es⟩⟩ = R := ⟨_, rfl⟩
 obtain ⟨F, hF⟩ : ∃ F, Evt.fits ⟨S.data.toList, ex, se, sq, es⟩ = F := ⟨_, rfl⟩
 rw [hF] at HFI HR
 rw [hR] at HR ⊢
 clear hR hF hx hc
 by_cases h1 : (1 : Int) ≤ p
 · by_cases h2 : p ≤ 274877906944
   · by_cases h3 : (1 : Int) ≤ ep
     · by_cases h4 : ep ≤ 274877906944
       · have HN := Lib.hid (show R = (F == 0) by rw [HR.out, decide_eq_true h1, decide_eq_true h2, decide_eq_true h3, decide_eq_true h4]; rfl)
         clear HR
         go_enter Tryz.func103, Tryz.ntmps103
         go_wp2_with fail
         refine HFI.out.mono ?_
         rintro e w1 ⟨rfl, b1⟩
         go_wp2
         go_ret
         refine ⟨ret_bool ?_, Below.up hb0 (Nat.le_refl _) b1⟩
         rw [HN.out]
         exact beq_of (by simp)
       · have HN := Lib.hid (show R = false by rw [HR.out, decide_eq_false h4]; simp)
         clear HR
         go_enter Tryz.func103, Tryz.ntmps103
         go_wp2
         go_ret
         exact ⟨ret_bool HN.out.symm, hb0⟩
     · have HN := Lib.hid (show R = false by rw [HR.out, decide_eq_false h3]; simp)
       clear HR
       go_enter Tryz.func103, Tryz.ntmps103
       go_wp2
       go_ret
       exact ⟨ret_bool HN.out.symm, hb0⟩
   · have HN := Lib.hid (show R = false by rw [HR.out, decide_eq_false h2]; simp)
     clear HR
     go_enter Tryz.func103, Tryz.ntmps103
     go_wp2
     go_ret
     exact ⟨ret_bool HN.out.symm, hb0⟩
 · have HN := Lib.hid (show R = false by rw [HR.out, decide_eq_false h1]; simp)
   clear HR
   go_enter Tryz.func103, Tryz.ntmps103
   go_wp2
   go_ret
   exact ⟨ret_bool HN.out.symm, hb0⟩
theorem putBatch_det (S : ByteArray) (ex se sq : Int) (v : Value) (es : List Evt.Event) (w : World) (hE : Env w) (hS : S.size ≤ 1000000) (hc : Evs w v es) (hn : es.length ≤ 1000000) (hx : Small es) :
   Calls Tryz.prog 270 #[.agg #[.string S, .int .i64 ex, .int .i64 se, .int .i64 sq, v]] w fun e w' => e = .returned (.string ⟨(Evt.putBatch ⟨S.data.toList, ex, se, sq, es⟩).toArray⟩) ∧ Below w.heap.size w w' := by
 refine (putBatch_any S ex se sq v es w hE hS hc hn hx).mono ?_
 rintro e w' ⟨r, rfl, HR, hb⟩
 exact ⟨by rw [str_det HR.out], hb⟩
theorem held7 {w0 wa wb : World} {a1 a2 a3 a4 a5 a6 a7 : Addr} {u1 u2 u3 u4 u5 u6 u7 : Value} (h : wa.cell? a1 = some u1 ∧ wa.cell? a2 = some u2 ∧ wa.cell? a3 = some u3 ∧ wa.cell? a4 = some u4 ∧ wa.cell? a5 = some u5 ∧ wa.cell? a6 = some u6 ∧ wa.cell? a7 = some u7 ∧ Below w0.heap.size w0 wa) (hb : Below wa.heap.size wa wb) :
   wb.cell? a1 = some u1 ∧ wb.cell? a2 = some u2 ∧ wb.cell? a3 = some u3 ∧ wb.cell? a4 = some u4 ∧ wb.cell? a5 = some u5 ∧ wb.cell? a6 = some u6 ∧ wb.cell? a7 = some u7 ∧ Below w0.heap.size w0 wb :=
 ⟨cell_kept hb (Nat.le_refl _) h.1, cell_kept hb (Nat.le_refl _) h.2.1, cell_kept hb (Nat.le_refl _) h.2.2.1, cell_kept hb (Nat.le_refl _) h.2.2.2.1, cell_kept hb (Nat.le_refl _) h.2.2.2.2.1, cell_kept hb (Nat.le_refl _) h.2.2.2.2.2.1, cell_kept hb (Nat.le_refl _) h.2.2.2.2.2.2.1, Below.up h.2.2.2.2.2.2.2 (Nat.le_refl _) hb⟩
set_option maxHeartbeats 4000000 in
set_option maxRecDepth 100000 in
theorem recPut_any (p ep : Int) (S : ByteArray) (ex se sq : Int) (v : Value) (es : List Evt.Event) (w : World) (hE : Env w) (hS : S.size ≤ 1000000) (hc : Evs w v es) (hn : es.length ≤ 1000000) (hx : Small es) :
   Calls Tryz.prog 232 #[.agg #[.int .i64 p, .int .i64 ep, .string S, .int .i64 ex, .int .i64 se, .int .i64 sq, v]] w fun e w' => ∃ r : ByteArray, e = .returned (.string r) ∧ Hid (r.data.toList = Evt.put ⟨p, ep, ⟨S.data.toList, ex, se, sq, es⟩⟩) ∧ Below w.heap.size w w' := by
 obtain ⟨sa, sl, sc, rfl⟩ := evs_slice hc
 have hb0 : Below w.heap.size w (w.alloc (.cells #[.int .i64 p, .int .i64 ep, .string S, .int .i64 ex, .int .i64 se, .int .i64 sq, .slice sa sl sc] 40)) := (Below.refl _ _).alloc (Nat.le_refl _) _
 have HRI := Lib.hid (recRight_any p ep S ex se sq _ es _ (hE.next hb0) hS (Cells.next hc hb0) hn hx)
 have hEB : EB w.heap.size p ep S ex se sq (.slice sa sl sc) (w.alloc (.cells #[.int .i64 p, .int .i64 ep, .string S, .int .i64 ex, .int .i64 se, .int .i64 sq, .slice sa sl sc] 40)) := heap_alloc_new w _
 have HEB := Lib.hid hEB
 clear hEB
 go_enter Tryz.func232, Tryz.ntmps232
 go_wp2_with fail
 refine HRI.out.mono ?_
 rintro e w1 ⟨rfl, b1⟩
 have hbw := Below.up hb0 (Nat.le_refl _) b1
 have hE1 := hE.next hbw
 have hc1 := Cells.next hc hbw
 have eb1 := HEB.out.next b1
 clear HRI HEB b1 hb0 hc
 cases hr : Evt.rightN ⟨p, ep, ⟨S.data.toList, ex, se, sq, es⟩⟩ with
 | false =>
   have HP := Lib.hid (show Evt.put ⟨p, ep, ⟨S.data.toList, ex, se, sq, es⟩⟩ = [] by rw [Evt.put, hr]; rfl)
   clear hr
   go_wp2
   go_ret
   exact ⟨_, rfl, by rw [HP.out]; rfl, hbw⟩
 | true =>
   have HP := Lib.hid (show Evt.put ⟨p, ep, ⟨S.data.toList, ex, se, sq, es⟩⟩ = Num.put (Num.held p) ++ Num.put (Num.held ep) ++ Evt.putBatch ⟨S.data.toList, ex, se, sq, es⟩ by rw [Evt.put, hr]; rfl)
   clear hr
   obtain ⟨A1, hA1, e1, s1⟩ := str_of (Num.put (Num.held p))
   obtain ⟨A2, hA2, e2, s2⟩ := str_of (Num.put (Num.held ep))
   obtain ⟨A3, hA3, e3, s3⟩ := str_of (Evt.putBatch ⟨S.data.toList, ex, se, sq, es⟩)
   obtain ⟨B1, _, f1, t1⟩ := str_of (A1.data.toList ++ A2.data.toList)
   obtain ⟨B2, _, f2, t2⟩ := str_of (B1.data.toList ++ A3.data.toList)
   have c1 := numPut_any p
   have c2 := numPut_any ep
   have c3 := fun (W : World) (h : Env W) (h2 : Evs W (.slice sa sl sc) es) => putBatch_det S ex se sq (.slice sa sl sc) es W h hS h2 hn hx
   rw [hA1] at c1
   rw [hA2] at c2
   rw [hA3] at c3
   have l1 : A1.size ≤ 6 := by rw [s1]; exact Num.put_le6 _ (Num.held_le p)
   have l2 : A2.size ≤ 6 := by rw [s2]; exact Num.put_le6 _ (Num.held_le ep)
   have l3 : A3.size ≤ 3000 := by rw [s3]; exact Evt.putBatch_len _
   rw [List.length_append, ← Lib.size_eq, ← Lib.size_eq] at t1 t2
   have a1 : ∀ w, (Op.stringOp .add A1 A2).run Tryz.prog w = .ok (.string B1) w := fun w => add_lists w _ _ _ (by omega) f1.symm
   have a2 : ∀ w, (Op.stringOp .add B1 A3).run Tryz.prog w = .ok (.string B2) w := fun w => add_lists w _ _ _ (by omega) f2.symm
   have HB := Lib.hid (show B2.data.toList = Evt.put ⟨p, ep, ⟨S.data.toList, ex, se, sq, es⟩⟩ by rw [HP.out, f2, f1, e1, e2, e3])
   obtain ⟨k0, k1, k2, k3, k4, k5, k6⟩ := eb1.cells
   clear e1 e2 e3 s1 s2 s3 f1 f2 t1 t2 hA1 hA2 hA3 HP eb1
   have hE2 : Env w1.drew := hE1.next ((Below.refl _ w1).drew)
   have hc2 : Evs w1.drew (.slice sa sl sc) es := Cells.next hc1 ((Below.refl _ w1).drew)
   clear hE1 hc1
   go_wp2
   go_region_held3 (fun w' => w'.cell? ⟨w.heap.size, 0, none⟩ = some (.int .i64 p) ∧ w'.cell? ⟨w.heap.size, 1, none⟩ = some (.int .i64 ep) ∧ w'.cell? ⟨w.heap.size, 2, none⟩ = some (.string S) ∧ w'.cell? ⟨w.heap.size, 3, none⟩ = some (.int .i64 ex) ∧ w'.cell? ⟨w.heap.size, 4, none⟩ = some (.int .i64 se) ∧ w'.cell? ⟨w.heap.size, 5, none⟩ = some (.int .i64 sq) ∧ w'.cell? ⟨w.heap.size, 6, none⟩ = some (.slice sa sl sc) ∧ Below w.heap.size w w')
     (first | exact ⟨k0, k1, k2, k3, k4, k5, k6, hbw.drew⟩ | exact held7 (by assumption) hb)
     (first
       | (go_at_call_of 91 (Value.int .i64 p); refine (c1 _).mono ?_; rintro e w' ⟨rfl, hb⟩; have hE2 := hE2.next hb; have hc2 := Cells.next hc2 hb)
       | (go_at_call_of 91 (Value.int .i64 ep); refine (c2 _).mono ?_; rintro e w' ⟨rfl, hb⟩; have hE2 := hE2.next hb; have hc2 := Cells.next hc2 hb)
       | (go_at_call 270; refine (c3 _ hE2 hc2).mono ?_; rintro e w' ⟨rfl, hb⟩))
   have hq : w'.cell? ⟨w.heap.size, 0, none⟩ = some (.int .i64 p) ∧ w'.cell? ⟨w.heap.size, 1, none⟩ = some (.int .i64 ep) ∧ w'.cell? ⟨w.heap.size, 2, none⟩ = some (.string S) ∧ w'.cell? ⟨w.heap.size, 3, none⟩ = some (.int .i64 ex) ∧ w'.cell? ⟨w.heap.size, 4, none⟩ = some (.int .i64 se) ∧ w'.cell? ⟨w.heap.size, 5, none⟩ = some (.int .i64 sq) ∧ w'.cell? ⟨w.heap.size, 6, none⟩ = some (.slice sa sl sc) ∧ Below w.heap.size w w' := by assumption
   have hbN := hq.2.2.2.2.2.2.2
   clear hq c1 c2 c3 k0 k1 k2 k3 k4 k5 k6
   go_wp2
   go_ret
   exact ⟨B2, rfl, HB, hbN⟩
theorem entry_size : (Tryz.prog.info? 40).map (·.size) = some 7 := by kernel_rfl
theorem EB.frozen {b : Nat} {p ep : Int} {S : ByteArray} {ex se sq : Int} {v : Value} {w : World} (h : EB b p ep S ex se sq v w) : ∀ i, w.frozen? ⟨b, i, none⟩ = false := fun i => Lib.frozen_of_heap h i
theorem EB.set0 {b : Nat} {p ep : Int} {S : ByteArray} {ex se sq : Int} {v : Value} {w : World} (h : EB b p ep S ex se sq v w) (p' : Int) : EB b p' ep S ex se sq v (w.setCell ⟨b, 0, none⟩ (.int .i64 p')) := setCell_at (i := 0) h _
theorem EB.set1 {b : Nat} {p ep : Int} {S : ByteArray} {ex se sq : Int} {v : Value} {w : World} (h : EB b p ep S ex se sq v w) (p' : Int) : EB b p p' S ex se sq v (w.setCell ⟨b, 1, none⟩ (.int .i64 p')) := setCell_at (i := 1) h _
theorem EB.set2 {b : Nat} {p ep : Int} {S : ByteArray} {ex se sq : Int} {v : Value} {w : World} (h : EB b p ep S ex se sq v w) (S' : ByteArray) : EB b p ep S' ex se sq v (w.setCell ⟨b, 2, none⟩ (.string S')) := setCell_at (i := 2) h _
theorem EB.set3 {b : Nat} {p ep : Int} {S : ByteArray} {ex se sq : Int} {v : Value} {w : World} (h : EB b p ep S ex se sq v w) (x : Int) : EB b p ep S x se sq v (w.setCell ⟨b, 3, none⟩ (.int .i64 x)) := setCell_at (i := 3) h _
theorem EB.set4 {b : Nat} {p ep : Int} {S : ByteArray} {ex se sq : Int} {v : Value} {w : World} (h : EB b p ep S ex se sq v w) (x : Int) : EB b p ep S ex x sq v (w.setCell ⟨b, 4, none⟩ (.int .i64 x)) := setCell_at (i := 4) h _
theorem EB.set5 {b : Nat} {p ep : Int} {S : ByteArray} {ex se sq : Int} {v : Value} {w : World} (h : EB b p ep S ex se sq v w) (x : Int) : EB b p ep S ex se x v (w.setCell ⟨b, 5, none⟩ (.int .i64 x)) := setCell_at (i := 5) h _
theorem EB.set6 {b : Nat} {p ep : Int} {S : ByteArray} {ex se sq : Int} {v : Value} {w : World} (h : EB b p ep S ex se sq v w) (x : Value) : EB b p ep S ex se sq x (w.setCell ⟨b, 6, none⟩ x) := setCell_at (i := 6) h _
theorem EB.putB {b : Nat} {p ep : Int} {S0 : ByteArray} {e0 s0 q0 : Int} {v0 : Value} {w : World} (h : EB b p ep S0 e0 s0 q0 v0 w) (S : ByteArray) (ex se sq : Int) (v : Value) :
   EB b p ep S ex se sq v (((((w.setCell ⟨b, 2, none⟩ (.string S)).setCell ⟨b, 3, none⟩ (.int .i64 ex)).setCell ⟨b, 4, none⟩ (.int .i64 se)).setCell ⟨b, 5, none⟩ (.int .i64 sq)).setCell ⟨b, 6, none⟩ v) ∧
     w.grownBy (((((w.setCell ⟨b, 2, none⟩ (.string S)).setCell ⟨b, 3, none⟩ (.int .i64 ex)).setCell ⟨b, 4, none⟩ (.int .i64 se)).setCell ⟨b, 5, none⟩ (.int .i64 sq)).setCell ⟨b, 6, none⟩ v) (some b) := by
 have h1 := ((((h.set2 S).set3 ex).set4 se).set5 sq).set6 v
 exact ⟨h1, grown_trans (grown_trans (grown_trans (grown_trans (grown_set w b 2 (.string S)) (grown_set _ b 3 (.int .i64 ex))) (grown_set _ b 4 (.int .i64 se))) (grown_set _ b 5 (.int .i64 sq))) (grown_set _ b 6 v)⟩
theorem EB.put7 {b : Nat} {p0 ep0 : Int} {S0 : ByteArray} {e0 s0 q0 : Int} {v0 : Value} {w : World} (h : EB b p0 ep0 S0 e0 s0 q0 v0 w) (p ep : Int) (S : ByteArray) (ex se sq : Int) (v : Value) :
   EB b p ep S ex se sq v (((((((w.setCell ⟨b, 0, none⟩ (.int .i64 p)).setCell ⟨b, 1, none⟩ (.int .i64 ep)).setCell ⟨b, 2, none⟩ (.string S)).setCell ⟨b, 3, none⟩ (.int .i64 ex)).setCell ⟨b, 4, none⟩ (.int .i64 se)).setCell ⟨b, 5, none⟩ (.int .i64 sq)).setCell ⟨b, 6, none⟩ v) ∧
     w.grownBy (((((((w.setCell ⟨b, 0, none⟩ (.int .i64 p)).setCell ⟨b, 1, none⟩ (.int .i64 ep)).setCell ⟨b, 2, none⟩ (.string S)).setCell ⟨b, 3, none⟩ (.int .i64 ex)).setCell ⟨b, 4, none⟩ (.int .i64 se)).setCell ⟨b, 5, none⟩ (.int .i64 sq)).setCell ⟨b, 6, none⟩ v) (some b) := by
 have h1 := (h.set0 p).set1 ep
 have g := grown_trans (grown_set w b 0 (.int .i64 p)) (grown_set _ b 1 (.int .i64 ep))
 have h2 := h1.putB S ex se sq v
 exact ⟨h2.1, grown_trans g h2.2⟩
set_option maxHeartbeats 4000000 in
set_option maxRecDepth 100000 in
theorem recTake_any (s : ByteArray) (w : World) (hE : Env w) (hs : s.size ≤ 1000000) :
   Calls Tryz.prog 258 #[.string s] w fun e w' => ∃ (p ep : Int) (S : ByteArray) (ex se sq : Int) (v : Value) (es : List Evt.Event) (r : ByteArray) (c : Nat), e = .returned (.tuple #[.agg #[.int .i64 p, .int .i64 ep, .string S, .int .i64 ex, .int .i64 se, .int .i64 sq, v], .string r, .int .i64 (c : Int)]) ∧
     Hid (Evt.take s.data.toList = (⟨p, ep, ⟨S.data.toList, ex, se, sq, es⟩⟩, r.data.toList, c)) ∧ w'.ownsRow w.heap.size 149 2 v es.length (evCells es) ∧ S.size ≤ 1000000 ∧ Small es ∧ es.length ≤ 8 ∧ r.size ≤ s.size ∧ Below w.heap.size w w' := by
 have z0 : EB w.heap.size 0 0 ⟨#[]⟩ 0 0 0 (.slice none 0 0) ((w.alloc (.cells #[.int .i64 0, .int .i64 0, .string ⟨#[]⟩, .int .i64 0, .int .i64 0, .int .i64 0, .slice none 0 0] 40)).alloc (.cells #[.int .i64 0, .int .i64 0, .string ⟨#[]⟩, .int .i64 0, .int .i64 0, .int .i64 0, .slice none 0 0] 40)) :=
   EB.kept (heap_alloc_new w _) (World.grownBy_alloc _ _ none) (by simp)
 have e0 : EB (w.heap.size + 1) 0 0 ⟨#[]⟩ 0 0 0 (.slice none 0 0) ((w.alloc (.cells #[.int .i64 0, .int .i64 0, .string ⟨#[]⟩, .int .i64 0, .int .i64 0, .int .i64 0, .slice none 0 0] 40)).alloc (.cells #[.int .i64 0, .int .i64 0, .string ⟨#[]⟩, .int .i64 0, .int .i64 0, .int .i64 0, .slice none 0 0] 40)) := by
   have := heap_alloc_new (w.alloc (.cells #[.int .i64 0, .int .i64 0, .string ⟨#[]⟩, .int .i64 0, .int .i64 0, .int .i64 0, .slice none 0 0] 40)) (.cells #[.int .i64 0, .int .i64 0, .string ⟨#[]⟩, .int .i64 0, .int .i64 0, .int .i64 0, .slice none 0 0] 40)
   rw [World.size_alloc] at this
   exact this
 have hb0 : Below w.heap.size w ((w.alloc (.cells #[.int .i64 0, .int .i64 0, .string ⟨#[]⟩, .int .i64 0, .int .i64 0, .int .i64 0, .slice none 0 0] 40)).alloc (.cells #[.int .i64 0, .int .i64 0, .string ⟨#[]⟩, .int .i64 0, .int .i64 0, .int .i64 0, .slice none 0 0] 40)) :=
   ((Below.refl _ _).alloc (Nat.le_refl _) _).alloc (by simp) _
 have hs0 : ((w.alloc (.cells #[.int .i64 0, .int .i64 0, .string ⟨#[]⟩, .int .i64 0, .int .i64 0, .int .i64 0, .slice none 0 0] 40)).alloc (.cells #[.int .i64 0, .int .i64 0, .string ⟨#[]⟩, .int .i64 0, .int .i64 0, .int .i64 0, .slice none 0 0] 40)).heap.size = w.heap.size + 2 := by simp
 go_enter Tryz.func258, Tryz.ntmps258
 go_wp2_with fail
 obtain ⟨W1, hW1⟩ : ∃ W1, ((w.alloc (.cells #[.int .i64 0, .int .i64 0, .string ⟨#[]⟩, .int .i64 0, .int .i64 0, .int .i64 0, .slice none 0 0] 40)).alloc (.cells #[.int .i64 0, .int .i64 0, .string ⟨#[]⟩, .int .i64 0, .int .i64 0, .int .i64 0, .slice none 0 0] 40)) = W1 := ⟨_, rfl⟩
 rw [hW1] at z0 e0 hb0 hs0 ⊢
 clear hW1
 refine (numTake_any s W1 (by omega)).mono ?_
 rintro e w2 ⟨n1, r1, c1, rfl, H1, b1⟩
 have hr1 : r1.size ≤ s.size := by have := (Num.take_le s.data.toList).2.1; rw [H1.out, ← Lib.size_eq, ← Lib.size_eq] at this; exact this
 have z2 := z0.next b1
 have e2 := e0.next b1
 have hb2 := Below.up hb0 (Nat.le_refl _) b1
 have hs2 : w.heap.size + 2 ≤ w2.heap.size := by have := b1.size; omega
 obtain ⟨k0, k1, k2, k3, k4, k5, k6⟩ := e2.cells
 have f0 := e2.frozen 0
 have e3 := e2.set0 (n1 : Int)
 have z3 := z2.kept (grown_set w2 (w.heap.size + 1) 0 (.int .i64 (n1 : Int))) (by simp)
 have hb3 : Below w.heap.size w (w2.setCell ⟨w.heap.size + 1, 0, none⟩ (.int .i64 (n1 : Int))) := hb2.setCell (p := ⟨w.heap.size + 1, 0, none⟩) (by simp) _
 have hs3 : w.heap.size + 2 ≤ (w2.setCell ⟨w.heap.size + 1, 0, none⟩ (.int .i64 (n1 : Int))).heap.size := by simp; omega
 have E3 := Lib.hid e3; have Z3 := Lib.hid z3; have HB3 := Lib.hid hb3; have HS3 := Lib.hid hs3
 clear e3 z3 hb3 hs3 z0 e0 z2 e2 hb0 hb2 hs2 hs0 b1
 by_cases hc1 : c1 = 0
 · subst hc1
   go_wp2_with fail
   obtain ⟨W3, hW3⟩ : ∃ W3, w2.setCell ⟨w.heap.size + 1, 0, none⟩ (.int .i64 (n1 : Int)) = W3 := ⟨_, rfl⟩
   rw [hW3] at E3 Z3 HB3 HS3 ⊢
   clear hW3 k0 k1 k2 k3 k4 k5 k6 f0
   refine (numTake_any r1 W3 (by omega)).mono ?_
   rintro e w4 ⟨n2, r2, c2, rfl, H2, b2⟩
   have hr2 : r2.size ≤ r1.size := by have := (Num.take_le r1.data.toList).2.1; rw [H2.out, ← Lib.size_eq, ← Lib.size_eq] at this; exact this
   have z4 := Z3.out.next b2
   have e4 := E3.out.next b2
   have hb4 := Below.up HB3.out (Nat.le_refl _) b2
   have hs4 : w.heap.size + 2 ≤ w4.heap.size := by have := b2.size; have := HS3.out; omega
   obtain ⟨k0, k1, k2, k3, k4, k5, k6⟩ := e4.cells
   have f1 := e4.frozen 1
   have e5 := e4.set1 (n2 : Int)
   have z5 := z4.kept (grown_set w4 (w.heap.size + 1) 1 (.int .i64 (n2 : Int))) (by simp)
   have hb5 : Below w.heap.size w (w4.setCell ⟨w.heap.size + 1, 1, none⟩ (.int .i64 (n2 : Int))) := hb4.setCell (p := ⟨w.heap.size + 1, 1, none⟩) (by simp) _
   have hs5 : w.heap.size + 2 ≤ (w4.setCell ⟨w.heap.size + 1, 1, none⟩ (.int .i64 (n2 : Int))).heap.size := by simp; omega
   have E5 := Lib.hid e5; have Z5 := Lib.hid z5; have HB5 := Lib.hid hb5; have HS5 := Lib.hid hs5
   clear e5 z5 hb5 hs5 z4 e4 hb4 hs4 b2 E3 Z3 HB3 HS3
   by_cases hc2 : c2 = 0
   · subst hc2
     go_wp2_with fail
     obtain ⟨W5, hW5⟩ : ∃ W5, w4.setCell ⟨w.heap.size + 1, 1, none⟩ (.int .i64 (n2 : Int)) = W5 := ⟨_, rfl⟩
     rw [hW5] at E5 Z5 HB5 HS5 ⊢
     clear hW5 k0 k1 k2 k3 k4 k5 k6 f1
     refine (takeBatch_any r2 W5 (hE.next HB5.out) (by omega)).mono ?_
     rintro e w6 ⟨S, ex, se, sq, v, es, r3, c3, rfl, H3, own6, hSs, hsm, hes, hr3, b3⟩
     obtain ⟨sa, sl, sc, rfl⟩ := slice_of_owns own6
     have z6 := Z5.out.next b3
     have e6 := E5.out.next b3
     have hb6 := Below.up HB5.out (Nat.le_refl _) b3
     have hs6 : w.heap.size + 2 ≤ w6.heap.size := by have := b3.size; have := HS5.out; omega
     have own6' := ownsRow_low own6 (show w.heap.size ≤ W5.heap.size by have := HS5.out; omega)
     obtain ⟨k0, k1, k2, k3, k4, k5, k6⟩ := e6.cells
     have f2 := e6.frozen 2
     have f3 := e6.frozen 3
     have f4 := e6.frozen 4
     have f5 := e6.frozen 5
     have f6 := e6.frozen 6
     have e7 := e6.putB S ex se sq (.slice sa sl sc)
     have own7 := own6'.kept e7.2 (.inr (cells_not_row e6 (by decide) own6').symm)
     have z7 := z6.kept e7.2 (by simp)
     have hb7 := hb6.trans (below_of_grown e7.2 (show w.heap.size ≤ w.heap.size + 1 by omega) hb6.size)
     have E7 := Lib.hid e7; have O7 := Lib.hid own7; have Z7 := Lib.hid z7; have HB7 := Lib.hid hb7
     clear e7 own7 z7 hb7 e6 own6 own6' z6 hb6 b3 E5 Z5 HB5 HS5
     by_cases hc3 : c3 = 0
     · subst hc3
       have HT0 := Lib.hid (show Evt.take s.data.toList = if Evt.rightN ⟨n1, n2, ⟨S.data.toList, ex, se, sq, es⟩⟩ then (⟨n1, n2, ⟨S.data.toList, ex, se, sq, es⟩⟩, r3.data.toList, 0) else (Evt.zeroN, [], 2) by
         unfold Evt.take; simp only; rw [H1.out]; simp only; rw [if_neg (by simp), H2.out]; simp only; rw [if_neg (by simp), H3.out]; simp only; rw [if_neg (by simp)])
       clear H1 H2 H3
       go_wp2_with fail
       obtain ⟨W7, hW7⟩ : ∃ W7, (((((w6.setCell ⟨w.heap.size + 1, 2, none⟩ (.string S)).setCell ⟨w.heap.size + 1, 3, none⟩ (.int .i64 ex)).setCell ⟨w.heap.size + 1, 4, none⟩ (.int .i64 se)).setCell ⟨w.heap.size + 1, 5, none⟩ (.int .i64 sq)).setCell ⟨w.heap.size + 1, 6, none⟩ (.slice sa sl sc)) = W7 := ⟨_, rfl⟩
       rw [hW7] at E7 O7 Z7 HB7 ⊢
       clear hW7 k0 k1 k2 k3 k4 k5 k6 f2 f3 f4 f5 f6
       refine (recRight_any (n1 : Int) (n2 : Int) S ex se sq _ es W7 (hE.next HB7.out) hSs (cells_of_owns O7.out) (by omega) hsm).mono ?_
       rintro e w8 ⟨rfl, b8⟩
       have e8 := E7.out.1.next b8
       have z8 := Z7.out.next b8
       have o8 := owns_next O7.out b8
       have hb8 := Below.up HB7.out (Nat.le_refl _) b8
       have hs8 := hb8.size
       obtain ⟨z0, z1, z2, z3, z4, z5, z6⟩ := z8.cells
       obtain ⟨k0, k1, k2, k3, k4, k5, k6⟩ := e8.cells
       have f0 := z8.frozen 0
       have f1 := z8.frozen 1
       have f2 := z8.frozen 2
       have f3 := z8.frozen 3
       have f4 := z8.frozen 4
       have f5 := z8.frozen 5
       have f6 := z8.frozen 6
       clear E7 O7 Z7 HB7 b8
       cases hr : Evt.rightN ⟨n1, n2, ⟨S.data.toList, ex, se, sq, es⟩⟩ with
       | true =>
         have HT := Lib.hid (show Evt.take s.data.toList = (⟨n1, n2, ⟨S.data.toList, ex, se, sq, es⟩⟩, r3.data.toList, 0) by rw [HT0.out, if_pos hr])
         have HP := Lib.hid (z8.put7 (n1 : Int) (n2 : Int) S ex se sq (.slice sa sl sc))
         have HON := Lib.hid (o8.kept HP.out.2 (.inr (cells_not_row z8 (by decide) o8).symm))
         have HBN := Lib.hid (hb8.trans (below_of_grown HP.out.2 (Nat.le_refl _) hs8))
         clear HT0 hr e8 z8 o8 hb8
         go_wp2
         (try simp only [Exit.inBlock, Exit.then])
         refine bodyPost_ret (results_cell3 rfl _ _ w.heap.size _ _ _ _ rfl HP.out.1 Tryz.underlying40 rfl entry_size) rfl ?_
         exact ⟨n1, n2, S, ex, se, sq, _, es, r3, 0, rfl, HT, HON.out, hSs, hsm, hes, by omega, HBN.out⟩
       | false =>
         have HT := Lib.hid (show Evt.take s.data.toList = (Evt.zeroN, [], 2) by rw [HT0.out, if_neg (by rw [hr]; simp)])
         have HP := Lib.hid (z8.put7 0 0 ⟨#[]⟩ 0 0 0 (.slice none 0 0))
         have HBN := Lib.hid (hb8.trans (below_of_grown HP.out.2 (Nat.le_refl _) hs8))
         clear HT0 hr e8 z8 o8 hb8
         go_wp2
         (try simp only [Exit.inBlock, Exit.then])
         refine bodyPost_ret (results_cell3 rfl _ _ w.heap.size _ _ _ _ rfl HP.out.1 Tryz.underlying40 rfl entry_size) rfl ?_
         exact ⟨0, 0, ⟨#[]⟩, 0, 0, 0, _, [], ⟨#[]⟩, 2, rfl, HT, World.ownsRow_nil _ _ _ _, Nat.zero_le _, (fun e he => by cases he), by simp, Nat.zero_le _, HBN.out⟩
     · have hcb : ((c3 : Int) != 0) = true := by simp; omega
       have HT := Lib.hid (show Evt.take s.data.toList = (Evt.zeroN, [], c3) by
         unfold Evt.take; simp only; rw [H1.out]; simp only; rw [if_neg (by simp), H2.out]; simp only; rw [if_neg (by simp), H3.out]; simp only; rw [if_pos hc3])
       have z8 := Z7.out
       have HP := Lib.hid (z8.put7 0 0 ⟨#[]⟩ 0 0 0 (.slice none 0 0))
       have HBN := Lib.hid (HB7.out.trans (below_of_grown HP.out.2 (Nat.le_refl _) HB7.out.size))
       obtain ⟨z0, z1, z2, z3, z4, z5, z6⟩ := z8.cells
       have g0 := z8.frozen 0
       have g1 := z8.frozen 1
       have g2 := z8.frozen 2
       have g3 := z8.frozen 3
       have g4 := z8.frozen 4
       have g5 := z8.frozen 5
       have g6 := z8.frozen 6
       clear H1 H2 H3 z8
       go_wp2
       (try simp only [Exit.inBlock, Exit.then])
       refine bodyPost_ret (results_cell3 rfl _ _ w.heap.size _ _ _ _ rfl HP.out.1 Tryz.underlying40 rfl entry_size) rfl ?_
       exact ⟨0, 0, ⟨#[]⟩, 0, 0, 0, _, [], ⟨#[]⟩, c3, rfl, HT, World.ownsRow_nil _ _ _ _, Nat.zero_le _, (fun e he => by cases he), by simp, Nat.zero_le _, HBN.out⟩
   · have hcb : ((c2 : Int) != 0) = true := by simp; omega
     have hcb' : ((c2 : Int) == 0) = false := by simp; omega
     have HT := Lib.hid (show Evt.take s.data.toList = (Evt.zeroN, [], c2) by
       unfold Evt.take; simp only; rw [H1.out]; simp only; rw [if_neg (by simp), H2.out]; simp only; rw [if_pos hc2])
     have z8 := Z5.out
     have HP := Lib.hid (z8.put7 0 0 ⟨#[]⟩ 0 0 0 (.slice none 0 0))
     have HBN := Lib.hid (HB5.out.trans (below_of_grown HP.out.2 (Nat.le_refl _) HB5.out.size))
     obtain ⟨z0, z1, z2, z3, z4, z5, z6⟩ := z8.cells
     have g0 := z8.frozen 0
     have g1 := z8.frozen 1
     have g2 := z8.frozen 2
     have g3 := z8.frozen 3
     have g4 := z8.frozen 4
     have g5 := z8.frozen 5
     have g6 := z8.frozen 6
     clear H1 H2 z8
     go_wp2
     (try simp only [Exit.inBlock, Exit.then])
     refine bodyPost_ret (results_cell3 rfl _ _ w.heap.size _ _ _ _ rfl HP.out.1 Tryz.underlying40 rfl entry_size) rfl ?_
     exact ⟨0, 0, ⟨#[]⟩, 0, 0, 0, _, [], ⟨#[]⟩, c2, rfl, HT, World.ownsRow_nil _ _ _ _, Nat.zero_le _, (fun e he => by cases he), by simp, Nat.zero_le _, HBN.out⟩
 · have hcb : ((c1 : Int) != 0) = true := by simp; omega
   have hcb' : ((c1 : Int) == 0) = false := by simp; omega
   have HT := Lib.hid (show Evt.take s.data.toList = (Evt.zeroN, [], c1) by
     unfold Evt.take; simp only; rw [H1.out]; simp only; rw [if_pos hc1])
   have z8 := Z3.out
   have HP := Lib.hid (z8.put7 0 0 ⟨#[]⟩ 0 0 0 (.slice none 0 0))
   have HBN := Lib.hid (HB3.out.trans (below_of_grown HP.out.2 (Nat.le_refl _) HB3.out.size))
   obtain ⟨z0, z1, z2, z3, z4, z5, z6⟩ := z8.cells
   have g0 := z8.frozen 0
   have g1 := z8.frozen 1
   have g2 := z8.frozen 2
   have g3 := z8.frozen 3
   have g4 := z8.frozen 4
   have g5 := z8.frozen 5
   have g6 := z8.frozen 6
   clear H1 z8
   go_wp2
   (try simp only [Exit.inBlock, Exit.then])
   refine bodyPost_ret (results_cell3 rfl _ _ w.heap.size _ _ _ _ rfl HP.out.1 Tryz.underlying40 rfl entry_size) rfl ?_
   exact ⟨0, 0, ⟨#[]⟩, 0, 0, 0, _, [], ⟨#[]⟩, c1, rfl, HT, World.ownsRow_nil _ _ _ _, Nat.zero_le _, (fun e he => by cases he), by simp, Nat.zero_le _, HBN.out⟩
def enCells (ps : List (Evt.Entry × Value)) : List Value :=
 ps.flatMap fun p => [.int .i64 p.1.pos, .int .i64 p.1.epoch, .string ⟨p.1.b.stream.toArray⟩, .int .i64 p.1.b.expect, .int .i64 p.1.b.session, .int .i64 p.1.b.seq, p.2]
theorem enCells_cons (p : Evt.Entry × Value) (ps : List (Evt.Entry × Value)) : enCells (p :: ps) = .int .i64 p.1.pos :: .int .i64 p.1.epoch :: .string ⟨p.1.b.stream.toArray⟩ :: .int .i64 p.1.b.expect :: .int .i64 p.1.b.session :: .int .i64 p.1.b.seq :: p.2 :: enCells ps := rfl
theorem enCells_len : ∀ (ps : List (Evt.Entry × Value)), (enCells ps).length = ps.length * 7
 | [] => rfl
 | p :: ps => by rw [enCells_cons]; simp only [List.length_cons, enCells_len ps]; omega
theorem enCells_at : ∀ (ps : List (Evt.Entry × Value)) (i : Nat) (hi : i < ps.length),
   (enCells ps)[i * 7]? = some (.int .i64 ps[i].1.pos) ∧ (enCells ps)[i * 7 + 1]? = some (.int .i64 ps[i].1.epoch) ∧ (enCells ps)[i * 7 + 2]? = some (.string ⟨ps[i].1.b.stream.toArray⟩) ∧ (enCells ps)[i * 7 + 3]? = some (.int .i64 ps[i].1.b.expect) ∧
     (enCells ps)[i * 7 + 4]? = some (.int .i64 ps[i].1.b.session) ∧ (enCells ps)[i * 7 + 5]? = some (.int .i64 ps[i].1.b.seq) ∧ (enCells ps)[i * 7 + 6]? = some ps[i].2
 | p :: ps, 0, _ => ⟨rfl, rfl, rfl, rfl, rfl, rfl, rfl⟩
 | p :: ps, i + 1, hi => by
   have := enCells_at ps i (by simpa using hi)
   have e : ∀ k, (enCells (p :: ps))[(i + 1) * 7 + k]? = (enCells ps)[i * 7 + k]? := fun k => by
     rw [enCells_cons, show (i + 1) * 7 + k = (i * 7 + k) + 1 + 1 + 1 + 1 + 1 + 1 + 1 by omega]
     simp only [List.getElem?_cons_succ]
   have e0 := e 0
   simp only [Nat.add_zero] at e0
   simp only [e, e0, List.getElem_cons_succ]
   exact this
def Fine (e : Evt.Entry) : Prop := e.b.stream.length ≤ 1000000 ∧ Small e.b.events ∧ e.b.events.length ≤ 1000000
def Ents (w : World) (v : Value) (ps : List (Evt.Entry × Value)) : Prop := Cells w v 7 ps.length (enCells ps) ∧ ∀ p ∈ ps, Evs w p.2 p.1.b.events ∧ Fine p.1
def plainE (ps : List (Evt.Entry × Value)) : List Evt.Entry := ps.map (·.1)
theorem Ents.next {w w' : World} {v : Value} {ps : List (Evt.Entry × Value)} (h : Ents w v ps) (hb : Below w.heap.size w w') : Ents w' v ps :=
 ⟨Cells.next h.1 hb, fun p hp => ⟨Cells.next (h.2 p hp).1 hb, (h.2 p hp).2⟩⟩
theorem enAt {w : World} {v : Value} {ps : List (Evt.Entry × Value)} (h : Ents w v ps) (i : Nat) (hi : i < ps.length) :
   ∃ (b o c : Nat) (p ep : Int) (S : ByteArray) (ex se sq : Int) (sa : Option Addr) (sl sc : Nat) (es : List Evt.Event), v = .slice (some ⟨b, o, none⟩) ps.length c ∧
     w.cell? ⟨b, o + i * 7, none⟩ = some (.int .i64 p) ∧ w.cell? ⟨b, o + i * 7 + 1, none⟩ = some (.int .i64 ep) ∧ w.cell? ⟨b, o + i * 7 + 2, none⟩ = some (.string S) ∧ w.cell? ⟨b, o + i * 7 + 3, none⟩ = some (.int .i64 ex) ∧ w.cell? ⟨b, o + i * 7 + 4, none⟩ = some (.int .i64 se) ∧ w.cell? ⟨b, o + i * 7 + 5, none⟩ = some (.int .i64 sq) ∧ w.cell? ⟨b, o + i * 7 + 6, none⟩ = some (.slice sa sl sc) ∧
     Evs w (.slice sa sl sc) es ∧ S.size ≤ 1000000 ∧ Small es ∧ es.length ≤ 1000000 ∧ Hid (ps[i].1 = ⟨p, ep, ⟨S.data.toList, ex, se, sq, es⟩⟩) ∧ Hid (ps[i].2 = .slice sa sl sc) := by
 rcases h.1.2 with ⟨h0, _⟩ | ⟨b, o, c, h1, h2⟩
 · omega
 · obtain ⟨k0, k1, k2, k3, k4, k5, k6⟩ := enCells_at ps i hi
   have hp := h.2 ps[i] (List.getElem_mem hi)
   obtain ⟨sa, sl, sc, hs⟩ := evs_slice hp.1
   obtain ⟨S, hS, hS2, hS3⟩ := str_of ps[i].1.b.stream
   have q0 := h2 _ _ k0
   have q1 := h2 _ _ k1
   have q2 := h2 _ _ k2
   have q3 := h2 _ _ k3
   have q4 := h2 _ _ k4
   have q5 := h2 _ _ k5
   have q6 := h2 _ _ k6
   rw [hS] at q2
   rw [hs] at q6
   refine ⟨b, o, c, _, _, S, _, _, _, sa, sl, sc, ps[i].1.b.events, h1, q0, q1, q2, q3, q4, q5, q6, by rw [← hs]; exact hp.1, by rw [hS3]; exact hp.2.1, hp.2.2.1, hp.2.2.2, ?_, hs⟩
   show ps[i].1 = _
   rw [hS2]
set_option maxHeartbeats 4000000 in
set_option maxRecDepth 100000 in
theorem follows_any (v : Value) (ps : List (Evt.Entry × Value)) (pos epoch : Int) (w : World) (hE : Env w) (hc : Ents w v ps) (hn : ps.length ≤ 1000000) (hp1 : -1000000000000 ≤ pos) (hp2 : pos ≤ 1000000000000) :
   Calls Tryz.prog 51 #[v, .int .i64 pos, .int .i64 epoch] w fun e w' => e = .returned (.bool (Evt.follows (plainE ps) pos epoch)) ∧ Below w.heap.size w w' := by
 rcases cellsNil hc.1 with ⟨h0, a0, c0, rfl⟩ | ⟨b, o, c, rfl⟩
 · have HN := Lib.hid (List.eq_nil_of_length_eq_zero h0)
   clear h0
   go_enter Tryz.func51, Tryz.ntmps51
   go_wp2
   go_loopw [11] (fun lv wr => lv = .int .i64 0 ∧ wr = w) (fun _ _ => 0)
   case atStart => exact ⟨rfl, rfl⟩
   case round =>
     obtain ⟨rfl, rfl⟩ := hrel
     go_wp2
     go_ret
     exact ⟨ret_bool (by rw [HN.out]; rfl), Below.refl _ _⟩
 · have HC := Lib.hid hc
   clear hc
   go_enter Tryz.func51, Tryz.ntmps51
   go_wp2
   go_loopw [1, 2, 11] (fun pv ev lv wr => ∃ (i : Nat) (p e : Int), pv = .int .i64 p ∧ ev = .int .i64 e ∧ lv = .int .i64 i ∧ i ≤ ps.length ∧ -1000000000000 ≤ p ∧ p ≤ 1000000000000 ∧ Below w.heap.size w wr ∧ Env wr ∧ Evt.follows (plainE (ps.drop i)) p e = Evt.follows (plainE ps) pos epoch) (fun _ _ lv _ => ps.length - (intOf lv).toNat)
   case atStart => exact ⟨0, pos, epoch, rfl, rfl, rfl, by omega, hp1, hp2, Below.refl _ _, hE, rfl⟩
   case round =>
     obtain ⟨i, p0, e0, rfl, rfl, rfl, hi, hq1, hq2, hbw, hEr, hf⟩ := hrel
     have HF := Lib.hid hf
     clear hf
     by_cases hp : i < ps.length
     · obtain ⟨b', o', c', p, ep, S, ex, se, sq, sa, sl, sc, es, hv, k0, k1, k2, k3, k4, k5, k6, hev, hS, hsm, hes, hpe, _⟩ := enAt HC.out i hp
       cases hv
       have k0 := cell_kept hbw (Nat.le_refl _) k0
       have k1 := cell_kept hbw (Nat.le_refl _) k1
       have k2 := cell_kept hbw (Nat.le_refl _) k2
       have k3 := cell_kept hbw (Nat.le_refl _) k3
       have k4 := cell_kept hbw (Nat.le_refl _) k4
       have k5 := cell_kept hbw (Nat.le_refl _) k5
       have k6 := cell_kept hbw (Nat.le_refl _) k6
       have hev1 := Cells.next hev hbw
       have hb1 : Below w.heap.size w (wr.alloc (.cells #[.int .i64 p, .int .i64 ep, .string S, .int .i64 ex, .int .i64 se, .int .i64 sq, .slice sa sl sc] 40)) := hbw.alloc hbw.size _
       have HD := Lib.hid (show plainE (ps.drop i) = ⟨p, ep, ⟨S.data.toList, ex, se, sq, es⟩⟩ :: plainE (ps.drop (i + 1)) by rw [List.drop_eq_getElem_cons hp, ← hpe.out]; rfl)
       by_cases h1 : p = p0 + 1
       · have h1b : (p != p0 + 1) = false := by simp [h1]
         have hw1 : wrap64 (p0 + 1) = p0 + 1 := IntWalk.wrap64_in _ (by omega)
         by_cases h2 : ep < e0
         · have HN := Lib.hid (show Evt.follows (plainE ps) pos epoch = false by rw [← HF.out, HD.out, Evt.follows, if_pos (.inr (.inl h2))])
           clear HF HD h1
           go_wp2
           go_ret
           exact ⟨ret_bool (by rw [HN.out]), hb1⟩
         · have hE1 := hEr.next ((Below.refl _ wr).alloc (Nat.le_refl _) (.cells #[.int .i64 p, .int .i64 ep, .string S, .int .i64 ex, .int .i64 se, .int .i64 sq, .slice sa sl sc] 40))
           have eb1 : EB wr.heap.size p ep S ex se sq (.slice sa sl sc) (wr.alloc (.cells #[.int .i64 p, .int .i64 ep, .string S, .int .i64 ex, .int .i64 se, .int .i64 sq, .slice sa sl sc] 40)) := heap_alloc_new wr _
           have hev2 := Cells.next hev1 ((Below.refl _ wr).alloc (Nat.le_refl _) (.cells #[.int .i64 p, .int .i64 ep, .string S, .int .i64 ex, .int .i64 se, .int .i64 sq, .slice sa sl sc] 40))
           have HRI := Lib.hid (recRight_any p ep S ex se sq _ es _ hE1 hS hev2 hes hsm)
           have HEB := Lib.hid eb1
           have h2' : e0 ≤ ep := by omega
           have H1 := Lib.hid h1
           clear eb1 h1
           go_wp2_with fail
           refine HRI.out.mono ?_
           rintro e w2 ⟨rfl, b2⟩
           have hb2 := Below.up hb1 (Nat.le_refl _) b2
           have hE2 := hE1.next b2
           obtain ⟨j0, j1, j2, j3, j4, j5, j6⟩ := (HEB.out.next b2).cells
           cases hr : Evt.rightN ⟨p, ep, ⟨S.data.toList, ex, se, sq, es⟩⟩ with
           | false =>
             have HN := Lib.hid (show Evt.follows (plainE ps) pos epoch = false by rw [← HF.out, HD.out, Evt.follows, if_pos (.inr (.inr hr))])
             clear HF HD hr HRI HEB b2
             go_wp2
             go_ret
             exact ⟨ret_bool (by rw [HN.out]), hb2⟩
           | true =>
             have HN := Lib.hid (show Evt.follows (plainE (ps.drop (i + 1))) p ep = Evt.follows (plainE ps) pos epoch by
               rw [← HF.out, HD.out, Evt.follows, if_neg (by simp only [hr]; intro h; rcases h with h | h | h
                                                             · exact h H1.out
                                                             · omega
                                                             · cases h)])
             have hpr := (Evt.number_iff p).1 (Evt.rightN_iff.1 hr).1
             clear HF HD hr HRI HEB b2 k0 k1 k2 k3 k4 k5 k6 hev hev1 hev2
             go_wp2
             go_quiet (fail)
             go_wp2
             exact ⟨⟨i + 1, p, ep, rfl, rfl, by go_num, by omega, by omega, by omega, below_drewN hb2 _, hE2.next (below_drewN (Below.refl _ _) _), HN.out⟩, by simp [intOf]; omega⟩
       · have h1b : (p != p0 + 1) = true := by simp [h1]
         have hw1 : wrap64 (p0 + 1) = p0 + 1 := IntWalk.wrap64_in _ (by omega)
         have HN := Lib.hid (show Evt.follows (plainE ps) pos epoch = false by rw [← HF.out, HD.out, Evt.follows, if_pos (.inl h1)])
         clear HF HD
         go_wp2
         go_ret
         exact ⟨ret_bool (by rw [HN.out]), hb1⟩
     · obtain rfl : i = ps.length := by omega
       have HN := Lib.hid (show Evt.follows (plainE ps) pos epoch = true by rw [← HF.out, List.drop_length]; rfl)
       go_wp2
       go_ret
       exact ⟨ret_bool (by rw [HN.out]), hbw⟩
end Go.Proofs.YtgddgipjpdjoaaaGreatDoor
