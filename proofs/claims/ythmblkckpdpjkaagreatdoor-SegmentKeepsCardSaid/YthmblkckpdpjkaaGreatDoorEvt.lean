/-
  The walks of event.Right, bytes, Fits and its closures, slices.ContainsFunc over events.
-/
import Derived.Test.YthmblkckpdpjkaaGreatDoorRow
import Derived.Test.YthmblkckpdpjkaaGreatDoorEvtA
import Derived.Test.YthmblkckpdpjkaaGreatDoorName
import Derived.Deep.RegionHeld3
namespace Go.Proofs.YthmblkckpdpjkaaGreatDoor
open Go.RowKit Go.Shelf

theorem str_det {r : ByteArray} {l : List UInt8} (h : r.data.toList = l) : r = ⟨l.toArray⟩ := by
  apply ByteArray.ext
  rw [← h]
theorem putText_det (s : ByteArray) (w : World) (hs : s.size ≤ 1000000000000) :
    Calls Tryz.prog 141 #[.string s] w fun e w' => e = .returned (.string ⟨(Num.putText s.data.toList).toArray⟩) ∧ Below w.heap.size w w' := by
  refine (putText_any s w hs).mono ?_
  rintro e w' ⟨r, rfl, HR, _, hb⟩
  exact ⟨by rw [str_det HR.out], hb⟩

theorem held2 {w0 wa wb : World} {a b : Addr} {u v : Value} (h : wa.cell? a = some u ∧ wa.cell? b = some v ∧ Below w0.heap.size w0 wa) (hb : Below wa.heap.size wa wb) : wb.cell? a = some u ∧ wb.cell? b = some v ∧ Below w0.heap.size w0 wb :=
  ⟨cell_kept hb (Nat.le_refl _) h.1, cell_kept hb (Nat.le_refl _) h.2.1, Below.up h.2.2 (Nat.le_refl _) hb⟩
set_option maxHeartbeats 1000000 in
set_option maxRecDepth 100000 in
theorem eventBytes_any (k d : ByteArray) (w : World) (hk : k.size ≤ 1000000) (hd : d.size ≤ 1000000) :
    Calls Tryz.prog 143 #[.agg #[.string k, .string d]] w fun e w' => ∃ r : ByteArray, e = .returned (.string r) ∧ Hid (r.data.toList = Evt.bytesE ⟨k.data.toList, d.data.toList⟩) ∧ r.size ≤ k.size + d.size + 12 ∧ Below w.heap.size w w' := by
  obtain ⟨A, hA, hA2, hA3⟩ := str_of (Num.putText k.data.toList)
  obtain ⟨B, hB, hB2, hB3⟩ := str_of (Num.putText d.data.toList)
  obtain ⟨R, hR, hR2, hR3⟩ := str_of (Evt.bytesE ⟨k.data.toList, d.data.toList⟩)
  have c1 := putText_det k
  have c2 := putText_det d
  rw [hA] at c1
  rw [hB] at c2
  have l1 := Evt.putText_len k.data.toList
  have l2 := Evt.putText_len d.data.toList
  rw [← hA3, ← Lib.size_eq] at l1
  rw [← hB3, ← Lib.size_eq] at l2
  have hadd : ∀ w, (Op.stringOp .add A B).run Tryz.prog w = .ok (.string R) w := fun w => add_lists w A B R (by omega) (by rw [hA2, hB2, hR2]; rfl)
  have hRs : R.size ≤ k.size + d.size + 12 := by rw [hR3]; simp only [Evt.bytesE, List.length_append]; rw [← hA3, ← hB3]; omega
  have HR := Lib.hid hR2
  clear hA hB hA2 hB2 hA3 hB3 hR hR2 hR3
  go_enter Tryz.func143, Tryz.ntmps143
  go_wp2
  have h0 : (w.alloc (.cells #[.string k, .string d] 77)).cell? ⟨w.heap.size, 0, none⟩ = some (.string k) := by simp
  have h1 : (w.alloc (.cells #[.string k, .string d] 77)).cell? ⟨w.heap.size, 1, none⟩ = some (.string d) := by simp
  have hb0 : Below w.heap.size w (w.alloc (.cells #[.string k, .string d] 77)) := (Below.refl _ _).alloc (Nat.le_refl _) _
  obtain ⟨W, hW⟩ : ∃ W, w.alloc (.cells #[.string k, .string d] 77) = W := ⟨_, rfl⟩
  rw [hW] at h0 h1 hb0 ⊢
  clear hW
  go_region_held3 (fun w' => w'.cell? ⟨w.heap.size, 0, none⟩ = some (.string k) ∧ w'.cell? ⟨w.heap.size, 1, none⟩ = some (.string d) ∧ Below w.heap.size w w') (first | exact ⟨h0, h1, hb0.drew⟩ | exact held2 (by assumption) hb)
    (first | (go_at_call 141; refine (c1 _ (by omega)).mono ?_; rintro e w' ⟨rfl, hb⟩) | (go_at_call 141; refine (c2 _ (by omega)).mono ?_; rintro e w' ⟨rfl, hb⟩))
  go_wp2
  go_ret
  exact ⟨R, rfl, HR, hRs, And.right (And.right (by assumption))⟩

theorem right_any (k d : ByteArray) (w : World) (hE : Env w) (hk : k.size ≤ 1000000) :
    Calls Tryz.prog 121 #[.agg #[.string k, .string d]] w fun e w' => e = .returned (.bool (Evt.right ⟨k.data.toList, d.data.toList⟩)) ∧ Below w.heap.size w w' := by
  have HZ := Lib.hid (Lib.size_eq d)
  have hb0 : Below w.heap.size w (w.alloc (.cells #[.string k, .string d] 77)) := (Below.refl _ _).alloc (Nat.le_refl _) _
  by_cases h : (d.size : Int) ≤ 200
  · have HF := Lib.hid (show Evt.right ⟨k.data.toList, d.data.toList⟩ = Txt.name k.data.toList by rw [Evt.right, decide_eq_true (by simp only; rw [← HZ.out]; omega)]; rfl)
    go_enter Tryz.func121, Tryz.ntmps121
    go_wp2_with fail
    refine (name_any k _ (hE.next hb0) (by omega)).mono ?_
    rintro e w1 ⟨rfl, b1⟩
    rw [← HF.out]
    go_wp2
    go_ret
    exact ⟨rfl, Below.up hb0 (Nat.le_refl _) b1⟩
  · have HF := Lib.hid (show Evt.right ⟨k.data.toList, d.data.toList⟩ = false by rw [Evt.right, decide_eq_false (by simp only; rw [← HZ.out]; omega)]; rfl)
    go_enter Tryz.func121, Tryz.ntmps121
    go_wp2
    go_ret
    exact ⟨ret_bool (by rw [HF.out]), hb0⟩
theorem fits1_any (n : Int) (w : World) : Calls Tryz.prog 118 #[.int .i64 n] w fun e w' => e = .returned (.bool (Evt.number n)) ∧ w = w' := by
  go_enter Tryz.func118, Tryz.ntmps118
  go_wp2
  all_goals (go_ret; refine ⟨ret_bool (beq_of ?_), rfl⟩; rw [Evt.number_iff]; simp; try omega)
theorem fits2_any (k d : ByteArray) (w : World) (hE : Env w) (hk : k.size ≤ 1000000) :
    Calls Tryz.prog 120 #[.agg #[.string k, .string d]] w fun e w' => e = .returned (.bool (!Evt.right ⟨k.data.toList, d.data.toList⟩)) ∧ Below w.heap.size w w' := by
  have hb0 : Below w.heap.size w (w.alloc (.cells #[.string k, .string d] 77)) := (Below.refl _ _).alloc (Nat.le_refl _) _
  go_enter Tryz.func120, Tryz.ntmps120
  go_wp2_with fail
  refine (right_any k d _ (hE.next hb0) hk).mono ?_
  rintro e w1 ⟨rfl, b1⟩
  go_wp2
  go_ret
  exact ⟨rfl, Below.up hb0 (Nat.le_refl _) b1⟩

def evCells (es : List Evt.Event) : List Value := es.flatMap fun e => [.string ⟨e.kind.toArray⟩, .string ⟨e.data.toArray⟩]
theorem evCells_len (es : List Evt.Event) : (evCells es).length = es.length * 2 := by
  induction es with
  | nil => rfl
  | cons e es ih =>
    have : evCells (e :: es) = [.string ⟨e.kind.toArray⟩, .string ⟨e.data.toArray⟩] ++ evCells es := rfl
    rw [this, List.length_append, ih]; simp; omega
theorem evCells_at : ∀ (es : List Evt.Event) (i : Nat) (hi : i < es.length), (evCells es)[i * 2]? = some (.string ⟨es[i].kind.toArray⟩) ∧ (evCells es)[i * 2 + 1]? = some (.string ⟨es[i].data.toArray⟩)
  | e :: es, 0, _ => ⟨rfl, rfl⟩
  | e :: es, i + 1, hi => by
    have := evCells_at es i (by simpa using hi)
    have e1 : evCells (e :: es) = .string ⟨e.kind.toArray⟩ :: .string ⟨e.data.toArray⟩ :: evCells es := rfl
    rw [e1, show (i + 1) * 2 = i * 2 + 1 + 1 by omega, show i * 2 + 1 + 1 + 1 = (i * 2 + 1) + 1 + 1 by omega]
    simpa using this
def Evs (w : World) (v : Value) (es : List Evt.Event) : Prop := Cells w v 2 es.length (evCells es)
theorem evAt {w : World} {v : Value} {es : List Evt.Event} (h : Evs w v es) (i : Nat) (hi : i < es.length) :
    ∃ b o c, v = .slice (some ⟨b, o, none⟩) es.length c ∧ w.cell? ⟨b, o + i * 2, none⟩ = some (.string ⟨es[i].kind.toArray⟩) ∧ w.cell? ⟨b, o + i * 2 + 1, none⟩ = some (.string ⟨es[i].data.toArray⟩) := by
  rcases h.2 with ⟨h0, _⟩ | ⟨b, o, c, h1, h2⟩
  · omega
  · exact ⟨b, o, c, h1, h2 _ _ (evCells_at es i hi).1, h2 _ _ (evCells_at es i hi).2⟩
def Small (es : List Evt.Event) : Prop := ∀ e ∈ es, e.kind.length ≤ 1000000 ∧ e.data.length ≤ 1000000

set_option maxHeartbeats 1000000 in
set_option maxRecDepth 100000 in
theorem indexFunc_any (v : Value) (es : List Evt.Event) (w : World) (hE : Env w) (hc : Evs w v es) (hn : es.length ≤ 1000000) (hx : Small es) :
    Calls Tryz.prog 153 #[v, .func (.func 120) #[] #[]] w fun e w' => ∃ r : Int, e = .returned (.int .i64 r) ∧ Hid (decide (0 ≤ r) = !es.all Evt.right) ∧ Below w.heap.size w w' := by
  rcases cellsNil hc with ⟨h0, a0, c0, rfl⟩ | ⟨b, o, c, rfl⟩
  · go_enter Tryz.func153, Tryz.ntmps153
    go_wp2
    go_loopw [8] (fun lv wr => lv = .int .i64 0 ∧ wr = w) (fun _ _ => 0)
    case atStart => exact ⟨rfl, rfl⟩
    case round =>
      obtain ⟨rfl, rfl⟩ := hrel
      have HN := Lib.hid (List.eq_nil_of_length_eq_zero h0)
      clear h0
      go_wp2
      go_ret
      exact ⟨-1, rfl, by rw [HN.out]; rfl, Below.refl _ _⟩
  · have HX := Lib.hid hx
    have HC := Lib.hid hc
    clear hx hc
    go_enter Tryz.func153, Tryz.ntmps153
    go_wp2
    go_loopw [8] (fun lv wr => ∃ i : Nat, lv = .int .i64 i ∧ i ≤ es.length ∧ Below w.heap.size w wr ∧ Env wr ∧ (es.drop i).all Evt.right = es.all Evt.right) (fun lv _ => es.length - (intOf lv).toNat)
    case atStart => exact ⟨0, rfl, by omega, Below.refl _ _, hE, rfl⟩
    case round =>
      obtain ⟨i, rfl, hi, hbw, hEr, hall⟩ := hrel
      have HA := Lib.hid hall
      clear hall
      by_cases hp : i < es.length
      · obtain ⟨b', o', c', hv, hc1, hc2⟩ := evAt HC.out i hp
        cases hv
        have hc1 := cell_kept hbw (Nat.le_refl _) hc1
        have hc2 := cell_kept hbw (Nat.le_refl _) hc2
        have hsm := HX.out _ (List.getElem_mem hp)
        have hdr : es.drop i = es[i] :: es.drop (i + 1) := List.drop_eq_getElem_cons hp
        obtain ⟨x, hx⟩ : ∃ x, es[i] = x := ⟨_, rfl⟩
        rw [hx] at hc1 hc2 hsm hdr
        obtain ⟨K, hK, hK2, hK3⟩ := str_of x.kind
        obtain ⟨D, hD, hD2, hD3⟩ := str_of x.data
        rw [hK] at hc1
        rw [hD] at hc2
        have hKs : K.size ≤ 1000000 := by rw [hK3]; exact hsm.1
        have HR := Lib.hid (show (es.drop i).all Evt.right = (Evt.right ⟨K.data.toList, D.data.toList⟩ && (es.drop (i + 1)).all Evt.right) by rw [hdr, hK2, hD2]; rfl)
        clear hsm hdr hx hK hD hK2 hD2 hK3 hD3
        go_wp2_with fail
        refine (fits2_any K D wr hEr hKs).mono ?_
        rintro e w1 ⟨rfl, b1⟩
        have hbw1 := Below.up hbw (Nat.le_refl _) b1
        have hE1 := hEr.next b1
        cases hr : Evt.right ⟨K.data.toList, D.data.toList⟩ with
        | true =>
          have HN := Lib.hid (show (es.drop (i + 1)).all Evt.right = es.all Evt.right by rw [← HA.out, HR.out, hr]; rfl)
          clear HR HA hr b1
          go_wp2
          exact ⟨⟨i + 1, by go_num, by omega, hbw1, hE1, HN.out⟩, by simp [intOf]; omega⟩
        | false =>
          have HN := Lib.hid (show es.all Evt.right = false by rw [← HA.out, HR.out, hr]; rfl)
          clear HR HA hr b1
          go_wp2
          go_ret
          exact ⟨_, rfl, (show decide ((0 : Int) ≤ (i : Int)) = !es.all Evt.right by rw [HN.out]; exact decide_eq_true (by omega)), hbw1⟩
      · obtain rfl : i = es.length := by omega
        have HN := Lib.hid (show es.all Evt.right = true by rw [← HA.out, List.drop_length]; rfl)
        clear HA
        go_wp2
        go_ret
        exact ⟨-1, rfl, by rw [HN.out]; rfl, hbw⟩
theorem containsFunc_any (v : Value) (es : List Evt.Event) (w : World) (hE : Env w) (hc : Evs w v es) (hn : es.length ≤ 1000000) (hx : Small es) :
    Calls Tryz.prog 119 #[v, .func (.func 120) #[] #[]] w fun e w' => e = .returned (.bool (!es.all Evt.right)) ∧ Below w.heap.size w w' := by
  go_enter Tryz.func119, Tryz.ntmps119
  go_wp2_with fail
  refine (indexFunc_any v es w hE hc hn hx).mono ?_
  rintro e w1 ⟨r, rfl, HR, b1⟩
  go_wp2
  go_ret
  exact ⟨ret_bool HR.out, b1⟩
end Go.Proofs.YthmblkckpdpjkaaGreatDoor
