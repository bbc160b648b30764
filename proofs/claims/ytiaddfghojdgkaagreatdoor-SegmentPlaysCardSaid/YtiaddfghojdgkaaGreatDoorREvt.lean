/-
  The walks of the document's answer to layer 5 (bucketlineref5): events and batches.
-/
import Derived.Test.YtiaddfghojdgkaaGreatDoorRFrm
import Derived.Test.YtiaddfghojdgkaaGreatDoorRTxt
namespace Go.Proofs.YtiaddfghojdgkaaGreatDoor
open Go.RowKit Go.Shelf

theorem rright_any (k d : ByteArray) (w : World) (hk : k.size ≤ 1000000) :
    Calls Tryz.prog 278 #[.agg #[.string k, .string d]] w fun e w' => e = .returned (.bool (Evt.right ⟨k.data.toList, d.data.toList⟩)) ∧ Below w.heap.size w w' := by
  have HZ := Lib.hid (Lib.size_eq d)
  have hb0 : Below w.heap.size w (w.alloc (.cells #[.string k, .string d] 222)) := (Below.refl _ _).alloc (Nat.le_refl _) _
  have HN := Lib.hid (refName_any k (w.alloc (.cells #[.string k, .string d] 222)) (by omega))
  have g1 : (w.alloc (.cells #[.string k, .string d] 222)).cell? ⟨w.heap.size, 1, none⟩ = some (.string d) := by simp
  have HG := Lib.hid g1
  clear g1
  go_enter Tryz.func278, Tryz.ntmps278
  go_wp2_with fail
  refine HN.out.mono ?_
  rintro e w1 ⟨rfl, b1⟩
  have g1 := cell_kept b1 (Nat.le_refl _) HG.out
  have hb1 := Below.up hb0 (Nat.le_refl _) b1
  have HR := Lib.hid (show Evt.right ⟨k.data.toList, d.data.toList⟩ = (Txt.name k.data.toList && decide (d.size ≤ 200)) by rw [Evt.right, Bool.and_comm, HZ.out])
  cases hn : Txt.name k.data.toList with
  | false =>
    rw [hn] at HR
    clear hn HN
    go_wp2
    go_ret
    exact ⟨by rw [HR.out]; rfl, hb1⟩
  | true =>
    rw [hn, Bool.true_and] at HR
    clear hn HN
    by_cases hd : (d.size : Int) ≤ 200
    · go_wp2
      go_ret
      have hq : decide (d.size ≤ 200) = true := decide_eq_true (by omega)
      exact ⟨by rw [HR.out, hq]; rfl, hb1⟩
    · have hdi : decide ((d.size : Int) ≤ 200) = false := decide_eq_false hd
      have hq : decide (d.size ≤ 200) = false := decide_eq_false (by omega)
      go_wp2
      go_ret
      exact ⟨by rw [HR.out, hq]; rfl, hb1⟩
set_option maxHeartbeats 2000000 in
set_option maxRecDepth 100000 in
theorem rfits_any (S : ByteArray) (ex se sq : Int) (v : Value) (es : List Evt.Event) (w : World) (hS : S.size ≤ 1000000) (hc : Evs w v es) (hn : es.length ≤ 1000000) (hx : Small es) :
    Calls Tryz.prog 204 #[.agg #[.string S, .int .i64 ex, .int .i64 se, .int .i64 sq, v]] w fun e w' => e = .returned (.int .i64 (Evt.fits ⟨S.data.toList, ex, se, sq, es⟩ : Nat)) ∧ Below w.heap.size w w' := by
  obtain ⟨H, hH⟩ : ∃ H, Evt.headed ⟨S.data.toList, ex, se, sq, es⟩ = H := ⟨_, rfl⟩
  have HH := Lib.hid (show H = (Txt.name S.data.toList && decide (-1 ≤ ex) && decide (ex ≤ 274877906944) && Evt.number se && Evt.number sq && !es.isEmpty) from hH.symm)
  have HF := Lib.hid (show Evt.fits ⟨S.data.toList, ex, se, sq, es⟩ = if H = false then 1 else if 8 < es.length then 4 else if es.all Evt.right = false then 1 else 0 by rw [Evt.fits, hH])
  obtain ⟨F, hF⟩ : ∃ F, Evt.fits ⟨S.data.toList, ex, se, sq, es⟩ = F := ⟨_, rfl⟩
  rw [hF] at HF ⊢
  clear hF hH
  have HX := Lib.hid hx
  clear hx
  obtain ⟨sa, sc, rfl⟩ := cells_sliceV hc
  have HEM := Lib.hid (show es.isEmpty = decide (es.length = 0) by cases es <;> simp)
  obtain ⟨W, hW⟩ : ∃ W, W = w.alloc (.cells #[.string S, .int .i64 ex, .int .i64 se, .int .i64 sq, .slice sa es.length sc] 59) := ⟨_, rfl⟩
  have hb0 : Below w.heap.size w W := by rw [hW]; exact (Below.refl _ _).alloc (Nat.le_refl _) _
  have hG : W.heap[w.heap.size]? = some (.cells #[.string S, .int .i64 ex, .int .i64 se, .int .i64 sq, .slice sa es.length sc] 59 (0, 0)) := by rw [hW]; exact heap_alloc_new w _
  have g0 : W.cell? ⟨w.heap.size, 0, none⟩ = some (.string S) := by rw [Lib.cell_of_heap hG]; rfl
  have HG := Lib.hid hG
  have HW := Lib.hid hW
  have HN := Lib.hid (refName_any S W (by omega))
  have HC := Lib.hid (Cells.next hc hb0)
  clear hG hW hc
  go_enter Tryz.func204, Tryz.ntmps204
  go_upto_region 1 with fail
  rw [← HW.out]
  go_wp2_with fail
  refine HN.out.mono ?_
  rintro e w1 ⟨rfl, b1⟩
  have hbw := Below.up hb0 (Nat.le_refl _) b1
  have hG1 := heap_kept b1 (Nat.le_refl _) HG.out
  have k1 : w1.cell? ⟨w.heap.size, 1, none⟩ = some (.int .i64 ex) := by rw [Lib.cell_of_heap hG1]; rfl
  have k2 : w1.cell? ⟨w.heap.size, 2, none⟩ = some (.int .i64 se) := by rw [Lib.cell_of_heap hG1]; rfl
  have k3 : w1.cell? ⟨w.heap.size, 3, none⟩ = some (.int .i64 sq) := by rw [Lib.cell_of_heap hG1]; rfl
  have k4 : w1.cell? ⟨w.heap.size, 4, none⟩ = some (.slice sa es.length sc) := by rw [Lib.cell_of_heap hG1]; rfl
  have HC1 := Lib.hid (Cells.next HC.out b1)
  have HG1 := Lib.hid hG1
  clear hG1 HG HC HN HW g0 hb0 b1
  go_upto_region 2 with fail
  go_cut [3, 46] (fun _ v wx => v = .bool (!H) ∧ wx = w1)
  case first =>
    cases hnm : Txt.name S.data.toList with
    | false =>
      have HR := Lib.hid (show H = false by rw [HH.out, hnm]; rfl)
      clear hnm HH
      go_wp2
      go_meet
      exact ⟨by rw [HR.out]; rfl, rfl⟩
    | true =>
      rw [hnm] at HH
      clear hnm
      by_cases h1 : ex < -1
      · have HR := Lib.hid (show H = false by rw [HH.out, decide_eq_false (show ¬ -1 ≤ ex by omega)]; rfl)
        clear HH
        go_wp2
        go_meet
        exact ⟨by rw [HR.out]; rfl, rfl⟩
      by_cases h2 : 274877906944 < ex
      · have HR := Lib.hid (show H = false by rw [HH.out, decide_eq_false (show ¬ ex ≤ 274877906944 by omega)]; simp)
        clear HH
        go_wp2
        go_meet
        exact ⟨by rw [HR.out]; rfl, rfl⟩
      have HH2 := Lib.hid (show H = (Evt.number se && Evt.number sq && !es.isEmpty) by rw [HH.out, decide_eq_true (show -1 ≤ ex by omega), decide_eq_true (show ex ≤ 274877906944 by omega)]; simp only [Bool.true_and])
      clear HH
      by_cases h3 : se < 1
      · have HR := Lib.hid (show H = false by rw [HH2.out, Evt.number, decide_eq_false (show ¬ 1 ≤ se by omega)]; rfl)
        clear HH2
        go_wp2
        go_meet
        exact ⟨by rw [HR.out]; rfl, rfl⟩
      by_cases h4 : 274877906944 < se
      · have HR := Lib.hid (show H = false by rw [HH2.out, Evt.number, decide_eq_false (show ¬ se ≤ 274877906944 by omega)]; simp)
        clear HH2
        go_wp2
        go_meet
        exact ⟨by rw [HR.out]; rfl, rfl⟩
      have HH3 := Lib.hid (show H = (Evt.number sq && !es.isEmpty) by rw [HH2.out, show Evt.number se = true from (Evt.number_iff se).2 ⟨by omega, by omega⟩]; simp only [Bool.true_and])
      clear HH2
      by_cases h5 : sq < 1
      · have HR := Lib.hid (show H = false by rw [HH3.out, Evt.number, decide_eq_false (show ¬ 1 ≤ sq by omega)]; rfl)
        clear HH3
        go_wp2
        go_meet
        exact ⟨by rw [HR.out]; rfl, rfl⟩
      by_cases h6 : 274877906944 < sq
      · have HR := Lib.hid (show H = false by rw [HH3.out, Evt.number, decide_eq_false (show ¬ sq ≤ 274877906944 by omega)]; simp)
        clear HH3
        go_wp2
        go_meet
        exact ⟨by rw [HR.out]; rfl, rfl⟩
      have HH4 := Lib.hid (show H = !decide (es.length = 0) by rw [HH3.out, show Evt.number sq = true from (Evt.number_iff sq).2 ⟨by omega, by omega⟩, HEM.out]; simp only [Bool.true_and])
      clear HH3
      by_cases h7 : es.length = 0
      · have h7b : ((es.length : Int) == 0) = true := by rw [beq_iff_eq]; omega
        have HR := Lib.hid (show H = false by rw [HH4.out, decide_eq_true h7]; rfl)
        clear HH4 h7
        go_wp2
        go_meet
        exact ⟨by rw [HR.out]; rfl, rfl⟩
      · have h7b : ((es.length : Int) == 0) = false := by rw [beq_eq_false_iff_ne]; omega
        have HR := Lib.hid (show H = true by rw [HH4.out, decide_eq_false h7]; rfl)
        clear HH4 h7
        go_wp2
        go_meet
        exact ⟨by rw [HR.out]; rfl, rfl⟩
  case rest =>
    obtain ⟨rfl, rfl⟩ := hcut
    clear k1 k2 k3 HH HEM
    cases H with
    | false =>
      have HR := Lib.hid (show F = 1 by rw [HF.out, if_pos rfl])
      clear HF
      go_wp2
      go_ret
      exact ⟨ret_i64 (by rw [HR.out]; rfl), hbw⟩
    | true =>
      have HF2 := Lib.hid (show F = if 8 < es.length then 4 else if es.all Evt.right = false then 1 else 0 by rw [HF.out, if_neg (by simp)])
      clear HF
      by_cases h8 : (8 : Int) < es.length
      · have HR := Lib.hid (show F = 4 by rw [HF2.out, if_pos (by omega)])
        clear HF2
        go_wp2
        go_ret
        exact ⟨ret_i64 (by rw [HR.out]; rfl), hbw⟩
      have HF3 := Lib.hid (show F = if es.all Evt.right = false then 1 else 0 by rw [HF2.out, if_neg (by omega)])
      clear HF2
      go_wp2
      go_loopw [4, 5] (fun iv _ wr => ∃ i : Nat, iv = .int .i64 i ∧ i ≤ es.length ∧ Below wc.heap.size wc wr ∧ Hid (es.all Evt.right = (es.drop i).all Evt.right)) (fun iv _ _ => es.length - (intOf iv).toNat)
      case atStart => exact ⟨0, rfl, by omega, Below.refl _ _, Lib.hid rfl⟩
      case round =>
        obtain ⟨i, rfl, hi, hbr, hall⟩ := hrel
        have k4 := cell_kept hbr (Nat.le_refl _) k4
        by_cases hp : i < es.length
        · obtain ⟨b2, o2, c2, hv2, e1, e2⟩ := evAt (Cells.next HC1.out hbr) i hp
          cases hv2
          have hxs := HX.out es[i] (List.getElem_mem hp)
          have hdr : es.drop i = es[i] :: es.drop (i + 1) := List.drop_eq_getElem_cons hp
          obtain ⟨x, hx⟩ : ∃ x, es[i] = x := ⟨_, rfl⟩
          rw [hx] at e1 e2 hdr hxs
          obtain ⟨K, hK, hK2, hK3⟩ := str_of x.kind
          obtain ⟨D, hD, hD2, hD3⟩ := str_of x.data
          rw [hK] at e1
          rw [hD] at e2
          have HRI := rright_any K D wr (by omega)
          rw [hK2, hD2] at HRI
          have HRI := Lib.hid HRI
          have HA := Lib.hid (show es.all Evt.right = (Evt.right x && (es.drop (i + 1)).all Evt.right) by rw [hall.out, hdr]; rfl)
          clear hx hdr hall hK hD hK2 hD2 hK3 hD3 hxs
          go_wp2_with fail
          refine HRI.out.mono ?_
          rintro e w2 ⟨rfl, b2⟩
          have hbr2 := Below.up hbr (Nat.le_refl _) b2
          clear HRI b2
          cases hr : Evt.right x with
          | false =>
            have HR := Lib.hid (show F = 1 by rw [HF3.out, HA.out, hr]; rfl)
            have hq : Evt.right ⟨x.kind, x.data⟩ = false := hr
            clear HA hr
            go_wp2
            go_ret
            exact ⟨ret_i64 (by rw [HR.out]; rfl), Below.up hbw (Nat.le_refl _) hbr2⟩
          | true =>
            have HA2 := Lib.hid (show es.all Evt.right = (es.drop (i + 1)).all Evt.right by rw [HA.out, hr]; rfl)
            have hq : Evt.right ⟨x.kind, x.data⟩ = true := hr
            clear HA hr
            go_wp2
            exact ⟨⟨i + 1, by go_num, by omega, hbr2, HA2⟩, by simp [intOf]; omega⟩
        · obtain rfl : i = es.length := by omega
          have HR := Lib.hid (show F = 0 by rw [HF3.out, hall.out, List.drop_length]; rfl)
          clear hall
          go_wp2
          go_ret
          exact ⟨ret_i64 (by rw [HR.out]; rfl), Below.up hbw (Nat.le_refl _) hbr⟩
end Go.Proofs.YtiaddfghojdgkaaGreatDoor
