/-
  The document's answer to layer 9: the walk of Bytes.
-/
import Derived.Test.YtiaddfghojdgkaaGreatDoorRDkj
namespace Go.Proofs.YtiaddfghojdgkaaGreatDoor
open Go.RowKit Go.Shelf

theorem owns_one (w : World) (B : Nat) (e : TypeId) (u : Value) (hB : B ≤ w.heap.size) : (w.alloc (.cells #[u] e)).ownsRow B e 1 (.slice (some ⟨w.heap.size, 0, none⟩) 1 1) 1 [u] :=
  ⟨by simp, .inr ⟨w.heap.size, 1, #[u], rfl, hB, heap_alloc_new w _, Nat.le_refl _, by unfold maxLen; omega, by simp, by simp⟩⟩
set_option maxHeartbeats 2000000 in
set_option maxRecDepth 100000 in
theorem rsegBytes_any (first : Int) (v : Value) (ps : List (Evt.Entry × Value)) (w : World) (hc : Ents w v ps) (hn : ps.length ≤ 900000) :
    Calls Tryz.prog 84 #[.int .i64 first, v] w fun e w' => ∃ r : ByteArray, e = .returned (.string r) ∧ Hid (r.data.toList = Seg.bytesH first ++ Seg.bytesB (plainE ps)) ∧ Below w.heap.size w w' := by
  have HC := Lib.hid hc
  obtain ⟨va, vc, rfl⟩ := cells_sliceV hc.1
  clear hc
  go_enter Tryz.func84, Tryz.ntmps84
  go_wp2_with fail
  refine (rput_any first w).mono ?_
  rintro e w1 ⟨A, rfl, ha, hA6, b1⟩
  obtain ⟨B, hB0, fB, tB⟩ := str_of (([115] : List UInt8) ++ A.data.toList)
  have hA := Lib.hid (show B.data.toList = Seg.headP first by rw [fB, ha.out]; rfl)
  have a1 : ∀ w, (Op.stringOp .add ⟨#[115]⟩ A).run Tryz.prog w = .ok (.string B) w := fun w => add_lists w _ _ _ (by have : (⟨#[115]⟩ : ByteArray).size = 1 := rfl; omega) fB.symm
  have ho1 := owns_one w1 w.heap.size 9 (.string B) b1.size
  have hb1 : Below w.heap.size w (w1.alloc (.cells #[.string B] 9)) := b1.alloc b1.size _
  have HO1 := Lib.hid (show (w1.alloc (.cells #[.string B] 9)).ownsRow w.heap.size 9 1 (.slice (some ⟨w1.heap.size, 0, none⟩) 1 1) 1 (strCells (Seg.headP first :: (plainE (ps.take 0)).map Seg.member)) by
    have e : strCells (Seg.headP first :: (plainE (ps.take 0)).map Seg.member) = [.string B] := by rw [← hA.out]; simp [strCells, plainE]
    rw [e]; exact ho1)
  have HB1 := Lib.hid hb1
  clear ho1 hb1 fB tB ha hB0
  go_wp2
  go_loopw [5, 6] (fun rv lv wr => ∃ (i : Nat), lv = .int .i64 (i : Int) ∧ i ≤ ps.length ∧ Hid (Below w.heap.size w wr) ∧ Hid (wr.ownsRow w.heap.size 9 1 rv (i + 1) (strCells (Seg.headP first :: (plainE (ps.take i)).map Seg.member)))) (fun _ lv _ => ps.length - (intOf lv).toNat)
  case atStart => exact ⟨0, rfl, Nat.zero_le _, HB1, HO1⟩
  case round =>
    obtain ⟨i, rfl, hi, HB, HO⟩ := hrel
    have hbw := HB.out
    have hown := HO.out
    by_cases hp : i < ps.length
    · have hpI : (i : Int) < (ps.length : Int) := by omega
      obtain ⟨b', o', c', p, ep, S, ex, se, sq, sa, sl, sc, es, hv, k0, k1, k2, k3, k4, k5, k6, hev, hS, hsm, hes, hpe, _⟩ := enAt HC.out i hp
      cases hv
      have k0 := cell_kept hbw (Nat.le_refl _) k0
      have k1 := cell_kept hbw (Nat.le_refl _) k1
      have k2 := cell_kept hbw (Nat.le_refl _) k2
      have k3 := cell_kept hbw (Nat.le_refl _) k3
      have k4 := cell_kept hbw (Nat.le_refl _) k4
      have k5 := cell_kept hbw (Nat.le_refl _) k5
      have k6 := cell_kept hbw (Nat.le_refl _) k6
      have HRP := Lib.hid (rrecPut_any p ep S ex se sq _ es wr hS (Cells.next hev hbw) hes hsm)
      go_wp2_with fail
      refine HRP.out.mono ?_
      rintro e w2 ⟨A2, rfl, hA2, b2⟩
      have hb2 := Below.up hbw (Nat.le_refl _) b2
      have hown2 := owns_next hown b2
      have hbs2 := hb2.size
      obtain ⟨B2, hB20, fB2, tB2⟩ := str_of (([101] : List UInt8) ++ A2.data.toList)
      have HB2 := Lib.hid (show B2.data.toList = Seg.member ps[i].1 by rw [fB2, hA2.out, hpe.out]; rfl)
      have hA8 : A2.size ≤ 3012 := by
        have := Evt.put_len ⟨p, ep, ⟨S.data.toList, ex, se, sq, es⟩⟩
        rw [Lib.size_eq, hA2.out]; omega
      have a2 : ∀ w, (Op.stringOp .add ⟨#[101]⟩ A2).run Tryz.prog w = .ok (.string B2) w := fun w => add_lists w _ _ _ (by have : (⟨#[101]⟩ : ByteArray).size = 1 := rfl; omega) fB2.symm
      clear fB2 tB2 hB20 hA8 HRP b2 hown k0 k1 k2 k3 k4 k5 k6 hev
      go_wp2_with (at_builtin; refine wpList_append_new rfl _ _ _ rfl strT rfl hown2 hb2 hbs2 _ _ rfl rfl (by simp [Value.oneCell']) (by omega) ?_)
      intro v' w3 hown3 hg3 hb3 hs3
      have HO3 := Lib.hid (show w3.ownsRow w.heap.size 9 1 v' (i + 1 + 1) (strCells (Seg.headP first :: (plainE (ps.take (i + 1))).map Seg.member)) by
        rw [plainE_take_succ ps i hp, List.map_append, List.map_cons, List.map_nil, ← HB2.out, ← List.cons_append, strCells, List.map_append]
        exact hown3)
      have HB3 := Lib.hid hb3
      clear hown2 hown3 hg3 hb2 hbw hb3
      go_wp2
      exact ⟨⟨i + 1, by go_num, hp, HB3, HO3⟩, by simp [intOf]; omega⟩
    · have hpI : ¬ (i : Int) < (ps.length : Int) := by omega
      have HROW := Lib.hid (cells_of_owns (show wr.ownsRow w.heap.size 9 1 _ (i + 1) (strCells (Seg.headP first :: (plainE ps).map Seg.member)) by
        have e : ps.take i = ps := List.take_of_length_le (by omega)
        rw [e] at hown; exact hown))
      have hlen : i + 1 = (Seg.headP first :: (plainE ps).map Seg.member).length := by simp [plainE]; omega
      have HROW := Lib.hid (show Cells wr _ 1 (Seg.headP first :: (plainE ps).map Seg.member).length (strCells (Seg.headP first :: (plainE ps).map Seg.member)) by rw [← hlen]; exact HROW.out)
      have HR := Lib.hid (rrow_any _ (Seg.headP first :: (plainE ps).map Seg.member) wr HROW.out (by simp [plainE]; omega) (fun p hp => by
        rcases List.mem_cons.1 hp with rfl | hp
        · exact Seg.headP_good first
        · obtain ⟨e, _, rfl⟩ := List.mem_map.1 hp; exact Seg.member_good e))
      clear hlen hown HROW
      go_wp2_with fail
      refine HR.out.mono ?_
      rintro e w3 ⟨R, rfl, hR, b3⟩
      have hb3 := Below.up hbw (Nat.le_refl _) b3
      go_wp2
      go_ret
      exact ⟨R, rfl, Lib.hid (by rw [hR.out]; rfl), hb3⟩
end Go.Proofs.YtiaddfghojdgkaaGreatDoor
