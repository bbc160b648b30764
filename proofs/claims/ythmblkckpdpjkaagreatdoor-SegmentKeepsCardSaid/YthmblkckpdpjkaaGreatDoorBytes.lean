/-
  The walks of segment.bytes, write and Create.
-/
import Derived.Test.YthmblkckpdpjkaaGreatDoorNm
import Derived.Test.YthmblkckpdpjkaaGreatDoorFollows
import Derived.Test.YthmblkckpdpjkaaGreatDoorDsk3
import Derived.Test.YthmblkckpdpjkaaGreatDoorSegA
namespace Go.Proofs.YthmblkckpdpjkaaGreatDoor
open Go.RowKit Go.Shelf

theorem plainE_take_succ (ps : List (Evt.Entry × Value)) (i : Nat) (h : i < ps.length) : plainE (ps.take (i + 1)) = plainE (ps.take i) ++ [ps[i].1] := by
  rw [List.take_succ_eq_append_getElem h]; simp only [plainE, List.map_append, List.map_cons, List.map_nil]
set_option maxHeartbeats 4000000 in
set_option maxRecDepth 100000 in
theorem segBytes_any (first : Int) (v : Value) (ps : List (Evt.Entry × Value)) (w : World) (hE : Env w) (hc : Ents w v ps) (hn : ps.length ≤ 1000000) :
    Calls Tryz.prog 41 #[.int .i64 first, v] w fun e w' => ∃ h r : ByteArray, e = .returned (.tuple #[.string h, .string r]) ∧ Hid (h.data.toList = Seg.bytesH first) ∧ Hid (r.data.toList = Seg.bytesB (plainE ps)) ∧ Below w.heap.size w w' := by
  rcases cellsNil hc.1 with ⟨h0, a0, c0, rfl⟩ | ⟨b, o, c, rfl⟩
  · have hN := List.eq_nil_of_length_eq_zero h0
    have HROW := Lib.hid (show Cells w (.slice none 0 0) 1 ((plainE ps).map Seg.member).length (strCells ((plainE ps).map Seg.member)) by
      rw [hN]; exact ⟨rfl, .inl ⟨rfl, _, _, rfl⟩⟩)
    have hbw := Below.refl w.heap.size w
    clear h0 hN
    go_enter Tryz.func41, Tryz.ntmps41
    go_wp2
    go_loopw [6, 15] (fun rv lv wr => rv = .slice none 0 0 ∧ lv = .int .i64 0 ∧ wr = w) (fun _ _ _ => 0)
    case atStart => exact ⟨rfl, rfl, rfl⟩
    case round =>
      obtain ⟨rfl, rfl, rfl⟩ := hrel
      go_wp2_with fail
      refine (numPutS first _).mono ?_
      rintro e w1 ⟨A, rfl, ha, hA6, b1⟩
      obtain ⟨B, _, fB, tB⟩ := str_of (([115] : List UInt8) ++ A.data.toList)
      have hA := Lib.hid (show B.data.toList = Seg.headP first by rw [fB, ha.out]; rfl)
      have a1 : ∀ w, (Op.stringOp .add ⟨#[115]⟩ A).run Tryz.prog w = .ok (.string B) w := fun w => add_lists w _ _ _ (by have : (⟨#[115]⟩ : ByteArray).size = 1 := rfl; omega) fB.symm
      have hB8 : B.size ≤ 8 := by rw [tB, List.length_append, ← Lib.size_eq]; simp; omega
      have hb1 := Below.up hbw (Nat.le_refl _) b1
      have hr1 := Cells.next HROW.out b1
      clear fB tB b1
      go_wp2_with fail
      refine (framePut_any B _ (by omega)).mono ?_
      rintro e w2 ⟨F, cF, rfl, hF, _, b2⟩
      have hb2 := Below.up hb1 (Nat.le_refl _) b2
      have hr2 := Cells.next hr1 b2
      have HF := Lib.hid (show F.data.toList = Seg.bytesH first by
        have h := hF.out
        rw [hA.out, Frm.put_good (Seg.headP_good first)] at h
        exact (congrArg Prod.fst h).symm)
      clear b2 hF hr1
      have HR := Lib.hid (row_any _ ((plainE ps).map Seg.member) w2 hr2 (by simpa [plainE] using hn) (fun p hp => by obtain ⟨e, _, rfl⟩ := List.mem_map.1 hp; exact Seg.member_good e))
      clear hr2
      go_wp2_with fail
      refine HR.out.mono ?_
      rintro e w3 ⟨R, rfl, hR, b3⟩
      have hb3 := Below.up hb2 (Nat.le_refl _) b3
      go_wp2
      go_ret2
      exact ⟨F, R, rfl, HF, hR, hb3⟩

  · have HC := Lib.hid hc
    clear hc
    go_enter Tryz.func41, Tryz.ntmps41
    go_wp2
    go_loopw [6, 15] (fun rv lv wr => ∃ (i : Nat), lv = .int .i64 i ∧ i ≤ ps.length ∧ Below w.heap.size w wr ∧ Env wr ∧ wr.ownsRow w.heap.size 9 1 rv i (strCells ((plainE (ps.take i)).map Seg.member))) (fun _ lv _ => ps.length - (intOf lv).toNat)
    case atStart => exact ⟨0, rfl, by omega, Below.refl _ _, hE, World.ownsRow_nil _ _ _ _⟩
    case round =>
      obtain ⟨i, rfl, hi, hbw, hEr, hown⟩ := hrel
      by_cases hp : i < ps.length
      · obtain ⟨b', o', c', p, ep, S, ex, se, sq, sa, sl, sc, es, hv, k0, k1, k2, k3, k4, k5, k6, hev, hS, hsm, hes, hpe, _⟩ := enAt HC.out i hp
        cases hv
        have k0 := cell_kept hbw (Nat.le_refl _) k0
        have k1 := cell_kept hbw (Nat.le_refl _) k1
        have k2 := cell_kept hbw (Nat.le_refl _) k2
        have k3 := cell_kept hbw (Nat.le_refl _) k3
        have k4 := cell_kept hbw (Nat.le_refl _) k4
        have k5 := cell_kept hbw (Nat.le_refl _) k5
        have k6 := cell_kept hbw (Nat.le_refl _) k6
        have hev1 := Cells.next hev hbw
        have hb1 : Below w.heap.size w (wr.alloc (.cells #[.int .i64 p, .int .i64 ep, .string S, .int .i64 ex, .int .i64 se, .int .i64 sq, .slice sa sl sc] 38)) := hbw.alloc hbw.size _
        have hb01 := (Below.refl _ wr).alloc (Nat.le_refl _) (.cells #[.int .i64 p, .int .i64 ep, .string S, .int .i64 ex, .int .i64 se, .int .i64 sq, .slice sa sl sc] 38)
        have hE1 := hEr.next hb01
        have hev2 := Cells.next hev1 hb01
        have hown1 := owns_next hown hb01
        have HRP := Lib.hid (recPut_any p ep S ex se sq _ es _ hE1 hS hev2 hes hsm)
        clear hb01 hown hev1
        go_wp2_with fail
        refine HRP.out.mono ?_
        rintro e w2 ⟨A, rfl, hA, b2⟩
        have hb2 := Below.up hb1 (Nat.le_refl _) b2
        have hE2 := hE1.next b2
        have hown2 := owns_next hown1 b2
        have hbs2 := hb2.size
        obtain ⟨B, hB0, fB, tB⟩ := str_of (([101] : List UInt8) ++ A.data.toList)
        have HB := Lib.hid (show B.data.toList = Seg.member ps[i].1 by rw [fB, hA.out, hpe.out]; rfl)
        have hA8 : A.size ≤ 3012 := by
          have := Evt.put_len ⟨p, ep, ⟨S.data.toList, ex, se, sq, es⟩⟩
          rw [Lib.size_eq, hA.out]; omega
        have a1 : ∀ w, (Op.stringOp .add ⟨#[101]⟩ A).run Tryz.prog w = .ok (.string B) w := fun w => add_lists w _ _ _ (by have : (⟨#[101]⟩ : ByteArray).size = 1 := rfl; omega) fB.symm
        clear fB tB hB0 hA8 HRP b2 hown1 hb1 k0 k1 k2 k3 k4 k5 k6 hev hev2
        go_wp2_with (at_builtin; refine wpList_append_new rfl _ _ _ rfl strT rfl hown2 hb2 hbs2 _ _ rfl rfl (by simp [Value.oneCell']) (by omega) ?_)
        intro v' w3 hown3 hg3 hb3 hs3
        have hE3 := hE.next hb3
        have HO := Lib.hid (show w3.ownsRow w.heap.size 9 1 v' (i + 1) (strCells ((plainE (ps.take (i + 1))).map Seg.member)) by
          rw [plainE_take_succ ps i hp, List.map_append, List.map_cons, List.map_nil, ← HB.out, strCells, List.map_append]
          exact hown3)
        clear hown2 hown3 hg3 hb2 hE2 hE1 hEr hbw
        go_wp2
        exact ⟨⟨i + 1, by go_num, by omega, hb3, hE3, HO.out⟩, by simp [intOf]; omega⟩
      · have HROW := Lib.hid (cells_of_owns (show wr.ownsRow w.heap.size 9 1 _ _ (strCells ((plainE ps).map Seg.member)) by
          have e : ps.take i = ps := List.take_of_length_le (by omega)
          rw [e] at hown; exact hown))
        have hlen : i = ((plainE ps).map Seg.member).length := by simp [plainE]; omega
        have HROW := Lib.hid (show Cells wr _ 1 ((plainE ps).map Seg.member).length (strCells ((plainE ps).map Seg.member)) by rw [← hlen]; exact HROW.out)
        clear hlen hown
        go_wp2_with fail
        refine (numPutS first _).mono ?_
        rintro e w1 ⟨A, rfl, ha, hA6, b1⟩
        obtain ⟨B, _, fB, tB⟩ := str_of (([115] : List UInt8) ++ A.data.toList)
        have hA := Lib.hid (show B.data.toList = Seg.headP first by rw [fB, ha.out]; rfl)
        have a1 : ∀ w, (Op.stringOp .add ⟨#[115]⟩ A).run Tryz.prog w = .ok (.string B) w := fun w => add_lists w _ _ _ (by have : (⟨#[115]⟩ : ByteArray).size = 1 := rfl; omega) fB.symm
        have hB8 : B.size ≤ 8 := by rw [tB, List.length_append, ← Lib.size_eq]; simp; omega
        have hb1 := Below.up hbw (Nat.le_refl _) b1
        have hr1 := Cells.next HROW.out b1
        clear fB tB b1
        go_wp2_with fail
        refine (framePut_any B _ (by omega)).mono ?_
        rintro e w2 ⟨F, cF, rfl, hF, _, b2⟩
        have hb2 := Below.up hb1 (Nat.le_refl _) b2
        have hr2 := Cells.next hr1 b2
        have HF := Lib.hid (show F.data.toList = Seg.bytesH first by
          have h := hF.out
          rw [hA.out, Frm.put_good (Seg.headP_good first)] at h
          exact (congrArg Prod.fst h).symm)
        clear b2 hF hr1
        have HR := Lib.hid (row_any _ ((plainE ps).map Seg.member) w2 hr2 (by simpa [plainE] using hn) (fun p hp => by obtain ⟨e, _, rfl⟩ := List.mem_map.1 hp; exact Seg.member_good e))
        clear hr2
        go_wp2_with fail
        refine HR.out.mono ?_
        rintro e w3 ⟨R, rfl, hR, b3⟩
        have hb3 := Below.up hb2 (Nat.le_refl _) b3
        go_wp2
        go_ret2
        exact ⟨F, R, rfl, HF, hR, hb3⟩

end Go.Proofs.YthmblkckpdpjkaaGreatDoor
