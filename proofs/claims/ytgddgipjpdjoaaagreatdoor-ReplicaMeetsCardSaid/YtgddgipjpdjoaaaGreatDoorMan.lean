/-
  The walks of manifest (layer 10): Right, write, Save, Load (of what is right).
-/
import Derived.Test.YtgddgipjpdjoaaaGreatDoorAt
import Derived.Test.YtgddgipjpdjoaaaGreatDoorManP
namespace Go.Proofs.YtgddgipjpdjoaaaGreatDoor
open Go.RowKit Go.Shelf
theorem intAt {w : World} {v : Value} {l : List Int} (h : Cells w v 1 l.length (intCells l)) (i : Nat) (hi : i < l.length) :
   ∃ b o c, v = .slice (some ⟨b, o, none⟩) l.length c ∧ w.cell? ⟨b, o + i, none⟩ = some (.int .i64 l[i]) := by
 rcases h.2 with ⟨h0, _⟩ | ⟨b, o, c, h1, h2⟩
 · omega
 · exact ⟨b, o, c, h1, h2 i _ (by simp [intCells, List.getElem?_eq_getElem hi])⟩
theorem cells_slice {w : World} {v : Value} {sz n : Nat} {xs : List Value} (h : Cells w v sz n xs) : ∃ va vc, v = .slice va n vc := by
 rcases cellsNil h with ⟨h0, a, c, rfl⟩ | ⟨b, o, c, rfl⟩
 · exact ⟨a, c, by rw [h0]⟩
 · exact ⟨_, _, rfl⟩
theorem Man.lastF_go {m n : Int} {l : List Int} (h : ¬ n ≤ m) : Man.lastF m (n :: l) = Man.lastF n l := by rw [Man.lastF, if_neg h]
theorem Man.lastF_stop {m n : Int} {l : List Int} (h : n ≤ m) : Man.lastF m (n :: l) = none := by rw [Man.lastF, if_pos h]
theorem Man.right_none {next : Int} {l : List Int} (h : Man.lastF 0 l = none) : Man.right next l = false := by unfold Man.right; rw [h]
theorem Man.right_some {next m : Int} {l : List Int} (h : Man.lastF 0 l = some m) : Man.right next l = (decide (m < next) && decide (next ≤ 1073741824) && decide (l.length ≤ 30)) := by unfold Man.right; rw [h]
theorem Man.right_of {next m : Int} {l : List Int} {a b c r : Bool} (h : Man.lastF 0 l = some m) (ha : decide (m < next) = a) (hb : decide (next ≤ 1073741824) = b) (hc : decide (l.length ≤ 30) = c) (hr : (a && b && c) = r) : Man.right next l = r := by
 rw [Man.right_some h, ha, hb, hc, hr]
set_option maxHeartbeats 2000000 in
theorem manRight_any (next : Int) (v : Value) (segs : List Int) (w : World) (hc : Cells w v 1 segs.length (intCells segs)) (hn : segs.length ≤ 1000000) :
   Calls Tryz.prog 138 #[.agg #[.int .i64 next, v]] w fun e w' => e = .returned (.bool (Man.right next segs)) ∧ Below w.heap.size w w' := by
 obtain ⟨va, vc, rfl⟩ := cells_slice hc
 obtain ⟨W, hW⟩ : ∃ W, W = w.alloc (.cells #[.int .i64 next, .slice va segs.length vc] 157) := ⟨_, rfl⟩
 have sb : W.heap[w.heap.size]? = some (.cells #[.int .i64 next, .slice va segs.length vc] 157 (0, 0)) := by rw [hW]; exact heap_alloc_new w _
 have hb : Below w.heap.size w W := by rw [hW]; exact (Below.refl _ w).alloc (Nat.le_refl _) _
 have HC := Lib.hid (hc.next hb)
 have HB := Lib.hid hb
 have HW := Lib.hid hW
 have m0 : W.cell? ⟨w.heap.size, 0, none⟩ = some (.int .i64 next) := by rw [Lib.cell_of_heap sb]; rfl
 have m1 : W.cell? ⟨w.heap.size, 1, none⟩ = some (.slice va segs.length vc) := by rw [Lib.cell_of_heap sb]; rfl
 clear hc hb hW sb
 go_enter Tryz.func138, Tryz.ntmps138
 go_wp2
 rw [← HW.out]
 go_loopw [3, 9] (fun la lv wr => ∃ (i : Nat) (m : Int), la = .int .i64 m ∧ lv = .int .i64 i ∧ i ≤ segs.length ∧ wr = W ∧ Hid (Man.lastF 0 segs = Man.lastF m (segs.drop i))) (fun _ lv _ => segs.length - (intOf lv).toNat)
 case atStart => exact ⟨0, 0, rfl, rfl, by omega, rfl, Lib.hid rfl⟩
 case round =>
   obtain ⟨i, m, rfl, rfl, hi, rfl, HL⟩ := hrel
   by_cases hp : i < segs.length
   · obtain ⟨b, o, c, hv, k0⟩ := intAt HC.out i hp
     cases hv
     obtain ⟨x, hx⟩ : ∃ x, segs[i] = x := ⟨_, rfl⟩
     have hd : segs.drop i = x :: segs.drop (i + 1) := by rw [← hx]; exact List.drop_eq_getElem_cons hp
     rw [hx] at k0
     by_cases hle : x ≤ m
     · have HR := Lib.hid (Man.right_none (next := next) (show Man.lastF 0 segs = none by rw [HL.out, hd, Man.lastF_stop hle]))
       clear hx hd HL
       go_wp2
       go_ret
       exact ⟨by rw [HR.out]; rfl, HB.out⟩
     · have HN := Lib.hid (show Man.lastF 0 segs = Man.lastF x (segs.drop (i + 1)) by rw [HL.out, hd, Man.lastF_go hle])
       clear hx hd HL
       go_wp2
       exact ⟨⟨i + 1, x, rfl, by go_num, by omega, trivial, HN⟩, by simp [intOf]; omega⟩
   · have HS := Lib.hid (show Man.lastF 0 segs = some m by rw [HL.out, List.drop_eq_nil_of_le (by omega)]; rfl)
     clear HL
     by_cases h1 : m < next
     · by_cases h2 : next ≤ 1073741824
       · by_cases h3 : segs.length ≤ 30
         · have HR := Lib.hid (Man.right_of HS.out (decide_eq_true h1) (decide_eq_true h2) (decide_eq_true h3) rfl)
           have h3' : (segs.length : Int) ≤ 30 := by omega
           clear HS
           go_wp2
           go_ret
           exact ⟨by rw [HR.out]; rfl, HB.out⟩
         · have HR := Lib.hid (Man.right_of HS.out (decide_eq_true h1) (decide_eq_true h2) (decide_eq_false h3) rfl)
           have h3' : ¬ (segs.length : Int) ≤ 30 := by omega
           clear HS
           go_wp2
           go_ret
           exact ⟨by rw [HR.out]; rfl, HB.out⟩
       · have HR := Lib.hid (Man.right_of (r := false) HS.out (decide_eq_true h1) (decide_eq_false h2) rfl (by simp))
         clear HS
         go_wp2
         go_ret
         exact ⟨by rw [HR.out]; rfl, HB.out⟩
     · have HR := Lib.hid (Man.right_of (r := false) HS.out (decide_eq_false h1) rfl rfl (by simp))
       clear HS
       go_wp2
       go_ret
       exact ⟨by rw [HR.out]; rfl, HB.out⟩
set_option maxHeartbeats 4000000 in
theorem manWrite_any (a : World) (d : Nat) (room : Int) (fs : List Dk.File) (ft : Nat → Prop) (nm s : ByteArray) (w : World) (hA : Base a w ft) (h : IsDisk w d room fs ft) (hn : nm.size ≤ 1000000000) (hs : s.size ≤ 1000000000000) :
   Calls Tryz.prog 93 #[.pointer (some ⟨d, 0, none⟩), .string nm, .string s] w fun e w' => e = .returned (.int .i64 ((Man.writeM room nm.data.toList s fs).2 : Nat)) ∧ DStep d room (Man.writeM room nm.data.toList s fs).1 ft w w' := by
 have HDL := Lib.hid (diskDelete_any d room fs ft ⟨#[116, 101, 109, 112]⟩ w h (by decide))
 have HA := Lib.hid hA
 obtain ⟨F1, hF1⟩ : ∃ F1, (Dk.delete Seg.temp fs).1 = F1 := ⟨_, rfl⟩
 obtain ⟨⟨F2, c2⟩, hF2⟩ : ∃ P, Dk.append room Seg.temp s F1 = P := ⟨_, rfl⟩
 have HC := Lib.hid (show Man.writeM room nm.data.toList s fs = if c2 = 0 then Dk.rename Seg.temp nm.data.toList (Dk.sync Seg.temp F2).1 else ((Dk.delete Seg.temp F2).1, c2) by rw [Man.writeM, hF1, hF2])
 clear hA h
 go_enter Tryz.func93, Tryz.ntmps93
 go_wp2_with fail
 refine HDL.out.mono ?_
 rintro e w1 ⟨rfl, ft1, hd1, hf1, ht1⟩
 rw [show (Dk.delete (⟨#[116, 101, 109, 112]⟩ : ByteArray).data.toList fs).1 = F1 from hF1] at hd1
 have HA1 := Lib.hid (HA.out.turn ht1 hf1)
 have HT1 := Lib.hid (And.intro ht1 hf1)
 have HAP := Lib.hid (diskAppend_any d room F1 ft1 ⟨#[116, 101, 109, 112]⟩ s w1 HA1.out.envW hd1 (by decide) hs)
 clear HDL hd1 hf1 ht1
 go_wp2_with fail
 refine HAP.out.mono ?_
 rintro e w2 ⟨rfl, ft2, hd2, hf2, ht2⟩
 rw [show Dk.append room (⟨#[116, 101, 109, 112]⟩ : ByteArray).data.toList s F1 = (F2, c2) from hF2] at hd2 ⊢
 have HA2 := Lib.hid (HA1.out.turn ht2 hf2)
 have HT2 := Lib.hid (And.intro ht2 hf2)
 clear hF1 hF2 HAP
 simp only at hd2 ⊢
 by_cases h0 : c2 = 0
 · subst h0
   have HC := Lib.hid (HC.out.trans (if_pos rfl))
   have HS := Lib.hid (diskSync_any d room F2 ft2 ⟨#[116, 101, 109, 112]⟩ w2 hd2 (by decide))
   clear hd2 hf2 ht2
   go_wp2_with fail
   refine HS.out.mono ?_
   rintro e w3 ⟨rfl, ft3, hd3, hf3, ht3⟩
   have HA3 := Lib.hid (HA2.out.turn ht3 hf3)
   have HT3 := Lib.hid (And.intro ht3 hf3)
   have HR := Lib.hid (diskRename_any d room _ ft3 ⟨#[116, 101, 109, 112]⟩ nm w3 HA3.out.envW hd3 (by decide) hn)
   clear hd3 hf3 ht3 HS
   go_wp2_with fail
   refine HR.out.mono ?_
   rintro e w4 ⟨rfl, hds⟩
   have HD := Lib.hid (DStep.trans HT1.out.1 HT1.out.2 (DStep.trans HT2.out.1 HT2.out.2 (DStep.trans HT3.out.1 HT3.out.2 hds)))
   clear hds HR
   go_wp2
   go_ret
   exact ⟨by rw [HC.out]; rfl, by rw [HC.out]; exact HD.out⟩
 · have HC := Lib.hid (HC.out.trans (if_neg h0))
   have hc0 : ((c2 : Int) != 0) = true := by rw [bne_iff_ne]; omega
   have HS := Lib.hid (diskDelete_any d room F2 ft2 ⟨#[116, 101, 109, 112]⟩ w2 hd2 (by decide))
   clear hd2 hf2 ht2 h0
   go_wp2_with fail
   refine HS.out.mono ?_
   rintro e w3 ⟨rfl, hds⟩
   have HD := Lib.hid (DStep.trans HT1.out.1 HT1.out.2 (DStep.trans HT2.out.1 HT2.out.2 hds))
   clear hds HS
   go_wp2
   go_ret
   exact ⟨by rw [HC.out]; rfl, by rw [HC.out]; exact HD.out⟩
theorem savePut_any (B b : Nat) (l : List UInt8) (n : Int) (w : World) (h : Bld B b l w) (hl : l.length ≤ 1000000) (hB : B ≤ w.heap.size) :
   Calls Tryz.prog 141 #[.int .i64 n, .pointer (some ⟨b, 0, none⟩)] w fun e w' => e = .returned (.tuple #[]) ∧ Bld B b (l ++ Num.put (Num.held n)) w' ∧ Below B w w' := by
 have HP := Lib.hid (numPut_any n w)
 have HB := Lib.hid h
 have hp6 := Num.put_le6 _ (Num.held_le n)
 obtain ⟨S, hS⟩ : ∃ S : ByteArray, S = ⟨(Num.put (Num.held n)).toArray⟩ := ⟨_, rfl⟩
 have hSl : S.data.toList = Num.put (Num.held n) := by rw [hS]
 have hSs : S.size ≤ 6 := by rw [Lib.size_eq, hSl]; exact hp6
 rw [← hS] at HP
 rw [← hSl]
 clear h hS hSl hp6
 go_enter Tryz.func141, Tryz.ntmps141
 go_wp2_with fail
 refine HP.out.mono ?_
 rintro e w1 ⟨rfl, b1⟩
 have HW := Lib.hid (writeString B b l S w1 (HB.out.next b1) (by omega) (Nat.le_trans hB b1.size))
 have HB1 := Lib.hid (b1.mono hB)
 clear HP b1
 go_wp2_with fail
 refine HW.out.mono ?_
 rintro e w2 ⟨rfl, h2, h3, _⟩
 have HX := Lib.hid (And.intro h2 (HB1.out.trans h3))
 clear h2 h3 HW
 go_wp2
 go_end0
 exact ⟨rfl, HX.out.1, HX.out.2⟩
def Man.accM (next : Int) (segs : List Int) (i : Nat) : List UInt8 := Num.put (Num.held next) ++ (Num.put (Num.held segs.length) ++ (segs.take i).flatMap fun n => Num.put (Num.held n))
theorem Man.accM_next {next : Int} {segs : List Int} {i : Nat} {x : Int} (hi : i < segs.length) (hx : segs[i] = x) : Man.accM next segs i ++ Num.put (Num.held x) = Man.accM next segs (i + 1) := by
 subst hx
 unfold Man.accM
 rw [List.take_succ_eq_append_getElem hi, List.flatMap_append]
 simp [List.append_assoc]
theorem Man.accM_len (next : Int) (segs : List Int) (i : Nat) (hn : segs.length ≤ 30) : (Man.accM next segs i).length ≤ 200 := by
 have h := (Man.body_len next (segs.take i)).1
 have h2 := Num.put_le6 _ (Num.held_le segs.length)
 have h3 := Num.put_le6 _ (Num.held_le (segs.take i).length)
 have h5 : (segs.take i).length ≤ segs.length := (by rw [List.length_take]; omega)
 have h6 : ∀ x, (Num.put x).length ≥ 1 := fun x => List.length_pos_iff.2 (Num.put_ne x)
 have := h6 (Num.held (segs.take i).length)
 unfold Man.body at h
 simp only [List.length_append] at h
 simp only [Man.accM, List.length_append]
 omega
theorem Man.accM_all (next : Int) (segs : List Int) : Man.accM next segs segs.length = Man.body next segs := by unfold Man.accM Man.body; rw [List.take_length]
theorem Man.framed_body {next : Int} {segs : List Int} (hn : segs.length ≤ 30) {r : ByteArray} {c : Nat} (h : Frm.put (Man.body next segs) = (r.data.toList, c)) : r = Man.bytes next segs := by
 obtain ⟨h1, h2⟩ := Man.body_len next segs
 unfold Frm.put at h
 rw [if_neg h2, if_neg (by omega)] at h
 have := (Prod.mk.inj h).1
 exact ba_eq this.symm
theorem Man.right_le {next : Int} {segs : List Int} (h : Man.right next segs = true) : segs.length ≤ 30 := (Man.right_mem h).2.2.1
set_option maxHeartbeats 4000000 in
theorem manSave_any (a : World) (d : Nat) (room next : Int) (v : Value) (segs : List Int) (fs : List Dk.File) (ft : Nat → Prop) (w : World) (hA : Base a w ft) (h : IsDisk w d room fs ft) (hc : Cells w v 1 segs.length (intCells segs)) (hn : segs.length ≤ 1000000) :
   Calls Tryz.prog 77 #[.pointer (some ⟨d, 0, none⟩), .agg #[.int .i64 next, v]] w fun e w' => e = .returned (.int .i64 ((Man.save room next segs fs).2 : Nat)) ∧ DStep d room (Man.save room next segs fs).1 ft w w' := by
 obtain ⟨va, vc, rfl⟩ := cells_slice hc
 obtain ⟨W, hW⟩ : ∃ W, W = w.alloc (.cells #[.int .i64 next, .slice va segs.length vc] 157) := ⟨_, rfl⟩
 have sb : W.heap[w.heap.size]? = some (.cells #[.int .i64 next, .slice va segs.length vc] 157 (0, 0)) := by rw [hW]; exact heap_alloc_new w _
 have hb : Below w.heap.size w W := by rw [hW]; exact (Below.refl _ w).alloc (Nat.le_refl _) _
 have HC := Lib.hid (hc.next hb)
 have HB := Lib.hid hb
 have HW := Lib.hid hW
 have HWs := Lib.hid (show W.heap.size = w.heap.size + 1 by rw [hW]; simp)
 have HA := Lib.hid hA
 have HD := Lib.hid h
 have m0 : W.cell? ⟨w.heap.size, 0, none⟩ = some (.int .i64 next) := by rw [Lib.cell_of_heap sb]; rfl
 have m1 : W.cell? ⟨w.heap.size, 1, none⟩ = some (.slice va segs.length vc) := by rw [Lib.cell_of_heap sb]; rfl
 have HR := Lib.hid (manRight_any next (.slice va segs.length vc) segs W HC.out hn)
 clear hA h hc hb hW sb
 go_enter Tryz.func77, Tryz.ntmps77
 go_wp2_with fail
 rw [← HW.out]
 refine HR.out.mono ?_
 rintro e w1 ⟨rfl, b1⟩
 cases hr : Man.right next segs with
 | false =>
   have HN := Lib.hid (show Man.save room next segs fs = (fs, 1) by rw [Man.save, hr]; rfl)
   have HB1 := Lib.hid (Below.up HB.out (Nat.le_refl _) b1)
   clear hr b1 HR
   go_wp2
   go_ret
   exact ⟨by rw [HN.out]; rfl, by rw [HN.out]; exact DStep.of_below HD.out HB1.out⟩
 | true =>
   have HN := Lib.hid (show Man.save room next segs fs = Man.writeM room Man.file (Man.bytes next segs) fs by rw [Man.save, hr]; rfl)
   have h30 := Man.right_le hr
   have hb1 := Below.up HB.out (Nat.le_refl _) b1
   have hlt : w.heap.size < w1.heap.size := by have h1 := b1.size; have h2 := HWs.out; omega
   have n0 := cell_kept b1 (Nat.le_refl _) m0
   have n1 := cell_kept b1 (Nat.le_refl _) m1
   have hC1 := HC.out.next b1
   obtain ⟨W2, hW2⟩ : ∃ W2, W2 = w1.alloc (.cells #[.pointer none, .slice none 0 0] 268) := ⟨_, rfl⟩
   have hbl : Bld w1.heap.size w1.heap.size [] W2 := by rw [hW2]; exact bld_fresh w1
   have hb2 : Below w1.heap.size w1 W2 := by rw [hW2]; exact (Below.refl _ w1).alloc (Nat.le_refl _) _
   have HW2 := Lib.hid hW2
   have HP1 := Lib.hid (savePut_any w1.heap.size w1.heap.size [] next W2 hbl (by simp) hb2.size)
   have hbL := (Below.refl _ w1).alloc (Nat.le_refl _) (.cells #[.pointer none, .slice none 0 0] 268)
   have n0L := cell_kept hbL (Nat.le_refl _) n0
   have n0' := cell_kept hb2 (Nat.le_refl _) n0
   have n1' := cell_kept hb2 (Nat.le_refl _) n1
   have HB1 := Lib.hid hb1
   have HB2 := Lib.hid hb2
   have HC1 := Lib.hid hC1
   clear hr b1 HR hW2 hbl hb1 hb2 hC1 m0 m1 n0 n1 hbL
   go_wp2_with fail
   rw [← HW2.out]
   refine HP1.out.mono ?_
   rintro e w3 ⟨rfl, hl3, b3⟩
   have HP2 := Lib.hid (savePut_any w1.heap.size w1.heap.size _ segs.length w3 hl3 (by have := Num.put_le6 _ (Num.held_le next); simp; omega) (Nat.le_trans HB2.out.size b3.size))
   have hB3 := HB2.out.trans b3
   have q0 : w3.cell? ⟨w.heap.size, 0, none⟩ = some (.int .i64 next) := (b3.cell (p := ⟨w.heap.size, 0, none⟩) hlt).trans n0'
   have q1 : w3.cell? ⟨w.heap.size, 1, none⟩ = some (.slice va segs.length vc) := (b3.cell (p := ⟨w.heap.size, 1, none⟩) hlt).trans n1'
   have HB3 := Lib.hid hB3
   clear HP1 hl3 b3 n0' n1' hB3
   go_wp2_with fail
   refine HP2.out.mono ?_
   rintro e w4 ⟨rfl, hl4, b4⟩
   have hB4 := HB3.out.trans b4
   have r1 : w4.cell? ⟨w.heap.size, 1, none⟩ = some (.slice va segs.length vc) := (b4.cell (p := ⟨w.heap.size, 1, none⟩) hlt).trans q1
   have HL4 := Lib.hid (show Bld w1.heap.size w1.heap.size (Man.accM next segs 0) w4 by simpa [Man.accM] using hl4)
   have HB4 := Lib.hid hB4
   clear HP2 hl4 b4 q0 q1 hB4
   go_wp2
   go_loopw [27] (fun lv wr => ∃ i : Nat, lv = .int .i64 i ∧ i ≤ segs.length ∧ Bld w1.heap.size w1.heap.size (Man.accM next segs i) wr ∧ Below w1.heap.size w1 wr) (fun lv _ => segs.length - (intOf lv).toNat)
   case atStart => exact ⟨0, rfl, by omega, HL4.out, HB4.out⟩
   case round =>
     obtain ⟨i, rfl, hi, hl, hbw⟩ := hrel
     have HLi := Lib.hid hl
     have HBi := Lib.hid hbw
     clear hl hbw
     by_cases hp : i < segs.length
     · obtain ⟨b, o, c, hv, k0⟩ := intAt HC1.out i hp
       cases hv
       have k0 := cell_kept HBi.out (Nat.le_refl _) k0
       obtain ⟨x, hx⟩ : ∃ x, segs[i] = x := ⟨_, rfl⟩
       rw [hx] at k0
       have HX := Lib.hid (Man.accM_next hp hx (next := next))
       have HPi := Lib.hid (savePut_any w1.heap.size w1.heap.size _ x wr HLi.out (by have := Man.accM_len next segs i h30; omega) HBi.out.size)
       clear hx
       go_wp2_with fail
       refine HPi.out.mono ?_
       rintro e w5 ⟨rfl, hl5, b5⟩
       rw [HX.out] at hl5
       have HY := Lib.hid (And.intro hl5 (HBi.out.trans b5))
       clear hl5 b5 HPi
       go_wp2
       exact ⟨⟨i + 1, by go_num, by omega, HY.out.1, HY.out.2⟩, by simp [intOf]; omega⟩
     · obtain rfl : i = segs.length := by omega
       have HS := Lib.hid (bldString w1.heap.size w1.heap.size _ wr HLi.out HBi.out.size)
       obtain ⟨SB, hSB⟩ : ∃ SB : ByteArray, SB = ⟨(Man.accM next segs segs.length).toArray⟩ := ⟨_, rfl⟩
       have hSBl : SB.data.toList = Man.body next segs := by rw [hSB]; exact Man.accM_all next segs
       have hSs : SB.size ≤ 1000 := by have := Man.accM_len next segs segs.length h30; rw [Man.accM_all] at this; rw [Lib.size_eq, hSBl]; omega
       rw [← hSB] at HS
       have HSL := Lib.hid hSBl
       clear hSB hSBl
       go_wp2_with fail
       refine HS.out.mono ?_
       rintro e w5 ⟨rfl, b5⟩
       have HF := Lib.hid (framePut_any SB w5 (by omega))
       have HB5 := Lib.hid (HBi.out.trans b5)
       clear HS b5
       go_wp2_with fail
       refine HF.out.mono ?_
       rintro e w6 ⟨r, c, rfl, hF, hr8, b6⟩
       have HRB := Lib.hid (Man.framed_body h30 (by rw [← HSL.out]; exact hF.out))
       have hB6 : Below w.heap.size w w6 := (HB1.out.trans (HB5.out.mono (by have := HB1.out.size; exact this))).trans (b6.mono (Nat.le_trans HB1.out.size HB5.out.size))
       have HWR := Lib.hid (manWrite_any a d room fs ft ⟨#[109, 97, 110, 105, 102, 101, 115, 116]⟩ r w6 (HA.out.next hB6) (HD.out.next hB6) (by decide) (by omega))
       have HB6 := Lib.hid hB6
       clear HF hF b6 hB6
       go_wp2_with fail
       refine HWR.out.mono ?_
       rintro e w7 ⟨rfl, hds⟩
       have HDS := Lib.hid (DStep.under HB6.out hds)
       have HEQ := Lib.hid (show Man.writeM room (⟨#[109, 97, 110, 105, 102, 101, 115, 116]⟩ : ByteArray).data.toList r fs = Man.save room next segs fs by rw [HN.out, HRB.out]; rfl)
       clear hds HWR
       rw [HEQ.out] at HDS ⊢
       go_wp2
       go_ret
       exact ⟨rfl, HDS.out⟩
theorem Man.tks_zero {n : Nat} {l : List UInt8} {xs : List Int} {st : List UInt8 × Nat} : ∀ {c : Nat}, c ≠ 0 → Man.tks n (l, c) = (xs, st) → st.2 ≠ 0 := by
 intro c hc h
 cases n with
 | zero => rw [Man.tks] at h; cases h; exact hc
 | succ n => rw [Man.tks, if_pos hc] at h; cases h; exact hc
theorem Man.tks_one {n : Nat} {l : List UInt8} {xs : List Int} {st : List UInt8 × Nat} (h : Man.tks (n + 1) (l, 0) = (xs, st)) (h0 : st.2 = 0) : ∃ k r ys, Num.take l = (k, r, 0) ∧ xs = (k : Int) :: ys ∧ Man.tks n (r, 0) = (ys, st) := by
 rw [Man.tks, if_neg (by simp)] at h
 obtain ⟨⟨k, r, c⟩, ht⟩ : ∃ t, Num.take l = t := ⟨_, rfl⟩
 have e : Man.tk (l, 0) = (k, r, c) := by unfold Man.tk; simp only; rw [ht]; simp
 rw [e] at h
 simp only [Prod.mk.injEq] at h
 by_cases hc : c = 0
 · subst hc
   exact ⟨k, r, (Man.tks n (r, 0)).1, ht, h.1.symm, Prod.ext rfl h.2⟩
 · have := Man.tks_zero (n := n) (l := r) (xs := (Man.tks n (r, c)).1) (st := st) hc (Prod.ext rfl h.2)
   exact absurd h0 this
theorem Man.tks_len : ∀ {n : Nat} {l : List UInt8} {xs : List Int} {st : List UInt8 × Nat}, Man.tks n (l, 0) = (xs, st) → st.2 = 0 → xs.length = n
 | 0, l, xs, st, h, _ => by rw [Man.tks] at h; cases h; rfl
 | n + 1, l, xs, st, h, h0 => by
   obtain ⟨k, r, ys, _, rfl, h2⟩ := Man.tks_one h h0
   rw [List.length_cons, Man.tks_len h2 h0]
theorem Man.parse_inv {s : List UInt8} {next : Int} {segs : List Int} (h : Man.parse s = ((next, segs), 0)) :
   ∃ l0 n l1 l2, Frm.take s = (l0, [], 0) ∧ Num.take l0 = (n, l1, 0) ∧ next = (n : Int) ∧ Num.take l1 = (segs.length, l2, 0) ∧ Man.tks segs.length (l2, 0) = (segs, [], 0) ∧ Man.right next segs = true := by
 unfold Man.parse at h
 simp only at h
 split at h
 · rename_i hc
   simp only [Prod.mk.injEq, and_true] at h
   obtain ⟨h1, h2⟩ := h
   obtain ⟨c1, c2, c3, c4⟩ := hc
   obtain ⟨⟨l0, r, c⟩, hf⟩ : ∃ t, Frm.take s = t := ⟨_, rfl⟩
   rw [hf] at h1 h2 c1 c2 c3 c4
   simp only at h1 h2 c1 c2 c3 c4
   subst c3
   obtain ⟨⟨n, l1, k1⟩, hn⟩ : ∃ t, Num.take l0 = t := ⟨_, rfl⟩
   have ea : Man.tk (l0, c) = (n, l1, if c = 0 then k1 else c) := by unfold Man.tk; simp only; rw [hn]
   rw [ea] at h1 h2 c1 c2 c4
   simp only at h1 h2 c1 c2 c4
   obtain ⟨⟨m, l2, k2⟩, hm⟩ : ∃ t, Num.take l1 = t := ⟨_, rfl⟩
   have eb : Man.tk (l1, if c = 0 then k1 else c) = (m, l2, if (if c = 0 then k1 else c) = 0 then k2 else (if c = 0 then k1 else c)) := by unfold Man.tk; simp only; rw [hm]
   rw [eb] at h2 c1 c2 c4
   simp only at h2 c1 c2 c4
   obtain ⟨⟨xs, l3, k3⟩, hx⟩ : ∃ t, Man.tks m (l2, if (if c = 0 then k1 else c) = 0 then k2 else (if c = 0 then k1 else c)) = t := ⟨_, rfl⟩
   rw [hx] at h2 c1 c2 c4
   simp only at h2 c1 c2 c4
   subst c1 c2 h2
   have e2 : (if (if c = 0 then k1 else c) = 0 then k2 else (if c = 0 then k1 else c)) = 0 := by
     by_cases e : (if (if c = 0 then k1 else c) = 0 then k2 else (if c = 0 then k1 else c)) = 0
     · exact e
     · exact absurd rfl (Man.tks_zero (st := ([], 0)) e hx)
   rw [e2] at hx
   have e1 : (if c = 0 then k1 else c) = 0 := by
     by_cases e : (if c = 0 then k1 else c) = 0
     · exact e
     · rw [if_neg e] at e2; exact e2
   rw [if_pos e1] at e2
   have e0 : c = 0 := by
     by_cases e : c = 0
     · exact e
     · rw [if_neg e] at e1; exact e1
   rw [if_pos e0] at e1
   subst e0 e1 e2
   have hl := Man.tks_len hx rfl
   rw [← hl] at hx hm
   exact ⟨l0, n, l1, l2, hf, hn, h1.symm, hm, hx, by rw [← h1]; exact c4⟩
 · cases h
def StrAt (b : Nat) (S : ByteArray) (w : World) : Prop := w.heap[b]? = some (.cells #[.string S] 9 (0, 0))
def ErrAt (b : Nat) (c : Int) (w : World) : Prop := w.heap[b]? = some (.cells #[.int .i64 c] 32 (0, 0))
def ManAt (b : Nat) (next : Int) (v : Value) (w : World) : Prop := w.heap[b]? = some (.cells #[.int .i64 next, v] 157 (0, 0))
theorem ManAt.cells {b : Nat} {n : Int} {v : Value} {w : World} (h : ManAt b n v w) : w.cell? ⟨b, 0, none⟩ = some (.int .i64 n) ∧ w.cell? ⟨b, 1, none⟩ = some v ∧ w.frozen? ⟨b, 0, none⟩ = false ∧ w.frozen? ⟨b, 1, none⟩ = false := by
 refine ⟨?_, ?_, Lib.frozen_of_heap h 0, Lib.frozen_of_heap h 1⟩ <;> (rw [Lib.cell_of_heap h]; rfl)
theorem ManAt.next {b : Nat} {n : Int} {v : Value} {w w' : World} (h : ManAt b n v w) (hb : Below w.heap.size w w') : ManAt b n v w' := heap_kept hb (Nat.le_refl _) h
theorem ManAt.kept {b : Nat} {n : Int} {v : Value} {w w' : World} {r : Option Nat} (h : ManAt b n v w) (hg : w.grownBy w' r) (hr : some b ≠ r) : ManAt b n v w' := (hg.block b (Array.getElem?_eq_some_iff.1 h).1 hr).trans h
set_option maxHeartbeats 2000000 in
theorem takeM_any (bl be : Nat) (S : ByteArray) (n : Nat) (r : List UInt8) (w : World) (hne : be ≠ bl) (hl : StrAt bl S w) (he : ErrAt be 0 w) (hS : S.size ≤ 1000000000000) (hT : Num.take S.data.toList = (n, r, 0)) :
   Calls Tryz.prog 136 #[.pointer (some ⟨bl, 0, none⟩), .pointer (some ⟨be, 0, none⟩)] w fun e w' => ∃ R : ByteArray, e = .returned (.int .i64 n) ∧ Hid (R.data.toList = r) ∧ R.size ≤ S.size ∧ StrAt bl R w' ∧ ErrAt be 0 w' ∧ w.grownBy w' (some bl) := by
 have HT := Lib.hid hT
 have k0 : w.cell? ⟨bl, 0, none⟩ = some (.string S) := by rw [Lib.cell_of_heap hl]; rfl
 have HN := Lib.hid (numTake_any S w hS)
 have HL := Lib.hid hl
 have HE := Lib.hid he
 clear hl he hT
 go_enter Tryz.func136, Tryz.ntmps136
 go_wp2_with fail
 refine HN.out.mono ?_
 rintro e w1 ⟨k, R, c, rfl, hR, b1⟩
 obtain ⟨e1, e2, e3⟩ : k = n ∧ R.data.toList = r ∧ c = 0 := by have := hR.out; rw [HT.out] at this; simp only [Prod.mk.injEq] at this; exact ⟨this.1.symm, this.2.1.symm, this.2.2.symm⟩
 subst e1 e3
 have hRs : R.size ≤ S.size := by
   have h1 := (Num.take_le S.data.toList).2.1
   rw [HT.out, ← e2] at h1
   rw [Lib.size_eq, Lib.size_eq]; exact h1
 have hl1 : StrAt bl S w1 := heap_kept b1 (Nat.le_refl _) HL.out
 have he1 : ErrAt be 0 w1 := heap_kept b1 (Nat.le_refl _) HE.out
 have kl := show w1.cell? ⟨bl, 0, none⟩ = some (.string S) by rw [Lib.cell_of_heap hl1]; rfl
 have fl := Lib.frozen_of_heap hl1 0
 have fe := Lib.frozen_of_heap he1 0
 have hl2 : StrAt bl R (w1.setCell ⟨bl, 0, none⟩ (.string R)) := setCell_at (i := 0) hl1 (.string R)
 have he2 : ErrAt be 0 (w1.setCell ⟨bl, 0, none⟩ (.string R)) := (Below.heap_setCell _ _ _ be hne).trans he1
 have c2 : (w1.setCell ⟨bl, 0, none⟩ (.string R)).cell? ⟨be, 0, none⟩ = some (.int .i64 0) := by rw [Lib.cell_of_heap he2]; rfl
 have fe2 := Lib.frozen_of_heap he2 0
 have he3 : ErrAt be 0 ((w1.setCell ⟨bl, 0, none⟩ (.string R)).setCell ⟨be, 0, none⟩ (.int .i64 0)) := setCell_at (i := 0) he2 (.int .i64 0)
 have hl3 : StrAt bl R ((w1.setCell ⟨bl, 0, none⟩ (.string R)).setCell ⟨be, 0, none⟩ (.int .i64 0)) := (Below.heap_setCell _ _ _ bl (fun h => hne h.symm)).trans hl2
 have hg : w.grownBy ((w1.setCell ⟨bl, 0, none⟩ (.string R)).setCell ⟨be, 0, none⟩ (.int .i64 0)) (some bl) := by
   refine ⟨b1.os, b1.tape, b1.output, by have := b1.size; simp; omega, fun j hj hr => ?_⟩
   have hjb : j ≠ bl := fun e => hr (by rw [e])
   by_cases hje : j = be
   · rw [hje, he3, HE.out]
   · rw [Below.heap_setCell _ _ _ j hje, Below.heap_setCell _ _ _ j hjb]
     exact b1.block j hj
 have HX := Lib.hid (And.intro hl3 (And.intro he3 hg))
 have HR2 := Lib.hid e2
 clear HT HN HL HE hR b1 hl1 he1 hl2 he2 he3 hl3 hg e2
 go_wp2
 go_ret
 exact ⟨R, rfl, HR2, hRs, HX.out.1, HX.out.2.1, HX.out.2.2⟩
theorem intT : ElemT Tryz.prog 44 3 1 := by
 have h : (Tryz.prog.info? 3).map (fun i => (i.zero, i.size, i.bytes)) = some (some (.int .i64 0), 1, 8) := by kernel_rfl
 obtain ⟨i0, hi, hz0, hz1, hz2⟩ := info_parts h
 exact ⟨Tryz.underlying44, ⟨i0, _, 8, hi, hz0, hz1, hz2, rfl, by omega⟩, by omega⟩
theorem man_size : (Tryz.prog.info? 157).map (·.size) = some 2 := by kernel_rfl
theorem own_ne {w : World} {B e sz n b ty : Nat} {v : Value} {xs : List Value} {c : Array Value} {fr : Nat × Nat} (h : w.ownsRow B e sz v n xs) (hb : w.heap[b]? = some (.cells c ty fr)) (hne : ty ≠ e) : v.ownBlock ≠ some b := by
 rcases h.2 with ⟨rfl, _⟩ | ⟨g, cap, cur, rfl, _, hg, _⟩
 · simp [Value.ownBlock]
 · intro e'
   simp only [Value.ownBlock, Option.some.injEq] at e'
   subst e'
   rw [hg] at hb
   cases hb
   exact hne rfl
theorem own_kept {w w' : World} {B e sz n b ty : Nat} {v : Value} {xs : List Value} {c : Array Value} {fr : Nat × Nat} (h : w.ownsRow B e sz v n xs) (hb : w.heap[b]? = some (.cells c ty fr)) (hne : ty ≠ e) (hg : w.grownBy w' (some b)) : w'.ownsRow B e sz v n xs :=
 h.kept hg (.inr (own_ne h hb hne))
theorem cells_new1 (w : World) (e : TypeId) (c : Value) : Cells (w.alloc (.cells #[c] e)) (.slice (some ⟨w.heap.size, 0, none⟩) 1 1) 1 1 [c] := by
 refine ⟨rfl, .inr ⟨w.heap.size, 0, 1, rfl, fun j u hj => ?_⟩⟩
 match j with
 | 0 =>
   simp only [List.getElem?_cons_zero, Option.some.injEq] at hj
   subst hj
   rw [Lib.cell_of_heap (heap_alloc_new w (.cells #[c] e))]; rfl
 | j + 1 => simp at hj
theorem grown_below {w w0 w' : World} {B b : Nat} (h : Below B w w0) (hB : B ≤ w0.heap.size) (hb : B ≤ b) (hg : w0.grownBy w' (some b)) : Below B w w' := h.grown hg hB (fun k hk => by cases hk; exact hb)
structure LoadAt (w : World) (R E L M : Nat) (next : Int) (segs : List Int) (i : Nat) (S : ByteArray) (V : Value) (wr : World) : Prop where
 str : StrAt L S wr
 err : ErrAt E 0 wr
 man : ManAt M next V wr
 res : ManAt R 0 (.slice none 0 0) wr
 row : wr.ownsRow w.heap.size 3 1 V i (intCells (segs.take i))
 tks : Man.tks (segs.length - i) (S.data.toList, 0) = (segs.drop i, [], 0)
 small : S.size ≤ 1000000000000
 below : Below w.heap.size w wr
 ne : E ≠ L ∧ M ≠ L ∧ R ≠ L ∧ R ≠ M ∧ E ≠ M
 ge : w.heap.size ≤ L ∧ w.heap.size ≤ M ∧ w.heap.size ≤ R
theorem LoadAt.drew {w wr : World} {R E L M i : Nat} {next : Int} {segs : List Int} {S : ByteArray} {V : Value} (h : LoadAt w R E L M next segs i S V wr) : LoadAt w R E L M next segs i S V wr.drew :=
 ⟨h.str, h.err, h.man, h.res, h.row, h.tks, h.small, h.below.drew, h.ne, h.ge⟩
theorem LoadAt.take {w wr w' : World} {R E L M i : Nat} {next : Int} {segs : List Int} {S R' : ByteArray} {V : Value} (h : LoadAt w R E L M next segs i S V wr) (_ : StrAt L R' w') (_ : ErrAt E 0 w') (hg : wr.grownBy w' (some L)) :
   w'.ownsRow w.heap.size 3 1 V i (intCells (segs.take i)) ∧ ManAt M next V w' ∧ ManAt R 0 (.slice none 0 0) w' ∧ Below w.heap.size w w' :=
 ⟨own_kept h.row h.str (by decide) hg, (hg.block M (Array.getElem?_eq_some_iff.1 h.man).1 (by simp; exact h.ne.2.1)).trans h.man, (hg.block R (Array.getElem?_eq_some_iff.1 h.res).1 (by simp; exact h.ne.2.2.1)).trans h.res,
   grown_below h.below h.below.size h.ge.1 hg⟩
theorem LoadAt.step {w wr w' wa : World} {R E L M i : Nat} {next : Int} {segs : List Int} {S R' : ByteArray} {V v' : Value} {o : Obj} (h : LoadAt w R E L M next segs i S V wr) (hs : StrAt L R' w') (he : ErrAt E 0 w') (hg : wr.grownBy w' (some L)) (hR : R'.size ≤ S.size)
   (hown : wa.ownsRow w.heap.size 3 1 v' (i + 1) (intCells (segs.take (i + 1)))) (hga : (w'.alloc o).grownBy wa V.ownBlock) (ht : Man.tks (segs.length - (i + 1)) (R'.data.toList, 0) = (segs.drop (i + 1), [], 0)) :
   ManAt M next V wa ∧ LoadAt w R E L M next segs (i + 1) R' v' (wa.setCell ⟨M, 1, none⟩ v') := by
 obtain ⟨q1, q2, q3, q4⟩ := h.take hs he hg
 have ba : Below w'.heap.size w' (w'.alloc o) := (Below.refl _ w').alloc (Nat.le_refl _) _
 have o1 := owns_next q1 ba
 have m1 : ManAt M next V (w'.alloc o) := heap_kept ba (Nat.le_refl _) q2
 have r1 : ManAt R 0 (.slice none 0 0) (w'.alloc o) := heap_kept ba (Nat.le_refl _) q3
 have s1 : StrAt L R' (w'.alloc o) := heap_kept ba (Nat.le_refl _) hs
 have e1 : ErrAt E 0 (w'.alloc o) := heap_kept ba (Nat.le_refl _) he
 have lt : ∀ {b : Nat} {o' : Obj}, (w'.alloc o).heap[b]? = some o' → b < (w'.alloc o).heap.size := fun hh => (Array.getElem?_eq_some_iff.1 hh).1
 have m2 : ManAt M next V wa := (hga.block M (lt m1) (own_ne o1 m1 (by decide)).symm).trans m1
 have r2 : ManAt R 0 (.slice none 0 0) wa := (hga.block R (lt r1) (own_ne o1 r1 (by decide)).symm).trans r1
 have s2 : StrAt L R' wa := (hga.block L (lt s1) (own_ne o1 s1 (by decide)).symm).trans s1
 have e2 : ErrAt E 0 wa := (hga.block E (lt e1) (own_ne o1 e1 (by decide)).symm).trans e1
 have b1 : Below w.heap.size w (w'.alloc o) := q4.alloc q4.size _
 have b2 : Below w.heap.size w wa := b1.grown hga b1.size (fun k hk => (o1.lt k hk).1)
 have hg3 := grown_set wa M 1 v'
 have other : ∀ j, j ≠ M → (wa.setCell ⟨M, 1, none⟩ v').heap[j]? = wa.heap[j]? := fun j hj => Below.heap_setCell _ ⟨M, 1, none⟩ _ j hj
 refine ⟨m2, ⟨(other L h.ne.2.1.symm).trans s2, (other E h.ne.2.2.2.2).trans e2, setCell_at (i := 1) m2 v', (other R h.ne.2.2.2.1).trans r2, own_kept hown m2 (by decide) hg3, ht, Nat.le_trans hR h.small, grown_below b2 b2.size h.ge.2.1 hg3, h.ne, h.ge⟩⟩
set_option maxHeartbeats 8000000 in
set_option maxRecDepth 100000 in
theorem manLoad_any (d : Nat) (room next : Int) (segs : List Int) (fs : List Dk.File) (ft : Nat → Prop) (w : World) (h : IsDisk w d room fs ft) (hroom : room ≤ 1048576) (hl : Man.load fs = ((next, segs), 0)) :
   Calls Tryz.prog 75 #[.pointer (some ⟨d, 0, none⟩)] w fun e w' => ∃ v, e = .returned (.tuple #[.agg #[.int .i64 next, v], .int .i64 0]) ∧ Hid (w'.ownsRow w.heap.size 3 1 v segs.length (intCells segs)) ∧ Below w.heap.size w w' := by
 have hb0 : Below w.heap.size w (w.alloc (.cells #[.int .i64 0, .slice none 0 0] 157)) := (Below.refl _ _).alloc (Nat.le_refl _) _
 have hr0 : ManAt w.heap.size 0 (.slice none 0 0) (w.alloc (.cells #[.int .i64 0, .slice none 0 0] 157)) := heap_alloc_new w _
 obtain ⟨W0, hW0⟩ : ∃ W0, W0 = w.alloc (.cells #[.int .i64 0, .slice none 0 0] 157) := ⟨_, rfl⟩
 rw [← hW0] at hb0 hr0
 have hW0s : W0.heap.size = w.heap.size + 1 := by rw [hW0]; simp
 have HRD := Lib.hid (diskRead_any d room fs ft ⟨#[109, 97, 110, 105, 102, 101, 115, 116]⟩ W0 (h.next hb0) (by decide))
 obtain ⟨⟨s, c⟩, hrd⟩ : ∃ t, Dk.read Man.file fs = t := ⟨_, rfl⟩
 rw [show Dk.read (⟨#[109, 97, 110, 105, 102, 101, 115, 116]⟩ : ByteArray).data.toList fs = (s, c) from hrd] at HRD
 have hld : Man.load fs = if c = 0 then Man.parse s.data.toList else ((1, []), 0) := by rw [Man.load, hrd]
 have hss : s.size ≤ 1048576 := by
   have := read_room h hroom Man.file
   rwa [hrd] at this
 rw [hl] at hld
 have HW0 := Lib.hid hW0
 have HB0 := Lib.hid hb0
 have HR0 := Lib.hid hr0
 clear h hl hrd hb0 hr0 hW0
 go_enter Tryz.func75, Tryz.ntmps75
 go_wp2_with fail
 rw [← HW0.out]
 refine HRD.out.mono ?_
 rintro e w1 ⟨rfl, hw1⟩
 obtain rfl := hw1
 simp only
 by_cases hc0 : c = 0
 · subst hc0
   rw [if_pos rfl] at hld
   obtain ⟨l0, n, l1, l2, hf, hn, hnext, hm, hx, hright⟩ := Man.parse_inv hld.symm
   have h30 := Man.right_le hright
   have hb1 : Below w.heap.size w (W0.alloc (.cells #[.int .i64 0] 32)) := HB0.out.alloc HB0.out.size _
   have hr1 : ManAt w.heap.size 0 (.slice none 0 0) (W0.alloc (.cells #[.int .i64 0] 32)) := ManAt.next HR0.out ((Below.refl _ _).alloc (Nat.le_refl _) _)
   have he1 : ErrAt (w.heap.size + 1) 0 (W0.alloc (.cells #[.int .i64 0] 32)) := by
     have := heap_alloc_new W0 (.cells #[.int .i64 0] 32)
     rwa [hW0s] at this
   obtain ⟨W1, hW1⟩ : ∃ W1, W1 = W0.alloc (.cells #[.int .i64 0] 32) := ⟨_, rfl⟩
   rw [← hW1] at hb1 hr1 he1
   have HW1 := Lib.hid hW1
   have HFT := Lib.hid (frameTake_any s W1 (by omega))
   have H1 := Lib.hid (And.intro hb1 (And.intro hr1 he1))
   have HF := Lib.hid hf
   have HX := Lib.hid hx
   have HN := Lib.hid hn
   have HM := Lib.hid hm
   have HNX := Lib.hid hnext
   have HRT := Lib.hid hright
   have HWS := Lib.hid hW0s
   clear hW1 hb1 hr1 he1 hf hx hn hm hld HRD hright hnext hW0s
   go_wp2_with fail
   rw [← HW1.out, HWS.out]
   refine HFT.out.mono ?_
   rintro e w2 ⟨A, r, c, rfl, hA, b2⟩
   obtain ⟨e1, e2, e3⟩ : A.data.toList = l0 ∧ r.data.toList = [] ∧ c = 0 := by have := hA.out; rw [HF.out] at this; simp only [Prod.mk.injEq] at this; exact ⟨this.1.symm, this.2.1.symm, this.2.2.symm⟩
   obtain rfl : r = ⟨#[]⟩ := ba_eq e2
   subst e3
   have hA9 : A.size ≤ 8000 := by
     have h1 := Frm.take_le s.data.toList
     rw [HF.out] at h1
     rw [Lib.size_eq, e1]
     exact (h1.2.2 rfl).2.1
   rw [← e1] at HN
   clear hA e2 HFT
   have hs2 : w.heap.size + 2 ≤ w2.heap.size := by
     have h1 := b2.size
     rw [HW1.out, World.size_alloc, HWS.out] at h1
     exact h1
   have ba : Below w2.heap.size w2 (w2.alloc (.cells #[.string A] 9)) := (Below.refl _ _).alloc (Nat.le_refl _) _
   have he2 : ErrAt (w.heap.size + 1) 0 (w2.alloc (.cells #[.string A] 9)) := heap_kept ba (Nat.le_refl _) (heap_kept b2 (Nat.le_refl _) H1.out.2.2)
   have hr2 : ManAt w.heap.size 0 (.slice none 0 0) (w2.alloc (.cells #[.string A] 9)) := heap_kept ba (Nat.le_refl _) (heap_kept b2 (Nat.le_refl _) H1.out.2.1)
   have hl2 : StrAt w2.heap.size A (w2.alloc (.cells #[.string A] 9)) := heap_alloc_new w2 _
   have ce2 : (w2.alloc (.cells #[.string A] 9)).cell? ⟨w.heap.size + 1, 0, none⟩ = some (.int .i64 0) := by rw [Lib.cell_of_heap he2]; rfl
   have cf2 := Lib.frozen_of_heap he2 0
   have hb2 : Below w.heap.size w (w2.alloc (.cells #[.string A] 9)) := (Below.up H1.out.1 (Nat.le_refl _) b2).alloc (by omega) _
   have he3 : ErrAt (w.heap.size + 1) 0 ((w2.alloc (.cells #[.string A] 9)).setCell ⟨w.heap.size + 1, 0, none⟩ (.int .i64 0)) := setCell_at (i := 0) he2 (.int .i64 0)
   have hg3 := grown_set (w2.alloc (.cells #[.string A] 9)) (w.heap.size + 1) 0 (.int .i64 0)
   have hr3 := ManAt.kept hr2 hg3 (by simp)
   have hl3 : StrAt w2.heap.size A ((w2.alloc (.cells #[.string A] 9)).setCell ⟨w.heap.size + 1, 0, none⟩ (.int .i64 0)) := (Below.heap_setCell _ ⟨w.heap.size + 1, 0, none⟩ _ w2.heap.size (show w2.heap.size ≠ w.heap.size + 1 by omega)).trans hl2
   have hb3 := grown_below hb2 (by have := hb2.size; exact this) (by omega) hg3
   obtain ⟨W3, hW3⟩ : ∃ W3, W3 = (w2.alloc (.cells #[.string A] 9)).setCell ⟨w.heap.size + 1, 0, none⟩ (.int .i64 0) := ⟨_, rfl⟩
   rw [← hW3] at he3 hr3 hl3 hb3
   have HT1 := Lib.hid (takeM_any w2.heap.size (w.heap.size + 1) A n l1 W3 (by omega) hl3 he3 (by omega) HN.out)
   have H3 := Lib.hid (And.intro hr3 hb3)
   have HL3 := Lib.hid hl3
   have HW3 := Lib.hid hW3
   clear b2 ba he2 hr2 hl2 hb2 he3 hg3 hr3 hl3 hb3 hW3 e1 HN HF H1
   go_wp2_with fail
   rw [← HW3.out]
   refine HT1.out.mono ?_
   rintro e w4 ⟨R1, rfl, hR1, hRs1, hl4, he4, hg4⟩
   have hr4 : ManAt w.heap.size 0 (.slice none 0 0) w4 := ManAt.kept H3.out.1 hg4 (by simp; omega)
   have hb4 := grown_below H3.out.2 H3.out.2.size (by omega) hg4
   have bm : Below w4.heap.size w4 (w4.alloc (.cells #[.int .i64 n, .slice none 0 0] 157)) := (Below.refl _ _).alloc (Nat.le_refl _) _
   have hs4 : w2.heap.size < w4.heap.size := (Array.getElem?_eq_some_iff.1 hl4).1
   obtain ⟨W5, hW5⟩ : ∃ W5, W5 = w4.alloc (.cells #[.int .i64 n, .slice none 0 0] 157) := ⟨_, rfl⟩
   have hm5 : ManAt w4.heap.size n (.slice none 0 0) W5 := by rw [hW5]; exact heap_alloc_new w4 _
   rw [← hW5] at bm
   have hl5 : StrAt w2.heap.size R1 W5 := heap_kept bm (Nat.le_refl _) hl4
   have he5 : ErrAt (w.heap.size + 1) 0 W5 := heap_kept bm (Nat.le_refl _) he4
   have hr5 : ManAt w.heap.size 0 (.slice none 0 0) W5 := heap_kept bm (Nat.le_refl _) hr4
   have hb5 := Below.up hb4 (Nat.le_refl _) bm
   have HT2 := Lib.hid (takeM_any w2.heap.size (w.heap.size + 1) R1 segs.length l2 W5 (by omega) hl5 he5 (by omega) (by rw [hR1.out]; exact HM.out))
   have H5 := Lib.hid (And.intro hr5 (And.intro hm5 hb5))
   have HW5 := Lib.hid hW5
   have hs5 := bm.size
   clear hl4 he4 hg4 hr4 hb4 bm hW5 hm5 hl5 he5 hr5 hb5 HT1 H3 HL3 HM hR1
   go_wp2_with fail
   rw [← HW5.out]
   refine HT2.out.mono ?_
   rintro e w6 ⟨R2, rfl, hR2, hRs2, hl6, he6, hg6⟩
   have hr6 : ManAt w.heap.size 0 (.slice none 0 0) w6 := ManAt.kept H5.out.1 hg6 (by simp; omega)
   have hm6 : ManAt w4.heap.size n (.slice none 0 0) w6 := ManAt.kept H5.out.2.1 hg6 (by simp; omega)
   have hb6 := grown_below H5.out.2.2 H5.out.2.2.size (by omega) hg6
   have HL0 := Lib.hid (show LoadAt w w.heap.size (w.heap.size + 1) w2.heap.size w4.heap.size n segs 0 R2 (.slice none 0 0) w6 from
     ⟨hl6, he6, hm6, hr6, World.ownsRow_nil _ _ _ _, by rw [hR2.out]; exact HX.out, by omega, hb6, ⟨by omega, by omega, by omega, by omega, by omega⟩, ⟨by omega, by omega, Nat.le_refl _⟩⟩)
   have hLM : w.heap.size + 1 < w2.heap.size ∧ w2.heap.size < w4.heap.size := ⟨by omega, hs4⟩
   clear hl6 he6 hg6 hr6 hm6 hb6 H5 HT2 hR2 hRs2 hRs1 hs5 hs4 hs2 HX HW5 HW3 HW1 HW0 HB0 HR0
   generalize hE : w.heap.size + 1 = E at HL0 hLM ⊢
   generalize hLL : w2.heap.size = L at HL0 hLM ⊢
   generalize hMM : w4.heap.size = M at HL0 hLM ⊢
   go_wp2
   go_loopw [11] (fun lv wr => ∃ (i : Nat) (S : ByteArray) (V : Value), lv = .int .i64 i ∧ i ≤ segs.length ∧ LoadAt w w.heap.size E L M n segs i S V wr) (fun lv _ => segs.length - (intOf lv).toNat)
   case atStart => exact ⟨0, R2, _, rfl, by omega, HL0.out⟩
   case round =>
     obtain ⟨i, S, V, rfl, hi, hA⟩ := hrel
     obtain ⟨Va, Vc, rfl⟩ := cells_slice (cells_of_owns hA.row)
     have ce : wr.cell? ⟨E, 0, none⟩ = some (.int .i64 0) := by rw [Lib.cell_of_heap hA.err]; rfl
     obtain ⟨c0, c1, f0, f1⟩ := ManAt.cells hA.man
     have HA := Lib.hid hA
     by_cases hp : i < segs.length
     · obtain ⟨x, hx⟩ : ∃ x, segs[i] = x := ⟨_, rfl⟩
       have htk := hA.tks
       rw [show segs.length - i = (segs.length - (i + 1)) + 1 by omega, List.drop_eq_getElem_cons hp, hx] at htk
       obtain ⟨k, r', ys, t1, t2, t3⟩ := Man.tks_one htk rfl
       obtain ⟨rfl, rfl⟩ : x = (k : Int) ∧ segs.drop (i + 1) = ys := by
         simp only [List.cons.injEq] at t2; exact t2
       have HT := Lib.hid (takeM_any L E S k r' wr.drew hA.ne.1 hA.drew.str hA.drew.err hA.small t1)
       have HTK := Lib.hid t3
       have HS := Lib.hid (show intCells (segs.take i) ++ [.int .i64 (k : Int)] = intCells (segs.take (i + 1)) by
         rw [List.take_succ_eq_append_getElem hp, hx]; simp [intCells])
       clear hA htk t1 t2 t3 hx
       go_wp2
       go_region_law (first
         | (refine step_append_row rfl _ _ rfl intT w.heap.size (.slice Va i Vc) i (intCells (segs.take i)) rfl HO.out _ 1 [.int .i64 (k : Int)] rfl (cells_new1 w' 3 _) (by simp [Value.oneCell']) (by omega) HBB.out.size ?_
            intro v' wa hown hga _
            obtain ⟨va', vc', rfl⟩ := cells_slice (cells_of_owns hown)
            have HST := Lib.hid (HA.out.drew.step hl' he' hg' hRs' (by rw [← HS.out]; exact hown) hga (by rw [hR'.out]; exact HTK.out))
            obtain ⟨g0, g1, g2, g3⟩ := ManAt.cells HST.out.1)
         | (go_simp; go_at_call 136; refine HT.out.mono ?_; rintro e w' ⟨R', rfl, hR', hRs', hl', he', hg'⟩
            have hq := HA.out.drew.take hl' he' hg'
            obtain ⟨y0, y1, y2, y3⟩ := ManAt.cells hq.2.1
            obtain ⟨z0, z1, z2, z3⟩ := ManAt.cells (ManAt.next hq.2.1 ((Below.refl _ w').alloc (Nat.le_refl _) (.cells #[.int .i64 (k : Int)] 3)))
            have HBB := Lib.hid (hq.2.2.2.alloc hq.2.2.2.size (.cells #[.int .i64 (k : Int)] 3))
            have HO := Lib.hid (owns_next hq.1 ((Below.refl _ w').alloc (Nat.le_refl _) (.cells #[.int .i64 (k : Int)] 3)))))
       all_goals go_wp2
       all_goals exact ⟨⟨i + 1, R', _, by go_num, by omega, HST.out.2⟩, by simp [intOf]; omega⟩
     · obtain rfl : i = segs.length := by omega
       have hS : S = ⟨#[]⟩ := by
         have := hA.tks
         rw [Nat.sub_self, Man.tks, List.drop_length] at this
         simp only [Prod.mk.injEq, and_true, true_and] at this
         exact ba_eq this
       subst hS
       have cl : wr.cell? ⟨L, 0, none⟩ = some (.string ⟨#[]⟩) := by rw [Lib.cell_of_heap hA.str]; rfl
       obtain ⟨d0, d1, g0, g1⟩ := ManAt.cells hA.res
       have hrow := hA.row
       rw [List.take_length] at hrow
       have HRR := manRight_any n (.slice Va segs.length Vc) segs wr (cells_of_owns hrow) (by omega)
       rw [show Man.right (n : Int) segs = true by rw [← HNX.out]; exact HRT.out] at HRR
       have HRR := Lib.hid HRR
       have HRW := Lib.hid hrow
       clear hA hrow
       go_wp2_with fail
       refine HRR.out.mono ?_
       rintro e w7 ⟨rfl, b7⟩
       have m7 : ManAt M n (.slice Va segs.length Vc) w7 := heap_kept b7 (Nat.le_refl _) HA.out.man
       have r7 : ManAt w.heap.size 0 (.slice none 0 0) w7 := heap_kept b7 (Nat.le_refl _) HA.out.res
       obtain ⟨a0, a1, a2, a3⟩ := ManAt.cells m7
       obtain ⟨x0, x1, x2, x3⟩ := ManAt.cells r7
       have hp2 := setCell_at (i := 1) (setCell_at (i := 0) r7 (.int .i64 n)) (.slice Va segs.length Vc)
       have HP := Lib.hid (show ((w7.setCell ⟨w.heap.size, 0, none⟩ (.int .i64 n)).setCell ⟨w.heap.size, 1, none⟩ (.slice Va segs.length Vc)).heap[w.heap.size]? = some (.cells #[.int .i64 n, (.slice Va segs.length Vc)] 157 (0, 0)) from hp2)
       have hg2 := grown_trans (grown_set w7 w.heap.size 0 (.int .i64 n)) (grown_set _ w.heap.size 1 (.slice Va segs.length Vc))
       have HO2 := Lib.hid (own_kept (owns_next HRW.out b7) r7 (by decide) hg2)
       have hb7 := Below.up HA.out.below (Nat.le_refl _) b7
       have HB2 := Lib.hid (grown_below hb7 hb7.size (Nat.le_refl _) hg2)
       clear b7 m7 r7 hp2 hg2 hb7 HRR d0 d1 g0 g1 c0 c1 f0 f1 ce cl
       go_wp2
       (try simp only [Exit.inBlock, Exit.then])
       refine bodyPost_ret (results_cell1 rfl _ _ w.heap.size _ _ _ _ rfl HP.out Tryz.underlying157 rfl man_size) rfl ?_
       exact ⟨_, by rw [HNX.out]; rfl, Lib.hid HO2.out, HB2.out⟩
 · rw [if_neg hc0] at hld
   simp only [Prod.mk.injEq, and_true] at hld
   obtain ⟨rfl, rfl⟩ := hld
   have hcb : ((c : Int) != 0) = true := by rw [bne_iff_ne]; omega
   have hcz : ¬ (c : Int) = 0 := by omega
   have be : Below W0.heap.size W0 (W0.alloc (.cells #[.int .i64 c] 32)) := (Below.refl _ _).alloc (Nat.le_refl _) _
   have r1 : ManAt w.heap.size 0 (.slice none 0 0) (W0.alloc (.cells #[.int .i64 c] 32)) := ManAt.next HR0.out be
   obtain ⟨x0, x1, x2, x3⟩ := ManAt.cells r1
   have hp2 := setCell_at (i := 1) (setCell_at (i := 0) r1 (.int .i64 1)) (.slice none 0 0)
   have HP := Lib.hid (show (((W0.alloc (.cells #[.int .i64 c] 32)).setCell ⟨w.heap.size, 0, none⟩ (.int .i64 1)).setCell ⟨w.heap.size, 1, none⟩ (.slice none 0 0)).heap[w.heap.size]? = some (.cells #[.int .i64 1, .slice none 0 0] 157 (0, 0)) from hp2)
   have hg2 := grown_trans (grown_set (W0.alloc (.cells #[.int .i64 c] 32)) w.heap.size 0 (.int .i64 1)) (grown_set _ w.heap.size 1 (.slice none 0 0))
   have hb1 : Below w.heap.size w (W0.alloc (.cells #[.int .i64 c] 32)) := HB0.out.alloc HB0.out.size _
   have HB2 := Lib.hid (grown_below hb1 hb1.size (Nat.le_refl _) hg2)
   clear be r1 hp2 hg2 hb1 hW0s HW0 HB0 hc0 HRD
   go_wp2
   (try simp only [Exit.inBlock, Exit.then])
   refine bodyPost_ret (results_cell1 rfl _ _ w.heap.size _ _ _ _ rfl HP.out Tryz.underlying157 rfl man_size) rfl ?_
   exact ⟨_, rfl, Lib.hid (World.ownsRow_nil _ _ _ _), HB2.out⟩
end Go.Proofs.YtgddgipjpdjoaaaGreatDoor
