/-
  Plain Lean, no program in sight: what Propose and Accept make of logs, one a beginning of the other.
  A replica's waits, Dirty, Waits.
-/
import Derived.Test.YtgddgipjpdjoaaaGreatDoorRep2
import Derived.Test.YtgddgipjpdjoaaaGreatDoorRep3
import Derived.Test.YtgddgipjpdjoaaaGreatDoorLogPm
namespace Go.Proofs.YtgddgipjpdjoaaaGreatDoor
open Go.RowKit Go.Shelf
namespace Lg
theorem bytes_le : ∀ (L : List Evt.Entry), (Seg.bytesB L).length ≤ 8008 * L.length
 | [] => by simp [Seg.bytesB]
 | e :: l => by
   have ih := bytes_le l
   have h1 := (Seg.member_good e).2
   have h2 : Seg.bytesB (e :: l) = Frm.framed (Seg.member e) ++ Seg.bytesB l := rfl
   rw [h2, List.length_append, Frm.framed_len, List.length_cons]
   omega
theorem hold_bk {ex fs : List Dk.File} {next : Int} {nums : List Int} {L : List Evt.Entry} (h : Holds ex fs next nums L) (k : Nat) (hk : L.length + k ≤ 400000) : BK k (stateOf next nums L) := by
 obtain ⟨r1, r2, r3, r4⟩ := Man.right_mem h.right
 refine ⟨by rw [show (stateOf next nums L).parts.length = nums.length from parts_len nums]; omega, by show L.length + k ≤ 500000; omega, by show 0 ≤ next; omega, by show next + (k : Int) ≤ 2147483648; omega, fun p hp => ?_⟩
 obtain ⟨i, hi⟩ := List.mem_iff_getElem?.1 hp
 have hi2 : (partsOf nums)[i]? = some p := hi
 rw [parts_at] at hi2
 cases hn : nums[i]? with
 | none => rw [hn] at hi2; cases hi2
 | some n =>
   rw [hn] at hi2
   simp only [Option.map_some, Option.some.injEq] at hi2
   subst hi2
   have := (List.getElem?_eq_some_iff.1 hn).1
   simp only; omega
theorem append_nil {room : Int} {s : S} {fs : List Dk.File} : appendF room [] s fs = ((fs, s), 0) := by
 unfold appendF
 rw [if_pos (show Evt.follows [] _ _ = true from rfl)]
 rfl
theorem prop_ok {es : List Int} {fs : List Dk.File} {next room : Int} {nums : List Int} {L : List Evt.Entry} {b : Evt.Batch} (h : Holds (exM es) fs next nums L) (hm : Man.rises 0 es) (hf : Evt.fits b = 0) (h1 : 1 ≤ Man.lastE 0 es) (he : epochOf L ≤ Man.lastE 0 es) (hl : L.length ≤ 100) (hn : next ≤ 1000)
   (hes : es.length ≤ 22) (hr : (1600 + 2 * (Seg.bytesB (L ++ [⟨(L.length : Int) + 1, Man.lastE 0 es, b⟩])).length : Int) ≤ room - 308) :
   ∃ f2 next2 nums2, propF room b (stateOf next nums L) fs = ((f2, stateOf next2 nums2 (L ++ [⟨(L.length : Int) + 1, Man.lastE 0 es, b⟩])), 0) ∧ Holds (exM es) f2 next2 nums2 (L ++ [⟨(L.length : Int) + 1, Man.lastE 0 es, b⟩]) ∧ next2 ≤ next + 1 := by
 have hep := h.epochs hm
 have hfe : fenceOf fs = Man.lastE 0 es := by unfold fenceOf; rw [hep]
 have hle := (Man.lastE_le es 0 (Int.le_refl _) hm).2
 have hfo : Evt.follows (L ++ [⟨(L.length : Int) + 1, Man.lastE 0 es, b⟩]) 0 0 = true := by
   rw [follows_on h.fol]
   refine Seg.follows_cons.2 ⟨rfl, he, ?_, rfl⟩
   simp only [Evt.rightN, Evt.number, hf, Bool.and_eq_true, decide_eq_true_eq, beq_self_eq_true, and_true]
   exact ⟨⟨by omega, by omega⟩, h1, hle⟩
 have htot := total_exM hm
 have hlen : (L ++ [(⟨(L.length : Int) + 1, Man.lastE 0 es, b⟩ : Evt.Entry)]).length = L.length + 1 := by simp
 obtain ⟨f2, n2, nums2, q1, q2, q3, _⟩ := h.append (room := room) [⟨(L.length : Int) + 1, Man.lastE 0 es, b⟩] hfo (by omega) (by simp; omega) (by omega)
 refine ⟨f2, n2, nums2, ?_, q2, by simpa using q3⟩
 unfold propF
 rw [if_neg (by rw [hf]; simp), if_neg (by rw [hfe]; show ¬ (Man.lastE 0 es = 0 ∨ Man.lastE 0 es < epochOf L); omega)]
 have : propE (stateOf next nums L) fs b = ⟨(L.length : Int) + 1, Man.lastE 0 es, b⟩ := by unfold propE; rw [hfe]; rfl
 rw [this]
 exact q1
theorem prop_not {room : Int} {s : S} {fs : List Dk.File} {b : Evt.Batch} (hf : Evt.fits b ≠ 0) : propF room b s fs = ((fs, s), 1) := by
 unfold propF; rw [if_pos hf]
theorem ep_in {L : List Evt.Entry} {i : Nat} {e : Evt.Entry} (h : L[i]? = some e) : epAt L ((i : Int) + 1) = (e.epoch, true) := by
 unfold epAt
 rw [if_neg (by omega), show ((i : Int) + 1 - 1).toNat = i by omega, h]
theorem ep_out {L : List Evt.Entry} {i : Nat} (h : L.length ≤ i) : epAt L ((i : Int) + 1) = (0, false) := by
 unfold epAt
 rw [if_neg (by omega), show ((i : Int) + 1 - 1).toNat = i by omega, List.getElem?_eq_none h]
theorem ep_zero (L : List Evt.Entry) : epAt L 0 = (0, true) := by unfold epAt; rw [if_pos (by omega)]; rfl
theorem range_mid {L : List Evt.Entry} {k : Nat} {m : Int} (hk : k ≤ L.length) (hm : 0 ≤ m) : rangeR ((k : Int) + 1) m L = (L.drop k).take m.toNat := by
 unfold rangeR rangeA rangeM
 have h1 : max ((k : Int) + 1) 1 = (k : Int) + 1 := by omega
 have h2 : min ((k : Int) + 1) ((L.length : Int) + 1) = (k : Int) + 1 := by omega
 rw [rangeA, h1, h2, show ((k : Int) + 1 - 1).toNat = k by omega, Int.max_eq_left hm]
 by_cases h3 : m ≤ (L.length : Int) + 1 - ((k : Int) + 1)
 · rw [Int.min_eq_left h3]
 · rw [Int.min_eq_right (by omega), List.take_of_length_le (by rw [List.length_drop]; omega), List.take_of_length_le (by rw [List.length_drop]; omega)]
theorem range_all {L : List Evt.Entry} {m : Int} (hm : (L.length : Int) ≤ m) : rangeR 1 m L = L := by
 have := range_mid (L := L) (k := 0) (m := m) (Nat.zero_le _) (by omega)
 rw [show ((0 : Nat) : Int) + 1 = 1 by omega, List.drop_zero, List.take_of_length_le (by omega)] at this
 exact this
end Lg
theorem Stat.apply_app (st : Stat) (e : Evt.Entry) : (st.apply e).2.app = st.app ∨ (st.apply e).2.app = st.app + 1 := by
 unfold Stat.apply
 split
 · exact .inl rfl
 split
 · exact .inl rfl
 · rename_i h
   have h : e.pos = st.app + 1 := by omega
   split
   · exact .inr h
   split
   · exact .inr h
   · exact .inr h
theorem Stat.plays_app : ∀ (l : List Evt.Entry) (st : Stat), st.app ≤ (st.plays l).2.app ∧ (st.plays l).2.app ≤ st.app + l.length
 | [], st => ⟨Int.le_refl _, by simp [Stat.plays]⟩
 | e :: l, st => by
   have h1 := Stat.plays_app l (st.apply e).2
   have h2 := st.apply_app e
   show st.app ≤ ((st.apply e).2.plays l).2.app ∧ ((st.apply e).2.plays l).2.app ≤ st.app + (l.length + 1 : Nat)
   omega
variable {R : (Nat → Prop) → (Nat → Prop) → World → Prop} {a w w0 w' : World} {r lg d sb : Nat} {room : Int} {s s' : Lg.S} {fs fs' : List Dk.File} {st st' : Stat} {TL TS X : Nat → Prop} {J : List (Nat × Obj)}
set_option maxHeartbeats 1000000 in
theorem isD_any (bS : Nat) (nm : ByteArray) (S : ByteArray) (ex se sq : Int) (v : Value) (w : World) (hb : w.cell? ⟨bS, 0, none⟩ = some (.string nm)) (hv : ∃ a l c, v = .slice a l c) :
   Calls Tryz.prog 47 #[.agg #[.string S, .int .i64 ex, .int .i64 se, .int .i64 sq, v], .pointer (some ⟨bS, 0, none⟩)] w fun e w' => e = .returned (.bool (S.toList == nm.toList)) ∧ Below w.heap.size w w' := by
 obtain ⟨sa, sl, sc, rfl⟩ := hv
 have ba : Below w.heap.size w (w.alloc (.cells #[.string S, .int .i64 ex, .int .i64 se, .int .i64 sq, .slice sa sl sc] 38)) := (Below.refl _ _).alloc (Nat.le_refl _) _
 have hb := cell_kept ba (Nat.le_refl _) hb
 have HB := Lib.hid ba
 clear ba
 go_enter Tryz.func47, Tryz.ntmps47
 go_wp2
 go_ret
 exact ⟨rfl, HB.out⟩
set_option maxHeartbeats 2000000 in
theorem fnD_any (bS : Nat) (nm : ByteArray) (bI : Nat) (p ep : Int) (S : ByteArray) (ex se sq : Int) (v : Value) (w : World) (hi : w.cell? ⟨bI, 0, none⟩ = some (.func (.func 47) #[] #[.pointer (some ⟨bS, 0, none⟩)])) (hb : w.cell? ⟨bS, 0, none⟩ = some (.string nm)) (hv : ∃ a l c, v = .slice a l c) :
   Calls Tryz.prog 107 #[.agg #[.int .i64 p, .int .i64 ep, .string S, .int .i64 ex, .int .i64 se, .int .i64 sq, v], .pointer (some ⟨bI, 0, none⟩)] w fun e w' => e = .returned (.bool (S.toList == nm.toList)) ∧ Below w.heap.size w w' := by
 obtain ⟨sa, sl, sc, rfl⟩ := hv
 obtain ⟨W1, hW1⟩ : ∃ W1, w.alloc (.cells #[.int .i64 p, .int .i64 ep, .string S, .int .i64 ex, .int .i64 se, .int .i64 sq, .slice sa sl sc] 40) = W1 := ⟨_, rfl⟩
 have ba : Below w.heap.size w W1 := by rw [← hW1]; exact (Below.refl _ _).alloc (Nat.le_refl _) _
 have he : EB17 W1 w.heap.size p ep S ex se sq (.slice sa sl sc) := by rw [← hW1]; exact heap_alloc_new w _
 have hi := cell_kept ba (Nat.le_refl _) hi
 have hb := cell_kept ba (Nat.le_refl _) hb
 have HI := Lib.hid (isD_any bS nm S ex se sq (.slice sa sl sc) W1 hb ⟨_, _, _, rfl⟩)
 obtain ⟨q0, q1, q2, q3, q4, q5, q6⟩ := he.cells
 have HB := Lib.hid ba
 have HW1 := Lib.hid hW1
 rw [← hW1] at hi q0 q1 q2 q3 q4 q5 q6
 clear ba hb he hW1
 go_enter Tryz.func107, Tryz.ntmps107
 go_wp2_with fail
 rw [HW1.out]
 refine HI.out.mono ?_
 rintro e w1 ⟨rfl, b1⟩
 have HBB := Lib.hid (HB.out.trans (b1.mono HB.out.size))
 clear b1 HI hi q0 q1 q2 q3 q4 q5 q6
 go_wp2
 go_ret
 exact ⟨rfl, HBB.out⟩
set_option maxHeartbeats 4000000 in
set_option maxRecDepth 100000 in
theorem idxD_any (bS : Nat) (nm : ByteArray) (bI : Nat) (v : Value) (qs : List EnX) (w : World) (hc : Ents w v qs) (hn : qs.length ≤ 1000000) (hi : w.cell? ⟨bI, 0, none⟩ = some (.func (.func 47) #[] #[.pointer (some ⟨bS, 0, none⟩)])) (hb : w.cell? ⟨bS, 0, none⟩ = some (.string nm)) :
   Calls Tryz.prog 168 #[v, .func (.func 107) #[] #[.pointer (some ⟨bI, 0, none⟩)]] w fun e w' => ∃ x : Int, e = .returned (.int .i64 x) ∧ Hid (decide (0 ≤ x) = (plainE qs).any fun e => (e.b.stream == nm.data.toList)) ∧ Below w.heap.size w w' := by
 obtain ⟨va, vc, rfl⟩ := cells_slice hc.1
 have HC := Lib.hid hc
 have HI := Lib.hid hi
 have HBX := Lib.hid hb
 clear hc hb hi
 go_enter Tryz.func168, Tryz.ntmps168
 go_wp2
 go_loopw [8] (fun lv wr => ∃ i : Nat, lv = .int .i64 i ∧ i ≤ qs.length ∧ Below w.heap.size w wr ∧ Hid (((plainE qs).any fun e => (e.b.stream == nm.data.toList)) = (plainE (qs.drop i)).any fun e => (e.b.stream == nm.data.toList))) (fun lv _ => qs.length - (intOf lv).toNat)
 case atStart => exact ⟨0, rfl, by omega, Below.refl _ _, Lib.hid (by simp)⟩
 case round =>
   obtain ⟨i, rfl, hi, hbw, HK⟩ := hrel
   by_cases hp : i < qs.length
   · obtain ⟨b, o, c, p, ep, S, ex, se, sq, sa, sl, sc, es, hv, q0, q1, q2, q3, q4, q5, q6, _, _, _, _, hpe, hp2⟩ := enAt (HC.out.next hbw) i hp
     cases hv
     have hb := HBX.out
     have hb := cell_kept hbw (Nat.le_refl _) hb
     have HF := Lib.hid (fnD_any bS nm bI p ep S ex se sq (.slice sa sl sc) wr (cell_kept hbw (Nat.le_refl _) HI.out) hb ⟨_, _, _, rfl⟩)
     obtain ⟨T, hT⟩ : ∃ T, (S.toList == nm.toList) = T := ⟨_, rfl⟩
     rw [hT] at HF
     have HX := Lib.hid (show ((plainE qs).any fun e => (e.b.stream == nm.data.toList)) = (T || (plainE (qs.drop (i + 1))).any fun e => (e.b.stream == nm.data.toList)) by
       have e0 : (qs[i]).1 = ⟨p, ep, ⟨S.data.toList, ex, se, sq, es⟩⟩ := hpe.out
       rw [HK.out, List.drop_eq_getElem_cons hp, ← hT]
       show (((qs[i]).1.b.stream == nm.data.toList) || _) = _
       rw [e0]
       rw [Lib.toList_data, Lib.toList_data]; rfl)
     have HBW := Lib.hid hbw
     clear hbw HK hpe hp2 hb hT
     go_wp2_with fail
     refine HF.out.mono ?_
     rintro e w1 ⟨rfl, b1⟩
     have hb1 := Below.up HBW.out (Nat.le_refl _) b1
     cases T with
     | true =>
       have HE := Lib.hid (show ((plainE qs).any fun e => (e.b.stream == nm.data.toList)) = true by rw [HX.out]; rfl)
       have HB1 := Lib.hid hb1
       clear hb1 b1 HF HX
       go_wp2
       go_ret
       exact ⟨_, rfl, Lib.hid (by rw [HE.out]; simp), HB1.out⟩
     | false =>
       have HE := Lib.hid (show ((plainE qs).any fun e => (e.b.stream == nm.data.toList)) = (plainE (qs.drop (i + 1))).any fun e => (e.b.stream == nm.data.toList) by rw [HX.out]; rfl)
       clear b1 HF HX
       go_wp2
       exact ⟨⟨i + 1, by go_num, by omega, hb1, HE⟩, by simp [intOf]; omega⟩
   · have HE := Lib.hid (show ((plainE qs).any fun e => (e.b.stream == nm.data.toList)) = false by rw [HK.out, List.drop_eq_nil_of_le (by omega)]; rfl)
     obtain rfl : i = qs.length := by omega
     clear HK
     go_wp2
     go_ret
     exact ⟨-1, rfl, Lib.hid (by rw [HE.out]; rfl), hbw⟩
set_option maxHeartbeats 1000000 in
theorem conD_any (bS : Nat) (nm : ByteArray) (bI : Nat) (v : Value) (qs : List EnX) (w : World) (hc : Ents w v qs) (hn : qs.length ≤ 1000000) (hi : w.cell? ⟨bI, 0, none⟩ = some (.func (.func 47) #[] #[.pointer (some ⟨bS, 0, none⟩)])) (hb : w.cell? ⟨bS, 0, none⟩ = some (.string nm)) :
   Calls Tryz.prog 106 #[v, .func (.func 107) #[] #[.pointer (some ⟨bI, 0, none⟩)]] w fun e w' => e = .returned (.bool ((plainE qs).any fun e => (e.b.stream == nm.data.toList))) ∧ Below w.heap.size w w' := by
 have HI := Lib.hid (idxD_any bS nm bI v qs w hc hn hi hb)
 clear hc hb hi
 go_enter Tryz.func106, Tryz.ntmps106
 go_wp2_with fail
 refine HI.out.mono ?_
 rintro e w1 ⟨x, rfl, HR, b1⟩
 have HB := Lib.hid b1
 clear b1 HI
 go_wp2
 go_ret
 exact ⟨by rw [← HR.out]; rfl, HB.out⟩
set_option maxHeartbeats 4000000 in
set_option maxRecDepth 100000 in
theorem waitsD_any (bS : Nat) (nm : ByteArray) (h : RR R J a r lg d sb room s fs st w) (hR : Stable2 a R) (hn : s.es.length ≤ 300000) (happ : st.app ≤ 1000000000000) (hb : w.cell? ⟨bS, 0, none⟩ = some (.string nm)) :
   Calls Tryz.prog 46 #[.pointer (some ⟨r, 0, none⟩), .func (.func 47) #[] #[.pointer (some ⟨bS, 0, none⟩)]] w fun e w' => e = .returned (.bool ((rangeR (st.app + 1) s.es.length s.es).any fun e => (e.b.stream == nm.data.toList))) ∧ Below w.heap.size w w' := by
 obtain ⟨W1, hW1⟩ : ∃ W1, w.alloc (.cells #[.func (.func 47) #[] #[.pointer (some ⟨bS, 0, none⟩)]] 104) = W1 := ⟨_, rfl⟩
 have ba : Below w.heap.size w W1 := by rw [← hW1]; exact (Below.refl _ _).alloc (Nat.le_refl _) _
 have hi : W1.cell? ⟨w.heap.size, 0, none⟩ = some (.func (.func 47) #[] #[.pointer (some ⟨bS, 0, none⟩)]) := by
   rw [← hW1, Lib.cell_of_heap (heap_alloc_new w _)]; rfl
 have hb := cell_kept ba (Nat.le_refl _) hb
 have h1 := h.next hR ba
 have hbx := h1.box.cells.2.1
 have h0 := h.ok.a
 have hw1 : IntKind.i64.wrap (st.app + 1) = st.app + 1 := by rw [IntKind.wrap_i64]; omega
 have HKS := Lib.hid (show ∀ Z, Below W1.heap.size W1 Z → Z.cell? ⟨r, 1, none⟩ = some (.pointer (some ⟨lg, 0, none⟩)) from fun Z hb => cell_kept hb (Nat.le_refl _) hbx)
 have HCM := Lib.hid (fun W (hb : Below W1.heap.size W1 W) => repCommit_any (h1.next hR hb))
 have HLA := Lib.hid (fun W (hb : Below W1.heap.size W1 W) => repLast_any (h1.next hR hb))
 have HRG := Lib.hid (fun W (hb : Below W1.heap.size W1 W) => logRange_rr (st.app + 1) (s.es.length : Int) (h1.next hR hb) hR (by omega))
 have H1 := Lib.hid (And.intro ba (And.intro hi hb))
 have HW1 := Lib.hid hW1
 clear h h1 hbx ba hi hb hW1
 go_enter Tryz.func46, Tryz.ntmps46
 go_upto_region 1 with fail
 try rw [HW1.out]
 go_cut [5] (fun lv wx => ∃ va qs vc, lv = .slice va (qs.length : Nat) vc ∧ Hid (plainE qs = rangeR (st.app + 1) (s.es.length : Int) s.es) ∧ Hid (Ents wx (.slice va qs.length vc) qs) ∧ Hid (Below W1.heap.size W1 wx))
 case first =>
   go_region_held3 (fun Z => Z.cell? ⟨r, 1, none⟩ = some (.pointer (some ⟨lg, 0, none⟩)))
     ((refine HKS.out _ ?_; first
       | with_reducible exact Below.refl _ W1
       | with_reducible exact (Below.refl _ W1).drew
       | with_reducible exact HB5.out))
     (first
       | (go_at_call 14; refine (HCM.out _ (Below.refl _ W1).drew).mono ?_; rintro e w5 ⟨rfl, rfl⟩)
       | (go_at_call 13; refine (HLA.out _ (Below.refl _ W1).drew).mono ?_; rintro e w5 ⟨rfl, rfl⟩)
       | (go_at_call 44; refine (HRG.out _ (Below.refl _ W1).drew).mono ?_; rintro e w5 ⟨va, qs, vc, rfl, hpl, hcap, hrr, b5⟩; have HB5 := Lib.hid (show Below W1.heap.size W1 w5 from (Below.refl _ W1).drew.trans b5); have HEN := Lib.hid hrr.out.rowE; clear b5 hcap hrr))
   all_goals go_wp2
   all_goals go_meet
   all_goals exact ⟨va, qs, vc, rfl, hpl, HEN, HB5⟩
 case rest =>
   obtain ⟨va, qs, vc, rfl, HPL, HEN, HBW⟩ := hcut
   have hql : qs.length ≤ s.es.length := by
     have h1 : (plainE qs).length ≤ s.es.length := by
       rw [HPL.out, rangeR, List.length_take, List.length_drop]
       omega
     simpa [plainE] using h1
   have hbW := HBW.out
   have hb := H1.out.2.2
   have hb := cell_kept hbW (Nat.le_refl _) hb
   have HCO := conD_any bS nm w.heap.size (.slice va qs.length vc) qs wc HEN.out (by omega) (cell_kept hbW (Nat.le_refl _) H1.out.2.1) hb
   rw [HPL.out] at HCO
   have HCO := Lib.hid HCO
   have HBF := Lib.hid (H1.out.1.trans (hbW.mono H1.out.1.size))
   clear HCM HLA HRG HKS hbW hb
   go_wp2_with fail
   refine HCO.out.mono ?_
   rintro e w6 ⟨rfl, b6⟩
   have HB6 := Lib.hid (Below.up HBF.out (Nat.le_refl _) b6)
   clear b6 HCO
   go_wp2
   go_ret
   exact ⟨rfl, HB6.out⟩
set_option maxHeartbeats 1000000 in
theorem repDirty_any (nm : ByteArray) (h : RR R J a r lg d sb room s fs st w) (hR : Stable2 a R) (hn : s.es.length ≤ 300000) (happ : st.app ≤ 1000000000000) :
   Calls Tryz.prog 16 #[.pointer (some ⟨r, 0, none⟩), .string nm] w fun e w' => e = .returned (.bool ((rangeR (st.app + 1) s.es.length s.es).any fun e => (e.b.stream == nm.data.toList))) ∧ Below w.heap.size w w' := by
 have ba : Below w.heap.size w (w.alloc (.cells #[.string nm] 9)) := (Below.refl _ _).alloc (Nat.le_refl _) _
 have hb : (w.alloc (.cells #[.string nm] 9)).cell? ⟨w.heap.size, 0, none⟩ = some (.string nm) := by
   rw [Lib.cell_of_heap (heap_alloc_new w _)]; rfl
 have HC := Lib.hid (waitsD_any w.heap.size nm (h.next hR ba) hR hn happ hb)
 have HB := Lib.hid ba
 clear h ba hb
 go_enter Tryz.func16, Tryz.ntmps16
 go_wp2_with fail
 refine HC.out.mono ?_
 rintro e w1 ⟨rfl, b1⟩
 have HBB := Lib.hid (HB.out.trans (b1.mono HB.out.size))
 clear b1 HC
 go_wp2
 go_ret
 exact ⟨rfl, HBB.out⟩
end Go.Proofs.YtgddgipjpdjoaaaGreatDoor
