/-
  law17's one: a batch of one event.
  The law package 17's examples: shown.
  The walk of the law package 17's shown.
-/
import Derived.Test.YtgddgipjpdjoaaaGreatDoorRep3
import Derived.Test.YtgddgipjpdjoaaaGreatDoorRep4
import Derived.Test.YtgddgipjpdjoaaaGreatDoorOpn2
import Derived.Test.YtgddgipjpdjoaaaGreatDoorLawL
namespace Go.Proofs.YtgddgipjpdjoaaaGreatDoor
open Go.RowKit Go.Shelf
set_option maxHeartbeats 2000000 in
theorem one17_any (S : ByteArray) (q : Int) (w : World) :
   Calls Tryz.prog 31 #[.string S, .int .i64 q] w fun e w' => ∃ g, e = .returned (.agg #[.string S, .int .i64 (-1), .int .i64 1, .int .i64 q, .slice (some ⟨g, 0, none⟩) 1 1]) ∧ w'.heap[g]? = some (.cells #[.string ⟨#[107]⟩, .string ⟨#[]⟩] 149 (0, 0)) ∧ w.heap.size ≤ g ∧ Below w.heap.size w w' := by
 go_enter Tryz.func31, Tryz.ntmps31
 go_wp2
 have hE0 : ((w.alloc (.cells #[.string S, .int .i64 (-1), .int .i64 1, .int .i64 q, .slice (some ⟨w.heap.size + 1, 0, none⟩) 1 1] 38)).alloc (.cells #[.string ⟨#[107]⟩, .string ⟨#[]⟩] 149)).heap[w.heap.size]? = some (.cells #[.string S, .int .i64 (-1), .int .i64 1, .int .i64 q, .slice (some ⟨w.heap.size + 1, 0, none⟩) 1 1] 38 (0, 0)) :=
   (Below.heap_alloc _ _ _ (by simp)).trans (heap_alloc_new w _)
 refine bodyPost_ret (results_cell_row rfl _ _ w.heap.size _ _ _ _ rfl hE0 Tryz.underlying38 rfl batch_size) rfl ?_
 have hb := heap_alloc_new (w.alloc (.cells #[.string S, .int .i64 (-1), .int .i64 1, .int .i64 q, .slice (some ⟨w.heap.size + 1, 0, none⟩) 1 1] 38)) (.cells #[.string ⟨#[107]⟩, .string ⟨#[]⟩] 149)
 rw [World.size_alloc] at hb
 exact ⟨_, rfl, hb, by omega, ((Below.refl _ w).alloc (Nat.le_refl _) _).alloc (by simp) _⟩
def TrueR : (Nat → Prop) → (Nat → Prop) → World → Prop := fun _ _ _ => True
theorem stable2_true (a : World) : Stable2 a TrueR := fun _ _ _ _ _ _ _ _ _ _ _ _ _ _ => trivial
def bOne (nm : List UInt8) (q : Int) : Evt.Batch := ⟨nm, -1, 1, q, [⟨[107], []⟩]⟩
theorem fits_one1 : Evt.fits (bOne [115] 1) = 0 := by
 have n1 : Txt.name [115] = true := by simp [Txt.name, Txt.toks_ascii, Txt.toks_nil, Txt.named]
 have n2 : Txt.name [107] = true := by simp [Txt.name, Txt.toks_ascii, Txt.toks_nil, Txt.named]
 simp [bOne, Evt.fits, Evt.headed, n1, n2, Evt.right, Evt.number]
theorem fits_one2 : Evt.fits (bOne [116] 2) = 0 := by
 have n1 : Txt.name [116] = true := by simp [Txt.name, Txt.toks_ascii, Txt.toks_nil, Txt.named]
 have n2 : Txt.name [107] = true := by simp [Txt.name, Txt.toks_ascii, Txt.toks_nil, Txt.named]
 simp [bOne, Evt.fits, Evt.headed, n1, n2, Evt.right, Evt.number]
def sE1 : Evt.Entry := ⟨1, 3, bOne [115] 1⟩
def sE2 : Evt.Entry := ⟨2, 3, bOne [116] 2⟩
theorem right_one1 : Evt.rightN sE1 = true := by simp [Evt.rightN, sE1, fits_one1, Evt.number]
theorem app_one : (Stat.new.plays [sE1]).2.app = 1 := by
 show (Stat.new.apply sE1).2.app = 1
 unfold Stat.apply
 rw [if_neg (by rw [right_one1]; simp), if_neg (by simp [sE1, Stat.new])]
 split
 · rfl
 split
 · rfl
 · rfl
theorem shown_facts : ∃ f1 es f2 n2 nums2 f3 n3 nums3, Man.raiseF 10000 3 [] = (f1, 0) ∧ Lg.Holds (Lg.exM es) f1 1 [] [] ∧ fenceOf f1 = 3 ∧
   propF 10000 (bOne [115] 1) (Lg.stateOf 1 [] []) f1 = ((f2, Lg.stateOf n2 nums2 [sE1]), 0) ∧ Lg.Holds (Lg.exM es) f2 n2 nums2 [sE1] ∧ fenceOf f2 = 3 ∧
   propF 10000 (bOne [116] 2) (Lg.stateOf n2 nums2 [sE1]) f2 = ((f3, Lg.stateOf n3 nums3 [sE1, sE2]), 0) ∧ Lg.Holds (Lg.exM es) f3 n3 nums3 [sE1, sE2] := by
 have h0 : Lg.Holds (Lg.exM []) [] 1 [] [] := by rw [show Lg.exM [] = [] from if_pos rfl]; exact Lg.held_nil
 have hm0 : Man.rises 0 [] := by show (0 : Int) ≤ 274877906944; omega
 obtain ⟨es, r1, r2, r3, r4, r5, r6⟩ := h0.raise (room := 10000) (e := 3) hm0 (by simp) (by show (0 : Int) < 3; omega) (by omega) (by simp [Dk.total])
 have hf1 : fenceOf (Dk.put (Man.markF es) []) = 3 := by unfold fenceOf; rw [r2.epochs r3]; exact r5
 have hb1 := Lg.bytes_le [sE1]
 have hb2 := Lg.bytes_le [sE1, sE2]
 have key : ∀ (nm : List UInt8) (p q : Int), nm.length = 1 → (Seg.member ⟨p, 3, bOne nm q⟩).length ≤ 100 := by
   intro nm p q hnm
   have := Num.put_le6 _ (Num.held_le p)
   have := Num.put_le6 _ (Num.held_le 3)
   have := Num.put_le6 _ (Num.held_le 1)
   have := Num.put_le6 _ (Num.held_le q)
   have := Num.put_le6 _ (Num.zig_le (-1))
   have a := Evt.putText_len nm
   have b := Evt.putText_len [107]
   have c := Evt.putText_len []
   have e := Num.put_le6 _ (Num.held_le ((0 + 1 : Nat) : Int))
   have l1 : (Evt.put ⟨p, 3, bOne nm q⟩).length ≤ (Num.put (Num.held p)).length + (Num.put (Num.held 3)).length + (Evt.putBatch (bOne nm q)).length := by
     unfold Evt.put; split
     · simp only [List.length_append]; omega
     · simp
   have l2 : (Evt.putBatch (bOne nm q)).length ≤ (Evt.bytesB (bOne nm q)).length := by
     unfold Evt.putBatch; split
     · simp
     · omega
   have l3 : (Evt.bytesB (bOne nm q)).length ≤ 60 := by
     simp only [bOne, Evt.bytesB, Evt.bytesE, Num.putInt, List.length_append, List.flatMap_cons, List.flatMap_nil, List.length_nil, List.length_cons] at *
     omega
   simp only [Seg.member, List.length_cons]
   omega
 have k1 := key [115] 1 1 rfl
 have k2 := key [116] 2 2 rfl
 have bb1 : (Seg.bytesB [sE1]).length ≤ 108 := by
   have h2 : Seg.bytesB [sE1] = Frm.framed (Seg.member sE1) ++ [] := rfl
   rw [h2, List.length_append, Frm.framed_len]
   have : (Seg.member sE1).length ≤ 100 := k1
   simp; omega
 have bb2 : (Seg.bytesB [sE1, sE2]).length ≤ 216 := by
   have h2 : Seg.bytesB [sE1, sE2] = Frm.framed (Seg.member sE1) ++ (Frm.framed (Seg.member sE2) ++ []) := rfl
   rw [h2, List.length_append, List.length_append, Frm.framed_len, Frm.framed_len]
   have : (Seg.member sE1).length ≤ 100 := k1
   have : (Seg.member sE2).length ≤ 100 := k2
   simp; omega
 have e1 : ([] ++ [(⟨(([] : List Evt.Entry).length : Int) + 1, Man.lastE 0 es, bOne [115] 1⟩ : Evt.Entry)]) = [sE1] := by rw [r5]; rfl
 obtain ⟨f2, n2, nums2, p1, p2, p3⟩ := Lg.prop_ok (room := 10000) (L := []) (b := bOne [115] 1) r2 r3 fits_one1 (by rw [r5]; omega) (by rw [r5]; show (0 : Int) ≤ 3; omega) (by simp) (by omega) (by omega) (by rw [e1]; omega)
 rw [e1] at p1 p2
 have hf2 : fenceOf f2 = 3 := by unfold fenceOf; rw [p2.epochs r3]; exact r5
 have e2 : ([sE1] ++ [(⟨(([sE1] : List Evt.Entry).length : Int) + 1, Man.lastE 0 es, bOne [116] 2⟩ : Evt.Entry)]) = [sE1, sE2] := by rw [r5]; rfl
 obtain ⟨f3, n3, nums3, s1, s2, s3⟩ := Lg.prop_ok (room := 10000) (L := [sE1]) (b := bOne [116] 2) p2 r3 fits_one2 (by rw [r5]; omega) (by rw [r5]; show (3 : Int) ≤ 3; omega) (by simp) (by omega) (by omega) (by rw [e2]; omega)
 rw [e2] at s1 s2
 exact ⟨_, es, f2, n2, nums2, f3, n3, nums3, r1, r2, hf1, p1, p2, hf2, s1, s2⟩
set_option maxHeartbeats 16000000 in
set_option maxRecDepth 100000 in
theorem shown17_any (w : World) (hE : Env w) :
   Calls Tryz.prog 6 #[] w fun e w' => e = .returned (.bool true) ∧ Below w.heap.size w w' := by
 have HBG := Lib.hid (begun17_any 10000 w (by decide) (by decide))
 obtain ⟨f1, es1, f2, n2, nums2, f3, n3, nums3, q1, q2, q3, q4, q5, q6, q7, q8⟩ := shown_facts
 have HQ := Lib.hid (And.intro q1 (And.intro q2 (And.intro q3 (And.intro q4 (And.intro q5 (And.intro q6 (And.intro q7 q8)))))))
 have HE := Lib.hid hE
 have hRT := stable2_true w
 clear q1 q2 q3 q4 q5 q6 q7 q8 hE
 go_enter Tryz.func6, Tryz.ntmps6
 go_wp2_with fail
 refine HBG.out.mono ?_
 rintro e w1 ⟨d, m, ft, rfl, hd, hft, _, _, _, b1⟩
 obtain ⟨W, hW⟩ : ∃ W, w1.alloc (.cells #[.pointer (some ⟨d, 0, none⟩), .pointer (some ⟨m, 0, none⟩)] 28) = W := ⟨_, rfl⟩
 have bp : Below w1.heap.size w1 W := by rw [← hW]; exact (Below.refl _ _).alloc (Nat.le_refl _) _
 have hP : PB17 w1.heap.size (.pointer (some ⟨d, 0, none⟩)) (.pointer (some ⟨m, 0, none⟩)) W := by rw [← hW]; exact heap_alloc_new w1 _
 have c0 := hP.cells.1
 have bW : Below w.heap.size w W := b1.trans (bp.mono b1.size)
 have HO := Lib.hid (repOpen_new (R := TrueR) (a := w) (X := ft) ⟨HE.out, bW, fun j hj => (hft j hj).1⟩ (hd.next bp) (fun j hj => ⟨Nat.lt_of_lt_of_le (hft j hj).2 bp.size, (hft j hj).1⟩) (fun _ h => h) (by decide) hRT trivial)
 have HW := Lib.hid hW
 rw [← hW] at c0
 clear HBG hd hft b1 bp hP bW hW
 go_wp2_with fail
 try rw [HW.out]
 refine HO.out.mono ?_
 rintro e w2 ⟨r, lg, sb, rfl, hr2⟩
 have HRA := repRaise_any 3 hr2 hRT (by decide)
 rw [HQ.out.1] at HRA
 have HRA := Lib.hid HRA
 clear HO hr2 c0 HW
 go_wp2_with fail
 refine HRA.out.mono ?_
 rintro e w3 ⟨rfl, hr3⟩
 have HR3 := Lib.hid hr3
 have HON := Lib.hid (one17_any ⟨#[115]⟩ 1 w3)
 clear HRA hr3
 go_wp2_with fail
 refine HON.out.mono ?_
 rintro e w4 ⟨g, rfl, hk, hg, b4⟩
 have HPR := repPropose_any (S := ⟨#[115]⟩) (ex := -1) (se := 1) (sq := 1) (v := .slice (some ⟨g, 0, none⟩) 1 1) (es := [⟨[107], []⟩]) (c := 0) HR3.out hRT b4 (by decide) (Lg.hold_bk HQ.out.2.1 1 (by simp)) (by decide) (KB.evs hk) (by simp) (fun e he => by simp at he; subst he; simp) (fun b hb _ => .inr (by cases hb; exact hg)) (show propF 10000 (bOne [115] 1) (Lg.stateOf 1 [] []) f1 = ((f2, Lg.stateOf n2 nums2 [sE1]), 0) from HQ.out.2.2.2.1)
 rw [show propV 0 (propE (Lg.stateOf 1 [] []) f1 ⟨(⟨#[115]⟩ : ByteArray).data.toList, -1, 1, 1, [⟨[107], []⟩]⟩, .slice (some ⟨g, 0, none⟩) 1 1) = .agg #[.int .i64 1, .int .i64 3, .string ⟨#[115]⟩, .int .i64 (-1), .int .i64 1, .int .i64 1, .slice (some ⟨g, 0, none⟩) 1 1] by
   unfold propV propE; rw [if_pos rfl, HQ.out.2.2.1]; rfl] at HPR
 have HPR := Lib.hid HPR
 clear HON hk hg b4 HR3
 go_wp2_with fail
 refine HPR.out.mono ?_
 rintro e w5 ⟨rfl, hr5⟩
 obtain ⟨W6, hW6⟩ : ∃ W6, w5.alloc (.cells #[.int .i64 1, .int .i64 3, .string ⟨#[115]⟩, .int .i64 (-1), .int .i64 1, .int .i64 1, .slice (some ⟨g, 0, none⟩) 1 1] 40) = W6 := ⟨_, rfl⟩
 have b6 : Below w5.heap.size w5 W6 := by rw [← hW6]; exact (Below.refl _ _).alloc (Nat.le_refl _) _
 have hr6 := hr5.enter (R' := TrueR) (J2 := [(w5.heap.size, enO 1 3 ⟨#[115]⟩ (-1) 1 1 (.slice (some ⟨g, 0, none⟩) 1 1))]) hRT b6 (fun p hp => by
   rw [List.mem_singleton.1 hp]; exact ⟨Nat.le_refl _, by rw [← hW6]; exact heap_alloc_new w5 _⟩) (fun _ _ _ h => h)
 have HR6 := Lib.hid hr6
 have HON := Lib.hid (one17_any ⟨#[116]⟩ 2 W6)
 have HW6 := Lib.hid hW6
 clear HPR hr5 hW6 hr6 b6
 go_wp2_with fail
 try rw [HW6.out]
 refine HON.out.mono ?_
 rintro e w7 ⟨g2, rfl, hk, hg, b7⟩
 have HPR := repPropose_any (S := ⟨#[116]⟩) (ex := -1) (se := 1) (sq := 2) (v := .slice (some ⟨g2, 0, none⟩) 1 1) (es := [⟨[107], []⟩]) (c := 0) HR6.out hRT b7 (by decide) (Lg.hold_bk HQ.out.2.2.2.2.1 1 (by simp)) (by decide) (KB.evs hk) (by simp) (fun e he => by simp at he; subst he; simp) (fun b hb _ => .inr (by cases hb; exact hg)) (show propF 10000 (bOne [116] 2) (Lg.stateOf n2 nums2 [sE1]) f2 = ((f3, Lg.stateOf n3 nums3 [sE1, sE2]), 0) from HQ.out.2.2.2.2.2.2.1)
 rw [show propV 0 (propE (Lg.stateOf n2 nums2 [sE1]) f2 ⟨(⟨#[116]⟩ : ByteArray).data.toList, -1, 1, 2, [⟨[107], []⟩]⟩, .slice (some ⟨g2, 0, none⟩) 1 1) = .agg #[.int .i64 2, .int .i64 3, .string ⟨#[116]⟩, .int .i64 (-1), .int .i64 1, .int .i64 2, .slice (some ⟨g2, 0, none⟩) 1 1] by
   unfold propV propE; rw [if_pos rfl, HQ.out.2.2.2.2.2.1]; rfl] at HPR
 have HPR := Lib.hid HPR
 clear HON hk hg b7 HR6 HW6
 go_wp2_with fail
 refine HPR.out.mono ?_
 rintro e w8 ⟨rfl, hr8⟩
 obtain ⟨W9, hW9⟩ : ∃ W9, w8.alloc (.cells #[.int .i64 2, .int .i64 3, .string ⟨#[116]⟩, .int .i64 (-1), .int .i64 1, .int .i64 2, .slice (some ⟨g2, 0, none⟩) 1 1] 40) = W9 := ⟨_, rfl⟩
 have b9 : Below w8.heap.size w8 W9 := by rw [← hW9]; exact (Below.refl _ _).alloc (Nat.le_refl _) _
 have hr9 := hr8.enter (R' := TrueR) (J2 := [(w8.heap.size, enO 2 3 ⟨#[116]⟩ (-1) 1 2 (.slice (some ⟨g2, 0, none⟩) 1 1))]) hRT b9 (fun p hp => by
   rw [List.mem_singleton.1 hp]; exact ⟨Nat.le_refl _, by rw [← hW9]; exact heap_alloc_new w8 _⟩) (fun _ _ _ h => h)
 have hadv : advL Stat.new 1 (Lg.stateOf n3 nums3 [sE1, sE2]).es = [sE1] := rfl
 have HAD := repAdvance_any 1 hr9 hRT (by simp [Lg.stateOf]) (fun p hp => (Array.getElem?_eq_some_iff.1 (hr9.junk p hp)).1) (by decide) ⟨by omega, by omega⟩ (fun k _ => by
   have h1 := (Stat.plays_app ((advL Stat.new 1 (Lg.stateOf n3 nums3 [sE1, sE2]).es).take k) Stat.new)
   have h2 : ((advL Stat.new 1 (Lg.stateOf n3 nums3 [sE1, sE2]).es).take k).length ≤ 1 := by rw [hadv, List.length_take]; simp; omega
   have h3 : Stat.new.app = 0 := rfl
   omega)
 rw [hadv] at HAD
 have HAD := Lib.hid HAD
 have HW9 := Lib.hid hW9
 clear HPR hr8 hW9 hr9 b9 hadv
 go_wp2_with fail
 try rw [HW9.out]
 refine HAD.out.mono ?_
 rintro e w10 ⟨va, vc, dn, rfl, hdn, hr10⟩
 have hdl : dn.length = 1 := by
   have := congrArg List.length hdn.out
   simpa [Stat.plays] using this
 obtain ⟨st1, hst1⟩ : ∃ st1, (Stat.new.plays [sE1]).2 = st1 := ⟨_, rfl⟩
 have happ : st1.app = 1 := by rw [← hst1]; exact app_one
 rw [hst1] at hr10
 have y5 := EB17.cells (hr10.junk (w5.heap.size, enO 1 3 ⟨#[115]⟩ (-1) 1 1 (.slice (some ⟨g, 0, none⟩) 1 1)) (by simp))
 have y7 := EB17.cells (hr10.junk (w8.heap.size, enO 2 3 ⟨#[116]⟩ (-1) 1 2 (.slice (some ⟨g2, 0, none⟩) 1 1)) (by simp))
 have y51 := y5.1
 have y71 := y7.1
 have y72 := y7.2.1
 have HLA := Lib.hid (repLast_any hr10)
 have HCO := repCommit_any hr10
 rw [happ] at HCO
 have HCO := Lib.hid HCO
 have HD1 := repDirty_any ⟨#[116]⟩ hr10 hRT (by simp [Lg.stateOf]) (by omega)
 rw [happ] at HD1
 rw [show ((rangeR (1 + 1) ((Lg.stateOf n3 nums3 [sE1, sE2]).es.length : Int) (Lg.stateOf n3 nums3 [sE1, sE2]).es).any fun e => (e.b.stream == (⟨#[116]⟩ : ByteArray).data.toList)) = true from rfl] at HD1
 have HD1 := Lib.hid HD1
 have HD2 := Lib.hid (fun W (hb : Below w10.heap.size w10 W) => (by
   have h9 := repDirty_any ⟨#[115]⟩ (hr10.next hRT hb) hRT (by simp [Lg.stateOf]) (by omega)
   rw [happ] at h9
   rw [show ((rangeR (1 + 1) ((Lg.stateOf n3 nums3 [sE1, sE2]).es.length : Int) (Lg.stateOf n3 nums3 [sE1, sE2]).es).any fun e => (e.b.stream == (⟨#[115]⟩ : ByteArray).data.toList)) = false from rfl] at h9
   exact h9 : Calls Tryz.prog 16 #[.pointer (some ⟨r, 0, none⟩), .string ⟨#[115]⟩] W fun e w' => e = .returned (.bool false) ∧ Below W.heap.size W w'))
 have HB10 := Lib.hid hr10.below
 rw [hdl]
 have HLA : Hid (Calls Tryz.prog 13 #[.pointer (some ⟨r, 0, none⟩)] w10 fun e w' => e = .returned (.int .i64 2) ∧ w10 = w') := HLA
 clear HAD hdn hr10 y5 y7 happ hst1 hdl HW9
 go_wp2_with fail
 refine HLA.out.mono ?_
 rintro e w11 ⟨rfl, rfl⟩
 go_wp2_with fail
 refine HCO.out.mono ?_
 rintro e w12 ⟨rfl, rfl⟩
 go_wp2_with fail
 refine HD1.out.mono ?_
 rintro e w13 ⟨rfl, b13⟩
 have HD3 := Lib.hid (HD2.out w13 b13)
 have HB13 := Lib.hid (HB10.out.trans (b13.mono HB10.out.size))
 clear HLA HCO HD1 HD2 b13
 go_wp2_with fail
 refine HD3.out.mono ?_
 rintro e w14 ⟨rfl, b14⟩
 have HB14 := Lib.hid (HB13.out.trans (b14.mono HB13.out.size))
 clear HD3 b14
 go_wp2
 go_ret
 exact ⟨rfl, HB14.out⟩
end Go.Proofs.YtgddgipjpdjoaaaGreatDoor
