/-
  Plain facts for the law of meeting: logs of even and of odd epochs; a log taken whole.
  The walk of the law package 17's propose.
  The walks of record.at and record.Fork.
-/
import Derived.Test.YtgddgipjpdjoaaaGreatDoorWai
namespace Go.Proofs.YtgddgipjpdjoaaaGreatDoor
open Go.RowKit Go.Shelf
structure InvM (odd : Int) (es : List Int) (fs : List Dk.File) (next : Int) (nums : List Int) (L : List Evt.Entry) (i k : Nat) : Prop where
 h : Lg.Holds (Lg.exM es) fs next nums L
 m : Man.rises 0 es
 l : es.length ≤ 21
 e1 : Man.lastE 0 es ≤ 2 * (k : Int)
 e2 : Lg.epochOf L ≤ Man.lastE 0 es
 n : L.length ≤ i
 x : next ≤ 1 + (i : Int)
 p : ∀ e ∈ L, e.epoch % 2 = odd
section
variable {odd E next : Int} {es : List Int} {fs : List Dk.File} {nums : List Int} {L : List Evt.Entry} {i k k2 : Nat}
theorem InvM.fence (h : InvM odd es fs next nums L i k) : (Man.epochsD fs).1 = Man.lastE 0 es := by
 rw [h.h.epochs h.m]
theorem InvM.bounds (h : InvM odd es fs next nums L i k) : 0 ≤ Man.lastE 0 es ∧ Man.lastE 0 es ≤ 2 * (k : Int) := ⟨(Man.lastE_le es 0 (Int.le_refl _) h.m).1, h.e1⟩
theorem InvM.up (h : InvM odd es fs next nums L i k) (hk : k ≤ k2) : InvM odd es fs next nums L i k2 :=
 ⟨h.h, h.m, h.l, by have := h.e1; omega, h.e2, h.n, h.x, h.p⟩
theorem InvM.wide (h : InvM odd es fs next nums L i k) : InvM odd es fs next nums L (i + 1) k :=
 ⟨h.h, h.m, h.l, h.e1, h.e2, by have := h.n; omega, by have := h.x; omega, h.p⟩
theorem invM_start (odd : Int) : InvM odd [] [] 1 [] [] 0 0 :=
 ⟨by rw [show Lg.exM [] = [] from if_pos rfl]; exact Lg.held_nil, by show (0 : Int) ≤ 274877906944; omega, by simp, by show (0 : Int) ≤ _; omega, Int.le_refl _, by simp, by omega, fun e he => by cases he⟩
theorem InvM.raise (h : InvM odd es fs next nums L i k) (hi : i ≤ 41) (hk : k ≤ 1000) (h1 : Man.lastE 0 es < E) (h2 : E ≤ Man.lastE 0 es + 2) :
   ∃ es2 f2, Man.raiseF 1048576 E fs = (f2, 0) ∧ InvM odd es2 f2 next nums L i (k + 1) ∧ Man.lastE 0 es2 = E := by
 obtain ⟨g0, g1, g2, g3, g4, g5, g6, g7⟩ := h
 have hb := Lg.bytes_le L
 have ht := g0.tot
 have hm := g0.man_le
 have hx := Lg.total_exM g1
 have hr := (Man.right_mem g0.right).2.2.1
 obtain ⟨es2, r1, r2, r3, r4, r5, r6⟩ := g0.raise (room := 1048576) (e := E) g1 g2 h1 (by omega) (by omega)
 exact ⟨es2, _, r1, ⟨r2, r3, r4, by omega, by omega, g5, g6, g7⟩, r5⟩
theorem InvM.prop (h : InvM odd es fs next nums L i k) (hi : i ≤ 40) (h1 : 1 ≤ Man.lastE 0 es) (ho : Man.lastE 0 es % 2 = odd) (b : Evt.Batch) :
   ∃ f2 n2 nums2 L2 c, propF 1048576 b (Lg.stateOf next nums L) fs = ((f2, Lg.stateOf n2 nums2 L2), c) ∧ InvM odd es f2 n2 nums2 L2 (i + 1) k := by
 obtain ⟨g0, g1, g2, g3, g4, g5, g6, g7⟩ := h
 by_cases hf : Evt.fits b = 0
 · have hb := Lg.bytes_le (L ++ [⟨(L.length : Int) + 1, Man.lastE 0 es, b⟩])
   have hl : (L ++ [(⟨(L.length : Int) + 1, Man.lastE 0 es, b⟩ : Evt.Entry)]).length = L.length + 1 := by simp
   obtain ⟨f2, n2, nums2, p1, p2, p3⟩ := Lg.prop_ok (room := 1048576) (b := b) g0 g1 hf h1 g4 (by omega) (by omega) (by omega) (by omega)
   refine ⟨f2, n2, nums2, _, 0, p1, p2, g1, g2, g3, ?_, by omega, by omega, fun e he => ?_⟩
   · rw [Lg.epochOf_at (e := ⟨(L.length : Int) + 1, Man.lastE 0 es, b⟩) (by rw [hl, show L.length + 1 - 1 = L.length by omega, List.getElem?_append_right (Nat.le_refl _)]; simp)]
     exact Int.le_refl _
   · rcases List.mem_append.1 he with he | he
     · exact g7 e he
     · rw [List.mem_singleton.1 he]; exact ho
 · exact ⟨fs, next, nums, L, 1, Lg.prop_not hf, g0, g1, g2, g3, g4, by omega, by omega, g7⟩
end
theorem skip_none {L : List Evt.Entry} {e : Evt.Entry} {l : List Evt.Entry} (h : (epAt L e.pos).2 = true → (epAt L e.pos).1 ≠ e.epoch) : skipF L (e :: l) = e :: l := by
 rw [skipF, if_neg fun hx => h hx.1 hx.2]
theorem accept_all {odd1 odd2 : Int} {es es2 : List Int} {fs f0 : List Dk.File} {next next0 : Int} {nums nums0 : List Int} {L M : List Evt.Entry} {i k i2 k2 : Nat} (hA : InvM odd1 es fs next nums L i k) (hB : InvM odd2 es2 f0 next0 nums0 M i2 k2) (hne : odd1 ≠ odd2) (hi : i ≤ 40) (hi2 : i2 ≤ 40) :
   ∃ f2 next2 nums2, acceptF 1048576 0 0 0 M (Lg.stateOf next nums L) fs = ((f2, Lg.stateOf next2 nums2 (if M = [] then L else M)), 0) ∧ Lg.Holds (Lg.exM es) f2 next2 nums2 (if M = [] then L else M) := by
 have hMf := hB.h.fol
 have hl1 := hA.n
 have hl2 := hB.n
 have hx := Lg.total_exM hA.m
 have hes := hA.l
 have hnx := hA.x
 unfold acceptF
 rw [if_neg (by rw [hMf]; simp), show epAt (Lg.stateOf next nums L).es 0 = (0, true) from Lg.ep_zero _, if_neg (by simp)]
 cases M with
 | nil =>
   rw [if_pos rfl]
   exact ⟨fs, next, nums, Lg.append_nil, hA.h⟩
 | cons e l =>
   rw [if_neg (by simp)]
   have hp : e.pos = 1 := (Seg.follows_cons.1 hMf).1
   have hL9 : (Lg.stateOf next nums L).es = L := rfl
   have hb := Lg.bytes_le (e :: l)
   have hbL := Lg.bytes_le L
   have hsk : skipF (Lg.stateOf next nums L).es (e :: l) = e :: l := skip_none fun h1 h2 => by
     rw [hL9, hp] at h1 h2
     cases L with
     | nil => rw [show (1 : Int) = ((0 : Nat) : Int) + 1 by omega, Lg.ep_out (by simp)] at h1; cases h1
     | cons a r =>
       rw [show (1 : Int) = ((0 : Nat) : Int) + 1 by omega, Lg.ep_in (i := 0) (e := a) rfl] at h2
       have q1 := hA.p a List.mem_cons_self
       have q2 := hB.p e List.mem_cons_self
       rw [show a.epoch = e.epoch from h2] at q1
       exact hne (q1.symm.trans q2)
   rw [hsk]
   unfold putF
   show ∃ f2 next2 nums2, (if (epAt (Lg.stateOf next nums L).es e.pos).2 = false then _ else _) = _ ∧ _
   rw [hL9, hp]
   cases L with
   | nil =>
     rw [show (1 : Int) = ((0 : Nat) : Int) + 1 by omega, Lg.ep_out (by simp), if_pos rfl]
     obtain ⟨f2, n2, nums2, q1, q2, _⟩ := hA.h.append (room := 1048576) (e :: l) (by rw [List.nil_append]; exact hMf) (by rw [List.nil_append]; omega) (by omega) (by rw [List.nil_append]; omega)
     rw [List.nil_append] at q1 q2
     exact ⟨f2, n2, nums2, q1, q2⟩
   | cons a r =>
     rw [show (epAt (a :: r) (1 : Int)).2 = true from by rw [show (1 : Int) = ((0 : Nat) : Int) + 1 by omega, Lg.ep_in (i := 0) (e := a) rfl], if_neg (by simp)]
     obtain ⟨f1, nums1, t1, t2, _⟩ := hA.h.trunc (room := 1048576) 0 (by omega)
     rw [List.take_zero] at t1 t2
     have hc : cutF17 1048576 (1 - 1) 0 (Lg.stateOf next nums (a :: r)) fs = ((f1, Lg.stateOf next nums1 []), 0) := by
       unfold cutF17
       rw [if_neg (by omega)]
       exact t1
     rw [hc, if_neg (by simp)]
     obtain ⟨f2, n2, nums2, q1, q2, _⟩ := t2.append (room := 1048576) (e :: l) (by rw [List.nil_append]; exact hMf) (by rw [List.nil_append]; omega) (by omega) (by rw [List.nil_append]; omega)
     rw [List.nil_append] at q1 q2
     exact ⟨f2, n2, nums2, q1, q2⟩
end Go.Proofs.YtgddgipjpdjoaaaGreatDoor
namespace Go.Proofs.YtgddgipjpdjoaaaGreatDoor
open Go.RowKit Go.Shelf
def RFix (R : (Nat → Prop) → (Nat → Prop) → World → Prop) (b : Nat) (o : Obj) : (Nat → Prop) → (Nat → Prop) → World → Prop := fun T X w => R T X w ∧ w.heap[b]? = some o ∧ ¬ X b
theorem stable2_rfix {a : World} {R : (Nat → Prop) → (Nat → Prop) → World → Prop} (hR : Stable2 a R) (b : Nat) (o : Obj) : Stable2 a (RFix R b o) := by
 intro T T' X X' w w' h ht h1 h2 h3 h4 h5 h6
 have hlt := (Array.getElem?_eq_some_iff.1 h.2.1).1
 refine ⟨hR T T' X X' w w' h.1 ht h1 h2 h3 h4 h5 h6, (ht.block b hlt (fun e => h.2.2 (h1 _ e))).trans h.2.1, fun e => ?_⟩
 rcases h3 _ e with e | e
 · exact h.2.2 e
 · omega
section
variable {R : (Nat → Prop) → (Nat → Prop) → World → Prop} {a w w' : World} {r lg d sb b : Nat} {o : Obj} {room : Int} {s : Lg.S} {fs : List Dk.File} {st : Stat} {J : List (Nat × Obj)}
theorem RR.fix (h : RR R J a r lg d sb room s fs st w) (hR : Stable2 a R) (hb : Below w.heap.size w w') (h1 : w.heap.size ≤ b) (ho : w'.heap[b]? = some o) : RR (RFix R b o) J a r lg d sb room s fs st w' := by
 have h2 := h.enter (R' := RFix R b o) (J2 := []) hR hb (fun p hp => by cases hp) (fun T X' hx h => ⟨h, ho, fun e => by
   rcases (hx b e).2 with e2 | ⟨p, hp, _⟩
   · omega
   · cases hp⟩)
 rwa [List.append_nil] at h2
theorem RR.fixed (h : RR (RFix R b o) J a r lg d sb room s fs st w) : w.heap[b]? = some o := by
 obtain ⟨TL, TS, X, _, h⟩ := h
 exact h.2.1
theorem RR.unfix (h : RR (RFix R b o) J a r lg d sb room s fs st w) : RR R J a r lg d sb room s fs st w := h.mono fun _ _ _ hh => hh.1
end
def AO17 (o n m : Int) (s : ByteArray) (ex se sq : Int) (ev lv kv : Value) : Obj := .cells #[.int .i64 o, .int .i64 n, .int .i64 m, .string s, .int .i64 ex, .int .i64 se, .int .i64 sq, ev, lv, kv] 46 (0, 0)
theorem tmod_two {x : Int} (h : 0 ≤ x) : x.tmod 2 = x % 2 := Int.tmod_eq_emod_of_nonneg h
set_option maxHeartbeats 8000000 in
set_option maxRecDepth 100000 in
theorem propose17_any {R : (Nat → Prop) → (Nat → Prop) → World → Prop} {a w : World} {r lg d sb : Nat} {fs : List Dk.File} {J : List (Nat × Obj)} {odd next : Int} {nums es : List Int} {L : List Evt.Entry} {i : Nat} {o n m ex se sq : Int} {s : ByteArray} {ev lv kv : Value} {bes : List Evt.Event}
   (h : RR R J a r lg d sb 1048576 (Lg.stateOf next nums L) fs Stat.new w) (hR : Stable2 a R) (hI : InvM odd es fs next nums L i i) (hi : i ≤ 40) (hodd : odd = 0 ∨ odd = 1) (ho : K64 o) (hS : s.size ≤ 300) (hev : Evs a ev bes) (hbn : bes.length ≤ 20) (hsm : Small bes) :
   Calls Tryz.prog 24 #[.pointer (some ⟨r, 0, none⟩), .agg #[.int .i64 o, .int .i64 n, .int .i64 m, .string s, .int .i64 ex, .int .i64 se, .int .i64 sq, ev, lv, kv], .int .i64 odd] w fun e w' => e = .returned (.tuple #[]) ∧
     ∃ es2 f2 n2 nums2 L2, Hid (InvM odd es2 f2 n2 nums2 L2 (i + 1) (i + 1)) ∧ Hid (RR R J a r lg d sb 1048576 (Lg.stateOf n2 nums2 L2) f2 Stat.new w') := by
 obtain ⟨sa, sl, sc, rfl⟩ := evs_slice hev
 obtain ⟨W, hW⟩ : ∃ W, w.alloc (.cells #[.int .i64 o, .int .i64 n, .int .i64 m, .string s, .int .i64 ex, .int .i64 se, .int .i64 sq, .slice sa sl sc, lv, kv] 46) = W := ⟨_, rfl⟩
 have bW : Below w.heap.size w W := by rw [← hW]; exact (Below.refl _ _).alloc (Nat.le_refl _) _
 have hG : W.heap[w.heap.size]? = some (AO17 o n m s ex se sq (.slice sa sl sc) lv kv) := by rw [← hW]; exact heap_alloc_new w _
 have H := Lib.hid (h.fix (b := w.heap.size) hR bW (Nat.le_refl _) hG)
 have hRF := stable2_rfix hR w.heap.size (AO17 o n m s ex se sq (.slice sa sl sc) lv kv)
 have g0 : W.cell? ⟨w.heap.size, 0, none⟩ = some (.int .i64 o) := by rw [Lib.cell_of_heap hG]; rfl
 have HPK := Lib.hid (pick17_any o 3 W ho.1 ho.2 (by decide) (by decide))
 have HI := Lib.hid hI
 have HB := Lib.hid (And.intro hS (And.intro hev (And.intro hbn (And.intro hsm (And.intro hi hodd)))))
 have HW := Lib.hid hW
 rw [← hW] at g0
 clear h bW hG hI hS hev hbn hsm hi hodd hW ho
 go_enter Tryz.func24, Tryz.ntmps24
 go_wp2_with fail
 rw [HW.out]
 refine HPK.out.mono ?_
 rintro e w1 ⟨⟨k, rfl, hk⟩, rfl⟩
 clear HPK g0 HW
 go_upto_if 9 with fail
 go_cut [] (fun wx => ∃ es2 f2, Hid (InvM odd es2 f2 next nums L i (i + 1)) ∧ Hid (RR (RFix R w.heap.size (AO17 o n m s ex se sq (.slice sa sl sc) lv kv)) J a r lg d sb 1048576 (Lg.stateOf next nums L) f2 Stat.new wx))
 case first =>
   by_cases hk0 : k = 0
   · subst hk0
     obtain ⟨F, hF⟩ : ∃ F, (Man.epochsD fs).1 = F := ⟨_, rfl⟩
     have hFL : F = Man.lastE 0 es := by rw [← hF]; exact HI.out.fence
     have hFb := HI.out.bounds
     rw [← hFL] at hFb
     have HFE := fun (Z : World) (hZ : Below w1.heap.size w1 Z) => repFence_any (H.out.next hRF hZ) (by decide)
     rw [hF] at HFE
     have HFE := Lib.hid HFE
     obtain ⟨t, ht⟩ : ∃ t, (F + odd).tmod 2 = t := ⟨_, rfl⟩
     have htb : 0 ≤ t ∧ t ≤ 1 := by
       have := HB.out.2.2.2.2.2
       rw [tmod_two (by omega)] at ht
       omega
     obtain ⟨es2, f2, q1, q2, _⟩ := HI.out.raise (E := F + 2 - t) (by have := HB.out.2.2.2.2.1; omega) (by have := HB.out.2.2.2.2.1; omega) (by omega) (by omega)
     have HQ1 := Lib.hid (And.intro q1 q2)
     have hw1 : wrap64 (F + 2) = F + 2 := IntWalk.wrap64_in _ (by have := HB.out.2.2.2.2.1; omega)
     have hw2 : wrap64 (F + odd) = F + odd := IntWalk.wrap64_in _ (by have := HB.out.2.2.2.2; omega)
     have hw3 : wrap64 (F + 2 - t) = F + 2 - t := IntWalk.wrap64_in _ (by have := HB.out.2.2.2.2.1; omega)
     have hF0 := Lib.hid hFb
     clear q1 q2 hF hFL hFb htb
     go_wp2_with fail
     refine (HFE.out _ (Below.refl _ _)).mono ?_
     rintro e w2 ⟨rfl, b2⟩
     go_wp2_with fail
     refine (HFE.out _ b2).mono ?_
     rintro e w3 ⟨rfl, b3⟩
     have b13 : Below w1.heap.size w1 w3 := b2.trans (b3.mono b2.size)
     have HRA := repRaise_any (F + 2 - t) (H.out.next hRF b13) hRF (by decide)
     rw [HQ1.out.1] at HRA
     have HRA := Lib.hid HRA
     clear HFE b2 b3 b13
     go_wp2_with fail
     refine HRA.out.mono ?_
     rintro e w4 ⟨rfl, h4⟩
     have H4 := Lib.hid h4
     clear HRA h4
     go_wp2
     go_meet
     exact ⟨es2, f2, Lib.hid HQ1.out.2, H4⟩
   · go_wp2
     go_meet
     exact ⟨es, fs, Lib.hid (HI.out.up (by omega)), H⟩
 case rest =>
   obtain ⟨es2, f2, HI2, H2⟩ := hcut
   obtain ⟨w5, rfl⟩ : ∃ w5, w5 = wc := ⟨_, rfl⟩
   obtain ⟨F, hF⟩ : ∃ F, (Man.epochsD f2).1 = F := ⟨_, rfl⟩
   have hFL : Man.lastE 0 es2 = F := by rw [← hF]; exact HI2.out.fence.symm
   have hFb := HI2.out.bounds
   rw [hFL] at hFb
   have HFE := fun (Z : World) (hZ : Below w5.heap.size w5 Z) => repFence_any (H2.out.next hRF hZ) (by decide)
   rw [hF] at HFE
   have HFE := Lib.hid HFE
   have HFL := Lib.hid (And.intro hFL hFb)
   have HOD := Lib.hid (show odd.tmod 2 = odd by have := HB.out.2.2.2.2.2; rw [tmod_two (by omega)]; omega)
   have HTF := Lib.hid (show F.tmod 2 = F % 2 from tmod_two hFb.1)
   clear hF hFL hFb HI H
   go_upto_region 3 with fail
   go_cut [31] (fun v wx => v = .bool (decide (0 < F) && decide (F % 2 = odd)) ∧ Below w5.heap.size w5 wx)
   case first =>
     have htm := HTF.out
     have hod := HOD.out
     by_cases h1 : 0 < F
     · by_cases h2 : F % 2 = odd
       · go_wp2_with fail
         refine (HFE.out _ (Below.refl _ _)).mono ?_
         rintro e w2 ⟨rfl, b2⟩
         go_wp2_with fail
         refine (HFE.out _ b2).mono ?_
         rintro e w3 ⟨rfl, b3⟩
         have HB3 := Lib.hid (show Below w5.heap.size w5 w3 from b2.trans (b3.mono b2.size))
         clear b2 b3
         go_wp2
         go_meet
         exact ⟨by simp [h1, h2], HB3.out⟩
       · go_wp2_with fail
         refine (HFE.out _ (Below.refl _ _)).mono ?_
         rintro e w2 ⟨rfl, b2⟩
         go_wp2_with fail
         refine (HFE.out _ b2).mono ?_
         rintro e w3 ⟨rfl, b3⟩
         have HB3 := Lib.hid (show Below w5.heap.size w5 w3 from b2.trans (b3.mono b2.size))
         clear b2 b3
         go_wp2
         go_meet
         exact ⟨by simp [h2], HB3.out⟩
     · go_wp2_with fail
       refine (HFE.out _ (Below.refl _ _)).mono ?_
       rintro e w2 ⟨rfl, b2⟩
       have HB2 := Lib.hid b2
       clear b2
       go_wp2
       go_meet
       exact ⟨by rw [decide_eq_false (show ¬ 0 < F by omega)]; rfl, HB2.out⟩
   case rest =>
     obtain ⟨rfl, hb⟩ := hcut
     obtain ⟨w6, rfl⟩ : ∃ w6, w6 = wc := ⟨_, rfl⟩
     have h6 := H2.out.next hRF hb
     have hG := h6.fixed
     by_cases hc : 0 < F ∧ F % 2 = odd
     · obtain ⟨f3, n3, nums3, L3, cc, q1, q2⟩ := HI2.out.prop (by have := HB.out.2.2.2.2.1; omega) (by rw [HFL.out.1]; omega) (by rw [HFL.out.1]; exact hc.2) ⟨s.data.toList, ex, se, sq, bes⟩
       have HPR := Lib.hid (repPropose_any (S := s) (ex := ex) (se := se) (sq := sq) (v := .slice sa sl sc) (es := bes) (c := cc) h6 hRF (Below.refl _ _) (by decide) (Lg.hold_bk HI2.out.h 1 (by have := HI2.out.n; have := HB.out.2.2.2.2.1; omega)) (by have := HB.out.1; omega) (Cells.next HB.out.2.1 h6.below) (by have := HB.out.2.2.1; omega) HB.out.2.2.2.1 (fun b hb hne => .inl (evs_block HB.out.2.1 hb hne)) q1)
       have HI3 := Lib.hid q2
       have k3 : w6.cell? ⟨w.heap.size, 3, none⟩ = some (.string s) := by rw [Lib.cell_of_heap hG]; rfl
       have k4 : w6.cell? ⟨w.heap.size, 4, none⟩ = some (.int .i64 ex) := by rw [Lib.cell_of_heap hG]; rfl
       have k5 : w6.cell? ⟨w.heap.size, 5, none⟩ = some (.int .i64 se) := by rw [Lib.cell_of_heap hG]; rfl
       have k6 : w6.cell? ⟨w.heap.size, 6, none⟩ = some (.int .i64 sq) := by rw [Lib.cell_of_heap hG]; rfl
       have k7 : w6.cell? ⟨w.heap.size, 7, none⟩ = some (.slice sa sl sc) := by rw [Lib.cell_of_heap hG]; rfl
       rw [decide_eq_true hc.1, decide_eq_true hc.2]
       clear q1 q2 h6 hG hb hc HFE HFL HI2 H2
       go_wp2_with fail
       refine HPR.out.mono ?_
       rintro e w8 ⟨rfl, h8⟩
       have H8 := Lib.hid h8.unfix
       clear HPR h8 k3 k4 k5 k6 k7
       go_wp2
       go_end0
       exact ⟨rfl, es2, f3, n3, nums3, L3, HI3, H8⟩
     · have H8 := Lib.hid h6.unfix
       have HI3 := Lib.hid (HI2.out.wide)
       rw [show (decide (0 < F) && decide (F % 2 = odd)) = false by
         by_cases h1 : 0 < F
         · rw [decide_eq_false (fun h2 => hc ⟨h1, h2⟩), Bool.and_false]
         · rw [decide_eq_false h1, Bool.false_and]]
       clear h6 hG hb hc HFE HFL HI2 H2
       go_wp2
       go_end0
       exact ⟨rfl, es2, f2, next, nums, L, HI3, H8⟩
end Go.Proofs.YtgddgipjpdjoaaaGreatDoor
namespace Go.Proofs.YtgddgipjpdjoaaaGreatDoor
open Go.RowKit Go.Shelf
theorem told_snoc {ms : List (Int × Int)} {i : Nat} (hi : i < ms.length) (p : Int) : Mk.told p 0 (ms.take (i + 1)) = if ms[i].2 ≤ p then ms[i].1 else Mk.told p 0 (ms.take i) := by
 rw [List.take_add_one, List.getElem?_eq_getElem hi]
 show Mk.told p 0 (ms.take i ++ [ms[i]]) = _
 rw [Mk.told_append]
 rfl
set_option maxHeartbeats 4000000 in
theorem recordAt_any (v : Value) (ms : List (Int × Int)) (p : Int) (w : World) (hc : Cells w v 2 ms.length (markCells ms)) (hn : ms.length ≤ 1000000) :
   Calls Tryz.prog 63 #[v, .int .i64 p] w fun e w' => e = .returned (.int .i64 (Mk.told p 0 ms)) ∧ Below w.heap.size w w' := by
 obtain ⟨va, vc, rfl⟩ := cells_lenC hc
 have HC := Lib.hid hc
 clear hc
 go_enter Tryz.func63, Tryz.ntmps63
 go_wp2
 go_loopw [5, 10] (fun av iv wr => ∃ i : Nat, iv = .int .i64 i ∧ i ≤ ms.length ∧ av = .int .i64 (Mk.told p 0 (ms.take i)) ∧ Below w.heap.size w wr) (fun _ iv _ => ms.length - (intOf iv).toNat)
 case atStart => exact ⟨0, rfl, by omega, rfl, Below.refl _ _⟩
 case round =>
   obtain ⟨i, rfl, hi, rfl, hb⟩ := hrel
   obtain ⟨w7, rfl⟩ : ∃ w7, w7 = wr := ⟨_, rfl⟩
   by_cases hp : i < ms.length
   · rcases (Cells.next HC.out hb).2 with ⟨h0, _⟩ | ⟨vb, vo, vc2, hv, h2⟩
     · omega
     · cases hv
       obtain ⟨k0, k1⟩ := markCells_at ms i hp
       have k0 := h2 _ _ k0
       have k1 := h2 _ _ k1
       rw [← Nat.add_assoc] at k1
       have HT := Lib.hid (told_snoc hp p)
       obtain ⟨⟨e, f⟩, hef⟩ : ∃ m, ms[i] = m := ⟨_, rfl⟩
       rw [hef] at k0 k1 HT
       have HWI := Lib.hid (show wrap64 ((i : Int) + 1) = (i : Int) + 1 from IntWalk.wrap64_in _ (by omega))
       have HP := Lib.hid hp
       have HB := Lib.hid (hb.alloc hb.size (.cells #[.int .i64 e, .int .i64 f] 124))
       have hpi : (i : Int) < (ms.length : Int) := by omega
       clear hef h2 hi hb
       by_cases hfp : f ≤ p
       · have HT1 := Lib.hid (HT.out.trans (if_pos hfp))
         clear HT
         go_wp2
         try rw [HWI.out]
         exact ⟨⟨i + 1, rfl, HP.out, by rw [HT1.out], HB.out⟩, round_less17 HP.out⟩
       · have HT1 := Lib.hid (HT.out.trans (if_neg hfp))
         clear HT
         go_wp2
         try rw [HWI.out]
         exact ⟨⟨i + 1, rfl, HP.out, by rw [HT1.out], HB.out⟩, round_less17 HP.out⟩
   · have hpi : ¬ (i : Int) < (ms.length : Int) := by omega
     have hie : i = ms.length := by omega
     rw [hie, List.take_length]
     have HB := Lib.hid hb
     clear hie hb hi
     go_wp2
     go_ret
     exact ⟨rfl, HB.out⟩
end Go.Proofs.YtgddgipjpdjoaaaGreatDoor
