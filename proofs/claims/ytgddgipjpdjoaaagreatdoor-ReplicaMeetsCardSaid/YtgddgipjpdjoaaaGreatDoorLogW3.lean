/-
  The walk of a log's Append (layer 11).
  The walks of the searches among a log's parts (layer 11): slices.IndexFunc, slices.ContainsFunc; Truncate.
-/
import Derived.Test.YtgddgipjpdjoaaaGreatDoorLogW2
namespace Go.Proofs.YtgddgipjpdjoaaaGreatDoor
open Go.RowKit Go.Shelf
def Lg.BK (k : Nat) (s : Lg.S) : Prop := s.parts.length ≤ 900 ∧ s.es.length + k ≤ 500000 ∧ 0 ≤ s.next ∧ s.next + k ≤ 2147483648 ∧ ∀ p ∈ s.parts, 0 ≤ p.2 ∧ p.2 ≤ 1000000
theorem Lg.BK.bounded {k : Nat} {s : Lg.S} (h : Lg.BK k s) : Lg.Bounded s := ⟨by have := h.1; omega, by have := h.2.1; omega, h.2.2.1, by have := h.2.2.2.1; omega, h.2.2.2.2⟩
theorem Lg.newF_bk {room : Int} {k : Nat} {s s' : Lg.S} {fs fs' : List Dk.File} {m : Int} (h : Lg.BK (k + 1) s) (hr : Lg.newF room s fs = ((fs', s'), m, 0)) : m = 8 ∧ s'.parts ≠ [] ∧ s'.es = s.es ∧ Lg.BK k s' ∧ s'.next ≤ s.next + 1 := by
 obtain ⟨h1, h2, h3, h4, h5⟩ := h
 unfold Lg.newF at hr
 split at hr
 · simp at hr
 rename_i h30
 split at hr
 · rename_i hc
   simp only [Prod.mk.injEq] at hr
   exact absurd hr.2.2 hc
 split at hr
 · rename_i hc
   simp only [Prod.mk.injEq] at hr
   exact absurd hr.2.2 hc
 · simp only [Prod.mk.injEq] at hr
   obtain ⟨⟨_, rfl⟩, rfl, _⟩ := hr
   refine ⟨rfl, by simp, rfl, ⟨by simp only [List.length_append, List.length_singleton]; omega, by simp only; omega, by simp only; omega, by simp only; omega, fun p hp => ?_⟩, Int.le_refl _⟩
   rcases List.mem_append.1 hp with hp | hp
   · exact h5 p hp
   · rw [List.mem_singleton.1 hp]; simp only; omega
theorem Lg.BK.less {k j : Nat} {s : Lg.S} (h : Lg.BK k s) (hj : j ≤ k) : Lg.BK j s := ⟨h.1, by have := h.2.1; omega, h.2.2.1, by have := h.2.2.2.1; omega, h.2.2.2.2⟩
theorem Lg.roomF_bk {room : Int} {k : Nat} {s s' : Lg.S} {fs fs' : List Dk.File} {m : Int} (h : Lg.BK (k + 1) s) (hr : Lg.roomF room s fs = ((fs', s'), m, 0)) : 1 ≤ m ∧ m ≤ 1000008 ∧ s'.parts ≠ [] ∧ s'.es = s.es ∧ Lg.BK k s' := by
 unfold Lg.roomF at hr
 split at hr
 · obtain ⟨q1, q2, q3, q4, _⟩ := Lg.newF_bk h hr
   exact ⟨by omega, by omega, q2, q3, q4⟩
 · rename_i p hp
   split at hr
   · rename_i h8
     simp only [Prod.mk.injEq] at hr
     obtain ⟨⟨_, rfl⟩, rfl, _⟩ := hr
     have hm := h.2.2.2.2 p (List.mem_of_getLast? hp)
     exact ⟨by omega, by omega, fun e => (by rw [e] at hp; cases hp), rfl, h.less (by omega)⟩
   · obtain ⟨q1, q2, q3, q4, _⟩ := Lg.newF_bk h hr
     exact ⟨by omega, by omega, q2, q3, q4⟩
theorem Lg.BK.plus' {r k : Nat} {s : Lg.S} {m : List Evt.Entry} (h : Lg.BK k s) (he : s.es.length + m.length + r ≤ 500000) (hk : r ≤ k) : Lg.BK r (s.plus m) :=
 ⟨h.1, by simp only [Lg.S.plus, List.length_append]; omega, h.2.2.1, by have := h.2.2.2.1; simp only [Lg.S.plus]; omega, h.2.2.2.2⟩
theorem Lg.appF_nil (room : Int) (k : Nat) (s : Lg.S) (fs : List Dk.File) : Lg.appF room k [] s fs = ((fs, s), 0) := by
 cases k with
 | zero => rfl
 | succ k => rw [Lg.appF, if_pos rfl]
theorem Lg.appF_step {room : Int} {k c : Nat} {e : List Evt.Entry} {s s1 : Lg.S} {fs f1 : List Dk.File} {m : Int} (he : e ≠ []) (hr : Lg.roomF room s fs = ((f1, s1), m, c)) :
   Lg.appF room (k + 1) e s fs = if c ≠ 0 then ((f1, s1), c) else if (Seg.addD room (Lg.lastN s1) (e.take (min m.toNat e.length)) f1).2 ≠ 0 then (((Seg.addD room (Lg.lastN s1) (e.take (min m.toNat e.length)) f1).1, s1), (Seg.addD room (Lg.lastN s1) (e.take (min m.toNat e.length)) f1).2)
     else Lg.appF room k (e.drop (min m.toNat e.length)) (s1.plus (e.take (min m.toNat e.length))) (Seg.addD room (Lg.lastN s1) (e.take (min m.toNat e.length)) f1).1 := by
 rw [Lg.appF, if_neg he, hr]
theorem Lg.lastN_at {s : Lg.S} {x y : Int} {n : Nat} (hn : s.parts.length = n + 1) (h : s.parts[n]? = some (x, y)) : Lg.lastN s = x := by
 unfold Lg.lastN
 rw [List.getLast?_eq_getElem?, hn, Nat.add_sub_cancel, h]
def sliceLen : Value → Nat
 | .slice _ l _ => l
 | _ => 0
def CapOk : Value → Prop
 | .slice _ l c => l ≤ c
 | _ => True
variable {a w w' : World} {lg d : Nat} {room : Int} {s s' : Lg.S} {fs fs' : List Dk.File} {T X ft T2 ft2 : Nat → Prop} {pv ev lv : Value} {ps qs : List EnX}
theorem slice_behind {b o k lc n : Nat} (hk : k ≤ n) (hn : n ≤ lc) : ∃ o2, (if lc = k then some (⟨b, o, none⟩ : Addr) else some ⟨b, o + k * 7, none⟩) = some ⟨b, o2, none⟩ ∧ (o2 = o + k * 7 ∨ k = n) := by
 by_cases h : lc = k
 · exact ⟨o, by rw [if_pos h], .inr (by omega)⟩
 · exact ⟨o + k * 7, by rw [if_neg h], .inl rfl⟩
theorem Apart.take {Y : Nat → Prop} {b o c k : Nat} (h : Apart Y w (.slice (some ⟨b, o, none⟩) qs.length c) qs) (hk : k ≤ qs.length) (c' : Nat) : Apart Y w (.slice (some ⟨b, o, none⟩) k c') (qs.take k) :=
 ⟨ents_take h.ents hk c', fun b' hb' hne => h.row b' hb' (fun e => hne (by rw [e, List.take_nil])), fun p hp => h.out p (List.mem_of_mem_take hp)⟩
theorem Apart.drop {Y : Nat → Prop} {b o c k : Nat} (h : Apart Y w (.slice (some ⟨b, o, none⟩) qs.length c) qs) (hk : k ≤ qs.length) (o' c' : Nat) (ho : o' = o + k * 7 ∨ k = qs.length) : Apart Y w (.slice (some ⟨b, o', none⟩) (qs.length - k) c') (qs.drop k) :=
 ⟨ents_drop h.ents hk o' c' ho, fun b' hb' hne => h.row b' (by simpa [Value.ownBlock] using hb') (fun e => hne (by rw [e]; simp)), fun p hp => h.out p (List.mem_of_mem_drop hp)⟩
theorem Apart.evs {Y : Nat → Prop} (h : Apart Y w lv qs) : ∀ p ∈ qs, Evs w p.2 p.1.b.events ∧ Fine p.1 ∧ OutE Y p := fun p hp => ⟨(h.ents.2 p hp).1, (h.ents.2 p hp).2, h.out p hp⟩
theorem Apart.less {Y Z : Nat → Prop} (h : Apart Y w lv qs) (hz : ∀ j, Z j → Y j) : Apart Z w lv qs := ⟨h.ents, fun b hb hne hx => h.row b hb hne (hz b hx), fun p hp b hb hne hx => h.out p hp b hb hne (hz b hx)⟩
set_option maxHeartbeats 8000000 in
set_option maxRecDepth 100000 in
theorem logAppend_any {c : Nat} (h : Lay a lg d room s fs T X ft pv ev ps w) (hroom : room ≤ 1048576) (hB : Lg.BK qs.length s) (hq : Apart X w lv qs) (hcap : CapOk lv) (hqn : qs.length ≤ 1000) (hr : Lg.appendF room (plainE qs) s fs = ((fs', s'), c)) :
   Calls Tryz.prog 43 #[.pointer (some ⟨lg, 0, none⟩), lv] w fun e w' => e = .returned (.int .i64 (c : Int)) ∧ LStep a lg d room s' fs' T X w w' := by
 obtain ⟨la, lc, rfl⟩ := cells_slice hq.ents.1
 have HLA := Lib.hid (logLast_any h)
 have HEP := Lib.hid (logEpoch_any h (by rw [h.len]; have := hB.2.1; omega))
 have hes : s.es.length ≤ 500000 := by have := hB.2.1; omega
 have HLay := Lib.hid h
 have HQ := Lib.hid hq
 have HBK := Lib.hid hB
 have HR := Lib.hid hr
 clear h hq hB hr
 go_enter Tryz.func43, Tryz.ntmps43
 go_wp2_with fail
 refine HLA.out.mono ?_
 rintro e w1 ⟨rfl, rfl⟩
 go_wp2_with fail
 refine HEP.out.mono ?_
 rintro e w1 ⟨rfl, b1⟩
 have HFO := Lib.hid (follows_any (.slice la qs.length lc) qs (s.es.length : Int) (Lg.epochOf s.es) w1 (HLay.out.next b1).env (HQ.out.ents.next b1) (by omega) (by omega) (by omega))
 go_wp2_with fail
 refine HFO.out.mono ?_
 rintro e w2 ⟨rfl, b2⟩
 have hb2 : Below w.heap.size w w2 := Below.up b1 (Nat.le_refl _) b2
 cases hf : Evt.follows (plainE qs) (s.es.length : Int) (Lg.epochOf s.es) with
 | false =>
   have HR1 := Lib.hid (show fs' = fs ∧ s' = s ∧ c = 11 by
     have := HR.out
     rw [Lg.appendF, if_neg (by rw [hf]; simp)] at this
     simp only [Prod.mk.injEq] at this
     exact ⟨this.1.1.symm, this.1.2.symm, this.2.symm⟩)
   have HB2 := Lib.hid hb2
   clear hf HR b2 b1 hb2
   go_wp2
   go_ret
   obtain ⟨rfl, rfl, rfl⟩ := HR1.out
   exact ⟨rfl, LStep.refl ⟨_, _, _, _, HLay.out⟩ HB2.out⟩
 | true =>
   have HR1 := Lib.hid (show Lg.appF room qs.length (plainE qs) s fs = ((fs', s'), c) by
     have := HR.out
     rw [Lg.appendF, if_pos hf] at this
     rw [← this]; simp [plainE])
   have HM0 := Lib.hid ((LMid.start HLay.out).next hb2)
   have HQ0 := Lib.hid (HQ.out.next hb2)
   have hXT : ∀ j, T j → X j := HLay.out.subX
   clear hf HR b2 b1 hb2 HFO HEP HLA
   go_wp2
   go_loopw [1] (fun vv wr => ∃ (rs : List EnX) (k : Nat) (s1 : Lg.S) (f1 : List Dk.File) (T2 ft2 : Nat → Prop) (p1 e1 : Value) (q1 : List EnX) (ra : Option Addr) (rc : Nat), vv = .slice ra rs.length rc ∧ rs.length ≤ rc ∧ rs.length ≤ 1000 ∧ rs.length ≤ k ∧ Hid (Lg.appF room k (plainE rs) s1 f1 = ((fs', s'), c)) ∧ Hid (Lg.BK rs.length s1) ∧
     Hid (LMid a lg d room T X w s1 f1 T2 ft2 p1 e1 q1 wr) ∧ Hid (Apart (fun j => X j ∨ T2 j) wr (.slice ra rs.length rc) rs)) (fun vv _ => sliceLen vv)
   case atStart => exact ⟨qs, qs.length, s, fs, T, ft, pv, ev, ps, la, lc, rfl, hcap, hqn, Nat.le_refl _, HR1, HBK, HM0, Lib.hid (HQ0.out.less (fun j hj => by rcases hj with hj | hj; exact hj; exact hXT j hj))⟩
   case round =>
     obtain ⟨rs, k, s1, f1, T2, ft2, p1, e1, q1, ra, rc, rfl, hrc, hr1000, hrk, HA, HK, HM, HP⟩ := hrel
     by_cases h0 : rs.length = 0
     · have hrs : rs = [] := List.eq_nil_of_length_eq_zero h0
       have HF := Lib.hid (show fs' = f1 ∧ s' = s1 ∧ c = 0 by
         have := HA.out
         rw [hrs, show plainE ([] : List EnX) = [] from rfl, Lg.appF_nil] at this
         simp only [Prod.mk.injEq] at this
         exact ⟨this.1.1.symm, this.1.2.symm, this.2.symm⟩)
       have hz : ¬ 0 < rs.length := by omega
       clear hrs HA
       go_wp2
       go_ret
       obtain ⟨rfl, rfl, rfl⟩ := HF.out
       exact ⟨rfl, HM.out.step⟩
     · have hz : 0 < rs.length := by omega
       obtain ⟨k, rfl⟩ : ∃ j, k = j + 1 := ⟨k - 1, by omega⟩
       obtain ⟨n0, hn0⟩ : ∃ n, rs.length = n + 1 := ⟨rs.length - 1, by omega⟩
       obtain ⟨⟨⟨f2, s2⟩, m, c2⟩, hRF⟩ : ∃ P, Lg.roomF room s1 f1 = P := ⟨_, rfl⟩
       have hne : plainE rs ≠ [] := fun e => by
         have := congrArg List.length e
         simp only [plainE, List.length_map, List.length_nil] at this; omega
       have hpl : (plainE rs).length = rs.length := by simp [plainE]
       have HS := Lib.hid (HA.out.symm.trans (Lg.appF_step hne hRF))
       have HRM := Lib.hid (logRoom_any HM.out.lay HK.out.bounded hRF)
       have HRF := Lib.hid hRF
       have HPL := Lib.hid hpl
       have HN0 := Lib.hid hn0
       clear hne HA hRF hpl hn0 h0
       go_wp2_with fail
       refine HRM.out.mono ?_
       rintro e w3 ⟨rfl, T3, ⟨ft3, pv3, ev3, ps3, hL3⟩, m3, n3, t3⟩
       have hM3 := HM.out.of hL3 m3 n3 t3
       have hP3 := HP.out.mid t3 n3
       have HM3 := Lib.hid hM3
       have HP3 := Lib.hid hP3
       clear HRM hL3 m3 n3 t3 hM3 hP3 HM HP
       by_cases hc2 : c2 = 0
       · subst hc2
         have HS := Lib.hid (HS.out.trans (if_neg (by simp)))
         obtain ⟨q1, q2, q3, q4, q5⟩ := Lg.roomF_bk (k := n0) (by have := HK.out; rw [HN0.out] at this; exact this) HRF.out
         obtain ⟨mn, rfl⟩ : ∃ mn : Nat, m = (mn : Int) := ⟨m.toNat, by omega⟩
         obtain ⟨j, hj⟩ : ∃ j, min mn rs.length = j := ⟨_, rfl⟩
         have hj1 : 1 ≤ j := by omega
         have hj2 : j ≤ rs.length := by omega
         have hjm : min (mn : Int) (rs.length : Int) = (j : Int) := by omega
         rw [Int.toNat_natCast, HPL.out, hj] at HS
         obtain ⟨np, hnp⟩ : ∃ n, s2.parts.length = n + 1 := ⟨s2.parts.length - 1, by have := List.length_pos_iff.2 q3; omega⟩
         obtain ⟨⟨x, y⟩, hxy⟩ : ∃ x, s2.parts[np]'(by omega) = x := ⟨_, rfl⟩
         obtain ⟨b, o, c', hv, z0, z1⟩ := partAt (cells_of_owns HM3.out.lay.parts) np (by omega) hxy
         subst hv
         rw [Lg.lastN_at hnp (show s2.parts[np]? = some (x, y) by rw [List.getElem?_eq_getElem (by omega), hxy])] at HS
         obtain ⟨⟨f3, c3⟩, hAD⟩ : ∃ P, Seg.addD room x (plainE (rs.take j)) f2 = P := ⟨_, rfl⟩
         have htk : (plainE rs).take j = plainE (rs.take j) := by simp [plainE, List.map_take]
         have hdr : (plainE rs).drop j = plainE (rs.drop j) := by simp [plainE, List.map_drop]
         rw [htk, hdr, hAD] at HS
         simp only at HS
         obtain ⟨rb, ro, rfl⟩ : ∃ rb ro, ra = some ⟨rb, ro, none⟩ := by
           rcases HP3.out.ents.1.2 with ⟨h0, _⟩ | ⟨b1, o1, c1, e, _⟩
           · omega
           · cases e; exact ⟨_, _, rfl⟩
         have hPt := HP3.out.take hj2 rc
         have HADD := segAdd_any a d room x f2 ft3 (.slice (some ⟨rb, ro, none⟩) j rc) (rs.take j) w3.drew (HM3.out.next (Below.refl _ w3).drew).lay.baseD (HM3.out.next (Below.refl _ w3).drew).lay.disk hroom (hPt.next (Below.refl _ w3).drew).ents (by rw [List.length_take]; omega)
         rw [hAD] at HADD
         have HADD := Lib.hid HADD
         obtain ⟨d0, d1, d2, d3⟩ := HM3.out.lay.cells
         have hcc := And.intro d0 (And.intro d2 z0)
         have hG1 : ¬ ft3 lg := HM3.out.lay.tl.2
         have hG2 : ¬ ft3 b := (HM3.out.lay.tp b rfl).2.1
         have hw1 : IntKind.i64.wrap ((s2.parts.length : Int) - 1) = (np : Int) := by
           have : s2.parts.length ≤ 900 := q5.1
           rw [IntKind.wrap_i64]; omega
         have hw5 : ((np : Int)).toNat = np := by omega
         have hlt : (np : Int) < (s2.parts.length : Int) := by omega
         have hlt2 : np < s2.parts.length := by omega
         have hjc : j ≤ rc := by omega
         have HQ5 := Lib.hid (And.intro q3 (And.intro q4 q5))
         have HDR := Lib.hid hdr
         clear hPt d0 d1 d3 q1 q2 q3 q4 q5 hnp hxy hAD htk hdr z1 hj
         go_wp2
         go_region_held3 (fun Z => Z.cell? ⟨lg, 0, none⟩ = some (.pointer (some ⟨d, 0, none⟩)) ∧ Z.cell? ⟨lg, 2, none⟩ = some (.slice (some ⟨b, o, none⟩) s2.parts.length c') ∧ Z.cell? ⟨b, o + np * 2, none⟩ = some (.int .i64 x))
           (first | exact hcc | exact ⟨turn_cell hds.choose_spec.2.2 hG1 hcc.1, turn_cell hds.choose_spec.2.2 hG1 hcc.2.1, turn_cell hds.choose_spec.2.2 hG2 hcc.2.2⟩)
           (first | (go_at_call 101; refine HADD.out.mono ?_; rintro e w4 ⟨rfl, hds⟩))
         obtain ⟨T4, ft4, hM4, m4, n4, t4⟩ := (HM3.out.next (Below.refl _ w3).drew).disked2 hds
         have hP4 := (HP3.out.next (Below.refl _ w3).drew).mid t4 n4
         have HM4 := Lib.hid hM4
         have HP4 := Lib.hid hP4
         clear hds hM4 hP4 m4 n4 t4 HADD hcc HM3 HP3 d2 z0
         by_cases hc3 : c3 = 0
         · subst hc3
           have HS := Lib.hid (HS.out.trans (if_neg (by simp)))
           obtain ⟨ea, ec, rfl⟩ := cells_slice (cells_of_owns HM4.out.lay.ents)
           have hL5 := (HM4.out.next (Below.refl _ w4).drew).lay
           have hPt := (HP4.out.next (Below.refl _ w4).drew).take hj2 rc
           have hoc := enCells_out hPt.evs
           have hps3 : ps3.length ≤ 500000 := by
             have := HM4.out.lay.len
             have h2 := HQ5.out.2.2.2.1
             omega
           have hjl : (rs.take j).length = j := by rw [List.length_take]; omega
           have hx : Cells w4.drew (.slice (some ⟨rb, ro, none⟩) j rc) 7 j (enCells (rs.take j)) := by
             have := hPt.ents.1
             rwa [hjl] at this
           have HL5 := Lib.hid hL5
           have HE5 := Lib.hid hPt.evs
           have HX5 := Lib.hid hx
           have HJL := Lib.hid hjl
           obtain ⟨d0, d1, d2, d3⟩ := HM4.out.lay.cells
           clear hL5 hPt hx hjl HADD d0 d1 d2
           go_upto_region 11 with fail
           go_cut [] (fun wx => ∃ v9 T5 ft5, Lay a lg d room (s2.plus (plainE (rs.take j))) f3 T5 (fun j => (X j ∨ T4 j) ∨ T5 j) ft5 (.slice (some ⟨b, o, none⟩) s2.parts.length c') v9 (ps3 ++ rs.take j) wx ∧ (∀ j, T4 j → T5 j) ∧ (∀ j, T5 j → T4 j ∨ w4.drew.heap.size ≤ j) ∧ Turn T4 w4.drew wx)
           case first =>
             go_region_law (first
               | (refine step_append_at rfl _ _ rfl enT a.heap.size (.slice ea ps3.length ec) ps3.length (enCells ps3) rfl HL5.out.ents _ j (enCells (rs.take j)) rfl HX5.out hoc (by omega) HL5.out.base.below.size ?_
                  intro v9 wa hown hga hbl
                  obtain ⟨va9, vc9, rfl⟩ := cells_slice (cells_of_owns hown)
                  have HP := Lib.hid (HL5.out.entsPut (qs := rs.take j) HE5.out (by rw [HJL.out]; exact hown) hga hbl)
                  have hlw := HP.out.1.trans HL5.out.log
                  have d3' : wa.cell? ⟨lg, 3, none⟩ = some (.slice ea ps3.length ec) := by rw [Lib.cell_of_heap hlw]; rfl
                  have f3' := Lib.frozen_of_heap hlw 3
                  clear hown hga hbl hlw))
             all_goals go_wp2
             all_goals go_meet
             all_goals exact ⟨_, HP.out.2⟩
           case rest =>
             obtain ⟨v9, T5, ft5, hL6, m6, n6, t6⟩ := hcut
             have HM6 := Lib.hid ((HM4.out.next (Below.refl _ w4).drew).of hL6 m6 n6 t6)
             have hP6 := (HP4.out.next (Below.refl _ w4).drew).mid t6 n6
             obtain ⟨o2, ho2, hor⟩ := slice_behind (b := rb) (o := ro) hj2 hrc
             have HP6 := Lib.hid (hP6.drop hj2 o2 (rc - j) hor)
             have hlen : rs.length - j = (rs.drop j).length := List.length_drop.symm
             have HLN := Lib.hid hlen
             have HOR := Lib.hid hor
             clear hL6 m6 n6 t6 hP6 hlen hor d3
             go_wp2
             refine ⟨⟨rs.drop j, k, s2.plus (plainE (rs.take j)), f3, T5, ft5, _, v9, ps3 ++ rs.take j, some ⟨rb, o2, none⟩, rc - j, by rw [HLN.out], by rw [← HLN.out]; omega, by rw [← HLN.out]; omega, by rw [← HLN.out]; omega, Lib.hid HS.out.symm, ?_, HM6, by rw [← HLN.out]; exact HP6⟩, ?_⟩
             · have h2 : (plainE (rs.take j)).length = j := by rw [← HJL.out]; simp [plainE]
               have h3 := HK.out.2.1
               refine Lib.hid (HQ5.out.2.2.plus' ?_ ?_)
               · rw [h2, HQ5.out.2.1, ← HLN.out]; omega
               · rw [← HLN.out, HN0.out]; omega
             · simp only [sliceLen]; omega
         · have HF := Lib.hid (show fs' = f3 ∧ s' = s2 ∧ c = c3 by
             have := HS.out
             rw [if_pos hc3] at this
             simp only [Prod.mk.injEq] at this
             exact ⟨this.1.1, this.1.2, this.2⟩)
           have hcb : ((c3 : Int) != 0) = true := by rw [bne_iff_ne]; omega
           clear HS
           go_wp2
           go_ret
           obtain ⟨rfl, rfl, rfl⟩ := HF.out
           exact ⟨rfl, HM4.out.step⟩
       · have HF := Lib.hid (show fs' = f2 ∧ s' = s2 ∧ c = c2 by
           have := HS.out
           rw [if_pos hc2] at this
           simp only [Prod.mk.injEq] at this
           exact ⟨this.1.1, this.1.2, this.2⟩)
         have hcb : ((c2 : Int) != 0) = true := by rw [bne_iff_ne]; omega
         clear HS
         go_wp2
         go_ret
         obtain ⟨rfl, rfl, rfl⟩ := HF.out
         exact ⟨rfl, HM3.out.step⟩
end Go.Proofs.YtgddgipjpdjoaaaGreatDoor
namespace Go.Proofs.YtgddgipjpdjoaaaGreatDoor
open Go.RowKit Go.Shelf
theorem Lg.keepP_go {last : Int} {ms : List (Int × Int)} {i : Nat} {x y : Int} (hi : i < ms.length) (hx : ms[i] = (x, y)) (hy : y ≤ last) (h : Lg.keepP last ms = i + Lg.keepP last (ms.drop i)) : Lg.keepP last ms = (i + 1) + Lg.keepP last (ms.drop (i + 1)) := by
 rw [h, List.drop_eq_getElem_cons hi, hx]
 unfold Lg.keepP
 rw [List.takeWhile_cons, if_pos (by simpa using hy), List.length_cons]; omega
theorem Lg.keepP_stop {last : Int} {ms : List (Int × Int)} {i : Nat} {x y : Int} (hi : i < ms.length) (hx : ms[i] = (x, y)) (hy : ¬ y ≤ last) (h : Lg.keepP last ms = i + Lg.keepP last (ms.drop i)) : Lg.keepP last ms = i := by
 rw [h, List.drop_eq_getElem_cons hi, hx]
 unfold Lg.keepP
 rw [List.takeWhile_cons, if_neg (by simpa using hy), List.length_nil]; omega
theorem Lg.keepP_end {last : Int} {ms : List (Int × Int)} {i : Nat} (hi : ms.length ≤ i) (h : Lg.keepP last ms = i + Lg.keepP last (ms.drop i)) : Lg.keepP last ms = i := by
 rw [h, List.drop_eq_nil_of_le hi]; rfl
set_option maxHeartbeats 1000000 in
theorem truncFn_any (bx : Nat) (last x y : Int) (w : World) (hb : w.cell? ⟨bx, 0, none⟩ = some (.int .i64 last)) :
   Calls Tryz.prog 169 #[.agg #[.int .i64 x, .int .i64 y], .pointer (some ⟨bx, 0, none⟩)] w fun e w' => e = .returned (.bool (decide (last < y))) ∧ Below w.heap.size w w' := by
 have ba : Below w.heap.size w (w.alloc (.cells #[.int .i64 x, .int .i64 y] 169)) := (Below.refl _ _).alloc (Nat.le_refl _) _
 have hb := cell_kept ba (Nat.le_refl _) hb
 have HB := Lib.hid ba
 clear ba
 go_enter Tryz.func169, Tryz.ntmps169
 go_wp2
 go_ret
 exact ⟨rfl, HB.out⟩
set_option maxHeartbeats 1000000 in
theorem openFn_any (bx : Nat) (n x y : Int) (w : World) (hb : w.cell? ⟨bx, 0, none⟩ = some (.int .i64 n)) :
   Calls Tryz.prog 82 #[.agg #[.int .i64 x, .int .i64 y], .pointer (some ⟨bx, 0, none⟩)] w fun e w' => e = .returned (.bool (x == n)) ∧ Below w.heap.size w w' := by
 have ba : Below w.heap.size w (w.alloc (.cells #[.int .i64 x, .int .i64 y] 169)) := (Below.refl _ _).alloc (Nat.le_refl _) _
 have hb := cell_kept ba (Nat.le_refl _) hb
 have HB := Lib.hid ba
 clear ba
 go_enter Tryz.func82, Tryz.ntmps82
 go_wp2
 go_ret
 exact ⟨rfl, HB.out⟩
set_option maxHeartbeats 2000000 in
set_option maxRecDepth 100000 in
theorem indexKeep_any (v : Value) (ms : List (Int × Int)) (bx : Nat) (last : Int) (w : World) (hc : Cells w v 2 ms.length (partCells ms)) (hn : ms.length ≤ 1000000) (hb : w.cell? ⟨bx, 0, none⟩ = some (.int .i64 last)) :
   Calls Tryz.prog 148 #[v, .func (.func 169) #[] #[.pointer (some ⟨bx, 0, none⟩)]] w fun e w' => ∃ r : Int, e = .returned (.int .i64 r) ∧ (Lg.keepP last ms < ms.length ∧ r = (Lg.keepP last ms : Int) ∨ Lg.keepP last ms = ms.length ∧ r = -1) ∧ Below w.heap.size w w' := by
 obtain ⟨va, vc, rfl⟩ := cells_slice hc
 have HC := Lib.hid hc
 have HBX := Lib.hid hb
 clear hc hb
 go_enter Tryz.func148, Tryz.ntmps148
 go_wp2
 go_loopw [8] (fun lv wr => ∃ i : Nat, lv = .int .i64 i ∧ i ≤ ms.length ∧ Below w.heap.size w wr ∧ Hid (Lg.keepP last ms = i + Lg.keepP last (ms.drop i))) (fun lv _ => ms.length - (intOf lv).toNat)
 case atStart => exact ⟨0, rfl, by omega, Below.refl _ _, Lib.hid (by simp)⟩
 case round =>
   obtain ⟨i, rfl, hi, hbw, HK⟩ := hrel
   by_cases hp : i < ms.length
   · obtain ⟨⟨x, y⟩, hx⟩ : ∃ x, ms[i] = x := ⟨_, rfl⟩
     obtain ⟨b, o, c, hv, q0, q1⟩ := partAt HC.out i hp hx
     cases hv
     have q0 := cell_kept hbw (Nat.le_refl _) q0
     have q1 := cell_kept hbw (Nat.le_refl _) q1
     have HF := Lib.hid (truncFn_any bx last x y wr (cell_kept hbw (Nat.le_refl _) HBX.out))
     have HX := Lib.hid hx
     have HBW := Lib.hid hbw
     clear hx hbw
     go_wp2_with fail
     refine HF.out.mono ?_
     rintro e w1 ⟨rfl, b1⟩
     have hb1 := Below.up HBW.out (Nat.le_refl _) b1
     by_cases hy : last < y
     · have HE := Lib.hid (Lg.keepP_stop hp HX.out (by omega) HK.out)
       have HB1 := Lib.hid hb1
       clear hb1 b1 HF HK HX
       go_wp2
       go_ret
       exact ⟨_, rfl, .inl ⟨by rw [HE.out]; omega, by rw [HE.out]⟩, HB1.out⟩
     · have HE := Lib.hid (Lg.keepP_go hp HX.out (by omega) HK.out)
       clear b1 HF HK HX
       go_wp2
       exact ⟨⟨i + 1, by go_num, by omega, hb1, HE⟩, by simp [intOf]; omega⟩
   · have HE := Lib.hid (Lg.keepP_end (by omega) HK.out)
     obtain rfl : i = ms.length := by omega
     clear HK
     go_wp2
     go_ret
     exact ⟨-1, rfl, .inr ⟨HE.out, rfl⟩, hbw⟩
set_option maxHeartbeats 2000000 in
set_option maxRecDepth 100000 in
theorem indexHas_any (v : Value) (ms : List (Int × Int)) (bx : Nat) (n : Int) (w : World) (hc : Cells w v 2 ms.length (partCells ms)) (hn : ms.length ≤ 1000000) (hb : w.cell? ⟨bx, 0, none⟩ = some (.int .i64 n)) :
   Calls Tryz.prog 148 #[v, .func (.func 82) #[] #[.pointer (some ⟨bx, 0, none⟩)]] w fun e w' => ∃ r : Int, e = .returned (.int .i64 r) ∧ Hid (decide (0 ≤ r) = ms.any fun p => p.1 == n) ∧ Below w.heap.size w w' := by
 obtain ⟨va, vc, rfl⟩ := cells_slice hc
 have HC := Lib.hid hc
 have HBX := Lib.hid hb
 clear hc hb
 go_enter Tryz.func148, Tryz.ntmps148
 go_wp2
 go_loopw [8] (fun lv wr => ∃ i : Nat, lv = .int .i64 i ∧ i ≤ ms.length ∧ Below w.heap.size w wr ∧ Hid ((ms.any fun p => p.1 == n) = (ms.drop i).any fun p => p.1 == n)) (fun lv _ => ms.length - (intOf lv).toNat)
 case atStart => exact ⟨0, rfl, by omega, Below.refl _ _, Lib.hid (by simp)⟩
 case round =>
   obtain ⟨i, rfl, hi, hbw, HK⟩ := hrel
   by_cases hp : i < ms.length
   · obtain ⟨⟨x, y⟩, hx⟩ : ∃ x, ms[i] = x := ⟨_, rfl⟩
     obtain ⟨b, o, c, hv, q0, q1⟩ := partAt HC.out i hp hx
     cases hv
     have q0 := cell_kept hbw (Nat.le_refl _) q0
     have q1 := cell_kept hbw (Nat.le_refl _) q1
     have HF := Lib.hid (openFn_any bx n x y wr (cell_kept hbw (Nat.le_refl _) HBX.out))
     have HX := Lib.hid (show (ms.any fun p => p.1 == n) = ((x == n) || (ms.drop (i + 1)).any fun p => p.1 == n) by rw [HK.out, List.drop_eq_getElem_cons hp, hx]; rfl)
     have HBW := Lib.hid hbw
     clear hx hbw HK
     go_wp2_with fail
     refine HF.out.mono ?_
     rintro e w1 ⟨rfl, b1⟩
     have hb1 := Below.up HBW.out (Nat.le_refl _) b1
     cases hy : x == n with
     | true =>
       have HE := Lib.hid (show (ms.any fun p => p.1 == n) = true by rw [HX.out, hy]; rfl)
       have HB1 := Lib.hid hb1
       clear hb1 b1 HF HX hy
       go_wp2
       go_ret
       exact ⟨_, rfl, Lib.hid (by rw [HE.out]; simp), HB1.out⟩
     | false =>
       have HE := Lib.hid (show (ms.any fun p => p.1 == n) = (ms.drop (i + 1)).any fun p => p.1 == n by rw [HX.out, hy]; rfl)
       clear b1 HF HX hy
       go_wp2
       exact ⟨⟨i + 1, by go_num, by omega, hb1, HE⟩, by simp [intOf]; omega⟩
   · have HE := Lib.hid (show (ms.any fun p => p.1 == n) = false by rw [HK.out, List.drop_eq_nil_of_le (by omega)]; rfl)
     obtain rfl : i = ms.length := by omega
     clear HK
     go_wp2
     go_ret
     exact ⟨-1, rfl, Lib.hid (by rw [HE.out]; rfl), hbw⟩
set_option maxHeartbeats 1000000 in
theorem containsHas_any (v : Value) (ms : List (Int × Int)) (bx : Nat) (n : Int) (w : World) (hc : Cells w v 2 ms.length (partCells ms)) (hn : ms.length ≤ 1000000) (hb : w.cell? ⟨bx, 0, none⟩ = some (.int .i64 n)) :
   Calls Tryz.prog 81 #[v, .func (.func 82) #[] #[.pointer (some ⟨bx, 0, none⟩)]] w fun e w' => e = .returned (.bool (ms.any fun p => p.1 == n)) ∧ Below w.heap.size w w' := by
 have HI := Lib.hid (indexHas_any v ms bx n w hc hn hb)
 clear hc hb
 go_enter Tryz.func81, Tryz.ntmps81
 go_wp2_with fail
 refine HI.out.mono ?_
 rintro e w1 ⟨r, rfl, HR, b1⟩
 have HB := Lib.hid b1
 clear b1 HI
 go_wp2
 go_ret
 exact ⟨by rw [← HR.out]; rfl, HB.out⟩
end Go.Proofs.YtgddgipjpdjoaaaGreatDoor
