/-
  The walk of the law LogTears.
-/
import Derived.Test.YtbknlffebcbjfaaGreatDoorLogE
import Derived.Test.YtbknlffebcbjfaaGreatDoorLawLKe
import Derived.Test.YtbknlffebcbjfaaGreatDoorClone
namespace Go.Proofs.YtbknlffebcbjfaaGreatDoor
open Go.RowKit Go.Shelf

theorem LL.isDisk {R : (Nat → Prop) → World → Prop} {a w : World} {P lg d : Nat} {mv : Value} {room : Int} {s : Lg.S} {fs : List Dk.File} (h : LL R a P d mv room lg s fs w) : ∃ ft, IsDisk w d room fs ft := by
  obtain ⟨T, X, ⟨ft, pv, ev, ps, hL⟩, _⟩ := h; exact ⟨ft, hL.disk⟩
theorem app_ll {R : (Nat → Prop) → World → Prop} {a w : World} {P lg d : Nat} {mv : Value} {room : Int} {s0 : Lg.S} {fs fs' : List Dk.File} {nm s : ByteArray} {c : Nat} (h : LL R a P d mv room lg s0 fs w) (hR : Stable R) (hn : nm.size ≤ 1000000000) (hs : s.size ≤ 1000000000000) (hc : Dk.append room nm.data.toList s fs = (fs', c)) :
    Calls Tryz.prog 41 #[.pointer (some ⟨d, 0, none⟩), .string nm, .string s] w fun e w' => e = .returned (.int .i64 (c : Int)) ∧ LL R a P d mv room lg s0 fs' w' := by
  obtain ⟨T, X, ⟨ft, pv, ev, ps, hL⟩, h2, h3, h4⟩ := h
  refine (diskAppend_any d room fs ft nm s w hL.env hL.disk hn hs).mono ?_
  rintro e w' ⟨rfl, hd⟩
  rw [hc] at hd ⊢
  obtain ⟨T3, ft3, hM, _, _⟩ := (LMid.start hL).disked hd
  exact ⟨rfl, LL.of_step hR ⟨ft, pv, ev, ps, hL⟩ h2 h3 h4 hM.step⟩
theorem read_q {R : (Nat → Prop) → World → Prop} {a w : World} {P lg d : Nat} {mv : Value} {room : Int} {s0 : Lg.S} {fs : List Dk.File} {nm s : ByteArray} {c : Nat} (h : LL R a P d mv room lg s0 fs w) (hn : nm.size ≤ 1000000000000) (hc : Dk.read nm.data.toList fs = (s, c)) :
    Calls Tryz.prog 40 #[.pointer (some ⟨d, 0, none⟩), .string nm] w fun e w' => e = .returned (.tuple #[.string s, .int .i64 (c : Int)]) ∧ w' = w := by
  obtain ⟨ft, hd⟩ := h.isDisk
  refine (diskRead_any d room fs ft nm w hd hn).mono ?_
  rintro e w' ⟨rfl, rfl⟩
  rw [hc]
  exact ⟨rfl, rfl⟩
theorem diskList_any {d : Nat} {room : Int} {fs : List Dk.File} {ft : Nat → Prop} {w : World} (h : IsDisk w d room fs ft) :
    Calls Tryz.prog 39 #[.pointer (some ⟨d, 0, none⟩)] w fun e w' => ∃ sa sc, e = .returned (.slice sa fs.length sc) ∧ Hid (w'.ownsRow w.heap.size 9 1 (.slice sa fs.length sc) fs.length (strCells (fs.map (·.name)))) ∧ Below w.heap.size w w' := by
  obtain ⟨bm, D, g, h⟩ := h
  exact diskList_rep w h
theorem apart_old {X : Nat → Prop} {w0 w : World} {v : Value} {ps : List EnX} (h : Ents w0 v ps) (hb : Below w0.heap.size w0 w) (hX : ∀ j, X j → w0.heap.size ≤ j) : Apart X w v ps :=
  ⟨⟨Cells.next h.1 hb, fun p hp => ⟨Cells.next (h.2 p hp).1 hb, (h.2 p hp).2⟩⟩, fun b hb' hne hx => by have := ents_block h hb' hne; have := hX b hx; omega, fun p hp b hb' hne hx => by have := evs_block (h.2 p hp).1 hb' hne; have := hX b hx; omega⟩
/-- What is kept beside the torn disk: the entries, the other disk, the names. -/
structure TR (v : Value) (ps : List EnX) (d2 : Nat) (f2 : List Dk.File) (nv : Value) (X : Nat → Prop) (w : World) : Prop where
  row : Apart X w v ps
  disk : ∃ g2, IsDisk w d2 50000 f2 g2 ∧ ∀ j, g2 j → ¬ X j ∧ j < w.heap.size
  names : Cells w nv 1 f2.length (strCells (f2.map (·.name))) ∧ ∀ b, nv.ownBlock = some b → ¬ X b ∧ b < w.heap.size
theorem stable_tr (v : Value) (ps : List EnX) (d2 : Nat) (f2 : List Dk.File) (nv : Value) : Stable (TR v ps d2 f2 nv) := by
  intro X X' w w' h ht hX
  obtain ⟨g2, hd, hg⟩ := h.disk
  have go : ∀ j, ¬ X j ∧ j < w.heap.size → ¬ X' j ∧ j < w'.heap.size := fun j ⟨h1, h2⟩ => ⟨fun e => by
    rcases hX j e with e | e
    · exact h1 e
    · omega, Nat.lt_of_lt_of_le h2 ht.size⟩
  exact ⟨h.row.step ht hX, ⟨g2, hd.other ht (fun j hj => (hg j hj).1), fun j hj => go j (hg j hj)⟩, cells_turn h.names.1 (fun b hb => (h.names.2 b hb).1) ht, fun b hb => go b (h.names.2 b hb)⟩
theorem Apart.dropV {Y : Nat → Prop} {w : World} {va : Option Addr} {c k : Nat} {q : List EnX} (h : Apart Y w (.slice va q.length c) q) (hk : k ≤ q.length) (va' : Option Addr) (c' : Nat) (hv : va' = va ∧ q.length - k = 0 ∨ va' = va.map (fun x => x.add (k * 7))) : Apart Y w (.slice va' (q.length - k) c') (q.drop k) := by
  by_cases h0 : q.length - k = 0
  · have e : q.drop k = [] := List.drop_eq_nil_of_le (by omega)
    rw [e, h0]
    exact ⟨⟨⟨rfl, .inl ⟨rfl, va', c', rfl⟩⟩, fun p hp => (by cases hp)⟩, fun b _ hne => absurd rfl hne, fun p hp => (by cases hp)⟩
  · rcases hv with ⟨_, h1⟩ | rfl
    · exact absurd h1 h0
    · rcases h.ents.1.2 with ⟨h1, _⟩ | ⟨b, o, c2, e, _⟩
      · omega
      · cases e
        rw [Option.map_some, addr_add]
        exact Apart.drop h hk (o + k * 7) c' (.inl rfl)
theorem nameAt {w : World} {sa : Option Addr} {n sc : Nat} {l : List (List UInt8)} (h : Cells w (.slice sa n sc) 1 n (strCells l)) (i : Nat) (hi : i < n) {nm : List UInt8} (hx : l[i]? = some nm) : ∃ b o, sa = some ⟨b, o, none⟩ ∧ w.cell? ⟨b, o + i, none⟩ = some (.string ⟨nm.toArray⟩) := by
  rcases h.2 with ⟨h0, _⟩ | ⟨b, o, c, e, h2⟩
  · omega
  · cases e
    exact ⟨b, o, rfl, h2 i _ (by simp [strCells, hx])⟩
theorem LL.names {a w : World} {v nv : Value} {ps : List EnX} {d2 : Nat} {f2 : List Dk.File} {P lg d : Nat} {mv : Value} {room : Int} {s : Lg.S} {fs : List Dk.File} (h : LL (TR v ps d2 f2 nv) a P d mv room lg s fs w) : Cells w nv 1 f2.length (strCells (f2.map (·.name))) := by
  obtain ⟨_, _, _, _, _, h4⟩ := h; exact h4.names.1
theorem LL.other {a w : World} {v nv : Value} {ps : List EnX} {d2 : Nat} {f2 : List Dk.File} {P lg d : Nat} {mv : Value} {room : Int} {s : Lg.S} {fs : List Dk.File} (h : LL (TR v ps d2 f2 nv) a P d mv room lg s fs w) : ∃ g2, IsDisk w d2 50000 f2 g2 := by
  obtain ⟨_, _, _, _, _, h4⟩ := h
  obtain ⟨g2, h, _⟩ := h4.disk
  exact ⟨g2, h⟩
theorem LL.rowT {a w : World} {v nv : Value} {ps : List EnX} {d2 : Nat} {f2 : List Dk.File} {P lg d : Nat} {mv : Value} {room : Int} {s : Lg.S} {fs : List Dk.File} (h : LL (TR v ps d2 f2 nv) a P d mv room lg s fs w) : Ents w v ps := by
  obtain ⟨_, _, _, _, _, h4⟩ := h; exact h4.row.ents
theorem Lg.tearsF_next {room : Int} {f2 fs : List Dk.File} {l : List (List UInt8)} {i : Nat} {nm : List UInt8} (h : l[i]? = some nm) : Lg.tearsF room f2 (l.take (i + 1)) fs = Lg.tearF room f2 nm (Lg.tearsF room f2 (l.take i) fs) := by
  rw [List.take_add_one, h, Lg.tearsF_append]; rfl
theorem read_size {w : World} {d : Nat} {room : Int} {fs : List Dk.File} {ft : Nat → Prop} (h : IsDisk w d room fs ft) {k : List UInt8} {B : ByteArray} {eb : Nat} (hB : Dk.read k fs = (B, eb)) : B.size ≤ 2000000000 := by
  obtain ⟨_, _, _, _, _, _, _, _, h6, _⟩ := h
  unfold Dk.read at hB
  cases e : Dk.look fs k with
  | none =>
    rw [e] at hB
    cases hB
    exact Nat.zero_le _
  | some x =>
    rw [e] at hB
    cases hB
    have := Dk.look_le e
    omega
theorem range_cnt2 {f m : Int} {qa : List EnX} {L : List Evt.Entry} (h : plainE qa = Lg.rangeL f m L) (hl : L.length ≤ 1000000) : qa.length ≤ 1000000 := by
  rw [plain_length h, Lg.rangeL]
  exact Nat.le_trans (List.length_take_le' _ _) (by rw [List.length_drop]; exact Nat.le_trans (Nat.sub_le _ _) hl)
theorem name_cell {w : World} {n sc nb no : Nat} {l : List (List UInt8)} {S : ByteArray} {i : Nat} (h : Cells w (.slice (some ⟨nb, no, none⟩) n sc) 1 n (strCells l)) (hi : i < n) (hx : l[i]? = some S.data.toList) : w.cell? ⟨nb, no + i, none⟩ = some (.string S) := by
  obtain ⟨b, o, e, h2⟩ := nameAt h i hi hx
  cases e
  exact h2
theorem Lg.tearF_no {room : Int} {f2 fs : List Dk.File} {k : List UInt8} {A B : ByteArray} {ea eb : Nat} (h : Dk.read k fs = (A, ea) ∧ Dk.read k f2 = (B, eb)) (hc : ¬ (ea = 0 ∧ A.size ≤ B.size ∧ B.extract 0 A.size = A ∧ k ≠ Man.file)) : Lg.tearF room f2 k fs = fs := by
  unfold Lg.tearF
  rw [h.1, h.2]
  exact if_neg hc
theorem Lg.tearF_yes {room : Int} {f2 fs : List Dk.File} {k : List UInt8} {A B : ByteArray} {eb : Nat} (h : Dk.read k fs = (A, 0) ∧ Dk.read k f2 = (B, eb)) (h1 : A.size ≤ B.size) (h2 : B.extract 0 A.size = A) (h3 : k ≠ Man.file) : Lg.tearF room f2 k fs = (Dk.append room k (B.extract A.size B.size) fs).1 := by
  unfold Lg.tearF
  rw [h.1, h.2]
  exact if_pos ⟨rfl, h1, h2, h3⟩
set_option maxHeartbeats 16000000 in
set_option maxRecDepth 100000 in
theorem logTears_any (ahead more : Int) (kv : Value) (ks : List Int) (w : World) (hE : Env w) (h1 : -9223372036854775808 ≤ ahead ∧ ahead ≤ 9223372036854775807) (h2 : -9223372036854775808 ≤ more ∧ more ≤ 9223372036854775807) (hs : Cells w kv 1 ks.length (intCells ks)) (hb : ∀ n ∈ ks, -9223372036854775808 ≤ n ∧ n ≤ 9223372036854775807) :
    Calls Tryz.prog 8 #[.int .i64 ahead, .int .i64 more, kv] w fun e w' => e = .returned (.bool true) ∧ Below w.heap.size w w' := by
  obtain ⟨ka, kc, rfl⟩ := cells_slice hs
  have HS := Lib.hid (shown11_any w hE)
  have HE := Lib.hid hE
  have HKV := Lib.hid (And.intro hs hb)
  clear hE hs hb
  go_enter Tryz.func8, Tryz.ntmps8
  go_wp2_with fail
  refine HS.out.mono ?_
  rintro e w0 ⟨rfl, b0⟩
  have HB1 := Lib.hid b0
  have HBG := Lib.hid (begun11_any 50000 w0 (by decide) (by decide))
  clear HS b0
  go_wp2_with fail
  refine HBG.out.mono ?_
  rintro e w1 ⟨d, m, ft, rfl, hd, hft, _, _, b1⟩
  obtain ⟨W, hW⟩ : ∃ W, W = w1.alloc (.cells #[.pointer (some ⟨d, 0, none⟩), .pointer (some ⟨m, 0, none⟩)] 48) := ⟨_, rfl⟩
  have bp : Below w1.heap.size w1 W := by rw [hW]; exact (Below.refl _ _).alloc (Nat.le_refl _) _
  have hP : PB11 w1.heap.size (.pointer (some ⟨d, 0, none⟩)) (.pointer (some ⟨m, 0, none⟩)) W := by rw [hW]; exact heap_alloc_new w1 _
  have hlt : ∀ j, ft j → j < W.heap.size := fun j hj => Nat.lt_of_lt_of_le (hft j hj).2 bp.size
  have hbW : Below w.heap.size w W := Below.up (Below.up HB1.out (Nat.le_refl _) b1) (Nat.le_refl _) bp
  have HO := Lib.hid (open0 (R := RW (.slice none 0 0) []) (a := w) ⟨HE.out, hbW, fun j hj => Nat.le_trans HB1.out.size (hft j hj).1⟩ (hd.next bp) hlt hP (fun h => by have := (hft _ h).2; omega) (stable_rw _ _) (apart_nil _ _) (room := 50000) (by decide))
  obtain ⟨c0, _⟩ := hP.cells
  have HW := Lib.hid hW
  have HBW := Lib.hid hbW
  clear HBG hd hft b1 bp hP hlt hW hbW
  by_cases h40 : 40 < ks.length
  · have h40i : (40 : Int) < (ks.length : Int) := by omega
    go_wp2
    go_ret
    rw [← HW.out]
    exact ⟨rfl, HBW.out⟩
  have h40i : ¬ (40 : Int) < (ks.length : Int) := by omega
  go_wp2_with fail
  rw [← HW.out]
  refine HO.out.mono ?_
  rintro e w2 ⟨lg, rfl, hL2⟩
  have HL2 := Lib.hid hL2
  have HP1 := Lib.hid (pick11_any ahead 40 w2 h1.1 h1.2 (by decide) (by decide))
  clear HO hL2 c0 h40i
  go_wp2_with fail
  refine HP1.out.mono ?_
  rintro e w3 ⟨⟨k, rfl, hk⟩, rfl⟩
  have HP2 := Lib.hid (pick11_any more 20 w3 h2.1 h2.2 (by decide) (by decide))
  clear HP1
  go_wp2_with fail
  refine HP2.out.mono ?_
  rintro e w4 ⟨⟨j, rfl, hj⟩, rfl⟩
  obtain ⟨N, hN⟩ : ∃ N, k + j = N := ⟨_, rfl⟩
  have hw1 : wrap64 ((k : Int) + (j : Int)) = (N : Int) := (IntWalk.wrap64_in _ (by omega)).trans (by omega)
  have hN60 : N ≤ 58 := by omega
  have hkN : k ≤ N := by omega
  have HTF := Lg.tears_facts (k := k) (j := j) (by omega) (by omega)
  rw [hN] at HTF
  obtain ⟨f1, n1, nums1, f2, n2, nums2, q1, q2, q3, q4, q5⟩ := HTF
  have HQ := Lib.hid (And.intro q1 (And.intro q2 (And.intro q3 (And.intro q4 q5))))
  have HRW := Lib.hid (row11_any 0 1 N w4 (by omega) (by omega) (by omega))
  clear q1 q2 q3 q4 q5 HP2 h1 h2 hN hk hj
  go_wp2_with fail
  refine HRW.out.mono ?_
  rintro e w5 ⟨v5, ps, rfl, hpl, hnr, b5⟩
  obtain ⟨pa, pc, rfl, hpc, hpa⟩ := own_form hnr.out.1
  obtain rfl : N = ps.length := ((plain_length hpl.out).trans (Lg.rowL_len _ _ N)).symm
  rw [← hpl.out] at HQ
  have HL5 := Lib.hid (LL.push (R' := RW (.slice pa ps.length pc) ps) HL2.out (stable_rw _ _) b5 (fun X hX h => new_apart hX hnr.out))
  have hkc : k ≤ pc := by omega
  clear HRW hpl hnr b5
  have hlt1 : (ps.take k).length = k := by rw [List.length_take]; omega
  have HAP := append_R (lv := .slice pa k pc) (qs := ps.take k) (s' := Lg.stateOf n1 nums1 ((plainE ps).take k)) (fs' := f1) (c := 0) HL5.out (stable_rw _ _) (fun X hX h => Apart.takeV h hkN) (by decide) (Lg.stateOf_bk Lg.held_nil _ (by rw [hlt1]; simp; omega)) hkc (by rw [hlt1]; omega) (by rw [plainE_tk]; exact HQ.out.1)
  have HAP := Lib.hid HAP
  clear hlt1
  go_wp2_with fail
  refine HAP.out.mono ?_
  rintro e w6 ⟨rfl, hL6⟩
  have HL6 := Lib.hid hL6
  obtain ⟨ft6, hd6⟩ := hL6.isDisk
  have HCL := Lib.hid (diskClone_any d 50000 f1 ft6 w6 hd6)
  have c6 := hL6.cell
  clear HAP hd6 hL6
  go_wp2_with fail
  refine HCL.out.mono ?_
  rintro e w7 ⟨d2, rfl, hd2, b7⟩
  have hnm1 : nums1.length ≤ 100 := by have := (Man.right_mem HQ.out.2.1.right).2.2.1; omega
  have hE6 : Env w6 := HL6.out.env
  have HO2 := Lib.hid (logOpen_any (X := fun j => w6.heap.size ≤ j ∧ j < w7.heap.size) (a := w6) ⟨hE6, b7, fun j hj => hj.1⟩ hd2 (fun j hj => hj.2) (fun _ h => h) (by decide) HQ.out.2.1.man_load hnm1 (HQ.out.2.1.reads 50000) (by show ((plainE ps).take k).length ≤ 500000; rw [List.length_take, plainE_len]; omega) HQ.out.2.1.named)
  clear HCL hd2 b7 c6 hE6
  go_wp2_with fail
  refine HO2.out.mono ?_
  rintro e w8 ⟨lg2, T2, rfl, hA8, hT2, _, _⟩
  have hX2 : ∀ j, ((w6.heap.size ≤ j ∧ j < w7.heap.size) ∨ T2 j) → w6.heap.size ≤ j := fun j hj => by
    obtain ⟨_, _, _, _, hLy⟩ := hA8
    rcases hj with hj | hj
    · exact hj.1
    · exact hLy.base.out j hj
  have HA8 := Lib.hid hA8
  have HX2 := Lib.hid hX2
  clear HO2 hA8 hX2 hT2
  go_upto_region 14 with fail
  go_cut [13, 88] (fun sv v wx => sv = .slice pa ps.length pc ∧ v = .bool false ∧ ∃ T9 X9, LAt w6 lg2 d2 50000 (Lg.stateOf n2 nums2 (plainE ps)) f2 T9 X9 wx ∧ ∀ j, T9 j → j < wx.heap.size)
  case first =>
    have HAPP := Lib.hid (fun (va' : Option Addr) (c' : Nat) (hv : va' = pa ∧ ps.length - k = 0 ∨ va' = pa.map (fun x => x.add (k * 7))) (hc' : ps.length - k ≤ c') => (show Calls Tryz.prog 23 #[.pointer (some ⟨lg2, 0, none⟩), .slice va' (ps.length - k) c'] w8 (fun e w' => e = .returned (.int .i64 0) ∧ ∃ T9 X9, LAt w6 lg2 d2 50000 (Lg.stateOf n2 nums2 (plainE ps)) f2 T9 X9 w' ∧ ∀ j, T9 j → j < w'.heap.size) by
      obtain ⟨fta, pva, eva, psa, hLy⟩ := HA8.out
      have hl : (ps.drop k).length = ps.length - k := List.length_drop
      refine (logAppend_any (c := 0) hLy (by decide) (Lg.stateOf_bk HQ.out.2.1 (ps.drop k).length (by rw [hl, List.length_take, plainE_len]; omega)) (Apart.dropV (apart_old HL6.out.ents hLy.base.below HX2.out) hkN va' c' hv) hc' (by rw [hl]; omega) (by rw [show plainE (ps.drop k) = (plainE ps).drop k by simp [plainE, List.map_drop]]; exact HQ.out.2.2.1)).mono ?_
      rintro e w' ⟨rfl, T9, ⟨f9, p9, e9, q9, hL9⟩, _⟩
      exact ⟨rfl, T9, _, ⟨f9, p9, e9, q9, hL9⟩, fun j hj => hL9.lt j (hL9.subX j hj)⟩))
    go_wp2_with fail
    · refine (HAPP.out pa 0 (.inl ⟨rfl, by omega⟩) (by omega)).mono ?_
      rintro e w9 ⟨rfl, hA9⟩
      have HA9 := Lib.hid hA9
      clear hA9
      go_wp2
      go_meet
      exact ⟨by first | rfl | (congr 1; omega), rfl, HA9.out⟩
    · refine (HAPP.out _ _ (.inr rfl) (by omega)).mono ?_
      rintro e w9 ⟨rfl, hA9⟩
      have HA9 := Lib.hid hA9
      clear hA9
      go_wp2
      go_meet
      exact ⟨by first | rfl | (congr 1; omega), rfl, HA9.out⟩
  case rest =>
    obtain ⟨rfl, rfl, T9, X9, ⟨g2, pv9, ev9, ps9, hL9⟩, hT9⟩ := hcut
    have HD := Lib.hid (And.intro hL9.disk (And.intro (fun j (hj : g2 j) => (⟨hL9.base.out j (hL9.sub j hj), hT9 j (hL9.sub j hj)⟩ : w6.heap.size ≤ j ∧ j < wc.heap.size)) hL9.base.below))
    have HLI := Lib.hid (diskList_any hL9.disk)
    clear hL9 hT9 HA8 HX2
    go_wp2_with fail
    refine HLI.out.mono ?_
    rintro e w10 ⟨sa, sc, rfl, hO, b10⟩
    have hsz10 := b10.size
    have HL10 := Lib.hid (LL.push (R' := TR (.slice pa ps.length pc) ps d2 f2 (.slice sa f2.length sc)) HL6.out (stable_rw _ _) (Below.up HD.out.2.2 (Nat.le_refl _) b10) (fun X hX h => ⟨h, ⟨g2, HD.out.1.next b10, fun j hj => ⟨fun e => by have := hX j e; have := (HD.out.2.1 j hj).1; omega, by have := (HD.out.2.1 j hj).2; omega⟩⟩, ⟨cells_of_owns hO.out, fun b hb => ⟨fun e => by have := hX b e; have := (hO.out.lt b hb).1; have := HD.out.2.2.size; omega, (hO.out.lt b hb).2⟩⟩⟩))
    have hf2 : f2.length ≤ 40 := by
      obtain ⟨_, _, _, _, _, _, h4, _⟩ := HD.out.1
      exact h4
    clear HLI hO b10 hsz10
    go_wp2_with fail
    go_loopw [18] (fun iv wr => ∃ i : Nat, iv = .int .i64 i ∧ i ≤ f2.length ∧ Hid (LL (TR (.slice pa ps.length pc) ps d2 f2 (.slice sa f2.length sc)) w w1.heap.size d (.pointer (some ⟨m, 0, none⟩)) 50000 lg (Lg.stateOf n1 nums1 ((plainE ps).take k)) (Lg.tearsF 50000 f2 ((f2.map (·.name)).take i) f1) wr)) (fun iv _ => f2.length - (intOf iv).toNat)
    case atStart => exact ⟨0, rfl, by omega, HL10⟩
    case round =>
      obtain ⟨i, rfl, hi, HL⟩ := hrel
      by_cases hp : i < f2.length
      · obtain ⟨⟨nm, bb, sy⟩, hx⟩ : ∃ x, f2[i] = x := ⟨_, rfl⟩
        have hnl : (f2.map (·.name))[i]? = some nm := by rw [List.getElem?_map, List.getElem?_eq_getElem hp, hx]; rfl
        have hnm : nm.length ≤ 1000 := by
          have := (HQ.out.2.2.2.1.named f2[i] (List.getElem_mem hp)).2
          rw [hx] at this; exact this
        have hTN := Lib.hid (Lg.tearsF_next (room := 50000) (f2 := f2) (fs := f1) hnl)
        obtain ⟨nb, no, rfl, kn⟩ := nameAt HL.out.names i hp hnl
        obtain ⟨S, hS, hS2, hS3⟩ := str_of nm
        rw [hS] at kn
        subst hS2
        obtain ⟨fsi, hfsi⟩ : ∃ fsi, Lg.tearsF 50000 f2 ((f2.map (·.name)).take i) f1 = fsi := ⟨_, rfl⟩
        rw [hfsi] at HL hTN
        obtain ⟨⟨A, ea⟩, hA⟩ : ∃ p, Dk.read S.data.toList fsi = p := ⟨_, rfl⟩
        obtain ⟨⟨B, eb⟩, hB⟩ : ∃ p, Dk.read S.data.toList f2 = p := ⟨_, rfl⟩
        have hSs : S.size ≤ 1000 := by rw [Lib.size_eq]; exact hnm
        have HRA := Lib.hid (fun n => read_q (HL.out.next (stable_tr _ _ _ _ _) (below_drewN (Below.refl _ wr) n)) (by omega) hA)
        have kp := HL.out.cell
        have HAB := Lib.hid (And.intro hA hB)
        have HNL := Lib.hid hnl
        clear hx hnl hnm hS hS3 hfsi hA hB
        go_upto_region 20 with fail
        go_cut [19, 20] (fun av ev wx => av = .string A ∧ ev = .int .i64 (ea : Int) ∧ Below wr.heap.size wr wx)
        case first =>
          go_quiet ((go_at_call 40; exact Calls.quiet_of_same (HRA.out _)))
          go_wp2
          go_meet
          exact ⟨rfl, rfl, below_drewN (Below.refl _ _) _⟩
        case rest =>
          obtain ⟨rfl, rfl, hbc⟩ := hcut
          have HLc := Lib.hid (HL.out.next (stable_tr _ _ _ _ _) hbc)
          have kn := cell_kept hbc (Nat.le_refl _) kn
          have kp := HLc.out.cell
          have HRB := HLc.out.other
          obtain ⟨g3, hD3⟩ := HRB
          have HRB := diskRead_any d2 50000 f2 g3 S wc hD3 (by omega)
          rw [HAB.out.2] at HRB
          have HRB := Lib.hid HRB
          clear HL HRA hbc hD3
          go_wp2_with fail
          refine HRB.out.mono ?_
          rintro e w11 ⟨rfl, rfl⟩
          clear HRB
          go_upto_region 22 with fail
          obtain ⟨Y, hY⟩ : ∃ Y, B.extract 0 A.size = Y := ⟨_, rfl⟩
          have HR := Lib.hid (Lg.round_less (i := i) (n := f2.length) hp)
          have hi41 : i < 41 := by omega
          have HNO := Lib.hid (fun (hc : ¬ (ea = 0 ∧ A.size ≤ B.size ∧ B.extract 0 A.size = A ∧ S.data.toList ≠ Man.file)) => hTN.out.trans (Lg.tearF_no HAB.out hc))
          have HGO := Lib.hid (fun (e : Lg.tearsF 50000 f2 ((f2.map (·.name)).take (i + 1)) f1 = fsi) => (show Hid (LL (TR (.slice pa ps.length pc) ps d2 f2 (.slice (some ⟨nb, no, none⟩) f2.length sc)) w w1.heap.size d (.pointer (some ⟨m, 0, none⟩)) 50000 lg (Lg.stateOf n1 nums1 ((plainE ps).take k)) (Lg.tearsF 50000 f2 ((f2.map (·.name)).take (i + 1)) f1) wc) by rw [e]; exact HLc))
          by_cases hc1 : ea = 0
          · by_cases hc2 : A.size ≤ B.size
            · have hc2i : (A.size : Int) ≤ (B.size : Int) := by omega
              by_cases hc3 : Y = A
              · by_cases hc4 : S.data.toList = Man.file
                · have hy : Y.toList = A.toList := by rw [hc3]
                  have hz : (!S.toList == [109, 97, 110, 105, 102, 101, 115, 116]) = false := by rw [Lib.toList_data, hc4]; rfl
                  have HF := HGO.out (HNO.out (fun h => h.2.2.2 hc4))
                  clear HNO HGO hc3 hc4
                  subst hc1
                  go_wp2
                  exact ⟨⟨i + 1, HR.out.1, HR.out.2.1, HF⟩, HR.out.2.2⟩
                · have hy : Y.toList = A.toList := by rw [hc3]
                  have hz : (!S.toList == [109, 97, 110, 105, 102, 101, 115, 116]) = true := by
                    rw [Lib.toList_data, Bool.not_eq_true', beq_eq_false_iff_ne]; exact hc4
                  subst hc1
                  obtain ⟨⟨f3, c3⟩, hap⟩ : ∃ p, Dk.append 50000 S.data.toList (B.extract A.size B.size) fsi = p := ⟨_, rfl⟩
                  have HTY := Lib.hid (hTN.out.trans ((Lg.tearF_yes HAB.out hc2 (hY.trans hc3) hc4).trans (congrArg Prod.fst hap)))
                  have hBs : B.size ≤ 2000000000 := by
                    obtain ⟨g5, hg5⟩ := HLc.out.other
                    exact read_size hg5 HAB.out.2
                  have hXs : (B.extract A.size B.size).size ≤ 1000000000000 := by rw [ByteArray.size_extract]; omega
                  obtain ⟨X, hX⟩ : ∃ X, B.extract A.size B.size = X := ⟨_, rfl⟩
                  rw [hX] at hap hXs
                  have HAPD := Lib.hid (app_ll (HLc.out.next (stable_tr _ _ _ _ _) (Below.refl _ wc).drew) (stable_tr _ _ _ _ _) (by omega) hXs hap)
                  have HKK := Lib.hid (And.intro (HLc.out.next (stable_tr _ _ _ _ _) (Below.refl _ wc).drew).cell (name_cell (HLc.out.next (stable_tr _ _ _ _ _) (Below.refl _ wc).drew).names hp HNL.out))
                  clear HNO HGO hc3 hc4 hap hBs hXs
                  go_upto_region 23 with fail
                  go_region_held3 (fun Z => Z.cell? ⟨w1.heap.size, 0, none⟩ = some (.pointer (some ⟨d, 0, none⟩)) ∧ Z.cell? ⟨nb, no + i, none⟩ = some (.string S))
                    (first | exact ⟨hL12.out.cell, name_cell hL12.out.names hp HNL.out⟩ | exact HKK.out)
                    (first | (go_at_call 41; refine HAPD.out.mono ?_; rintro e w12 ⟨rfl, hL12⟩; replace hL12 := Lib.hid hL12))
                  go_wp2
                  exact ⟨⟨i + 1, HR.out.1, HR.out.2.1, by rw [HTY.out]; exact hL12⟩, HR.out.2.2⟩
              · have hy : ¬ Y.toList = A.toList := by rw [Lib.toList_data, Lib.toList_data]; exact fun e => hc3 (ba_eq e)
                have HF := HGO.out (HNO.out (fun h => hc3 (hY.symm.trans h.2.2.1)))
                clear HNO HGO hc3
                subst hc1
                go_wp2
                exact ⟨⟨i + 1, HR.out.1, HR.out.2.1, HF⟩, HR.out.2.2⟩
            · have hc2i : ¬ (A.size : Int) ≤ (B.size : Int) := by omega
              have HF := HGO.out (HNO.out (fun h => hc2 h.2.1))
              clear HNO HGO hc2
              subst hc1
              go_wp2
              exact ⟨⟨i + 1, HR.out.1, HR.out.2.1, HF⟩, HR.out.2.2⟩
          · have hc1b : ((ea : Int) == 0) = false := by rw [beq_eq_false_iff_ne]; omega
            have HF := HGO.out (HNO.out (fun h => hc1 h.1))
            clear HNO HGO
            go_wp2
            exact ⟨⟨i + 1, HR.out.1, HR.out.2.1, HF⟩, HR.out.2.2⟩
      · obtain rfl : i = f2.length := by omega
        have htl : (f2.map (·.name)).take f2.length = f2.map (·.name) := List.take_of_length_le (by rw [List.length_map]; exact Nat.le_refl _)
        rw [htl] at HL
        clear htl
        obtain ⟨n, f3, g1, g2, g3, g4, g5, f4, n4, nums4, g6⟩ := HQ.out.2.2.2.2 ks
        have HCR := Lib.hid (crash_ll (ks := ks) (kv := .slice ka ks.length kc) HL.out (stable_tr _ _ _ _ _) (keep_turn HKV.out.1 HL.out.below) (by omega) HKV.out.2)
        have kp := HL.out.cell
        have HG := Lib.hid (And.intro g3 (And.intro g4 (And.intro g5 g6)))
        clear g3 g4 g5 g6 hi hp
        go_upto_region 24 with fail
        go_wp2_with fail
        refine HCR.out.mono ?_
        rintro e w12 ⟨rfl, hL12⟩
        have kp := hL12.cell
        have HOP := Lib.hid (open_ll hL12 (stable_tr _ _ _ _ _) (by decide) HG.out.2.1 hnm1 HG.out.2.2.1 (by show ((plainE ps).take n).length ≤ 500000; rw [List.length_take, plainE_len]; omega) HG.out.1.named)
        clear HCR hL12
        go_wp2_with fail
        refine HOP.out.mono ?_
        rintro e w13 ⟨lg3, rfl, hL13⟩
        have hes : (Lg.stateOf n1 nums1 ((plainE ps).take n)).es.length = n := by
          show ((plainE ps).take n).length = n
          rw [List.length_take, plainE_len]; omega
        have HLA := last_ll hL13
        rw [hes] at HLA
        have HLA := Lib.hid HLA
        have HL13 := Lib.hid hL13
        clear HOP hL13 hes
        go_wp2_with fail
        refine HLA.out.mono ?_
        rintro e w14 ⟨rfl, rfl⟩
        have hE : plainE (ps.take n) = Lg.rangeL 1 100 ((plainE ps).take n) := by
          rw [plainE_tk, Lg.range_all (by rw [List.length_take, plainE_len]; omega)]
        have hnl : (Lg.stateOf n1 nums1 ((plainE ps).take n)).es.length ≤ 1000000 := by
          show ((plainE ps).take n).length ≤ 1000000
          rw [List.length_take, plainE_len]; omega
        have HES := Lib.hid (And.intro hE (And.intro hnl g2))
        have HLD := Lib.hid (HL13.out.next (stable_tr _ _ _ _ _) (Below.refl _ w13).drew)
        have HG6 := Lib.hid HG.out.2.2.2
        have hdl : (ps.drop n).length = ps.length - n := List.length_drop
        have HBK := Lib.hid (show Lg.BK (ps.drop n).length (Lg.stateOf n1 nums1 ((plainE ps).take n)) from Lg.stateOf_bk HG.out.1 _ (by rw [hdl, List.length_take, plainE_len]; omega))
        have HDL := Lib.hid (show (ps.drop n).length ≤ 1000 by rw [hdl]; omega)
        have HPD := Lib.hid (show plainE (ps.drop n) = (plainE ps).drop n by simp [plainE, List.map_drop])
        have HAP := Lib.hid (fun (W' : World) (hL : LL (TR (.slice pa ps.length pc) ps d2 f2 (.slice sa f2.length sc)) w w1.heap.size d (.pointer (some ⟨m, 0, none⟩)) 50000 lg3 (Lg.stateOf n1 nums1 ((plainE ps).take n)) f3 W') (va' : Option Addr) (c' : Nat) (hv : va' = pa ∧ ps.length - n = 0 ∨ va' = pa.map (fun x => x.add (n * 7))) (hc' : ps.length - n ≤ c') =>
          (append_R (lv := .slice va' (ps.length - n) c') (qs := ps.drop n) (s' := Lg.stateOf n4 nums4 (plainE ps)) (fs' := f4) (c := 0) hL (stable_tr _ _ _ _ _) (fun X hX h => Apart.dropV h.row HES.out.2.2 va' c' hv) (by decide) HBK.out hc' HDL.out (by rw [HPD.out]; exact HG6.out)))
        have i1 : (k : Int) ≤ (n : Int) := by omega
        have i2 : (n : Int) ≤ (ps.length : Int) := by omega
        have i3 : n ≤ pc := by omega
        have i4 : ps.length ≤ pc := by omega
        clear hE hnl hdl HG HLA kp
        by_cases hpn : pc = n
        · subst hpn
          go_upto_region 29 with fail
          go_region_held3 (fun _ => True) (trivial)
            (first
              | (go_at_call 25; refine (range_ll 1 100 (lg := lg3) HLD.out HES.out.2.1).mono ?_; rintro e wa ⟨ra, qs, rc, rfl, hpq, hEq, ba⟩; have hL := Lib.hid (HLD.out.next (stable_tr _ _ _ _ _) ba); clear ba)
              | (go_at_call 24; refine (sameRow6_any (.slice ra qs.length rc) (.slice pa pc pc) qs (ps.take pc) _ hEq.out (ents_takeV hL.out.rowT HES.out.2.2) (hpq.out.trans HES.out.1.symm) (range_cnt2 hpq.out HES.out.2.1)).mono ?_; rintro e wb ⟨rfl, bb⟩; replace hL := Lib.hid (hL.out.next (stable_tr _ _ _ _ _) bb); clear bb)
              | (go_at_call 23; have q := HAP.out _ hL.out pa 0 (.inl ⟨rfl, by omega⟩) (by omega); rw [show ps.length - pc = 0 by omega] at q; refine q.mono ?_; clear q; rintro e wq ⟨rfl, hM⟩; replace hM := Lib.hid hM; clear hL)
              | (go_at_call 33; have q := last_ll hM.out; rw [show (Lg.stateOf n4 nums4 (plainE ps)).es.length = ps.length from plainE_len ps] at q; refine q.mono ?_; rintro e wz ⟨rfl, hw⟩; replace hM := Lib.hid (hw ▸ hM.out); clear hw q))
          have hB := hM.out.below
          clear hM
          go_wp2
          go_ret
          exact ⟨rfl, hB⟩
        · have HV := Lib.hid (show ps.length - n ≤ pc - n by omega)
          go_upto_region 29 with fail
          go_region_held3 (fun _ => True) (trivial)
            (first
              | (go_at_call 25; refine (range_ll 1 100 (lg := lg3) HLD.out HES.out.2.1).mono ?_; rintro e wa ⟨ra, qs, rc, rfl, hpq, hEq, ba⟩; have hL := Lib.hid (HLD.out.next (stable_tr _ _ _ _ _) ba); clear ba)
              | (go_at_call 24; refine (sameRow6_any (.slice ra qs.length rc) (.slice pa n pc) qs (ps.take n) _ hEq.out (ents_takeV hL.out.rowT HES.out.2.2) (hpq.out.trans HES.out.1.symm) (range_cnt2 hpq.out HES.out.2.1)).mono ?_; rintro e wb ⟨rfl, bb⟩; replace hL := Lib.hid (hL.out.next (stable_tr _ _ _ _ _) bb); clear bb)
              | (go_at_call 23; refine (HAP.out _ hL.out _ _ (.inr rfl) HV.out).mono ?_; rintro e wq ⟨rfl, hM⟩; replace hM := Lib.hid hM; clear hL)
              | (go_at_call 33; have q := last_ll hM.out; rw [show (Lg.stateOf n4 nums4 (plainE ps)).es.length = ps.length from plainE_len ps] at q; refine q.mono ?_; rintro e wz ⟨rfl, hw⟩; replace hM := Lib.hid (hw ▸ hM.out); clear hw q))
          have hB := hM.out.below
          clear hM
          go_wp2
          go_ret
          exact ⟨rfl, hB⟩
end Go.Proofs.YtbknlffebcbjfaaGreatDoor
