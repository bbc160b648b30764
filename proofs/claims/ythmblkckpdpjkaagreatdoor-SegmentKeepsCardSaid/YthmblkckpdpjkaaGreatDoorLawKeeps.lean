/-
  The walk of the law SegmentKeeps.
-/
import Derived.Test.YthmblkckpdpjkaaGreatDoorAt
import Derived.Test.YthmblkckpdpjkaaGreatDoorOpenE
namespace Go.Proofs.YthmblkckpdpjkaaGreatDoor
open Go.RowKit Go.Shelf

theorem plain_le {ps : List EnX} {n : Nat} (h : ps.length ≤ n) : (plainE ps).length ≤ n := by simpa [plainE] using h
theorem enCells_nil : enCells [] = [] := rfl
theorem cut_off (A M : ByteArray) : (A ++ M).extract A.size (A ++ M).size = M := by
  apply ByteArray.ext
  apply Array.toList_inj.1
  rw [Lib.extract_data, ByteArray.data_append, Array.toList_append, ByteArray.size_append, Lib.size_eq A, Lib.size_eq M, List.drop_left, Nat.add_sub_cancel_left, List.take_length]
/-- A disk, and two segments that were read. -/
def At2 (a : World) (P d : Nat) (mv : Value) (room : Int) (fs : List Dk.File) (G : Nat) (x : Int) (v : Value) (t : Bool) (G' : Nat) (x' : Int) (v' : Value) (t' : Bool) (w : World) : Prop :=
  ∃ ft, At a P d mv room fs ft w ∧ SB G x v t w ∧ ¬ ft G ∧ SB G' x' v' t' w ∧ ¬ ft G'
variable {a w w' : World} {P d : Nat} {mv : Value} {room : Int} {fs fs' : List Dk.File} {ft : Nat → Prop}
theorem At2.next {G G' : Nat} {x x' : Int} {v v' : Value} {t t' : Bool} (h : At2 a P d mv room fs G x v t G' x' v' t' w) (hb : Below w.heap.size w w') : At2 a P d mv room fs G x v t G' x' v' t' w' := by
  obtain ⟨ft, h1, h2, h3, h4, h5⟩ := h
  exact ⟨ft, h1.next hb, h2.next hb, h3, h4.next hb, h5⟩
theorem At2.cells {G G' : Nat} {x x' : Int} {v v' : Value} {t t' : Bool} (h : At2 a P d mv room fs G x v t G' x' v' t' w) : w.cell? ⟨P, 0, none⟩ = some (.pointer (some ⟨d, 0, none⟩)) ∧ w.cell? ⟨G, 1, none⟩ = some v ∧ w.cell? ⟨G', 1, none⟩ = some v' ∧ w.cell? ⟨G', 2, none⟩ = some (.bool t') := by
  obtain ⟨ft, h1, h2, h3, h4, h5⟩ := h
  exact ⟨h1.cell, h2.cells.2.1, h4.cells.2.1, h4.cells.2.2⟩
theorem At2.below {G G' : Nat} {x x' : Int} {v v' : Value} {t t' : Bool} (h : At2 a P d mv room fs G x v t G' x' v' t' w) : Below a.heap.size a w := by
  obtain ⟨ft, h1, _⟩ := h; exact h1.below
theorem add_at2 {G G' : Nat} {x x' : Int} {v v' : Value} {t t' : Bool} {n : Int} {c : Nat} {lv : Value} {qs : List EnX} (h : At2 a P d mv room fs G x v t G' x' v' t' w) (hroom : room ≤ 1048576) (hq : Ents w lv qs) (hqn : qs.length ≤ 1000) (hc : Seg.addD room n (plainE qs) fs = (fs', c)) :
    Calls Tryz.prog 18 #[.pointer (some ⟨d, 0, none⟩), .int .i64 n, lv] w fun e w' => e = .returned (.int .i64 (c : Nat)) ∧ At2 a P d mv room fs' G x v t G' x' v' t' w' := by
  obtain ⟨ft, h1, h2, h3, h4, h5⟩ := h
  refine (add_at h1 hroom hq hqn hc).mono ?_
  rintro e w' ⟨rfl, f, q1, q2, q3⟩
  have k1 := (Array.getElem?_eq_some_iff.1 h2).1
  have k2 := (Array.getElem?_eq_some_iff.1 h4).1
  refine ⟨rfl, f, q1, h2.turn h3 q3, fun h => ?_, h4.turn h5 q3, fun h => ?_⟩
  · rcases q2 G h with h | h
    · exact h3 h
    · omega
  · rcases q2 G' h with h | h
    · exact h5 h
    · omega
theorem slice_after {b o k lc n : Nat} (hk : k ≤ n) (hn : n ≤ lc) : ∃ o2, (if lc = k then some (⟨b, o, none⟩ : Addr) else some ⟨b, o + k * 7, none⟩) = some ⟨b, o2, none⟩ ∧ (o2 = o + k * 7 ∨ k = n) := by
  by_cases h : lc = k
  · exact ⟨o, by rw [if_pos h], .inr (by omega)⟩
  · exact ⟨o + k * 7, by rw [if_neg h], .inl rfl⟩
theorem ents_after {b o c k N : Nat} {l : List EnX} (hN : N = l.length) (h : Ents w (.slice (some ⟨b, o, none⟩) N c) l) (hk : k ≤ N) (o' c' : Nat) (ho : o' = o + k * 7 ∨ k = N) : Ents w (.slice (some ⟨b, o', none⟩) (N - k) c') (l.drop k) := by
  subst hN
  exact ents_drop h hk o' c' ho
theorem one_int (h : At a P d mv room fs ft w) (keep : Int) (e : TypeId) : ∀ X, Turn ft (w.alloc (.cells #[.int .i64 keep] e)) X → Cells X (.slice (some ⟨w.heap.size, 0, none⟩) 1 1) 1 1 ([keep].map fun n => Value.int .i64 n) := by
  intro X ht
  have hb : (w.alloc (.cells #[.int .i64 keep] e)).heap[w.heap.size]? = some (.cells #[.int .i64 keep] e (0, 0)) := heap_alloc_new w _
  have hX := (ht.block w.heap.size (Array.getElem?_eq_some_iff.1 hb).1 (fun hf => by have := h.2.2.1 _ hf; omega)).trans hb
  refine ⟨rfl, .inr ⟨w.heap.size, 0, 1, rfl, fun j u hj => ?_⟩⟩
  rw [Nat.zero_add, Lib.cell_of_heap hX]
  simpa using hj
/-- Entries in a row of the call's own, their events wherever. -/
theorem ents_own {base : Nat} {v : Value} {ps : List EnX} {n : Nat} (hn : n = ps.length) (h : w.ownsRow base 38 7 v n (enCells ps)) (he : ∀ p ∈ ps, Evs w p.2 p.1.b.events ∧ Fine p.1) : Ents w v ps := by
  subst hn
  exact ⟨cells_of_owns h, he⟩
theorem own_slice {base n : Nat} {v : Value} {e : TypeId} {sz : Nat} {xs : List Value} (h : w.ownsRow base e sz v n xs) (hv : v ≠ .slice none 0 0) : ∃ g cap, v = .slice (some ⟨g, 0, none⟩) n cap ∧ n ≤ cap := by
  rcases h.2 with ⟨h, _⟩ | ⟨g, cap, cur, h, _, _, h2, _⟩
  · exact absurd h hv
  · exact ⟨g, cap, h, h2⟩
theorem evs_both {lv rv : Value} {ps ms : List EnX} (h : Ents w lv ps) (k : Ents w rv ms) : ∀ p ∈ ps ++ ms, Evs w p.2 p.1.b.events ∧ Fine p.1 := fun p hp => by
  rcases List.mem_append.1 hp with h1 | h1
  · exact h.2 p h1
  · exact k.2 p h1
theorem plainE_append (ps ms : List EnX) : plainE (ps ++ ms) = plainE ps ++ plainE ms := by simp [plainE]

theorem Seg.second_ok {first : Int} {l : List Evt.Entry} {f1 f2 : List Dk.File} (hl : l.length ≤ 40) (c1 : Seg.create 1048576 1 first [] = (f1, 0)) (a1 : Seg.addD 1048576 1 l f1 = (f2, 0)) : ∃ f3, Seg.create 1048576 2 first f2 = (f3, 0) := by
  obtain ⟨h1, h2, rfl⟩ := Seg.create_ok (by decide) (by decide) (by decide) c1
  have hh := Seg.bytesH_len first
  obtain ⟨hf, hroom, rfl⟩ := Seg.add_ok (l := []) (by decide) (by decide) h1 h2 rfl (by rw [Seg.bytesB_nil]; simp; omega) a1
  rw [List.nil_append]
  have hwl := Seg.whole_len first l
  exact ⟨_, Seg.create_look (room := 1048576) (n := 2) (fs := Seg.one 1 first l) (by decide) (by decide) h1 h2 (Seg.one_sorted _) (by simp [Seg.one, Dk.look, Seg.name12.1]) (by simp [Seg.one]) (by simp only [Seg.one, Dk.total]; unfold Seg.whole at hwl; omega)⟩
set_option maxHeartbeats 8000000 in
set_option maxRecDepth 100000 in
theorem segmentKeeps_any (lv : Value) (ps : List EnX) (rv : Value) (ms : List EnX) (keep : Int) (w : World) (hE : Env w) (hc : EntsR w lv ps) (_ : Roomed lv) (hc2 : EntsR w rv ms) (_ : Roomed rv) (hk1 : -9223372036854775808 ≤ keep) (hk2 : keep ≤ 9223372036854775807) :
    Calls Tryz.prog 6 #[lv, rv, .int .i64 keep] w fun e w' => e = .returned (.bool true) ∧ Below w.heap.size w w' := by
  have HS := Lib.hid (shown_any w hE)
  have HE := Lib.hid hE
  have HC := Lib.hid hc
  have HC2 := Lib.hid hc2
  obtain ⟨la, lc, rfl⟩ : ∃ la lc, lv = .slice la ps.length lc := by
    rcases cellsNil hc.1 with ⟨h, a', c', e⟩ | ⟨b', o', c', e⟩
    · exact ⟨_, _, by rw [h]; exact e⟩
    · exact ⟨_, _, e⟩
  obtain ⟨ra, rc, rfl⟩ : ∃ ra rc, rv = .slice ra ms.length rc := by
    rcases cellsNil hc2.1 with ⟨h, a', c', e⟩ | ⟨b', o', c', e⟩
    · exact ⟨_, _, by rw [h]; exact e⟩
    · exact ⟨_, _, e⟩
  clear hE hc hc2
  go_enter Tryz.func6, Tryz.ntmps6
  go_wp2_with fail
  refine HS.out.mono ?_
  rintro e w1 ⟨rfl, hb1⟩
  have HF := Lib.hid (fits_any9 _ ps w1 (HC.out.next hb1))
  go_wp2_with fail
  refine HF.out.mono ?_
  rintro e w2 ⟨rfl, b2⟩
  have hb2 := Below.up hb1 (Nat.le_refl _) b2
  have HF2 := Lib.hid (fits_any9 _ ms w2 (HC2.out.next hb2))
  go_wp2_with fail
  refine HF2.out.mono ?_
  rintro e w3 ⟨rfl, b3⟩
  have hb3 := Below.up hb2 (Nat.le_refl _) b3
  have HBG := Lib.hid (begun_any 1048576 w3 (by decide) (by decide))
  go_wp2_with fail
  refine HBG.out.mono ?_
  rintro e w4 ⟨d, m, ft, rfl, hd, hft, _, _, b4⟩
  have hb4 := Below.up hb3 (Nat.le_refl _) b4
  have s3 := hb3.size
  have s4 := b4.size
  obtain ⟨W, hW⟩ : ∃ W, W = w4.alloc (.cells #[.pointer (some ⟨d, 0, none⟩), .pointer (some ⟨m, 0, none⟩)] 31) := ⟨_, rfl⟩
  have hA : At w w4.heap.size d (.pointer (some ⟨m, 0, none⟩)) 1048576 [] ft W := by
    rw [hW]
    have hx : Below w4.heap.size w4 (w4.alloc (.cells #[.pointer (some ⟨d, 0, none⟩), .pointer (some ⟨m, 0, none⟩)] 31)) := (Below.refl _ _).alloc (Nat.le_refl _) _
    exact ⟨hd.next hx, ⟨HE.out, hb4.alloc hb4.size _, fun j hj => by have := (hft j hj).1; omega⟩, fun j hj => by have := (hft j hj).2; simp; omega, heap_alloc_new w4 _, fun h => by have := (hft _ h).2; omega⟩
  have HW := Lib.hid hW
  have HA := Lib.hid hA
  clear HBG hd hft b2 b3 b4 s3 s4 hW hb4 hb3 hb2 hb1 hA HS HF HF2
  cases hfit : fitL (plainE ps) with
  | false =>
    clear hfit
    go_wp2
    go_ret
    rw [← HW.out]
    exact ⟨rfl, HA.out.below⟩
  | true =>
  cases hfit2 : fitL (plainE ms) with
  | false =>
    clear hfit hfit2
    go_wp2
    go_ret
    rw [← HW.out]
    exact ⟨rfl, HA.out.below⟩
  | true =>
    obtain ⟨hEn, hlen⟩ := fit_ents HC.out hfit
    obtain ⟨hMn, hmlen⟩ := fit_ents HC2.out hfit2
    have HEn := Lib.hid hEn
    have HMn := Lib.hid hMn
    have HO1 := Lib.hid (ents_one hEn)
    have HO2 := Lib.hid (ents_one hMn)
    clear hfit hfit2 HC HC2 hEn hMn
    have hcase : ps = [] ∨ (0 < ps.length ∧ ∃ b o, la = some ⟨b, o, none⟩) := by
      by_cases h0 : ps = []
      · exact .inl h0
      · have hp : 0 < ps.length := List.length_pos_iff.2 h0
        rcases cellsNil HEn.out.1 with ⟨h, a', c', e⟩ | ⟨b', o', c', e⟩
        · omega
        · cases e; exact .inr ⟨hp, b', o', rfl⟩
    rcases hcase with rfl | ⟨hp, b, o, rfl⟩
    · skip
      obtain ⟨F1, c1, hcr⟩ : ∃ F1 c1, Seg.create 1048576 1 1 [] = (F1, c1) := ⟨_, _, rfl⟩
      have HCR := Lib.hid hcr
      have HCA := Lib.hid (create_at HA.out hcr)
      have c0 := HA.out.cell
      rw [HW.out] at c0 
      clear hcr
      by_cases hc1 : c1 = 0
      · subst hc1
        obtain ⟨F2, c2, had⟩ : ∃ F2 c2, Seg.addD 1048576 1 (plainE ([] : List EnX)) F1 = (F2, c2) := ⟨_, _, rfl⟩
        have HAD := Lib.hid had
        clear had
        rw [HW.out] at HCA
        go_wp2_with fail
        refine HCA.out.mono ?_
        rintro e w6 ⟨rfl, ft6, hA6, _, _⟩
        have HA6 := Lib.hid (add_at hA6 (by decide) (HEn.out.next hA6.below) (by omega) HAD.out)
        have c6 := hA6.cell
        clear hA6 HCA c0
        go_wp2_with fail
        refine HA6.out.mono ?_
        rintro e w7 ⟨rfl, ft7, hA7, _, _⟩
        by_cases hc2 : c2 = 0
        · subst hc2
          have hA := hA7.next (Below.refl _ _).drew
          have hc0 := hA.cell
          have hbA := hA.below
          clear hA7 HA6 c6
          obtain ⟨F3, hcr3⟩ := Seg.second_ok (plain_le hlen) HCR.out HAD.out
          have HCR3 := Lib.hid hcr3
          clear hcr3
          · obtain ⟨F4, c4, had4⟩ : ∃ F4 c4, Seg.addD 1048576 2 (plainE ([] : List EnX) ++ plainE ms) F3 = (F4, c4) := ⟨_, _, rfl⟩
            have HAD4 := Lib.hid (show Seg.addD 1048576 2 (plainE (([] : List EnX) ++ ms)) F3 = (F4, c4) by rw [plainE_append]; exact had4)
            have HAD5 := Lib.hid had4
            clear had4
            go_wp2
            go_region_held3 (fun X => X.cell? ⟨w4.heap.size, 0, none⟩ = some (.pointer (some ⟨d, 0, none⟩)))
              (first | exact hA.cell | exact hc0 | exact (hA.next ((Below.refl _ _).alloc (Nat.le_refl _) _)).cell | exact hApp1.cell | exact hApp2.cell)
              (first
                | (go_at_call 17; refine (create_at hA HCR3.out).mono ?_; rintro e w' ⟨rfl, ftc, hA, _, _⟩; have hAz := hA.next ((Below.refl _ _).alloc (Nat.le_refl _) (.cells #[] 38)))
                | (refine step_append_row rfl _ _ rfl enT _ _ 0 [] rfl (owns_fresh _ _ 38 7 (Nat.le_refl _)) _ _ _ rfl ((HEn.out.next hAz.below).1) HO1.out (by omega) (by simp) ?_; intro v1 wa hown1 hg1 hne1; have hBw1 := Lib.hid (((Below.refl _ _).alloc (Nat.le_refl _) (.cells #[] 38)).grown hg1 (by simp) (fun k hk => by cases hk; exact Nat.le_refl _)); have hApp1 := hA.next hBw1.out; have hOwn1 := Lib.hid hown1; have hG1 := Lib.hid hg1.size; clear hown1 hg1 hne1)
                | (refine step_append_row rfl _ _ rfl enT _ v1 _ _ rfl hOwn1.out _ _ _ rfl ((HMn.out.next hApp1.below).1) HO2.out (by omega) hBw1.out.size ?_; intro v2 wb hown2 hg2 hne2; have hApp2 := hA.next (hBw1.out.grown hg2 hBw1.out.size (fun k hk => (hOwn1.out.lt k hk).1)); have hOwn2 := Lib.hid hown2; clear hown2 hg2 hne2)
                | (go_at_call 18; refine (add_at hApp2 (by decide) (ents_own (ps := ([] : List EnX) ++ ms) (n := 0 + ([] : List EnX).length + ms.length) (by simp) (by rw [enCells_append]; exact hOwn2.out) (evs_both (HEn.out.next hApp2.below) (HMn.out.next hApp2.below))) (by rw [List.length_append]; omega) HAD4.out).mono ?_; rintro e w' ⟨rfl, ftd, hA, _, _⟩))
            by_cases hc4 : c4 = 0
            · subst hc4
              obtain ⟨f5, f7, f8, k, t, r1, r2, ap, kk1, kk2, l1, ct, l2, ad⟩ := Seg.keeps (keep := keep) (plain_le hlen) (plain_le hmlen) HCR.out HAD.out HCR3.out HAD5.out
              rw [← plainE_append] at kk2 l1 l2 ad
              have hkl : k ≤ (([] : List EnX) ++ ms).length := by rwa [plainE, List.length_map] at kk2
              have hkp : ([] : List EnX).length ≤ k := by rwa [plainE, List.length_map] at kk1
              clear kk1 kk2
              obtain ⟨A, hAn⟩ : ∃ A, Seg.whole 1 (plainE ([] : List EnX)) = A := ⟨_, rfl⟩
              obtain ⟨M, hMn⟩ : ∃ M, (⟨(Seg.bytesB (plainE ms)).toArray⟩ : ByteArray) = M := ⟨_, rfl⟩
              have hAs : A.size ≤ 1000000 := by
                have := Seg.whole_len 1 (plainE ([] : List EnX))
                rw [hAn] at this
                have h2 := plain_le hlen
                omega
              have hMs : M.size ≤ 1000000 := by
                have := Seg.bytesB_len (plainE ms)
                rw [← hMn, Lib.size_eq]
                have h2 := plain_le hmlen
                simp only
                omega
              rw [hAn, hMn] at r2
              rw [hAn] at r1
              rw [hMn] at ap
              obtain ⟨X, hX⟩ : ∃ X, A ++ M = X := ⟨_, rfl⟩
              have hXe : X.extract A.size X.size = M := by rw [← hX]; exact cut_off A M
              have hXs : (A.size : Int) ≤ (X.size : Int) := by rw [← hX, ByteArray.size_append]; omega
              rw [hX] at r2
              have HR1 := Lib.hid (read_at (nm := ⟨#[115, 101, 103, 45, 49]⟩) hA (by decide) (show Dk.read (⟨#[115, 101, 103, 45, 49]⟩ : ByteArray).data.toList F4 = (A, 0) from (by rw [Seg.name1] at r1; exact r1)))
              have HR2 := Lib.hid (read_at (nm := ⟨#[115, 101, 103, 45, 50]⟩) hA (by decide) (show Dk.read (⟨#[115, 101, 103, 45, 50]⟩ : ByteArray).data.toList F4 = (X, 0) from (by rw [Seg.name2] at r2; exact r2)))
              have AP := Lib.hid (show Dk.append 1048576 (⟨#[115, 101, 103, 45, 49]⟩ : ByteArray).data.toList M F4 = (f5, 0) from (by rw [Seg.name1] at ap; exact ap))
              have L1 := Lib.hid l1; have CT := Lib.hid ct; have L2 := Lib.hid l2; have AD := Lib.hid ad
              have c1 := hA.cell
              have HA := Lib.hid hA
              clear r1 r2 ap l1 ct l2 ad hAn hMn hX HCR HAD HCR3 HAD4 HAD5 hbA hc0 hA
              go_wp2_with fail
              refine HR1.out.mono ?_
              rintro e w11 ⟨rfl, h11⟩
              obtain rfl := h11.symm
              go_wp2_with fail
              refine HR2.out.mono ?_
              rintro e w12 ⟨rfl, h12⟩
              obtain rfl := h12.symm
              have hAd := HA.out.next (Below.refl _ _).drew
              have hcc0 := hAd.cell
              have HAP := Lib.hid (append_at (nm := ⟨#[115, 101, 103, 45, 49]⟩) (s := M) hAd (by decide) (by omega) AP.out)
              clear HR1 HR2 AP c1
              go_wp2
              go_region_held3 (fun X => X.cell? ⟨w4.heap.size, 0, none⟩ = some (.pointer (some ⟨d, 0, none⟩)))
                (first | exact hA5.cell | exact hcc0)
                (first
                  | (go_at_call 21; refine HAP.out.mono ?_; rintro e w' ⟨rfl, ft5, hA5, _, _⟩))
              have c5 := hA5.cell
              have hA6 := hA5.next ((Below.refl _ _).alloc (Nat.le_refl _) (.cells #[.int .i64 keep] 3))
              have HCS := Lib.hid (crash_at (ks := [keep]) hA6 (one_int hA5 keep 3) (by simp) (fun n hn => by rw [List.mem_singleton.1 hn]; exact ⟨hk1, hk2⟩) rfl)
              have HA5 := Lib.hid hA5
              clear HAP hAd hcc0 hA5 hA6
              go_wp2_with fail
              refine HCS.out.mono ?_
              rintro e w13 ⟨rfl, ft13, hA13, _, _⟩
              have HLD := Lib.hid (load_at hA13 (by decide) L1.out)
              have c13 := hA13.cell
              have HA13 := Lib.hid hA13
              clear HCS hA13 c5 HA5
              go_wp2_with fail
              refine HLD.out.mono ?_
              rintro e w14 ⟨sa1, sc1, qs, rfl, hqe, hnq, b14⟩
              have hqk : k = qs.length := by
                have := congrArg List.length hqe.out
                rw [List.length_take, plainE, List.length_map, plainE, List.length_map] at this
                omega
              subst hqk
              have hbx := (Below.refl _ w14).alloc (Nat.le_refl _) (.cells #[.int .i64 1, .slice sa1 qs.length sc1, .bool t] 48)
              have HA14 := Lib.hid ((HA13.out.next b14).next hbx)
              have HNQ := Lib.hid (hnq.out.next hbx)
              have SB0 := Lib.hid (show SB w14.heap.size 1 (.slice sa1 qs.length sc1) t (w14.alloc (.cells #[.int .i64 1, .slice sa1 qs.length sc1, .bool t] 48)) from heap_alloc_new w14 _)
              have HS14 := Lib.hid b14.size
              have HQE := Lib.hid (show plainE qs = plainE ((([] : List EnX) ++ ms).take qs.length) by rw [hqe.out, plainE_take])
              have hbV := (HA14.out.next ((Below.refl _ _).alloc (Nat.le_refl _) (.cells #[] 38))).below
              have hx1 := (HEn.out.next hbV).1
              have HX1 := Lib.hid hx1
              have HOF := Lib.hid (owns_fresh (w14.alloc (.cells #[.int .i64 1, .slice sa1 qs.length sc1, .bool t] 48)) _ 38 7 (Nat.le_refl _))
              clear HLD hqe hnq b14 c13 hbx hbV hx1
              have c1n : 0 + ([] : List EnX).length ≤ 1000000 := by omega
              have c2n : 0 + ([] : List EnX).length + ms.length ≤ 1000000 := by omega
              have o0 := HOF.out
              rw [World.size_alloc] at o0
              have x1 := HX1.out
              have u1 := HO1.out
              go_wp2_with (at_builtin; refine wpList_append_row rfl _ _ rfl enT (w14.heap.size + 1) _ 0 [] rfl o0 _ ([] : List EnX).length (enCells ([] : List EnX)) rfl x1 u1 c1n ?c2 ?_)
              case c2 => simp
              intro v1 wa hown1 hg1 hne1
              have hBw1 := ((Below.refl _ (w14.alloc (.cells #[.int .i64 1, .slice sa1 qs.length sc1, .bool t] 48))).alloc (Nat.le_refl _) (.cells #[] 38)).grown hg1 (by simp) (fun j hj => by cases hj; simp)
              have HX2 := Lib.hid (HMn.out.next (HA14.out.next hBw1).below).1
              have HOW1 := Lib.hid hown1
              have HBW1 := Lib.hid hBw1
              have HNE1 := Lib.hid (show ¬ v1 = .slice none 0 0 by first | exact hne1 | exact hne1 (by simp) | simpa using hne1)
              clear hown1 hBw1 hg1 hne1 HOF HX1 o0 x1 u1
              have x2 := HX2.out
              have u2 := HO2.out
              have ow1 := HOW1.out
              have bs1 := HBW1.out.size
              go_wp2_with (at_builtin; refine wpList_append_row rfl _ _ rfl enT (w14.heap.size + 1) v1 _ _ rfl ow1 _ ms.length (enCells ms) rfl x2 u2 ?c3 ?c2 ?_)
              case c3 => first | exact c2n | omega
              case c2 => simpa using bs1
              intro v2 wb hown2 hg2 hne2
              have hBw2 := HBW1.out.grown hg2 HBW1.out.size (fun j hj => by have := (HOW1.out.lt j hj).1; simp only [World.size_alloc] at this ⊢; omega)
              have hownE : wb.ownsRow (w14.heap.size + 1) 38 7 v2 (([] : List EnX) ++ ms).length (enCells (([] : List EnX) ++ ms)) := by simpa [enCells_append, enCells_nil] using hown2
              obtain ⟨gv, cap, rfl, hcapv⟩ := own_slice hownE (hne2 HNE1.out)
              obtain ⟨N, hN⟩ : ∃ N, (([] : List EnX) ++ ms).length = N := ⟨_, rfl⟩
              have hNl : N = (([] : List EnX) ++ ms).length := hN.symm
              have hNb : N ≤ 80 := by rw [← hN, List.length_append]; omega
              rw [hN] at hownE hcapv ⊢
              have hqN : qs.length ≤ N := by rw [hNl]; exact hkl
              have hall := (show wb.ownsRow _ 38 7 (.slice (some ⟨gv, 0, none⟩) N cap) N (enCells (([] : List EnX) ++ ms)) from hownE)
              have HALL := Lib.hid hall
              have hA15 := HA14.out.next hBw2
              have HA15 := Lib.hid hA15
              have HNQ5 := Lib.hid (HNQ.out.next hBw2)
              have SB5 := Lib.hid (SB0.out.next hBw2)
              have HNL := Lib.hid hNl
              have hqcap : qs.length ≤ cap := by omega
              have hkpI : ¬ ((qs.length : Int) < (([] : List EnX).length : Int)) := by omega
              have hqNI : (qs.length : Int) ≤ (N : Int) := by omega
              have hd1 : decide (qs.length < ([] : List EnX).length) = false := decide_eq_false (Nat.not_lt.2 hkp)
              have hd2 : decide (N < qs.length) = false := decide_eq_false (Nat.not_lt.2 hqN)
              have hqIcap : (qs.length : Int) ≤ (cap : Int) := by omega
              have hEv := evs_both (HEn.out.next hA15.below) (HMn.out.next hA15.below)
              have hEnA := (show Ents wb (.slice (some ⟨gv, 0, none⟩) N cap) (([] : List EnX) ++ ms) from ents_own hNl hall hEv)
              rw [hNl] at hEnA
              have hEnT := (ents_take hEnA hkl cap).next (Below.refl _ _).drew
              have hNQd := HNQ5.out.next (Below.refl _ _).drew
              have HSR := Lib.hid (sameRow6_any _ _ qs ((([] : List EnX) ++ ms).take qs.length) wb.drew hNQd.ents hEnT HQE.out (by omega))
              have hsb := SB5.out.next (Below.refl _ _).drew
              have hcc := And.intro hsb.cells.1 hsb.cells.2.1
              clear hqNI hkpI x2 u2 ow1 bs1 c1n c2n hN hown2 hownE hg2 hne2 HOW1 HBW1 HNE1 HX2 hall hA15 hEv hEnA hEnT hNQd hsb hNl hBw2 HNQ SB0 HA14
              go_wp2
              go_region_held3 (fun X => X.cell? ⟨w14.heap.size, 0, none⟩ = some (.int .i64 1) ∧ X.cell? ⟨w14.heap.size, 1, none⟩ = some (.slice sa1 qs.length sc1))
                (first | exact hcc | exact ⟨cell_kept hb (Nat.le_refl _) hcc.1, cell_kept hb (Nat.le_refl _) hcc.2⟩)
                (first
                  | (go_at_call 25; refine HSR.out.mono ?_; rintro e w' ⟨rfl, hb⟩))
              have hA16 := (HA15.out.next (Below.refl _ _).drew).next hb
              have HB16 := Lib.hid (((Below.refl wb.heap.size wb).drew).trans hb)
              have HCU := Lib.hid (cut_at hA16 (by decide) CT.out)
              have c16 := hA16.cell
              have HA16 := Lib.hid hA16
              clear HSR hcc hb hA16 hd1 hd2
              go_wp2_with fail
              refine HCU.out.mono ?_
              rintro e w17 ⟨rfl, ft17, hA17, hf17, ht17⟩
              have hnG : ¬ ft13 w14.heap.size := fun h => by have h1 := HA13.out.2.2.1 _ h; have h2 := HS14.out; omega
              have HSB7 := Lib.hid ((SB5.out.next HB16.out).turn hnG ht17)
              have HNQ7 := Lib.hid ((HNQ5.out.next HB16.out).turn HA13.out.2.2.1 ht17)
              have HALL7 := Lib.hid (ownsRow_turn (owns_next HALL.out HB16.out) (fun j hj => by have h1 := HA13.out.2.2.1 _ hj; have h2 := HS14.out; omega) ht17)
              have hn7 : ¬ ft17 w14.heap.size := fun h => by
                rcases hf17 _ h with h | h
                · exact hnG h
                · have h1 := (Array.getElem?_eq_some_iff.1 SB5.out).1
                  have h2 := HB16.out.size
                  omega
              have HN7 := Lib.hid hn7
              have HL2 := Lib.hid (load_at hA17 (by decide) L2.out)
              have c17 := hA17.cell
              have HA17 := Lib.hid hA17
              clear HCU c16 hA17 hf17 ht17 hnG hn7 HB16 HNQ5 SB5 HALL HA15 HA16
              go_wp2_with fail
              refine HL2.out.mono ?_
              rintro e w18 ⟨sa2, sc2, qs2, rfl, hqe2, hnq2, b18⟩
              have hE2 : plainE qs2 = plainE qs := by rw [hqe2.out, HQE.out, plainE_take]
              have hq2l : qs2.length = qs.length := by
                have := congrArg List.length hE2
                rwa [plainE, plainE, List.length_map, List.length_map] at this
              rw [hq2l] at hnq2 ⊢
              have HQ2 := Lib.hid hq2l
              clear hq2l
              have hby := (Below.refl _ w18).alloc (Nat.le_refl _) (.cells #[.int .i64 1, .slice sa2 qs.length sc2, .bool false] 48)
              have hbz := b18.alloc b18.size (.cells #[.int .i64 1, .slice sa2 qs.length sc2, .bool false] 48)
              have hS : At2 w w4.heap.size d (.pointer (some ⟨m, 0, none⟩)) 1048576 f7 w14.heap.size 1 (.slice sa1 qs.length sc1) t w18.heap.size 1 (.slice sa2 qs.length sc2) false (w18.alloc (.cells #[.int .i64 1, .slice sa2 qs.length sc2, .bool false] 48)).drew :=
                ⟨ft17, (HA17.out.next hbz).next (Below.refl _ _).drew, (HSB7.out.next hbz).next (Below.refl _ _).drew, HN7.out, SB.next (show SB w18.heap.size 1 (.slice sa2 qs.length sc2) false (w18.alloc (.cells #[.int .i64 1, .slice sa2 qs.length sc2, .bool false] 48)) from heap_alloc_new w18 _) (Below.refl _ _).drew, fun h => by have h1 := HA17.out.2.2.1 _ h; have h2 := b18.size; omega⟩
              have hNQ8 := (HNQ7.out.next hbz).next (Below.refl _ _).drew
              have hNR8 := (hnq2.out.next hby).next (Below.refl _ _).drew
              have HSR2 := Lib.hid (sameRow6_any _ _ qs2 qs _ hNR8.ents hNQ8.ents hE2 (by rw [HQ2.out]; omega))
              have HALL8 := Lib.hid (owns_next (owns_next HALL7.out hbz) (Below.refl _ _).drew)
              have hcc := hS.cells
              obtain ⟨o2, ho2, hor⟩ := slice_after (b := gv) (o := 0) hqN hcapv
              simp only [Nat.zero_add] at ho2
              have HAD8 := Lib.hid (show Seg.addD 1048576 1 (plainE ((([] : List EnX) ++ ms).drop qs.length)) f7 = (f8, 0) by rw [plainE_drop]; exact AD.out)
              have HENA := Lib.hid (fun (X : World) (hX : Below w.heap.size w X) (ho : X.ownsRow (w14.heap.size + 1) 38 7 (.slice (some ⟨gv, 0, none⟩) N cap) N (enCells (([] : List EnX) ++ ms))) => ents_own HNL.out ho (evs_both (HEn.out.next hX) (HMn.out.next hX)))
              clear HL2 hqe2 hnq2 b18 hby hbz hE2 hNQ8 hNR8 c17 HA17 HSB7 HNQ7 HALL7
              go_wp2
              go_region_held3 (fun X => X.cell? ⟨w4.heap.size, 0, none⟩ = some (.pointer (some ⟨d, 0, none⟩)) ∧ X.cell? ⟨w14.heap.size, 1, none⟩ = some (.slice sa1 qs.length sc1) ∧ X.cell? ⟨w18.heap.size, 1, none⟩ = some (.slice sa2 qs.length sc2) ∧ X.cell? ⟨w18.heap.size, 2, none⟩ = some (.bool false))
                (first | exact hS.cells | exact hcc)
                (first
                  | (go_at_call 25; refine HSR2.out.mono ?_; rintro e w' ⟨rfl, hb⟩; have hS := hS.next hb; have hOw := owns_next HALL8.out hb; have hEnD := HENA.out _ hS.below hOw)
                  | (go_at_call 18; refine (add_at2 hS (by decide) (ents_after HNL.out hEnD hqN _ _ hor) (by rw [List.length_drop, ← HNL.out]; omega) HAD8.out).mono ?_; rintro e w' ⟨rfl, hS⟩))
              have hbq := hS.below
              go_wp2
              go_ret
              exact ⟨rfl, hbq⟩
            · have hcb4 : ((c4 : Int) != 0) = true := by rw [bne_iff_ne]; omega
              have hb := hA.below
              clear hA
              go_wp2
              go_ret
              exact ⟨rfl, hb⟩
        · have hcb : ((c2 : Int) != 0) = true := by rw [bne_iff_ne]; omega
          have hb := hA7.below
          clear hA7 HA6
          go_wp2
          go_ret
          exact ⟨rfl, hb⟩
      · have hcb : ((c1 : Int) != 0) = true := by rw [bne_iff_ne]; omega
        rw [HW.out] at HCA
        go_wp2_with fail
        refine HCA.out.mono ?_
        rintro e w6 ⟨rfl, ft6, hA6, _, _⟩
        have hb := hA6.below
        clear hA6 HCA
        go_wp2
        go_ret
        exact ⟨rfl, hb⟩
    · obtain ⟨b', o', c', p, ep, S, ex, se, sq, sa, sl, sc, es, hv, k0, _, _, _, _, _, _, _, _, _, _, hpe, _⟩ := enAt (HEn.out.next HA.out.below) 0 hp
      cases hv
      simp only [Nat.zero_mul, Nat.add_zero] at k0
      have hpi : (0 : Int) < (ps.length : Int) := by omega
      obtain ⟨F1, c1, hcr⟩ : ∃ F1 c1, Seg.create 1048576 1 p [] = (F1, c1) := ⟨_, _, rfl⟩
      have HCR := Lib.hid hcr
      have HCA := Lib.hid (create_at HA.out hcr)
      have c0 := HA.out.cell
      rw [HW.out] at c0 k0
      clear hcr
      by_cases hc1 : c1 = 0
      · subst hc1
        obtain ⟨F2, c2, had⟩ : ∃ F2 c2, Seg.addD 1048576 1 (plainE ps) F1 = (F2, c2) := ⟨_, _, rfl⟩
        have HAD := Lib.hid had
        clear had
        rw [HW.out] at HCA
        go_wp2_with fail
        refine HCA.out.mono ?_
        rintro e w6 ⟨rfl, ft6, hA6, _, _⟩
        have HA6 := Lib.hid (add_at hA6 (by decide) (HEn.out.next hA6.below) (by omega) HAD.out)
        have c6 := hA6.cell
        clear hA6 HCA c0
        go_wp2_with fail
        refine HA6.out.mono ?_
        rintro e w7 ⟨rfl, ft7, hA7, _, _⟩
        by_cases hc2 : c2 = 0
        · subst hc2
          have hA := hA7.next (Below.refl _ _).drew
          have hc0 := hA.cell
          have hbA := hA.below
          clear hA7 HA6 c6
          obtain ⟨F3, hcr3⟩ := Seg.second_ok (plain_le hlen) HCR.out HAD.out
          have HCR3 := Lib.hid hcr3
          clear hcr3
          · obtain ⟨F4, c4, had4⟩ : ∃ F4 c4, Seg.addD 1048576 2 (plainE ps ++ plainE ms) F3 = (F4, c4) := ⟨_, _, rfl⟩
            have HAD4 := Lib.hid (show Seg.addD 1048576 2 (plainE (ps ++ ms)) F3 = (F4, c4) by rw [plainE_append]; exact had4)
            have HAD5 := Lib.hid had4
            clear had4
            go_wp2
            go_region_held3 (fun X => X.cell? ⟨w4.heap.size, 0, none⟩ = some (.pointer (some ⟨d, 0, none⟩)))
              (first | exact hA.cell | exact hc0 | exact (hA.next ((Below.refl _ _).alloc (Nat.le_refl _) _)).cell | exact hApp1.cell | exact hApp2.cell)
              (first
                | (go_at_call 17; refine (create_at hA HCR3.out).mono ?_; rintro e w' ⟨rfl, ftc, hA, _, _⟩; have hAz := hA.next ((Below.refl _ _).alloc (Nat.le_refl _) (.cells #[] 38)))
                | (refine step_append_row rfl _ _ rfl enT _ _ 0 [] rfl (owns_fresh _ _ 38 7 (Nat.le_refl _)) _ _ _ rfl ((HEn.out.next hAz.below).1) HO1.out (by omega) (by simp) ?_; intro v1 wa hown1 hg1 hne1; have hBw1 := Lib.hid (((Below.refl _ _).alloc (Nat.le_refl _) (.cells #[] 38)).grown hg1 (by simp) (fun k hk => by cases hk; exact Nat.le_refl _)); have hApp1 := hA.next hBw1.out; have hOwn1 := Lib.hid hown1; have hG1 := Lib.hid hg1.size; clear hown1 hg1 hne1)
                | (refine step_append_row rfl _ _ rfl enT _ v1 _ _ rfl hOwn1.out _ _ _ rfl ((HMn.out.next hApp1.below).1) HO2.out (by omega) hBw1.out.size ?_; intro v2 wb hown2 hg2 hne2; have hApp2 := hA.next (hBw1.out.grown hg2 hBw1.out.size (fun k hk => (hOwn1.out.lt k hk).1)); have hOwn2 := Lib.hid hown2; clear hown2 hg2 hne2)
                | (go_at_call 18; refine (add_at hApp2 (by decide) (ents_own (ps := ps ++ ms) (n := 0 + ps.length + ms.length) (by simp) (by rw [enCells_append]; exact hOwn2.out) (evs_both (HEn.out.next hApp2.below) (HMn.out.next hApp2.below))) (by rw [List.length_append]; omega) HAD4.out).mono ?_; rintro e w' ⟨rfl, ftd, hA, _, _⟩))
            by_cases hc4 : c4 = 0
            · subst hc4
              obtain ⟨f5, f7, f8, k, t, r1, r2, ap, kk1, kk2, l1, ct, l2, ad⟩ := Seg.keeps (keep := keep) (plain_le hlen) (plain_le hmlen) HCR.out HAD.out HCR3.out HAD5.out
              rw [← plainE_append] at kk2 l1 l2 ad
              have hkl : k ≤ (ps ++ ms).length := by rwa [plainE, List.length_map] at kk2
              have hkp : ps.length ≤ k := by rwa [plainE, List.length_map] at kk1
              clear kk1 kk2
              obtain ⟨A, hAn⟩ : ∃ A, Seg.whole p (plainE ps) = A := ⟨_, rfl⟩
              obtain ⟨M, hMn⟩ : ∃ M, (⟨(Seg.bytesB (plainE ms)).toArray⟩ : ByteArray) = M := ⟨_, rfl⟩
              have hAs : A.size ≤ 1000000 := by
                have := Seg.whole_len p (plainE ps)
                rw [hAn] at this
                have h2 := plain_le hlen
                omega
              have hMs : M.size ≤ 1000000 := by
                have := Seg.bytesB_len (plainE ms)
                rw [← hMn, Lib.size_eq]
                have h2 := plain_le hmlen
                simp only
                omega
              rw [hAn, hMn] at r2
              rw [hAn] at r1
              rw [hMn] at ap
              obtain ⟨X, hX⟩ : ∃ X, A ++ M = X := ⟨_, rfl⟩
              have hXe : X.extract A.size X.size = M := by rw [← hX]; exact cut_off A M
              have hXs : (A.size : Int) ≤ (X.size : Int) := by rw [← hX, ByteArray.size_append]; omega
              rw [hX] at r2
              have HR1 := Lib.hid (read_at (nm := ⟨#[115, 101, 103, 45, 49]⟩) hA (by decide) (show Dk.read (⟨#[115, 101, 103, 45, 49]⟩ : ByteArray).data.toList F4 = (A, 0) from (by rw [Seg.name1] at r1; exact r1)))
              have HR2 := Lib.hid (read_at (nm := ⟨#[115, 101, 103, 45, 50]⟩) hA (by decide) (show Dk.read (⟨#[115, 101, 103, 45, 50]⟩ : ByteArray).data.toList F4 = (X, 0) from (by rw [Seg.name2] at r2; exact r2)))
              have AP := Lib.hid (show Dk.append 1048576 (⟨#[115, 101, 103, 45, 49]⟩ : ByteArray).data.toList M F4 = (f5, 0) from (by rw [Seg.name1] at ap; exact ap))
              have L1 := Lib.hid l1; have CT := Lib.hid ct; have L2 := Lib.hid l2; have AD := Lib.hid ad
              have c1 := hA.cell
              have HA := Lib.hid hA
              clear r1 r2 ap l1 ct l2 ad hAn hMn hX HCR HAD HCR3 HAD4 HAD5 hbA hc0 hA
              go_wp2_with fail
              refine HR1.out.mono ?_
              rintro e w11 ⟨rfl, h11⟩
              obtain rfl := h11.symm
              go_wp2_with fail
              refine HR2.out.mono ?_
              rintro e w12 ⟨rfl, h12⟩
              obtain rfl := h12.symm
              have hAd := HA.out.next (Below.refl _ _).drew
              have hcc0 := hAd.cell
              have HAP := Lib.hid (append_at (nm := ⟨#[115, 101, 103, 45, 49]⟩) (s := M) hAd (by decide) (by omega) AP.out)
              clear HR1 HR2 AP c1
              go_wp2
              go_region_held3 (fun X => X.cell? ⟨w4.heap.size, 0, none⟩ = some (.pointer (some ⟨d, 0, none⟩)))
                (first | exact hA5.cell | exact hcc0)
                (first
                  | (go_at_call 21; refine HAP.out.mono ?_; rintro e w' ⟨rfl, ft5, hA5, _, _⟩))
              have c5 := hA5.cell
              have hA6 := hA5.next ((Below.refl _ _).alloc (Nat.le_refl _) (.cells #[.int .i64 keep] 3))
              have HCS := Lib.hid (crash_at (ks := [keep]) hA6 (one_int hA5 keep 3) (by simp) (fun n hn => by rw [List.mem_singleton.1 hn]; exact ⟨hk1, hk2⟩) rfl)
              have HA5 := Lib.hid hA5
              clear HAP hAd hcc0 hA5 hA6
              go_wp2_with fail
              refine HCS.out.mono ?_
              rintro e w13 ⟨rfl, ft13, hA13, _, _⟩
              have HLD := Lib.hid (load_at hA13 (by decide) L1.out)
              have c13 := hA13.cell
              have HA13 := Lib.hid hA13
              clear HCS hA13 c5 HA5
              go_wp2_with fail
              refine HLD.out.mono ?_
              rintro e w14 ⟨sa1, sc1, qs, rfl, hqe, hnq, b14⟩
              have hqk : k = qs.length := by
                have := congrArg List.length hqe.out
                rw [List.length_take, plainE, List.length_map, plainE, List.length_map] at this
                omega
              subst hqk
              have hbx := (Below.refl _ w14).alloc (Nat.le_refl _) (.cells #[.int .i64 p, .slice sa1 qs.length sc1, .bool t] 48)
              have HA14 := Lib.hid ((HA13.out.next b14).next hbx)
              have HNQ := Lib.hid (hnq.out.next hbx)
              have SB0 := Lib.hid (show SB w14.heap.size p (.slice sa1 qs.length sc1) t (w14.alloc (.cells #[.int .i64 p, .slice sa1 qs.length sc1, .bool t] 48)) from heap_alloc_new w14 _)
              have HS14 := Lib.hid b14.size
              have HQE := Lib.hid (show plainE qs = plainE ((ps ++ ms).take qs.length) by rw [hqe.out, plainE_take])
              have hbV := (HA14.out.next ((Below.refl _ _).alloc (Nat.le_refl _) (.cells #[] 38))).below
              have hx1 := (HEn.out.next hbV).1
              have HX1 := Lib.hid hx1
              have HOF := Lib.hid (owns_fresh (w14.alloc (.cells #[.int .i64 p, .slice sa1 qs.length sc1, .bool t] 48)) _ 38 7 (Nat.le_refl _))
              clear HLD hqe hnq b14 c13 hbx hbV hx1
              have c1n : 0 + ps.length ≤ 1000000 := by omega
              have c2n : 0 + ps.length + ms.length ≤ 1000000 := by omega
              have o0 := HOF.out
              rw [World.size_alloc] at o0
              have x1 := HX1.out
              have u1 := HO1.out
              go_wp2_with (at_builtin; refine wpList_append_row rfl _ _ rfl enT (w14.heap.size + 1) _ 0 [] rfl o0 _ ps.length (enCells ps) rfl x1 u1 c1n ?c2 ?_)
              case c2 => simp
              intro v1 wa hown1 hg1 hne1
              have hBw1 := ((Below.refl _ (w14.alloc (.cells #[.int .i64 p, .slice sa1 qs.length sc1, .bool t] 48))).alloc (Nat.le_refl _) (.cells #[] 38)).grown hg1 (by simp) (fun j hj => by cases hj; simp)
              have HX2 := Lib.hid (HMn.out.next (HA14.out.next hBw1).below).1
              have HOW1 := Lib.hid hown1
              have HBW1 := Lib.hid hBw1
              have HNE1 := Lib.hid (show ¬ v1 = .slice none 0 0 by first | exact hne1 | exact hne1 (by simp) | simpa using hne1)
              clear hown1 hBw1 hg1 hne1 HOF HX1 o0 x1 u1
              have x2 := HX2.out
              have u2 := HO2.out
              have ow1 := HOW1.out
              have bs1 := HBW1.out.size
              go_wp2_with (at_builtin; refine wpList_append_row rfl _ _ rfl enT (w14.heap.size + 1) v1 _ _ rfl ow1 _ ms.length (enCells ms) rfl x2 u2 ?c3 ?c2 ?_)
              case c3 => first | exact c2n | omega
              case c2 => simpa using bs1
              intro v2 wb hown2 hg2 hne2
              have hBw2 := HBW1.out.grown hg2 HBW1.out.size (fun j hj => by have := (HOW1.out.lt j hj).1; simp only [World.size_alloc] at this ⊢; omega)
              have hownE : wb.ownsRow (w14.heap.size + 1) 38 7 v2 (ps ++ ms).length (enCells (ps ++ ms)) := by simpa [enCells_append, enCells_nil] using hown2
              obtain ⟨gv, cap, rfl, hcapv⟩ := own_slice hownE (hne2 HNE1.out)
              obtain ⟨N, hN⟩ : ∃ N, (ps ++ ms).length = N := ⟨_, rfl⟩
              have hNl : N = (ps ++ ms).length := hN.symm
              have hNb : N ≤ 80 := by rw [← hN, List.length_append]; omega
              rw [hN] at hownE hcapv ⊢
              have hqN : qs.length ≤ N := by rw [hNl]; exact hkl
              have hall := (show wb.ownsRow _ 38 7 (.slice (some ⟨gv, 0, none⟩) N cap) N (enCells (ps ++ ms)) from hownE)
              have HALL := Lib.hid hall
              have hA15 := HA14.out.next hBw2
              have HA15 := Lib.hid hA15
              have HNQ5 := Lib.hid (HNQ.out.next hBw2)
              have SB5 := Lib.hid (SB0.out.next hBw2)
              have HNL := Lib.hid hNl
              have hqcap : qs.length ≤ cap := by omega
              have hkpI : ¬ ((qs.length : Int) < (ps.length : Int)) := by omega
              have hqNI : (qs.length : Int) ≤ (N : Int) := by omega
              have hd1 : decide (qs.length < ps.length) = false := decide_eq_false (Nat.not_lt.2 hkp)
              have hd2 : decide (N < qs.length) = false := decide_eq_false (Nat.not_lt.2 hqN)
              have hqIcap : (qs.length : Int) ≤ (cap : Int) := by omega
              have hEv := evs_both (HEn.out.next hA15.below) (HMn.out.next hA15.below)
              have hEnA := (show Ents wb (.slice (some ⟨gv, 0, none⟩) N cap) (ps ++ ms) from ents_own hNl hall hEv)
              rw [hNl] at hEnA
              have hEnT := (ents_take hEnA hkl cap).next (Below.refl _ _).drew
              have hNQd := HNQ5.out.next (Below.refl _ _).drew
              have HSR := Lib.hid (sameRow6_any _ _ qs ((ps ++ ms).take qs.length) wb.drew hNQd.ents hEnT HQE.out (by omega))
              have hsb := SB5.out.next (Below.refl _ _).drew
              have hcc := And.intro hsb.cells.1 hsb.cells.2.1
              clear hqNI hkpI x2 u2 ow1 bs1 c1n c2n hN hown2 hownE hg2 hne2 HOW1 HBW1 HNE1 HX2 hall hA15 hEv hEnA hEnT hNQd hsb hNl hBw2 HNQ SB0 HA14
              go_wp2
              go_region_held3 (fun X => X.cell? ⟨w14.heap.size, 0, none⟩ = some (.int .i64 p) ∧ X.cell? ⟨w14.heap.size, 1, none⟩ = some (.slice sa1 qs.length sc1))
                (first | exact hcc | exact ⟨cell_kept hb (Nat.le_refl _) hcc.1, cell_kept hb (Nat.le_refl _) hcc.2⟩)
                (first
                  | (go_at_call 25; refine HSR.out.mono ?_; rintro e w' ⟨rfl, hb⟩))
              have hA16 := (HA15.out.next (Below.refl _ _).drew).next hb
              have HB16 := Lib.hid (((Below.refl wb.heap.size wb).drew).trans hb)
              have HCU := Lib.hid (cut_at hA16 (by decide) CT.out)
              have c16 := hA16.cell
              have HA16 := Lib.hid hA16
              clear HSR hcc hb hA16 hd1 hd2
              go_wp2_with fail
              refine HCU.out.mono ?_
              rintro e w17 ⟨rfl, ft17, hA17, hf17, ht17⟩
              have hnG : ¬ ft13 w14.heap.size := fun h => by have h1 := HA13.out.2.2.1 _ h; have h2 := HS14.out; omega
              have HSB7 := Lib.hid ((SB5.out.next HB16.out).turn hnG ht17)
              have HNQ7 := Lib.hid ((HNQ5.out.next HB16.out).turn HA13.out.2.2.1 ht17)
              have HALL7 := Lib.hid (ownsRow_turn (owns_next HALL.out HB16.out) (fun j hj => by have h1 := HA13.out.2.2.1 _ hj; have h2 := HS14.out; omega) ht17)
              have hn7 : ¬ ft17 w14.heap.size := fun h => by
                rcases hf17 _ h with h | h
                · exact hnG h
                · have h1 := (Array.getElem?_eq_some_iff.1 SB5.out).1
                  have h2 := HB16.out.size
                  omega
              have HN7 := Lib.hid hn7
              have HL2 := Lib.hid (load_at hA17 (by decide) L2.out)
              have c17 := hA17.cell
              have HA17 := Lib.hid hA17
              clear HCU c16 hA17 hf17 ht17 hnG hn7 HB16 HNQ5 SB5 HALL HA15 HA16
              go_wp2_with fail
              refine HL2.out.mono ?_
              rintro e w18 ⟨sa2, sc2, qs2, rfl, hqe2, hnq2, b18⟩
              have hE2 : plainE qs2 = plainE qs := by rw [hqe2.out, HQE.out, plainE_take]
              have hq2l : qs2.length = qs.length := by
                have := congrArg List.length hE2
                rwa [plainE, plainE, List.length_map, List.length_map] at this
              rw [hq2l] at hnq2 ⊢
              have HQ2 := Lib.hid hq2l
              clear hq2l
              have hby := (Below.refl _ w18).alloc (Nat.le_refl _) (.cells #[.int .i64 p, .slice sa2 qs.length sc2, .bool false] 48)
              have hbz := b18.alloc b18.size (.cells #[.int .i64 p, .slice sa2 qs.length sc2, .bool false] 48)
              have hS : At2 w w4.heap.size d (.pointer (some ⟨m, 0, none⟩)) 1048576 f7 w14.heap.size p (.slice sa1 qs.length sc1) t w18.heap.size p (.slice sa2 qs.length sc2) false (w18.alloc (.cells #[.int .i64 p, .slice sa2 qs.length sc2, .bool false] 48)).drew :=
                ⟨ft17, (HA17.out.next hbz).next (Below.refl _ _).drew, (HSB7.out.next hbz).next (Below.refl _ _).drew, HN7.out, SB.next (show SB w18.heap.size p (.slice sa2 qs.length sc2) false (w18.alloc (.cells #[.int .i64 p, .slice sa2 qs.length sc2, .bool false] 48)) from heap_alloc_new w18 _) (Below.refl _ _).drew, fun h => by have h1 := HA17.out.2.2.1 _ h; have h2 := b18.size; omega⟩
              have hNQ8 := (HNQ7.out.next hbz).next (Below.refl _ _).drew
              have hNR8 := (hnq2.out.next hby).next (Below.refl _ _).drew
              have HSR2 := Lib.hid (sameRow6_any _ _ qs2 qs _ hNR8.ents hNQ8.ents hE2 (by rw [HQ2.out]; omega))
              have HALL8 := Lib.hid (owns_next (owns_next HALL7.out hbz) (Below.refl _ _).drew)
              have hcc := hS.cells
              obtain ⟨o2, ho2, hor⟩ := slice_after (b := gv) (o := 0) hqN hcapv
              simp only [Nat.zero_add] at ho2
              have HAD8 := Lib.hid (show Seg.addD 1048576 1 (plainE ((ps ++ ms).drop qs.length)) f7 = (f8, 0) by rw [plainE_drop]; exact AD.out)
              have HENA := Lib.hid (fun (X : World) (hX : Below w.heap.size w X) (ho : X.ownsRow (w14.heap.size + 1) 38 7 (.slice (some ⟨gv, 0, none⟩) N cap) N (enCells (ps ++ ms))) => ents_own HNL.out ho (evs_both (HEn.out.next hX) (HMn.out.next hX)))
              clear HL2 hqe2 hnq2 b18 hby hbz hE2 hNQ8 hNR8 c17 HA17 HSB7 HNQ7 HALL7
              go_wp2
              go_region_held3 (fun X => X.cell? ⟨w4.heap.size, 0, none⟩ = some (.pointer (some ⟨d, 0, none⟩)) ∧ X.cell? ⟨w14.heap.size, 1, none⟩ = some (.slice sa1 qs.length sc1) ∧ X.cell? ⟨w18.heap.size, 1, none⟩ = some (.slice sa2 qs.length sc2) ∧ X.cell? ⟨w18.heap.size, 2, none⟩ = some (.bool false))
                (first | exact hS.cells | exact hcc)
                (first
                  | (go_at_call 25; refine HSR2.out.mono ?_; rintro e w' ⟨rfl, hb⟩; have hS := hS.next hb; have hOw := owns_next HALL8.out hb; have hEnD := HENA.out _ hS.below hOw)
                  | (go_at_call 18; refine (add_at2 hS (by decide) (ents_after HNL.out hEnD hqN _ _ hor) (by rw [List.length_drop, ← HNL.out]; omega) HAD8.out).mono ?_; rintro e w' ⟨rfl, hS⟩))
              have hbq := hS.below
              go_wp2
              go_ret
              exact ⟨rfl, hbq⟩
            · have hcb4 : ((c4 : Int) != 0) = true := by rw [bne_iff_ne]; omega
              have hb := hA.below
              clear hA
              go_wp2
              go_ret
              exact ⟨rfl, hb⟩
        · have hcb : ((c2 : Int) != 0) = true := by rw [bne_iff_ne]; omega
          have hb := hA7.below
          clear hA7 HA6
          go_wp2
          go_ret
          exact ⟨rfl, hb⟩
      · have hcb : ((c1 : Int) != 0) = true := by rw [bne_iff_ne]; omega
        rw [HW.out] at HCA
        go_wp2_with fail
        refine HCA.out.mono ?_
        rintro e w6 ⟨rfl, ft6, hA6, _, _⟩
        have hb := hA6.below
        clear hA6 HCA
        go_wp2
        go_ret
        exact ⟨rfl, hb⟩
end Go.Proofs.YthmblkckpdpjkaaGreatDoor
