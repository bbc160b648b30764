/-
  The document's disk: the walk of Append.
-/
import Derived.Test.YtiaddfghojdgkaaGreatDoorRDke
namespace Go.Proofs.YtiaddfghojdgkaaGreatDoor
open Go.RowKit Go.Shelf

theorem Dk.ins_idx {y : Dk.File} : ∀ (fs : List Dk.File), Dk.Sorted fs → Dk.look fs y.name = none → Dk.put y fs = fs.take (Dk.idx y.name fs) ++ y :: fs.drop (Dk.idx y.name fs)
  | [], _, _ => rfl
  | x :: fs, hs, h => by
    have h' := List.pairwise_cons.1 hs
    rw [Dk.put, Dk.idx]
    have e : x.name ≠ y.name := Dk.look_none h x (by simp)
    have h2 : Dk.look fs y.name = none := by rw [Dk.look, if_neg e] at h; exact h
    rw [if_neg e]
    by_cases e2 : y.name < x.name
    · rw [if_pos e2, if_neg (fun e3 => Std.lt_irrefl (Std.lt_trans e2 e3))]; rfl
    · rw [if_neg e2, if_pos (Dk.lt_of_not e e2), Dk.ins_idx fs h'.2 h2]; rfl
theorem Dk.put_fit {room : Int} {fs : List Dk.File} (h : Dk.Fit room fs) (y : Dk.File) (hl : (Dk.look fs y.name).isSome ∨ fs.length < 40) (ht : (Dk.total (Dk.put y fs) : Int) ≤ room) (hy : y.synced ≤ y.bytes.size) : Dk.Fit room (Dk.put y fs) := by
  refine ⟨?_, Dk.sorted_put y fs h.2.1, ⟨h.2.2.1.1, h.2.2.1.2.1, ht⟩, fun x hx => ?_⟩
  · rw [Dk.put_len y fs h.2.1]
    have := h.1
    split
    · exact this
    · rename_i e; rcases hl with hl | hl
      · exact absurd hl e
      · omega
  · rcases Dk.mem_put y fs x hx with rfl | hx
    · exact hy
    · exact h.2.2.2 x hx
theorem Dk.ins_len {fs : List Dk.File} {K : Nat} (hK : K ≤ fs.length) (y : Dk.File) : (fs.take K ++ y :: fs.drop K).length = fs.length + 1 := by
  rw [List.length_append, List.length_take, List.length_cons, List.length_drop]; omega
theorem Dk.ins_at {fs : List Dk.File} {K : Nat} (hK : K ≤ fs.length) (y : Dk.File) : (fs.take K ++ y :: fs.drop K)[K]? = some y := by
  have hl : (fs.take K).length = K := by rw [List.length_take]; omega
  rw [List.getElem?_append_right (by omega), hl, Nat.sub_self]; rfl
theorem Dk.ins_set {fs : List Dk.File} {K : Nat} (hK : K ≤ fs.length) (y y2 : Dk.File) : (fs.take K ++ y :: fs.drop K).set K y2 = fs.take K ++ y2 :: fs.drop K := by
  have hl : (fs.take K).length = K := by rw [List.length_take]; omega
  rw [List.set_append_right _ _ (by omega), hl, Nat.sub_self]; rfl
/-- The bytes of a file in the row are written anew. -/
theorem IsR.bytes {w : World} {d g cap K : Nat} {room : Int} {fs : List Dk.File} {ft : Nat → Prop} {x : Dk.File} (h1 : w.heap[d]? = some (.cells #[.slice (some ⟨g, 0, none⟩) fs.length cap, .int .i64 room] 176 (0, 0)))
    (h2 : w.ownsRow 0 178 3 (.slice (some ⟨g, 0, none⟩) fs.length cap) fs.length (flCells fs)) (hd : ft d) (hg : ft g) (hne : d ≠ g) (hx : fs[K]? = some x) (b : ByteArray) (hf : Dk.Fit room (fs.set K ⟨x.name, b, x.synced⟩)) :
    (IsR (w.setCell ⟨g, K * 3 + 1, none⟩ (.string b)) d room (fs.set K ⟨x.name, b, x.synced⟩) ft ∧ Turn ft w (w.setCell ⟨g, K * 3 + 1, none⟩ (.string b))) ∧ w.cell? ⟨d, 0, none⟩ = some (.slice (some ⟨g, 0, none⟩) fs.length cap) ∧ w.cell? ⟨g, K * 3 + 1, none⟩ = some (.string x.bytes) ∧ w.frozen? ⟨g, K * 3 + 1, none⟩ = false ∧ K < fs.length := by
  obtain ⟨hi, hx2⟩ := List.getElem?_eq_some_iff.1 hx
  have hs := flCells_bytes fs K hi b
  rw [hx2] at hs
  obtain ⟨b', o, c, hv, -, c1, -⟩ := flAt (cells_of_owns h2) K hi
  cases hv
  rw [hx2] at c1
  have hfr : w.frozen? ⟨g, K * 3 + 1, none⟩ = false := by
    rcases h2.2 with ⟨h, _⟩ | ⟨g2, cap2, cur, hv, hb, hg, _⟩
    · cases h
    · cases hv; exact Lib.frozen_of_heap hg _
  exact ⟨IsR.store h1 h2 hd hg hne (by omega) (.string b) (by rw [List.length_set]) hs hf, by rw [Lib.cell_of_heap h1]; rfl, by simpa using c1, hfr, hi⟩
theorem Dk.append_some {room : Int} {fs : List Dk.File} {k : List UInt8} {s : ByteArray} {x : Dk.File} (hn : Txt.name k = true) (hl : Dk.look fs k = some x) : Dk.append room k s fs = if room - (Dk.total fs : Int) < (s.size : Int) then (fs, 8) else (Dk.put ⟨k, x.bytes ++ s, x.synced⟩ fs, 0) := by
  rw [Dk.append, if_neg (by rw [hn]; simp), hl, if_neg (by simp)]; rfl
theorem Dk.append_none {room : Int} {fs : List Dk.File} {k : List UInt8} {s : ByteArray} (hn : Txt.name k = true) (hl : Dk.look fs k = none) : Dk.append room k s fs = if 40 ≤ fs.length then (fs, 4) else if room - (Dk.total fs : Int) < (s.size : Int) then (fs, 8) else (Dk.put ⟨k, s, 0⟩ fs, 0) := by
  rw [Dk.append, if_neg (by rw [hn]; simp), hl]
  by_cases h : 40 ≤ fs.length
  · rw [if_pos ⟨rfl, h⟩, if_pos h]
  · rw [if_neg (fun e => h e.2), if_neg h]; rfl
theorem fl_takeV {w : World} {va : Option Addr} {c k : Nat} {fs : List Dk.File} (h : Cells w (.slice va fs.length c) 3 fs.length (flCells fs)) (hk : k ≤ fs.length) : Cells w (.slice va k c) 3 k (flCells (fs.take k)) := by
  rcases h.2 with ⟨h0, _⟩ | ⟨b, o, c', e, _⟩
  · have hq : fs = [] := List.eq_nil_of_length_eq_zero h0
    have hm0 : k = 0 := by omega
    subst hq hm0
    exact ⟨rfl, .inl ⟨rfl, _, _, rfl⟩⟩
  · cases e
    exact fl_take h hk c
theorem owns_some {w : World} {B e sz n : Nat} {v : Value} {xs : List Value} (h : w.ownsRow B e sz v n xs) (hn : 0 < n) : ∃ g cap, v = .slice (some ⟨g, 0, none⟩) n cap ∧ B ≤ g := by
  rcases h.2 with ⟨_, h⟩ | ⟨g, cap, cur, rfl, hb, _⟩
  · omega
  · exact ⟨g, cap, rfl, hb⟩
theorem owns_cap {w : World} {B e sz n c : Nat} {va : Option Addr} {xs : List Value} (h : w.ownsRow B e sz (.slice va n c) n xs) : n ≤ c ∧ (va = none ∧ n = 0 ∧ c = 0 ∨ ∃ g, va = some ⟨g, 0, none⟩) := by
  rcases h.2 with ⟨e, h⟩ | ⟨g, cap, cur, e, hb, hg, hc, _⟩
  · cases e; exact ⟨Nat.le_refl _, .inl ⟨rfl, rfl, rfl⟩⟩
  · cases e; exact ⟨hc, .inr ⟨g, rfl⟩⟩
theorem fl_dropV {w : World} {fs : List Dk.File} {k g c' o2 : Nat} {c : Nat} (h : Cells w (.slice (some ⟨g, 0, none⟩) fs.length c) 3 fs.length (flCells fs)) (hk : k ≤ fs.length) (ho : o2 = 0 + k * 3 ∨ k = fs.length) : Cells w (.slice (some ⟨g, o2, none⟩) (fs.length - k) c') 3 (fs.length - k) (flCells (fs.drop k)) := fl_drop h hk o2 c' ho
theorem flCells_ins (fs : List Dk.File) (K : Nat) (nm b : ByteArray) (n : Nat) : flCells (fs.take K ++ ⟨nm.data.toList, b, n⟩ :: fs.drop K) = flCells (fs.take K) ++ [.string nm, .string b, .int .i64 (n : Int)] ++ flCells (fs.drop K) := by
  rw [flCells_append, flCells_cons]; simp
set_option maxHeartbeats 2000000 in
set_option maxRecDepth 100000 in
theorem rdAppend_any (d : Nat) (room : Int) (fs : List Dk.File) (ft : Nat → Prop) (nm s : ByteArray) (w : World) (h : IsR w d room fs ft) (hn : nm.size ≤ 1000000000) (hs : s.size ≤ 1000000000000) :
    Calls Tryz.prog 63 #[.pointer (some ⟨d, 0, none⟩), .string nm, .string s] w fun e w' => e = .returned (.int .i64 ((Dk.append room nm.data.toList s fs).2 : Nat)) ∧ RStep d room (Dk.append room nm.data.toList s fs).1 ft w w' := by
  have HN := Lib.hid (refName_any nm w (by omega))
  have HI := Lib.hid h
  have hfit := h.fit
  have hroom := hfit.2.2.1
  have hm := hfit.1
  cases hR : Txt.name nm.data.toList with
  | false =>
    have HQ := Lib.hid (show Dk.append room nm.data.toList s fs = (fs, 1) by rw [Dk.append, if_pos hR])
    rw [hR] at HN
    clear h hR
    go_enter Tryz.func63, Tryz.ntmps63
    go_wp2_with fail
    refine HN.out.mono ?_
    rintro e w1 ⟨rfl, b1⟩
    go_wp2
    go_ret
    exact ⟨by rw [HQ.out]; rfl, by rw [HQ.out]; exact RStep.of_below HI.out b1⟩
  | true =>
    have HRT := Lib.hid hR
    rw [hR] at HN
    have hwr : IntKind.i64.wrap ((Dk.total fs : Int) + (s.size : Int)) = (Dk.total fs : Int) + (s.size : Int) := by rw [IntKind.wrap_i64]; omega
    have HU := Lib.hid (fun w1 b1 => (rdUsed_any d room fs ft w1 ((HI.out).next (w' := w1) b1)).mono (fun _ _ h => (And.intro h.1 h.2.symm)))
    cases hl : Dk.look fs nm.data.toList with
    | some x =>
      have HQ := Lib.hid (Dk.append_some (room := room) (s := s) hR hl)
      have HL := Lib.hid hl
      obtain ⟨hi, hx⟩ := Dk.idx_some hfit.2.1 hl
      have HF := Lib.hid (fun w1 b1 => rfind_any d room fs ft nm w1 ((HI.out).next (w' := w1) b1))
      rw [hl] at HF
      have hput := Dk.put_idx (k := nm.data.toList) (y := ⟨nm.data.toList, x.bytes ++ s, x.synced⟩) rfl fs hfit.2.1 (by rw [hl]; rfl)
      have hxn := (Dk.look_name hl).1
      have htot := Dk.put_total ⟨nm.data.toList, x.bytes ++ s, x.synced⟩ fs hfit.2.1
      simp only [hl] at htot
      have hxs := hfit.2.2.2 x (Dk.look_name hl).2
      have hxl := Dk.look_le hl
      obtain ⟨g, cap, h1, h2, h6, h7, hne, hcap, -⟩ := h.row (by omega)
      obtain ⟨K, hK⟩ : ∃ K, Dk.idx nm.data.toList fs = K := ⟨_, rfl⟩
      rw [hK] at HF hi hput
      have hx2 : fs[K]? = some x := by subst hK; rw [List.getElem?_eq_getElem hi, hx]
      have hvD : ∀ w1, Below w.heap.size w w1 → w1.cell? ⟨d, 0, none⟩ = some (.slice (some ⟨g, 0, none⟩) fs.length cap) ∧ w1.cell? ⟨d, 1, none⟩ = some (.int .i64 room) := fun w1 b1 => by
        have := heap_kept b1 (Nat.le_refl _) h1
        exact ⟨by rw [Lib.cell_of_heap this]; rfl, by rw [Lib.cell_of_heap this]; rfl⟩
      have HVD := Lib.hid hvD
      clear hvD hR hl hK hx
      go_enter Tryz.func63, Tryz.ntmps63
      go_wp2_with fail
      refine HN.out.mono ?_
      rintro e w1 ⟨rfl, b1⟩
      have HF1 := Lib.hid (HF.out w1 b1)
      go_wp2_with fail
      refine HF1.out.mono ?_
      rintro e w2 ⟨rfl, b2⟩
      have b2 := Below.up b1 (Nat.le_refl _) b2
      obtain ⟨k0, k1⟩ := HVD.out w2 b2
      have HU2 := Lib.hid (fun n => HU.out (w2.drewN n) (below_drewN b2 n))
      clear HF1 b1
      by_cases hfull : room < (Dk.total fs : Int) + (s.size : Int)
      · have HQ2 := Lib.hid (show Dk.append room nm.data.toList s fs = (fs, 8) by rw [HQ.out, if_pos (by omega)])
        clear HQ hput htot
        go_wp2
        go_quiet (first | (go_at_call 70; exact Calls.quiet_of_same (HU2.out _)))
        go_wp2
        go_ret
        exact ⟨by rw [HQ2.out]; rfl, by rw [HQ2.out]; exact RStep.of_below HI.out (below_drewN b2 _)⟩
      · have HQ2 := Lib.hid (show Dk.append room nm.data.toList s fs = (fs.set K ⟨x.name, x.bytes ++ s, x.synced⟩, 0) by rw [HQ.out, if_neg (by omega), hput, hxn])
        have hsz : (x.bytes ++ s).size = x.bytes.size + s.size := ByteArray.size_append
        have hfit2 : Dk.Fit room (fs.set K ⟨x.name, x.bytes ++ s, x.synced⟩) := by
          rw [hxn, ← hput]
          exact Dk.put_fit hfit _ (.inl (by simp only; rw [HL.out]; rfl)) (by simp only [hsz] at htot; omega) (by simp only [hsz]; omega)
        clear HQ hput htot
        go_wp2
        go_quiet (first | (go_at_call 70; exact Calls.quiet_of_same (HU2.out _)))
        obtain ⟨W, hW⟩ : ∃ W, w2.drewN nq = W := ⟨_, rfl⟩
        have hbW : Below w.heap.size w W := by rw [← hW]; exact below_drewN b2 _
        obtain ⟨HP, k2, k3, k4, -⟩ := IsR.bytes (w := W) (heap_kept hbW (Nat.le_refl _) h1) (owns_next h2 hbW) h6 h7 hne hx2 (x.bytes ++ s) hfit2
        have HP := Lib.hid HP
        have hadd : ∀ w, (Op.stringOp .add x.bytes s).run Tryz.prog w = .ok (.string (x.bytes ++ s)) w := fun w => add_lists w x.bytes s (x.bytes ++ s) (by omega) (by simp)
        rw [hW]
        clear hW h1 h2 hsz hfit2 HI HU HU2 HF
        go_wp2
        go_region
        go_wp2
        go_ret
        exact ⟨by rw [HQ2.out]; rfl, by rw [HQ2.out]; exact RStep.of hbW HP.out.1 (fun j hj => .inl hj) HP.out.2 (Below.refl _ _).drew⟩
    | none =>
      have HQ := Lib.hid (Dk.append_none (room := room) (s := s) hR hl)
      have HF := Lib.hid (fun w1 b1 => rfind_any d room fs ft nm w1 ((HI.out).next (w' := w1) b1))
      rw [hl] at HF
      have hKle := Dk.idx_le nm.data.toList fs
      have hput := Dk.ins_idx (y := ⟨nm.data.toList, s, 0⟩) fs hfit.2.1 hl
      have htot := Dk.put_total ⟨nm.data.toList, s, 0⟩ fs hfit.2.1
      simp only [hl] at htot
      obtain ⟨v, h1, h2, h3, h4, h5, h6, h7, h8⟩ := h
      obtain ⟨va, vc, rfl⟩ := cells_sliceV (cells_of_owns h2)
      obtain ⟨hcap, hform⟩ := owns_cap h2
      simp only at hput
      obtain ⟨K, hK⟩ : ∃ K, Dk.idx nm.data.toList fs = K := ⟨_, rfl⟩
      rw [hK] at HF hKle hput
      have hvD : ∀ w1, Below w.heap.size w w1 → w1.cell? ⟨d, 0, none⟩ = some (.slice va fs.length vc) ∧ w1.cell? ⟨d, 1, none⟩ = some (.int .i64 room) := fun w1 b1 => by
        have := heap_kept b1 (Nat.le_refl _) h1
        exact ⟨by rw [Lib.cell_of_heap this]; rfl, by rw [Lib.cell_of_heap this]; rfl⟩
      have HVD := Lib.hid hvD
      have HL := Lib.hid hl
      have H1 := Lib.hid h1
      have HC := Lib.hid (cells_of_owns h2)
      clear hvD hR hl hK h1 h2 h4 h7 h8
      go_enter Tryz.func63, Tryz.ntmps63
      go_wp2_with fail
      refine HN.out.mono ?_
      rintro e w1 ⟨rfl, b1⟩
      have HF1 := Lib.hid (HF.out w1 b1)
      go_wp2_with fail
      refine HF1.out.mono ?_
      rintro e w2 ⟨rfl, b2⟩
      have b2 := Below.up b1 (Nat.le_refl _) b2
      obtain ⟨k0, k1⟩ := HVD.out w2 b2
      have HU2 := Lib.hid (fun n => HU.out (w2.drewN n) (below_drewN b2 n))
      clear HF1 b1 HF HU HN
      by_cases h40 : (40 : Int) ≤ (fs.length : Int)
      · have HQ2 := Lib.hid (show Dk.append room nm.data.toList s fs = (fs, 4) by rw [HQ.out, if_pos (by omega)])
        clear HQ hput htot
        go_wp2
        go_ret
        exact ⟨by rw [HQ2.out]; rfl, by rw [HQ2.out]; exact RStep.of_below HI.out b2⟩
      by_cases hfull : room < (Dk.total fs : Int) + (s.size : Int)
      · have HQ2 := Lib.hid (show Dk.append room nm.data.toList s fs = (fs, 8) by rw [HQ.out, if_neg (by omega), if_pos (by omega)])
        clear HQ hput htot
        go_wp2
        go_quiet (first | (go_at_call 70; exact Calls.quiet_of_same (HU2.out _)))
        go_wp2
        go_ret
        exact ⟨by rw [HQ2.out]; rfl, by rw [HQ2.out]; exact RStep.of_below HI.out (below_drewN b2 _)⟩
      have hfit2 : Dk.Fit room (Dk.put ⟨nm.data.toList, s, 0⟩ fs) := Dk.put_fit hfit _ (.inr (by omega)) (by omega) (Nat.zero_le _)
      have HQ2 := Lib.hid (show Dk.append room nm.data.toList s fs = (fs.take K ++ ⟨nm.data.toList, s, 0⟩ :: fs.drop K, 0) by rw [HQ.out, if_neg (by omega), if_neg (by omega), hput])
      rw [hput] at hfit2
      have HFT := Lib.hid hfit2
      clear HQ hput htot hfit2 hfit
      go_wp2
      go_quiet (first | (go_at_call 70; exact Calls.quiet_of_same (HU2.out _)))
      obtain ⟨W, hW⟩ : ∃ W, w2.drewN nq = W := ⟨_, rfl⟩
      have hbW : Below w.heap.size w W := by rw [← hW]; exact below_drewN b2 _
      rw [hW]
      clear hW k0 k1 HU2 b2
      have hb1a : Below w.heap.size w (W.alloc (.cells #[] 178)) := hbW.alloc hbW.size _
      have hfr : (W.alloc (.cells #[] 178)).ownsRow w.heap.size 178 3 (.slice (some ⟨W.heap.size, 0, none⟩) 0 0) 0 [] := owns_fresh W _ _ _ hbW.size
      obtain ⟨k0, -⟩ := HVD.out _ hb1a
      have hsz : w.heap.size ≤ (W.alloc (.cells #[] 178)).heap.size := hb1a.size
      have HCT := Lib.hid (fl_takeV (Cells.next HC.out hb1a) hKle)
      have HA := Lib.hid hb1a
      have HFR := Lib.hid hfr
      clear hfr hb1a
      go_wp2_with (at_builtin; refine wpList_append_row rfl _ _ rfl flT w.heap.size (.slice (some ⟨W.heap.size, 0, none⟩) 0 0) 0 [] rfl HFR.out _ K (flCells (fs.take K)) rfl HCT.out (fl_one _) (by omega) hsz ?_)
      intro v2 w2 own2 g2 ne2
      have hb2 : Below w.heap.size w w2 := HA.out.grown g2 (by omega) (fun k hk => (HFR.out.lt k hk).1)
      have hsz2 := hb2.size
      have HB2 := Lib.hid hb2
      have HO2 := Lib.hid own2
      clear own2 g2 ne2 hb2 HA HFR HCT k0 hsz
      go_wp2_with (at_builtin; refine wpList_append_new rfl _ _ _ rfl flT rfl HO2.out HB2.out hsz2 [.string nm, .string ⟨#[]⟩, .int .i64 0] _ rfl rfl (by simp [Value.oneCell']) (by omega) ?_)
      intro v3 w3 own3 g3 hb3 hs3
      obtain ⟨k3, -⟩ := HVD.out _ hb3
      have hsz3 := hb3.size
      obtain ⟨g3', c3', rfl⟩ := ownsRow_succ own3
      have HC3 := Lib.hid (Cells.next HC.out hb3)
      have HB3 := Lib.hid hb3
      have HO3 := Lib.hid own3
      clear own3 g3 hb3 hs3 HO2 HB2 hsz2
      obtain ⟨o2, ho2, ho3⟩ := fl_from (k := K) (lc := vc) (n := fs.length) hKle hcap
      have hcases : (va = none ∧ K = 0 ∧ vc = 0 ∧ fs.length = 0) ∨ (∃ g, va = some ⟨g, 0, none⟩ ∧ vc = K ∧ o2 = 0) ∨ (∃ g, va = some ⟨g, 0, none⟩ ∧ vc ≠ K ∧ o2 = K * 3) := by
        rcases hform with ⟨e1, e2, e3⟩ | ⟨g, e⟩
        · exact .inl ⟨e1, by omega, e3, e2⟩
        · rcases ho2 with ⟨a, b⟩ | ⟨a, b⟩
          · exact .inr (.inl ⟨g, e, a, b⟩)
          · exact .inr (.inr ⟨g, e, a, b⟩)
      have HFT2 := Lib.hid (flCells_ins fs K nm ⟨#[]⟩ 0)
      have HLI := Lib.hid (Dk.ins_len hKle ⟨nm.data.toList, ⟨#[]⟩, 0⟩)
      have HAT := Lib.hid (Dk.ins_at hKle ⟨nm.data.toList, ⟨#[]⟩, 0⟩)
      have HST := Lib.hid (Dk.ins_set hKle ⟨nm.data.toList, ⟨#[]⟩, 0⟩ ⟨nm.data.toList, s, 0⟩)
      obtain ⟨fI, hfI⟩ : ∃ fI, fs.take K ++ (⟨nm.data.toList, ⟨#[]⟩, 0⟩ : Dk.File) :: fs.drop K = fI := ⟨_, rfl⟩
      rw [hfI] at HFT2 HLI HAT HST
      rw [← HST.out] at HFT
      have hnI : K + 1 + (fs.length - K) = fI.length := by rw [HLI.out]; omega
      have HNI := Lib.hid hnI
      have hadd := empty_add s hs
      have hpos : 0 < fI.length := by omega
      clear hform ho2 hfI HC HI hnI HLI
      have done : ∀ (v5 : Value) (w5 : World), w5.ownsRow w.heap.size 178 3 v5 fI.length (flCells fI) → Below w.heap.size w w5 → ∃ g5 c5, v5 = .slice (some ⟨g5, 0, none⟩) fI.length c5 ∧ w5.frozen? ⟨d, 0, none⟩ = false ∧
          Hid (IsR ((w5.setCell ⟨d, 0, none⟩ v5).setCell ⟨g5, K * 3 + 1, none⟩ (.string s)) d room (fs.take K ++ ⟨nm.data.toList, s, 0⟩ :: fs.drop K) (fun j => ft j ∨ w.heap.size ≤ j) ∧ Turn ft w ((w5.setCell ⟨d, 0, none⟩ v5).setCell ⟨g5, K * 3 + 1, none⟩ (.string s))) ∧
          (w5.setCell ⟨d, 0, none⟩ v5).cell? ⟨d, 0, none⟩ = some (.slice (some ⟨g5, 0, none⟩) fI.length c5) ∧ (w5.setCell ⟨d, 0, none⟩ v5).cell? ⟨g5, K * 3 + 1, none⟩ = some (.string ⟨#[]⟩) ∧ (w5.setCell ⟨d, 0, none⟩ v5).frozen? ⟨g5, K * 3 + 1, none⟩ = false ∧ K < fI.length := by
        intro v5 w5 own5 hb5
        obtain ⟨g5, c5, rfl, hg5⟩ := owns_some own5 hpos
        have hh5 := heap_kept hb5 (Nat.le_refl _) H1.out
        have hne5 := cells_not_row hh5 (by decide) own5
        have o6 := own5.kept (grown_set w5 d 0 (.slice (some ⟨g5, 0, none⟩) fI.length c5)) (.inr hne5.symm)
        have hh6 := setCell_at (i := 0) hh5 (.slice (some ⟨g5, 0, none⟩) fI.length c5)
        obtain ⟨⟨p1, p2⟩, p3, p4, p5, p6⟩ := IsR.bytes (ft := fun j => ft j ∨ w.heap.size ≤ j) hh6 (ownsRow_low o6 (Nat.zero_le _)) (.inl h6) (.inr hg5) (by intro e; exact hne5 (by rw [e]; rfl)) HAT.out s HFT.out
        rw [HST.out] at p1
        exact ⟨g5, c5, rfl, Lib.frozen_of_heap hh5 0, Lib.hid ⟨p1, ((Turn.of_below (ft := ft) hb5).trans (Turn.of_grown (grown_set w5 d 0 _) h6) (fun j hj => .inl hj)).trans p2 (fun j hj => hj)⟩, p3, p4, p5, p6⟩
      have HDN := Lib.hid done
      clear done HFT HAT HST hpos H1
      rcases hcases with ⟨rfl, rfl, rfl, hz⟩ | ⟨g, rfl, rfl, rfl⟩ | ⟨g, rfl, hcc, rfl⟩
      · obtain rfl : fs = [] := List.eq_nil_of_length_eq_zero hz
        go_wp2_with (at_builtin; refine wpList_append_row rfl _ _ rfl flT w.heap.size _ _ _ rfl HO3.out _ 0 (flCells []) rfl (⟨rfl, .inl ⟨rfl, _, _, rfl⟩⟩) (fl_one _) (by first | omega | (simp; done) | (simp; omega)) hsz3 ?_)
        intro v5 w5 own5 g5 ne5
        have hb5 : Below w.heap.size w w5 := HB3.out.grown g5 (by omega) (fun k hk => (HO3.out.lt k hk).1)
        have own5 : w5.ownsRow w.heap.size 178 3 v5 fI.length (flCells fI) := by
          rw [HFT2.out, ← HNI.out]
          simpa using own5
        obtain ⟨gg, cc, rfl, f5, HFIN, e1, e2, e3, e4⟩ := HDN.out v5 w5 own5 hb5
        obtain ⟨k5, -⟩ := HVD.out _ hb5
        clear g5 ne5 own5 HO3 HFT2 HNI HB3
        go_wp2
        go_region
        go_wp2
        go_ret
        exact ⟨by rw [HQ2.out]; rfl, by rw [HQ2.out]; exact ⟨_, HFIN.out.1.next (Below.refl _ _).drew, fun j hj => hj, HFIN.out.2.trans (Turn.of_below (ft := ft) (Below.refl _ _).drew) (fun j hj => .inl hj)⟩⟩
      · have HCD := Lib.hid (fun c' => fl_dropV (c' := c') HC3.out hKle ho3)
        go_wp2_with (at_builtin; refine wpList_append_row rfl _ _ rfl flT w.heap.size _ _ _ rfl HO3.out _ 0 (flCells []) rfl (⟨rfl, .inl ⟨rfl, _, _, rfl⟩⟩) (fl_one _) (by first | omega | (simp; done) | (simp; omega)) hsz3 ?_)
        intro v5 w5 own5 g5 ne5
        have hb5 : Below w.heap.size w w5 := HB3.out.grown g5 (by omega) (fun k hk => (HO3.out.lt k hk).1)
        have own5 : w5.ownsRow w.heap.size 178 3 v5 fI.length (flCells fI) := by
          rw [HFT2.out, ← HNI.out]
          rw [List.drop_eq_nil_of_le hcap, Nat.sub_eq_zero_of_le hcap]
          simpa using own5
        obtain ⟨gg, cc, rfl, f5, HFIN, e1, e2, e3, e4⟩ := HDN.out v5 w5 own5 hb5
        obtain ⟨k5, -⟩ := HVD.out _ hb5
        clear g5 ne5 own5 HO3 HFT2 HNI HB3
        go_wp2
        go_region
        go_wp2
        go_ret
        exact ⟨by rw [HQ2.out]; rfl, by rw [HQ2.out]; exact ⟨_, HFIN.out.1.next (Below.refl _ _).drew, fun j hj => hj, HFIN.out.2.trans (Turn.of_below (ft := ft) (Below.refl _ _).drew) (fun j hj => .inl hj)⟩⟩
      · have HCD := Lib.hid (fun c' => fl_dropV (c' := c') HC3.out hKle ho3)
        go_wp2_with (at_builtin; refine wpList_append_row rfl _ _ rfl flT w.heap.size _ _ _ rfl HO3.out _ (fs.length - K) (flCells (fs.drop K)) rfl (HCD.out _) (fl_one _) (by first | omega | (simp; done) | (simp; omega)) hsz3 ?_)
        intro v5 w5 own5 g5 ne5
        have hb5 : Below w.heap.size w w5 := HB3.out.grown g5 (by omega) (fun k hk => (HO3.out.lt k hk).1)
        have own5 : w5.ownsRow w.heap.size 178 3 v5 fI.length (flCells fI) := by
          rw [HFT2.out, ← HNI.out]
          simpa using own5
        obtain ⟨gg, cc, rfl, f5, HFIN, e1, e2, e3, e4⟩ := HDN.out v5 w5 own5 hb5
        obtain ⟨k5, -⟩ := HVD.out _ hb5
        clear g5 ne5 own5 HO3 HFT2 HNI HB3
        go_wp2
        go_region
        go_wp2
        go_ret
        exact ⟨by rw [HQ2.out]; rfl, by rw [HQ2.out]; exact ⟨_, HFIN.out.1.next (Below.refl _ _).drew, fun j hj => hj, HFIN.out.2.trans (Turn.of_below (ft := ft) (Below.refl _ _).drew) (fun j hj => .inl hj)⟩⟩
end Go.Proofs.YtiaddfghojdgkaaGreatDoor
