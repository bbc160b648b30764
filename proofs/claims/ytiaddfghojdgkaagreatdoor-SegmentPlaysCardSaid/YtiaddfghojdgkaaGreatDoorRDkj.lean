/-
  The document's disk: the walk of Rename.
-/
import Derived.Test.YtiaddfghojdgkaaGreatDoorRDki
namespace Go.Proofs.YtiaddfghojdgkaaGreatDoor
open Go.RowKit Go.Shelf

theorem RStep.wide {d : Nat} {room : Int} {fs : List Dk.File} {ft f2 : Nat → Prop} {w w' : World} (h : RStep d room fs ft w w') (hf : ∀ j, ft j → f2 j) : RStep d room fs f2 w w' := by
  obtain ⟨f, h1, h2, h3⟩ := h
  exact ⟨f, h1, fun j hj => (h2 j hj).elim (fun e => .inl (hf j e)) .inr, h3.os, h3.tape, h3.output, h3.size, fun j hj hn => h3.block j hj (fun e => hn (hf j e))⟩
theorem FB.kept {b : Nat} {nm B : ByteArray} {sy : Int} {w w' : World} (h : FB b nm B sy w) (he : w'.heap[b]? = w.heap[b]?) : FB b nm B sy w' := he.trans h
theorem FB.put0 {b : Nat} {nm B : ByteArray} {sy : Int} {w : World} (h : FB b nm B sy w) (E : ByteArray) : FB b E B sy (w.setCell ⟨b, 0, none⟩ (.string E)) := setCell_at (i := 0) h _
theorem Dk.del_room {a b : List UInt8} {fs : List Dk.File} {room : Int} {x : Dk.File} (h : Dk.Fit room fs) (hl : Dk.look fs a = some x) : Dk.Fit room (Dk.put ⟨b, x.bytes, x.synced⟩ (Dk.del b (Dk.del a fs))) ∧ (Dk.del b (Dk.del a fs)).length < 40 := by
  have f2 := Dk.del_fit (Dk.del_fit h a) b
  have hn := Dk.look_del_same b _ (Dk.sorted_del a fs h.2.1)
  have l1 := Dk.del_len a fs
  have l2 := Dk.del_len b (Dk.del a fs)
  have t1 := Dk.del_total a fs
  have t2 := Dk.del_total b (Dk.del a fs)
  have t3 := Dk.put_total ⟨b, x.bytes, x.synced⟩ _ f2.2.1
  simp only [hn] at t3
  simp only [hl, Option.isSome_some, if_true] at l1 t1
  have h40 := h.1
  have hr := h.2.2.1.2.2
  have hlt : (Dk.del b (Dk.del a fs)).length < 40 := by omega
  have t4 : Dk.total (Dk.del b (Dk.del a fs)) ≤ Dk.total (Dk.del a fs) := by omega
  exact ⟨Dk.put_fit f2 _ (.inr hlt) (by omega) (h.2.2.2 x (Dk.look_name hl).2), hlt⟩
set_option maxHeartbeats 4000000 in
set_option maxRecDepth 100000 in
theorem rdRename0_any (d : Nat) (room : Int) (fs : List Dk.File) (ft : Nat → Prop) (na nb : ByteArray) (w : World) (h : IsR w d room fs ft) (hft : ∀ j, ft j → j < w.heap.size) (hn : nb.size ≤ 1000000000) :
    Calls Tryz.prog 147 #[.pointer (some ⟨d, 0, none⟩), .string na, .string nb] w fun e w' => e = .returned (.int .i64 ((Dk.rename na.data.toList nb.data.toList fs).2 : Nat)) ∧ RStep d room (Dk.rename na.data.toList nb.data.toList fs).1 ft w w' := by
  have HF := Lib.hid (rfind_any d room fs ft na w h)
  have HI := Lib.hid h
  have hfit := h.fit
  have HFT := Lib.hid hft
  clear hft
  cases hl : Dk.look fs na.data.toList with
  | none =>
    have HQ := Lib.hid (show Dk.rename na.data.toList nb.data.toList fs = (fs, 6) by rw [Dk.rename, hl])
    rw [hl] at HF
    clear h hl
    go_enter Tryz.func147, Tryz.ntmps147
    go_wp2_with fail
    refine HF.out.mono ?_
    rintro e w1 ⟨rfl, b1⟩
    go_wp2
    go_ret
    exact ⟨by rw [HQ.out]; rfl, by rw [HQ.out]; exact RStep.of_below HI.out b1⟩
  | some x =>
    obtain ⟨hi, hx⟩ := Dk.idx_some hfit.2.1 hl
    rw [hl] at HF
    have HN := Lib.hid (fun w1 => refName_any nb w1 (by omega))
    cases hR : Txt.name nb.data.toList with
    | false =>
      have HQ := Lib.hid (show Dk.rename na.data.toList nb.data.toList fs = (fs, 1) by rw [Dk.rename, hl]; simp only; rw [if_pos hR])
      rw [hR] at HN
      clear h hl hx hi
      go_enter Tryz.func147, Tryz.ntmps147
      go_wp2_with fail
      refine HF.out.mono ?_
      rintro e w1 ⟨rfl, b1⟩
      have HN1 := Lib.hid (HN.out w1)
      go_wp2_with fail
      refine HN1.out.mono ?_
      rintro e w2 ⟨rfl, b2⟩
      have b2 := Below.up b1 (Nat.le_refl _) b2
      go_wp2
      go_ret
      exact ⟨by rw [HQ.out]; rfl, by rw [HQ.out]; exact RStep.of_below HI.out b2⟩
    | true =>
      have HQ := Lib.hid (Dk.rename_ref hfit.2.1 hl hR)
      have HDR := Lib.hid (Dk.del_room (b := nb.data.toList) hfit hl)
      have hls := Dk.look_del_same nb.data.toList _ (Dk.sorted_del na.data.toList fs hfit.2.1)
      have hs2 := Dk.sorted_del nb.data.toList _ (Dk.sorted_del na.data.toList fs hfit.2.1)
      have HPI := Lib.hid (Dk.ins_idx (y := ⟨nb.data.toList, x.bytes, x.synced⟩) _ hs2 hls)
      have HKL := Lib.hid (Dk.idx_le nb.data.toList (Dk.del nb.data.toList (Dk.del na.data.toList fs)))
      have hd1 : ∀ (k : List UInt8) (f : List Dk.File), (Dk.delete k f).1 = Dk.del k f := fun k f => by
        rw [Dk.delete]
        cases e : Dk.look f k with
        | none => simp only; rw [Dk.del_none k f e]
        | some _ => rfl
      obtain ⟨fA, hfA⟩ : ∃ fA, Dk.del na.data.toList fs = fA := ⟨_, rfl⟩
      rw [hfA] at HQ HDR hls HPI HKL
      obtain ⟨fC, hfC⟩ : ∃ fC, Dk.del nb.data.toList fA = fC := ⟨_, rfl⟩
      rw [hfC] at HQ HDR hls HPI HKL
      have HD1 := Lib.hid (fun w1 (b1 : Below w.heap.size w w1) => rdDelete_any d room fs ft na w1 (HI.out.next b1))
      rw [hd1, hfA] at HD1
      have HD2 := Lib.hid (fun w1 f1 (i1 : IsR w1 d room fA f1) => rdDelete_any d room fA f1 nb w1 i1)
      rw [hd1, hfC] at HD2
      rw [hR] at HN
      obtain ⟨g, cap, h1, h2, h6, h7, hne, hcap, -⟩ := h.row (by omega)
      have HC := Lib.hid (cells_of_owns h2)
      obtain ⟨b, o, c, hv, c0, c1, c2⟩ := flAt HC.out _ hi
      cases hv
      rw [hx] at c0 c1 c2
      simp only [Nat.zero_add] at c0 c1 c2
      obtain ⟨K, hK⟩ : ∃ K, Dk.idx na.data.toList fs = K := ⟨_, rfl⟩
      rw [hK] at HF hi c0 c1 c2
      obtain ⟨N, hN⟩ : ∃ N, (⟨x.name.toArray⟩ : ByteArray) = N := ⟨_, rfl⟩
      rw [hN] at c0
      have d0 : w.cell? ⟨d, 0, none⟩ = some (.slice (some ⟨g, 0, none⟩) fs.length cap) := by rw [Lib.cell_of_heap h1]; rfl
      have hm : fs.length ≤ 40 := hfit.1
      have HLS := Lib.hid hls
      clear hl hR hx hls hs2 hd1 hfA hfC hK hN HC h1 h2 h hfit
      go_enter Tryz.func147, Tryz.ntmps147
      go_wp2_with fail
      refine HF.out.mono ?_
      rintro e w1 ⟨rfl, b1⟩
      have HN1 := Lib.hid (HN.out w1)
      go_wp2_with fail
      refine HN1.out.mono ?_
      rintro e w2 ⟨rfl, b2⟩
      have b2 := Below.up b1 (Nat.le_refl _) b2
      have k0 := cell_kept b2 (Nat.le_refl _) d0
      have q0 := cell_kept b2 (Nat.le_refl _) c0
      have q1 := cell_kept b2 (Nat.le_refl _) c1
      have q2 := cell_kept b2 (Nat.le_refl _) c2
      clear HF HN HN1 d0 c0 c1 c2 b1
      obtain ⟨W3, hW3⟩ : ∃ W3, W3 = w2.alloc (.cells #[.string N, .string x.bytes, .int .i64 (x.synced : Int)] 178) := ⟨_, rfl⟩
      have hf3 : FB w2.heap.size N x.bytes (x.synced : Int) W3 := by rw [hW3]; exact heap_alloc_new w2 _
      have b3 : Below w.heap.size w W3 := by rw [hW3]; exact b2.alloc b2.size _
      obtain ⟨F, hF⟩ : ∃ F, F = w2.heap.size := ⟨_, rfl⟩
      rw [← hF] at hf3
      have hwF : w.heap.size ≤ F := by rw [hF]; exact b2.size
      have HW3 := Lib.hid (And.intro hW3 hF)
      have HDA := Lib.hid (HD1.out W3 b3)
      clear hW3 hF HD1
      go_upto_region 8 with fail
      rw [← HW3.out.1, ← HW3.out.2]
      clear HW3 k0 q0 q1 q2 b2
      go_wp2_with fail
      refine HDA.out.mono ?_
      rintro e w4 ⟨rfl, f4, i4, hf4, t4⟩
      have hF3 : F < W3.heap.size := (Array.getElem?_eq_some_iff.1 hf3).1
      have nF : ¬ ft F := fun e => by have := HFT.out F e; omega
      have hb4 := hf3.kept (t4.block F hF3 nF)
      have nF4 : ¬ f4 F := fun e => (hf4 F e).elim nF (fun e => by omega)
      have HDB := Lib.hid (HD2.out w4 f4 i4)
      have T4 := Lib.hid ((Turn.of_below (ft := ft) b3).trans t4 (fun j hj => .inl hj))
      have hs3 := b3.size
      have hg4 : ∀ j, f4 j → ft j ∨ w.heap.size ≤ j := fun j hj => (hf4 j hj).elim .inl (fun e => .inr (by omega))
      clear HDA HD2 i4 hf4 t4 hf3 b3
      go_wp2_with fail
      refine HDB.out.mono ?_
      rintro e w5 ⟨rfl, f5, i5, hf5, t5⟩
      have hF4 : F < w4.heap.size := (Array.getElem?_eq_some_iff.1 hb4).1
      have hb5 := hb4.kept (t5.block F hF4 nF4)
      have nF5 : ¬ f5 F := fun e => (hf5 F e).elim nF4 (fun e => by omega)
      have hsw4 := T4.out.size
      have hg5 : ∀ j, f5 j → ft j ∨ w.heap.size ≤ j := fun j hj => (hf5 j hj).elim (hg4 j) (fun e => .inr (by omega))
      have T5 := T4.out.trans t5 hg4
      have hb6 := hb5.put0 nb
      have i6 : IsR (w5.setCell ⟨F, 0, none⟩ (.string nb)) d room fC f5 := i5.kept (fun j _ hj => Below.heap_setCell w5 ⟨F, 0, none⟩ (.string nb) j (by simp only [ne_eq]; intro e; exact nF5 (e ▸ hj)))
      have T6 := Lib.hid (T5.trans (Turn.of_grown (ft := fun j => j = F) (grown_set w5 F 0 (.string nb)) rfl) (fun j hj => .inr (by rw [hj]; exact hwF)))
      have p0 : w5.cell? ⟨F, 0, none⟩ = some (.string N) := by rw [Lib.cell_of_heap hb5]; rfl
      have pf : w5.frozen? ⟨F, 0, none⟩ = false := Lib.frozen_of_heap hb5 0
      have HI6 := Lib.hid i6
      have HB6 := Lib.hid hb6
      clear HDB i5 hf5 t5 hb4 hb5 T4 T5 i6 hb6 nF nF4 nF5
      go_upto_region 11 with fail
      obtain ⟨W6, hW6⟩ : ∃ W6, w5.setCell ⟨F, 0, none⟩ (.string nb) = W6 := ⟨_, rfl⟩
      rw [hW6] at HI6 HB6 T6 ⊢
      clear hW6 p0 pf
      have HF6 := Lib.hid (rfind_any d room fC f5 nb W6 HI6.out)
      rw [HLS.out] at HF6
      go_wp2_with fail
      refine HF6.out.mono ?_
      rintro e w7 ⟨rfl, b7⟩
      have i7 := HI6.out.next b7
      have HB7 := Lib.hid (HB6.out.kept (b7.block F (Array.getElem?_eq_some_iff.1 HB6.out).1))
      have T7 := Lib.hid (T6.out.trans (Turn.of_below (ft := ft) b7) (fun j hj => .inl hj))
      have HI7 := Lib.hid i7
      clear HF6 HI6 HB6 T6 i7 b7
      have hfitC := HI7.out.fit
      obtain ⟨v, h1, h2, h3, h4, h5, h6', h7', h8⟩ := HI7.out
      obtain ⟨va, vc, rfl⟩ := cells_sliceV (cells_of_owns h2)
      obtain ⟨hcap2, hform⟩ := owns_cap h2
      have hKle := HKL.out
      have hput := HPI.out
      obtain ⟨K2, hK2⟩ : ∃ K2, Dk.idx nb.data.toList fC = K2 := ⟨_, rfl⟩
      rw [hK2] at hKle hput ⊢
      have hm2 : fC.length < 40 := HDR.out.2
      have hvD : ∀ w1, Below w7.heap.size w7 w1 → w1.cell? ⟨d, 0, none⟩ = some (.slice va fC.length vc) := fun w1 b1 => by
        have := heap_kept b1 (Nat.le_refl _) h1
        rw [Lib.cell_of_heap this]; rfl
      have hvF : ∀ w1, Below w7.heap.size w7 w1 → FB F nb x.bytes (x.synced : Int) w1 := fun w1 b1 => HB7.out.kept (b1.block F (Array.getElem?_eq_some_iff.1 HB7.out).1)
      have HVD := Lib.hid hvD
      have HVF := Lib.hid hvF
      have H1 := Lib.hid h1
      have HC := Lib.hid (cells_of_owns h2)
      have HFIT := HDR.out.1
      rw [hput] at HFIT
      have HFIT := Lib.hid HFIT
      have HQ2 := Lib.hid (show Dk.rename na.data.toList nb.data.toList fs = (fC.take K2 ++ ⟨nb.data.toList, x.bytes, x.synced⟩ :: fC.drop K2, 0) by rw [HQ.out, hput])
      clear hvD hvF h1 h2 h4 h5 h8 hput HQ HDR HPI HKL HLS hK2 hfitC HB7 h7'
      have hb1a : Below w7.heap.size w7 (w7.alloc (.cells #[] 178)) := (Below.refl _ _).alloc (Nat.le_refl _) _
      have hfr : (w7.alloc (.cells #[] 178)).ownsRow w7.heap.size 178 3 (.slice (some ⟨w7.heap.size, 0, none⟩) 0 0) 0 [] := owns_fresh w7 _ _ _ (Nat.le_refl _)
      have k0 := HVD.out _ hb1a
      have hsz : w7.heap.size ≤ (w7.alloc (.cells #[] 178)).heap.size := hb1a.size
      have HCT := Lib.hid (fl_takeV (Cells.next HC.out hb1a) hKle)
      have HA := Lib.hid hb1a
      have HFR := Lib.hid hfr
      clear hfr hb1a
      go_wp2_with (at_builtin; refine wpList_append_row rfl _ _ rfl flT w7.heap.size (.slice (some ⟨w7.heap.size, 0, none⟩) 0 0) 0 [] rfl HFR.out _ K2 (flCells (fC.take K2)) rfl HCT.out (fl_one _) (by omega) hsz ?_)
      intro v2 w8 own2 g2 ne2
      have hb2 : Below w7.heap.size w7 w8 := HA.out.grown g2 (by omega) (fun k hk => (HFR.out.lt k hk).1)
      have hsz2 := hb2.size
      obtain ⟨p0, p1, p2, -, -⟩ := (HVF.out _ hb2).cells
      have HB2 := Lib.hid hb2
      have HO2 := Lib.hid own2
      clear own2 g2 ne2 hb2 HA HFR HCT k0 hsz HVF
      go_wp2_with (at_builtin; refine wpList_append_new rfl _ _ _ rfl flT rfl HO2.out HB2.out hsz2 [.string nb, .string x.bytes, .int .i64 (x.synced : Int)] _ rfl rfl (by simp [Value.oneCell']) (by omega) ?_)
      intro v3 w3 own3 g3 hb3 hs3
      have k3 := HVD.out _ hb3
      have hsz3 := hb3.size
      obtain ⟨g3', c3', rfl⟩ := ownsRow_succ own3
      have HC3 := Lib.hid (Cells.next HC.out hb3)
      have HB3 := Lib.hid hb3
      have HO3 := Lib.hid own3
      clear own3 g3 hb3 hs3 HO2 HB2 hsz2 p0 p1 p2
      obtain ⟨o2, ho2, ho3⟩ := fl_from (k := K2) (lc := vc) (n := fC.length) hKle hcap2
      have hcases : (va = none ∧ K2 = 0 ∧ vc = 0 ∧ fC.length = 0) ∨ (∃ g, va = some ⟨g, 0, none⟩ ∧ vc = K2 ∧ o2 = 0) ∨ (∃ g, va = some ⟨g, 0, none⟩ ∧ vc ≠ K2 ∧ o2 = K2 * 3) := by
        rcases hform with ⟨e1, e2, e3⟩ | ⟨g, e⟩
        · exact .inl ⟨e1, by omega, e3, e2⟩
        · rcases ho2 with ⟨a, b⟩ | ⟨a, b⟩
          · exact .inr (.inl ⟨g, e, a, b⟩)
          · exact .inr (.inr ⟨g, e, a, b⟩)
      have HFT2 := Lib.hid (flCells_ins fC K2 nb x.bytes x.synced)
      have HLI := Lib.hid (Dk.ins_len hKle ⟨nb.data.toList, x.bytes, x.synced⟩)
      obtain ⟨fI, hfI⟩ : ∃ fI, fC.take K2 ++ (⟨nb.data.toList, x.bytes, x.synced⟩ : Dk.File) :: fC.drop K2 = fI := ⟨_, rfl⟩
      rw [hfI] at HFT2 HLI HFIT HQ2
      have HNI := Lib.hid (show K2 + 1 + (fC.length - K2) = fI.length by rw [HLI.out]; omega)
      have hdn : ∀ (v5 : Value) (w5 : World), w5.ownsRow w7.heap.size 178 3 v5 fI.length (flCells fI) → Below w7.heap.size w7 w5 → w5.frozen? ⟨d, 0, none⟩ = false ∧ RStep d room fI ft w (w5.setCell ⟨d, 0, none⟩ v5) := by
        intro v5 w5 own5 hb5
        have hh5 := heap_kept hb5 (Nat.le_refl _) H1.out
        exact ⟨Lib.frozen_of_heap hh5 0, RStep.trans HI7.out hg5 T7.out (IsR.newRow hh5 own5 h6' HFIT.out hb5)⟩
      have HDN := Lib.hid hdn
      clear hform ho2 hfI HC HI7 HLI hdn H1 HFIT T7 hg5 hg4
      rcases hcases with ⟨rfl, rfl, rfl, hz⟩ | ⟨g, rfl, rfl, rfl⟩ | ⟨g, rfl, hcc, rfl⟩
      · obtain rfl : fC = [] := List.eq_nil_of_length_eq_zero hz
        go_wp2_with (at_builtin; refine wpList_append_row rfl _ _ rfl flT w7.heap.size _ _ _ rfl HO3.out _ 0 (flCells []) rfl (⟨rfl, .inl ⟨rfl, _, _, rfl⟩⟩) (fl_one _) (by first | omega | (simp; done) | (simp; omega)) hsz3 ?_)
        intro v5 w5 own5 g5 ne5
        have hb5 : Below w7.heap.size w7 w5 := HB3.out.grown g5 (by omega) (fun k hk => (HO3.out.lt k hk).1)
        have own5 : w5.ownsRow w7.heap.size 178 3 v5 fI.length (flCells fI) := by
          rw [HFT2.out, ← HNI.out]
          simpa using own5
        obtain ⟨sa5, sl5, sc5, rfl⟩ := slice_of_owns own5
        have k5 := HVD.out _ hb5
        obtain ⟨f5, hr5⟩ := HDN.out _ _ own5 hb5
        have HR5 := Lib.hid hr5
        clear g5 ne5 own5 HO3 HFT2 HNI HB3 hr5
        go_wp2
        go_ret
        exact ⟨by rw [HQ2.out]; rfl, by rw [HQ2.out]; exact HR5.out⟩
      · have HCD := Lib.hid (fun c' => fl_dropV (c' := c') HC3.out hKle ho3)
        go_wp2_with (at_builtin; refine wpList_append_row rfl _ _ rfl flT w7.heap.size _ _ _ rfl HO3.out _ 0 (flCells []) rfl (⟨rfl, .inl ⟨rfl, _, _, rfl⟩⟩) (fl_one _) (by first | omega | (simp; done) | (simp; omega)) hsz3 ?_)
        intro v5 w5 own5 g5 ne5
        have hb5 : Below w7.heap.size w7 w5 := HB3.out.grown g5 (by omega) (fun k hk => (HO3.out.lt k hk).1)
        have own5 : w5.ownsRow w7.heap.size 178 3 v5 fI.length (flCells fI) := by
          rw [HFT2.out, ← HNI.out]
          rw [List.drop_eq_nil_of_le hcap2, Nat.sub_eq_zero_of_le hcap2]
          simpa using own5
        obtain ⟨sa5, sl5, sc5, rfl⟩ := slice_of_owns own5
        have k5 := HVD.out _ hb5
        obtain ⟨f5, hr5⟩ := HDN.out _ _ own5 hb5
        have HR5 := Lib.hid hr5
        clear g5 ne5 own5 HO3 HFT2 HNI HB3 hr5
        go_wp2
        go_ret
        exact ⟨by rw [HQ2.out]; rfl, by rw [HQ2.out]; exact HR5.out⟩
      · have HCD := Lib.hid (fun c' => fl_dropV (c' := c') HC3.out hKle ho3)
        go_wp2_with (at_builtin; refine wpList_append_row rfl _ _ rfl flT w7.heap.size _ _ _ rfl HO3.out _ (fC.length - K2) (flCells (fC.drop K2)) rfl (HCD.out _) (fl_one _) (by first | omega | (simp; done) | (simp; omega)) hsz3 ?_)
        intro v5 w5 own5 g5 ne5
        have hb5 : Below w7.heap.size w7 w5 := HB3.out.grown g5 (by omega) (fun k hk => (HO3.out.lt k hk).1)
        have own5 : w5.ownsRow w7.heap.size 178 3 v5 fI.length (flCells fI) := by
          rw [HFT2.out, ← HNI.out]
          simpa using own5
        obtain ⟨sa5, sl5, sc5, rfl⟩ := slice_of_owns own5
        have k5 := HVD.out _ hb5
        obtain ⟨f5, hr5⟩ := HDN.out _ _ own5 hb5
        have HR5 := Lib.hid hr5
        clear g5 ne5 own5 HO3 HFT2 HNI HB3 hr5
        go_wp2
        go_ret
        exact ⟨by rw [HQ2.out]; rfl, by rw [HQ2.out]; exact HR5.out⟩
theorem rdRename_any (d : Nat) (room : Int) (fs : List Dk.File) (ft : Nat → Prop) (na nb : ByteArray) (w : World) (h : IsR w d room fs ft) (hn : nb.size ≤ 1000000000) :
    Calls Tryz.prog 147 #[.pointer (some ⟨d, 0, none⟩), .string na, .string nb] w fun e w' => e = .returned (.int .i64 ((Dk.rename na.data.toList nb.data.toList fs).2 : Nat)) ∧ RStep d room (Dk.rename na.data.toList nb.data.toList fs).1 ft w w' := by
  refine (rdRename0_any d room fs _ na nb w h.narrow (fun j hj => hj.2) hn).mono ?_
  rintro e w' ⟨rfl, h⟩
  exact ⟨rfl, h.wide (fun j hj => hj.1)⟩
end Go.Proofs.YtiaddfghojdgkaaGreatDoor
