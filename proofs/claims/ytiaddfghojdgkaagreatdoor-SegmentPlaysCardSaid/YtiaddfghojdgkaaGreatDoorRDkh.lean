/-
  The document's disk: the walk of Crash.
-/
import Derived.Test.YtiaddfghojdgkaaGreatDoorRDkg
namespace Go.Proofs.YtiaddfghojdgkaaGreatDoor
open Go.RowKit Go.Shelf

/-- A crash on its way: the row's block stays. -/
def Mid (w wr : World) (d : Nat) (room : Int) (va : Option Addr) (n vc : Nat) (ft : Nat → Prop) (fs : List Dk.File) : Prop :=
  wr.heap[d]? = some (.cells #[.slice va n vc, .int .i64 room] 176 (0, 0)) ∧ wr.ownsRow 0 178 3 (.slice va n vc) n (flCells fs) ∧ Turn ft w wr
theorem Mid.next {w wr w2 : World} {d : Nat} {room : Int} {va : Option Addr} {n vc : Nat} {ft : Nat → Prop} {fs : List Dk.File} (h : Mid w wr d room va n vc ft fs) (hb : Below wr.heap.size wr w2) : Mid w w2 d room va n vc ft fs :=
  ⟨heap_kept hb (Nat.le_refl _) h.1, owns_next h.2.1 hb, h.2.2.trans (Turn.of_below (ft := ft) hb) (fun _ hj => .inl hj)⟩
/-- A file of the row is written anew, whole. -/
theorem Mid.put {w wr : World} {d g : Nat} {room : Int} {n vc i : Nat} {ft : Nat → Prop} {fs : List Dk.File} (h : Mid w wr d room (some ⟨g, 0, none⟩) n vc ft fs) (hg : ft g) (hl : fs.length = n) (hi : i < n) (y : Dk.File) :
    Mid w ((((wr.setCell ⟨g, i * 3, none⟩ (.string ⟨y.name.toArray⟩)).setCell ⟨g, i * 3 + 1, none⟩ (.string y.bytes)).setCell ⟨g, i * 3 + 2, none⟩ (.int .i64 (y.synced : Int)))) d room (some ⟨g, 0, none⟩) n vc ft (fs.set i y) := by
  have hne : d ≠ g := by
    intro e
    have := cells_not_row h.1 (by decide) h.2.1
    rw [e] at this
    exact this rfl
  have o := owns_set (owns_set (owns_set h.2.1 (show i * 3 < n * 3 by omega) (.string ⟨y.name.toArray⟩)) (show i * 3 + 1 < n * 3 by omega) (.string y.bytes)) (show i * 3 + 2 < n * 3 by omega) (.int .i64 (y.synced : Int))
  rw [flCells_set3 fs i (by omega) y] at o
  have k1 := (Below.heap_setCell wr ⟨g, i * 3, none⟩ (.string ⟨y.name.toArray⟩) d (by simpa using hne)).trans h.1
  have k2 := (Below.heap_setCell _ ⟨g, i * 3 + 1, none⟩ (.string y.bytes) d (by simpa using hne)).trans k1
  have k3 := (Below.heap_setCell _ ⟨g, i * 3 + 2, none⟩ (.int .i64 (y.synced : Int)) d (by simpa using hne)).trans k2
  have t1 := h.2.2.trans (Turn.of_grown (ft := ft) (grown_set wr g (i * 3) (.string ⟨y.name.toArray⟩)) hg) (fun j hj => .inl hj)
  have t2 := t1.trans (Turn.of_grown (ft := ft) (grown_set _ g (i * 3 + 1) (.string y.bytes)) hg) (fun j hj => .inl hj)
  have t3 := t2.trans (Turn.of_grown (ft := ft) (grown_set _ g (i * 3 + 2) (.int .i64 (y.synced : Int))) hg) (fun j hj => .inl hj)
  exact ⟨k3, o, t3⟩
theorem Mid.other {w wr : World} {d g F k : Nat} {room : Int} {n vc : Nat} {ft : Nat → Prop} {fs : List Dk.File} (h : Mid w wr d room (some ⟨g, 0, none⟩) n vc ft fs) (hd : F ≠ d) (hg : F ≠ g) (hF : w.heap.size ≤ F) (v : Value) : Mid w (wr.setCell ⟨F, k, none⟩ v) d room (some ⟨g, 0, none⟩) n vc ft fs :=
  ⟨(Below.heap_setCell wr ⟨F, k, none⟩ v d (by simpa using hd.symm)).trans h.1, h.2.1.kept (grown_set wr F k v) (.inr (by simp [Value.ownBlock]; omega)), h.2.2.trans (Turn.of_grown (ft := fun j => j = F) (grown_set wr F k v) rfl) (fun j hj => .inr (by rw [hj]; exact hF))⟩
theorem Mid.at {w wr : World} {d g i : Nat} {room : Int} {n vc : Nat} {ft : Nat → Prop} {fs : List Dk.File} {x : Dk.File} (h : Mid w wr d room (some ⟨g, 0, none⟩) n vc ft fs) (hl : fs.length = n) (hx : fs[i]? = some x) :
    wr.cell? ⟨d, 0, none⟩ = some (.slice (some ⟨g, 0, none⟩) n vc) ∧ wr.cell? ⟨g, i * 3, none⟩ = some (.string ⟨x.name.toArray⟩) ∧ wr.cell? ⟨g, i * 3 + 1, none⟩ = some (.string x.bytes) ∧ wr.cell? ⟨g, i * 3 + 2, none⟩ = some (.int .i64 (x.synced : Int)) ∧
      wr.frozen? ⟨g, i * 3, none⟩ = false ∧ wr.frozen? ⟨g, i * 3 + 1, none⟩ = false ∧ wr.frozen? ⟨g, i * 3 + 2, none⟩ = false := by
  subst hl
  obtain ⟨hi, hx2⟩ := List.getElem?_eq_some_iff.1 hx
  obtain ⟨b, o, c, hv, c0, c1, c2⟩ := flAt (cells_of_owns h.2.1) i hi
  cases hv
  rw [hx2] at c0 c1 c2
  simp only [Nat.zero_add] at c0 c1 c2
  have hfr : ∀ j, wr.frozen? ⟨g, j, none⟩ = false := by
    rcases h.2.1.2 with ⟨h, _⟩ | ⟨g2, cap2, cur, hv, hb, hg, _⟩
    · cases h
    · cases hv; exact fun j => Lib.frozen_of_heap hg j
  exact ⟨by rw [Lib.cell_of_heap h.1]; rfl, c0, c1, c2, hfr _, hfr _, hfr _⟩
theorem FB.put1 {b : Nat} {nm B : ByteArray} {sy : Int} {w : World} (h : w.heap[b]? = some (.cells #[.string nm, .string B, .int .i64 sy] 178 (0, 0))) (E : ByteArray) : (w.setCell ⟨b, 1, none⟩ (.string E)).heap[b]? = some (.cells #[.string nm, .string E, .int .i64 sy] 178 (0, 0)) := setCell_at (i := 1) h _
theorem FB.put2 {b : Nat} {nm B : ByteArray} {sy : Int} {w : World} (h : w.heap[b]? = some (.cells #[.string nm, .string B, .int .i64 sy] 178 (0, 0))) (n : Int) : (w.setCell ⟨b, 2, none⟩ (.int .i64 n)).heap[b]? = some (.cells #[.string nm, .string B, .int .i64 n] 178 (0, 0)) := setCell_at (i := 2) h _
def FB (b : Nat) (nm B : ByteArray) (sy : Int) (w : World) : Prop := w.heap[b]? = some (.cells #[.string nm, .string B, .int .i64 sy] 178 (0, 0))
theorem FB.cells {b : Nat} {nm B : ByteArray} {sy : Int} {w : World} (h : FB b nm B sy w) : w.cell? ⟨b, 0, none⟩ = some (.string nm) ∧ w.cell? ⟨b, 1, none⟩ = some (.string B) ∧ w.cell? ⟨b, 2, none⟩ = some (.int .i64 sy) ∧ w.frozen? ⟨b, 1, none⟩ = false ∧ w.frozen? ⟨b, 2, none⟩ = false :=
  ⟨by rw [Lib.cell_of_heap h]; rfl, by rw [Lib.cell_of_heap h]; rfl, by rw [Lib.cell_of_heap h]; rfl, Lib.frozen_of_heap h 1, Lib.frozen_of_heap h 2⟩
set_option maxHeartbeats 2000000 in
set_option maxRecDepth 100000 in
theorem rdCrash_any (d : Nat) (room : Int) (fs : List Dk.File) (ft : Nat → Prop) (kv : Value) (ks : List Int) (w : World) (h : IsR w d room fs ft) (hk : ∀ X, Turn ft w X → Cells X kv 1 ks.length (ks.map fun n => Value.int .i64 n)) (hkn : ks.length ≤ 1000000) (hkb : ∀ n ∈ ks, -9223372036854775808 ≤ n ∧ n ≤ 9223372036854775807) :
    Calls Tryz.prog 37 #[.pointer (some ⟨d, 0, none⟩), kv] w fun e w' => e = .returned (.tuple #[]) ∧ RStep d room (Dk.crash ks fs) ft w w' := by
  have HFIT := Lib.hid (Dk.crash_fit ks h.fit)
  have HF0 := Lib.hid h.fit
  obtain ⟨v, h1, h2, h3, h4, h5, h6, h7, h8⟩ := h
  obtain ⟨va, vc, rfl⟩ := cells_sliceV (cells_of_owns h2)
  obtain ⟨hcap, hform⟩ := owns_cap h2
  have HM0 := Lib.hid (show Mid w w d room va fs.length vc ft (Dk.crashTo ks fs 0) from ⟨h1, by simpa [Dk.crashTo] using h2, Turn.refl _ _⟩)
  obtain ⟨ka, kc, rfl⟩ := cells_sliceV (hk w (Turn.refl _ _))
  have HK := Lib.hid hk; have HKB := Lib.hid hkb
  have H7 := Lib.hid h7
  clear h1 h2 h4 h5 h7 h8 hk hkb
  go_enter Tryz.func37, Tryz.ntmps37
  go_wp2
  go_loopw [4] (fun lv wr => ∃ i : Nat, lv = .int .i64 (i : Int) ∧ i ≤ fs.length ∧ Hid (Mid w wr d room va fs.length vc ft (Dk.crashTo ks fs i))) (fun lv _ => fs.length - (intOf lv).toNat)
  case atStart => exact ⟨0, rfl, Nat.zero_le _, HM0⟩
  case round =>
    obtain ⟨i, rfl, hi, HM⟩ := hrel
    have d0 : wr.cell? ⟨d, 0, none⟩ = some (.slice va fs.length vc) := by rw [Lib.cell_of_heap HM.out.1]; rfl
    by_cases hgo : i < fs.length
    · have hgi : (i : Int) < (fs.length : Int) := by omega
      obtain ⟨g, rfl⟩ : ∃ g, va = some ⟨g, 0, none⟩ := by
        rcases hform with ⟨_, e, _⟩ | h
        · omega
        · exact h
      have hlen := Dk.crashTo_len (ks := ks) (fs := fs) hi
      have HG := Lib.hid (Dk.crashTo_get (ks := ks) hgo)
      have HNX := Lib.hid (Dk.crashTo_set (ks := ks) hgo)
      have HLN := Lib.hid hlen
      obtain ⟨b, o, c, hv, c0, c1, c2⟩ := flAt (fs := Dk.crashTo ks fs i) (by rw [hlen]; exact cells_of_owns HM.out.2.1) i (by omega)
      rw [hlen] at hv
      cases hv
      have hget : (Dk.crashTo ks fs i)[i]'(by omega) = fs[i] := by have := HG.out; rw [List.getElem?_eq_getElem (by omega)] at this; simpa using this
      rw [hget] at c0 c1 c2
      simp only [Nat.zero_add] at c0 c1 c2
      have hxs : (fs[i]).synced ≤ (fs[i]).bytes.size := HF0.out.2.2.2 _ (List.getElem_mem hgo)
      have hxb : ((fs[i]).bytes.size : Int) ≤ 1073741824 := by
        have h1 := Dk.total_take (fs := fs) hgo
        have h2 := Dk.total_take_le (fs := fs) (i := i + 1)
        have h3 := HF0.out.2.2.1
        omega
      obtain ⟨x, hx⟩ : ∃ x, fs[i] = x := ⟨_, rfl⟩
      rw [hx] at c0 c1 c2 hxs hxb HNX
      obtain ⟨N, hN⟩ : ∃ N, (⟨x.name.toArray⟩ : ByteArray) = N := ⟨_, rfl⟩
      rw [hN] at c0
      have HNM := Lib.hid hN
      obtain ⟨W1, hW1⟩ : ∃ W1, W1 = wr.alloc (.cells #[.string N, .string x.bytes, .int .i64 (x.synced : Int)] 178) := ⟨_, rfl⟩
      have hf1 : FB wr.heap.size N x.bytes (x.synced : Int) W1 := by rw [hW1]; exact heap_alloc_new wr _
      have hM1 : Mid w W1 d room (some ⟨g, 0, none⟩) fs.length vc ft (Dk.crashTo ks fs i) := by rw [hW1]; exact HM.out.next ((Below.refl _ _).alloc (Nat.le_refl _) _)
      have HW1 := Lib.hid hW1
      have hFd : wr.heap.size ≠ d := by have := (Array.getElem?_eq_some_iff.1 HM.out.1).1; omega
      have hFg : wr.heap.size ≠ g := by have := (HM.out.2.1.lt g rfl).2; omega
      have HM1 := Lib.hid hM1
      have HFW := Lib.hid (HM.out.2.2.size)
      have h7g : ft g := H7.out g rfl
      have HF1 := Lib.hid hf1
      obtain ⟨F, hF⟩ : ∃ F, F = wr.heap.size := ⟨_, rfl⟩
      rw [← hF] at HF1 hFd hFg HFW
      have HFF := Lib.hid hF
      have HHN := Lib.hid hgo
      clear hlen hget hx hN hW1 hf1 hM1 hF HM0
      by_cases hik : i < ks.length
      · have hikI : (i : Int) < (ks.length : Int) := by omega
        have hkc := HK.out wr HM.out.2.2
        rcases hkc.2 with ⟨h0, _⟩ | ⟨b3, o3, c3, hv3, hx3⟩
        · omega
        cases hv3
        have hc3 := hx3 i (.int .i64 (ks.getD i 0)) (by rw [List.getElem?_map, List.getElem?_eq_getElem hik]; simp [List.getD, List.getElem?_eq_getElem hik])
        have hkb := HKB.out (ks.getD i 0) (by rw [List.getD_eq_getElem?_getD, List.getElem?_eq_getElem hik]; exact List.getElem_mem hik)
        obtain ⟨kn, hkn2⟩ : ∃ kn, ks.getD i 0 = kn := ⟨_, rfl⟩
        rw [hkn2] at hc3 hkb
        have HKN := Lib.hid hkn2
        clear hkc hx3 hkn2
        obtain ⟨nI, hnI⟩ : ∃ nI, max 0 kn = nI := ⟨_, rfl⟩
        obtain ⟨m, E, hm, hwr1, hwr2, hE, HE, hEB, hm2⟩ := crash_facts x.bytes x.synced kn nI hxs hxb (by rw [← hnI]; exact Int.max_comm _ _)
        have hmI : (x.synced : Int) + (m : Int) ≤ (x.bytes.size : Int) := by exact_mod_cast hm2
        have h0m : (0 : Int) ≤ (x.synced : Int) + (m : Int) := Int.add_nonneg (Int.natCast_nonneg _) (Int.natCast_nonneg _)
        have htn : ((x.synced : Int) + (m : Int)).toNat = x.synced + m := by rw [← Int.natCast_add, Int.toNat_natCast]
        clear hEB hm2
        go_upto_region 7 with fail
        rw [← HFF.out, ← HW1.out]
        obtain ⟨p0, p1, p2, pf1, pf2⟩ := HF1.out.cells
        go_upto_region 9 with fail
        have HF2 := Lib.hid (show FB F N E (x.synced : Int) (W1.setCell ⟨F, 1, none⟩ (.string E)) from FB.put1 HF1.out E)
        have HM2 := Lib.hid (HM1.out.other (k := 1) hFd hFg HFW.out (.string E))
        obtain ⟨W2, hW2⟩ : ∃ W2, W1.setCell ⟨F, 1, none⟩ (.string E) = W2 := ⟨_, rfl⟩
        rw [hW2] at HF2 HM2 ⊢
        clear hW2 HF1 HM1 p0 p1 p2 pf1 pf2 d0 c0 c1 c2 HM
        obtain ⟨p0, p1, p2, pf1, pf2⟩ := HF2.out.cells
        go_upto_region 10 with fail
        have HF3 := Lib.hid (show FB F N E (E.size : Int) (W2.setCell ⟨F, 2, none⟩ (.int .i64 (E.size : Int))) from FB.put2 HF2.out _)
        have HM3 := Lib.hid (HM2.out.other (k := 2) hFd hFg HFW.out (.int .i64 (E.size : Int)))
        obtain ⟨W3, hW3⟩ : ∃ W3, W2.setCell ⟨F, 2, none⟩ (.int .i64 (E.size : Int)) = W3 := ⟨_, rfl⟩
        rw [hW3] at HF3 HM3 ⊢
        clear hW3 HF2 HM2 p0 p1 p2 pf1 pf2
        obtain ⟨p0, p1, p2, pf1, pf2⟩ := HF3.out.cells
        obtain ⟨d0, c0, c1, c2, g0, g1, g2⟩ := HM3.out.at HLN.out HG.out
        have hy : Dk.crashed (ks.getD i 0) x = ⟨x.name, E, E.size⟩ := by rw [HKN.out]; unfold Dk.crashed; rw [← HE.out]
        have HP := Lib.hid ((HM3.out.put h7g HLN.out HHN.out ⟨x.name, E, E.size⟩).next (Below.refl _ _).drew)
        rw [← hy, ← HNX.out, hy] at HP
        simp only at HP
        rw [HNM.out] at HP
        clear hm hwr1 hwr2 hE hmI h0m htn hy
        go_region
        go_wp2
        exact ⟨⟨i + 1, by go_num, HHN.out, HP⟩, round_less HHN.out⟩
      · have hikI : ¬ (i : Int) < (ks.length : Int) := by omega
        have HKN := Lib.hid (show ks.getD i 0 = 0 by rw [List.getD_eq_getElem?_getD, List.getElem?_eq_none (by omega)]; rfl)
        obtain ⟨m, E, hm, hwr1, hwr2, hE, HE, hEB, hm2⟩ := crash_facts x.bytes x.synced (0 : Int) (0 : Int) hxs hxb (rfl)
        have hmI : (x.synced : Int) + (m : Int) ≤ (x.bytes.size : Int) := by exact_mod_cast hm2
        have h0m : (0 : Int) ≤ (x.synced : Int) + (m : Int) := Int.add_nonneg (Int.natCast_nonneg _) (Int.natCast_nonneg _)
        have htn : ((x.synced : Int) + (m : Int)).toNat = x.synced + m := by rw [← Int.natCast_add, Int.toNat_natCast]
        clear hEB hm2
        go_upto_region 7 with fail
        rw [← HFF.out, ← HW1.out]
        obtain ⟨p0, p1, p2, pf1, pf2⟩ := HF1.out.cells
        go_upto_region 9 with fail
        have HF2 := Lib.hid (show FB F N E (x.synced : Int) (W1.setCell ⟨F, 1, none⟩ (.string E)) from FB.put1 HF1.out E)
        have HM2 := Lib.hid (HM1.out.other (k := 1) hFd hFg HFW.out (.string E))
        obtain ⟨W2, hW2⟩ : ∃ W2, W1.setCell ⟨F, 1, none⟩ (.string E) = W2 := ⟨_, rfl⟩
        rw [hW2] at HF2 HM2 ⊢
        clear hW2 HF1 HM1 p0 p1 p2 pf1 pf2 d0 c0 c1 c2 HM
        obtain ⟨p0, p1, p2, pf1, pf2⟩ := HF2.out.cells
        go_upto_region 10 with fail
        have HF3 := Lib.hid (show FB F N E (E.size : Int) (W2.setCell ⟨F, 2, none⟩ (.int .i64 (E.size : Int))) from FB.put2 HF2.out _)
        have HM3 := Lib.hid (HM2.out.other (k := 2) hFd hFg HFW.out (.int .i64 (E.size : Int)))
        obtain ⟨W3, hW3⟩ : ∃ W3, W2.setCell ⟨F, 2, none⟩ (.int .i64 (E.size : Int)) = W3 := ⟨_, rfl⟩
        rw [hW3] at HF3 HM3 ⊢
        clear hW3 HF2 HM2 p0 p1 p2 pf1 pf2
        obtain ⟨p0, p1, p2, pf1, pf2⟩ := HF3.out.cells
        obtain ⟨d0, c0, c1, c2, g0, g1, g2⟩ := HM3.out.at HLN.out HG.out
        have hy : Dk.crashed (ks.getD i 0) x = ⟨x.name, E, E.size⟩ := by rw [HKN.out]; unfold Dk.crashed; rw [← HE.out]
        have HP := Lib.hid ((HM3.out.put h7g HLN.out HHN.out ⟨x.name, E, E.size⟩).next (Below.refl _ _).drew)
        rw [← hy, ← HNX.out, hy] at HP
        simp only at HP
        rw [HNM.out] at HP
        clear hm hwr1 hwr2 hE hmI h0m htn hy
        go_region
        go_wp2
        exact ⟨⟨i + 1, by go_num, HHN.out, HP⟩, round_less HHN.out⟩
    · have hgi : ¬ (i : Int) < (fs.length : Int) := by omega
      obtain rfl : i = fs.length := by omega
      have HEND := Lib.hid (show Dk.crashTo ks fs fs.length = Dk.crash ks fs by rw [Dk.crashTo, List.drop_length, List.append_nil, List.take_of_length_le (by rw [Dk.crash_len]; omega)])
      rw [HEND.out] at HM
      go_wp2
      go_end0
      exact ⟨rfl, ft, ⟨_, HM.out.1, by rw [Dk.crash_len]; exact HM.out.2.1, HFIT.out.1, HFIT.out.2.1, HFIT.out.2.2.1, h6, H7.out, HFIT.out.2.2.2⟩, fun j hj => .inl hj, HM.out.2.2⟩
end Go.Proofs.YtiaddfghojdgkaaGreatDoor
