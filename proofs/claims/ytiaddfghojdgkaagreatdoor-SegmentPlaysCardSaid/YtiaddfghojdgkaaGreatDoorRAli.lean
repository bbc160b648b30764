/-
  Names of files are short, whatever is done. The walk of the law package's alike (layer 9).
-/
import Derived.Test.YtiaddfghojdgkaaGreatDoorRGo
namespace Go.Proofs.YtiaddfghojdgkaaGreatDoor
open Go.RowKit Go.Shelf

/-- No file's name is long. -/
def Dk.Short (fs : List Dk.File) : Prop := ∀ x ∈ fs, x.name.length ≤ 1000000
namespace Dk
theorem Short.put {fs : List File} {y : File} (h : Short fs) (hy : y.name.length ≤ 1000000) : Short (put y fs) := fun x hx => by
  rcases mem_put _ _ _ hx with rfl | hx
  · exact hy
  · exact h x hx
theorem Short.del {fs : List File} (k : List UInt8) (h : Short fs) : Short (del k fs) := fun x hx => h x (mem_del _ _ _ hx)
theorem Short.append {fs : List File} {room : Int} {k : List UInt8} {s : ByteArray} (h : Short fs) (hk : k.length ≤ 1000000) : Short (append room k s fs).1 := by
  unfold Dk.append
  split
  · exact h
  · split
    · exact h
    · split
      · exact h
      · refine h.put ?_
        cases look fs k <;> exact hk
theorem Short.sync {fs : List File} {k : List UInt8} (h : Short fs) (hk : k.length ≤ 1000000) : Short (sync k fs).1 := by
  unfold Dk.sync
  split
  · exact h
  · exact h.put hk
theorem Short.delete {fs : List File} (k : List UInt8) (h : Short fs) : Short (delete k fs).1 := by
  unfold Dk.delete
  split
  · exact h
  · exact h.del k
theorem Short.rename {fs : List File} {k j : List UInt8} (h : Short fs) (hk : j.length ≤ 1000000) : Short (rename k j fs).1 := by
  unfold Dk.rename
  split
  · exact h
  · split
    · exact h
    · split
      · exact h
      · exact ((h.del j).del k).put hk
theorem Short.crash {fs : List File} (ks : List Int) (h : Short fs) : Short (crash ks fs) := fun x hx => by
  have hx2 : x.name ∈ (Dk.crash ks fs).map (·.name) := List.mem_map.2 ⟨x, hx, rfl⟩
  rw [Dk.crash_names] at hx2
  obtain ⟨y, hy, e⟩ := List.mem_map.1 hx2
  rw [← e]; exact h y hy
end Dk
open Dk in
theorem short_write {fs : List Dk.File} {room : Int} {k : List UInt8} {s : ByteArray} (h : Short fs) (hk : k.length ≤ 1000000) : Short (Seg.writeD room k s fs).1 := by
  unfold Seg.writeD
  split
  · exact (h.append hk).sync hk
  · exact (h.append hk).delete k
theorem name_short (n : Int) : (Seg.nameOf n).length ≤ 1000000 := Nat.le_trans (Seg.name_len n) (by decide)
open Dk in
theorem short_create {fs : List Dk.File} {room n first : Int} (h : Short fs) : Short (Seg.create room n first fs).1 := by
  unfold Seg.create
  split
  · exact h
  · split
    · exact h
    · exact short_write h (name_short n)
open Dk in
theorem short_add {fs : List Dk.File} {room n : Int} {l : List Evt.Entry} (h : Short fs) : Short (Seg.addD room n l fs).1 := by
  unfold Seg.addD
  repeat' split
  all_goals first | exact h | exact (h.append (name_short n)).sync (name_short n) | exact h.append (name_short n)
open Dk in
theorem short_cut {fs : List Dk.File} {room n last : Int} (h : Short fs) : Short (Seg.cutD room n last fs).1 := by
  have hd := h.delete Seg.temp
  have hw := fun (s : ByteArray) => short_write (room := room) (s := s) hd (show Seg.temp.length ≤ 1000000 by decide)
  unfold Seg.cutD Seg.cutG
  split
  · split
    · exact h
    · split
      · exact (hw _).rename (name_short n)
      · exact hw _
  · exact h
variable {R S : (Nat → Prop) → World → Prop} {a w w' : World} {d m : Nat} {room : Int} {fs gs fs' gs' : List Dk.File}
theorem names_at (fs : List Dk.File) (i : Nat) (hi : i < fs.length) : (fs.map (·.name))[i]'(by simpa using hi) = (fs[i]).name := by simp
theorem ali_next {X Y : World} {P b1 o1 b2 o2 : Nat} {u v s t : Value} (h : X.cell? ⟨P, 0, none⟩ = some u ∧ X.cell? ⟨P, 1, none⟩ = some v ∧ X.cell? ⟨b1, o1, none⟩ = some s ∧ X.cell? ⟨b2, o2, none⟩ = some t) (hb : Below X.heap.size X Y) : Y.cell? ⟨P, 0, none⟩ = some u ∧ Y.cell? ⟨P, 1, none⟩ = some v ∧ Y.cell? ⟨b1, o1, none⟩ = some s ∧ Y.cell? ⟨b2, o2, none⟩ = some t :=
  ⟨cell_kept hb (Nat.le_refl _) h.1, cell_kept hb (Nat.le_refl _) h.2.1, cell_kept hb (Nat.le_refl _) h.2.2.1, cell_kept hb (Nat.le_refl _) h.2.2.2⟩
set_option maxHeartbeats 4000000 in
set_option maxRecDepth 100000 in
theorem alike9_any (h : PR R a d m room fs fs w) (hR : Firm R) (hs : Dk.Short fs) :
    Calls Tryz.prog 14 #[.agg #[.pointer (some ⟨d, 0, none⟩), .pointer (some ⟨m, 0, none⟩)]] w fun e w' => e = .returned (.bool true) ∧ Below w.heap.size w w' := by
  obtain ⟨W, hW⟩ : ∃ W, W = w.alloc (.cells #[.pointer (some ⟨d, 0, none⟩), .pointer (some ⟨m, 0, none⟩)] 28) := ⟨_, rfl⟩
  have p0 : PB w.heap.size (.pointer (some ⟨d, 0, none⟩)) (.pointer (some ⟨m, 0, none⟩)) W := by rw [hW]; exact heap_alloc_new w _
  have hb0 : Below w.heap.size w W := by rw [hW]; exact (Below.refl _ _).alloc (Nat.le_refl _) _
  have HPR := Lib.hid (fun (X : World) (hb : Below w.heap.size w X) => h.next hR hb)
  have hlen : fs.length ≤ 40 := by obtain ⟨ft, fu, hx⟩ := h; exact hx.ref.fit.1
  have HL := Lib.hid (list_pr (HPR.out W hb0))
  have HW := Lib.hid hW
  have HSH := Lib.hid hs
  clear hW h hs
  obtain ⟨c0, c1⟩ := p0.cells
  go_enter Tryz.func14, Tryz.ntmps14
  go_upto_region 1 with fail
  rw [← HW.out]
  clear HW
  go_wp2_with fail
  refine HL.out.mono ?_
  rintro e w1 ⟨sa, sc, rfl, o1, b1⟩
  have p1 := p0.next b1
  have hb1 := Below.up hb0 (Nat.le_refl _) b1
  obtain ⟨c0, c1⟩ := p1.cells
  have HL2 := Lib.hid (rlist_pr (HPR.out w1 hb1))
  clear HL p0 hb0
  go_wp2_with fail
  refine HL2.out.mono ?_
  rintro e w2 ⟨ta, tc, rfl, o2, b2⟩
  have p2 := p1.next b2
  have hb2 := Below.up hb1 (Nat.le_refl _) b2
  have hnl : (fs.map (·.name)).length = fs.length := by simp
  have HC1 := Lib.hid (show Cells w2 (.slice sa fs.length sc) 1 (fs.map (·.name)).length (strCells (fs.map (·.name))) by rw [hnl]; exact Cells.next (cells_of_owns o1.out) b2)
  have HC2 := Lib.hid (show Cells w2 (.slice ta fs.length tc) 1 (fs.map (·.name)).length (strCells (fs.map (·.name))) by rw [hnl]; exact cells_of_owns o2.out)
  obtain ⟨c0, c1⟩ := p2.cells
  have HP2 := Lib.hid p2
  have HB2 := Lib.hid hb2
  have HU1 := Lib.hid (fun n => (used_pr (HPR.out (w2.drewN n) (below_drewN hb2 n))).mono (fun _ _ h => (And.intro h.1 h.2.symm)))
  have HU2 := Lib.hid (fun n => (rused_pr (HPR.out (w2.drewN n) (below_drewN hb2 n))).mono (fun _ _ h => (And.intro h.1 h.2.symm)))
  clear HL2 o1 o2 p1 hb1 b1 b2 p2 hb2 hnl
  go_wp2
  go_quiet (first | (go_at_call 69; exact Calls.quiet_of_same (HU1.out _)) | (go_at_call 70; exact Calls.quiet_of_same (HU2.out _)))
  go_wp2
  go_loopw [5] (fun iv wr => ∃ i : Nat, iv = .int .i64 (i : Int) ∧ i ≤ fs.length ∧ Below w2.heap.size w2 wr) (fun iv _ => fs.length - (intOf iv).toNat)
  case atStart => exact ⟨0, rfl, Nat.zero_le _, below_drewN (Below.refl _ _) _⟩
  case round =>
    obtain ⟨i, rfl, hi, hbr⟩ := hrel
    by_cases hgo : i < fs.length
    · obtain ⟨b1, o1, k1, hv1, e1⟩ := strAt (Cells.next HC1.out hbr) i (by simpa using hgo)
      obtain ⟨rfl, rfl⟩ : sa = some ⟨b1, o1, none⟩ ∧ sc = k1 := by injection hv1 with q1 q2 q3; exact ⟨q1, q3⟩
      obtain ⟨b2, o2, k2, hv2, e2⟩ := strAt (Cells.next HC2.out hbr) i (by simpa using hgo)
      obtain ⟨rfl, rfl⟩ : ta = some ⟨b2, o2, none⟩ ∧ tc = k2 := by injection hv2 with q1 q2 q3; exact ⟨q1, q3⟩
      clear hv1 hv2
      rw [names_at fs i hgo] at e1 e2
      have hns : (⟨(fs[i]).name.toArray⟩ : ByteArray).size ≤ 1000000 := by rw [Lib.size_eq]; exact HSH.out _ (List.getElem_mem hgo)
      obtain ⟨N, hN⟩ : ∃ N, (⟨(fs[i]).name.toArray⟩ : ByteArray) = N := ⟨_, rfl⟩
      rw [hN] at e1 e2 hns
      have pr := HP2.out.next hbr
      obtain ⟨c0, c1⟩ := pr.cells
      have hbw := HB2.out.trans (hbr.mono HB2.out.size)
      have HRD := Lib.hid (fun (X : World) (hb : Below w.heap.size w X) => read_pr (nm := N) (HPR.out X hb) (by omega))
      have HRR := Lib.hid (fun (X : World) (hb : Below w.heap.size w X) => rread_pr (nm := N) (HPR.out X hb))
      have HSD := Lib.hid (fun (X : World) (hb : Below w.heap.size w X) => synced_pr (nm := N) (HPR.out X hb) (by omega))
      have HSR := Lib.hid (fun (X : World) (hb : Below w.heap.size w X) => rsynced_pr (nm := N) (HPR.out X hb))
      obtain ⟨A, hA⟩ : ∃ A, (Dk.read N.data.toList fs).1 = A := ⟨_, rfl⟩
      obtain ⟨cA, hcA⟩ : ∃ cA, (Dk.read N.data.toList fs).2 = cA := ⟨_, rfl⟩
      obtain ⟨sy, hsy⟩ : ∃ sy, Dk.synced N.data.toList fs = sy := ⟨_, rfl⟩
      rw [hA, hcA] at HRD HRR
      rw [hsy] at HSD HSR
      have hq := And.intro c0 (And.intro c1 (And.intro e1 e2))
      have HBR := Lib.hid hbr
      have HBW := Lib.hid hbw
      clear hA hcA hsy hN pr
      have HR8 := Lib.hid (fun n => (HRD.out (wr.drewN n) (below_drewN HBW.out n)).mono (fun _ _ h => (And.intro h.1 h.2.symm)))
      clear hbr hbw c0 c1 e1 e2
      obtain ⟨c0, c1, e1, e2⟩ := hq
      go_wp2
      go_quiet (first | (go_at_call 71; exact Calls.quiet_of_same (HR8.out _)))
      obtain ⟨W8, hW8⟩ : ∃ W8, wr.drewN nq = W8 := ⟨_, rfl⟩
      have hb8 : Below w.heap.size w W8 := by rw [← hW8]; exact below_drewN HBW.out _
      have hb28 : Below w2.heap.size w2 W8 := by rw [← hW8]; exact below_drewN HBR.out _
      have hq : W8.cell? ⟨w.heap.size, 0, none⟩ = some (.pointer (some ⟨d, 0, none⟩)) ∧ W8.cell? ⟨w.heap.size, 1, none⟩ = some (.pointer (some ⟨m, 0, none⟩)) ∧ W8.cell? ⟨b1, o1 + i, none⟩ = some (.string N) ∧ W8.cell? ⟨b2, o2 + i, none⟩ = some (.string N) := by rw [← hW8]; exact ⟨c0, c1, e1, e2⟩
      rw [hW8]
      clear hW8 c0 c1 e1 e2 HR8 HBW HBR
      have hA := ali_next hq (Below.refl _ _).drew
      go_wp2
      go_region_held3 (fun X => X.cell? ⟨w.heap.size, 1, none⟩ = some (.pointer (some ⟨m, 0, none⟩)) ∧ X.cell? ⟨b2, o2 + i, none⟩ = some (.string N))
        (first | exact ⟨hA.2.1, hA.2.2.2⟩ | exact ⟨hq.2.1, hq.2.2.2⟩)
        (first | (go_at_call 72; refine (HRR.out _ hb8.drew).mono ?_; rintro e w9 ⟨rfl, b9⟩; have hA := ali_next hq ((Below.refl _ _).drew.trans b9); have hb9 := hb8.drew.trans (b9.mono hb8.size); have hb29 := hb28.drew.trans (b9.mono hb28.size)))
      have hA := ali_next hA (Below.refl _ _).drew
      have hA9 := hA
      clear hq hb8 hb28
      go_wp2
      go_region_held3 (fun X => X.cell? ⟨w.heap.size, 0, none⟩ = some (.pointer (some ⟨d, 0, none⟩)) ∧ X.cell? ⟨w.heap.size, 1, none⟩ = some (.pointer (some ⟨m, 0, none⟩)) ∧ X.cell? ⟨b1, o1 + i, none⟩ = some (.string N) ∧ X.cell? ⟨b2, o2 + i, none⟩ = some (.string N))
        (first | exact hA | exact hA9)
        (first
          | (go_at_call 73; refine (HSD.out _ hb9.drew).mono ?_; rintro e w10 ⟨rfl, hw10⟩; subst hw10)
          | (go_at_call 74; refine (HSR.out _ hb9.drew).mono ?_; rintro e w11 ⟨rfl, b11⟩; have hA := ali_next hA9 b11; have hb11 := hb29.drew.trans (b11.mono hb29.size)))
      clear hA hA9 HSD HSR HRD HRR
      go_wp2
      exact ⟨⟨i + 1, by go_num, hgo, hb11⟩, by simp [intOf]; omega⟩
    · go_wp2
      go_ret
      exact ⟨rfl, HB2.out.trans (hbr.mono HB2.out.size)⟩
end Go.Proofs.YtiaddfghojdgkaaGreatDoor
