/-
  The walk of the law SegmentTells.
-/
import Derived.Test.YthmblkckpdpjkaaGreatDoorAt
import Derived.Test.YthmblkckpdpjkaaGreatDoorSegG
namespace Go.Proofs.YthmblkckpdpjkaaGreatDoor
open Go.RowKit Go.Shelf

set_option maxHeartbeats 8000000 in
set_option maxRecDepth 100000 in
theorem segmentTells_any (s : ByteArray) (w : World) (hE : Env w) :
    Calls Tryz.prog 5 #[.string s] w fun e w' => e = .returned (.bool true) ∧ Below w.heap.size w w' := by
  have HS := Lib.hid (shown_any w hE)
  have HE := Lib.hid hE
  clear hE
  go_enter Tryz.func5, Tryz.ntmps5
  go_wp2_with fail
  refine HS.out.mono ?_
  rintro e w1 ⟨rfl, hb1⟩
  have HBG := Lib.hid (begun_any 1048576 w1 (by decide) (by decide))
  clear HS
  go_wp2_with fail
  refine HBG.out.mono ?_
  rintro e w2 ⟨d, m, ft, rfl, hd, hft, _, _, b2⟩
  have hb2 := Below.up hb1 (Nat.le_refl _) b2
  have s1 := hb1.size
  have s2 := b2.size
  obtain ⟨W, hW⟩ : ∃ W, W = w2.alloc (.cells #[.pointer (some ⟨d, 0, none⟩), .pointer (some ⟨m, 0, none⟩)] 31) := ⟨_, rfl⟩
  have hA : At w w2.heap.size d (.pointer (some ⟨m, 0, none⟩)) 1048576 [] ft W := by
    rw [hW]
    have hx : Below w2.heap.size w2 (w2.alloc (.cells #[.pointer (some ⟨d, 0, none⟩), .pointer (some ⟨m, 0, none⟩)] 31)) := (Below.refl _ _).alloc (Nat.le_refl _) _
    exact ⟨hd.next hx, ⟨HE.out, hb2.alloc hb2.size _, fun j hj => by have := (hft j hj).1; omega⟩, fun j hj => by have := (hft j hj).2; simp; omega, heap_alloc_new w2 _, fun h => by have := (hft _ h).2; omega⟩
  have HW := Lib.hid hW
  have HA := Lib.hid hA
  clear HBG hd hft b2 s1 s2 hW hb2 hb1 hA
  by_cases h9 : 9000 < s.size
  · go_wp2
    go_ret
    rw [← HW.out]
    exact ⟨rfl, HA.out.below⟩
  obtain ⟨hap, hcase⟩ := Seg.tells s (by omega)
  have c0 := HA.out.cell
  have HAP := Lib.hid (append_at (nm := ⟨#[115, 101, 103, 45, 50]⟩) HA.out (by decide) (by omega) (show Dk.append 1048576 (⟨#[115, 101, 103, 45, 50]⟩ : ByteArray).data.toList s [] = ([⟨Seg.nameOf 2, s, 0⟩], 0) from (by rw [Seg.name2] at hap ⊢; exact hap)))
  have HC := Lib.hid hcase
  clear hap hcase
  rw [HW.out] at c0
  go_wp2_with fail
  rw [← HW.out]
  refine HAP.out.mono ?_
  rintro e w4 ⟨rfl, ft4, hA4, hf4, ht4⟩
  have HA4 := Lib.hid hA4
  have hb4 := hA4.below
  have c4 := hA4.cell
  clear HAP HA hA4 hf4 ht4 HW
  rcases HC.out with ⟨hl, hct⟩ | ⟨g, f, hl, h1, h2, hfo, hct, hl2⟩
  · have HL := Lib.hid (load_at HA4.out (by decide) (show Seg.loadD 2 [⟨Seg.nameOf 2, s, 0⟩] = (⟨0, [], false⟩, 2) from hl))
    have HCT := Lib.hid hct
    clear HC hl hct
    go_wp2_with fail
    refine HL.out.mono ?_
    rintro e w5 ⟨sa, sc, ps, rfl, hpe, hne, b5⟩
    have hp0 : ps = [] := by
      have := hpe.out
      cases ps with
      | nil => rfl
      | cons p l => simp [plainE] at this
    subst hp0
    have hA5 := HA4.out.next (b5.alloc b5.size (.cells #[.int .i64 0, .slice sa 0 sc, .bool false] 48))
    have HCU := Lib.hid (cut_at hA5 (by decide) HCT.out)
    have c5 := hA5.cell
    clear HL hpe hne c4 hA5
    go_wp2_with fail
    refine HCU.out.mono ?_
    rintro e w6 ⟨rfl, ft6, hA6, _, _⟩
    go_wp2
    go_ret
    exact ⟨rfl, hA6.below⟩
  · have hle := loadD_le 2 [⟨Seg.nameOf 2, s, 0⟩] (by rw [Seg.read_one]; simp only; omega)
    rw [hl] at hle
    have HL := Lib.hid (load_at HA4.out (by decide) hl)
    have HCT := Lib.hid hct
    have HL2 := Lib.hid hl2
    have HFO := Lib.hid hfo
    clear HC hl hct hl2 hfo
    go_wp2_with fail
    refine HL.out.mono ?_
    rintro e w5 ⟨sa, sc, ps, rfl, hpe, hne, b5⟩
    obtain ⟨first, ents, torn⟩ := g
    simp only at h1 h2 HFO HL2 hpe
    have hb5 := b5.alloc b5.size (.cells #[.int .i64 first, .slice sa ps.length sc, .bool torn] 48)
    have hA5 := HA4.out.next hb5
    have c5 := hA5.cell
    have hne5 := hne.out.next ((Below.refl _ w5).alloc (Nat.le_refl _) (.cells #[.int .i64 first, .slice sa ps.length sc, .bool torn] 48))
    have hpn : ps.length ≤ 1000000 := by
      have h := congrArg List.length hpe.out
      have h2 := hle.2.2
      simp only [plainE, List.length_map] at h h2
      omega
    have HFL := Lib.hid (follows_any _ ps (first - 1) 0 _ hA5.env hne5.ents hpn (by omega) (by omega))
    rw [hpe.out, HFO.out] at HFL
    have hw1 : wrap64 (first - 1) = first - 1 := IntWalk.wrap64_in _ (by omega)
    have HA5 := Lib.hid hA5
    have HN5 := Lib.hid hne5
    have HS5 := Lib.hid b5.size
    have SB5 := Lib.hid (show SB w5.heap.size first (.slice sa ps.length sc) torn (w5.alloc (.cells #[.int .i64 first, .slice sa ps.length sc, .bool torn] 48)) from heap_alloc_new w5 _)
    clear HL hne c4 hA5 hb5 hne5
    go_wp2_with fail
    refine HFL.out.mono ?_
    rintro e w6 ⟨rfl, b6⟩
    have HCU := Lib.hid (cut_at (HA5.out.next b6) (by decide) HCT.out)
    have c6 := (HA5.out.next b6).cell
    clear HFL c5
    go_wp2_with fail
    refine HCU.out.mono ?_
    rintro e w7 ⟨rfl, ft7, hA7, hf7, ht7⟩
    have hne7 := (HN5.out.next b6).turn HA4.out.2.2.1 ht7
    have sb7 := (SB5.out.next b6).turn (fun h => by have := HA4.out.2.2.1 _ h; have := HS5.out; omega) ht7
    have HL3 := Lib.hid (load_at hA7 (by decide) HL2.out)
    have c7 := hA7.cell
    have HN7 := Lib.hid hne7
    have SB7 := Lib.hid sb7
    have HA7 := Lib.hid hA7
    clear c6 HCU ht7 hf7 hne7 sb7 hA7
    go_wp2_with fail
    refine HL3.out.mono ?_
    rintro e w8 ⟨sa2, sc2, qs, rfl, hqe, hnq, b8⟩
    have hb8 := b8.alloc b8.size (.cells #[.int .i64 first, .slice sa2 qs.length sc2, .bool false] 48)
    have hnq8 := hnq.out.next ((Below.refl _ w8).alloc (Nat.le_refl _) (.cells #[.int .i64 first, .slice sa2 qs.length sc2, .bool false] 48))
    have hqp : qs.length = ps.length := by
      have h := congrArg List.length hqe.out
      have h2 := congrArg List.length hpe.out
      simp only [plainE, List.length_map] at h h2
      omega
    have HSR := Lib.hid (sameRow6_any _ _ qs ps _ hnq8.ents (HN7.out.next hb8).ents (hqe.out.trans hpe.out.symm) (by omega))
    obtain ⟨m0, m1, m2⟩ := (SB7.out.next hb8).cells
    have HB8 := Lib.hid (HA7.out.next hb8).below
    clear HL3 b8 hb8 hnq8 hqp c7
    go_wp2_with fail
    refine HSR.out.mono ?_
    rintro e w9 ⟨rfl, b9⟩
    have hb9 := Below.up HB8.out (Nat.le_refl _) b9
    go_wp2
    go_ret
    exact ⟨rfl, hb9⟩
end Go.Proofs.YthmblkckpdpjkaaGreatDoor
