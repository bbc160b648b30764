/-
  The walks of strconv.ParseUint (two signs, base 16) and of text.inner.
-/
import Derived.Test.YthnhnaaihhagaaaDoorParse
namespace Go.Proofs.YthnhnaaihhagaaaDoor
open Go.RowKit Go.Shelf

theorem bytesWorld_below (w : World) (e : TypeId) (s : ByteArray) : Below w.heap.size w (Lib.bytesWorld w e s) := by
  have h : Below w.heap.size w (w.drew.alloc (.cells (Lib.bytesCells w e s) e)) := ((Below.refl _ w).drew).alloc (Nat.le_refl _) _
  refine h.trans ⟨rfl, rfl, rfl, by rw [Lib.bytesWorld_size]; simp, fun k hk => ?_⟩
  rw [Lib.bytesWorld_at_old w e s k hk]
  exact (Below.heap_alloc w.drew _ _ hk).symm

set_option maxHeartbeats 2000000 in
set_option maxRecDepth 100000 in
theorem parse_some (s : ByteArray) (x : Nat) (w : World) (h2 : s.size = 2) (hx : pF 0 s.data.toList = some x) :
    Calls Tryd.prog 46 #[.string s, .int .i64 16, .int .i64 8] w fun e w' => e = .returned (.tuple #[.int .u64 (x : Int), .nilIface]) ∧ Below w.heap.size w w' := by
  have H := Lib.hid (parse16 s w h2)
  rw [hx] at H
  simp only [pV] at H
  clear h2 hx
  go_enter Tryd.func46, Tryd.ntmps46
  go_wp2_with fail
  refine H.out.mono ?_
  rintro e w1 ⟨rfl, hw1⟩
  have hb : Below w.heap.size w w1 := by rw [hw1]; exact bytesWorld_below w _ s
  clear hw1
  go_wp2
  go_ret2
  exact ⟨rfl, hb⟩
set_option maxHeartbeats 2000000 in
set_option maxRecDepth 100000 in
theorem parse_none (s : ByteArray) (w : World) (hE : Env w) (h2 : s.size = 2) (hx : pF 0 s.data.toList = none) :
    Calls Tryd.prog 46 #[.string s, .int .i64 16, .int .i64 8] w fun e w' => (∃ te pe, e = .returned (.tuple #[.int .u64 0, .iface te pe])) ∧ Below w.heap.size w w' := by
  have H := Lib.hid (parse16 s w h2)
  rw [hx] at H
  simp only [pV] at H
  have hs : s.size ≤ 281474976710656 := by omega
  have HS := Lib.hid hs
  clear h2 hx hs
  go_enter Tryd.func46, Tryd.ntmps46
  go_wp2_with fail
  refine H.out.mono ?_
  rintro e w1 ⟨rfl, hw1⟩
  have hb : Below w.heap.size w w1 := by rw [hw1]; exact bytesWorld_below w _ s
  have hE1 := hE.next hb
  clear hw1
  obtain ⟨te, pe, hv⟩ := hE1.esyn
  have HV := Lib.hid hv
  clear hv
  go_wp2_with fail
  refine (Tryd.strconv_toError_syntax _ s 16 8 _ w1 HS.out HV.out (.inr ⟨te, pe, rfl⟩)).mono ?_
  rintro e w2 ⟨N, rfl, _, _, hb2⟩
  go_wp2
  go_ret2
  exact ⟨⟨_, _, rfl⟩, hb.trans (hb2.mono hb.size)⟩

/-! ### text.inner -/
theorem pF_two (a b : UInt8) (x y : Nat) (hx : Txt.dgP a = some x) (hy : Txt.dgP b = some y) : pF 0 [a, b] = some (16 * x + y) := by simp [pF, hx, hy]
theorem pF_two_none (a b : UInt8) (h : Txt.dgP a = none ∨ Txt.dgP b = none) : pF 0 [a, b] = none := by
  rcases h with h | h
  · simp [pF, h]
  · cases e : Txt.dgP a <;> simp [pF, h, e]
theorem dgP_lt (c : UInt8) (x : Nat) (h : Txt.dgP c = some x) : x < 16 := by
  unfold Txt.dgP at h
  repeat' split at h
  all_goals first | (cases h; omega) | (cases h; done)
theorem innerFrom_app (dg : UInt8 → Option Nat) : ∀ (a acc r : List UInt8), (92 : UInt8) ∉ a → innerFrom dg acc (a ++ r) = innerFrom dg (acc ++ a) r
  | [], acc, r, _ => by simp
  | c :: a, acc, r, h => by
    have h1 : c ≠ 92 := fun e => h (by simp [e])
    have h2 : (92 : UInt8) ∉ a := fun e => h (by simp [e])
    rw [List.cons_append, innerFrom_plain _ _ _ _ h1, innerFrom_app dg a _ r h2]
    simp
theorem split_at (l : List UInt8) (c : UInt8) (h : c ∈ l) : ∃ a r, l = a ++ c :: r ∧ c ∉ a := by
  induction l with
  | nil => cases h
  | cons d l ih =>
    by_cases e : d = c
    · exact ⟨[], l, by rw [e]; rfl, by simp⟩
    · obtain ⟨a, r, h1, h2⟩ := ih (by rcases List.mem_cons.1 h with h | h; exact absurd h.symm e; exact h)
      exact ⟨d :: a, r, by rw [h1]; rfl, by simp [h2]; exact fun h => e h.symm⟩

set_option maxHeartbeats 4000000 in
set_option maxRecDepth 100000 in
theorem inner_any (s0 : ByteArray) (w : World) (hE : Env w) (hs : s0.size ≤ 1000000000000) :
    Calls Tryd.prog 27 #[.string s0] w fun e w' => e = .returned (optV (Txt.inner Txt.dgP s0.data.toList)) ∧ Below w.heap.size w w' := by
  have HN := Lib.hid (show Txt.inner Txt.dgP s0.data.toList = innerFrom Txt.dgP [] s0.data.toList by simp [innerFrom])
  go_enter Tryd.func27, Tryd.ntmps27
  go_wp2
  go_loopw [0] (fun v wr => ∃ (s : ByteArray) (acc : List UInt8), v = .string s ∧ Bld w.heap.size w.heap.size acc wr ∧ Below w.heap.size w wr ∧ Txt.inner Txt.dgP s0.data.toList = innerFrom Txt.dgP acc s.data.toList ∧ acc.length + s.size ≤ s0.size ∧ Env wr) (fun v _ => match v with | .string s => s.size | _ => 0)
  case atStart => exact ⟨s0, [], rfl, bld_fresh w, (Below.refl _ _).alloc (Nat.le_refl _) _, HN.out, by simp, hE.next ((Below.refl _ _).alloc (Nat.le_refl _) _)⟩
  case round =>
    obtain ⟨s, acc, rfl, hI, hbw, hin, hal, hEr⟩ := hrel
    have HA := Lib.hid hin; clear hin HN
    have hbs := hbw.size
    by_cases hmem : (92 : UInt8) ∈ s.data.toList
    · obtain ⟨a, r, hl, hna⟩ := split_at _ _ hmem
      have hidx := idx_some a 92 r hna
      rw [← hl] at hidx
      have hlen : a.length + 1 + r.length = s.size := by rw [Lib.size_eq, hl]; simp; omega
      have ha : (s.extract 0 a.length).data.toList = a := by rw [Lib.extract_data, hl]; simp
      have hr : (s.extract (a.length + 1) s.size).data.toList = r := by
        rw [Lib.extract_to_end, hl, List.append_cons, List.drop_append_of_le_length (by simp)]; simp
      have HC := Lib.hid (cut_some s 92 a.length wr hidx (by omega) (by omega))
      have hA1 : Txt.inner Txt.dgP s0.data.toList = innerFrom Txt.dgP (acc ++ a) (92 :: r) := by rw [HA.out, hl, innerFrom_app _ _ _ _ hna]
      have HA1 := Lib.hid hA1
      clear hA1 hidx hna hmem hl HA
      generalize s.extract 0 a.length = A at HC ha
      generalize s.extract (a.length + 1) s.size = R at HC hr
      have hAs : A.size = a.length := by rw [Lib.size_eq, ha]
      have hRs : R.size = r.length := by rw [Lib.size_eq, hr]
      have HAl := Lib.hid ha; have HRl := Lib.hid hr
      have hA2 : A.size ≤ s.size := by omega
      have hR2 : R.size + A.size + 1 ≤ s.size := by omega
      clear ha hr hlen
      go_wp2_with fail
      refine HC.out.mono ?_
      rintro e w1 ⟨rfl, n, rfl⟩
      have hb1 : Below wr.heap.size wr (wr.drewN n) := below_drewN (Below.refl _ _) _
      go_wp2_with fail
      refine (writeString w.heap.size w.heap.size acc A _ (hI.next hb1) (by omega) (by have := hb1.size; omega)).mono ?_
      rintro e w2 ⟨rfl, h2, b2, k2⟩
      rw [HAl.out] at h2
      have hbw2 := (Below.up hbw (Nat.le_refl _) hb1).trans b2
      have hbs2 := hbw2.size
      clear k2 HC hI
      cases r with
      | nil =>
        have HQ := Lib.hid (show Txt.inner Txt.dgP s0.data.toList = none by rw [HA1.out]; rfl)
        have hemp : R.toList.isEmpty = true := by rw [Lib.toList_data, HRl.out]; rfl
        clear HRl hRs
        go_wp2
        go_ret2
        exact ⟨by rw [HQ.out]; rfl, hbw2⟩
      | cons d t =>
        have hemp : R.toList.isEmpty = false := by rw [Lib.toList_data, HRl.out]; rfl
        have hR0 : 0 < R.size := by rw [hRs]; simp
        have hg : R[0] = d := by
          have := drop_head R 0 hR0
          rw [List.drop_zero, HRl.out] at this
          exact (List.cons.inj this).1.symm
        have hgn : R[0].toNat = d.toNat := by rw [hg]
        have hS : (R.extract 1 R.size).data.toList = t := by rw [Lib.extract_to_end, HRl.out]; rfl
        have HS := Lib.hid hS
        have hSs : (R.extract 1 R.size).size = R.size - 1 := by simp [ByteArray.size_extract]
        obtain ⟨S, hSx⟩ : ∃ S, R.extract 1 R.size = S := ⟨_, rfl⟩
        rw [hSx] at HS hSs
        have hSz : S.size + 1 = R.size := by omega
        have hSle : S.size + 1 ≤ R.size := by omega
        have hSge : R.size ≤ S.size + 1 := by omega
        have hts : t.length + 1 = R.size := by rw [hRs]; simp
        have HSs := Lib.hid hSs
        have HTs := Lib.hid hts
        clear hS hg hRs hSs hts HRl hSz
        by_cases d34 : d = 34
        · have HQ := Lib.hid (show Txt.inner Txt.dgP s0.data.toList = innerFrom Txt.dgP (acc ++ a ++ [34]) S.data.toList by rw [HA1.out, HS.out, d34, innerFrom_sign _ _ _ _ (.inl rfl)])
          subst d34
          go_wp2_with fail
          refine (writeByte w.heap.size w.heap.size _ 34 w2 h2 (by simp; omega) (by omega)).mono ?_
          rintro e w3 ⟨rfl, h3, b3, k3⟩
          have q1 := hbw2.trans b3
          have q2 := hEr.from hE (Nat.le_refl _) (hb1.mono hbs |>.trans (b2.trans b3))
          clear b3 k3 h2
          go_wp2
          refine ⟨⟨_, _, rfl, h3, q1, HQ.out, by simp; omega, q2⟩, by simp; omega⟩
        by_cases d92 : d = 92
        · have HQ := Lib.hid (show Txt.inner Txt.dgP s0.data.toList = innerFrom Txt.dgP (acc ++ a ++ [92]) S.data.toList by rw [HA1.out, HS.out, d92, innerFrom_sign _ _ _ _ (.inr rfl)])
          subst d92
          go_wp2_with fail
          refine (writeByte w.heap.size w.heap.size _ 92 w2 h2 (by simp; omega) (by omega)).mono ?_
          rintro e w3 ⟨rfl, h3, b3, k3⟩
          have q1 := hbw2.trans b3
          have q2 := hEr.from hE (Nat.le_refl _) (hb1.mono hbs |>.trans (b2.trans b3))
          clear b3 k3 h2
          go_wp2
          refine ⟨⟨_, _, rfl, h3, q1, HQ.out, by simp; omega, q2⟩, by simp; omega⟩
        have n34 : ((d.toNat : Int) == 34) = false := byte_ne d 34 d34
        have n92 : ((d.toNat : Int) == 92) = false := byte_ne d 92 d92
        by_cases d110 : d = 110
        · have HQ := Lib.hid (show Txt.inner Txt.dgP s0.data.toList = innerFrom Txt.dgP (acc ++ a ++ [10]) S.data.toList by rw [HA1.out, HS.out, d110, innerFrom_n])
          subst d110
          clear n34 n92 d34 d92
          go_wp2_with fail
          refine (writeByte w.heap.size w.heap.size _ 10 w2 h2 (by simp; omega) (by omega)).mono ?_
          rintro e w3 ⟨rfl, h3, b3, k3⟩
          have q1 := hbw2.trans b3
          have q2 := hEr.from hE (Nat.le_refl _) (hb1.mono hbs |>.trans (b2.trans b3))
          clear b3 k3 h2
          go_wp2
          refine ⟨⟨_, _, rfl, h3, q1, HQ.out, by simp; omega, q2⟩, by simp; omega⟩
        have n110 : ((d.toNat : Int) == 110) = false := byte_ne d 110 d110
        by_cases d120 : d = 120
        · subst d120
          clear n34 n92 n110 d34 d92 d110
          by_cases hlt : R.size < 3
          · have HQ := Lib.hid (show Txt.inner Txt.dgP s0.data.toList = none by rw [HA1.out, innerFrom_short _ _ _ (by have := HTs.out; omega)])
            have hlt2 : S.size < 2 := by omega
            go_wp2
            go_ret2
            exact ⟨by rw [HQ.out]; rfl, hbw2⟩
          · have hlt2 : ¬ S.size < 2 := by omega
            obtain ⟨x0, x1, t', ht⟩ : ∃ x0 x1 t', t = x0 :: x1 :: t' := by
              have := HTs.out
              match t, this with
              | x0 :: x1 :: t', _ => exact ⟨x0, x1, t', rfl⟩
              | [_], h => simp at h; omega
              | [], h => simp at h; omega
            subst ht
            have hP : (S.extract 0 2).data.toList = [x0, x1] := by rw [Lib.extract_data, HS.out]; rfl
            have hT : (S.extract 2 S.size).data.toList = t' := by rw [Lib.extract_to_end, HS.out]; rfl
            have hPs : (S.extract 0 2).size = 2 := by rw [Lib.size_eq, hP]; rfl
            have hTs : (S.extract 2 S.size).size ≤ R.size := by rw [Lib.size_eq, hT]; have := HTs.out; simp at this; omega
            have HT := Lib.hid hT; have HTs2 := Lib.hid hTs
            have hE2 := hEr.from hE (Nat.le_refl _) ((hb1.mono hbs).trans b2)
            rcases Option.eq_none_or_eq_some (pF 0 [x0, x1]) with hpf | ⟨z, hpf⟩
            · have HQ := Lib.hid (show Txt.inner Txt.dgP s0.data.toList = none by
                rw [HA1.out]
                refine innerFrom_x_bad _ _ _ _ _ ?_
                cases e0 : Txt.dgP x0 with
                | none => exact .inl rfl
                | some u => cases e1 : Txt.dgP x1 with
                  | none => exact .inr rfl
                  | some v => rw [pF_two _ _ _ _ e0 e1] at hpf; cases hpf)
              have HP := Lib.hid (parse_none (S.extract 0 2) w2 hE2 hPs (by rw [hP]; exact hpf))
              clear hpf hP hT hPs hTs
              go_wp2_with fail
              refine HP.out.mono ?_
              rintro e w3 ⟨⟨te, pe, rfl⟩, b3⟩
              go_wp2
              go_ret2
              exact ⟨by rw [HQ.out]; rfl, Below.up hbw2 (Nat.le_refl _) b3⟩
            · obtain ⟨u, v, e0, e1, hz⟩ : ∃ u v, Txt.dgP x0 = some u ∧ Txt.dgP x1 = some v ∧ z = 16 * u + v := by
                cases e0 : Txt.dgP x0 with
                | none => rw [pF_two_none _ _ (.inl e0)] at hpf; cases hpf
                | some u => cases e1 : Txt.dgP x1 with
                  | none => rw [pF_two_none _ _ (.inr e1)] at hpf; cases hpf
                  | some v => rw [pF_two _ _ _ _ e0 e1] at hpf; exact ⟨u, v, rfl, rfl, (Option.some.inj hpf).symm⟩
              have hz256 : z < 256 := by have := dgP_lt _ _ e0; have := dgP_lt _ _ e1; omega
              have HQ := Lib.hid (show Txt.inner Txt.dgP s0.data.toList = innerFrom Txt.dgP (acc ++ a ++ [z.toUInt8]) (S.extract 2 S.size).data.toList by rw [HA1.out, HT.out, innerFrom_x _ _ _ _ _ _ _ e0 e1, hz])
              have HZ := Lib.hid (show (z.toUInt8).toNat = z by simp; omega)
              have HP := Lib.hid (parse_some (S.extract 0 2) z w2 hPs (by rw [hP]; exact hpf))
              clear hpf hP hT hPs hTs e0 e1 hz
              go_wp2_with fail
              refine HP.out.mono ?_
              rintro e w3 ⟨rfl, b3⟩
              go_wp2_with fail
              have HW := writeByte w.heap.size w.heap.size (acc ++ a) z.toUInt8 w3 (h2.next b3) (by simp; omega) (by have := b3.size; omega)
              rw [HZ.out] at HW
              refine HW.mono ?_
              rintro e w4 ⟨rfl, h4, b4, k4⟩
              have q1 := (Below.up hbw2 (Nat.le_refl _) b3).trans b4
              have q2 := hE2.from hE (Nat.le_refl _) ((b3.mono hbs2).trans b4)
              have q3 := HTs2.out
              clear b4 k4 h2 b3 HW
              go_wp2
              refine ⟨⟨_, _, rfl, h4, q1, HQ.out, by simp [ByteArray.size_extract]; omega, q2⟩, by simp [ByteArray.size_extract]; omega⟩
        · have n120 : ((d.toNat : Int) == 120) = false := byte_ne d 120 d120
          have HQ := Lib.hid (show Txt.inner Txt.dgP s0.data.toList = none by rw [HA1.out, innerFrom_other _ _ _ _ (by simp [d34, d92]) d110 d120])
          clear d34 d92 d110 d120
          go_wp2
          go_ret2
          exact ⟨by rw [HQ.out]; rfl, hbw2⟩
    · have HC := Lib.hid (cut_none s 92 wr hmem)
      have HQ := Lib.hid (show Txt.inner Txt.dgP s0.data.toList = some (acc ++ s.data.toList) by
        have := innerFrom_app Txt.dgP s.data.toList acc [] hmem
        rw [List.append_nil] at this
        rw [HA.out, this, innerFrom_nil])
      clear hmem
      go_wp2_with fail
      refine HC.out.mono ?_
      rintro e w1 ⟨rfl, n, rfl⟩
      have hb1 : Below wr.heap.size wr (wr.drewN n) := below_drewN (Below.refl _ _) _
      go_wp2_with fail
      refine (writeString w.heap.size w.heap.size acc s _ (hI.next hb1) (by omega) (by have := hb1.size; omega)).mono ?_
      rintro e w2 ⟨rfl, h2, b2, k2⟩
      go_wp2_with fail
      refine (bldString w.heap.size w.heap.size _ _ h2 (by have := b2.size; have := hb1.size; omega)).mono ?_
      rintro e w3 ⟨rfl, b3⟩
      go_wp2
      go_ret2
      exact ⟨by rw [HQ.out]; rfl, ((Below.up hbw (Nat.le_refl _) hb1).trans b2).trans b3⟩
end Go.Proofs.YthnhnaaihhagaaaDoor
