/-
  The walk of the reference's Words.
-/
import Derived.Test.YthnhnaaihhagaaaDoorWords
import Derived.Test.YthnhnaaihhagaaaDoorUnquote
namespace Go.Proofs.YthnhnaaihhagaaaDoor
open Go.RowKit Go.Shelf

theorem words_skip (c : UInt8) (t : List UInt8) (h : Txt.blank c = true) : Txt.words (c :: t) = Txt.words t := by
  rw [← words_trim (c :: t), List.dropWhile_cons, if_pos h, words_trim]
theorem tw_split (q : UInt8 → Bool) : ∀ l : List UInt8, ∃ n, n ≤ l.length ∧ l.takeWhile q = l.take n ∧ l.dropWhile q = l.drop n ∧ (∀ j (h : j < l.length), j < n → q l[j] = true) ∧ (∀ h : n < l.length, q l[n] = false)
  | [] => ⟨0, by simp⟩
  | c :: t => by
    obtain ⟨n, h1, h2, h3, h4, h5⟩ := tw_split q t
    cases hc : q c with
    | false => exact ⟨0, by simp, by simp [hc], by simp [hc], fun j h hj => by omega, fun h => hc⟩
    | true =>
      refine ⟨n + 1, by simp; omega, by simp [hc, h2], by simp [hc, h3], ?_, ?_⟩
      · intro j h hj
        cases j with
        | zero => exact hc
        | succ j => exact h4 j (by simpa using h) (by omega)
      · intro h
        exact h5 (by simpa using h)
theorem at_drop (s : ByteArray) (p j : Nat) (h : p + j < s.size) (h' : j < (s.data.toList.drop p).length) : (s.data.toList.drop p)[j] = s[p + j] := by
  rw [List.getElem_drop]; rfl

set_option maxHeartbeats 4000000 in
set_option maxRecDepth 100000 in
theorem refWords_any (s0 : ByteArray) (w : World) (hE : Env w) (hs : s0.size ≤ 1000000000) :
    Calls Tryd.prog 20 #[.string s0] w fun e w' => (∃ v, e = .returned v ∧ WordsV w' w.heap.size v (Txt.words s0.data.toList)) ∧ Below w.heap.size w w' := by
  obtain ⟨i0, hi, hz0, hz1, hz2⟩ := info_parts str_info
  have HE := Lib.hid hE
  go_enter Tryd.func20, Tryd.ntmps20
  go_wp2
  go_loopw [4, 5] (fun ov av wr => ∃ (p : Nat) (acc : List (List UInt8)), av = .int .i64 p ∧ wr.ownsRow w.heap.size 9 1 ov acc.length (strCells acc) ∧ Below w.heap.size w wr ∧ Env wr ∧
      Hid (Txt.words s0.data.toList = (Txt.words (s0.data.toList.drop p)).map (acc ++ ·)) ∧ acc.length ≤ p ∧ p ≤ s0.size) (fun _ av _ => s0.size - (intOf av).toNat)
  case atStart => exact ⟨0, [], rfl, World.ownsRow_nil _ _ _ _, Below.refl _ _, hE, Lib.hid (by simp), by simp, by omega⟩
  case round =>
    obtain ⟨p, acc, rfl, hown, hbw, hEr, HH, hal, hps⟩ := hrel
    have hbs := hbw.size
    by_cases hp : p < s0.size
    · have hdr := drop_head s0 p hp
      obtain ⟨c, hc0⟩ : ∃ c, s0[p] = c := ⟨_, rfl⟩
      rw [hc0] at hdr
      have HD := Lib.hid hdr
      have hcn : s0[p].toNat = c.toNat := by rw [hc0]
      clear hdr
      cases hb : Txt.blank c with
      | true =>
        have QF := Lib.hid (show Txt.words s0.data.toList = (Txt.words (s0.data.toList.drop (p + 1))).map (acc ++ ·) by rw [HH.out, HD.out, words_skip _ _ hb])
        have HB := Lib.hid hb
        clear hb hc0 HH
        go_wp2_with fail
        refine (blank_any c _).mono ?_
        rintro e w1 ⟨rfl, rfl⟩
        rw [HB.out]
        go_wp2
        exact ⟨⟨p + 1, acc, by go_num, hown, hbw, hEr, QF, by omega, by omega⟩, by simp [intOf]; omega⟩
      | false =>
        have HB := Lib.hid hb
        clear hb
        by_cases hc : c = 34
        · subst hc
          have hg34 : s0[p].toNat = 34 := hcn
          obtain ⟨S, hS⟩ : ∃ S, s0.extract p s0.size = S := ⟨_, rfl⟩
          have hSl : S.data.toList = 34 :: s0.data.toList.drop (p + 1) := by rw [← hS, Lib.extract_to_end, HD.out]
          have hSs : S.size = s0.size - p := by rw [← hS]; simp [ByteArray.size_extract]
          have HSL := Lib.hid hSl
          have hS1 : 1 ≤ S.size := by omega
          have hS2 : S.size ≤ s0.size - p := by omega
          have HEN0 := Lib.hid (fun w => quoted_any S w (by omega) (by omega))
          clear hcn hc0 hSl hSs
          cases he : Txt.endF false 1 (s0.data.toList.drop (p + 1)) with
          | none =>
            have HQ := Lib.hid (show Txt.words s0.data.toList = none by rw [HH.out, HD.out, words_open _ he]; rfl)
            have HEND := Lib.hid (fun w => (show Calls Tryd.prog 41 #[.string S] w fun e w' => e = .returned (.int .i64 (-1)) ∧ w = w' by
              have := HEN0.out w
              rw [HSL.out, show endOf (34 :: s0.data.toList.drop (p + 1)) = none from he] at this; exact this))
            clear HEN0 he
            go_wp2_with fail
            refine (blank_any 34 _).mono ?_
            rintro e w1 ⟨rfl, rfl⟩
            rw [HB.out]
            go_wp2_with fail
            refine (HEND.out _).mono ?_
            rintro e w1 ⟨rfl, rfl⟩
            go_wp2
            go_ret2
            exact ⟨⟨_, rfl, by rw [HQ.out]; rfl⟩, hbw⟩
          | some n =>
            have hn := endF_le _ false 1 n he
            obtain ⟨hn1, hn2⟩ := hn
            rw [List.length_drop, ← Lib.size_eq] at hn2
            have HEND := Lib.hid (fun w => (show Calls Tryd.prog 41 #[.string S] w fun e w' => e = .returned (.int .i64 (n : Int)) ∧ w = w' by
              have := HEN0.out w
              rw [HSL.out, show endOf (34 :: s0.data.toList.drop (p + 1)) = some n from he] at this; exact this))
            have HEN := Lib.hid he
            clear HEN0 he
            obtain ⟨m, hm⟩ : ∃ m, p + n = m := ⟨_, rfl⟩
            have hmi : (p : Int) + (n : Int) = (m : Int) := by omega
            have hm1 : p ≤ m := by omega
            have hm2 : m ≤ s0.size := by omega
            by_cases hns : m < s0.size
            · have hdr : (34 :: s0.data.toList.drop (p + 1)).drop n = s0[m] :: s0.data.toList.drop (m + 1) := by
                rw [← HD.out, List.drop_drop, hm]; exact drop_head s0 m hns
              obtain ⟨d, hd⟩ : ∃ d, s0[m] = d := ⟨_, rfl⟩
              rw [hd] at hdr
              have hdn : s0[m].toNat = d.toNat := by rw [hd]
              cases hb : Txt.blank d with
              | false =>
                have HQ := Lib.hid (show Txt.words s0.data.toList = none by rw [HH.out, HD.out, words_stuck _ n HEN.out (by rw [hdr]; simp [hb])]; rfl)
                have HBK := Lib.hid hb
                clear hd hdr hb
                go_wp2_with fail
                refine (blank_any 34 _).mono ?_
                rintro e w1 ⟨rfl, rfl⟩
                rw [HB.out]
                go_wp2_with fail
                refine (HEND.out _).mono ?_
                rintro e w1 ⟨rfl, rfl⟩
                go_wp2_with fail
                refine (blank_any d _).mono ?_
                rintro e w1 ⟨rfl, rfl⟩
                rw [HBK.out]
                go_wp2
                go_ret2
                exact ⟨⟨_, rfl, by rw [HQ.out]; rfl⟩, hbw⟩
              | true =>
                have HHD := Lib.hid (show ((34 :: s0.data.toList.drop (p + 1)).drop n).head?.any (fun x => !Txt.blank x) = false by rw [hdr]; simp [hb])
                have HBK := Lib.hid hb
                clear hd hdr hb
                obtain ⟨X, hX⟩ : ∃ X, s0.extract p m = X := ⟨_, rfl⟩
                have hXl : X.data.toList = (s0.data.toList.drop p).take (m - p) := by rw [← hX, Lib.extract_data]
                rw [show m - p = n by omega] at hXl
                have hXs : X.size ≤ 100000000000 := by rw [Lib.size_eq, hXl, List.length_take, List.length_drop, ← Lib.size_eq]; omega
                have HUN := Lib.hid (fun w hE => refUnquote_any X w hE hXs)
                have hu : Txt.unq Txt.dgR X.data.toList = Txt.unquote ((34 :: s0.data.toList.drop (p + 1)).take n) := by rw [hXl, HD.out]; rfl
                cases hq : Txt.unquote ((34 :: s0.data.toList.drop (p + 1)).take n) with
                | none =>
                  have HQ := Lib.hid (show Txt.words s0.data.toList = none by rw [HH.out, HD.out, words_wrong _ n HEN.out HHD.out hq]; rfl)
                  have HU := Lib.hid (fun w (hE : Env w) => (show Calls Tryd.prog 13 #[.string X] w fun e w' => e = .returned (.tuple #[.string ⟨#[]⟩, .int .i64 2]) ∧ Below w.heap.size w w' by have := HUN.out w hE; rw [hu, hq] at this; exact this))
                  clear hq hu hXl hXs HUN
                  go_wp2_with fail
                  refine (blank_any 34 _).mono ?_
                  rintro e w1 ⟨rfl, rfl⟩
                  rw [HB.out]
                  go_wp2_with fail
                  refine (HEND.out _).mono ?_
                  rintro e w1 ⟨rfl, rfl⟩
                  go_wp2_with fail
                  refine (blank_any d _).mono ?_
                  rintro e w1 ⟨rfl, rfl⟩
                  rw [HBK.out]
                  go_wp2_with fail
                  refine (HU.out _ hEr).mono ?_
                  rintro e w3 ⟨rfl, b3⟩
                  have hown3 := owns_next hown b3
                  have hbw3 := Below.up hbw (Nat.le_refl _) b3
                  have hE3 := hEr.next b3
                  go_wp2
                  go_ret2
                  exact ⟨⟨_, rfl, by rw [HQ.out]; rfl⟩, hbw3⟩
                | some wd =>
                  have HF := Lib.hid (show Txt.words s0.data.toList = (Txt.words (s0.data.toList.drop m)).map ((acc ++ [wd]) ++ ·) by
                    rw [HH.out, HD.out, words_quoted _ wd n HEN.out HHD.out hq, ← HD.out, List.drop_drop, hm, Option.map_map]
                    congr 1; funext x; simp)
                  have HU := Lib.hid (fun w (hE : Env w) => (show Calls Tryd.prog 13 #[.string X] w fun e w' => e = .returned (.tuple #[.string ⟨wd.toArray⟩, .int .i64 0]) ∧ Below w.heap.size w w' by have := HUN.out w hE; rw [hu, hq] at this; exact this))
                  clear hq hu hXl hXs HUN
                  go_wp2_with fail
                  refine (blank_any 34 _).mono ?_
                  rintro e w1 ⟨rfl, rfl⟩
                  rw [HB.out]
                  go_wp2_with fail
                  refine (HEND.out _).mono ?_
                  rintro e w1 ⟨rfl, rfl⟩
                  go_wp2_with fail
                  refine (blank_any d _).mono ?_
                  rintro e w1 ⟨rfl, rfl⟩
                  rw [HBK.out]
                  go_wp2_with fail
                  refine (HU.out _ hEr).mono ?_
                  rintro e w3 ⟨rfl, b3⟩
                  have hown3 := owns_next hown b3
                  have hbw3 := Below.up hbw (Nat.le_refl _) b3
                  have hE3 := hEr.next b3
                  have hb3s := hbw3.size
                  go_wp2_with (at_builtin; refine wpList_append_own _ rfl _ _ 32 rfl w.heap.size 9 i0 (.string ⟨#[]⟩) 1 16 Tryd.underlying32 hi hz0 hz1 hz2 rfl (by decide) _ _ _ rfl (hown3.alloc _) ⟨w3.heap.size, 0, none⟩ 1 1 [.string ⟨wd.toArray⟩] rfl rfl ?c1 ?c2 ?c3 ?c4 ?c5 ?_)
                  case c1 => exact cell_one_new _ _ _
                  case c2 => intro u hu; simp at hu; subst hu; rfl
                  case c3 => unfold maxLen; omega
                  case c4 => omega
                  case c5 => simp; omega
                  intro v' w9 hown' hgrow _
                  obtain ⟨q1, q2, q3, _⟩ := append_keeps hown3 hgrow hbw3 HE.out
                  have HO := Lib.hid (show w9.ownsRow w.heap.size 9 1 v' (acc ++ [wd]).length (strCells (acc ++ [wd])) by rw [strCells_snoc]; simpa using hown')
                  clear hown' hgrow
                  go_wp2
                  exact ⟨⟨m, _, by go_num, HO.out, q1, q2, HF, by simp; omega, by omega⟩, by simp [intOf]; omega⟩
            · have HHD := Lib.hid (show ((34 :: s0.data.toList.drop (p + 1)).drop n).head?.any (fun x => !Txt.blank x) = false by
                rw [← HD.out, List.drop_drop, List.drop_eq_nil_of_le (by rw [← Lib.size_eq]; omega)]; rfl)
              obtain ⟨X, hX⟩ : ∃ X, s0.extract p m = X := ⟨_, rfl⟩
              have hXl : X.data.toList = (s0.data.toList.drop p).take (m - p) := by rw [← hX, Lib.extract_data]
              rw [show m - p = n by omega] at hXl
              have hXs : X.size ≤ 100000000000 := by rw [Lib.size_eq, hXl, List.length_take, List.length_drop, ← Lib.size_eq]; omega
              have HUN := Lib.hid (fun w hE => refUnquote_any X w hE hXs)
              have hu : Txt.unq Txt.dgR X.data.toList = Txt.unquote ((34 :: s0.data.toList.drop (p + 1)).take n) := by rw [hXl, HD.out]; rfl
              cases hq : Txt.unquote ((34 :: s0.data.toList.drop (p + 1)).take n) with
              | none =>
                have HQ := Lib.hid (show Txt.words s0.data.toList = none by rw [HH.out, HD.out, words_wrong _ n HEN.out HHD.out hq]; rfl)
                have HU := Lib.hid (fun w (hE : Env w) => (show Calls Tryd.prog 13 #[.string X] w fun e w' => e = .returned (.tuple #[.string ⟨#[]⟩, .int .i64 2]) ∧ Below w.heap.size w w' by have := HUN.out w hE; rw [hu, hq] at this; exact this))
                clear hq hu hXl hXs HUN
                go_wp2_with fail
                refine (blank_any 34 _).mono ?_
                rintro e w1 ⟨rfl, rfl⟩
                rw [HB.out]
                go_wp2_with fail
                refine (HEND.out _).mono ?_
                rintro e w1 ⟨rfl, rfl⟩
                go_wp2_with fail
                refine (HU.out _ hEr).mono ?_
                rintro e w3 ⟨rfl, b3⟩
                have hown3 := owns_next hown b3
                have hbw3 := Below.up hbw (Nat.le_refl _) b3
                have hE3 := hEr.next b3
                go_wp2
                go_ret2
                exact ⟨⟨_, rfl, by rw [HQ.out]; rfl⟩, hbw3⟩
              | some wd =>
                have HF := Lib.hid (show Txt.words s0.data.toList = (Txt.words (s0.data.toList.drop m)).map ((acc ++ [wd]) ++ ·) by
                  rw [HH.out, HD.out, words_quoted _ wd n HEN.out HHD.out hq, ← HD.out, List.drop_drop, hm, Option.map_map]
                  congr 1; funext x; simp)
                have HU := Lib.hid (fun w (hE : Env w) => (show Calls Tryd.prog 13 #[.string X] w fun e w' => e = .returned (.tuple #[.string ⟨wd.toArray⟩, .int .i64 0]) ∧ Below w.heap.size w w' by have := HUN.out w hE; rw [hu, hq] at this; exact this))
                clear hq hu hXl hXs HUN
                go_wp2_with fail
                refine (blank_any 34 _).mono ?_
                rintro e w1 ⟨rfl, rfl⟩
                rw [HB.out]
                go_wp2_with fail
                refine (HEND.out _).mono ?_
                rintro e w1 ⟨rfl, rfl⟩
                go_wp2_with fail
                refine (HU.out _ hEr).mono ?_
                rintro e w3 ⟨rfl, b3⟩
                have hown3 := owns_next hown b3
                have hbw3 := Below.up hbw (Nat.le_refl _) b3
                have hE3 := hEr.next b3
                have hb3s := hbw3.size
                go_wp2_with (at_builtin; refine wpList_append_own _ rfl _ _ 32 rfl w.heap.size 9 i0 (.string ⟨#[]⟩) 1 16 Tryd.underlying32 hi hz0 hz1 hz2 rfl (by decide) _ _ _ rfl (hown3.alloc _) ⟨w3.heap.size, 0, none⟩ 1 1 [.string ⟨wd.toArray⟩] rfl rfl ?c1 ?c2 ?c3 ?c4 ?c5 ?_)
                case c1 => exact cell_one_new _ _ _
                case c2 => intro u hu; simp at hu; subst hu; rfl
                case c3 => unfold maxLen; omega
                case c4 => omega
                case c5 => simp; omega
                intro v' w9 hown' hgrow _
                obtain ⟨q1, q2, q3, _⟩ := append_keeps hown3 hgrow hbw3 HE.out
                have HO := Lib.hid (show w9.ownsRow w.heap.size 9 1 v' (acc ++ [wd]).length (strCells (acc ++ [wd])) by rw [strCells_snoc]; simpa using hown')
                clear hown' hgrow
                go_wp2
                exact ⟨⟨m, _, by go_num, HO.out, q1, q2, HF, by simp; omega, by omega⟩, by simp [intOf]; omega⟩
        · have nc : ((c.toNat : Int) == 34) = false := byte_ne _ 34 hc
          obtain ⟨n, hn1, htw, hdw, hin, hout⟩ := tw_split (fun x => !Txt.blank x) (s0.data.toList.drop p)
          have hll : (s0.data.toList.drop p).length = s0.size - p := by rw [List.length_drop, ← Lib.size_eq]
          have hn0 : 1 ≤ n := by
            rcases Nat.eq_zero_or_pos n with h | h
            · subst h
              have := hout (by omega)
              rw [at_drop s0 p 0 (by omega)] at this
              simp only [Nat.add_zero, hc0, HB.out] at this
              cases this
            · exact h
          rw [hll] at hn1
          have HIN := Lib.hid (fun j (hj : j < n) => (show Txt.blank (s0[p + j]'(by omega)) = false by
            have := hin j (by omega) hj
            rw [at_drop s0 p j (by omega)] at this
            simpa using this))
          have HOUT := Lib.hid (fun (h : p + n < s0.size) => (show Txt.blank s0[p + n] = true by
            have := hout (by omega)
            rw [at_drop s0 p n h] at this
            simpa using this))
          have HBAD := Lib.hid (fun (h : (34 : UInt8) ∈ (s0.data.toList.drop p).take n) => (show Txt.words s0.data.toList = none by
            rw [HH.out, HD.out, words_bad _ _ HB.out hc (by rw [← HD.out, htw]; exact h)]; rfl))
          have HOK := Lib.hid (fun (h : (34 : UInt8) ∉ (s0.data.toList.drop p).take n) => (show Txt.words s0.data.toList = (Txt.words (s0.data.toList.drop (p + n))).map ((acc ++ [(s0.data.toList.drop p).take n]) ++ ·) by
            rw [HH.out, HD.out, words_bare _ _ HB.out hc (by rw [← HD.out, htw]; exact h), ← HD.out, htw, hdw, List.drop_drop, Option.map_map]
            congr 1; funext x; simp))
          have HTK := Lib.hid (fun j (hj : j < n) => (show (s0.data.toList.drop p).take (j + 1) = (s0.data.toList.drop p).take j ++ [s0[p + j]'(by omega)] by
            rw [List.take_succ_eq_append_getElem (by omega), at_drop s0 p j (by omega)]))
          clear htw hdw hin hout hc0 HH hc
          go_wp2_with fail
          refine (blank_any c _).mono ?_
          rintro e w1 ⟨rfl, rfl⟩
          rw [HB.out]
          go_wp2
          go_loopw [9] (fun ev W => wr = W ∧ ∃ k : Nat, ev = .int .i64 ((p + k : Nat) : Int) ∧ k ≤ n ∧ Hid ((34 : UInt8) ∉ (s0.data.toList.drop p).take k)) (fun ev _ => s0.size - (intOf ev).toNat)
          case atStart => exact ⟨rfl, 0, by simp, by omega, Lib.hid (by simp)⟩
          case round =>
            obtain ⟨rfl, k, rfl, hk, HN⟩ := hrel
            by_cases hkn : k < n
            · have hlt : p + k < s0.size := by omega
              have hbk := HIN.out k hkn
              have htk := HTK.out k hkn
              obtain ⟨d, hd⟩ : ∃ d, s0[p + k] = d := ⟨_, rfl⟩
              rw [hd] at hbk htk
              have hdn : s0[p + k].toNat = d.toNat := by rw [hd]
              have HBK := Lib.hid hbk; have HT := Lib.hid htk
              clear hbk htk hd
              by_cases hd34 : d = 34
              · have HQ := Lib.hid (HBAD.out (by
                  have h1 : (34 : UInt8) ∈ (s0.data.toList.drop p).take (k + 1) := by rw [HT.out, hd34]; simp
                  exact List.Sublist.mem h1 (List.take_sublist_take_left (by omega))))
                subst hd34
                go_wp2_with fail
                refine (blank_any 34 _).mono ?_
                rintro e w1 ⟨rfl, rfl⟩
                rw [HBK.out]
                go_wp2
                go_ret2
                exact ⟨⟨_, rfl, by rw [HQ.out]; rfl⟩, hbw⟩
              · have nd : ((d.toNat : Int) == 34) = false := byte_ne _ 34 hd34
                have HN2 := Lib.hid (show (34 : UInt8) ∉ (s0.data.toList.drop p).take (k + 1) by
                  rw [HT.out, List.mem_append]; intro h
                  rcases h with h | h
                  · exact HN.out h
                  · simp at h; exact hd34 h.symm)
                clear hd34
                go_wp2_with fail
                refine (blank_any d _).mono ?_
                rintro e w1 ⟨rfl, rfl⟩
                rw [HBK.out]
                go_wp2
                exact ⟨⟨by trivial, k + 1, by go_num, by omega, HN2⟩, by simp [intOf]; omega⟩
            · have hkn2 : k = n := by omega
              subst hkn2
              have hF := HOK.out HN.out
              clear HOK HN HBAD HTK HIN
              by_cases hnp : p + k < s0.size
              · have hbk := HOUT.out hnp
                obtain ⟨d, hd⟩ : ∃ d, s0[p + k] = d := ⟨_, rfl⟩
                rw [hd] at hbk
                have hdn : s0[p + k].toNat = d.toNat := by rw [hd]
                have HBK := Lib.hid hbk
                clear hbk hd HOUT
                go_wp2_with fail
                refine (blank_any d _).mono ?_
                rintro e w1 ⟨rfl, rfl⟩
                rw [HBK.out]
                obtain ⟨m, hm⟩ : ∃ m, p + k = m := ⟨_, rfl⟩
                have hm1 : p ≤ m := by omega
                have hm2 : m ≤ s0.size := by omega
                rw [hm] at hF
                obtain ⟨X, hX⟩ : ∃ X, s0.extract p m = X := ⟨_, rfl⟩
                have hXl : X.data.toList = (s0.data.toList.drop p).take (m - p) := by rw [← hX, Lib.extract_data]
                rw [show m - p = k by omega] at hXl
                rw [← hXl] at hF
                have HF := Lib.hid hF
                clear hF hXl
                go_wp2_with (at_builtin; refine wpList_append_own _ rfl _ _ 32 rfl w.heap.size 9 i0 (.string ⟨#[]⟩) 1 16 Tryd.underlying32 hi hz0 hz1 hz2 rfl (by decide) _ _ _ rfl (hown.alloc _) ⟨wr.heap.size, 0, none⟩ 1 1 [.string X] rfl rfl ?c1 ?c2 ?c3 ?c4 ?c5 ?_)
                case c1 => exact cell_one_new _ _ _
                case c2 => intro u hu; simp at hu; subst hu; rfl
                case c3 => unfold maxLen; omega
                case c4 => omega
                case c5 => simp; omega
                intro v' w9 hown' hgrow _
                obtain ⟨q1, q2, q3, _⟩ := append_keeps hown hgrow hbw HE.out
                have HO := Lib.hid (show w9.ownsRow w.heap.size 9 1 v' (acc ++ [X.data.toList]).length (strCells (acc ++ [X.data.toList])) by rw [strCells_snoc]; simpa using hown')
                clear hown' hgrow
                go_wp2
                exact ⟨⟨m, _, by go_num, HO.out, q1, q2, HF, by simp; omega, by omega⟩, by simp [intOf]; omega⟩
              · obtain ⟨m, hm⟩ : ∃ m, p + k = m := ⟨_, rfl⟩
                have hm1 : p ≤ m := by omega
                have hm2 : m ≤ s0.size := by omega
                have hm3 : ¬ m < s0.size := by omega
                rw [hm] at hF
                clear HOUT
                obtain ⟨X, hX⟩ : ∃ X, s0.extract p m = X := ⟨_, rfl⟩
                have hXl : X.data.toList = (s0.data.toList.drop p).take (m - p) := by rw [← hX, Lib.extract_data]
                rw [show m - p = k by omega] at hXl
                rw [← hXl] at hF
                have HF := Lib.hid hF
                clear hF hXl
                go_wp2_with (at_builtin; refine wpList_append_own _ rfl _ _ 32 rfl w.heap.size 9 i0 (.string ⟨#[]⟩) 1 16 Tryd.underlying32 hi hz0 hz1 hz2 rfl (by decide) _ _ _ rfl (hown.alloc _) ⟨wr.heap.size, 0, none⟩ 1 1 [.string X] rfl rfl ?c1 ?c2 ?c3 ?c4 ?c5 ?_)
                case c1 => exact cell_one_new _ _ _
                case c2 => intro u hu; simp at hu; subst hu; rfl
                case c3 => unfold maxLen; omega
                case c4 => omega
                case c5 => simp; omega
                intro v' w9 hown' hgrow _
                obtain ⟨q1, q2, q3, _⟩ := append_keeps hown hgrow hbw HE.out
                have HO := Lib.hid (show w9.ownsRow w.heap.size 9 1 v' (acc ++ [X.data.toList]).length (strCells (acc ++ [X.data.toList])) by rw [strCells_snoc]; simpa using hown')
                clear hown' hgrow
                go_wp2
                exact ⟨⟨m, _, by go_num, HO.out, q1, q2, HF, by simp; omega, by omega⟩, by simp [intOf]; omega⟩
    · have HQ := Lib.hid (show Txt.words s0.data.toList = some acc by rw [HH.out, List.drop_eq_nil_of_le (by rw [← Lib.size_eq]; omega), words_nil [] rfl]; simp)
      clear HH
      go_wp2
      go_ret2
      exact ⟨⟨_, rfl, by rw [HQ.out]; exact ⟨_, rfl, hown⟩⟩, hbw⟩
end Go.Proofs.YthnhnaaihhagaaaDoor
