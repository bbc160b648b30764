/-
  The walks of segment.Name and Number, and of the reference's Decimal, Name, Number.
-/
import Derived.Test.YthmblkckpdpjkaaGreatDoorSegN
import Derived.Test.YthmblkckpdpjkaaGreatDoorEnv
namespace Go.Proofs.YthmblkckpdpjkaaGreatDoor
open Go.RowKit Go.Shelf

theorem ret_str {a b : List UInt8} (h : a = b) : Ending.returned (Value.string ⟨a.toArray⟩) = Ending.returned (Value.string ⟨b.toArray⟩) := by rw [h]

set_option maxHeartbeats 2000000 in
theorem segName_any (n : Int) (w : World) (hE : Env w) :
    Calls Tryz.prog 10 #[.int .i64 n] w fun e w' => e = .returned (.string ⟨(Seg.nameOf n).toArray⟩) ∧ Below w.heap.size w w' := by
  by_cases h1 : n < 1
  · have HN := Lib.hid (show Seg.nameOf n = [] by unfold Seg.nameOf; rw [if_neg (by omega)])
    go_enter Tryz.func10, Tryz.ntmps10
    go_wp2
    go_ret
    exact ⟨by rw [HN.out]; rfl, Below.refl _ _⟩
  · by_cases h2 : n > 1073741824
    · have HN := Lib.hid (show Seg.nameOf n = [] by unfold Seg.nameOf; rw [if_neg (by omega)])
      go_enter Tryz.func10, Tryz.ntmps10
      go_wp2
      go_ret
      exact ⟨by rw [HN.out]; rfl, Below.refl _ _⟩
    · have HN := Lib.hid (show Seg.nameOf n = [115, 101, 103, 45] ++ Lib.itoa n by unfold Seg.nameOf Lib.itoa; rw [if_pos (by omega), if_neg (by omega)])
      have HI := Lib.hid (itoa_any n (by omega) (by omega) w hE)
      go_enter Tryz.func10, Tryz.ntmps10
      go_wp2_with fail
      refine HI.out.mono ?_
      rintro e w1 ⟨rfl, hb1⟩
      have hil : (Lib.itoa n).length ≤ 10 := by
        unfold Lib.itoa; rw [if_neg (by omega)]; exact Seg.dec_len 9 _ (by omega)
      go_wp2
      go_ret
      exact ⟨by rw [HN.out]; exact congrArg (fun z => Ending.returned (Value.string z)) (by apply ByteArray.ext; simp), hb1⟩

/-- Whether the loop of Decimal ends: the text that it makes. -/
def restD (m : Nat) (acc : List UInt8) : List UInt8 := if m = 0 ∧ acc ≠ [] then acc else Lib.decDigits m ++ acc
def emptyV : Value → Nat
  | .string s => if s.data.toList = [] then 1 else 0
  | _ => 0
theorem restD_step (m : Nat) (acc : List UInt8) (h : ¬ (m = 0 ∧ acc ≠ [])) : restD (m / 10) (UInt8.ofNat (48 + m % 10) :: acc) = restD m acc := by
  unfold restD
  rw [if_neg h]
  by_cases h1 : m / 10 = 0
  · rw [if_pos ⟨h1, by simp⟩, Lib.decDigits, dif_pos (by omega)]
    have : m % 10 = m := by omega
    rw [this]; rfl
  · rw [if_neg (by simp [h1])]
    conv => rhs; rw [Lib.decDigits]
    rw [dif_neg (by omega)]; simp
theorem digit_cut (d : Nat) (h : d < 10) : (⟨#[48, 49, 50, 51, 52, 53, 54, 55, 56, 57]⟩ : ByteArray).extract d (d + 1) = ⟨#[UInt8.ofNat (48 + d)]⟩ := by
  rcases Nat.lt_or_ge d 5 with h5 | h5
  · match d, h5 with
    | 0, _ => rfl
    | 1, _ => rfl
    | 2, _ => rfl
    | 3, _ => rfl
    | 4, _ => rfl
  · match d, h5, h with
    | 5, _, _ => rfl
    | 6, _, _ => rfl
    | 7, _, _ => rfl
    | 8, _, _ => rfl
    | 9, _, _ => rfl

set_option maxHeartbeats 2000000 in
theorem decimal_any (n : Nat) (w : World) (hn : n ≤ 1073741824) :
    Calls Tryz.prog 36 #[.int .i64 n] w fun e w' => e = .returned (.string ⟨(Lib.decDigits n).toArray⟩) ∧ w' = w := by
  go_enter Tryz.func36, Tryz.ntmps36
  go_wp2_with fail
  go_loopw [0, 3] (fun nv sv wr => ∃ (m : Nat) (acc : List UInt8), nv = .int .i64 m ∧ sv = .string ⟨acc.toArray⟩ ∧ m ≤ 1073741824 ∧ wr = w ∧ restD m acc = Lib.decDigits n) (fun nv sv _ => 2 * (intOf nv).toNat + emptyV sv)
  case atStart => exact ⟨n, [], rfl, rfl, hn, rfl, by simp [restD]⟩
  case round =>
    obtain ⟨m, acc, rfl, rfl, hm, rfl, hr⟩ := hrel
    have hal : acc.length ≤ 10 := by
      have h0 := congrArg List.length hr
      have h1 := Seg.dec_len 9 n (by omega)
      unfold restD at h0
      split at h0
      · omega
      · rw [List.length_append] at h0; omega
    have HR := Lib.hid hr
    clear hr
    by_cases hz : 0 < m
    · have hp : (m : Int) > 0 := by omega
      have HS := Lib.hid (restD_step m acc (by omega))
      have HD := Lib.hid (digit_cut (m % 10) (by omega))
      go_wp2
      have hcat : (⟨#[UInt8.ofNat (48 + m % 10)]⟩ : ByteArray) ++ ⟨acc.toArray⟩ = ⟨(UInt8.ofNat (48 + m % 10) :: acc).toArray⟩ := by apply ByteArray.ext; simp
      refine ⟨⟨m / 10, UInt8.ofNat (48 + m % 10) :: acc, by go_num, ?_, by omega, trivial, by rw [HS.out, HR.out]⟩, ?_⟩
      · rw [HD.out, hcat]
      · rw [HD.out, hcat]; simp [intOf, emptyV]; omega
    · obtain rfl : m = 0 := by omega
      match acc, HR with
      | [], HR =>
        have HS := Lib.hid (restD_step 0 [] (by simp))
        go_wp2
        refine ⟨⟨0, [UInt8.ofNat 48], rfl, rfl, by omega, trivial, by rw [← HR.out]; exact HS.out⟩, by simp [intOf, emptyV]⟩
      | c :: acc, HR =>
        have HS := Lib.hid (show c :: acc = Lib.decDigits n by rw [← HR.out]; simp [restD])
        have hne : ((⟨(c :: acc).toArray⟩ : ByteArray) == ⟨#[]⟩) = false := by
          rfl
        go_wp2
        go_ret
        exact ⟨ret_str HS.out, rfl⟩

theorem name_join (n : Nat) : (⟨#[115, 101, 103, 45]⟩ : ByteArray) ++ ⟨(Lib.decDigits n).toArray⟩ = ⟨([115, 101, 103, 45] ++ Lib.decDigits n).toArray⟩ := by apply ByteArray.ext; simp
set_option maxHeartbeats 2000000 in
theorem refSegName_any (n : Int) (w : World) :
    Calls Tryz.prog 11 #[.int .i64 n] w fun e w' => e = .returned (.string ⟨(Seg.nameOf n).toArray⟩) ∧ w' = w := by
  by_cases h1 : n < 1
  · have HN := Lib.hid (show Seg.nameOf n = [] by unfold Seg.nameOf; rw [if_neg (by omega)])
    go_enter Tryz.func11, Tryz.ntmps11
    go_wp2
    go_ret
    exact ⟨by rw [HN.out]; rfl, rfl⟩
  · by_cases h2 : n > 1073741824
    · have HN := Lib.hid (show Seg.nameOf n = [] by unfold Seg.nameOf; rw [if_neg (by omega)])
      go_enter Tryz.func11, Tryz.ntmps11
      go_wp2
      go_ret
      exact ⟨by rw [HN.out]; rfl, rfl⟩
    · obtain ⟨m, rfl⟩ : ∃ m : Nat, n = m := ⟨n.toNat, by omega⟩
      have HN := Lib.hid (show Seg.nameOf m = [115, 101, 103, 45] ++ Lib.decDigits m by unfold Seg.nameOf; rw [if_pos (by omega)]; rfl)
      have HI := Lib.hid (decimal_any m w (by omega))
      have hil : (Lib.decDigits m).length ≤ 10 := Seg.dec_len 9 _ (by omega)
      go_enter Tryz.func11, Tryz.ntmps11
      go_wp2_with fail
      refine HI.out.mono ?_
      rintro e w1 ⟨rfl, rfl⟩
      go_wp2
      go_ret
      exact ⟨by rw [HN.out, ← name_join]; rfl, rfl⟩

/-! ### The number of a name -/
theorem isNum_ok {s : List UInt8} {v : Int} (hn : Seg.nameOf v = s) (h0 : s ≠ []) : v = Seg.numberOf s := by
  apply Seg.isNum_eq
  refine .inl ?_
  have : 1 ≤ v ∧ v ≤ 1073741824 := by
    apply Classical.byContradiction; intro g
    unfold Seg.nameOf at hn; rw [if_neg g] at hn; exact h0 hn.symm
  exact ⟨this.1, this.2, hn⟩
theorem trim_of_name {s : List UInt8} {m : Int} (h1 : 1 ≤ m) (h2 : m ≤ 1073741824) (h : Seg.nameOf m = s) : Lib.atoiAll (Lib.trimPrefix s [115, 101, 103, 45]) = .ok m := by
  obtain ⟨e1, e2⟩ := Seg.trim_name m h1 h2
  rw [h] at e1 e2
  have hp : Lib.hasPrefix s [115, 101, 103, 45] = true := by
    unfold Lib.hasPrefix
    rw [List.isPrefixOf_iff_prefix]
    exact List.prefix_iff_eq_take.2 e2.symm
  unfold Lib.trimPrefix
  rw [if_pos hp, show ([115, 101, 103, 45] : List UInt8).length = 4 from rfl, e1, Seg.atoi_dec _ (by omega)]
  congr 1; omega
theorem isNum_bad {s : List UInt8} {v : Int} (h : Lib.atoiAll (Lib.trimPrefix s [115, 101, 103, 45]) = .ok v) (hn : ¬ (Seg.nameOf v = s)) : (0 : Int) = Seg.numberOf s := by
  apply Seg.isNum_eq
  refine .inr ⟨rfl, fun m h1 h2 g => ?_⟩
  have := trim_of_name h1 h2 g
  rw [h] at this
  injection this with this
  subst this
  exact hn g
theorem isNum_not {s : List UInt8} (h : ∀ v, Lib.atoiAll (Lib.trimPrefix s [115, 101, 103, 45]) ≠ .ok v) : (0 : Int) = Seg.numberOf s := by
  apply Seg.isNum_eq
  refine .inr ⟨rfl, fun m h1 h2 g => ?_⟩
  exact h m (trim_of_name h1 h2 g)

set_option maxHeartbeats 2000000 in
theorem segNumber_any (s : ByteArray) (w : World) (hE : Env w) (hs : s.size ≤ 281474976710656) :
    Calls Tryz.prog 12 #[.string s] w fun e w' => e = .returned (.int .i64 (Seg.numberOf s.data.toList)) ∧ Below w.heap.size w w' := by
  have HT := Lib.hid (Tryz.strings_TrimPrefix s ⟨#[115, 101, 103, 45]⟩ w)
  have hts : (⟨(Lib.trimPrefix s.data.toList [115, 101, 103, 45]).toArray⟩ : ByteArray).size ≤ 281474976710656 := by
    rw [Lib.size_eq]; rw [Lib.size_eq] at hs
    simp only [Lib.trimPrefix]
    split
    · simp only [List.length_drop]; omega
    · exact hs
  cases ha : Lib.atoiAll (Lib.trimPrefix s.data.toList [115, 101, 103, 45]) with
  | ok v =>
    have HO := Lib.hid (Tryz.strconv_Atoi_ok ⟨(Lib.trimPrefix s.data.toList [115, 101, 103, 45]).toArray⟩ (by omega) v ha w)
    have HA := Lib.hid ha
    clear ha hts
    go_enter Tryz.func12, Tryz.ntmps12
    go_wp2_with fail
    refine HT.out.mono ?_
    rintro e w0 ⟨rfl, h0⟩
    obtain rfl := h0.symm
    go_wp2_with fail
    refine HO.out.mono ?_
    rintro e w1 ⟨rfl, hw1⟩
    have hb1 : Below w.heap.size w w1 := by
      rcases hw1 with rfl | ⟨t, rfl⟩
      · exact Below.refl _ _
      · exact Lib.bytesWorld_below w _ t
    clear hw1 HT HO
    have HI := Lib.hid (segName_any v w1 (hE.next hb1))
    go_wp2_with fail
    refine HI.out.mono ?_
    rintro e w2 ⟨rfl, b2⟩
    have hb2 := Below.up hb1 (Nat.le_refl _) b2
    clear HI b2
    cases hc : (Seg.nameOf v == s.toList) with
    | false =>
      have HN := Lib.hid (isNum_bad HA.out (by rw [Lib.toList_data, beq_eq_false_iff_ne] at hc; exact hc))
      clear HA
      go_wp2
      go_ret
      exact ⟨congrArg (fun z => Ending.returned (Value.int .i64 z)) HN.out, hb2⟩
    | true =>
      rw [Lib.toList_data, beq_iff_eq] at hc
      have hs0 : s.data.toList ≠ [] := by
        intro h0
        have := HA.out
        rw [h0] at this
        cases this
      have HN := Lib.hid (isNum_ok hc hs0)
      have hcb : (Seg.nameOf v == s.toList) = true := by rw [Lib.toList_data, beq_iff_eq]; exact hc
      clear HA hs0 hc
      go_wp2
      go_ret
      exact ⟨congrArg (fun z => Ending.returned (Value.int .i64 z)) HN.out, hb2⟩
  | range =>
    have HA := Lib.hid ha
    obtain ⟨te, pe, he⟩ := hE.erng
    have HO := Lib.hid (Tryz.strconv_Atoi_range ⟨(Lib.trimPrefix s.data.toList [115, 101, 103, 45]).toArray⟩ (by omega) ha _ w he (.inr ⟨_, _, rfl⟩))
    clear ha hts
    go_enter Tryz.func12, Tryz.ntmps12
    go_wp2_with fail
    refine HT.out.mono ?_
    rintro e w0 ⟨rfl, h0⟩
    obtain rfl := h0.symm
    go_wp2_with fail
    refine HO.out.mono ?_
    rintro e w1 ⟨N, rfl, _, _, hb1⟩
    clear HT HO
    go_wp2
    go_ret
    exact ⟨congrArg (fun z => Ending.returned (Value.int .i64 z)) (isNum_not (fun v h => by rw [HA.out] at h; cases h)), hb1⟩
  | _ =>
    have HA := Lib.hid ha
    obtain ⟨te, pe, he⟩ := hE.esyn
    have HO := Lib.hid (Any.strconv_Atoi_syntax Tryz.laysC172 ⟨(Lib.trimPrefix s.data.toList [115, 101, 103, 45]).toArray⟩ (by omega) ha _ w he (.inr ⟨_, _, rfl⟩))
    clear ha hts
    go_enter Tryz.func12, Tryz.ntmps12
    go_wp2_with fail
    refine HT.out.mono ?_
    rintro e w0 ⟨rfl, h0⟩
    obtain rfl := h0.symm
    go_wp2_with fail
    refine HO.out.mono ?_
    rintro e w1 ⟨N, rfl, _, _, hb1⟩
    clear HT HO
    go_wp2
    go_ret
    exact ⟨congrArg (fun z => Ending.returned (Value.int .i64 z)) (isNum_not (fun v h => by rw [HA.out] at h; cases h)), hb1⟩

/-! ### .. of the reference -/
theorem decFrom_dec : ∀ (n : Nat) (r : List UInt8), Lib.decFrom 0 (Lib.decDigits n ++ r) = Lib.decFrom n r := by
  intro n
  induction n using Nat.strongRecOn with
  | ind n ih =>
    intro r
    rw [Lib.decDigits]
    by_cases h1 : n < 10
    · rw [dif_pos h1]
      have e := Seg.digit_nat n h1
      simp only [List.singleton_append, Lib.decFrom, Lib.digitVal]
      rw [e, if_pos (by omega)]
      simp only; congr 1; omega
    · rw [dif_neg h1, List.append_assoc, ih (n / 10) (by omega)]
      have e := Seg.digit_nat (n % 10) (by omega)
      simp only [List.singleton_append, Lib.decFrom, Lib.digitVal]
      rw [e, if_pos (by omega)]
      simp only; congr 1; omega
theorem dec_of_name {s : List UInt8} {m : Int} (h1 : 1 ≤ m) (h2 : m ≤ 1073741824) (h : Seg.nameOf m = s) : Lib.decFrom 0 (s.drop 4) = some m.toNat := by
  rw [← h, (Seg.trim_name m h1 h2).1]
  have := decFrom_dec m.toNat []
  rwa [List.append_nil] at this
theorem refNum_not {s : List UInt8} (h : ∀ m : Int, 1 ≤ m → m ≤ 1073741824 → Seg.nameOf m ≠ s) : (0 : Int) = Seg.numberOf s := Seg.isNum_eq (.inr ⟨rfl, h⟩)
theorem refNum_none {s : List UInt8} (h : Lib.decFrom 0 (s.drop 4) = none) : (0 : Int) = Seg.numberOf s := refNum_not fun m h1 h2 g => by
  rw [dec_of_name h1 h2 g] at h; cases h
theorem refNum_bad {s : List UInt8} {n : Nat} (h : Lib.decFrom 0 (s.drop 4) = some n) (hn : ¬ Seg.nameOf n = s) : (0 : Int) = Seg.numberOf s := refNum_not fun m h1 h2 g => by
  rw [dec_of_name h1 h2 g] at h
  injection h with h
  apply hn
  rw [← h, show ((m.toNat : Nat) : Int) = m by omega]; exact g
theorem refNum_ok {s : List UInt8} {v : Int} (hn : Seg.nameOf v = s) (h0 : s ≠ []) : v = Seg.numberOf s := isNum_ok hn h0
theorem refNum_len {s : List UInt8} (h : s.length < 5 ∨ 14 < s.length) : (0 : Int) = Seg.numberOf s := refNum_not fun m h1 h2 g => by
  have a := Seg.name_len m
  have b := Seg.name_min m h1 h2
  rw [g] at a b; omega
theorem refNum_head {s : List UInt8} (h : ¬ s.take 4 = [115, 101, 103, 45]) : (0 : Int) = Seg.numberOf s := refNum_not fun m h1 h2 g => by
  have := (Seg.trim_name m h1 h2).2
  rw [g] at this; exact h this

set_option maxHeartbeats 2000000 in
set_option maxRecDepth 100000 in
theorem refNumber_any (s : ByteArray) (w : World) :
    Calls Tryz.prog 13 #[.string s] w fun e w' => e = .returned (.int .i64 (Seg.numberOf s.data.toList)) ∧ w' = w := by
  have hz := Lib.size_eq s
  by_cases h5 : s.size < 5
  · have HN := Lib.hid (refNum_len (s := s.data.toList) (by omega))
    clear hz
    go_enter Tryz.func13, Tryz.ntmps13
    go_wp2
    go_ret
    exact ⟨congrArg (fun z => Ending.returned (Value.int .i64 z)) HN.out, rfl⟩
  by_cases h14 : 14 < s.size
  · have HN := Lib.hid (refNum_len (s := s.data.toList) (by omega))
    clear hz
    go_enter Tryz.func13, Tryz.ntmps13
    go_wp2
    go_ret
    exact ⟨congrArg (fun z => Ending.returned (Value.int .i64 z)) HN.out, rfl⟩
  cases hc : (s.data.toList.take 4 == [115, 101, 103, 45]) with
  | false =>
    have h4 : ((s.extract 0 4).toList == [115, 101, 103, 45]) = false := by rw [Lib.toList_data, Lib.extract_data, ← hc]; simp

    have HN := Lib.hid (refNum_head (s := s.data.toList) (by rw [beq_eq_false_iff_ne] at hc; exact hc))
    clear hz
    go_enter Tryz.func13, Tryz.ntmps13
    go_wp2
    go_ret
    exact ⟨congrArg (fun z => Ending.returned (Value.int .i64 z)) HN.out, rfl⟩
  | true =>
    have h4 : ((s.extract 0 4).toList == [115, 101, 103, 45]) = true := by rw [Lib.toList_data, Lib.extract_data, ← hc]; simp
    have HZ := Lib.hid hz
    clear hc hz
    go_enter Tryz.func13, Tryz.ntmps13
    go_wp2
    go_loopw [3, 4] (fun nv iv wr => ∃ (n i : Nat), nv = .int .i64 n ∧ iv = .int .i64 i ∧ 4 ≤ i ∧ i ≤ s.size ∧ n + 1 ≤ 10 ^ (i - 4) ∧ wr = w ∧ Lib.decFrom 0 (s.data.toList.drop 4) = Lib.decFrom n (s.data.toList.drop i)) (fun _ iv _ => s.size - (intOf iv).toNat)
    case atStart => exact ⟨0, 4, rfl, rfl, by omega, by omega, by omega, rfl, rfl⟩
    case round =>
      obtain ⟨n, i, rfl, rfl, hi4, hi, hn, rfl, hr⟩ := hrel
      have hz := HZ.out
      have hn' : n + 1 ≤ 10000000000 := Nat.le_trans hn (Nat.pow_le_pow_right (n := 10) (j := 10) (by omega) (by omega))
      have HR := Lib.hid hr
      have HP := Lib.hid hn
      by_cases hp : i < s.size
      · have hd := drop_head s i hp
        rw [hd, Lib.decFrom, Lib.digitVal] at hr
        by_cases hx : s[i].toNat < 48
        · have HN := Lib.hid (refNum_none (hr.trans (by rw [if_neg (by omega)])))
          clear hr hn hz hd HR
          go_wp2
          go_ret
          exact ⟨congrArg (fun z => Ending.returned (Value.int .i64 z)) HN.out, rfl⟩
        · by_cases hy : 57 < s[i].toNat
          · have HN := Lib.hid (refNum_none (hr.trans (by rw [if_neg (by omega)])))
            clear hr hn hz hd HR
            go_wp2
            go_ret
            exact ⟨congrArg (fun z => Ending.returned (Value.int .i64 z)) HN.out, rfl⟩
          · rw [if_pos (by omega)] at hr
            have HS := Lib.hid hr
            clear hr hn hz hd HR
            go_wp2
            refine ⟨⟨n * 10 + (s[i].toNat - 48), i + 1, by go_num, by go_num, by omega, by omega, ?_, trivial, HS.out⟩, by simp [intOf]; omega⟩
            have := HP.out
            rw [show i + 1 - 4 = (i - 4) + 1 by omega, Nat.pow_succ]; omega
      · have he : Lib.decFrom 0 (s.data.toList.drop 4) = some n := by
          rw [hr, List.drop_eq_nil_of_le (by omega), Lib.decFrom]
        cases hc : (Seg.nameOf (n : Int) == s.toList) with
        | false =>
          have HN := Lib.hid (refNum_bad he (by rw [Lib.toList_data, beq_eq_false_iff_ne] at hc; exact hc))
          have HI := Lib.hid (refSegName_any n wr)
          clear hr hn hz HR he
          go_wp2_with fail
          refine HI.out.mono ?_
          rintro e w1 ⟨rfl, h1⟩
          obtain rfl := h1.symm
          go_wp2
          go_ret
          exact ⟨congrArg (fun z => Ending.returned (Value.int .i64 z)) HN.out, rfl⟩
        | true =>
          have HN := Lib.hid (refNum_ok (v := (n : Int)) (s := s.data.toList) (by rw [Lib.toList_data, beq_iff_eq] at hc; exact hc) (by intro h0; have : s.size = 0 := by { rw [hz, h0]; rfl }; omega))
          have HI := Lib.hid (refSegName_any n wr)
          clear hr hn hz HR he
          go_wp2_with fail
          refine HI.out.mono ?_
          rintro e w1 ⟨rfl, h1⟩
          obtain rfl := h1.symm
          go_wp2
          go_ret
          exact ⟨congrArg (fun z => Ending.returned (Value.int .i64 z)) HN.out, rfl⟩
end Go.Proofs.YthmblkckpdpjkaaGreatDoor
