/-
  The walks of the reference's value and inner.
-/
import Derived.Test.YthnhnaaihhagaaaDoorRefQuote
namespace Go.Proofs.YthnhnaaihhagaaaDoor
open Go.RowKit Go.Shelf

def dgV : Option Nat → Int
  | some x => x
  | none => -1
theorem hexd_dgR : ∀ k : Fin 16, Txt.dgR (Txt.hexd k.val) = some k.val := by decide
theorem dgR_hexd (c : UInt8) (x : Nat) (h : Txt.dgR c = some x) : x < 16 ∧ Txt.hexd x = c := by
  unfold Txt.dgR at h
  split at h
  · have e : x = c.toNat - 48 := (Option.some.inj h).symm
    refine ⟨by omega, ?_⟩
    rw [Txt.hexd, if_pos (by omega)]
    exact Txt.toU8_of c _ (by omega)
  · split at h
    · have e : x = c.toNat - 87 := (Option.some.inj h).symm
      refine ⟨by omega, ?_⟩
      rw [Txt.hexd, if_neg (by omega)]
      exact Txt.toU8_of c _ (by omega)
    · cases h

set_option maxHeartbeats 1000000 in
set_option maxRecDepth 100000 in
theorem value_any (c : UInt8) (w : World) :
    Calls Tryd.prog 47 #[.int .u8 (c.toNat : Int)] w fun e w' => e = .returned (.int .i64 (dgV (Txt.dgR c))) ∧ w = w' := by
  have hc := c.toNat_lt
  go_enter Tryd.func47, Tryd.ntmps47
  go_wp2
  go_loop [3] (fun i => ∃ k : Nat, k ≤ 16 ∧ i = .int .i64 k ∧ ∀ j, j < k → Txt.hexd j ≠ c) (fun i => 16 - (intOf i).toNat)
  case atStart => exact ⟨0, by omega, rfl, fun j hj => by omega⟩
  case round =>
    obtain ⟨k, hk, rfl, hno⟩ := hrel
    have HN := Lib.hid hno; clear hno
    by_cases hlt : k < 16
    · have dg := digit_get ⟨k, hlt⟩
      simp only at dg
      by_cases he : Txt.hexd k = c
      · subst he
        go_wp2
        go_ret
        exact ⟨by rw [hexd_dgR ⟨k, hlt⟩]; rfl, rfl⟩
      · have hne : ((Txt.hexd k).toNat : Int) ≠ (c.toNat : Int) := fun e => he (Txt.u8_eq (Int.ofNat_inj.1 e))
        have hneb : (((Txt.hexd k).toNat : Int) == (c.toNat : Int)) = false := by rw [beq_eq_false_iff_ne]; exact hne
        clear hne
        go_wp2
        go_round
        case rel =>
          refine ⟨k + 1, by omega, by go_num, fun j hj => ?_⟩
          by_cases e : j = k
          · subst e; exact he
          · exact HN.out j (by omega)
        case measure => simp [intOf]; omega
    · go_wp2
      go_ret
      refine ⟨?_, rfl⟩
      have : Txt.dgR c = none := by
        cases e : Txt.dgR c with
        | none => rfl
        | some x => exact absurd (dgR_hexd c x e).2 (HN.out x (by have := (dgR_hexd c x e).1; omega))
      rw [this]; rfl

theorem byte_ne (d : UInt8) (k : Nat) (h : d ≠ k.toUInt8) (hk : k < 256 := by decide) : ((d.toNat : Int) == (k : Int)) = false := by
  rw [beq_eq_false_iff_ne]
  intro e
  have e2 : d.toNat = k := Int.ofNat_inj.1 e
  exact h (Txt.u8_eq (by rw [e2]; simp; omega))
theorem value_some (c : UInt8) (x : Nat) (h : Txt.dgR c = some x) (w : World) :
    Calls Tryd.prog 47 #[.int .u8 (c.toNat : Int)] w fun e w' => e = .returned (.int .i64 (x : Int)) ∧ w = w' := by
  have := value_any c w; rw [h] at this; exact this
theorem value_none (c : UInt8) (h : Txt.dgR c = none) (w : World) :
    Calls Tryd.prog 47 #[.int .u8 (c.toNat : Int)] w fun e w' => e = .returned (.int .i64 (-1)) ∧ w = w' := by
  have := value_any c w; rw [h] at this; exact this
/-- What inner answers. -/
def optV : Option (List UInt8) → Value
  | some t => .tuple #[.string ⟨t.toArray⟩, .bool true]
  | none => .tuple #[.string ⟨#[]⟩, .bool false]
theorem get_drop (s : ByteArray) (k : Nat) (h : k < s.size) : s.data.toList.drop k = s[k] :: s.data.toList.drop (k + 1) := drop_head s k h
theorem drop_none (s : ByteArray) (k : Nat) (h : ¬ k < s.size) : s.data.toList.drop k = [] := List.drop_eq_nil_of_le (by rw [← Lib.size_eq]; omega)
/-- inner from a place on, behind what is there already. -/
def innerFrom (dg : UInt8 → Option Nat) (acc l : List UInt8) : Option (List UInt8) := (Txt.inner dg l).map (acc ++ ·)
theorem innerFrom_nil (dg : UInt8 → Option Nat) (acc : List UInt8) : innerFrom dg acc [] = some acc := by simp [innerFrom, Txt.inner]
theorem inner_plain (dg : UInt8 → Option Nat) (c : UInt8) (t : List UInt8) (h : c ≠ 92) : Txt.inner dg (c :: t) = (Txt.inner dg t).map (c :: ·) := by
  rw [Txt.inner.eq_def]; exact if_pos h
theorem inner_sign (dg : UInt8 → Option Nat) (d : UInt8) (t : List UInt8) (h : d = 34 ∨ d = 92) : Txt.inner dg (92 :: d :: t) = (Txt.inner dg t).map (d :: ·) := by
  rw [Txt.inner.eq_def]; exact (if_neg (by decide)).trans (if_pos h)
theorem inner_n (dg : UInt8 → Option Nat) (t : List UInt8) : Txt.inner dg (92 :: 110 :: t) = (Txt.inner dg t).map (10 :: ·) := by
  rw [Txt.inner.eq_def]; exact (if_neg (by decide)).trans ((if_neg (by decide)).trans (if_pos rfl))
theorem inner_x (dg : UInt8 → Option Nat) (a b : UInt8) (t : List UInt8) : Txt.inner dg (92 :: 120 :: a :: b :: t) = match dg a, dg b with
    | some x, some y => (Txt.inner dg t).map ((16 * x + y).toUInt8 :: ·)
    | _, _ => none := by
  rw [Txt.inner.eq_def]; exact (if_neg (by decide)).trans ((if_neg (by decide)).trans ((if_neg (by decide)).trans (if_pos rfl)))
theorem inner_short (dg : UInt8 → Option Nat) (t : List UInt8) (h : t.length < 2) : Txt.inner dg (92 :: 120 :: t) = none := by
  rw [Txt.inner.eq_def]
  match t, h with
  | [], _ => rfl
  | [_], _ => rfl
theorem inner_other (dg : UInt8 → Option Nat) (d : UInt8) (t : List UInt8) (h : ¬ (d = 34 ∨ d = 92)) (h2 : d ≠ 110) (h3 : d ≠ 120) : Txt.inner dg (92 :: d :: t) = none := by
  rw [Txt.inner.eq_def]; exact (if_neg (by decide)).trans ((if_neg h).trans ((if_neg h2).trans (if_neg h3)))
theorem inner_end (dg : UInt8 → Option Nat) : Txt.inner dg [92] = none := rfl
theorem map_more (o : Option (List UInt8)) (acc : List UInt8) (c : UInt8) : (o.map (c :: ·)).map (acc ++ ·) = o.map ((acc ++ [c]) ++ ·) := by
  cases o <;> simp
theorem innerFrom_plain (dg : UInt8 → Option Nat) (acc : List UInt8) (c : UInt8) (t : List UInt8) (h : c ≠ 92) : innerFrom dg acc (c :: t) = innerFrom dg (acc ++ [c]) t := by
  rw [innerFrom, inner_plain dg c t h, map_more]; rfl
theorem innerFrom_end (dg : UInt8 → Option Nat) (acc : List UInt8) : innerFrom dg acc [92] = none := rfl
theorem innerFrom_sign (dg : UInt8 → Option Nat) (acc : List UInt8) (d : UInt8) (t : List UInt8) (h : d = 34 ∨ d = 92) : innerFrom dg acc (92 :: d :: t) = innerFrom dg (acc ++ [d]) t := by
  rw [innerFrom, inner_sign dg d t h, map_more]; rfl
theorem innerFrom_n (dg : UInt8 → Option Nat) (acc : List UInt8) (t : List UInt8) : innerFrom dg acc (92 :: 110 :: t) = innerFrom dg (acc ++ [10]) t := by
  rw [innerFrom, inner_n, map_more]; rfl
theorem innerFrom_other (dg : UInt8 → Option Nat) (acc : List UInt8) (d : UInt8) (t : List UInt8) (h : ¬ (d = 34 ∨ d = 92)) (h2 : d ≠ 110) (h3 : d ≠ 120) : innerFrom dg acc (92 :: d :: t) = none := by
  rw [innerFrom, inner_other dg d t h h2 h3]; rfl
theorem innerFrom_short (dg : UInt8 → Option Nat) (acc : List UInt8) (t : List UInt8) (h : t.length < 2) : innerFrom dg acc (92 :: 120 :: t) = none := by
  rw [innerFrom, inner_short dg t h]; rfl
theorem innerFrom_x (dg : UInt8 → Option Nat) (acc : List UInt8) (a b : UInt8) (t : List UInt8) (x y : Nat) (hx : dg a = some x) (hy : dg b = some y) : innerFrom dg acc (92 :: 120 :: a :: b :: t) = innerFrom dg (acc ++ [(16 * x + y).toUInt8]) t := by
  rw [innerFrom, inner_x]; simp only [hx, hy]; rw [map_more]; rfl
theorem innerFrom_x_bad (dg : UInt8 → Option Nat) (acc : List UInt8) (a b : UInt8) (t : List UInt8) (h : dg a = none ∨ dg b = none) : innerFrom dg acc (92 :: 120 :: a :: b :: t) = none := by
  rw [innerFrom, inner_x]
  rcases h with h | h
  · simp only [h]; rfl
  · cases dg a <;> simp only [h] <;> rfl

set_option maxHeartbeats 2000000 in
set_option maxRecDepth 100000 in
theorem refInner_any (s : ByteArray) (w : World) (hs : s.size ≤ 1000000000000) :
    Calls Tryd.prog 28 #[.string s] w fun e w' => e = .returned (optV (Txt.inner Txt.dgR s.data.toList)) ∧ Below w.heap.size w w' := by
  obtain ⟨i0, hi, hz0, hz1, hz2⟩ := info_parts byte_info
  have HN := Lib.hid (show Txt.inner Txt.dgR s.data.toList = innerFrom Txt.dgR [] (s.data.toList.drop 0) by simp [innerFrom])
  go_enter Tryd.func28, Tryd.ntmps28
  go_wp2
  go_loopw [4, 5] (fun v i wr => ∃ (k : Nat) (acc : List UInt8), i = .int .i64 k ∧ k ≤ s.size ∧ wr.ownsRow w.heap.size 5 1 v acc.length (Lib.byteCells acc) ∧ Below w.heap.size w wr ∧ Txt.inner Txt.dgR s.data.toList = innerFrom Txt.dgR acc (s.data.toList.drop k) ∧ acc.length ≤ k) (fun _ i _ => s.size - (intOf i).toNat)
  case atStart => exact ⟨0, [], rfl, by omega, World.ownsRow_nil _ _ _ _, Below.refl _ _, HN.out, by simp⟩
  case round =>
    obtain ⟨k, acc, rfl, hk, hown, hbw, hin, hal⟩ := hrel
    have HA := Lib.hid hin; clear hin HN
    by_cases hlt : k < s.size
    · have HD := Lib.hid (get_drop s k hlt)
      have hbs := hbw.size
      by_cases c92 : s[k] = 92
      · have e92 : s[k].toNat = 92 := by rw [c92]; rfl
        by_cases h1 : k + 1 < s.size
        · have HD1 := Lib.hid (get_drop s (k + 1) h1)
          have HB := Lib.hid (show s.data.toList.drop k = 92 :: s[k + 1] :: s.data.toList.drop (k + 2) by rw [HD.out, HD1.out, c92])
          clear c92
          have hd := s[k + 1].toNat_lt
          obtain ⟨d, hd0⟩ : ∃ d : UInt8, s[k + 1] = d := ⟨_, rfl⟩
          rw [hd0] at HB
          have hdn : s[k + 1].toNat = d.toNat := by rw [hd0]
          have HD0 := Lib.hid hd0
          clear hd0
          by_cases d34 : d = 34
          · have HQ := Lib.hid (show Txt.inner Txt.dgR s.data.toList = innerFrom Txt.dgR (acc ++ [34]) (s.data.toList.drop (k + 2)) by rw [HA.out, HB.out, d34, innerFrom_sign _ _ _ _ (.inl rfl)])
            subst d34
            go_wp2_with (at_builtin; refine wpList_append_own _ rfl _ _ 39 rfl w.heap.size 5 i0 (.int .u8 0) 1 1 Tryd.underlying39 hi hz0 hz1 hz2 rfl (by decide) _ _ _ rfl (hown.alloc _) ⟨wr.heap.size, 0, none⟩ 1 1 [.int .u8 34] rfl rfl ?c1 ?c2 ?c3 ?c4 ?c5 ?_)
            case c1 => exact cell_one_new _ _ _
            case c2 => intro u hu; simp at hu; subst hu; rfl
            case c3 => unfold maxLen; omega
            case c4 => omega
            case c5 => simp; omega
            intro v' w2 hown' hgrow _
            have q1 : Below w.heap.size w w2 := (hbw.alloc hbs _).grown hgrow (by simp; omega) (fun k hk => (hown.lt k hk).1)
            have QF := Lib.hid (show w2.ownsRow w.heap.size 5 1 v' (acc ++ [34]).length (Lib.byteCells (acc ++ [34])) by
              rw [Lib.byteCells_append]; simpa [Lib.byteCells] using hown')
            clear hown' hgrow
            go_wp2
            go_roundw
            case rel => exact ⟨k + 2, acc ++ [34], by go_num, by omega, QF.out, q1, HQ.out, by simp; omega⟩
            case measure => simp [intOf]; omega
          by_cases d92 : d = 92
          · have HQ := Lib.hid (show Txt.inner Txt.dgR s.data.toList = innerFrom Txt.dgR (acc ++ [92]) (s.data.toList.drop (k + 2)) by rw [HA.out, HB.out, d92, innerFrom_sign _ _ _ _ (.inr rfl)])
            subst d92
            go_wp2_with (at_builtin; refine wpList_append_own _ rfl _ _ 39 rfl w.heap.size 5 i0 (.int .u8 0) 1 1 Tryd.underlying39 hi hz0 hz1 hz2 rfl (by decide) _ _ _ rfl (hown.alloc _) ⟨wr.heap.size, 0, none⟩ 1 1 [.int .u8 92] rfl rfl ?c1 ?c2 ?c3 ?c4 ?c5 ?_)
            case c1 => exact cell_one_new _ _ _
            case c2 => intro u hu; simp at hu; subst hu; rfl
            case c3 => unfold maxLen; omega
            case c4 => omega
            case c5 => simp; omega
            intro v' w2 hown' hgrow _
            have q1 : Below w.heap.size w w2 := (hbw.alloc hbs _).grown hgrow (by simp; omega) (fun k hk => (hown.lt k hk).1)
            have QF := Lib.hid (show w2.ownsRow w.heap.size 5 1 v' (acc ++ [92]).length (Lib.byteCells (acc ++ [92])) by
              rw [Lib.byteCells_append]; simpa [Lib.byteCells] using hown')
            clear hown' hgrow
            go_wp2
            go_roundw
            case rel => exact ⟨k + 2, acc ++ [92], by go_num, by omega, QF.out, q1, HQ.out, by simp; omega⟩
            case measure => simp [intOf]; omega
          have n34 : ((d.toNat : Int) == 34) = false := byte_ne d 34 d34
          have n92 : ((d.toNat : Int) == 92) = false := byte_ne d 92 d92
          by_cases d110 : d = 110
          · have HQ := Lib.hid (show Txt.inner Txt.dgR s.data.toList = innerFrom Txt.dgR (acc ++ [10]) (s.data.toList.drop (k + 2)) by rw [HA.out, HB.out, d110, innerFrom_n])
            subst d110
            clear n34 n92 d34 d92
            go_wp2_with (at_builtin; refine wpList_append_own _ rfl _ _ 39 rfl w.heap.size 5 i0 (.int .u8 0) 1 1 Tryd.underlying39 hi hz0 hz1 hz2 rfl (by decide) _ _ _ rfl (hown.alloc _) ⟨wr.heap.size, 0, none⟩ 1 1 [.int .u8 10] rfl rfl ?c1 ?c2 ?c3 ?c4 ?c5 ?_)
            case c1 => exact cell_one_new _ _ _
            case c2 => intro u hu; simp at hu; subst hu; rfl
            case c3 => unfold maxLen; omega
            case c4 => omega
            case c5 => simp; omega
            intro v' w2 hown' hgrow _
            have q1 : Below w.heap.size w w2 := (hbw.alloc hbs _).grown hgrow (by simp; omega) (fun k hk => (hown.lt k hk).1)
            have QF := Lib.hid (show w2.ownsRow w.heap.size 5 1 v' (acc ++ [10]).length (Lib.byteCells (acc ++ [10])) by
              rw [Lib.byteCells_append]; simpa [Lib.byteCells] using hown')
            clear hown' hgrow
            go_wp2
            go_roundw
            case rel => exact ⟨k + 2, acc ++ [10], by go_num, by omega, QF.out, q1, HQ.out, by simp; omega⟩
            case measure => simp [intOf]; omega
          have n110 : ((d.toNat : Int) == 110) = false := byte_ne d 110 d110
          by_cases d120 : d = 120
          · subst d120
            clear n34 n92 n110 d34 d92 d110
            by_cases h3 : k + 3 < s.size
            · have h2 : k + 2 < s.size := by omega
              have HB2 := Lib.hid (show s.data.toList.drop k = 92 :: 120 :: s[k + 2] :: s[k + 3] :: s.data.toList.drop (k + 4) by rw [HB.out, get_drop s (k + 2) h2, get_drop s (k + 3) h3])
              cases hx : Txt.dgR s[k + 2] with
              | none =>
                have HQ := Lib.hid (show Txt.inner Txt.dgR s.data.toList = none by rw [HA.out, HB2.out, innerFrom_x_bad _ _ _ _ _ (.inl hx)])
                have HX := Lib.hid (value_none s[k + 2] hx); have HY := Lib.hid (value_any s[k + 3])
                clear hx
                go_wp2_with fail
                refine (HX.out _).mono ?_
                rintro e W1 ⟨rfl, rfl⟩
                go_wp2_with fail
                refine (HY.out _).mono ?_
                rintro e W1 ⟨rfl, rfl⟩
                go_wp2
                go_ret2
                exact ⟨by rw [HQ.out]; rfl, hbw⟩
              | some x =>
                have hx16 := (dgR_hexd _ _ hx).1
                cases hy : Txt.dgR s[k + 3] with
                | none =>
                  have HQ := Lib.hid (show Txt.inner Txt.dgR s.data.toList = none by rw [HA.out, HB2.out, innerFrom_x_bad _ _ _ _ _ (.inr hy)])
                  have HX := Lib.hid (value_some s[k + 2] x hx); have HY := Lib.hid (value_none s[k + 3] hy)
                  clear hx hy
                  go_wp2_with fail
                  refine (HX.out _).mono ?_
                  rintro e W1 ⟨rfl, rfl⟩
                  go_wp2_with fail
                  refine (HY.out _).mono ?_
                  rintro e W1 ⟨rfl, rfl⟩
                  go_wp2
                  go_ret2
                  exact ⟨by rw [HQ.out]; rfl, hbw⟩
                | some y =>
                  have hy16 := (dgR_hexd _ _ hy).1
                  have HQ := Lib.hid (show Txt.inner Txt.dgR s.data.toList = innerFrom Txt.dgR (acc ++ [(16 * x + y).toUInt8]) (s.data.toList.drop (k + 4)) by rw [HA.out, HB2.out, innerFrom_x _ _ _ _ _ _ _ hx hy])
                  have HX := Lib.hid (value_some s[k + 2] x hx); have HY := Lib.hid (value_some s[k + 3] y hy)
                  have HU := Lib.hid (show ((16 * x + y).toUInt8).toNat = 16 * x + y by simp; omega)
                  clear hx hy
                  go_wp2_with fail
                  refine (HX.out _).mono ?_
                  rintro e W1 ⟨rfl, rfl⟩
                  go_wp2_with fail
                  refine (HY.out _).mono ?_
                  rintro e W1 ⟨rfl, rfl⟩
                  go_wp2_with (at_builtin; refine wpList_append_own _ rfl _ _ 39 rfl w.heap.size 5 i0 (.int .u8 0) 1 1 Tryd.underlying39 hi hz0 hz1 hz2 rfl (by decide) _ _ _ rfl (hown.alloc _) ⟨wr.heap.size, 0, none⟩ 1 1 [.int .u8 (16 * (x : Int) + y)] rfl rfl ?c1 ?c2 ?c3 ?c4 ?c5 ?_)
                  case c1 => exact cell_one_new _ _ _
                  case c2 => intro u hu; simp at hu; subst hu; rfl
                  case c3 => unfold maxLen; omega
                  case c4 => omega
                  case c5 => simp; omega
                  intro v' w2 hown' hgrow _
                  have q1 : Below w.heap.size w w2 := (hbw.alloc hbs _).grown hgrow (by simp; omega) (fun k hk => (hown.lt k hk).1)
                  have QF := Lib.hid (show w2.ownsRow w.heap.size 5 1 v' (acc ++ [(16 * x + y).toUInt8]).length (Lib.byteCells (acc ++ [(16 * x + y).toUInt8])) by
                    rw [Lib.byteCells_append, show Lib.byteCells [(16 * x + y).toUInt8] = [.int .u8 (16 * (x : Int) + y)] by (simp only [Lib.byteCells, List.map_cons, List.map_nil, HU.out]; rfl)]; simpa using hown')
                  clear hown' hgrow
                  go_wp2
                  go_roundw
                  case rel => exact ⟨k + 4, acc ++ [(16 * x + y).toUInt8], by go_num, by omega, QF.out, q1, HQ.out, by simp; omega⟩
                  case measure => simp [intOf]; omega
            · have HQ := Lib.hid (show Txt.inner Txt.dgR s.data.toList = none by rw [HA.out, HB.out, innerFrom_short _ _ _ (by rw [List.length_drop, ← Lib.size_eq]; omega)])
              go_wp2
              go_ret2
              exact ⟨by rw [HQ.out]; rfl, hbw⟩
          · have n120 : ((d.toNat : Int) == 120) = false := byte_ne d 120 d120
            have HQ := Lib.hid (show Txt.inner Txt.dgR s.data.toList = none by rw [HA.out, HB.out, innerFrom_other _ _ _ _ (by simp [d34, d92]) d110 d120])
            clear d34 d92 d110 d120
            go_wp2
            go_ret2
            exact ⟨by rw [HQ.out]; rfl, hbw⟩
        · have HQ := Lib.hid (show Txt.inner Txt.dgR s.data.toList = none by rw [HA.out, HD.out, drop_none s (k + 1) h1, c92]; rfl)
          clear c92
          go_wp2
          go_ret2
          exact ⟨by rw [HQ.out]; rfl, hbw⟩
      · have hne : ((s[k].toNat : Int) != 92) = true := by
          show (!((s[k].toNat : Int) == ((92 : Nat) : Int))) = true
          rw [byte_ne _ 92 c92]; rfl
        have HQ := Lib.hid (show Txt.inner Txt.dgR s.data.toList = innerFrom Txt.dgR (acc ++ [s[k]]) (s.data.toList.drop (k + 1)) by rw [HA.out, HD.out, innerFrom_plain _ _ _ _ c92])
        clear c92
        go_wp2_with (at_builtin; refine wpList_append_own _ rfl _ _ 39 rfl w.heap.size 5 i0 (.int .u8 0) 1 1 Tryd.underlying39 hi hz0 hz1 hz2 rfl (by decide) _ _ _ rfl (hown.alloc _) ⟨wr.heap.size, 0, none⟩ 1 1 [.int .u8 (s[k].toNat : Int)] rfl rfl ?c1 ?c2 ?c3 ?c4 ?c5 ?_)
        case c1 => exact cell_one_new _ _ _
        case c2 => intro u hu; simp at hu; subst hu; rfl
        case c3 => unfold maxLen; omega
        case c4 => omega
        case c5 => simp; omega
        intro v' w2 hown' hgrow _
        have q1 : Below w.heap.size w w2 := (hbw.alloc hbs _).grown hgrow (by simp; omega) (fun k hk => (hown.lt k hk).1)
        have QF := Lib.hid (show w2.ownsRow w.heap.size 5 1 v' (acc ++ [s[k]]).length (Lib.byteCells (acc ++ [s[k]])) by
          rw [Lib.byteCells_append]; simpa [Lib.byteCells] using hown')
        clear hown' hgrow
        go_wp2
        go_roundw
        case rel => exact ⟨k + 1, acc ++ [s[k]], by go_num, by omega, QF.out, q1, HQ.out, by simp; omega⟩
        case measure => simp [intOf]; omega
    · have HD := Lib.hid (drop_none s k hlt)
      have hstr := run_string_owned hown
      have HQ := Lib.hid (show Txt.inner Txt.dgR s.data.toList = some acc by rw [HA.out, HD.out, innerFrom_nil])
      go_wp2
      go_ret2
      exact ⟨by rw [HQ.out]; rfl, hbw⟩
end Go.Proofs.YthnhnaaihhagaaaDoor
