/-
  The walk of text.Words.
-/
import Derived.Test.YthnhnaaihhagaaaDoorLaw
import Derived.Deep.RegionLaw
namespace Go.Proofs.YthnhnaaihhagaaaDoor
open Go.RowKit Go.Shelf

theorem str_info : (Tryd.prog.info? 9).map (fun i => (i.zero, i.size, i.bytes)) = some (some (.string ⟨#[]⟩), 1, 16) := by kernel_rfl
/-- What Words answers. -/
def WordsV (w : World) (B : Nat) (v : Value) (r : Option (List (List UInt8))) : Prop :=
  match r with
  | none => v = .tuple #[.slice none 0 0, .int .i64 2]
  | some ws => ∃ x, v = .tuple #[x, .int .i64 0] ∧ w.ownsRow B 9 1 x ws.length (strCells ws)
theorem strCells_snoc (l : List (List UInt8)) (r : List UInt8) : strCells (l ++ [r]) = strCells l ++ [.string ⟨r.toArray⟩] := by simp [strCells]
/-- The bytes up to the first blank, and those from it on. -/
theorem blk_split (l : List UInt8) : (blk l = -1 ∧ l.takeWhile (fun x => !Txt.blank x) = l ∧ l.dropWhile (fun x => !Txt.blank x) = []) ∨
    (∃ n : Nat, blk l = n ∧ n < l.length ∧ l.takeWhile (fun x => !Txt.blank x) = l.take n ∧ l.dropWhile (fun x => !Txt.blank x) = l.drop n) := by
  induction l with
  | nil => exact .inl ⟨rfl, rfl, rfl⟩
  | cons c t ih =>
    cases hc : Txt.blank c with
    | true => exact .inr ⟨0, by simp [blk, hc], by simp, by simp [hc], by simp [hc]⟩
    | false =>
      rcases ih with ⟨h1, h2, h3⟩ | ⟨n, h1, h2, h3, h4⟩
      · exact .inl ⟨by simp [blk, hc, h1], by simp [hc, h2], by simp [hc, h3]⟩
      · refine .inr ⟨n + 1, ?_, by simp; omega, by simp [hc, h3], by simp [hc, h4]⟩
        rw [blk, if_neg (by simp [hc]), if_neg (by omega), h1]; rfl
theorem contains_one (s : ByteArray) (c : UInt8) (w : World) (b : Bool) (h : b = decide (c ∈ s.data.toList)) :
    Calls Tryd.prog 38 #[.string s, .string ⟨#[c]⟩] w fun e w' => e = .returned (.bool b) ∧ w = w' := by
  refine (Tryd.strings_Contains_one s c w).mono ?_
  rintro e w' ⟨rfl, rfl⟩
  refine ⟨?_, rfl⟩
  rw [h]
  by_cases hm : c ∈ s.data.toList
  · obtain ⟨a, r, hl, hna⟩ := split_at _ _ hm
    have := idx_some a c r hna
    rw [← hl] at this
    rw [this]; simp [hm]
  · rw [idx_none _ _ hm]; simp [hm]

/-- append onto a row of the call's own, as one step of a region that draws its order. -/
theorem step_append_own {P : Program} {ops : Array Oper} {o : Oper} {a : Act} {w : World} {K : Act → World → Prop} {Q : Exit → Act → World → Prop} {E : Prop} (hgd : o.guard = none) (s x : Operand) (t : TypeId)
    (ho : o.op = .call { callee := .builtin .append, args := #[s, x], argTypes := #[t, t] })
    (base : Nat) (e : TypeId) (i : TypeInfo) (z : Value) (size bytes : Nat) (ht : P.underlying t = some (.slice e)) (hi : P.info? e = some i) (hz : i.zero = some z)
    (hsize : i.size = size) (hby : i.bytes = bytes) (hzs : z.cells.size = size) (hsz : 0 < size)
    (v : Value) (n : Nat) (xs : List Value) (hs : a.eval s = v) (hown : w.ownsRow base e size v n xs)
    (ad : Addr) (m c : Nat) (news : List Value) (hx : a.eval x = .slice (some ad) m c) (hl : news.length = m * size) (hnews : ∀ j u, news[j]? = some u → w.cell? (ad.add j) = some u) (h1 : ∀ u ∈ news, u.oneCell' = true)
    (h63 : n + m ≤ maxLen) (hbytes : (n + m) * bytes ≤ 140737488355328) (hbase : base ≤ w.heap.size)
    (h : ∀ v' w', w'.ownsRow base e size v' (n + m) (xs ++ news) → w.grownBy w' v.ownBlock → (v' = .slice none 0 0 ↔ v = .slice none 0 0 ∧ m = 0) → K (a.put o.dst v') w') :
    if Region.wanted o (yielded ops a.tmps) = true then Oper.wp P o a w K Q else E := by
  rw [if_pos (by simp [Region.wanted, hgd])]
  exact wp_append_own w s x t ho base e i z size bytes ht hi hz hsize hby hzs hsz v n xs hs hown ad m c news hx hl hnews h1 h63 hbytes hbase h

theorem undrawn {w w' : World} {r : Option Nat} (h : w.drew.grownBy w' r) : w.grownBy w' r := ⟨h.os, h.tape, h.output, h.size, h.block⟩
set_option maxHeartbeats 4000000 in
set_option maxRecDepth 100000 in
theorem words_any (s0 : ByteArray) (w : World) (hE : Env w) (hs : s0.size ≤ 1000000000) :
    Calls Tryd.prog 19 #[.string s0] w fun e w' => (∃ v, e = .returned v ∧ WordsV w' w.heap.size v (Txt.words s0.data.toList)) ∧ Below w.heap.size w w' := by
  obtain ⟨i0, hi, hz0, hz1, hz2⟩ := info_parts str_info
  go_enter Tryd.func19, Tryd.ntmps19
  go_wp2_with fail
  refine (trimLeft_any s0 w).mono ?_
  rintro e w1 ⟨rfl, b1⟩
  have hE1 := hE.next b1
  have hl0 := dropWhile_len Txt.blank s0.data.toList
  rw [← Lib.size_eq] at hl0
  have HT := Lib.hid (words_trim s0.data.toList)
  have H0 := Lib.hid hl0
  have HDW := Lib.hid (fun c t => dropWhile_head Txt.blank s0.data.toList c t)
  clear hl0
  have hb1s := b1.size
  go_wp2_with fail
  go_loopw [0, 4] (fun lv v wr => ∃ (cur : List UInt8) (acc : List (List UInt8)), lv = .string ⟨cur.toArray⟩ ∧ wr.ownsRow w.heap.size 9 1 v acc.length (strCells acc) ∧ Below w.heap.size w wr ∧ Env wr ∧
      Hid (Txt.words s0.data.toList = (Txt.words cur).map (acc ++ ·) ∧ ∀ c t, cur = c :: t → Txt.blank c = false) ∧ acc.length + cur.length ≤ s0.size) (fun lv _ _ => match lv with | .string s => s.size | _ => 0)
  case atStart => exact ⟨_, [], rfl, World.ownsRow_nil _ _ _ _, b1, hE1, ⟨by rw [HT.out]; simp, HDW.out⟩, by have := H0.out; simpa using this⟩
  case round =>
    obtain ⟨cur, acc, rfl, hown, hbw, hEr, hh, hal⟩ := hrel
    have hbs := hbw.size
    clear HT HDW H0 hE1 b1 hb1s
    have hsz : (⟨cur.toArray⟩ : ByteArray).size = cur.length := by rw [Lib.size_eq]
    obtain ⟨S, hS⟩ : ∃ S : ByteArray, S = ⟨cur.toArray⟩ := ⟨_, rfl⟩
    have hSl : S.data.toList = cur := by rw [hS]
    rw [← hS] at hsz ⊢
    clear hS
    cases cur with
    | nil =>
      have hemp : S.toList.isEmpty = true := by rw [Lib.toList_data, hSl]; rfl
      have HQ := Lib.hid (show Txt.words s0.data.toList = some acc by rw [hh.out.1, words_nil [] rfl]; simp)
      clear hh hSl
      go_wp2
      go_ret2
      exact ⟨⟨_, rfl, by rw [HQ.out]; exact ⟨_, rfl, hown⟩⟩, hbw⟩
    | cons c t =>
      have hemp : S.toList.isEmpty = false := by rw [Lib.toList_data, hSl]; rfl
      have hb := hh.out.2 c t rfl
      have HW := Lib.hid hh.out.1
      have hS0 : 0 < S.size := by rw [hsz]; simp
      have hg : S[0] = c := by
        have := drop_head S 0 hS0
        rw [List.drop_zero, hSl] at this
        exact (List.cons.inj this).1.symm
      have hgn : S[0].toNat = c.toNat := by rw [hg]
      have hSm : S.size ≤ 1000000000 := by rw [hsz]; omega
      have hix := indexAny_any S wr hEr hSm
      rw [hSl] at hix
      have hm : ∃ (i : Int) (m : Nat), blk (c :: t) = i ∧ (c :: t).takeWhile (fun x => !Txt.blank x) = (c :: t).take m ∧ (c :: t).dropWhile (fun x => !Txt.blank x) = (c :: t).drop m ∧ 1 ≤ m ∧ m ≤ S.size ∧ ((i = -1 ∧ m = S.size) ∨ (i = m)) := by
        rcases blk_split (c :: t) with ⟨e1, e2, e3⟩ | ⟨m, e1, e2, e3, e4⟩
        · exact ⟨-1, S.size, e1, by rw [e2, hsz, List.take_length], by rw [e3, hsz, List.drop_length], by omega, by omega, .inl ⟨rfl, rfl⟩⟩
        · refine ⟨m, m, e1, e3, e4, ?_, by omega, .inr rfl⟩
          rcases Nat.eq_zero_or_pos m with h | h
          · rw [h] at e3
            rw [List.takeWhile_cons, if_pos (by simp [hb])] at e3
            simp at e3
          · exact h
      obtain ⟨i, m, hi0, htw, hdw, hm1, hm2, him⟩ := hm
      rw [hi0] at hix
      have HI := Lib.hid hix
      obtain ⟨X, hX⟩ : ∃ X, S.extract 0 m = X := ⟨_, rfl⟩
      obtain ⟨R, hR⟩ : ∃ R, S.extract m S.size = R := ⟨_, rfl⟩
      have hXl : X.data.toList = (c :: t).take m := by rw [← hX, Lib.extract_data, hSl]; simp
      have hRl : R.data.toList = (c :: t).drop m := by rw [← hR, Lib.extract_to_end, hSl]
      have hXm : S.extract 0 S.size = X ∨ m < S.size := by
        by_cases h : m = S.size
        · left; rw [← h]; exact hX
        · right; omega
      have HXl := Lib.hid hXl; have HRl := Lib.hid hRl; have HTW := Lib.hid htw; have HDW := Lib.hid hdw; have HB := Lib.hid hb
      have HXR := Lib.hid (And.intro hX hR)
      have HSl := Lib.hid hSl
      have hSle : S.size ≤ t.length + 1 := by rw [hsz]; simp
      have hSge : t.length + 1 ≤ S.size := by rw [hsz]; simp
      have HSZ := Lib.hid hsz
      simp only [List.length_cons] at hal
      clear hg hh hix hi0 htw hdw hXl hRl hSl hX hR hXm hb hsz
      by_cases hc : c = 34
      · subst hc
        have hg34 : S[0].toNat = 34 := hgn
        have HEN0 := Lib.hid (fun w hE => end_any S w hE (by omega) (by omega))
        clear hgn HXl HRl HTW HDW HXR HB X R HSZ hm1
        cases he : Txt.endF false 1 t with
        | none =>
          have HQ := Lib.hid (show Txt.words s0.data.toList = none by rw [HW.out, words_open t he]; rfl)
          have HEND := Lib.hid (fun w (hE : Env w) => (show Calls Tryd.prog 39 #[.string S] w fun e w' => e = .returned (.int .i64 0) ∧ Below w.heap.size w w' by
            have := HEN0.out w hE
            rw [HSl.out, show endOf (34 :: t) = none from he] at this; exact this))
          clear HEN0 he
          rcases him with ⟨rfl, rfl⟩ | rfl
          all_goals
            go_wp2_with fail
            refine HI.out.mono ?_
            rintro e w1 ⟨rfl, b1⟩
            have hown1 := owns_next hown b1
            have hbw1 := Below.up hbw (Nat.le_refl _) b1
            have hE1 := hEr.next b1
            go_wp2_with fail
            refine (HEND.out _ hE1).mono ?_
            rintro e w2 ⟨rfl, b2⟩
            have hown2 := owns_next hown1 b2
            have hbw2 := Below.up hbw1 (Nat.le_refl _) b2
            have hE2 := hE1.next b2
            go_wp2
            go_ret2
            exact ⟨⟨_, rfl, by rw [HQ.out]; rfl⟩, hbw2⟩
        | some n =>
          have hn := endF_le t false 1 n he
          obtain ⟨hn1, hn2⟩ := hn
          have HEND := Lib.hid (fun w (hE : Env w) => (show Calls Tryd.prog 39 #[.string S] w fun e w' => e = .returned (.int .i64 (n : Int)) ∧ Below w.heap.size w w' by
            have := HEN0.out w hE
            rw [HSl.out, show endOf (34 :: t) = some n from he] at this; exact this))
          have HEN := Lib.hid he
          clear HEN0 he
          have hnle : n ≤ S.size := by omega
          have nz : ((n : Int) == 0) = false := by rw [beq_eq_false_iff_ne]; omega
          by_cases hns : n < S.size
          · have hdr := drop_head S n hns
            rw [HSl.out] at hdr
            have hY : S.extract n (n + 1) = ⟨#[S[n]]⟩ := by
              apply eq_of_list
              rw [Lib.extract_data, HSl.out, hdr, show n + 1 - n = 1 by omega]; rfl
            obtain ⟨d, hd⟩ : ∃ d, S[n] = d := ⟨_, rfl⟩
            rw [hd] at hdr hY
            cases hb : Txt.blank d with
            | false =>
              have HQ := Lib.hid (show Txt.words s0.data.toList = none by rw [HW.out, words_stuck t n HEN.out (by rw [hdr]; simp [hb])]; rfl)
              have HCON := Lib.hid (fun w => contains_one ⟨#[32, 9]⟩ d w false (by simp [Txt.blank] at hb; simp [hb]))
              clear hd hdr hb
              rcases him with ⟨rfl, rfl⟩ | rfl
              all_goals
                go_wp2_with fail
                refine HI.out.mono ?_
                rintro e w1 ⟨rfl, b1⟩
                have hown1 := owns_next hown b1
                have hbw1 := Below.up hbw (Nat.le_refl _) b1
                have hE1 := hEr.next b1
                go_wp2_with fail
                refine (HEND.out _ hE1).mono ?_
                rintro e w2 ⟨rfl, b2⟩
                have hown2 := owns_next hown1 b2
                have hbw2 := Below.up hbw1 (Nat.le_refl _) b2
                have hE2 := hE1.next b2
                go_wp2_with fail
                refine (HCON.out _).mono ?_
                rintro e w3 ⟨rfl, rfl⟩
                go_wp2
                go_ret2
                exact ⟨⟨_, rfl, by rw [HQ.out]; rfl⟩, hbw2⟩
            | true =>
              have HHD := Lib.hid (show ((34 :: t).drop n).head?.any (fun x => !Txt.blank x) = false by rw [hdr]; simp [hb])
              have HCON := Lib.hid (fun w => contains_one ⟨#[32, 9]⟩ d w true (by simp [Txt.blank] at hb; simp [hb]))
              clear hd hdr hb
              obtain ⟨X2, hX⟩ : ∃ X2, S.extract 0 n = X2 := ⟨_, rfl⟩
              obtain ⟨R, hR⟩ : ∃ R, S.extract n S.size = R := ⟨_, rfl⟩
              have hXl : X2.data.toList = (34 :: t).take n := by rw [← hX, Lib.extract_data, HSl.out]; simp
              have hRl : R.data.toList = (34 :: t).drop n := by rw [← hR, Lib.extract_to_end, HSl.out]
              have hXs : X2.size ≤ 100000000000 := by rw [Lib.size_eq, hXl, List.length_take, List.length_cons]; omega
              have HRE := Lib.hid (fun (h : n = S.size) => (show ByteArray.empty = R by rw [← hR, h]; simp))
              have HLE := Lib.hid (show (⟨(R.data.toList.dropWhile Txt.blank).toArray⟩ : ByteArray).size < S.size by
                have h1 := dropWhile_len Txt.blank R.data.toList
                rw [hRl, List.length_drop, List.length_cons] at h1
                rw [Lib.size_eq, hRl]; simp only; omega)
              have HUN := Lib.hid (fun w hE => unquote_any X2 w hE hXs)
              have hu : Txt.unq Txt.dgP X2.data.toList = Txt.unquote ((34 :: t).take n) := by rw [unq_same, hXl]; rfl
              cases hq : Txt.unquote ((34 :: t).take n) with
              | none =>
                have HQ := Lib.hid (show Txt.words s0.data.toList = none by rw [HW.out, words_wrong t n HEN.out HHD.out hq]; rfl)
                have HU := Lib.hid (fun w (hE : Env w) => (show Calls Tryd.prog 12 #[.string X2] w fun e w' => e = .returned (.tuple #[.string ⟨#[]⟩, .int .i64 2]) ∧ Below w.heap.size w w' by have := HUN.out w hE; rw [hu, hq] at this; exact this))
                clear hq hu hXl hRl hXs HUN HRE HLE hR
                rcases him with ⟨rfl, rfl⟩ | rfl
                all_goals
                  go_wp2_with fail
                  refine HI.out.mono ?_
                  rintro e w1 ⟨rfl, b1⟩
                  have hown1 := owns_next hown b1
                  have hbw1 := Below.up hbw (Nat.le_refl _) b1
                  have hE1 := hEr.next b1
                  go_wp2_with fail
                  refine (HEND.out _ hE1).mono ?_
                  rintro e w2 ⟨rfl, b2⟩
                  have hown2 := owns_next hown1 b2
                  have hbw2 := Below.up hbw1 (Nat.le_refl _) b2
                  have hE2 := hE1.next b2
                  go_wp2_with fail
                  refine (HCON.out _).mono ?_
                  rintro e w3 ⟨rfl, rfl⟩
                  go_wp2_with fail
                  refine (HU.out _ hE2).mono ?_
                  rintro e w3 ⟨rfl, b3⟩
                  have hown3 := owns_next hown2 b3
                  have hbw3 := Below.up hbw2 (Nat.le_refl _) b3
                  have hE3 := hE2.next b3
                  go_wp2
                  go_ret2
                  exact ⟨⟨_, rfl, by rw [HQ.out]; rfl⟩, hbw3⟩
              | some wd =>
                have HQ := Lib.hid (show Txt.words s0.data.toList = (Txt.words (R.data.toList.dropWhile Txt.blank)).map ((acc ++ [wd]) ++ ·) by
                  rw [HW.out, words_quoted t wd n HEN.out HHD.out hq, ← hRl, words_trim, Option.map_map]
                  congr 1; funext x; simp)
                have HLL := Lib.hid (show (acc ++ [wd]).length + (R.data.toList.dropWhile Txt.blank).length ≤ s0.size by
                  have h1 := dropWhile_len Txt.blank R.data.toList
                  rw [hRl, List.length_drop, List.length_cons] at h1
                  rw [hRl]; simp only [List.length_append, List.length_singleton]; omega)
                have HU := Lib.hid (fun w (hE : Env w) => (show Calls Tryd.prog 12 #[.string X2] w fun e w' => e = .returned (.tuple #[.string ⟨wd.toArray⟩, .int .i64 0]) ∧ Below w.heap.size w w' by have := HUN.out w hE; rw [hu, hq] at this; exact this))
                clear hq hu hXl hRl hXs HUN
                rcases him with ⟨rfl, rfl⟩ | rfl
                all_goals
                  go_wp2_with fail
                  refine HI.out.mono ?_
                  rintro e w1 ⟨rfl, b1⟩
                  have hown1 := owns_next hown b1
                  have hbw1 := Below.up hbw (Nat.le_refl _) b1
                  have hE1 := hEr.next b1
                  go_wp2_with fail
                  refine (HEND.out _ hE1).mono ?_
                  rintro e w2 ⟨rfl, b2⟩
                  have hown2 := owns_next hown1 b2
                  have hbw2 := Below.up hbw1 (Nat.le_refl _) b2
                  have hE2 := hE1.next b2
                  go_wp2_with fail
                  refine (HCON.out _).mono ?_
                  rintro e w3 ⟨rfl, rfl⟩
                  go_wp2_with fail
                  refine (HU.out _ hE2).mono ?_
                  rintro e w3 ⟨rfl, b3⟩
                  have hown3 := owns_next hown2 b3
                  have hbw3 := Below.up hbw2 (Nat.le_refl _) b3
                  have hE3 := hE2.next b3
                  have hb3s := hbw3.size
                  go_wp2_with fail
                  go_region_law (refine step_append_own rfl _ _ 32 rfl w.heap.size 9 i0 (.string ⟨#[]⟩) 1 16 Tryd.underlying32 hi hz0 hz1 hz2 rfl (by decide) u4 _ _ rfl (hown3.alloc _) ⟨w3.heap.size, 0, none⟩ 1 1 [.string ⟨wd.toArray⟩] rfl rfl (cell_one_new _ _ _) (fun u hu => by simp at hu; subst hu; rfl) (by unfold maxLen; omega) (by omega) (by simp; omega) ?_; intro v' w4 hown' hgrow _)
                  all_goals
                    obtain ⟨q1, q2, q3, _⟩ := append_keeps hown3 (undrawn hgrow) hbw3 hE
                    have HO := Lib.hid (show w4.ownsRow w.heap.size 9 1 v' (acc ++ [wd]).length (strCells (acc ++ [wd])) by rw [strCells_snoc]; simpa using hown')
                    clear hown' hgrow
                    go_wp2_with fail
                    first | rw [HRE.out (by trivial)] | skip
                    refine (trimLeft_any R w4).mono ?_
                    rintro e w5 ⟨rfl, b5⟩
                    have q4 := owns_next HO.out b5
                    have q5 := Below.up q1 (Nat.le_refl _) b5
                    have q6 := q2.next b5
                    clear HW HO q1 q2
                    go_wp2
                    exact ⟨⟨_, _, rfl, q4, q5, q6, ⟨HQ.out, fun c t => dropWhile_head Txt.blank _ c t⟩, HLL.out⟩, HLE.out⟩
          · obtain rfl : n = S.size := by omega
            have HHD := Lib.hid (show ((34 :: t).drop S.size).head?.any (fun x => !Txt.blank x) = false by rw [List.drop_eq_nil_of_le (by simp; omega)]; rfl)
            obtain ⟨X2, hX⟩ : ∃ X2, S.extract 0 S.size = X2 := ⟨_, rfl⟩
            obtain ⟨R, hR⟩ : ∃ R, S.extract S.size S.size = R := ⟨_, rfl⟩
            have hXl : X2.data.toList = (34 :: t).take S.size := by rw [← hX, Lib.extract_data, HSl.out]; simp
            have hRl : R.data.toList = (34 :: t).drop S.size := by rw [← hR, Lib.extract_to_end, HSl.out]
            have hXs : X2.size ≤ 100000000000 := by rw [Lib.size_eq, hXl, List.length_take, List.length_cons]; omega
            have HRE := Lib.hid (fun (h : S.size = S.size) => (show ByteArray.empty = R by rw [← hR, h]; simp))
            have HLE := Lib.hid (show (⟨(R.data.toList.dropWhile Txt.blank).toArray⟩ : ByteArray).size < S.size by
              have h1 := dropWhile_len Txt.blank R.data.toList
              rw [hRl, List.length_drop, List.length_cons] at h1
              rw [Lib.size_eq, hRl]; simp only; omega)
            have HUN := Lib.hid (fun w hE => unquote_any X2 w hE hXs)
            have hu : Txt.unq Txt.dgP X2.data.toList = Txt.unquote ((34 :: t).take S.size) := by rw [unq_same, hXl]; rfl
            cases hq : Txt.unquote ((34 :: t).take S.size) with
            | none =>
              have HQ := Lib.hid (show Txt.words s0.data.toList = none by rw [HW.out, words_wrong t S.size HEN.out HHD.out hq]; rfl)
              have HU := Lib.hid (fun w (hE : Env w) => (show Calls Tryd.prog 12 #[.string X2] w fun e w' => e = .returned (.tuple #[.string ⟨#[]⟩, .int .i64 2]) ∧ Below w.heap.size w w' by have := HUN.out w hE; rw [hu, hq] at this; exact this))
              clear hq hu hXl hRl hXs HUN HRE HLE hR
              rcases him with ⟨rfl, rfl⟩ | rfl
              all_goals
                go_wp2_with fail
                refine HI.out.mono ?_
                rintro e w1 ⟨rfl, b1⟩
                have hown1 := owns_next hown b1
                have hbw1 := Below.up hbw (Nat.le_refl _) b1
                have hE1 := hEr.next b1
                go_wp2_with fail
                refine (HEND.out _ hE1).mono ?_
                rintro e w2 ⟨rfl, b2⟩
                have hown2 := owns_next hown1 b2
                have hbw2 := Below.up hbw1 (Nat.le_refl _) b2
                have hE2 := hE1.next b2
                go_wp2_with fail
                refine (HU.out _ hE2).mono ?_
                rintro e w3 ⟨rfl, b3⟩
                have hown3 := owns_next hown2 b3
                have hbw3 := Below.up hbw2 (Nat.le_refl _) b3
                have hE3 := hE2.next b3
                go_wp2
                go_ret2
                exact ⟨⟨_, rfl, by rw [HQ.out]; rfl⟩, hbw3⟩
            | some wd =>
              have HQ := Lib.hid (show Txt.words s0.data.toList = (Txt.words (R.data.toList.dropWhile Txt.blank)).map ((acc ++ [wd]) ++ ·) by
                rw [HW.out, words_quoted t wd S.size HEN.out HHD.out hq, ← hRl, words_trim, Option.map_map]
                congr 1; funext x; simp)
              have HLL := Lib.hid (show (acc ++ [wd]).length + (R.data.toList.dropWhile Txt.blank).length ≤ s0.size by
                have h1 := dropWhile_len Txt.blank R.data.toList
                rw [hRl, List.length_drop, List.length_cons] at h1
                rw [hRl]; simp only [List.length_append, List.length_singleton]; omega)
              have HU := Lib.hid (fun w (hE : Env w) => (show Calls Tryd.prog 12 #[.string X2] w fun e w' => e = .returned (.tuple #[.string ⟨wd.toArray⟩, .int .i64 0]) ∧ Below w.heap.size w w' by have := HUN.out w hE; rw [hu, hq] at this; exact this))
              clear hq hu hXl hRl hXs HUN
              rcases him with ⟨rfl, rfl⟩ | rfl
              all_goals
                go_wp2_with fail
                refine HI.out.mono ?_
                rintro e w1 ⟨rfl, b1⟩
                have hown1 := owns_next hown b1
                have hbw1 := Below.up hbw (Nat.le_refl _) b1
                have hE1 := hEr.next b1
                go_wp2_with fail
                refine (HEND.out _ hE1).mono ?_
                rintro e w2 ⟨rfl, b2⟩
                have hown2 := owns_next hown1 b2
                have hbw2 := Below.up hbw1 (Nat.le_refl _) b2
                have hE2 := hE1.next b2
                go_wp2_with fail
                refine (HU.out _ hE2).mono ?_
                rintro e w3 ⟨rfl, b3⟩
                have hown3 := owns_next hown2 b3
                have hbw3 := Below.up hbw2 (Nat.le_refl _) b3
                have hE3 := hE2.next b3
                have hb3s := hbw3.size
                go_wp2_with fail
                go_region_law (refine step_append_own rfl _ _ 32 rfl w.heap.size 9 i0 (.string ⟨#[]⟩) 1 16 Tryd.underlying32 hi hz0 hz1 hz2 rfl (by decide) u4 _ _ rfl (hown3.alloc _) ⟨w3.heap.size, 0, none⟩ 1 1 [.string ⟨wd.toArray⟩] rfl rfl (cell_one_new _ _ _) (fun u hu => by simp at hu; subst hu; rfl) (by unfold maxLen; omega) (by omega) (by simp; omega) ?_; intro v' w4 hown' hgrow _)
                all_goals
                  obtain ⟨q1, q2, q3, _⟩ := append_keeps hown3 (undrawn hgrow) hbw3 hE
                  have HO := Lib.hid (show w4.ownsRow w.heap.size 9 1 v' (acc ++ [wd]).length (strCells (acc ++ [wd])) by rw [strCells_snoc]; simpa using hown')
                  clear hown' hgrow
                  go_wp2_with fail
                  first | rw [HRE.out (by trivial)] | skip
                  refine (trimLeft_any R w4).mono ?_
                  rintro e w5 ⟨rfl, b5⟩
                  have q4 := owns_next HO.out b5
                  have q5 := Below.up q1 (Nat.le_refl _) b5
                  have q6 := q2.next b5
                  clear HW HO q1 q2
                  go_wp2
                  exact ⟨⟨_, _, rfl, q4, q5, q6, ⟨HQ.out, fun c t => dropWhile_head Txt.blank _ c t⟩, HLL.out⟩, HLE.out⟩
      · have nc : ((c.toNat : Int) != 34) = true := byte_ne' _ 34 hc
        by_cases hq : (34 : UInt8) ∈ X.data.toList
        · have HQ := Lib.hid (show Txt.words s0.data.toList = none by rw [HW.out, words_bad c t HB.out hc (by rw [HTW.out, ← HXl.out]; exact hq)]; rfl)
          have HC := Lib.hid (fun w => contains_one X 34 w true (by simp [hq]))
          clear hq hc
          rcases him with ⟨rfl, rfl⟩ | rfl
          all_goals
            have hX := HXR.out.1
            go_wp2_with fail
            refine HI.out.mono ?_
            rintro e w1 ⟨rfl, b1⟩
            go_wp2_with fail
            refine (HC.out _).mono ?_
            rintro e w2 ⟨rfl, rfl⟩
            go_wp2
            go_ret2
            exact ⟨⟨_, rfl, by rw [HQ.out]; rfl⟩, Below.up hbw (Nat.le_refl _) b1⟩
        · have HQ := Lib.hid (show Txt.words s0.data.toList = (Txt.words (R.data.toList.dropWhile Txt.blank)).map ((acc ++ [X.data.toList]) ++ ·) by
            rw [HW.out, words_bare c t HB.out hc (by rw [HTW.out, ← HXl.out]; exact hq), HTW.out, HDW.out, ← HXl.out, ← HRl.out, words_trim, Option.map_map]
            congr 1; funext x; simp)
          have HC := Lib.hid (fun w => contains_one X 34 w false (by simp [hq]))
          clear hq hc
          have HRE := Lib.hid (fun (h : m = S.size) => (show ByteArray.empty = R by rw [← HXR.out.2, h]; simp))
          have HRm := Lib.hid (show R.data.toList.length = t.length + 1 - m by rw [HRl.out]; simp)
          rcases him with ⟨rfl, rfl⟩ | rfl
          all_goals
            have hX := HXR.out.1
            have hR := HXR.out.2
            go_wp2_with fail
            refine HI.out.mono ?_
            rintro e w1 ⟨rfl, b1⟩
            have hown1 := owns_next hown b1
            have hbw1 := Below.up hbw (Nat.le_refl _) b1
            have hE1 := hEr.next b1
            go_wp2_with fail
            refine (HC.out _).mono ?_
            rintro e w2 ⟨rfl, rfl⟩
            have hb1s := hbw1.size
            go_wp2_with fail
            go_region_law (refine step_append_own rfl _ _ 32 rfl w.heap.size 9 i0 (.string ⟨#[]⟩) 1 16 Tryd.underlying32 hi hz0 hz1 hz2 rfl (by decide) u4 _ _ rfl (hown1.alloc _) ⟨w1.heap.size, 0, none⟩ 1 1 [.string X] rfl rfl (cell_one_new _ _ _) (fun u hu => by simp at hu; subst hu; rfl) (by unfold maxLen; omega) (by omega) (by simp; omega) ?_; intro v' w2 hown' hgrow _)
            all_goals
              obtain ⟨q1, q2, q3, _⟩ := append_keeps hown1 (undrawn hgrow) hbw1 hE
              have HO := Lib.hid (show w2.ownsRow w.heap.size 9 1 v' (acc ++ [X.data.toList]).length (strCells (acc ++ [X.data.toList])) by rw [strCells_snoc]; simpa using hown')
              clear hown' hgrow
              go_wp2_with fail
              first | rw [HRE.out (by trivial)] | skip
              refine (trimLeft_any R w2).mono ?_
              rintro e w3 ⟨rfl, b3⟩
              have q4 := owns_next HO.out b3
              have q5 := Below.up q1 (Nat.le_refl _) b3
              have q6 := q2.next b3
              have HLE := Lib.hid (show (⟨(R.data.toList.dropWhile Txt.blank).toArray⟩ : ByteArray).size < S.size by
                have h1 := dropWhile_len Txt.blank R.data.toList
                have h2 := HRm.out
                rw [Lib.size_eq]; simp only; omega)
              have HLL := Lib.hid (show (acc ++ [X.data.toList]).length + (R.data.toList.dropWhile Txt.blank).length ≤ s0.size by
                have h1 := dropWhile_len Txt.blank R.data.toList
                have h2 := HRm.out
                simp only [List.length_append, List.length_singleton]; omega)
              clear HRm HXl HRl HTW HDW HSl HSZ HW HB HO q1 q2
              go_wp2
              exact ⟨⟨_, _, rfl, q4, q5, q6, ⟨HQ.out, fun c t => dropWhile_head Txt.blank _ c t⟩, HLL.out⟩, HLE.out⟩
end Go.Proofs.YthnhnaaihhagaaaDoor
