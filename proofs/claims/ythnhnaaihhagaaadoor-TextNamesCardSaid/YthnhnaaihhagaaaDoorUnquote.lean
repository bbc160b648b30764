/-
  The walks of text.Unquote and of the reference's Unquote.
-/
import Derived.Test.YthnhnaaihhagaaaDoorInner
namespace Go.Proofs.YthnhnaaihhagaaaDoor
open Go.RowKit Go.Shelf

/-- What Unquote answers. -/
def eV : Option (List UInt8) → Value
  | some t => .tuple #[.string ⟨t.toArray⟩, .int .i64 0]
  | none => .tuple #[.string ⟨#[]⟩, .int .i64 2]
theorem eq_of_list {a b : ByteArray} (h : a.data.toList = b.data.toList) : a = b := by
  cases a; cases b; simp only [ByteArray.mk.injEq]; exact Array.toList_inj.1 h
theorem byte_ne' (d : UInt8) (k : Nat) (h : d ≠ k.toUInt8) (hk : k < 256 := by decide) : ((d.toNat : Int) != (k : Int)) = true := by
  rw [bne, byte_ne d k h hk]; rfl
theorem headD_get (s : ByteArray) (h : 0 < s.size) : s.data.toList.headD 0 = s[0] := by
  have := drop_head s 0 h
  rw [List.drop_zero] at this
  rw [this]; rfl
theorem lastD_get (s : ByteArray) (h : 0 < s.size) : s.data.toList.getLastD 0 = s[s.size - 1] := by
  have hl : s.data.toList.length = s.size := (Lib.size_eq s).symm
  rw [List.getLastD_eq_getLast?, List.getLast?_eq_getElem?, hl, List.getElem?_eq_getElem (by omega)]
  rfl
theorem unq_short (dg : UInt8 → Option Nat) (s : ByteArray) (h : s.size < 2) : Txt.unq dg s.data.toList = none := by
  rw [Txt.unq, if_pos (.inl (by rw [← Lib.size_eq]; exact h))]
theorem unq_first (dg : UInt8 → Option Nat) (s : ByteArray) (h : 2 ≤ s.size) (h0 : s[0]'(by omega) ≠ 34) : Txt.unq dg s.data.toList = none := by
  rw [Txt.unq, if_pos (.inr (.inl (by rw [headD_get s (by omega)]; exact h0)))]
theorem unq_last (dg : UInt8 → Option Nat) (s : ByteArray) (h : 2 ≤ s.size) (h0 : s[s.size - 1]'(by omega) ≠ 34) : Txt.unq dg s.data.toList = none := by
  rw [Txt.unq, if_pos (.inr (.inr (by rw [lastD_get s (by omega)]; exact h0)))]
theorem unq_mid (dg : UInt8 → Option Nat) (s : ByteArray) (h : 2 ≤ s.size) (h0 : s[0]'(by omega) = 34) (hl : s[s.size - 1]'(by omega) = 34) :
    Txt.unq dg s.data.toList = match Txt.inner dg (s.extract 1 (s.size - 1)).data.toList with
      | some t => if Txt.quote t = s.data.toList then some t else none
      | none => none := by
  rw [Txt.unq, if_neg (by rw [headD_get s (by omega), lastD_get s (by omega), h0, hl, ← Lib.size_eq]; simp; omega), Lib.extract_data, ← Lib.size_eq, show s.size - 1 - 1 = s.size - 2 by omega]
  rfl
theorem inner_len (dg : UInt8 → Option Nat) : ∀ (n : Nat) (l t : List UInt8), l.length ≤ n → Txt.inner dg l = some t → t.length ≤ l.length
  | _, [], t, _, h => by cases h; simp
  | 0, c :: l, t, hn, _ => by simp at hn
  | n + 1, c :: l, t, hn, h => by
    have step : ∀ (c' : UInt8) (l' : List UInt8), l'.length ≤ l.length → (Txt.inner dg l').map (c' :: ·) = some t → t.length ≤ (c :: l).length := by
      intro c' l' hl' he
      cases e : Txt.inner dg l' with
      | none => rw [e] at he; cases he
      | some u =>
        rw [e] at he
        have := inner_len dg n l' u (by simp at hn; omega) e
        have e2 : c' :: u = t := Option.some.inj he
        rw [← e2]; simp; omega
    by_cases hc : c = 92
    · subst hc
      match l with
      | [] => cases h
      | d :: l =>
        by_cases h1 : d = 34 ∨ d = 92
        · rw [inner_sign dg d l h1] at h; exact step _ _ (by simp) h
        · by_cases h2 : d = 110
          · subst h2; rw [inner_n] at h; exact step _ _ (by simp) h
          · by_cases h3 : d = 120
            · subst h3
              match l with
              | [] => rw [inner_short dg [] (by simp)] at h; cases h
              | [x] => rw [inner_short dg [x] (by simp)] at h; cases h
              | a :: b :: l =>
                rw [inner_x] at h
                cases ea : dg a with
                | none => simp only [ea] at h; cases h
                | some x => cases eb : dg b with
                  | none => simp only [ea, eb] at h; cases h
                  | some y => simp only [ea, eb] at h; exact step _ _ (by simp; omega) h
            · rw [inner_other dg d l h1 h2 h3] at h; cases h
    · rw [inner_plain dg c l hc] at h; exact step _ _ (by simp) h

set_option maxHeartbeats 2000000 in
set_option maxRecDepth 100000 in
theorem unquote_any (s : ByteArray) (w : World) (hE : Env w) (hs : s.size ≤ 100000000000) :
    Calls Tryd.prog 12 #[.string s] w fun e w' => e = .returned (eV (Txt.unq Txt.dgP s.data.toList)) ∧ Below w.heap.size w w' := by
  by_cases h2 : s.size < 2
  · have HQ := Lib.hid (unq_short Txt.dgP s h2)
    go_enter Tryd.func12, Tryd.ntmps12
    go_wp2
    go_ret2
    exact ⟨by rw [HQ.out]; rfl, Below.refl _ _⟩
  have hs2 : 2 ≤ s.size := by omega
  clear h2
  have hs0 : 0 < s.size := by omega
  have hsl : s.size - 1 < s.size := by omega
  by_cases h0 : s[0] = 34
  · have i0 : s[0].toNat = 34 := by rw [h0]; rfl
    by_cases hl : s[s.size - 1] = 34
    · have il : s[s.size - 1].toNat = 34 := by rw [hl]; rfl
      have HU := Lib.hid (unq_mid Txt.dgP s hs2 h0 hl)
      obtain ⟨M, hM⟩ : ∃ M, s.extract 1 (s.size - 1) = M := ⟨_, rfl⟩
      rw [hM] at HU
      have hMs : M.size ≤ 1000000000000 := by rw [← hM]; simp [ByteArray.size_extract]; omega
      have f1 : (0 : Int) ≤ (s.size : Int) - 1 := by omega
      have hin := inner_any M
      clear h0 hl
      rcases Option.eq_none_or_eq_some (Txt.inner Txt.dgP M.data.toList) with hi | ⟨t, hi⟩
      · have HQ := Lib.hid (show Txt.unq Txt.dgP s.data.toList = none by rw [HU.out, hi])
        rw [hi] at hin
        have HI := Lib.hid hin
        clear hi hin
        go_enter Tryd.func12, Tryd.ntmps12
        go_wp2_with fail
        refine (HI.out _ hE hMs).mono ?_
        rintro e w1 ⟨rfl, b1⟩
        simp only [optV]
        go_wp2
        go_ret2
        exact ⟨by rw [HQ.out]; rfl, b1⟩
      · have hU := HU.out
        rw [hi] at hU
        simp only at hU
        rw [hi] at hin
        have HI := Lib.hid hin
        have hts := inner_len Txt.dgP _ _ _ (Nat.le_refl _) hi
        rw [← Lib.size_eq] at hts
        have htt : (⟨t.toArray⟩ : ByteArray).data.toList = t := by simp
        have htz : (⟨t.toArray⟩ : ByteArray).size ≤ 1000000000000 := by rw [Lib.size_eq, htt]; omega
        have HQU := Lib.hid hU
        clear hi hin hts hU htt
        by_cases hq : Txt.quote t = s.data.toList
        · have hqb : (Txt.quote t == s.toList) = true := by rw [Lib.toList_data, hq]; simp
          have HQ := Lib.hid (show Txt.unq Txt.dgP s.data.toList = some t by rw [HQU.out, if_pos hq])
          clear hq
          go_enter Tryd.func12, Tryd.ntmps12
          go_wp2_with fail
          refine (HI.out _ hE hMs).mono ?_
          rintro e w1 ⟨rfl, b1⟩
          simp only [optV]
          have hE1 := hE.next b1
          go_wp2_with fail
          refine (quote_any ⟨t.toArray⟩ _ hE1 htz).mono ?_
          rintro e w2 ⟨rfl, b2⟩
          rw [show (⟨t.toArray⟩ : ByteArray).data.toList = t by simp]
          go_wp2
          go_ret2
          exact ⟨by rw [HQ.out]; rfl, Below.up b1 (Nat.le_refl _) b2⟩
        · have hqb : (Txt.quote t == s.toList) = false := by rw [Lib.toList_data, beq_eq_false_iff_ne]; exact hq
          have HQ := Lib.hid (show Txt.unq Txt.dgP s.data.toList = none by rw [HQU.out, if_neg hq])
          clear hq
          go_enter Tryd.func12, Tryd.ntmps12
          go_wp2_with fail
          refine (HI.out _ hE hMs).mono ?_
          rintro e w1 ⟨rfl, b1⟩
          simp only [optV]
          have hE1 := hE.next b1
          go_wp2_with fail
          refine (quote_any ⟨t.toArray⟩ _ hE1 htz).mono ?_
          rintro e w2 ⟨rfl, b2⟩
          rw [show (⟨t.toArray⟩ : ByteArray).data.toList = t by simp]
          go_wp2
          go_ret2
          exact ⟨by rw [HQ.out]; rfl, Below.up b1 (Nat.le_refl _) b2⟩
    · have nl : ((s[s.size - 1].toNat : Int) != 34) = true := byte_ne' _ 34 hl
      have HQ := Lib.hid (unq_last Txt.dgP s hs2 hl)
      clear hl h0
      go_enter Tryd.func12, Tryd.ntmps12
      go_wp2
      go_ret2
      exact ⟨by rw [HQ.out]; rfl, Below.refl _ _⟩
  · have nl : ((s[0].toNat : Int) != 34) = true := byte_ne' _ 34 h0
    have HQ := Lib.hid (unq_first Txt.dgP s hs2 h0)
    clear h0
    go_enter Tryd.func12, Tryd.ntmps12
    go_wp2
    go_ret2
    exact ⟨by rw [HQ.out]; rfl, Below.refl _ _⟩

set_option maxHeartbeats 2000000 in
set_option maxRecDepth 100000 in
theorem refUnquote_any (s : ByteArray) (w : World) (hE : Env w) (hs : s.size ≤ 100000000000) :
    Calls Tryd.prog 13 #[.string s] w fun e w' => e = .returned (eV (Txt.unq Txt.dgR s.data.toList)) ∧ Below w.heap.size w w' := by
  by_cases h2 : s.size < 2
  · have HQ := Lib.hid (unq_short Txt.dgR s h2)
    go_enter Tryd.func13, Tryd.ntmps13
    go_wp2
    go_ret2
    exact ⟨by rw [HQ.out]; rfl, Below.refl _ _⟩
  have hs2 : 2 ≤ s.size := by omega
  clear h2
  have hs0 : 0 < s.size := by omega
  have hsl : s.size - 1 < s.size := by omega
  by_cases h0 : s[0] = 34
  · have i0 : s[0].toNat = 34 := by rw [h0]; rfl
    by_cases hl : s[s.size - 1] = 34
    · have il : s[s.size - 1].toNat = 34 := by rw [hl]; rfl
      have HU := Lib.hid (unq_mid Txt.dgR s hs2 h0 hl)
      obtain ⟨M, hM⟩ : ∃ M, s.extract 1 (s.size - 1) = M := ⟨_, rfl⟩
      rw [hM] at HU
      have hMs : M.size ≤ 1000000000000 := by rw [← hM]; simp [ByteArray.size_extract]; omega
      have f1 : (0 : Int) ≤ (s.size : Int) - 1 := by omega
      have hin := refInner_any M
      clear h0 hl
      rcases Option.eq_none_or_eq_some (Txt.inner Txt.dgR M.data.toList) with hi | ⟨t, hi⟩
      · have HQ := Lib.hid (show Txt.unq Txt.dgR s.data.toList = none by rw [HU.out, hi])
        rw [hi] at hin
        have HI := Lib.hid hin
        clear hi hin
        go_enter Tryd.func13, Tryd.ntmps13
        go_wp2_with fail
        refine (HI.out _ hMs).mono ?_
        rintro e w1 ⟨rfl, b1⟩
        simp only [optV]
        go_wp2
        go_ret2
        exact ⟨by rw [HQ.out]; rfl, b1⟩
      · have hU := HU.out
        rw [hi] at hU
        simp only at hU
        rw [hi] at hin
        have HI := Lib.hid hin
        have hts := inner_len Txt.dgR _ _ _ (Nat.le_refl _) hi
        rw [← Lib.size_eq] at hts
        have htt : (⟨t.toArray⟩ : ByteArray).data.toList = t := by simp
        have htz : (⟨t.toArray⟩ : ByteArray).size ≤ 1000000000000 := by rw [Lib.size_eq, htt]; omega
        have HQU := Lib.hid hU
        clear hi hin hts hU htt
        by_cases hq : Txt.quote t = s.data.toList
        · have hqb : (Txt.quote t == s.toList) = true := by rw [Lib.toList_data, hq]; simp
          have HQ := Lib.hid (show Txt.unq Txt.dgR s.data.toList = some t by rw [HQU.out, if_pos hq])
          clear hq
          go_enter Tryd.func13, Tryd.ntmps13
          go_wp2_with fail
          refine (HI.out _ hMs).mono ?_
          rintro e w1 ⟨rfl, b1⟩
          simp only [optV]
          have hE1 := hE.next b1
          go_wp2_with fail
          refine (refQuote_any ⟨t.toArray⟩ _ htz).mono ?_
          rintro e w2 ⟨rfl, n, hw2⟩
          have b2 : Below w1.heap.size w1 w2 := by rw [hw2]; exact below_drewN (Below.refl _ _) n
          clear hw2
          rw [show (⟨t.toArray⟩ : ByteArray).data.toList = t by simp]
          go_wp2
          go_ret2
          exact ⟨by rw [HQ.out]; rfl, Below.up b1 (Nat.le_refl _) b2⟩
        · have hqb : (Txt.quote t == s.toList) = false := by rw [Lib.toList_data, beq_eq_false_iff_ne]; exact hq
          have HQ := Lib.hid (show Txt.unq Txt.dgR s.data.toList = none by rw [HQU.out, if_neg hq])
          clear hq
          go_enter Tryd.func13, Tryd.ntmps13
          go_wp2_with fail
          refine (HI.out _ hMs).mono ?_
          rintro e w1 ⟨rfl, b1⟩
          simp only [optV]
          have hE1 := hE.next b1
          go_wp2_with fail
          refine (refQuote_any ⟨t.toArray⟩ _ htz).mono ?_
          rintro e w2 ⟨rfl, n, hw2⟩
          have b2 : Below w1.heap.size w1 w2 := by rw [hw2]; exact below_drewN (Below.refl _ _) n
          clear hw2
          rw [show (⟨t.toArray⟩ : ByteArray).data.toList = t by simp]
          go_wp2
          go_ret2
          exact ⟨by rw [HQ.out]; rfl, Below.up b1 (Nat.le_refl _) b2⟩
    · have nl : ((s[s.size - 1].toNat : Int) != 34) = true := byte_ne' _ 34 hl
      have HQ := Lib.hid (unq_last Txt.dgR s hs2 hl)
      clear hl h0
      go_enter Tryd.func13, Tryd.ntmps13
      go_wp2
      go_ret2
      exact ⟨by rw [HQ.out]; rfl, Below.refl _ _⟩
  · have nl : ((s[0].toNat : Int) != 34) = true := byte_ne' _ 34 h0
    have HQ := Lib.hid (unq_first Txt.dgR s hs2 h0)
    clear h0
    go_enter Tryd.func13, Tryd.ntmps13
    go_wp2
    go_ret2
    exact ⟨by rw [HQ.out]; rfl, Below.refl _ _⟩
end Go.Proofs.YthnhnaaihhagaaaDoor
