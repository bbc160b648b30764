/-
  The walks of strings.Cut at a sign of one byte, and of strconv.ParseUint at two signs, base 16.
-/
import Derived.Test.YthnhnaaihhagaaaDoorRefInner
import Derived.Lib.ConvBytes
namespace Go.Proofs.YthnhnaaihhagaaaDoor
open Go.RowKit Go.Shelf

theorem idx_none (l : List UInt8) (c : UInt8) (h : c ∉ l) : Lib.indexByte l c = -1 := by
  by_cases h1 : Lib.indexByte l c < 0
  · have := Lib.indexByte_ge l c; omega
  · have h1 : 0 ≤ Lib.indexByte l c := by omega
    obtain ⟨o, ho⟩ := Int.eq_ofNat_of_zero_le h1
    have := (Lib.indexByte_some ho).1
    exact absurd (List.mem_of_getElem? this) h
theorem idx_some (a : List UInt8) (c : UInt8) (r : List UInt8) (h : c ∉ a) : Lib.indexByte (a ++ c :: r) c = a.length := by
  by_cases h1 : Lib.indexByte (a ++ c :: r) c < 0
  · have h2 := Lib.indexByte_ge (a ++ c :: r) c
    have h3 : Lib.indexByte (a ++ c :: r) c = -1 := by omega
    exact absurd (by simp) (Lib.indexByte_none h3 a.length)
  · have h1 : 0 ≤ Lib.indexByte (a ++ c :: r) c := by omega
    obtain ⟨o, ho⟩ := Int.eq_ofNat_of_zero_le h1
    have ⟨h4, h5⟩ := Lib.indexByte_some ho
    rw [ho]
    have e : o = a.length := by
      rcases Nat.lt_trichotomy o a.length with g | g | g
      · rw [List.getElem?_append_left g] at h4
        exact absurd (List.mem_of_getElem? h4) h
      · exact g
      · exact absurd (by simp) (h5 a.length g)
    rw [e]

set_option maxHeartbeats 1000000 in
set_option maxRecDepth 100000 in
theorem liteCut_none (s : ByteArray) (c : UInt8) (w : World) (h : c ∉ s.data.toList) :
    Calls Tryd.prog 59 #[.string s, .string ⟨#[c]⟩] w fun e w' => e = .returned (.tuple #[.string s, .string ⟨#[]⟩, .bool false]) ∧ ∃ n, w' = w.drewN n := by
  have hi := Lib.hid (idx_none _ _ h)
  clear h
  go_enter Tryd.func59, Tryd.ntmps59
  go_wp2_with fail
  refine (Tryd.stringslite_Index_one s c w).mono ?_
  rintro e W ⟨rfl, rfl⟩
  rw [hi.out]
  go_wp2
  go_ret3
  exact ⟨rfl, 0, rfl⟩
set_option maxHeartbeats 1000000 in
set_option maxRecDepth 100000 in
theorem liteCut_some (s : ByteArray) (c : UInt8) (o : Nat) (w : World) (hidx : Lib.indexByte s.data.toList c = o) (ho : o < s.size) (hs : s.size ≤ 1000000000000) :
    Calls Tryd.prog 59 #[.string s, .string ⟨#[c]⟩] w fun e w' => e = .returned (.tuple #[.string (s.extract 0 o), .string (s.extract (o + 1) s.size), .bool true]) ∧ ∃ n, w' = w.drewN n := by
  have hi := Lib.hid hidx
  clear hidx
  go_enter Tryd.func59, Tryd.ntmps59
  go_wp2_with fail
  refine (Tryd.stringslite_Index_one s c w).mono ?_
  rintro e W ⟨rfl, rfl⟩
  rw [hi.out]
  have f1 : (0 : Int) ≤ (o : Int) + 1 := by omega
  have f2 : (o : Int) + 1 ≤ s.size := by omega
  go_wp2
  go_quiet (fail)
  go_wp2
  go_ret3
  exact ⟨rfl, _, rfl⟩

theorem cut_none (s : ByteArray) (c : UInt8) (w : World) (h : c ∉ s.data.toList) :
    Calls Tryd.prog 45 #[.string s, .string ⟨#[c]⟩] w fun e w' => e = .returned (.tuple #[.string s, .string ⟨#[]⟩, .bool false]) ∧ ∃ n, w' = w.drewN n := by
  go_enter Tryd.func45, Tryd.ntmps45
  go_wp2_with fail
  refine (liteCut_none s c w h).mono ?_
  rintro e W ⟨rfl, n, rfl⟩
  go_wp2
  go_ret3
  exact ⟨rfl, n, rfl⟩
theorem cut_some (s : ByteArray) (c : UInt8) (o : Nat) (w : World) (hidx : Lib.indexByte s.data.toList c = o) (ho : o < s.size) (hs : s.size ≤ 1000000000000) :
    Calls Tryd.prog 45 #[.string s, .string ⟨#[c]⟩] w fun e w' => e = .returned (.tuple #[.string (s.extract 0 o), .string (s.extract (o + 1) s.size), .bool true]) ∧ ∃ n, w' = w.drewN n := by
  go_enter Tryd.func45, Tryd.ntmps45
  go_wp2_with fail
  refine (liteCut_some s c o w hidx ho hs).mono ?_
  rintro e W ⟨rfl, n, rfl⟩
  go_wp2
  go_ret3
  exact ⟨rfl, n, rfl⟩

def pF (acc : Nat) : List UInt8 → Option Nat
  | [] => some acc
  | c :: t => match Txt.dgP c with
    | none => none
    | some x => pF (16 * acc + x) t
theorem pF_none (acc : Nat) (c : UInt8) (t : List UInt8) (h : Txt.dgP c = none) : pF acc (c :: t) = none := by simp only [pF, h]
theorem pF_some (acc : Nat) (c : UInt8) (t : List UInt8) (x : Nat) (h : Txt.dgP c = some x) : pF acc (c :: t) = pF (16 * acc + x) t := by simp only [pF, h]
def pV : Option Nat → Value
  | some x => .tuple #[.int .u64 (x : Int), .nilIface]
  | none => .tuple #[.int .u64 0, .iface 89 (.int .i64 2)]
set_option maxRecDepth 100000 in
theorem lower_val : ∀ c : Fin 256, bits .or .u8 ((c.val : Nat) : Int) 32 = ((c.val ||| 32 : Nat) : Int) := by decide
set_option maxRecDepth 100000 in
theorem lower_digit : ∀ c : Fin 256, ∀ x, Txt.dgP c.val.toUInt8 = some x → (48 ≤ c.val ∧ c.val ≤ 57 ∧ x = c.val - 48) ∨ (¬ (48 ≤ c.val ∧ c.val ≤ 57) ∧ c.val ||| 32 = 87 + x ∧ 10 ≤ x ∧ x < 16 ∧ c.val ≠ 95) := by
  intro c x h
  have key : ∀ c : Fin 256, (match Txt.dgP c.val.toUInt8 with | some x => decide ((48 ≤ c.val ∧ c.val ≤ 57 ∧ x = c.val - 48) ∨ (¬ (48 ≤ c.val ∧ c.val ≤ 57) ∧ c.val ||| 32 = 87 + x ∧ 10 ≤ x ∧ x < 16 ∧ c.val ≠ 95)) | none => true) = true := by decide
  have := key c
  rw [h] at this
  exact of_decide_eq_true this
set_option maxRecDepth 100000 in
theorem lower_none : ∀ c : Fin 256, Txt.dgP c.val.toUInt8 = none → ¬ (48 ≤ c.val ∧ c.val ≤ 57) ∧ (c.val ||| 32 < 97 ∨ 122 < c.val ||| 32 ∨ (103 ≤ c.val ||| 32 ∧ c.val ||| 32 ≤ 122)) := by decide

set_option maxHeartbeats 2000000 in
set_option maxRecDepth 100000 in
theorem parse16 (s : ByteArray) (w : World) (h2 : s.size = 2) :
    Calls Tryd.prog 60 #[.string s, .int .i64 16, .int .i64 8] w fun e w' => e = .returned (pV (pF 0 s.data.toList)) ∧ w' = Lib.bytesWorld w 5 s := by
  have hemp : s.toList.isEmpty = false := by
    cases e : s.toList with
    | nil =>
      have : s.size = 0 := by rw [Lib.size_eq, ← Lib.toList_data, e]; rfl
      omega
    | cons => rfl
  have hcv := Lib.run_convert_string_bytes (P := Tryd.prog) w 9 39 5 s (u := .string) Tryd.underlying9 Tryd.underlying39 Tryd.underlying5
  have hB : ∀ j, j < s.size → (Lib.bytesWorld w 5 s).cell? ⟨w.heap.size, j, none⟩ = some (.int .u8 (s.data.toList.getD j 0).toNat) := fun j hj => Lib.bytesWorld_cell w 5 s j hj
  obtain ⟨W1, hW1⟩ : ∃ W1, W1 = Lib.bytesWorld w 5 s := ⟨_, rfl⟩
  rw [← hW1] at hcv hB ⊢
  clear hW1
  have HB := Lib.hid hB; have H2 := Lib.hid h2
  obtain ⟨l, hl⟩ : ∃ l, l = s.data.toList := ⟨_, rfl⟩
  have hll : l.length = 2 := by rw [hl, ← Lib.size_eq]; exact h2
  rw [← hl] at HB ⊢
  have hs1 : 2 ≤ s.size := by omega
  have hs2 : s.size ≤ 2 := by omega
  clear hB h2 hl
  have hmv : IntKind.u64.wrap (IntKind.u64.wrap 256 - 1) = 255 := by
    rw [IntKind.wrap_u64, IntKind.wrap_u64]
    decide
  have HLL := Lib.hid hll
  clear hll
  go_enter Tryd.func60, Tryd.ntmps60
  go_wp2
  go_loop [12, 13, 101] (fun vu vn vi => ∃ (k acc : Nat) (a : Int), vu = .bool false ∧ vn = .int .u64 a ∧ vi = .int .i64 k ∧ k ≤ 2 ∧ Hid (a = acc ∧ acc < 16 ^ k ∧ pF 0 l = pF acc (l.drop k))) (fun _ _ vi => 2 - (intOf vi).toNat)
  case atStart => exact ⟨0, 0, 0, rfl, rfl, rfl, by omega, rfl, by simp, rfl⟩
  case round =>
    obtain ⟨k, acc, a, rfl, rfl, rfl, hk, hh⟩ := hrel
    have ha0 : 0 ≤ a := by have := hh.out.1; omega
    have HH := Lib.hid hh.out.2.2
    have HA := Lib.hid hh.out.1
    by_cases hlt : k < 2
    · have hcell := HB.out k (by omega)
      have hac2 : a < 16 := by
        have h1 := hh.out.2.1
        have h0 := hh.out.1
        by_cases hk0 : k = 0
        · rw [hk0] at h1; simp at h1; omega
        · have : k = 1 := by omega
          rw [this] at h1; simp at h1; omega
      have hpow := hh.out.2.1
      have HPW := Lib.hid hpow
      clear hh hpow
      obtain ⟨c, hc⟩ : ∃ c, c = l.getD k 0 := ⟨_, rfl⟩
      have HD := Lib.hid (show l.drop k = c :: l.drop (k + 1) by
        rw [List.drop_eq_getElem_cons (by have := HLL.out; omega), hc, List.getD_eq_getElem?_getD, List.getElem?_eq_getElem (by have := HLL.out; omega)]; rfl)
      rw [← hc] at hcell
      clear hc
      have hc8 := c.toNat_lt
      have hlow := lower_val ⟨c.toNat, hc8⟩
      have hlo : ((c.toNat ||| 32 : Nat) : Int) ≤ 255 ∧ (0 : Int) ≤ ((c.toNat ||| 32 : Nat) : Int) := by
        have : c.toNat ||| 32 < 2 ^ 8 := Nat.or_lt_two_pow hc8 (by decide)
        omega
      simp only at hlow
      obtain ⟨L, hL⟩ : ∃ L : Nat, L = c.toNat ||| 32 := ⟨_, rfl⟩
      rw [← hL] at hlow hlo
      obtain ⟨hlo1, hlo2⟩ := hlo
      have low : ∀ w, Calls Tryd.prog 71 #[.int .u8 (c.toNat : Int)] w fun e w' => e = .returned (.int .u8 (L : Int)) ∧ w = w' := fun w => by
        have h := Tryd.internal_strconv_lower (c.toNat : Int) w
        rw [hlow] at h
        exact h.mono fun e w' h => ⟨h.1, h.2.symm⟩
      have LOW := Lib.hid low
      clear low hlow
      cases hd : Txt.dgP c with
      | none =>
        have hn := lower_none ⟨c.toNat, hc8⟩ (by rw [show (⟨c.toNat, hc8⟩ : Fin 256).val.toUInt8 = c by simp]; exact hd)
        rw [show (⟨c.toNat, hc8⟩ : Fin 256).val = c.toNat from rfl, ← hL] at hn
        have HQ := Lib.hid (show pF 0 l = none by rw [HH.out, HD.out, pF_none _ _ _ hd])
        clear hd hL
        obtain ⟨hn1, hn2⟩ := hn
        rcases (show c.toNat < 48 ∨ 57 < c.toNat by omega) with hc48 | hc48 <;> rcases hn2 with hL1 | hL1 | ⟨hL1, hL2⟩
        all_goals
          clear hn1
          rcases Bool.eq_false_or_eq_true ((c.toNat : Int) == 95) with h95 | h95
        all_goals
          go_wp2_with (go_at_call 71; refine (LOW.out _).mono ?_; rintro e w' ⟨rfl, rfl⟩)
          go_ret2
          exact ⟨by rw [HQ.out]; rfl, rfl⟩
      | some x =>
        have hn := lower_digit ⟨c.toNat, hc8⟩ x (by rw [show (⟨c.toNat, hc8⟩ : Fin 256).val.toUInt8 = c by simp]; exact hd)
        rw [show (⟨c.toNat, hc8⟩ : Fin 256).val = c.toNat from rfl, ← hL] at hn
        have HQ := Lib.hid (show pF 0 l = pF (16 * acc + x) (l.drop (k + 1)) by rw [HH.out, HD.out, pF_some _ _ _ _ hd])
        clear hd hL
        have hx16 : x < 16 := by omega
        have HP := Lib.hid (show 16 * acc + x < 16 ^ (k + 1) by have := HPW.out; rw [Nat.pow_succ]; omega)
        rcases hn with ⟨h48, h57, hx⟩ | ⟨hn1, hLx, h10, _, hn95⟩
        · have e1 : (c.toNat : Int) - 48 = x := by omega
          have h95 : ((c.toNat : Int) == 95) = false := by rw [beq_eq_false_iff_ne]; omega
          have HE := Lib.hid e1; clear e1 hx
          go_wp2
          refine ⟨⟨k + 1, 16 * acc + x, _, rfl, rfl, by go_num, by omega, by rw [HA.out, HE.out, Int.mul_comm]; rfl, HP.out, HQ.out⟩, by simp [intOf]; omega⟩
        · rcases (show c.toNat < 48 ∨ 57 < c.toNat by omega) with hc48 | hc48
          all_goals
            have hL1 : 97 ≤ L := by omega
            have hL2 : L ≤ 102 := by omega
            have HE := Lib.hid (show (L : Int) - 97 + 10 = x by omega)
            have h95 : ((c.toNat : Int) == 95) = false := by rw [beq_eq_false_iff_ne]; omega
            clear hLx hn1 hn95
            go_wp2_with (go_at_call 71; refine (LOW.out _).mono ?_; rintro e w' ⟨rfl, rfl⟩)
            refine ⟨⟨k + 1, 16 * acc + x, _, rfl, rfl, by go_num, by omega, by rw [HA.out, HE.out, Int.mul_comm]; rfl, HP.out, HQ.out⟩, by simp [intOf]; omega⟩
    · have : k = 2 := by omega
      subst this
      clear hh
      have HQ := Lib.hid (show pF 0 l = some acc by rw [HH.out, List.drop_eq_nil_of_le (by have := HLL.out; omega)]; rfl)
      go_wp2
      go_ret2
      exact ⟨by rw [HQ.out, HA.out]; rfl, rfl⟩
end Go.Proofs.YthnhnaaihhagaaaDoor
