/-
  The walk of the reference's Quote.
-/
import Derived.Test.YthnhnaaihhagaaaDoorRunes
import Derived.Test.YthnhnaaihhagaaaDoorQuote
import Derived.Deep.QuietTactic
import Derived.BigQuiet
namespace Go.Proofs.YthnhnaaihhagaaaDoor
open Go.RowKit Go.Shelf

/-- A string value by its bytes. -/
def Str (v : Value) (l : List UInt8) : Prop := ∃ o : ByteArray, v = .string o ∧ o.data.toList = l
theorem app_list (a b : ByteArray) : (a ++ b).data.toList = a.data.toList ++ b.data.toList := by simp
theorem str_mk (o : ByteArray) (l : List UInt8) (h : o.data.toList = l) : (Value.string o) = .string ⟨l.toArray⟩ := by subst h; simp

theorem hex_cut : ∀ k : Fin 16, ((⟨#[48, 49, 50, 51, 52, 53, 54, 55, 56, 57, 97, 98, 99, 100, 101, 102]⟩ : ByteArray).extract k.val (k.val + 1)).data.toList = [Txt.hexd k.val] := by decide

set_option maxHeartbeats 1000000 in
set_option maxRecDepth 100000 in
theorem refQuote_any (s : ByteArray) (w : World) (hs : s.size ≤ 1000000000000) :
    Calls Tryd.prog 15 #[.string s] w fun e w' => e = .returned (.string ⟨(Txt.quote s.data.toList).toArray⟩) ∧ ∃ n, w' = w.drewN n := by
  go_enter Tryd.func15, Tryd.ntmps15
  go_wp2
  go_loopw [3, 4] (fun v i wr => ∃ (pos : Nat) (o : ByteArray), i = .int .i64 pos ∧ v = .string o ∧ (∃ n, wr = w.drewN n) ∧ o.data.toList ++ Txt.qtoks (Txt.toks (s.data.toList.drop pos)) = 34 :: Txt.qbody s.data.toList ∧ o.size ≤ 4 * pos + 1 ∧ pos ≤ s.size) (fun _ i _ => s.size - (intOf i).toNat)
  case atStart =>
    exact ⟨0, _, rfl, rfl, ⟨0, rfl⟩, rfl, by simp [ByteArray.size], by omega⟩
  case round =>
    obtain ⟨pos, o, rfl, rfl, ⟨nd, rfl⟩, hacc, hal, hps⟩ := hrel
    have HA := Lib.hid hacc; clear hacc
    by_cases hp : pos < s.size
    · obtain ⟨r, n, ht, htk, hn1, hn2, hsh⟩ := toks_at s pos hp
      have HT := Lib.hid htk; have HK := Lib.hid ht; have HS := Lib.hid hsh
      clear htk ht hsh
      go_wp2_with fail
      refine (size_any (s.extract pos s.size) _ (by rw [extract_size s pos hps]; omega) (by rw [extract_size s pos hps]; omega)).mono ?_
      rintro e W1 ⟨rfl, rfl⟩
      rw [extract_drop, HK.out]
      have FIN := Lib.hid (show ∀ (W : World) (o' : ByteArray), o'.data.toList = o.data.toList ++ Txt.qtok (r, (s.data.toList.drop pos).take n) → (∃ n, W = w.drewN n) →
          (∃ (pos_1 : Nat) (o_1 : ByteArray), Value.int IntKind.i64 ((pos : Int) + (n : Int)) = Value.int IntKind.i64 pos_1 ∧ Value.string o' = Value.string o_1 ∧ (∃ n, W = w.drewN n) ∧
            o_1.data.toList ++ Txt.qtoks (Txt.toks (s.data.toList.drop pos_1)) = 34 :: Txt.qbody s.data.toList ∧ o_1.size ≤ 4 * pos_1 + 1 ∧ pos_1 ≤ s.size) ∧
          s.size - (intOf (Value.int IntKind.i64 ((pos : Int) + (n : Int)))).toNat < s.size - (intOf (Value.int IntKind.i64 (pos : Int))).toNat from fun W o' h hW => ⟨⟨pos + n, o', by go_num, rfl, hW, by
            rw [h, ← HA.out, HT.out, List.append_assoc]; rfl, by
            have e := congrArg List.length h
            have := Txt.qtok_le HS.out
            rw [← Lib.size_eq, List.length_append, ← Lib.size_eq] at e
            simp only [List.length_take, List.length_drop] at this
            omega, hn2⟩, by simp [intOf]; omega⟩)
      have hnd : ∃ n, w.drewN nd = w.drewN n := ⟨nd, rfl⟩
      have ex1 : (s.extract pos (pos + 1)).data.toList = [s[pos]] := by
        rw [Lib.extract_data, drop_head s pos hp, show pos + 1 - pos = 1 by omega]; rfl
      have exn : (s.extract pos (pos + n)).data.toList = (s.data.toList.drop pos).take n := by
        rw [Lib.extract_data, show pos + n - pos = n by omega]
      have hhd : ((s.data.toList.drop pos).take n).headD 0 = s[pos] := by
        obtain ⟨m, rfl⟩ : ∃ m, n = m + 1 := ⟨n - 1, by omega⟩
        rw [drop_head s pos hp]; rfl
      have E1 := Lib.hid ex1; have EN := Lib.hid exn; have EH := Lib.hid hhd
      clear ex1 exn hhd
      by_cases h34 : r = 34 ∨ r = 92
      · have hb : (s.data.toList.drop pos).take n = [r.toNat.toUInt8] := by
          rcases HS.out with ⟨h1, _⟩ | ⟨_, _, h3⟩ | ⟨h1, _⟩
          · simp only at h1; omega
          · exact h3
          · simp only at h1; omega
        have hq : Txt.qtok (r, (s.data.toList.drop pos).take n) = [92, s[pos]] := by
          have e : s[pos] = r.toNat.toUInt8 := by rw [← EH.out, hb]; rfl
          rw [e]
          rcases h34 with rfl | rfl <;> rfl
        have HQ := Lib.hid hq
        clear hq hb
        rcases h34 with h34 | h34
        · have n34 : (r == 34) = true := by rw [beq_iff_eq]; exact h34
          clear h34
          go_wp2
          exact FIN.out _ _ (by rw [HQ.out, app_list, app_list, E1.out, List.append_assoc]; try rfl) hnd
        · have n34 : (r == 34) = false := by rw [beq_eq_false_iff_ne]; omega
          have n92 : (r == 92) = true := by rw [beq_iff_eq]; exact h34
          clear h34
          go_wp2
          exact FIN.out _ _ (by rw [HQ.out, app_list, app_list, E1.out, List.append_assoc]; try rfl) hnd
      · have n34 : (r == 34) = false := by rw [beq_eq_false_iff_ne]; omega
        have n92 : (r == 92) = false := by rw [beq_eq_false_iff_ne]; omega
        by_cases h10 : r = 10
        · have n10 : (r == 10) = true := by rw [beq_iff_eq]; exact h10
          have HQ := Lib.hid (show Txt.qtok (r, (s.data.toList.drop pos).take n) = [92, 110] by rw [h10]; rfl)
          clear h10 h34
          go_wp2
          exact FIN.out _ _ (by rw [HQ.out, app_list]; try rfl) hnd
        · have n10 : (r == 10) = false := by rw [beq_eq_false_iff_ne]; omega
          by_cases hbad : Txt.bad r = true
          · have HQ := Lib.hid (show Txt.qtok (r, (s.data.toList.drop pos).take n) = Txt.hexs s[pos] by rw [qtok_bad _ _ hbad, EH.out])
            have hbd : r < 32 ∨ r = 127 := by simp [Txt.bad] at hbad; omega
            have hc := s[pos].toNat_lt
            obtain ⟨c, hc0⟩ : ∃ c : Nat, s[pos].toNat = c := ⟨_, rfl⟩
            rw [hc0] at hc
            have hx : ∀ k : Nat, k < 16 → ((⟨#[48, 49, 50, 51, 52, 53, 54, 55, 56, 57, 97, 98, 99, 100, 101, 102]⟩ : ByteArray).extract k (k + 1)).data.toList = [Txt.hexd k] := by
              intro k hk
              have := hex_cut ⟨k, hk⟩
              exact this
            have HX := Lib.hid hx
            have HC := Lib.hid hc0
            have fq : (0 : Int) ≤ (c : Int) / 16 := by omega
            have fq2 : (c : Int) / 16 < 16 := by omega
            have fr : (0 : Int) ≤ (c : Int) % 16 := by omega
            have fr2 : (c : Int) % 16 < 16 := by omega
            clear hx hbad h10 h34
            rcases hbd with hbd | hbd
            · go_wp2
              go_quiet (fail)
              go_wp2
              exact FIN.out _ _ (by rw [HQ.out, app_list, app_list, app_list, HX.out _ (by omega), HX.out _ (by omega)]; simp [Txt.hexs, HC.out]) ⟨_, rfl⟩
            · subst hbd
              go_wp2
              go_quiet (fail)
              go_wp2
              exact FIN.out _ _ (by rw [HQ.out, app_list, app_list, app_list, HX.out _ (by omega), HX.out _ (by omega)]; simp [Txt.hexs, HC.out]) ⟨_, rfl⟩
          · have HQ := Lib.hid (show Txt.qtok (r, (s.data.toList.drop pos).take n) = (s.data.toList.drop pos).take n by rw [qtok_else _ _ (by simpa using hbad) h10 (by omega) (by omega)])
            have hb1 : ¬ r < 32 := by simp [Txt.bad] at hbad; omega
            have n127 : (r == 127) = false := by rw [beq_eq_false_iff_ne]; simp [Txt.bad] at hbad; omega
            clear hbad h10 h34
            go_wp2
            exact FIN.out _ _ (by rw [HQ.out, app_list, EN.out]) hnd
    · have hq := HA.out
      rw [toks_end s pos hp] at hq
      have HQ := Lib.hid hq; clear hq
      go_wp2
      go_ret
      refine ⟨congrArg Ending.returned (str_mk _ _ ?_), nd, rfl⟩
      have := HQ.out
      simp only [Txt.qtoks, List.flatMap_nil, List.append_nil] at this
      rw [app_list, this]; rfl
end Go.Proofs.YthnhnaaihhagaaaDoor
