/-
  The walks of text.end, of the reference's quoted and blank, and of the comparisons of slices.
-/
import Derived.Test.YthnhnaaihhagaaaDoorUnquote
namespace Go.Proofs.YthnhnaaihhagaaaDoor
open Go.RowKit Go.Shelf

/-- Where a quoted word ends that begins a text. -/
def endOf (l : List UInt8) : Option Nat := Txt.endF false 1 (l.drop 1)
def endV (d : Int) : Option Nat → Int
  | some n => n
  | none => d
theorem endF_high : ∀ (bs : List UInt8) (k : Nat) (t : List UInt8), (∀ b ∈ bs, 128 ≤ b.toNat) → Txt.endF false k (bs ++ t) = Txt.endF false (k + bs.length) t
  | [], k, t, _ => by simp
  | b :: bs, k, t, h => by
    have hb := h b (by simp)
    have h1 : b ≠ 92 := fun e => by rw [e] at hb; exact absurd hb (by decide)
    have h2 : b ≠ 34 := fun e => by rw [e] at hb; exact absurd hb (by decide)
    rw [List.cons_append, Txt.endF, if_neg (by simp), if_neg h1, if_neg h2, endF_high bs (k + 1) t (fun x hx => h x (by simp [hx]))]
    congr 1; simp; omega
theorem endF_skip (b : UInt8) (bs : List UInt8) (k : Nat) (t : List UInt8) (h : ∀ x ∈ bs, 128 ≤ x.toNat) : Txt.endF true k (b :: bs ++ t) = Txt.endF false (k + (b :: bs).length) t := by
  rw [List.cons_append, Txt.endF, if_pos rfl, endF_high bs (k + 1) t h]
  congr 1; simp; omega
/-- One token more. -/
theorem endF_tok (r : Int) (bs t : List UInt8) (k : Nat) (h : Txt.Shape (r, bs)) (b : Bool) : Txt.endF b k (bs ++ t) =
    if b then Txt.endF false (k + bs.length) t else if r = 92 then Txt.endF true (k + bs.length) t else if r = 34 then some (k + 1) else Txt.endF false (k + bs.length) t := by
  have hb : ∃ c bs', bs = c :: bs' ∧ (∀ x ∈ bs', 128 ≤ x.toNat) := by
    rcases h with ⟨_, c, h1, _⟩ | ⟨_, _, h1⟩ | ⟨_, _, _, h1, _, h2⟩
    · exact ⟨c, [], h1, by simp⟩
    · exact ⟨_, [], h1, by simp⟩
    · match bs, h1, h2 with
      | c :: bs', _, h2 => exact ⟨c, bs', rfl, fun x hx => h2 x (by simp [hx])⟩
  cases b
  · simp only [Bool.false_eq_true, if_false]
    rcases h with ⟨hr, c, h1, h2⟩ | ⟨h0, hr, h1⟩ | ⟨h0, h1, _, _, _, h2⟩
    · simp only at hr h1
      rw [if_neg (by omega), if_neg (by omega), h1, endF_high [c] k t (by simpa using h2)]
    · simp only at hr h0 h1
      rw [h1]
      by_cases e1 : r = 92
      · rw [if_pos e1, e1]; rfl
      · by_cases e2 : r = 34
        · rw [if_neg e1, if_pos e2, e2]; rfl
        · rw [if_neg e1, if_neg e2, List.singleton_append, Txt.endF, if_neg (by simp)]
          have n1 : r.toNat.toUInt8 ≠ 92 := fun e => e1 (by have := congrArg UInt8.toNat e; simp at this; omega)
          have n2 : r.toNat.toUInt8 ≠ 34 := fun e => e2 (by have := congrArg UInt8.toNat e; simp at this; omega)
          rw [if_neg n1, if_neg n2]; rfl
    · simp only at h0 h2
      rw [if_neg (by omega), if_neg (by omega), endF_high bs k t h2]
  · obtain ⟨c, bs', rfl, hh⟩ := hb
    simp only [if_true]
    exact endF_skip c bs' k t hh

set_option maxHeartbeats 1000000 in
set_option maxRecDepth 100000 in
theorem end_any (s : ByteArray) (w : World) (hE : Env w) (hs : s.size ≤ 1000000000000) (h1 : 1 ≤ s.size) :
    Calls Tryd.prog 39 #[.string s] w fun e w' => e = .returned (.int .i64 (endV 0 (endOf s.data.toList))) ∧ Below w.heap.size w w' := by
  obtain ⟨S, hSx⟩ : ∃ S, s.extract 1 s.size = S := ⟨_, rfl⟩
  have hSl : S.data.toList = s.data.toList.drop 1 := by rw [← hSx, Lib.extract_to_end]
  have hSs : S.size ≤ 1000000000000 := by rw [← hSx]; simp [ByteArray.size_extract]; omega
  have HN := Lib.hid (show endOf s.data.toList = Txt.endF false (1 + 0) (S.data.toList.drop 0) by rw [endOf, ← hSl]; rfl)
  clear hSl
  go_enter Tryd.func39, Tryd.ntmps39
  go_wp2
  go_loopw [3] (fun v wr => ∃ (pos : Nat) (b : Bool), v = .bool b ∧ wr.heap[w.heap.size]? = some (.stringIter S pos) ∧ Below w.heap.size w wr ∧ endOf s.data.toList = Txt.endF b (1 + pos) (S.data.toList.drop pos) ∧ Env wr ∧ pos ≤ S.size) (fun _ wr => S.size - wr.iterPos w.heap.size)
  case atStart =>
    have hit := World.iter_heap w S 0
    exact ⟨0, false, rfl, by simpa using hit, (Below.refl _ _).alloc (Nat.le_refl _) _, HN.out, hE.next ((Below.refl _ _).alloc (Nat.le_refl _) _), by omega⟩
  case round =>
    obtain ⟨pos, b, rfl, hit, hbw, hnm, hEr, hps⟩ := hrel
    have HA := Lib.hid hnm; clear hnm HN
    by_cases hp : pos < S.size
    · obtain ⟨r, n, k, W2, hnx, HD, HT, hn1, hn2, HS, HH, hk0, hit2, hbw2, hE2, hsz2, _, _, _⟩ := range_step hit hbw (Nat.le_refl _) hEr hp
      have hcat : S.data.toList.drop pos = (S.data.toList.drop pos).take n ++ S.data.toList.drop (pos + n) := by
        rw [← List.drop_drop, List.take_append_drop]
      have hnl : ((S.data.toList.drop pos).take n).length = n := by rw [List.length_take, List.length_drop, ← Lib.size_eq]; omega
      have HE := Lib.hid (show endOf s.data.toList = if b then Txt.endF false (1 + (pos + n)) (S.data.toList.drop (pos + n)) else if r = 92 then Txt.endF true (1 + (pos + n)) (S.data.toList.drop (pos + n)) else if r = 34 then some (1 + pos + 1) else Txt.endF false (1 + (pos + n)) (S.data.toList.drop (pos + n)) by
        rw [HA.out, hcat, endF_tok r _ _ _ HS.out b, hnl, Nat.add_assoc])
      clear hcat hnl HA
      have hrk : (r = 92 ↔ k = 92) ∧ (r = 34 ↔ k = 34) := by
        rcases HH.out with ⟨e1, e2, _⟩ | ⟨_, e2, _⟩ <;> omega
      have HK := Lib.hid hrk
      clear hrk HH
      cases b
      · by_cases h92 : k = 92
        · subst h92
          have QF := Lib.hid (show endOf s.data.toList = Txt.endF true (1 + (pos + n)) (S.data.toList.drop (pos + n)) by rw [HE.out, if_neg (by simp), if_pos (HK.out.1.2 rfl)])
          go_wp2
          exact ⟨⟨pos + n, true, rfl, hit2, hbw2, QF.out, hE2, hn2⟩, by simp only [World.iterPos, hit2, hit]; omega⟩
        · have n92 : ((k : Int) == 92) = false := by rw [beq_eq_false_iff_ne]; omega
          by_cases h34 : k = 34
          · subst h34
            have QF := Lib.hid (show endOf s.data.toList = some (1 + pos + 1) by rw [HE.out, if_neg (by simp), if_neg (fun e => h92 (HK.out.1.1 e)), if_pos (HK.out.2.2 rfl)])
            go_wp2
            go_ret
            refine ⟨?_, hbw2⟩
            rw [QF.out]
            exact congrArg (fun x => Ending.returned (.int .i64 x)) (by simp only [endV]; omega)
          · have n34 : ((k : Int) == 34) = false := by rw [beq_eq_false_iff_ne]; omega
            have QF := Lib.hid (show endOf s.data.toList = Txt.endF false (1 + (pos + n)) (S.data.toList.drop (pos + n)) by rw [HE.out, if_neg (by simp), if_neg (fun e => h92 (HK.out.1.1 e)), if_neg (fun e => h34 (HK.out.2.1 e))])
            clear h92 h34
            go_wp2
            exact ⟨⟨pos + n, false, rfl, hit2, hbw2, QF.out, hE2, hn2⟩, by simp only [World.iterPos, hit2, hit]; omega⟩
      · have QF := Lib.hid (show endOf s.data.toList = Txt.endF false (1 + (pos + n)) (S.data.toList.drop (pos + n)) by rw [HE.out, if_pos rfl])
        go_wp2
        exact ⟨⟨pos + n, false, rfl, hit2, hbw2, QF.out, hE2, hn2⟩, by simp only [World.iterPos, hit2, hit]; omega⟩
    · have hnx := range_end hit hp
      have HQ := Lib.hid (show endOf s.data.toList = none by rw [HA.out, drop_none S pos hp]; cases b <;> rfl)
      go_wp2
      go_ret
      exact ⟨by rw [HQ.out]; rfl, hbw⟩

/-! ### The reference's quoted -/
set_option maxHeartbeats 1000000 in
set_option maxRecDepth 100000 in
theorem quoted_any (s : ByteArray) (w : World) (hs : s.size ≤ 1000000000000) (h1 : 1 ≤ s.size) :
    Calls Tryd.prog 41 #[.string s] w fun e w' => e = .returned (.int .i64 (endV (-1) (endOf s.data.toList))) ∧ w = w' := by
  go_enter Tryd.func41, Tryd.ntmps41
  go_wp2
  go_loop [3] (fun v => ∃ (k : Nat), v = .int .i64 k ∧ 1 ≤ k ∧ k ≤ s.size + 1 ∧ endOf s.data.toList = Txt.endF false k (s.data.toList.drop k)) (fun v => s.size + 1 - (intOf v).toNat)
  case atStart => exact ⟨1, rfl, by omega, by omega, rfl⟩
  case round =>
    obtain ⟨k, rfl, hk1, hk2, hh⟩ := hrel
    have HA := Lib.hid hh; clear hh
    by_cases hp : k < s.size
    · have HD := Lib.hid (get_drop s k hp)
      by_cases h92 : s[k] = 92
      · have e92 : s[k].toNat = 92 := by rw [h92]; rfl
        have QF := Lib.hid (show endOf s.data.toList = Txt.endF false (k + 2) (s.data.toList.drop (k + 2)) by
          rw [HA.out, HD.out, Txt.endF, if_neg (by simp), if_pos h92]
          by_cases hp1 : k + 1 < s.size
          · rw [get_drop s (k + 1) hp1, Txt.endF, if_pos rfl]
          · rw [drop_none s (k + 1) hp1, drop_none s (k + 2) (by omega)]; rfl)
        clear h92
        go_wp2
        go_round
        case rel => exact ⟨k + 2, by go_num, by omega, by omega, QF.out⟩
        case measure => simp [intOf]; omega
      · have n92 : ((s[k].toNat : Int) == 92) = false := byte_ne _ 92 h92
        by_cases h34 : s[k] = 34
        · have e34 : s[k].toNat = 34 := by rw [h34]; rfl
          have QF := Lib.hid (show endOf s.data.toList = some (k + 1) by rw [HA.out, HD.out, Txt.endF, if_neg (by simp), if_neg h92, if_pos h34])
          clear h34 h92
          go_wp2
          go_ret
          refine ⟨?_, rfl⟩
          rw [QF.out]; rfl
        · have n34 : ((s[k].toNat : Int) == 34) = false := byte_ne _ 34 h34
          have QF := Lib.hid (show endOf s.data.toList = Txt.endF false (k + 1) (s.data.toList.drop (k + 1)) by rw [HA.out, HD.out, Txt.endF, if_neg (by simp), if_neg h92, if_neg h34])
          clear h34 h92
          go_wp2
          go_round
          case rel => exact ⟨k + 1, by go_num, by omega, by omega, QF.out⟩
          case measure => simp [intOf]; omega
    · have HQ := Lib.hid (show endOf s.data.toList = none by rw [HA.out, drop_none s k hp]; rfl)
      go_wp2
      go_ret
      exact ⟨by rw [HQ.out]; rfl, rfl⟩

theorem blank_any (c : UInt8) (w : World) : Calls Tryd.prog 40 #[.int .u8 (c.toNat : Int)] w fun e w' => e = .returned (.bool (Txt.blank c)) ∧ w = w' := by
  by_cases h : c = 32
  · subst h
    go_enter Tryd.func40, Tryd.ntmps40
    go_wp2
    go_ret
    exact ⟨rfl, rfl⟩
  · have n : ((c.toNat : Int) == 32) = false := byte_ne _ 32 h
    by_cases h9 : c = 9
    · subst h9
      go_enter Tryd.func40, Tryd.ntmps40
      go_wp2
      go_ret
      exact ⟨rfl, rfl⟩
    · have n9 : ((c.toNat : Int) == 9) = false := byte_ne _ 9 h9
      have HQ := Lib.hid (show Txt.blank c = false by simp [Txt.blank, h, h9])
      clear h h9
      go_enter Tryd.func40, Tryd.ntmps40
      go_wp2
      go_ret
      exact ⟨by rw [HQ.out]; rfl, rfl⟩
end Go.Proofs.YthnhnaaihhagaaaDoor
