/-
  Plain Lean, no program in sight: frames, and rows of them (layer 4).
-/
import Derived.Test.YthmblkckpdpjkaaGreatDoorNumA
import Derived.Test.YthmblkckpdpjkaaGreatDoorCrcA
namespace Go.Proofs.YthmblkckpdpjkaaGreatDoor.Frm
open Go.Proofs.YthmblkckpdpjkaaGreatDoor (Num.fixed Num.takeFixed)

def framed (p : List UInt8) : List UInt8 := Num.fixed p.length ++ (Num.fixed (Crc.sum (Num.fixed p.length ++ p)) ++ p)
def put (p : List UInt8) : List UInt8 × Nat := if p = [] then ([], 2) else if 8000 < p.length then ([], 4) else (framed p, 0)
def take (s : List UInt8) : List UInt8 × List UInt8 × Nat :=
  if s.length < 8 then ([], [], 3) else
  if (Num.takeFixed s).1 = 0 then ([], [], 2) else
  if 8000 < (Num.takeFixed s).1 then ([], [], 4) else
  if (s.drop 8).length < (Num.takeFixed s).1 then ([], [], 3) else
  if Crc.sum (s.take 4 ++ (s.drop 8).take (Num.takeFixed s).1) ≠ (Num.takeFixed (s.drop 4)).1 then ([], [], 5) else
  ((s.drop 8).take (Num.takeFixed s).1, (s.drop 8).drop (Num.takeFixed s).1, 0)
theorem framed_len (p : List UInt8) : (framed p).length = p.length + 8 := by simp [framed, Num.fixed]
theorem take_framed (p r : List UInt8) (h0 : p ≠ []) (h1 : p.length ≤ 8000) : take (framed p ++ r) = (p, r, 0) := by
  have hp : 0 < p.length := List.length_pos_iff.2 h0
  have e1 : Num.takeFixed (framed p ++ r) = (p.length, Num.fixed (Crc.sum (Num.fixed p.length ++ p)) ++ p ++ r, 0) := by
    rw [framed, List.append_assoc, Num.takeFixed_fixed _ (by omega)]
  have e2 : (framed p ++ r).drop 4 = Num.fixed (Crc.sum (Num.fixed p.length ++ p)) ++ (p ++ r) := by
    rw [framed, List.append_assoc, List.drop_append_of_le_length (by simp [Num.fixed_len]), List.drop_of_length_le (by simp [Num.fixed_len])]; simp
  have e3 : (framed p ++ r).drop 8 = p ++ r := by
    rw [show 8 = 4 + 4 from rfl, ← List.drop_drop, e2, List.drop_append_of_le_length (by simp [Num.fixed_len]), List.drop_of_length_le (by simp [Num.fixed_len])]; simp
  have e4 : (framed p ++ r).take 4 = Num.fixed p.length := by
    rw [framed, List.append_assoc, List.take_append_of_le_length (by simp [Num.fixed_len]), List.take_of_length_le (by simp [Num.fixed_len])]
  have e5 : (framed p ++ r).length = p.length + 8 + r.length := by rw [List.length_append, framed_len]
  unfold take
  rw [e1, e2, e3, e4, e5, Num.takeFixed_fixed _ (Crc.sum_lt _)]
  simp only
  rw [if_neg (by omega), if_neg (by omega), if_neg (by omega), if_neg (by simp), if_neg (by simp)]
  simp
theorem take_le (s : List UInt8) : (take s).2.2 ≤ 5 ∧ ((take s).2.2 ≠ 0 → (take s).1 = [] ∧ (take s).2.1 = []) ∧ ((take s).2.2 = 0 → 1 ≤ (take s).1.length ∧ (take s).1.length ≤ 8000 ∧ (take s).2.1.length + 9 ≤ s.length ∧ (take s).2.1.length + (take s).1.length + 8 = s.length) := by
  unfold take
  split
  · simp
  · split
    · simp
    · split
      · simp
      · split
        · simp
        · split
          · simp
          · rename_i h1 h2 h3 h4 h5
            simp only [List.length_drop] at h4
            simp only [List.length_take, List.length_drop]
            refine ⟨by omega, by simp, fun _ => ⟨by omega, by omega, by omega, by omega⟩⟩
/-- The frames that bytes begin with. -/
def scanF : Nat → List UInt8 → List (List UInt8) × List UInt8
  | 0, s => ([], s)
  | f + 1, s => if (take s).2.2 ≠ 0 then ([], s) else ((take s).1 :: (scanF f (take s).2.1).1, (scanF f (take s).2.1).2)
def scan (s : List UInt8) : List (List UInt8) × List UInt8 := scanF s.length s
theorem scanF_fuel : ∀ (f g : Nat) (s : List UInt8), s.length ≤ f → s.length ≤ g → scanF f s = scanF g s
  | 0, 0, s, _, _ => rfl
  | 0, g + 1, s, h, _ => by
    have : s = [] := List.eq_nil_of_length_eq_zero (by omega)
    subst this; rfl
  | f + 1, 0, s, _, h => by
    have : s = [] := List.eq_nil_of_length_eq_zero (by omega)
    subst this; rfl
  | f + 1, g + 1, s, hf, hg => by
    unfold scanF
    split
    · rfl
    · rename_i h
      have := ((take_le s).2.2 (by omega)).2.2.1
      rw [scanF_fuel f g _ (by omega) (by omega)]
theorem scan_stop (s : List UInt8) (h : (take s).2.2 ≠ 0) : scan s = ([], s) := by
  unfold scan
  cases e : s.length with
  | zero => rfl
  | succ n => rw [scanF, if_pos h]
theorem scan_go (s : List UInt8) (h : (take s).2.2 = 0) : scan s = ((take s).1 :: (scan (take s).2.1).1, (scan (take s).2.1).2) := by
  have h2 := ((take_le s).2.2 h).2.2.1
  unfold scan
  cases e : s.length with
  | zero => omega
  | succ n =>
    rw [scanF, if_neg (by omega), scanF_fuel n (take s).2.1.length _ (by omega) (by omega)]
theorem scan_framed (p r : List UInt8) (h0 : p ≠ []) (h1 : p.length ≤ 8000) : scan (framed p ++ r) = (p :: (scan r).1, (scan r).2) := by
  have h := take_framed p r h0 h1
  rw [scan_go _ (by rw [h]), h]
theorem scan_nil : scan [] = ([], []) := rfl
theorem scan_left : ∀ (n : Nat) (s : List UInt8), s.length ≤ n → (scan s).2.length ≤ s.length
  | n, s, hn => by
    by_cases h : (take s).2.2 = 0
    · rw [scan_go s h]
      have := ((take_le s).2.2 h).2.2.1
      match n with
      | 0 => omega
      | n + 1 =>
        have := scan_left n (take s).2.1 (by omega)
        simp only; omega
    · rw [scan_stop s h]; exact Nat.le_refl _
theorem scan_members : ∀ (n : Nat) (s : List UInt8), s.length ≤ n → ∀ p ∈ (scan s).1, 1 ≤ p.length ∧ p.length ≤ 8000
  | n, s, hn => by
    by_cases h : (take s).2.2 = 0
    · rw [scan_go s h]
      have h2 := (take_le s).2.2 h
      match n with
      | 0 => omega
      | n + 1 =>
        have ih := scan_members n (take s).2.1 (by omega)
        intro p hp
        rcases List.mem_cons.1 hp with rfl | hp
        · exact ⟨h2.1, h2.2.1⟩
        · exact ih p hp
    · rw [scan_stop s h]; intro p hp; cases hp
theorem scan_count : ∀ (n : Nat) (s : List UInt8), s.length ≤ n → 9 * (scan s).1.length ≤ s.length
  | n, s, hn => by
    by_cases h : (take s).2.2 = 0
    · rw [scan_go s h]
      have h2 := (take_le s).2.2 h
      match n with
      | 0 => omega
      | n + 1 =>
        have ih := scan_count n (take s).2.1 (by omega)
        simp only [List.length_cons]; omega
    · rw [scan_stop s h]; simp
/-- A row of payloads. -/
def rowF : List (List UInt8) → List UInt8 × Nat
  | [] => ([], 0)
  | p :: l => if (put p).2 ≠ 0 then ([], (put p).2) else if (rowF l).2 ≠ 0 then ([], (rowF l).2) else ((put p).1 ++ (rowF l).1, 0)
def good (p : List UInt8) : Prop := p ≠ [] ∧ p.length ≤ 8000
theorem put_good {p : List UInt8} (h : good p) : put p = (framed p, 0) := by
  unfold put; rw [if_neg h.1, if_neg (by have := h.2; omega)]
theorem row_good : ∀ (l : List (List UInt8)), (∀ p ∈ l, good p) → rowF l = (l.flatMap framed, 0)
  | [], _ => rfl
  | p :: l, h => by
    have h1 := put_good (h p (by simp))
    have h2 := row_good l (fun q hq => h q (by simp [hq]))
    rw [rowF, h1, h2]; simp
theorem scan_row : ∀ (l : List (List UInt8)) (r : List UInt8), (∀ p ∈ l, good p) → scan (l.flatMap framed ++ r) = (l ++ (scan r).1, (scan r).2)
  | [], r, _ => by simp
  | p :: l, r, h => by
    have h1 := h p (by simp)
    rw [List.flatMap_cons, List.append_assoc, scan_framed p _ h1.1 h1.2, scan_row l r (fun q hq => h q (by simp [hq]))]
    simp
/-- A beginning of a frame is none. -/
theorem take_torn (p q r : List UInt8) (h0 : p ≠ []) (h1 : p.length ≤ 8000) (he : framed p = q ++ r) (hr : r ≠ []) : (take q).2.2 ≠ 0 := by
  have hl : q.length + r.length = p.length + 8 := by rw [← framed_len, he, List.length_append]
  have hr1 : 0 < r.length := List.length_pos_iff.2 hr
  by_cases hs : q.length < 8
  · unfold take; rw [if_pos hs]; simp
  · have e1 : (Num.takeFixed q).1 = p.length := by
      rcases q with _ | ⟨a, _ | ⟨b, _ | ⟨c, _ | ⟨d, q'⟩⟩⟩⟩
      · simp at hs
      · simp at hs
      · simp at hs
      · simp at hs
      · have e2 := Num.takeFixed_fixed p.length (by omega) (Num.fixed (Crc.sum (Num.fixed p.length ++ p)) ++ p)
        rw [framed] at he
        rw [he] at e2
        simp only [List.cons_append, Num.takeFixed] at e2 ⊢
        exact congrArg Prod.fst e2
    have hp : 0 < p.length := List.length_pos_iff.2 h0
    unfold take
    rw [if_neg hs, e1, if_neg (by omega), if_neg (by omega), if_pos (by rw [List.length_drop]; omega)]
    simp
/-- A beginning of a row of frames has a beginning of its payloads. -/
theorem scan_prefix : ∀ (l : List (List UInt8)) (q r : List UInt8), (∀ p ∈ l, good p) → l.flatMap framed = q ++ r →
    ∃ k, k ≤ l.length ∧ (scan q).1 = l.take k ∧ ∀ j, j ≤ l.length → ((l.take j).flatMap framed).length ≤ q.length → j ≤ k
  | [], q, r, _, he => by
    have : q = [] := by simp at he; exact he.1
    subst this
    exact ⟨0, by simp, rfl, fun j h _ => by simpa using h⟩
  | p :: l, q, r, hg, he => by
    have h1 := hg p (by simp)
    by_cases hq : (framed p).length ≤ q.length
    · obtain ⟨q', rfl⟩ : ∃ q', q = framed p ++ q' := by
        have : framed p <+: q := List.prefix_of_prefix_length_le ⟨_, List.flatMap_cons.symm⟩ ⟨r, he.symm⟩ hq
        obtain ⟨q', h⟩ := this
        exact ⟨q', h.symm⟩
      rw [List.flatMap_cons, List.append_assoc] at he
      have he' := List.append_cancel_left he
      obtain ⟨k, hk1, hk2, hk3⟩ := scan_prefix l q' r (fun q hq => hg q (by simp [hq])) he'
      refine ⟨k + 1, by simp; omega, ?_, ?_⟩
      · rw [scan_framed p q' h1.1 h1.2, hk2]; simp
      · intro j hj hl
        match j with
        | 0 => omega
        | j + 1 =>
          simp only [List.take_succ_cons, List.flatMap_cons, List.length_append] at hl
          have := hk3 j (by simpa using hj) (by omega)
          omega
    · refine ⟨0, by simp, ?_, ?_⟩
      · have hx : ∃ x, framed p = q ++ x ∧ x ≠ [] := by
          have : q <+: framed p := List.prefix_of_prefix_length_le ⟨r, he.symm⟩ ⟨_, List.flatMap_cons.symm⟩ (by omega)
          obtain ⟨x, h⟩ := this
          refine ⟨x, h.symm, ?_⟩
          rintro rfl
          rw [List.append_nil] at h
          rw [← h] at hq; omega
        obtain ⟨x, hx1, hx2⟩ := hx
        rw [scan_stop q (take_torn p q x h1.1 h1.2 hx1 hx2)]; simp
      · intro j hj hl
        match j with
        | 0 => omega
        | j + 1 =>
          simp only [List.take_succ_cons, List.flatMap_cons, List.length_append] at hl
          omega
end Go.Proofs.YthmblkckpdpjkaaGreatDoor.Frm
