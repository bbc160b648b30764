/-
  Plain Lean, no program in sight: which segments there are (layer 10).
-/
import Derived.Test.YtbknlffebcbjfaaGreatDoorSegG
namespace Go.Proofs.YtbknlffebcbjfaaGreatDoor.Man

def file : List UInt8 := [109, 97, 110, 105, 102, 101, 115, 116]
/-- The last number of a row that rises; none, if it does not. -/
def lastF : Int → List Int → Option Int
  | last, [] => some last
  | last, n :: l => if n ≤ last then none else lastF n l
def right (next : Int) (segs : List Int) : Bool :=
  match lastF 0 segs with
  | none => false
  | some last => decide (last < next) && decide (next ≤ 1073741824) && decide (segs.length ≤ 30)
def body (next : Int) (segs : List Int) : List UInt8 := Num.put (Num.held next) ++ (Num.put (Num.held segs.length) ++ segs.flatMap fun n => Num.put (Num.held n))
def writeM (room : Int) (k : List UInt8) (s : ByteArray) (fs : List Dk.File) : List Dk.File × Nat :=
  if (Dk.append room Seg.temp s (Dk.delete Seg.temp fs).1).2 = 0 then Dk.rename Seg.temp k (Dk.sync Seg.temp (Dk.append room Seg.temp s (Dk.delete Seg.temp fs).1).1).1
  else ((Dk.delete Seg.temp (Dk.append room Seg.temp s (Dk.delete Seg.temp fs).1).1).1, (Dk.append room Seg.temp s (Dk.delete Seg.temp fs).1).2)
def bytes (next : Int) (segs : List Int) : ByteArray := ⟨(Frm.framed (body next segs)).toArray⟩
def save (room next : Int) (segs : List Int) (fs : List Dk.File) : List Dk.File × Nat := if right next segs then writeM room file (bytes next segs) fs else (fs, 1)
/-- One number off the front; the first error is kept. -/
def tk (st : List UInt8 × Nat) : Nat × (List UInt8 × Nat) := ((Num.take st.1).1, (Num.take st.1).2.1, if st.2 = 0 then (Num.take st.1).2.2 else st.2)
def tks : Nat → List UInt8 × Nat → List Int × (List UInt8 × Nat)
  | 0, st => ([], st)
  | n + 1, st => if st.2 ≠ 0 then ([], st) else (((tk st).1 : Int) :: (tks n (tk st).2).1, (tks n (tk st).2).2)
def parse (s : List UInt8) : (Int × List Int) × Nat :=
  let a := tk ((Frm.take s).1, (Frm.take s).2.2)
  let b := tk a.2
  let c := tks b.1 b.2
  if c.2.2 = 0 ∧ c.2.1 = [] ∧ (Frm.take s).2.1 = [] ∧ right a.1 c.1 = true then ((a.1, c.1), 0) else ((0, []), 2)
def load (fs : List Dk.File) : (Int × List Int) × Nat := if (Dk.read file fs).2 = 0 then parse (Dk.read file fs).1.data.toList else ((1, []), 0)

/-! ### Laws -/
theorem lastF_mem : ∀ (l : List Int) (a b : Int), lastF a l = some b → a ≤ b ∧ ∀ n ∈ l, a < n ∧ n ≤ b
  | [], a, b, h => by simp only [lastF, Option.some.injEq] at h; subst h; simp
  | n :: l, a, b, h => by
    rw [lastF] at h
    split at h
    · cases h
    · obtain ⟨h1, h2⟩ := lastF_mem l n b h
      refine ⟨by omega, fun m hm => ?_⟩
      rcases List.mem_cons.1 hm with rfl | hm
      · omega
      · have := h2 m hm; omega
theorem lastF_append : ∀ (l : List Int) (a b n : Int), lastF a l = some b → b < n → lastF a (l ++ [n]) = some n
  | [], a, b, n, h, hn => by
    simp only [lastF, Option.some.injEq] at h
    subst h
    rw [List.nil_append, lastF, if_neg (by omega)]; rfl
  | m :: l, a, b, n, h, hn => by
    rw [lastF] at h
    split at h
    · cases h
    · rename_i g
      rw [List.cons_append, lastF, if_neg g]
      exact lastF_append l m b n h hn
theorem lastF_take : ∀ (l : List Int) (a b : Int) (k : Nat), lastF a l = some b → ∃ c, lastF a (l.take k) = some c ∧ c ≤ b
  | [], a, b, k, h => by rw [List.take_nil]; exact ⟨b, h, Int.le_refl _⟩
  | m :: l, a, b, 0, h => by
    have := (lastF_mem _ _ _ h).1
    exact ⟨a, rfl, this⟩
  | m :: l, a, b, k + 1, h => by
    rw [lastF] at h
    split at h
    · cases h
    · rename_i g
      obtain ⟨c, h1, h2⟩ := lastF_take l m b k h
      exact ⟨c, by rw [List.take_succ_cons, lastF, if_neg g]; exact h1, h2⟩
theorem right_iff {next : Int} {segs : List Int} : right next segs = true ↔ ∃ last, lastF 0 segs = some last ∧ last < next ∧ next ≤ 1073741824 ∧ segs.length ≤ 30 := by
  unfold right
  cases h : lastF 0 segs with
  | none => simp
  | some last => simp [and_assoc]
theorem right_mem {next : Int} {segs : List Int} (h : right next segs = true) : 1 ≤ next ∧ next ≤ 1073741824 ∧ segs.length ≤ 30 ∧ ∀ n ∈ segs, 1 ≤ n ∧ n < next := by
  obtain ⟨last, h1, h2, h3, h4⟩ := right_iff.1 h
  obtain ⟨g1, g2⟩ := lastF_mem _ _ _ h1
  exact ⟨by omega, h3, h4, fun n hn => by have := g2 n hn; omega⟩
theorem right_append {next : Int} {segs : List Int} (h : right next segs = true) (h1 : next < 1073741824) (h2 : segs.length < 30) : right (next + 1) (segs ++ [next]) = true := by
  obtain ⟨last, g1, g2, g3, g4⟩ := right_iff.1 h
  exact right_iff.2 ⟨next, lastF_append _ _ _ _ g1 g2, by omega, by omega, by simp; omega⟩
theorem right_take {next : Int} {segs : List Int} (k : Nat) (h : right next segs = true) : right next (segs.take k) = true := by
  obtain ⟨last, g1, g2, g3, g4⟩ := right_iff.1 h
  obtain ⟨c, g5, g6⟩ := lastF_take segs 0 last k g1
  exact right_iff.2 ⟨c, g5, by omega, g3, by rw [List.length_take]; omega⟩
theorem tk_put (n : Nat) (r : List UInt8) (h : n ≤ 1099511627776) : tk (Num.put n ++ r, 0) = (n, r, 0) := by
  unfold tk
  simp only
  rw [Num.take_put n h r]
  simp
theorem tks_put : ∀ (l : List Int) (r : List UInt8), (∀ n ∈ l, 0 ≤ n ∧ n ≤ 1099511627776) → tks l.length ((l.flatMap fun n => Num.put (Num.held n)) ++ r, 0) = (l, r, 0)
  | [], r, _ => by simp [tks]
  | n :: l, r, h => by
    have hn := h n (by simp)
    have e : Num.held n = n.toNat := by unfold Num.held; split <;> (try split) <;> omega
    rw [List.length_cons, tks, if_neg (by simp), List.flatMap_cons, List.append_assoc, tk_put _ _ (Num.held_le n)]
    simp only
    rw [tks_put l r (fun m hm => h m (by simp [hm])), e]
    simp only [Prod.mk.injEq, List.cons.injEq, and_true]
    omega
theorem body_len (next : Int) (segs : List Int) : (body next segs).length ≤ 12 + 6 * segs.length ∧ body next segs ≠ [] := by
  have h1 := Num.put_le6 _ (Num.held_le next)
  have h2 := Num.put_le6 _ (Num.held_le segs.length)
  have h3 : ∀ l : List Int, (l.flatMap fun n => Num.put (Num.held n)).length ≤ 6 * l.length := by
    intro l
    induction l with
    | nil => simp
    | cons n l ih =>
      have := Num.put_le6 _ (Num.held_le n)
      rw [List.flatMap_cons, List.length_append, List.length_cons]; omega
  have h4 := h3 segs
  refine ⟨by simp only [body, List.length_append]; omega, fun h => ?_⟩
  have := Num.put_ne (Num.held next)
  simp [body] at h
  exact this h.1
theorem parse_bytes {next : Int} {segs : List Int} (h : right next segs = true) : parse (bytes next segs).data.toList = ((next, segs), 0) := by
  obtain ⟨h1, h2, h3, h4⟩ := right_mem h
  obtain ⟨b1, b2⟩ := body_len next segs
  have ht := Frm.take_framed (body next segs) [] b2 (by omega)
  rw [List.append_nil] at ht
  have e : Num.held next = next.toNat := by unfold Num.held; split <;> (try split) <;> omega
  have e2 : Num.held (segs.length : Int) = segs.length := Num.held_of _ (by omega)
  unfold parse
  rw [show (bytes next segs).data.toList = Frm.framed (body next segs) from rfl, ht]
  simp only
  have q1 : tk (body next segs, 0) = (next.toNat, Num.put (Num.held segs.length) ++ (segs.flatMap fun n => Num.put (Num.held n)), 0) := by
    unfold body; rw [e]; exact tk_put _ _ (by omega)
  rw [q1]
  simp only
  have q2 : tk (Num.put (Num.held segs.length) ++ (segs.flatMap fun n => Num.put (Num.held n)), 0) = (segs.length, (segs.flatMap fun n => Num.put (Num.held n)), 0) := by
    rw [e2]; exact tk_put _ _ (by omega)
  rw [q2]
  simp only
  have q3 := tks_put segs [] (fun n hn => by have := h4 n hn; omega)
  rw [List.append_nil] at q3
  rw [q3]
  simp only
  have hn : ((next.toNat : Nat) : Int) = next := by omega
  rw [hn, if_pos (by simp [h])]
theorem load_at {next : Int} {segs : List Int} {fs : List Dk.File} {sy : Nat} (h : right next segs = true) (hl : Dk.look fs file = some ⟨file, bytes next segs, sy⟩) : load fs = ((next, segs), 0) := by
  have hr : Dk.read file fs = (bytes next segs, 0) := by rw [Dk.read, hl]
  unfold load
  rw [hr, if_pos rfl]; exact parse_bytes h
theorem load_none {fs : List Dk.File} (hl : Dk.look fs file = none) : load fs = ((1, []), 0) := by
  have hr : Dk.read file fs = (⟨#[]⟩, 6) := by rw [Dk.read, hl]
  unfold load
  rw [hr, if_neg (by simp)]
theorem file_named : Txt.name file = true := by simp [file, Txt.name, Txt.toks_ascii, Txt.toks_nil, Txt.named]
theorem file_ne_temp : file ≠ Seg.temp := by decide
theorem file_ne_seg (n : Int) : Seg.nameOf n ≠ file := by
  unfold Seg.nameOf file
  split
  · intro h; simp at h
  · simp
/-- A file that is written as a whole. -/
theorem write_ok {room : Int} {k : List UInt8} {s : ByteArray} {fs : List Dk.File} (hs : Dk.Sorted fs) (hk : Txt.name k = true) (hkt : k ≠ Seg.temp) (ht : Dk.look fs Seg.temp = none) (h40 : fs.length < 40) (hr : (Dk.total fs : Int) + s.size ≤ room) :
    writeM room k s fs = (Dk.put ⟨k, s, s.size⟩ fs, 0) := by
  have hw := Seg.write_new (k := Seg.temp) (s := s) hs Seg.temp_named ht h40 hr
  unfold Seg.writeD at hw
  unfold writeM
  rw [Dk.delete_fst, Dk.del_none _ _ ht]
  have ha : (Dk.append room Seg.temp s fs).2 = 0 := by
    unfold Dk.append
    rw [if_neg (by rw [Seg.temp_named]; simp), if_neg (by omega), if_neg (by omega)]
  rw [if_pos ha] at hw ⊢
  rw [hw]
  have hl := Dk.look_put_same ⟨Seg.temp, s, s.size⟩ fs
  simp only at hl
  unfold Dk.rename
  rw [hl]
  simp only
  rw [if_neg (by rw [hk]; simp), if_neg (fun e => hkt e.symm)]
  simp only [Prod.mk.injEq, and_true]
  have q1 := Dk.sorted_put ⟨Seg.temp, s, s.size⟩ fs hs
  have q2 := Dk.sorted_del k _ q1
  have q3 := Dk.sorted_del Seg.temp _ q2
  refine Dk.sorted_ext _ _ (Dk.sorted_put _ _ q3) (Dk.sorted_put _ _ hs) (fun j => ?_)
  by_cases e : j = k
  · subst e
    have e1 := Dk.look_put_same ⟨j, s, s.size⟩ (Dk.del Seg.temp (Dk.del j (Dk.put ⟨Seg.temp, s, s.size⟩ fs)))
    have e2 := Dk.look_put_same ⟨j, s, s.size⟩ fs
    simp only at e1 e2
    rw [e1, e2]
  · rw [Dk.look_put_other ⟨k, s, s.size⟩ e, Dk.look_put_other ⟨k, s, s.size⟩ e]
    by_cases e2 : j = Seg.temp
    · subst e2; rw [Dk.look_del_same _ _ q2, ht]
    · rw [Dk.look_del_other _ e2, Dk.look_del_other _ e, Dk.look_put_other ⟨Seg.temp, s, s.size⟩ e2]
end Go.Proofs.YtbknlffebcbjfaaGreatDoor.Man
