/-
  Plain Lean, no program in sight: events, batches, entries as bytes (layers 5, 6).
-/
import Derived.Test.YthmblkckpdpjkaaGreatDoorNumA
import Derived.Test.YthmblkckpdpjkaaGreatDoorTxtB
namespace Go.Proofs.YthmblkckpdpjkaaGreatDoor.Evt

structure Event where
  kind : List UInt8
  data : List UInt8
structure Batch where
  stream : List UInt8
  expect : Int
  session : Int
  seq : Int
  events : List Event
structure Entry where
  pos : Int
  epoch : Int
  b : Batch
def zeroE : Event := ⟨[], []⟩
def zeroB : Batch := ⟨[], 0, 0, 0, []⟩
def zeroN : Entry := ⟨0, 0, zeroB⟩

def right (e : Event) : Bool := decide (e.data.length ≤ 200) && Txt.name e.kind
def number (n : Int) : Bool := decide (1 ≤ n) && decide (n ≤ 274877906944)
def headed (b : Batch) : Bool := Txt.name b.stream && decide (-1 ≤ b.expect) && decide (b.expect ≤ 274877906944) && number b.session && number b.seq && !b.events.isEmpty
def fits (b : Batch) : Nat :=
  if headed b = false then 1 else if 8 < b.events.length then 4 else if b.events.all right = false then 1 else 0
def bytesE (e : Event) : List UInt8 := Num.putText e.kind ++ Num.putText e.data
def bytesB (b : Batch) : List UInt8 :=
  (Num.putText b.stream ++ Num.putInt b.expect ++ Num.put (Num.held b.session) ++ Num.put (Num.held b.seq) ++ Num.put (Num.held b.events.length)) ++ b.events.flatMap bytesE
def putBatch (b : Batch) : List UInt8 := if fits b ≠ 0 then [] else bytesB b

/-! A reader: what is left, and the first error. -/
def rdName (st : List UInt8 × Nat) : List UInt8 × (List UInt8 × Nat) := if st.2 ≠ 0 then ([], st) else ((Num.takeText st.1 200).1, (Num.takeText st.1 200).2.1, (Num.takeText st.1 200).2.2)
def rdNum (st : List UInt8 × Nat) : Nat × (List UInt8 × Nat) := if st.2 ≠ 0 then (0, st) else ((Num.take st.1).1, (Num.take st.1).2.1, (Num.take st.1).2.2)
def rdInt (st : List UInt8 × Nat) : Int × (List UInt8 × Nat) := if st.2 ≠ 0 then (0, st) else ((Num.takeInt st.1).1, (Num.takeInt st.1).2.1, (Num.takeInt st.1).2.2)
def note (st : List UInt8 × Nat) (e : Nat) : List UInt8 × Nat := if st.2 = 0 then (st.1, e) else st
def rdEvent (st : List UInt8 × Nat) : Event × (List UInt8 × Nat) := (⟨(rdName st).1, (rdName (rdName st).2).1⟩, (rdName (rdName st).2).2)
def rdEvents : Nat → List UInt8 × Nat → List Event × (List UInt8 × Nat)
  | 0, st => ([], st)
  | n + 1, st => if st.2 ≠ 0 then ([], st) else ((rdEvent st).1 :: (rdEvents n (rdEvent st).2).1, (rdEvents n (rdEvent st).2).2)
def rdHead (s : List UInt8) : List UInt8 × Int × Nat × Nat × Nat × (List UInt8 × Nat) :=
  let a := rdName (s, 0); let b := rdInt a.2; let c := rdNum b.2; let d := rdNum c.2; let e := rdNum d.2
  (a.1, b.1, c.1, d.1, e.1, e.2)
def rdMany (many : Nat) (st : List UInt8 × Nat) : List UInt8 × Nat := if 8 < many then note st 4 else st
def rdLast (b : Batch) (st : List UInt8 × Nat) : List UInt8 × Nat := if fits b ≠ 0 then note st 2 else st
def takeBatch (s : List UInt8) : Batch × List UInt8 × Nat :=
  let h := rdHead s
  let q := rdEvents h.2.2.2.2.1 (rdMany h.2.2.2.2.1 h.2.2.2.2.2)
  let b : Batch := ⟨h.1, h.2.1, h.2.2.1, h.2.2.2.1, q.1⟩
  let st := rdLast b q.2
  if st.2 ≠ 0 then (zeroB, [], st.2) else (b, st.1, 0)

/-! Entries. -/
def rightN (e : Entry) : Bool := number e.pos && number e.epoch && (fits e.b == 0)
def put (e : Entry) : List UInt8 := if rightN e then Num.put (Num.held e.pos) ++ Num.put (Num.held e.epoch) ++ putBatch e.b else []
def take (s : List UInt8) : Entry × List UInt8 × Nat :=
  let p := Num.take s
  if p.2.2 ≠ 0 then (zeroN, [], p.2.2) else
  let q := Num.take p.2.1
  if q.2.2 ≠ 0 then (zeroN, [], q.2.2) else
  let b := takeBatch q.2.1
  if b.2.2 ≠ 0 then (zeroN, [], b.2.2) else
  if rightN ⟨p.1, q.1, b.1⟩ then (⟨p.1, q.1, b.1⟩, b.2.1, 0) else (zeroN, [], 2)
def follows : List Entry → Int → Int → Bool
  | [], _, _ => true
  | e :: l, pos, epoch => if e.pos ≠ pos + 1 ∨ e.epoch < epoch ∨ rightN e = false then false else follows l e.pos e.epoch

/-! ### Laws -/
theorem number_iff (n : Int) : number n = true ↔ 1 ≤ n ∧ n ≤ 274877906944 := by simp [number]
theorem held_number {n : Int} (h : number n = true) : Num.held n ≤ 1099511627776 ∧ ((Num.held n : Nat) : Int) = n := by
  have := (number_iff n).1 h
  refine ⟨Num.held_le n, ?_⟩
  unfold Num.held
  rw [if_neg (by omega), if_pos (by omega)]; omega
theorem tok_len4 {t : Int × List UInt8} (h : Txt.Shape t) : t.2.length ≤ 4 := by
  rcases h with ⟨_, b, h, _⟩ | ⟨_, _, h⟩ | ⟨_, _, _, _, h, _⟩
  · rw [h]; simp
  · rw [h]; simp
  · exact h
theorem flat_len4 : ∀ (ts : List (Int × List UInt8)), (∀ t ∈ ts, Txt.Shape t) → (ts.flatMap (·.2)).length ≤ 4 * ts.length
  | [], _ => by simp
  | t :: ts, h => by
    have h1 := tok_len4 (h t (by simp))
    have h2 := flat_len4 ts (fun u hu => h u (by simp [hu]))
    simp only [List.flatMap_cons, List.length_append, List.length_cons]; omega
theorem name_len {l : List UInt8} (h : Txt.name l = true) : l.length ≤ 128 := by
  have h1 := flat_len4 (Txt.toks l) (Txt.shape_of l)
  rw [Txt.toks_flat] at h1
  simp only [Txt.name, Bool.and_eq_true, decide_eq_true_eq] at h
  omega
theorem right_len {e : Event} (h : right e = true) : e.kind.length ≤ 128 ∧ e.data.length ≤ 200 := by
  simp only [right, Bool.and_eq_true, decide_eq_true_eq] at h
  exact ⟨name_len h.2, h.1⟩
theorem fits_zero {b : Batch} (h : fits b = 0) : Txt.name b.stream = true ∧ (-1 ≤ b.expect ∧ b.expect ≤ 274877906944) ∧ number b.session = true ∧ number b.seq = true ∧ b.events ≠ [] ∧ b.events.length ≤ 8 ∧ ∀ e ∈ b.events, right e = true := by
  unfold fits at h
  split at h
  · cases h
  · split at h
    · cases h
    · split at h
      · cases h
      · rename_i h1 h2 h3
        simp only [headed, Bool.and_eq_true, decide_eq_true_eq, Bool.not_eq_false, Bool.not_eq_true', List.isEmpty_eq_false_iff, ne_eq, List.all_eq_true] at h1 h2 h3
        obtain ⟨⟨⟨⟨⟨a, b1⟩, b2⟩, c⟩, d⟩, e⟩ := h1
        exact ⟨a, ⟨b1, b2⟩, c, d, e, by omega, h3⟩
theorem rdName_putText (t r : List UInt8) (h : t.length ≤ 200) : rdName (Num.putText t ++ r, 0) = (t, r, 0) := by
  unfold rdName
  rw [if_neg (by simp), Num.takeText_put t r 200 (by omega) (by omega)]
theorem rdNum_put (n : Nat) (r : List UInt8) (h : n ≤ 1099511627776) : rdNum (Num.put n ++ r, 0) = (n, r, 0) := by
  unfold rdNum
  rw [if_neg (by simp), Num.take_put n h r]
theorem rdInt_put (n : Int) (r : List UInt8) (h1 : -1 ≤ n) (h2 : n ≤ 274877906944) : rdInt (Num.putInt n ++ r, 0) = (n, r, 0) := by
  unfold rdInt
  rw [if_neg (by simp), Num.takeInt_put n (by omega) (by omega) r]
theorem rdEvent_bytes (e : Event) (r : List UInt8) (h : right e = true) : rdEvent (bytesE e ++ r, 0) = (e, r, 0) := by
  obtain ⟨h1, h2⟩ := right_len h
  unfold rdEvent bytesE
  rw [List.append_assoc, rdName_putText _ _ (by omega), rdName_putText _ _ (by omega)]
theorem rdEvents_bytes : ∀ (l : List Event) (r : List UInt8), (∀ e ∈ l, right e = true) → rdEvents l.length (l.flatMap bytesE ++ r, 0) = (l, r, 0)
  | [], r, _ => by simp [rdEvents]
  | e :: l, r, h => by
    rw [List.length_cons, rdEvents, if_neg (by simp), List.flatMap_cons, List.append_assoc, rdEvent_bytes e _ (h e (by simp))]
    simp only [rdEvents_bytes l r (fun x hx => h x (by simp [hx]))]
theorem takeBatch_put (b : Batch) (r : List UInt8) (h : fits b = 0) : takeBatch (putBatch b ++ r) = (b, r, 0) := by
  obtain ⟨h1, ⟨h2, h3⟩, h4, h5, h6, h7, h8⟩ := fits_zero h
  have hn := name_len h1
  obtain ⟨i1, i2⟩ := held_number h4
  obtain ⟨j1, j2⟩ := held_number h5
  have hk : Num.held (b.events.length : Int) = b.events.length := Num.held_of _ (by omega)
  have e : rdHead (putBatch b ++ r) = (b.stream, b.expect, Num.held b.session, Num.held b.seq, b.events.length, b.events.flatMap bytesE ++ r, 0) := by
    unfold rdHead putBatch
    rw [if_neg (by simp [h]), bytesB, hk]
    simp only [List.append_assoc]
    rw [rdName_putText _ _ (by omega)]
    simp only
    rw [rdInt_put _ _ h2 h3]
    simp only
    rw [rdNum_put _ _ i1]
    simp only
    rw [rdNum_put _ _ j1]
    simp only
    rw [rdNum_put _ _ (by omega)]
  unfold takeBatch
  rw [e]
  simp only [rdMany]
  rw [if_neg (show ¬ 8 < b.events.length by omega), rdEvents_bytes _ _ h8]
  simp only [i2, j2]
  rw [show (⟨b.stream, b.expect, b.session, b.seq, b.events⟩ : Batch) = b from rfl, rdLast, if_neg (show ¬ fits b ≠ 0 by simp [h])]
  simp
theorem rightN_iff {e : Entry} : rightN e = true ↔ number e.pos = true ∧ number e.epoch = true ∧ fits e.b = 0 := by
  simp [rightN, and_assoc]
theorem take_put (e : Entry) (r : List UInt8) (h : rightN e = true) : take (put e ++ r) = (e, r, 0) := by
  obtain ⟨h1, h2, h3⟩ := rightN_iff.1 h
  obtain ⟨i1, i2⟩ := held_number h1
  obtain ⟨j1, j2⟩ := held_number h2
  unfold put
  rw [if_pos h]
  simp only [List.append_assoc, take]
  rw [Num.take_put _ i1]
  simp only [ne_eq, not_true_eq_false, if_false]
  rw [Num.take_put _ j1]
  simp only [not_true_eq_false, if_false]
  rw [takeBatch_put _ _ h3]
  simp only [not_true_eq_false, if_false, i2, j2]
  rw [show (⟨e.pos, e.epoch, e.b⟩ : Entry) = e from rfl, if_pos h]
theorem take_right (s : List UInt8) (h : (take s).2.2 = 0) : rightN (take s).1 = true := by
  unfold take at h ⊢
  simp only at h ⊢
  split at h
  · rename_i g; exact absurd h g
  · split at h
    · rename_i g; exact absurd h g
    · split at h
      · rename_i g; exact absurd h g
      · split at h
        · rename_i g1 g2 g3 g4
          rw [if_neg g1, if_neg g2, if_neg g3, if_pos g4]
          exact g4
        · cases h
/-! Sizes. -/
theorem putText_len (t : List UInt8) : (Num.putText t).length ≤ 6 + t.length := by
  have := Num.put_le6 _ (Num.held_le t.length)
  simp only [Num.putText, List.length_append]; omega
theorem bytesE_len {e : Event} (h : right e = true) : (bytesE e).length ≤ 340 := by
  obtain ⟨h1, h2⟩ := right_len h
  have h3 := putText_len e.kind
  have h4 := putText_len e.data
  simp only [bytesE, List.length_append]; omega
theorem flat_len (k : Nat) : ∀ (l : List Event), (∀ e ∈ l, (bytesE e).length ≤ k) → (l.flatMap bytesE).length ≤ k * l.length
  | [], _ => by simp
  | e :: l, h => by
    have h1 := h e (by simp)
    have h2 := flat_len k l (fun x hx => h x (by simp [hx]))
    simp only [List.flatMap_cons, List.length_append, List.length_cons, Nat.mul_add]; omega
theorem putBatch_len (b : Batch) : (putBatch b).length ≤ 3000 := by
  unfold putBatch
  split
  · simp
  · rename_i h
    have h0 : fits b = 0 := by omega
    obtain ⟨h1, _, _, _, _, h7, h8⟩ := fits_zero h0
    have a1 := putText_len b.stream
    have a2 := name_len h1
    have a3 := Num.put_le6 _ (Num.zig_le b.expect)
    have a4 := Num.put_le6 _ (Num.held_le b.session)
    have a5 := Num.put_le6 _ (Num.held_le b.seq)
    have a6 := Num.put_le6 _ (Num.held_le b.events.length)
    have a7 := flat_len 340 b.events (fun e he => bytesE_len (h8 e he))
    simp only [bytesB, Num.putInt, List.length_append]; omega
theorem put_len (e : Entry) : (put e).length ≤ 3012 := by
  unfold put
  split
  · have a4 := Num.put_le6 _ (Num.held_le e.pos)
    have a5 := Num.put_le6 _ (Num.held_le e.epoch)
    have a6 := putBatch_len e.b
    simp only [List.length_append]; omega
  · simp
end Go.Proofs.YthmblkckpdpjkaaGreatDoor.Evt
