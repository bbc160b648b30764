/-
  Plain Lean, no program in sight: which segments there are (layer 10).
  Plain Lean, no program in sight: the epochs that are kept (layer 10): the mark's rows; what Raise makes of a disk.
-/
import Derived.Test.YtgddgipjpdjoaaaGreatDoorSegG
namespace Go.Proofs.YtgddgipjpdjoaaaGreatDoor.Man
def file : List UInt8 := [109, 97, 110, 105, 102, 101, 115, 116]
def lastF : Int → List Int → Option Int
 | last, [] => some last
 | last, n :: l => if n ≤ last then none else lastF n l
def right (next : Int) (segs : List Int) : Bool :=
 match lastF 0 segs with
 | none => false
 | some last => decide (last < next) && decide (next ≤ 1073741824) && decide (segs.length ≤ 30)
def body (next : Int) (segs : List Int) : List UInt8 := Num.put (Num.held next) ++ (Num.put (Num.held segs.length) ++ segs.flatMap fun n => Num.put (Num.held n))
def writeM (room : Int) (k : List UInt8) (s : ByteArray) (fs : List Dk.File) : List Dk.File × Nat :=
 if (Dk.append room Seg.temp s (Dk.delete Seg.temp fs).1).2 = 0 then Dk.rename Seg.temp k (Dk.sync Seg.temp (Dk.append room Seg.temp s (Dk.delete Seg.temp fs).1).1).1
 else ((Dk.delete Seg.temp (Dk.append room Seg.temp s (Dk.delete Seg.temp fs).1).1).1, (Dk.append room Seg.temp s (Dk.delete Seg.temp fs).1).2)
def bytes (next : Int) (segs : List Int) : ByteArray := ⟨(Frm.framed (body next segs)).toArray⟩
def save (room next : Int) (segs : List Int) (fs : List Dk.File) : List Dk.File × Nat := if right next segs then writeM room file (bytes next segs) fs else (fs, 1)
def tk (st : List UInt8 × Nat) : Nat × (List UInt8 × Nat) := ((Num.take st.1).1, (Num.take st.1).2.1, if st.2 = 0 then (Num.take st.1).2.2 else st.2)
def tks : Nat → List UInt8 × Nat → List Int × (List UInt8 × Nat)
 | 0, st => ([], st)
 | n + 1, st => if st.2 ≠ 0 then ([], st) else (((tk st).1 : Int) :: (tks n (tk st).2).1, (tks n (tk st).2).2)
def parse (s : List UInt8) : (Int × List Int) × Nat :=
 let a := tk ((Frm.take s).1, (Frm.take s).2.2)
 let b := tk a.2
 let c := tks b.1 b.2
 if c.2.2 = 0 ∧ c.2.1 = [] ∧ (Frm.take s).2.1 = [] ∧ right a.1 c.1 = true then ((a.1, c.1), 0) else ((0, []), 2)
def load (fs : List Dk.File) : (Int × List Int) × Nat := if (Dk.read file fs).2 = 0 then parse (Dk.read file fs).1.data.toList else ((1, []), 0)
theorem lastF_mem : ∀ (l : List Int) (a b : Int), lastF a l = some b → a ≤ b ∧ ∀ n ∈ l, a < n ∧ n ≤ b
 | [], a, b, h => by simp only [lastF, Option.some.injEq] at h; subst h; simp
 | n :: l, a, b, h => by
   rw [lastF] at h
   split at h
   · cases h
   · obtain ⟨h1, h2⟩ := lastF_mem l n b h
     refine ⟨by omega, fun m hm => ?_⟩
     rcases List.mem_cons.1 hm with rfl | hm
     · omega
     · have := h2 m hm; omega
theorem lastF_append : ∀ (l : List Int) (a b n : Int), lastF a l = some b → b < n → lastF a (l ++ [n]) = some n
 | [], a, b, n, h, hn => by
   simp only [lastF, Option.some.injEq] at h
   subst h
   rw [List.nil_append, lastF, if_neg (by omega)]; rfl
 | m :: l, a, b, n, h, hn => by
   rw [lastF] at h
   split at h
   · cases h
   · rename_i g
     rw [List.cons_append, lastF, if_neg g]
     exact lastF_append l m b n h hn
theorem lastF_take : ∀ (l : List Int) (a b : Int) (k : Nat), lastF a l = some b → ∃ c, lastF a (l.take k) = some c ∧ c ≤ b
 | [], a, b, k, h => by rw [List.take_nil]; exact ⟨b, h, Int.le_refl _⟩
 | m :: l, a, b, 0, h => by
   have := (lastF_mem _ _ _ h).1
   exact ⟨a, rfl, this⟩
 | m :: l, a, b, k + 1, h => by
   rw [lastF] at h
   split at h
   · cases h
   · rename_i g
     obtain ⟨c, h1, h2⟩ := lastF_take l m b k h
     exact ⟨c, by rw [List.take_succ_cons, lastF, if_neg g]; exact h1, h2⟩
theorem right_iff {next : Int} {segs : List Int} : right next segs = true ↔ ∃ last, lastF 0 segs = some last ∧ last < next ∧ next ≤ 1073741824 ∧ segs.length ≤ 30 := by
 unfold right
 cases h : lastF 0 segs with
 | none => simp
 | some last => simp [and_assoc]
theorem right_mem {next : Int} {segs : List Int} (h : right next segs = true) : 1 ≤ next ∧ next ≤ 1073741824 ∧ segs.length ≤ 30 ∧ ∀ n ∈ segs, 1 ≤ n ∧ n < next := by
 obtain ⟨last, h1, h2, h3, h4⟩ := right_iff.1 h
 obtain ⟨g1, g2⟩ := lastF_mem _ _ _ h1
 exact ⟨by omega, h3, h4, fun n hn => by have := g2 n hn; omega⟩
theorem right_append {next : Int} {segs : List Int} (h : right next segs = true) (h1 : next < 1073741824) (h2 : segs.length < 30) : right (next + 1) (segs ++ [next]) = true := by
 obtain ⟨last, g1, g2, g3, g4⟩ := right_iff.1 h
 exact right_iff.2 ⟨next, lastF_append _ _ _ _ g1 g2, by omega, by omega, by simp; omega⟩
theorem right_take {next : Int} {segs : List Int} (k : Nat) (h : right next segs = true) : right next (segs.take k) = true := by
 obtain ⟨last, g1, g2, g3, g4⟩ := right_iff.1 h
 obtain ⟨c, g5, g6⟩ := lastF_take segs 0 last k g1
 exact right_iff.2 ⟨c, g5, by omega, g3, by rw [List.length_take]; omega⟩
theorem tk_put (n : Nat) (r : List UInt8) (h : n ≤ 1099511627776) : tk (Num.put n ++ r, 0) = (n, r, 0) := by
 unfold tk
 simp only
 rw [Num.take_put n h r]
 simp
theorem tks_put : ∀ (l : List Int) (r : List UInt8), (∀ n ∈ l, 0 ≤ n ∧ n ≤ 1099511627776) → tks l.length ((l.flatMap fun n => Num.put (Num.held n)) ++ r, 0) = (l, r, 0)
 | [], r, _ => by simp [tks]
 | n :: l, r, h => by
   have hn := h n (by simp)
   have e : Num.held n = n.toNat := by unfold Num.held; split <;> (try split) <;> omega
   rw [List.length_cons, tks, if_neg (by simp), List.flatMap_cons, List.append_assoc, tk_put _ _ (Num.held_le n)]
   simp only
   rw [tks_put l r (fun m hm => h m (by simp [hm])), e]
   simp only [Prod.mk.injEq, List.cons.injEq, and_true]
   omega
theorem body_len (next : Int) (segs : List Int) : (body next segs).length ≤ 12 + 6 * segs.length ∧ body next segs ≠ [] := by
 have h1 := Num.put_le6 _ (Num.held_le next)
 have h2 := Num.put_le6 _ (Num.held_le segs.length)
 have h3 : ∀ l : List Int, (l.flatMap fun n => Num.put (Num.held n)).length ≤ 6 * l.length := by
   intro l
   induction l with
   | nil => simp
   | cons n l ih =>
     have := Num.put_le6 _ (Num.held_le n)
     rw [List.flatMap_cons, List.length_append, List.length_cons]; omega
 have h4 := h3 segs
 refine ⟨by simp only [body, List.length_append]; omega, fun h => ?_⟩
 have := Num.put_ne (Num.held next)
 simp [body] at h
 exact this h.1
theorem parse_bytes {next : Int} {segs : List Int} (h : right next segs = true) : parse (bytes next segs).data.toList = ((next, segs), 0) := by
 obtain ⟨h1, h2, h3, h4⟩ := right_mem h
 obtain ⟨b1, b2⟩ := body_len next segs
 have ht := Frm.take_framed (body next segs) [] b2 (by omega)
 rw [List.append_nil] at ht
 have e : Num.held next = next.toNat := by unfold Num.held; split <;> (try split) <;> omega
 have e2 : Num.held (segs.length : Int) = segs.length := Num.held_of _ (by omega)
 unfold parse
 rw [show (bytes next segs).data.toList = Frm.framed (body next segs) from rfl, ht]
 simp only
 have q1 : tk (body next segs, 0) = (next.toNat, Num.put (Num.held segs.length) ++ (segs.flatMap fun n => Num.put (Num.held n)), 0) := by
   unfold body; rw [e]; exact tk_put _ _ (by omega)
 rw [q1]
 simp only
 have q2 : tk (Num.put (Num.held segs.length) ++ (segs.flatMap fun n => Num.put (Num.held n)), 0) = (segs.length, (segs.flatMap fun n => Num.put (Num.held n)), 0) := by
   rw [e2]; exact tk_put _ _ (by omega)
 rw [q2]
 simp only
 have q3 := tks_put segs [] (fun n hn => by have := h4 n hn; omega)
 rw [List.append_nil] at q3
 rw [q3]
 simp only
 have hn : ((next.toNat : Nat) : Int) = next := by omega
 rw [hn, if_pos (by simp [h])]
theorem load_at {next : Int} {segs : List Int} {fs : List Dk.File} {sy : Nat} (h : right next segs = true) (hl : Dk.look fs file = some ⟨file, bytes next segs, sy⟩) : load fs = ((next, segs), 0) := by
 have hr : Dk.read file fs = (bytes next segs, 0) := by rw [Dk.read, hl]
 unfold load
 rw [hr, if_pos rfl]; exact parse_bytes h
theorem load_none {fs : List Dk.File} (hl : Dk.look fs file = none) : load fs = ((1, []), 0) := by
 have hr : Dk.read file fs = (⟨#[]⟩, 6) := by rw [Dk.read, hl]
 unfold load
 rw [hr, if_neg (by simp)]
theorem file_named : Txt.name file = true := by simp [file, Txt.name, Txt.toks_ascii, Txt.toks_nil, Txt.named]
theorem file_ne_temp : file ≠ Seg.temp := by decide
theorem file_ne_seg (n : Int) : Seg.nameOf n ≠ file := by
 unfold Seg.nameOf file
 split
 · intro h; simp at h
 · simp
theorem write_ok {room : Int} {k : List UInt8} {s : ByteArray} {fs : List Dk.File} (hs : Dk.Sorted fs) (hk : Txt.name k = true) (hkt : k ≠ Seg.temp) (ht : Dk.look fs Seg.temp = none) (h40 : fs.length < 40) (hr : (Dk.total fs : Int) + s.size ≤ room) :
   writeM room k s fs = (Dk.put ⟨k, s, s.size⟩ fs, 0) := by
 have hw := Seg.write_new (k := Seg.temp) (s := s) hs Seg.temp_named ht h40 hr
 unfold Seg.writeD at hw
 unfold writeM
 rw [Dk.delete_fst, Dk.del_none _ _ ht]
 have ha : (Dk.append room Seg.temp s fs).2 = 0 := by
   unfold Dk.append
   rw [if_neg (by rw [Seg.temp_named]; simp), if_neg (by omega), if_neg (by omega)]
 rw [if_pos ha] at hw ⊢
 rw [hw]
 have hl := Dk.look_put_same ⟨Seg.temp, s, s.size⟩ fs
 simp only at hl
 unfold Dk.rename
 rw [hl]
 simp only
 rw [if_neg (by rw [hk]; simp), if_neg (fun e => hkt e.symm)]
 simp only [Prod.mk.injEq, and_true]
 have q1 := Dk.sorted_put ⟨Seg.temp, s, s.size⟩ fs hs
 have q2 := Dk.sorted_del k _ q1
 have q3 := Dk.sorted_del Seg.temp _ q2
 refine Dk.sorted_ext _ _ (Dk.sorted_put _ _ q3) (Dk.sorted_put _ _ hs) (fun j => ?_)
 by_cases e : j = k
 · subst e
   have e1 := Dk.look_put_same ⟨j, s, s.size⟩ (Dk.del Seg.temp (Dk.del j (Dk.put ⟨Seg.temp, s, s.size⟩ fs)))
   have e2 := Dk.look_put_same ⟨j, s, s.size⟩ fs
   simp only at e1 e2
   rw [e1, e2]
 · rw [Dk.look_put_other ⟨k, s, s.size⟩ e, Dk.look_put_other ⟨k, s, s.size⟩ e]
   by_cases e2 : j = Seg.temp
   · subst e2; rw [Dk.look_del_same _ _ q2, ht]
   · rw [Dk.look_del_other _ e2, Dk.look_del_other _ e, Dk.look_put_other ⟨Seg.temp, s, s.size⟩ e2]
end Go.Proofs.YtgddgipjpdjoaaaGreatDoor.Man
namespace Go.Proofs.YtgddgipjpdjoaaaGreatDoor.Man
open Go.RowKit
def mark : List UInt8 := [101, 112, 111, 99, 104]
def okE (last : Int) (p : List UInt8) : Bool := (Num.take p).2.2 == 0 && (Num.take p).2.1.isEmpty && decide (last < ((Num.take p).1 : Int)) && decide (((Num.take p).1 : Int) ≤ 274877906944)
def epF : Int → List (List UInt8) → Int × Nat × Bool
 | last, [] => (last, 0, true)
 | last, p :: l => if okE last p = true then ((epF ((Num.take p).1 : Int) l).1, (epF ((Num.take p).1 : Int) l).2.1 + 1, (epF ((Num.take p).1 : Int) l).2.2) else (last, 0, false)
def epochs (s : List UInt8) : Int × Nat × Bool := ((epF 0 (Frm.scan s).1).1, (epF 0 (Frm.scan s).1).2.1, (epF 0 (Frm.scan s).1).2.2 && (Frm.scan s).2.isEmpty)
def epochsD (fs : List Dk.File) : Int × Nat × Bool := epochs (Dk.read mark fs).1.data.toList
def rowE (e : Int) : ByteArray := ⟨(Frm.framed (Num.put (Num.held e))).toArray⟩
def keepF (room e : Int) (fs : List Dk.File) : List Dk.File × Nat :=
 if (epochsD fs).2.2 = true ∧ (epochsD fs).2.1 ≤ 20 then Dk.append room mark (rowE e) fs else writeM room mark (rowE e) fs
def raiseF (room e : Int) (fs : List Dk.File) : List Dk.File × Nat :=
 if e < 1 ∨ 274877906944 < e then (fs, 1) else
 if e < (epochsD fs).1 then (fs, 10) else
 if e = (epochsD fs).1 then Dk.sync mark fs else
 if (keepF room e fs).2 = 0 then Dk.sync mark (keepF room e fs).1 else keepF room e fs
theorem epF_stop {last : Int} {p : List UInt8} {l : List (List UInt8)} (h : okE last p = false) : epF last (p :: l) = (last, 0, false) := by rw [epF, if_neg (by rw [h]; simp)]
theorem epF_go {last : Int} {p : List UInt8} {l : List (List UInt8)} (h : okE last p = true) : epF last (p :: l) = ((epF ((Num.take p).1 : Int) l).1, (epF ((Num.take p).1 : Int) l).2.1 + 1, (epF ((Num.take p).1 : Int) l).2.2) := by rw [epF, if_pos h]
theorem epF_le : ∀ (l : List (List UInt8)) (last : Int), 0 ≤ last → last ≤ 274877906944 → 0 ≤ (epF last l).1 ∧ (epF last l).1 ≤ 274877906944 ∧ (epF last l).2.1 ≤ l.length
 | [], last, h1, h2 => ⟨h1, h2, Nat.le_refl _⟩
 | p :: l, last, h1, h2 => by
   by_cases h : okE last p = true
   · rw [epF_go h]
     simp only [okE, Bool.and_eq_true, decide_eq_true_eq] at h
     have := epF_le l ((Num.take p).1 : Int) (by omega) h.2
     simp only [List.length_cons]
     exact ⟨this.1, this.2.1, by omega⟩
   · rw [epF_stop (Bool.not_eq_true _ ▸ h)]
     exact ⟨h1, h2, Nat.zero_le _⟩
def rises : Int → List Int → Prop
 | last, [] => last ≤ 274877906944
 | last, e :: l => last < e ∧ rises e l
theorem rises_le : ∀ (l : List Int) (a : Int), rises a l → a ≤ 274877906944
 | [], _, h => h
 | e :: l, a, h => by have := rises_le l e h.2; have := h.1; omega
def lastE : Int → List Int → Int
 | a, [] => a
 | _, e :: l => lastE e l
theorem rises_snoc : ∀ (l : List Int) (a e : Int), rises a l → lastE a l < e → e ≤ 274877906944 → rises a (l ++ [e])
 | [], _, _, _, h1, h2 => ⟨h1, h2⟩
 | x :: l, _, e, h, h1, h2 => ⟨h.1, rises_snoc l x e h.2 h1 h2⟩
theorem lastE_snoc : ∀ (l : List Int) (a e : Int), lastE a (l ++ [e]) = e
 | [], _, _ => rfl
 | x :: l, _, e => lastE_snoc l x e
theorem lastE_le : ∀ (l : List Int) (a : Int), 0 ≤ a → rises a l → a ≤ lastE a l ∧ lastE a l ≤ 274877906944
 | [], a, _, h => ⟨Int.le_refl _, h⟩
 | e :: l, a, h0, h => by
   have := lastE_le l e (by have := h.1; omega) h.2
   have := h.1
   exact ⟨by rw [lastE]; omega, by rw [lastE]; omega⟩
def markB (es : List Int) : List UInt8 := es.flatMap fun e => Frm.framed (Num.put (Num.held e))
def markF (es : List Int) : Dk.File := ⟨mark, ⟨(markB es).toArray⟩, (⟨(markB es).toArray⟩ : ByteArray).size⟩
theorem held_of {e : Int} (h1 : 0 ≤ e) (h2 : e ≤ 274877906944) : ((Num.held e : Nat) : Int) = e ∧ Num.held e ≤ 1099511627776 := by
 unfold Num.held
 split
 · omega
 · split <;> omega
theorem put_good {e : Int} (h1 : 0 ≤ e) (h2 : e ≤ 274877906944) : Frm.good (Num.put (Num.held e)) := by
 have := Num.put_le6 (Num.held e) (held_of h1 h2).2
 refine ⟨fun h => ?_, by omega⟩
 rw [Num.put] at h
 split at h <;> cases h
theorem epF_mark : ∀ (es : List Int) (a : Int), 0 ≤ a → rises a es → epF a (es.map fun e => Num.put (Num.held e)) = (lastE a es, es.length, true)
 | [], _, _, _ => rfl
 | e :: l, a, h0, h => by
   have h1 := h.1
   have h2 := rises_le l e h.2
   obtain ⟨g1, g2⟩ := held_of (e := e) (by omega) h2
   have ht := Num.take_put (Num.held e) g2 []
   rw [List.append_nil] at ht
   have hok : okE a (Num.put (Num.held e)) = true := by
     simp only [okE, ht, g1, beq_self_eq_true, List.isEmpty_nil, Bool.and_true, Bool.true_and, Bool.and_eq_true, decide_eq_true_eq]
     exact ⟨h1, h2⟩
   rw [List.map_cons, epF_go hok, ht]
   simp only [g1]
   rw [epF_mark l e (by omega) h.2]
   rfl
theorem markB_eq (es : List Int) : markB es = (es.map fun e => Num.put (Num.held e)).flatMap Frm.framed := by
 simp [markB, List.flatMap_map]
theorem rises_mem : ∀ (es : List Int) (a : Int), 0 ≤ a → rises a es → ∀ e ∈ es, 0 ≤ e ∧ e ≤ 274877906944
 | [], _, _, _, e, he => by cases he
 | x :: l, a, h0, h, e, he => by
   have h1 := h.1
   rcases List.mem_cons.1 he with rfl | he
   · exact ⟨by omega, rises_le l _ h.2⟩
   · exact rises_mem l x (by omega) h.2 e he
theorem epochs_mark {es : List Int} (h : rises 0 es) : epochs (markB es) = (lastE 0 es, es.length, true) := by
 have hg : ∀ p ∈ es.map (fun e => Num.put (Num.held e)), Frm.good p := fun p hp => by
   obtain ⟨e, he, rfl⟩ := List.mem_map.1 hp
   have := rises_mem es 0 (by omega) h e he
   exact put_good this.1 this.2
 have hs : Frm.scan (markB es) = (es.map (fun e => Num.put (Num.held e)), []) := by
   have := Frm.scan_row _ [] hg
   rw [List.append_nil, Frm.scan_nil, List.append_nil, ← markB_eq] at this
   exact this
 unfold epochs
 rw [hs, epF_mark es 0 (by omega) h]
 rfl
theorem markB_len {es : List Int} (h : rises 0 es) : (markB es).length ≤ 14 * es.length := by
 have key : ∀ l : List Int, (∀ e ∈ l, 0 ≤ e ∧ e ≤ 274877906944) → (markB l).length ≤ 14 * l.length := by
   intro l
   induction l with
   | nil => intro _; simp [markB]
   | cons e l ih =>
     intro hl
     have h1 := ih (fun x hx => hl x (List.mem_cons_of_mem _ hx))
     have h2 := hl e List.mem_cons_self
     have h3 := Num.put_le6 (Num.held e) (held_of h2.1 h2.2).2
     rw [markB, List.flatMap_cons, List.length_append, Frm.framed_len, List.length_cons]
     unfold markB at h1
     omega
 exact key es (rises_mem es 0 (by omega) h)
theorem markB_snoc (es : List Int) (e : Int) : markB (es ++ [e]) = markB es ++ Frm.framed (Num.put (Num.held e)) := by simp [markB]
theorem epochs_at {es : List Int} {fs : List Dk.File} (h : rises 0 es) (hl : Dk.look fs mark = some (markF es)) : epochsD fs = (lastE 0 es, es.length, true) := by
 unfold epochsD Dk.read
 rw [hl]
 exact epochs_mark h
theorem epochs_none {fs : List Dk.File} (hl : Dk.look fs mark = none) : epochsD fs = (0, 0, true) := by
 unfold epochsD Dk.read
 rw [hl]; rfl
theorem mark_named : Txt.name mark = true := by simp [mark, Txt.name, Txt.toks_ascii, Txt.toks_nil, Txt.named]
theorem mark_ne_temp : mark ≠ Seg.temp := by decide
theorem mark_ne_file : mark ≠ file := by decide
end Go.Proofs.YtgddgipjpdjoaaaGreatDoor.Man
