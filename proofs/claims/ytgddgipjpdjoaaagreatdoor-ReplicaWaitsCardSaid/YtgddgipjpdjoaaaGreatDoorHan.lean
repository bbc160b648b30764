/-
  Two replicas beside each other; what the law of hands keeps of their logs.
  What the loops of the law of hands keep.
-/
import Derived.Test.YtgddgipjpdjoaaaGreatDoorShw
import Derived.Test.YtgddgipjpdjoaaaGreatDoorOpn2
import Derived.Test.YtgddgipjpdjoaaaGreatDoorOpn
namespace Go.Proofs.YtgddgipjpdjoaaaGreatDoor
open Go.RowKit Go.Shelf

/-- What is kept by whatever turns blocks of X alone. -/
def KeptQ (Q : (Nat → Prop) → World → Prop) : Prop := ∀ (T X X' : Nat → Prop) (w w' : World), Q X w → Turn T w w' → (∀ j, T j → X j) → (∀ j, X' j → X j ∨ w.heap.size ≤ j) → Q X' w'
/-- A replica beside the one that is spoken of. -/
def Beside (a : World) (r lg d sb : Nat) (room : Int) (s : Lg.S) (fs : List Dk.File) (st : Stat) (Q : (Nat → Prop) → World → Prop) : (Nat → Prop) → (Nat → Prop) → World → Prop :=
  fun T X w => ∃ TL TS, Repl a r lg d sb room s fs st TL TS [] X w ∧ (∀ j, (TL j ∨ TS j) → ¬ T j) ∧ Q X w
section
variable {Q : (Nat → Prop) → World → Prop} {a w w' : World} {r lg d sb r2 lg2 d2 sb2 : Nat} {room : Int} {s s2 : Lg.S} {fs fs2 : List Dk.File} {st st2 : Stat}
theorem stable2_beside (hQ : KeptQ Q) : Stable2 a (Beside a r lg d sb room s fs st Q) := by
  rintro T T' X X' w w' ⟨TL, TS, h, hd, hq⟩ ht h1 h2 h3 h4 h5 h6
  refine ⟨TL, TS, ⟨h.log.besideT ht h1 (fun j hj => hd j (.inl hj)) h3 h5 h4 h6, h.sta.other ht (fun j hj => hd j (.inr hj)), h.box.turn (fun e => h.nr (h1 r e)) ht, h.dis, fun j hj => h4 j (h.subX j hj), fun e => ?_, fun j hj => ?_, h.ok, fun p hp => by cases hp⟩, fun j hj hT => ?_, hQ T X X' w w' hq ht h1 h3⟩
  · rcases h3 r e with e | e
    · exact h.nr e
    · have := (Array.getElem?_eq_some_iff.1 h.box).1; omega
  · rcases h3 j hj with e | e
    · exact h.out j e
    · have := h.log.below.size; omega
  · rcases h2 j hT with e | e
    · exact hd j hj e
    · rcases hj with e2 | e2
      · have := h.log.lt j (h.log.subX j e2); omega
      · have := h.sta.lt j e2; omega
theorem RR.swap (h : RR (Beside a r2 lg2 d2 sb2 room s2 fs2 st2 Q) [] a r lg d sb room s fs st w) : RR (Beside a r lg d sb room s fs st Q) [] a r2 lg2 d2 sb2 room s2 fs2 st2 w := by
  obtain ⟨TL, TS, X, h, TL2, TS2, h2, hd, hq⟩ := h
  refine ⟨TL2, TS2, X, h2, TL, TS, h, fun j hj hj2 => ?_, hq⟩
  rcases hj2 with e | e | ⟨p, hp, _⟩
  · exact hd j (.inl e) (hj.elim .inl fun e => .inr (.inl e))
  · exact hd j (.inr e) (hj.elim .inl fun e => .inr (.inl e))
  · cases hp
def QRow (Q : (Nat → Prop) → World → Prop) (lv : Value) (qs : List EnX) : (Nat → Prop) → World → Prop := fun X w => Q X w ∧ Apart X w lv qs
theorem keptQ_row (hQ : KeptQ Q) (lv : Value) (qs : List EnX) : KeptQ (QRow Q lv qs) := fun T X X' w w' h ht h1 h2 => ⟨hQ T X X' w w' h.1 ht h1 h2, h.2.step (ht.wide h1) h2⟩
theorem RR.rowIn {lv : Value} {qs : List EnX} (h : RR (WithRow (Beside a r2 lg2 d2 sb2 room s2 fs2 st2 Q) lv qs) [] a r lg d sb room s fs st w) : RR (Beside a r2 lg2 d2 sb2 room s2 fs2 st2 (QRow Q lv qs)) [] a r lg d sb room s fs st w := by
  refine h.mono ?_
  rintro T X _ ⟨⟨TL, TS, h, hd, hq⟩, ha⟩
  exact ⟨TL, TS, h, hd, hq, ha⟩
theorem RR.rowOut {lv : Value} {qs : List EnX} (h : RR (Beside a r2 lg2 d2 sb2 room s2 fs2 st2 (QRow Q lv qs)) [] a r lg d sb room s fs st w) : RR (WithRow (Beside a r2 lg2 d2 sb2 room s2 fs2 st2 Q) lv qs) [] a r lg d sb room s fs st w := by
  refine h.mono ?_
  rintro T X _ ⟨TL, TS, h, hd, hq, ha⟩
  exact ⟨⟨TL, TS, h, hd, hq⟩, ha⟩
/-- A new disk beside. -/
def DB (room : Int) (d : Nat) (ft : Nat → Prop) (Q : (Nat → Prop) → World → Prop) : (Nat → Prop) → (Nat → Prop) → World → Prop :=
  fun T X w => IsDisk w d room [] ft ∧ (∀ j, ft j → X j ∧ ¬ T j ∧ j < w.heap.size) ∧ Q X w
theorem stable2_db {ft : Nat → Prop} (hQ : KeptQ Q) : Stable2 a (DB room d ft Q) := by
  rintro T T' X X' w w' ⟨h, hf, hq⟩ ht h1 h2 h3 h4 h5 h6
  refine ⟨h.other ht (fun j hj => (hf j hj).2.1), fun j hj => ⟨h4 j (hf j hj).1, fun e => ?_, Nat.lt_of_lt_of_le (hf j hj).2.2 ht.size⟩, hQ T X X' w w' hq ht h1 h3⟩
  rcases h2 j e with e | e
  · exact (hf j hj).2.1 e
  · have := (hf j hj).2.2; omega
theorem repOpen_second {ft : Nat → Prop} (h : RR (DB room d2 ft Q) [] a r lg d sb room s fs st w) (hQ : KeptQ Q) (hE : Env a) (hroom : room ≤ 1048576) :
    Calls Tryz.prog 9 #[.pointer (some ⟨d2, 0, none⟩)] w fun e w' => ∃ r2 lg2 sb2, e = .returned (.tuple #[.pointer (some ⟨r2, 0, none⟩), .int .i64 0]) ∧ RR (Beside a r lg d sb room s fs st Q) [] a r2 lg2 d2 sb2 room (Lg.stateOf 1 [] []) [] Stat.new w' := by
  obtain ⟨TL, TS, X, h, hd, hf, hq⟩ := h
  refine repOpen_new (R := Beside a r lg d sb room s fs st Q) (X := X) (ft := ft) ⟨hE, h.log.below, fun j hj => h.out j (hf j hj).1⟩ hd (fun j hj => ⟨h.log.lt j hj, h.out j hj⟩) (fun j hj => (hf j hj).1) hroom (stable2_beside hQ) ⟨TL, TS, h, fun j hj e => (hf j e).2.1 (hj.elim .inl fun e => .inr (.inl e)), hq⟩
/-- A replica's pair block, untouched. -/
def QP (P : Nat) (u v : Value) : (Nat → Prop) → World → Prop := fun X w => PB17 P u v w ∧ ¬ X P
theorem keptQ_p (P : Nat) (u v : Value) : KeptQ (QP P u v) := by
  intro T X X' w w' ⟨h1, h2⟩ ht ht2 hx
  have hlt := (Array.getElem?_eq_some_iff.1 h1).1
  refine ⟨(ht.block P hlt (fun e => h2 (ht2 _ e))).trans h1, fun e => ?_⟩
  rcases hx P e with e | e
  · exact h2 e
  · omega
theorem RR.pairD {P : Nat} {u v : Value} {ft : Nat → Prop} (h : RR (DB room d2 ft (QP P u v)) [] a r lg d sb room s fs st w) : PB17 P u v w := by
  obtain ⟨TL, TS, X, h, hd, hf, hq⟩ := h
  exact hq.1
end
/-! What is kept of the logs. -/
structure InvA (es : List Int) (fs : List Dk.File) (next : Int) (nums : List Int) (L : List Evt.Entry) (i k : Nat) : Prop where
  h : Lg.Holds (Lg.exM es) fs next nums L
  m : Man.rises 0 es
  l : es.length ≤ 21
  e1 : 1 ≤ Man.lastE 0 es ∧ Man.lastE 0 es ≤ (k : Int)
  e2 : Lg.epochOf L ≤ Man.lastE 0 es
  n : L.length ≤ i
  x : next ≤ 1 + (i : Int)
theorem InvA.fence {es : List Int} {fs : List Dk.File} {next : Int} {nums : List Int} {L : List Evt.Entry} {i k : Nat} (h : InvA es fs next nums L i k) : (Man.epochsD fs).1 = Man.lastE 0 es := by
  rw [h.h.epochs h.m]
theorem InvA.raise {es : List Int} {fs : List Dk.File} {next : Int} {nums : List Int} {L : List Evt.Entry} {i k : Nat} (h : InvA es fs next nums L i k) (hi : i ≤ 41) (hk : k ≤ 1000) :
    ∃ es2 f2 c, Man.raiseF 1048576 ((Man.epochsD fs).1 + 1) fs = (f2, c) ∧ InvA es2 f2 next nums L i (k + 1) := by
  rw [h.fence]
  obtain ⟨h0, h1, h2, h3, h4, h5, h6⟩ := h
  have hb := Lg.bytes_le L
  have ht := h0.tot
  have hm := h0.man_le
  have hx := Lg.total_exM h1
  have hr := (Man.right_mem h0.right).2.2.1
  obtain ⟨es2, r1, r2, r3, r4, r5, r6⟩ := h0.raise (room := 1048576) (e := Man.lastE 0 es + 1) h1 h2 (by omega) (by omega) (by omega)
  refine ⟨es2, _, 0, r1, r2, r3, r4, ⟨by omega, by omega⟩, by omega, h5, h6⟩
theorem InvA.prop {es : List Int} {fs : List Dk.File} {next : Int} {nums : List Int} {L : List Evt.Entry} {i k : Nat} (h : InvA es fs next nums L i k) (hi : i ≤ 40) (b : Evt.Batch) :
    ∃ f2 n2 nums2 L2 c, propF 1048576 b (Lg.stateOf next nums L) fs = ((f2, Lg.stateOf n2 nums2 L2), c) ∧ InvA es f2 n2 nums2 L2 (i + 1) k := by
  obtain ⟨h0, h1, h2, h3, h4, h5, h6⟩ := h
  by_cases hf : Evt.fits b = 0
  · have hb := Lg.bytes_le (L ++ [⟨(L.length : Int) + 1, Man.lastE 0 es, b⟩])
    have hl : (L ++ [(⟨(L.length : Int) + 1, Man.lastE 0 es, b⟩ : Evt.Entry)]).length = L.length + 1 := by simp
    obtain ⟨f2, n2, nums2, p1, p2, p3⟩ := Lg.prop_ok (room := 1048576) (b := b) h0 h1 hf h3.1 h4 (by omega) (by omega) (by omega) (by omega)
    refine ⟨f2, n2, nums2, _, 0, p1, p2, h1, h2, h3, ?_, by omega, by omega⟩
    rw [Lg.epochOf_at (e := ⟨(L.length : Int) + 1, Man.lastE 0 es, b⟩) (by rw [hl, show L.length + 1 - 1 = L.length by omega, List.getElem?_append_right (Nat.le_refl _)]; simp)]
    exact Int.le_refl _
  · exact ⟨fs, next, nums, L, 1, Lg.prop_not hf, h0, h1, h2, h3, h4, by omega, by omega⟩
theorem invA_start : ∃ f1 es, Man.raiseF 1048576 1 [] = (f1, 0) ∧ InvA es f1 1 [] [] 0 1 := by
  have h0 : Lg.Holds (Lg.exM []) [] 1 [] [] := by rw [show Lg.exM [] = [] from if_pos rfl]; exact Lg.held_nil
  have hm0 : Man.rises 0 [] := by show (0 : Int) ≤ 274877906944; omega
  obtain ⟨es, r1, r2, r3, r4, r5, r6⟩ := h0.raise (room := 1048576) (e := 1) hm0 (by simp) (by show (0 : Int) < 1; omega) (by omega) (by simp [Dk.total])
  exact ⟨_, es, r1, r2, r3, r4, ⟨by rw [r5]; omega, by rw [r5]; omega⟩, by rw [r5]; show (0 : Int) ≤ 1; omega, by simp, by omega⟩
/-- The other's log. -/
structure InvB (L : List Evt.Entry) (fs : List Dk.File) (next : Int) (nums : List Int) (j : Nat) : Prop where
  h : Lg.Holds [] fs next nums (L.take j)
  le : j ≤ L.length
  x : next ≤ 1 + (j : Int)
theorem InvB.accept {L : List Evt.Entry} {fs : List Dk.File} {next : Int} {nums : List Int} {j : Nat} (h : InvB L fs next nums j) (hL : Evt.follows L 0 0 = true) (hl : L.length ≤ 60) (k m : Nat) (hk : k ≤ L.length) :
    ∃ f2 n2 nums2 j2 c, acceptF 1048576 (k : Int) (epAt L (k : Int)).1 0 ((L.drop k).take m) (Lg.stateOf next nums (L.take j)) fs = ((f2, Lg.stateOf n2 nums2 (L.take j2)), c) ∧ InvB L f2 n2 nums2 j2 ∧ j ≤ j2 ∧ (k ≤ j → c = 0 ∧ min (k + m) L.length ≤ j2) := by
  have hj := h.le
  have hx := h.x
  obtain ⟨f2, n2, nums2, j2, c, q1, q2, q3, q4, q5, q6⟩ := Lg.accept_ok (room := 1048576) (app := 0) (m := m) hL h.le hk h.h hl (by omega) (by simp [Dk.total])
  exact ⟨f2, n2, nums2, j2, c, q1, ⟨q2, q3, by omega⟩, q4, q6⟩
theorem invB_start (L : List Evt.Entry) : InvB L [] 1 [] 0 := ⟨by rw [List.take_zero]; exact Lg.held_nil, by omega, by omega⟩
/-- What is asked of an act that is small. -/
theorem small17_facts {ps : List Act17X} (h : small17L ps = true) : ps.length ≤ 40 ∧ ∀ p ∈ ps, p.a.s.size ≤ 300 ∧ p.a.es.length ≤ 20 ∧ Small p.a.es := by
  unfold small17L at h
  simp only [Bool.and_eq_true, decide_eq_true_eq, List.all_eq_true, small17A, fitL, fitE] at h
  refine ⟨h.1, fun p hp => ?_⟩
  have h2 := (h.2 p hp).1.1.2.2 p.a.en (by simp)
  simp only [Act17.en] at h2
  refine ⟨by have := h2.1.1; rw [Lib.size_eq]; simpa using this, h2.1.2, fun e he => ?_⟩
  have h3 := h2.2 e he
  unfold fitV at h3
  simp only [Bool.and_eq_true, decide_eq_true_eq] at h3
  omega
end Go.Proofs.YtgddgipjpdjoaaaGreatDoor
namespace Go.Proofs.YtgddgipjpdjoaaaGreatDoor
open Go.RowKit Go.Shelf

variable {a w w' : World} {ra lga da sba rb lgb db sbb : Nat} {Q : (Nat → Prop) → World → Prop}
/-- Two replicas, the first one in front. -/
def Two (a : World) (ra lga da sba rb lgb db sbb : Nat) (Q : (Nat → Prop) → World → Prop) (sA sB : Lg.S) (fA fB : List Dk.File) (w : World) : Prop :=
  RR (Beside a rb lgb db sbb 1048576 sB fB Stat.new Q) [] a ra lga da sba 1048576 sA fA Stat.new w
def L1 (a : World) (ra lga da sba rb lgb db sbb : Nat) (Q : (Nat → Prop) → World → Prop) (i : Nat) (w : World) : Prop :=
  ∃ es fs next nums L, Hid (InvA es fs next nums L i (i + 1)) ∧ Hid (Two a ra lga da sba rb lgb db sbb Q (Lg.stateOf next nums L) (Lg.stateOf 1 [] []) fs [] w)
theorem round_less17 {i n : Nat} (h : i < n) : n - (intOf (.int .i64 ((i : Int) + 1))).toNat < n - (intOf (.int .i64 (i : Int))).toNat := by
  show n - ((i : Int) + 1).toNat < n - ((i : Int)).toNat
  omega
def L2 (a : World) (ra lga da sba rb lgb db sbb : Nat) (Q : (Nat → Prop) → World → Prop) (L : List Evt.Entry) (sA : Lg.S) (fA : List Dk.File) (w : World) : Prop :=
  ∃ fs next nums j, Hid (InvB L fs next nums j) ∧ Hid (Two a ra lga da sba rb lgb db sbb Q sA (Lg.stateOf next nums (L.take j)) fA fs w)
def L3 (a : World) (ra lga da sba rb lgb db sbb : Nat) (Q : (Nat → Prop) → World → Prop) (L : List Evt.Entry) (sA : Lg.S) (fA : List Dk.File) (k : Nat) (w : World) : Prop :=
  ∃ fs next nums j, Hid (InvB L fs next nums j) ∧ k ≤ j ∧ Hid (Two a ra lga da sba rb lgb db sbb Q sA (Lg.stateOf next nums (L.take j)) fA fs w)
theorem InvA.up {es : List Int} {fs : List Dk.File} {next : Int} {nums : List Int} {L : List Evt.Entry} {i k k2 : Nat} (h : InvA es fs next nums L i k) (hk : k ≤ k2) : InvA es fs next nums L i k2 :=
  ⟨h.h, h.m, h.l, ⟨h.e1.1, by have := h.e1.2; omega⟩, h.e2, h.n, h.x⟩
theorem Two.swap {sA sB : Lg.S} {fA fB : List Dk.File} (h : Two a ra lga da sba rb lgb db sbb Q sA sB fA fB w) : Two a rb lgb db sbb ra lga da sba Q sB sA fB fA w := RR.swap h
theorem Two.next {sA sB : Lg.S} {fA fB : List Dk.File} (h : Two a ra lga da sba rb lgb db sbb Q sA sB fA fB w) (hQ : KeptQ Q) (hb : Below w.heap.size w w') : Two a ra lga da sba rb lgb db sbb Q sA sB fA fB w' := RR.next h (stable2_beside hQ) hb
/-- The epoch of a place, as At tells it. -/
theorem repAt_ep {R : (Nat → Prop) → (Nat → Prop) → World → Prop} {r lg d sb : Nat} {room : Int} {s : Lg.S} {fs : List Dk.File} {st : Stat} {J : List (Nat × Obj)} (h : RR R J a r lg d sb room s fs st w) (hR : Stable2 a R) (hn : s.es.length ≤ 1000000) (k : Nat) (hk : k ≤ s.es.length) :
    Calls Tryz.prog 20 #[.pointer (some ⟨r, 0, none⟩), .int .i64 (k : Int)] w fun e w' => ∃ (p : Int) (S : ByteArray) (ex se sq : Int) (va : Option Addr) (vl vc : Nat) (B : Bool), e = .returned (.tuple #[.agg #[.int .i64 p, .int .i64 (epAt s.es (k : Int)).1, .string S, .int .i64 ex, .int .i64 se, .int .i64 sq, .slice va vl vc], .bool B]) ∧ Below w.heap.size w w' := by
  cases k with
  | zero =>
    refine (repAt_out h hR 0 (.inl (by omega))).mono ?_
    rintro e w1 ⟨rfl, hb⟩
    exact ⟨0, ⟨#[]⟩, 0, 0, 0, none, 0, 0, false, by rw [show ((0 : Nat) : Int) = 0 from rfl, Lg.ep_zero], hb⟩
  | succ i =>
    have hx : s.es[i]? = some (s.es[i]'hk) := List.getElem?_eq_getElem _
    refine (repAt_in h hR hn i _ hx).mono ?_
    rintro e w1 ⟨⟨⟨qp, qe, ⟨qs, qx, qn, qq, qes⟩⟩, qv⟩, rfl, hq, hev, hb⟩
    obtain ⟨va, vl, vc, hva⟩ := evs_slice hev
    have hva : qv = .slice va vl vc := hva
    subst hva
    refine ⟨qp, ⟨qs.toArray⟩, qx, qn, qq, va, vl, vc, true, ?_, hb⟩
    rw [show ((i + 1 : Nat) : Int) = (i : Int) + 1 by omega, Lg.ep_in hx, ← hq]
    rfl
/-- What is drawn on: rows of the entries of both. -/
theorem Two.rows {sA sB : Lg.S} {fA fB : List Dk.File} {v1 v2 : Value} {q1 q2 : List EnX} (h : RR (WithRow (Beside a rb lgb db sbb 1048576 sB fB Stat.new (QRow Q v1 q1)) v2 q2) [] a ra lga da sba 1048576 sA fA Stat.new w) : Ents w v1 q1 ∧ Ents w v2 q2 ∧ Two a ra lga da sba rb lgb db sbb Q sA sB fA fB w := by
  have h0 := h
  obtain ⟨TL, TS, X, hx, ⟨TL2, TS2, h2, hd, hq, hq2⟩, ha⟩ := h
  exact ⟨hq2.ents, ha.ents, TL, TS, X, hx, TL2, TS2, h2, hd, hq⟩
theorem plainE_len17 (q : List EnX) : (plainE q).length = q.length := by simp [plainE]
theorem intAt17 {w : World} {v : Value} {l : List Int} (h : Cells w v 1 l.length (intCells l)) (i : Nat) (hi : i < l.length) : ∃ (b o c : Nat), v = .slice (some ⟨b, o, none⟩) l.length c ∧ w.cell? ⟨b, o + i, none⟩ = some (.int .i64 l[i]) := by
  rcases h.2 with ⟨h0, _⟩ | ⟨b, o, c, h1, h2⟩
  · omega
  · exact ⟨b, o, c, h1, h2 i _ (by simp [intCells, List.getElem?_eq_getElem hi])⟩
theorem Two.below {sA sB : Lg.S} {fA fB : List Dk.File} (h : Two a ra lga da sba rb lgb db sbb Q sA sB fA fB w) : Below a.heap.size a w := RR.below h
/-- A block of the caller's, beside. -/
def QFix (Q : (Nat → Prop) → World → Prop) (b : Nat) (o : Obj) : (Nat → Prop) → World → Prop := fun X w => Q X w ∧ w.heap[b]? = some o ∧ ¬ X b
theorem keptQ_fix (hQ : KeptQ Q) (b : Nat) (o : Obj) : KeptQ (QFix Q b o) := by
  intro T X X' w w' ⟨h0, h1, h2⟩ ht ht2 hx
  have hlt := (Array.getElem?_eq_some_iff.1 h1).1
  refine ⟨hQ T X X' w w' h0 ht ht2 hx, (ht.block b hlt (fun e => h2 (ht2 _ e))).trans h1, fun e => ?_⟩
  rcases hx b e with e | e
  · exact h2 e
  · omega
theorem Two.fix {sA sB : Lg.S} {fA fB : List Dk.File} {b : Nat} {o : Obj} (h : Two a ra lga da sba rb lgb db sbb Q sA sB fA fB w) (hQ : KeptQ Q) (hb : Below w.heap.size w w') (h1 : w.heap.size ≤ b) (ho : w'.heap[b]? = some o) : Two a ra lga da sba rb lgb db sbb (QFix Q b o) sA sB fA fB w' := by
  obtain ⟨TL, TS, X, h, TL2, TS2, h2, hd, hq⟩ := h
  exact ⟨TL, TS, X, h.next hb, TL2, TS2, h2.next hb, hd, hQ (fun _ => False) X X w w' hq (Turn.of_below hb) (fun _ e => e.elim) (fun _ e => .inl e), ho, fun e => by have := h.log.lt b e; omega⟩
theorem Two.fixed {sA sB : Lg.S} {fA fB : List Dk.File} {b : Nat} {o : Obj} (h : Two a ra lga da sba rb lgb db sbb (QFix Q b o) sA sB fA fB w) : w.heap[b]? = some o := by
  obtain ⟨TL, TS, X, h, TL2, TS2, h2, hd, hq, ho, _⟩ := h
  exact ho
theorem Two.unfix {sA sB : Lg.S} {fA fB : List Dk.File} {b : Nat} {o : Obj} (h : Two a ra lga da sba rb lgb db sbb (QFix Q b o) sA sB fA fB w) : Two a ra lga da sba rb lgb db sbb Q sA sB fA fB w := by
  obtain ⟨TL, TS, X, h, TL2, TS2, h2, hd, hq, ho, _⟩ := h
  exact ⟨TL, TS, X, h, TL2, TS2, h2, hd, hq⟩
/-- What a hands over is taken by b. -/
theorem two_accept {L : List Evt.Entry} {fA fB : List Dk.File} {nA nB m E : Int} {uA uB : List Int} {j k : Nat} {lv : Value} {qs : List EnX} (h : RR (WithRow (Beside a rb lgb db sbb 1048576 (Lg.stateOf nB uB (L.take j)) fB Stat.new Q) lv qs) [] a ra lga da sba 1048576 (Lg.stateOf nA uA L) fA Stat.new w) (hQ : KeptQ Q)
    (hI : InvB L fB nB uB j) (hL : Evt.follows L 0 0 = true) (hl : L.length ≤ 60) (hk : k ≤ L.length) (hm : 0 ≤ m) (hp : plainE qs = rangeR ((k : Int) + 1) m L) (hcap : CapOk lv) (hE : (epAt L (k : Int)).1 = E) :
    ∃ c : Nat, (k ≤ j → c = 0) ∧ Calls Tryz.prog 21 #[.pointer (some ⟨rb, 0, none⟩), .int .i64 (k : Int), .int .i64 E, lv] w fun e w' => e = .returned (.int .i64 (c : Int)) ∧
      ∃ f2 n2 nums2 j2, Hid (InvB L f2 n2 nums2 j2) ∧ Hid (k ≤ j → min (k + m.toNat) L.length ≤ j2) ∧ Hid (Two a ra lga da sba rb lgb db sbb Q (Lg.stateOf nA uA L) (Lg.stateOf n2 nums2 (L.take j2)) fA f2 w') := by
  obtain ⟨f2, n2, nums2, j2, c, q1, q2, q3, q4⟩ := hI.accept hL hl k m.toNat hk
  rw [Lg.range_mid hk hm] at hp
  rw [hE, ← hp] at q1
  have hql : qs.length ≤ 60 := by
    have := congrArg List.length hp
    rw [plainE_len17, List.length_take, List.length_drop] at this
    omega
  have hj := hI.le
  refine ⟨c, fun hkj => (q4 hkj).1, (repAccept_any (h.rowIn.swap.rowOut) (stable2_beside hQ) (by decide) (Lg.hold_bk hI.h qs.length (by rw [List.length_take]; omega)) hcap (by omega) (by omega) (by omega) q1).mono ?_⟩
  rintro e w1 ⟨rfl, h1⟩
  exact ⟨rfl, f2, n2, nums2, j2, Lib.hid q2, Lib.hid fun hkj => (q4 hkj).2, Lib.hid h1.swap⟩
end Go.Proofs.YtgddgipjpdjoaaaGreatDoor
