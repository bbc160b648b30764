/-
  Two replicas beside each other; what the law of hands keeps of their logs.
  What the loops of the law of hands keep.
-/
import Derived.Test.YtgddgipjpdjoaaaGreatDoorShw
import Derived.Test.YtgddgipjpdjoaaaGreatDoorOpn2
import Derived.Test.YtgddgipjpdjoaaaGreatDoorOpn
namespace Go.Proofs.YtgddgipjpdjoaaaGreatDoor
open Go.RowKit Go.Shelf
def KeptQ (Q : (Nat → Prop) → World → Prop) : Prop := ∀ (T X X' : Nat → Prop) (w w' : World), Q X w → Turn T w w' → (∀ j, T j → X j) → (∀ j, X' j → X j ∨ w.heap.size ≤ j) → Q X' w'
def Beside (a : World) (r lg d sb : Nat) (room : Int) (s : Lg.S) (fs : List Dk.File) (st : Stat) (Q : (Nat → Prop) → World → Prop) : (Nat → Prop) → (Nat → Prop) → World → Prop :=
 fun T X w => ∃ TL TS, Repl a r lg d sb room s fs st TL TS [] X w ∧ (∀ j, (TL j ∨ TS j) → ¬ T j) ∧ Q X w
section
variable {Q : (Nat → Prop) → World → Prop} {a w w' : World} {r lg d sb r2 lg2 d2 sb2 : Nat} {room : Int} {s s2 : Lg.S} {fs fs2 : List Dk.File} {st st2 : Stat}
theorem stable2_beside (hQ : KeptQ Q) : Stable2 a (Beside a r lg d sb room s fs st Q) := by
 rintro T T' X X' w w' ⟨TL, TS, h, hd, hq⟩ ht h1 h2 h3 h4 h5 h6
 refine ⟨TL, TS, ⟨h.log.besideT ht h1 (fun j hj => hd j (.inl hj)) h3 h5 h4 h6, h.sta.other ht (fun j hj => hd j (.inr hj)), h.box.turn (fun e => h.nr (h1 r e)) ht, h.dis, fun j hj => h4 j (h.subX j hj), fun e => ?_, fun j hj => ?_, h.ok, fun p hp => by cases hp⟩, fun j hj hT => ?_, hQ T X X' w w' hq ht h1 h3⟩
 · rcases h3 r e with e | e
   · exact h.nr e
   · have := (Array.getElem?_eq_some_iff.1 h.box).1; omega
 · rcases h3 j hj with e | e
   · exact h.out j e
   · have := h.log.below.size; omega
 · rcases h2 j hT with e | e
   · exact hd j hj e
   · rcases hj with e2 | e2
     · have := h.log.lt j (h.log.subX j e2); omega
     · have := h.sta.lt j e2; omega
theorem RR.swap (h : RR (Beside a r2 lg2 d2 sb2 room s2 fs2 st2 Q) [] a r lg d sb room s fs st w) : RR (Beside a r lg d sb room s fs st Q) [] a r2 lg2 d2 sb2 room s2 fs2 st2 w := by
 obtain ⟨TL, TS, X, h, TL2, TS2, h2, hd, hq⟩ := h
 refine ⟨TL2, TS2, X, h2, TL, TS, h, fun j hj hj2 => ?_, hq⟩
 rcases hj2 with e | e | ⟨p, hp, _⟩
 · exact hd j (.inl e) (hj.elim .inl fun e => .inr (.inl e))
 · exact hd j (.inr e) (hj.elim .inl fun e => .inr (.inl e))
 · cases hp
def QRow (Q : (Nat → Prop) → World → Prop) (lv : Value) (qs : List EnX) : (Nat → Prop) → World → Prop := fun X w => Q X w ∧ Apart X w lv qs
theorem keptQ_row (hQ : KeptQ Q) (lv : Value) (qs : List EnX) : KeptQ (QRow Q lv qs) := fun T X X' w w' h ht h1 h2 => ⟨hQ T X X' w w' h.1 ht h1 h2, h.2.step (ht.wide h1) h2⟩
theorem RR.rowIn {lv : Value} {qs : List EnX} (h : RR (WithRow (Beside a r2 lg2 d2 sb2 room s2 fs2 st2 Q) lv qs) [] a r lg d sb room s fs st w) : RR (Beside a r2 lg2 d2 sb2 room s2 fs2 st2 (QRow Q lv qs)) [] a r lg d sb room s fs st w := by
 refine h.mono ?_
 rintro T X _ ⟨⟨TL, TS, h, hd, hq⟩, ha⟩
 exact ⟨TL, TS, h, hd, hq, ha⟩
theorem RR.rowOut {lv : Value} {qs : List EnX} (h : RR (Beside a r2 lg2 d2 sb2 room s2 fs2 st2 (QRow Q lv qs)) [] a r lg d sb room s fs st w) : RR (WithRow (Beside a r2 lg2 d2 sb2 room s2 fs2 st2 Q) lv qs) [] a r lg d sb room s fs st w := by
 refine h.mono ?_
 rintro T X _ ⟨TL, TS, h, hd, hq, ha⟩
 exact ⟨⟨TL, TS, h, hd, hq⟩, ha⟩
def DB (room : Int) (d : Nat) (ft : Nat → Prop) (Q : (Nat → Prop) → World → Prop) : (Nat → Prop) → (Nat → Prop) → World → Prop :=
 fun T X w => IsDisk w d room [] ft ∧ (∀ j, ft j → X j ∧ ¬ T j ∧ j < w.heap.size) ∧ Q X w
theorem stable2_db {ft : Nat → Prop} (hQ : KeptQ Q) : Stable2 a (DB room d ft Q) := by
 rintro T T' X X' w w' ⟨h, hf, hq⟩ ht h1 h2 h3 h4 h5 h6
 refine ⟨h.other ht (fun j hj => (hf j hj).2.1), fun j hj => ⟨h4 j (hf j hj).1, fun e => ?_, Nat.lt_of_lt_of_le (hf j hj).2.2 ht.size⟩, hQ T X X' w w' hq ht h1 h3⟩
 rcases h2 j e with e | e
 · exact (hf j hj).2.1 e
 · have := (hf j hj).2.2; omega
theorem repOpen_second {ft : Nat → Prop} (h : RR (DB room d2 ft Q) [] a r lg d sb room s fs st w) (hQ : KeptQ Q) (hE : Env a) (hroom : room ≤ 1048576) :
   Calls Tryz.prog 9 #[.pointer (some ⟨d2, 0, none⟩)] w fun e w' => ∃ r2 lg2 sb2, e = .returned (.tuple #[.pointer (some ⟨r2, 0, none⟩), .int .i64 0]) ∧ RR (Beside a r lg d sb room s fs st Q) [] a r2 lg2 d2 sb2 room (Lg.stateOf 1 [] []) [] Stat.new w' := by
 obtain ⟨TL, TS, X, h, hd, hf, hq⟩ := h
 refine repOpen_new (R := Beside a r lg d sb room s fs st Q) (X := X) (ft := ft) ⟨hE, h.log.below, fun j hj => h.out j (hf j hj).1⟩ hd (fun j hj => ⟨h.log.lt j hj, h.out j hj⟩) (fun j hj => (hf j hj).1) hroom (stable2_beside hQ) ⟨TL, TS, h, fun j hj e => (hf j e).2.1 (hj.elim .inl fun e => .inr (.inl e)), hq⟩
end
structure InvA (es : List Int) (fs : List Dk.File) (next : Int) (nums : List Int) (L : List Evt.Entry) (i k : Nat) : Prop where
 h : Lg.Holds (Lg.exM es) fs next nums L
 m : Man.rises 0 es
 l : es.length ≤ 21
 e1 : 1 ≤ Man.lastE 0 es ∧ Man.lastE 0 es ≤ (k : Int)
 e2 : Lg.epochOf L ≤ Man.lastE 0 es
 n : L.length ≤ i
 x : next ≤ 1 + (i : Int)
structure InvB (L : List Evt.Entry) (fs : List Dk.File) (next : Int) (nums : List Int) (j : Nat) : Prop where
 h : Lg.Holds [] fs next nums (L.take j)
 le : j ≤ L.length
 x : next ≤ 1 + (j : Int)
theorem small17_facts {ps : List Act17X} (h : small17L ps = true) : ps.length ≤ 40 ∧ ∀ p ∈ ps, p.a.s.size ≤ 300 ∧ p.a.es.length ≤ 20 ∧ Small p.a.es := by
 unfold small17L at h
 simp only [Bool.and_eq_true, decide_eq_true_eq, List.all_eq_true, small17A, fitL, fitE] at h
 refine ⟨h.1, fun p hp => ?_⟩
 have h2 := (h.2 p hp).1.1.2.2 p.a.en (by simp)
 simp only [Act17.en] at h2
 refine ⟨by have := h2.1.1; rw [Lib.size_eq]; simpa using this, h2.1.2, fun e he => ?_⟩
 have h3 := h2.2 e he
 unfold fitV at h3
 simp only [Bool.and_eq_true, decide_eq_true_eq] at h3
 omega
end Go.Proofs.YtgddgipjpdjoaaaGreatDoor
namespace Go.Proofs.YtgddgipjpdjoaaaGreatDoor
open Go.RowKit Go.Shelf
variable {a w w' : World} {ra lga da sba rb lgb db sbb : Nat} {Q : (Nat → Prop) → World → Prop}
def Two (a : World) (ra lga da sba rb lgb db sbb : Nat) (Q : (Nat → Prop) → World → Prop) (sA sB : Lg.S) (fA fB : List Dk.File) (w : World) : Prop :=
 RR (Beside a rb lgb db sbb 1048576 sB fB Stat.new Q) [] a ra lga da sba 1048576 sA fA Stat.new w
def L1 (a : World) (ra lga da sba rb lgb db sbb : Nat) (Q : (Nat → Prop) → World → Prop) (i : Nat) (w : World) : Prop :=
 ∃ es fs next nums L, Hid (InvA es fs next nums L i (i + 1)) ∧ Hid (Two a ra lga da sba rb lgb db sbb Q (Lg.stateOf next nums L) (Lg.stateOf 1 [] []) fs [] w)
theorem round_less17 {i n : Nat} (h : i < n) : n - (intOf (.int .i64 ((i : Int) + 1))).toNat < n - (intOf (.int .i64 (i : Int))).toNat := by
 show n - ((i : Int) + 1).toNat < n - ((i : Int)).toNat
 omega
def L2 (a : World) (ra lga da sba rb lgb db sbb : Nat) (Q : (Nat → Prop) → World → Prop) (L : List Evt.Entry) (sA : Lg.S) (fA : List Dk.File) (w : World) : Prop :=
 ∃ fs next nums j, Hid (InvB L fs next nums j) ∧ Hid (Two a ra lga da sba rb lgb db sbb Q sA (Lg.stateOf next nums (L.take j)) fA fs w)
def L3 (a : World) (ra lga da sba rb lgb db sbb : Nat) (Q : (Nat → Prop) → World → Prop) (L : List Evt.Entry) (sA : Lg.S) (fA : List Dk.File) (k : Nat) (w : World) : Prop :=
 ∃ fs next nums j, Hid (InvB L fs next nums j) ∧ k ≤ j ∧ Hid (Two a ra lga da sba rb lgb db sbb Q sA (Lg.stateOf next nums (L.take j)) fA fs w)
theorem Two.swap {sA sB : Lg.S} {fA fB : List Dk.File} (h : Two a ra lga da sba rb lgb db sbb Q sA sB fA fB w) : Two a rb lgb db sbb ra lga da sba Q sB sA fB fA w := RR.swap h
theorem plainE_len17 (q : List EnX) : (plainE q).length = q.length := by simp [plainE]
theorem intAt17 {w : World} {v : Value} {l : List Int} (h : Cells w v 1 l.length (intCells l)) (i : Nat) (hi : i < l.length) : ∃ (b o c : Nat), v = .slice (some ⟨b, o, none⟩) l.length c ∧ w.cell? ⟨b, o + i, none⟩ = some (.int .i64 l[i]) := by
 rcases h.2 with ⟨h0, _⟩ | ⟨b, o, c, h1, h2⟩
 · omega
 · exact ⟨b, o, c, h1, h2 i _ (by simp [intCells, List.getElem?_eq_getElem hi])⟩
end Go.Proofs.YtgddgipjpdjoaaaGreatDoor
