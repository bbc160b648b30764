/-
  The law package 11's rows, plain; its examples: shown.
-/
import Derived.Test.YtbknlffebcbjfaaGreatDoorLogZ
import Derived.Test.YtbknlffebcbjfaaGreatDoorLawL
import Derived.Test.YtbknlffebcbjfaaGreatDoorLogF
namespace Go.Proofs.YtbknlffebcbjfaaGreatDoor
open Go.RowKit Go.Shelf

namespace Lg
theorem plainN_right (p ep : Int) (h1 : 1 ≤ p) (h2 : p ≤ 1000000) (h3 : 1 ≤ ep) (h4 : ep ≤ 1000000) : Evt.rightN (plainN p ep) = true := by
  have n1 : Txt.name [115] = true := by simp [Txt.name, Txt.toks_ascii, Txt.toks_nil, Txt.named]
  have n2 : Txt.name [107] = true := by simp [Txt.name, Txt.toks_ascii, Txt.toks_nil, Txt.named]
  simp [Evt.rightN, plainN, Evt.fits, Evt.headed, n1, n2, Evt.right, Evt.number]
  exact ⟨⟨decide_eq_true h1, decide_eq_true (by omega)⟩, decide_eq_true h3, decide_eq_true (by omega)⟩
theorem plainN_len (p ep : Int) : (Seg.member (plainN p ep)).length ≤ 100 := by
  have := Num.put_le6 _ (Num.held_le p)
  have := Num.put_le6 _ (Num.held_le ep)
  have := Num.put_le6 _ (Num.held_le 1)
  have := Num.put_le6 _ (Num.zig_le 0)
  have a := Evt.putText_len [115]
  have b := Evt.putText_len [107]
  have c := Evt.putText_len []
  have e := Num.put_le6 _ (Num.held_le ((0 + 1 : Nat) : Int))
  have l1 : (Evt.put (plainN p ep)).length ≤ (Num.put (Num.held p)).length + (Num.put (Num.held ep)).length + (Evt.putBatch (plainN p ep).b).length := by
    unfold Evt.put; split
    · simp only [List.length_append, plainN]; omega
    · simp
  have l2 : (Evt.putBatch (plainN p ep).b).length ≤ (Evt.bytesB (plainN p ep).b).length := by
    unfold Evt.putBatch; split
    · simp
    · omega
  have l3 : (Evt.bytesB (plainN p ep).b).length ≤ 60 := by
    simp only [plainN, Evt.bytesB, Evt.bytesE, Num.putInt, List.length_append, List.flatMap_cons, List.flatMap_nil, List.length_nil, List.length_cons] at *
    omega
  simp only [Seg.member, List.length_cons]
  omega
/-- A row of right entries of the law's. -/
def Plains (l : List Evt.Entry) : Prop := ∀ e ∈ l, ∃ p ep, e = plainN p ep
theorem Plains.bytes : ∀ {l : List Evt.Entry}, Plains l → (Seg.bytesB l).length ≤ 108 * l.length
  | [], _ => by simp [Seg.bytesB]
  | e :: l, h => by
    have ih := Plains.bytes (l := l) (fun x hx => h x (by simp [hx]))
    obtain ⟨p, ep, rfl⟩ := h e (by simp)
    have h1 := plainN_len p ep
    have h2 : Seg.bytesB (plainN p ep :: l) = Frm.framed (Seg.member (plainN p ep)) ++ Seg.bytesB l := rfl
    rw [h2, List.length_append, Frm.framed_len, List.length_cons]; omega
theorem Plains.append {a b : List Evt.Entry} (h1 : Plains a) (h2 : Plains b) : Plains (a ++ b) := fun e he => by
  rcases List.mem_append.1 he with h | h
  · exact h1 e h
  · exact h2 e h
theorem Plains.take {l : List Evt.Entry} (h : Plains l) (n : Nat) : Plains (l.take n) := fun e he => h e (List.mem_of_mem_take he)
theorem rowL_plains (pos ep : Int) (n : Nat) : Plains (rowL pos ep n) := fun e he => by
  obtain ⟨i, _, rfl⟩ := List.mem_map.1 he
  exact ⟨_, _, rfl⟩
theorem rowL_follows (pos ep e : Int) (h0 : 0 ≤ pos) (h1 : e ≤ ep) (h2 : 1 ≤ ep) (h3 : ep ≤ 1000000) : ∀ (n : Nat), pos + n ≤ 1000000 → Evt.follows (rowL pos ep n) pos e = true ∧ (Seg.endOf pos e (rowL pos ep n)).1 = pos + n ∧ e ≤ (Seg.endOf pos e (rowL pos ep n)).2 ∧ (Seg.endOf pos e (rowL pos ep n)).2 ≤ ep
  | 0, _ => ⟨rfl, by simp [rowL, Seg.endOf], Int.le_refl _, h1⟩
  | n + 1, h => by
    obtain ⟨g1, g2, g3, g4⟩ := rowL_follows pos ep e h0 h1 h2 h3 n (by omega)
    rw [rowL_succ, Seg.follows_append, endOf_append, g2]
    have hp := plainN_right (pos + 1 + n) ep (by omega) (by omega) h2 h3
    refine ⟨⟨g1, Seg.follows_cons.2 ⟨?_, ?_, hp, rfl⟩⟩, ?_, ?_, ?_⟩
    · simp only [plainN]; omega
    · simp only [plainN]; exact g4
    · simp only [Seg.endOf, plainN]; omega
    · simp only [Seg.endOf, plainN]; omega
    · simp only [Seg.endOf, plainN]; exact Int.le_refl _
theorem epochOf_le {es : List Evt.Entry} {x : Int} (h : ∀ e ∈ es, e.epoch ≤ x) (hx : 0 ≤ x) : epochOf es ≤ x := by
  rcases Nat.eq_zero_or_pos es.length with h0 | h0
  · rw [List.eq_nil_of_length_eq_zero h0]; exact hx
  · rw [epochOf_at (e := es[es.length - 1]) (List.getElem?_eq_getElem (by omega))]
    exact h _ (List.getElem_mem _)
/-- A row that goes on from where a log is. -/
theorem row_on {L : List Evt.Entry} {ep : Int} {n : Nat} (hf : Evt.follows L 0 0 = true) (he : ∀ e ∈ L, e.epoch ≤ ep) (h2 : 1 ≤ ep) (h3 : ep ≤ 1000000) (hn : L.length + n ≤ 1000000) : Evt.follows (L ++ rowL L.length ep n) 0 0 = true :=
  (follows_on hf).2 (rowL_follows L.length ep (epochOf L) (by omega) (epochOf_le he (by omega)) h2 h3 n (by omega)).1
theorem rowL_epoch {pos ep : Int} {n : Nat} : ∀ e ∈ rowL pos ep n, e.epoch = ep := fun e he => by
  obtain ⟨i, _, rfl⟩ := List.mem_map.1 he; rfl
theorem stateOf_bk {next : Int} {nums : List Int} {L : List Evt.Entry} {fs : List Dk.File} (h : Holds fs next nums L) (k : Nat) (hk : L.length + k ≤ 500000) : BK k (stateOf next nums L) := by
  obtain ⟨r1, r2, r3, r4⟩ := Man.right_mem h.right
  refine ⟨by rw [show (stateOf next nums L).parts.length = nums.length from parts_len nums]; omega, hk, by show 0 ≤ next; omega, by show next + (k : Int) ≤ 2147483648; omega, fun p hp => ?_⟩
  obtain ⟨i, hi⟩ := List.mem_iff_getElem?.1 hp
  have hi2 : (partsOf nums)[i]? = some p := hi
  rw [parts_at] at hi2
  cases hn : nums[i]? with
  | none => rw [hn] at hi2; cases hi2
  | some n =>
    rw [hn] at hi2
    simp only [Option.map_some, Option.some.injEq] at hi2
    subst hi2
    have := (List.getElem?_eq_some_iff.1 hn).1
    simp only; omega
theorem Holds.named {fs : List Dk.File} {next : Int} {nums : List Int} {L : List Evt.Entry} (h : Holds fs next nums L) : ∀ x ∈ fs, goneN (stateOf next nums L).nums x.name = false ∧ x.name.length ≤ 1000 := by
  intro x hx
  refine ⟨by rw [show (stateOf next nums L).nums = nums from parts_nums nums]; exact h.gone x hx, ?_⟩
  have hl := look_mem h.sorted hx
  by_cases hf : x.name = Man.file
  · rw [hf]; simp [Man.file]
  · by_cases hk : ∀ n ∈ nums, x.name ≠ Seg.nameOf n
    · rw [h.oth _ hf hk] at hl; cases hl
    · have : ∃ n ∈ nums, x.name = Seg.nameOf n := Classical.byContradiction fun hn => hk (fun n hm e => hn ⟨n, hm, e⟩)
      obtain ⟨n, hn, e⟩ := this
      rw [e]
      have := Seg.name_len n
      omega
end Lg
variable {R : (Nat → Prop) → World → Prop} {a w0 w w' : World} {P lg d : Nat} {mv : Value} {room : Int} {fs fs' : List Dk.File} {next : Int} {nums : List Int} {L : List Evt.Entry}
/-- A log that its disk holds. -/
def LH (R : (Nat → Prop) → World → Prop) (a : World) (P d : Nat) (mv : Value) (room : Int) (lg : Nat) (next : Int) (nums : List Int) (L : List Evt.Entry) (fs : List Dk.File) (w : World) : Prop := LL R a P d mv room lg (Lg.stateOf next nums L) fs w ∧ Lg.Holds fs next nums L
theorem openH {lg0 : Nat} {s0 : Lg.S} (h : LL R a P d mv room lg0 s0 fs w) (hH : Lg.Holds fs next nums L) (hR : Stable R) (hroom : room ≤ 1048576) (hL : L.length ≤ 500000) :
    Calls Tryz.prog 20 #[.pointer (some ⟨d, 0, none⟩)] w fun e w' => ∃ lg, e = .returned (.tuple #[.pointer (some ⟨lg, 0, none⟩), .int .i64 0]) ∧ LL R a P d mv room lg (Lg.stateOf next nums L) fs w' :=
  open_ll h hR hroom hH.man_load (by have := (Man.right_mem hH.right).2.2.1; omega) (hH.reads room) hL hH.named
theorem open0 {ft : Nat → Prop} (hA : Base a w ft) (h : IsDisk w d room [] ft) (hlt : ∀ j, ft j → j < w.heap.size) (hP : PB11 P (.pointer (some ⟨d, 0, none⟩)) mv w) (hn : ¬ ft P) (hR : Stable R) (hRw : R ft w) (hroom : room ≤ 1048576) :
    Calls Tryz.prog 20 #[.pointer (some ⟨d, 0, none⟩)] w fun e w' => ∃ lg, e = .returned (.tuple #[.pointer (some ⟨lg, 0, none⟩), .int .i64 0]) ∧ LL R a P d mv room lg (Lg.stateOf 1 [] []) [] w' :=
  open_at hA h hlt hP hn hR hRw hroom Lg.held_nil.man_load (by simp) (Lg.held_nil.reads room) (by simp [Lg.stateOf]) Lg.held_nil.named
end Go.Proofs.YtbknlffebcbjfaaGreatDoor
