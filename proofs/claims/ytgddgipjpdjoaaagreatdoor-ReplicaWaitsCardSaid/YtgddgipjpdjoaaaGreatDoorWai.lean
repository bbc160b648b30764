/-
  Plain facts for the law of what waits; what its loops keep.
-/
import Derived.Test.YtgddgipjpdjoaaaGreatDoorHan
namespace Go.Proofs.YtgddgipjpdjoaaaGreatDoor
open Go.RowKit Go.Shelf

theorem Stat.apply_good {st : Stat} {e : Evt.Entry} (h1 : Evt.rightN e = true) (h2 : e.pos = st.app + 1) : (st.apply e).2.app = e.pos := by
  unfold Stat.apply
  rw [if_neg (by rw [h1]; simp), if_neg (by omega)]
  split
  · rfl
  split
  · rfl
  · rfl
theorem Stat.plays_full : ∀ (M : List Evt.Entry) (st : Stat) (ep : Int), Evt.follows M st.app ep = true → (st.plays M).2.app = st.app + M.length
  | [], st, _, _ => by simp [Stat.plays]
  | e :: l, st, ep, h => by
    obtain ⟨h1, _, h3, h4⟩ := Seg.follows_cons.1 h
    have ha := Stat.apply_good h3 h1
    have ih := Stat.plays_full l (st.apply e).2 e.epoch (by rw [ha]; exact h4)
    show ((st.apply e).2.plays l).2.app = st.app + (l.length + 1 : Nat)
    omega
theorem adv_take (n : Int) (L : List Evt.Entry) : advL Stat.new n L = L.take n.toNat := by
  unfold advL
  rw [show Stat.new.app = 0 from rfl]
  by_cases h : n ≤ 0
  · rw [if_pos h, show n.toNat = 0 by omega, List.take_zero]
  · rw [if_neg h]
    have := Lg.range_mid (L := L) (k := 0) (m := n) (Nat.zero_le _) (by omega)
    rw [List.drop_zero] at this
    rw [← this, Int.sub_zero]; rfl
theorem rest_all {L : List Evt.Entry} {N : Nat} {m : Int} (hN : N ≤ L.length) (hm : (L.length : Int) ≤ m) : rangeR ((N : Int) + 1) m L = L.drop N := by
  rw [Lg.range_mid hN (by omega), List.take_of_length_le (by rw [List.length_drop]; omega)]
theorem adv_facts {L : List Evt.Entry} (hL : Evt.follows L 0 0 = true) (n : Int) : ∃ N : Nat, N ≤ L.length ∧ max 0 (min n (L.length : Int)) = (N : Int) ∧ (Stat.new.plays (advL Stat.new n L)).1.length = N ∧ (Stat.new.plays (advL Stat.new n L)).2.app = (N : Int) := by
  refine ⟨(L.take n.toNat).length, by rw [List.length_take]; omega, by rw [List.length_take]; omega, by rw [Stat.plays_len, adv_take], ?_⟩
  rw [adv_take, Stat.plays_full _ Stat.new 0 (Lg.fol_take hL _)]
  show (0 : Int) + _ = _
  omega
def dirtyP (qs : List EnX) (S : ByteArray) : Bool := qs.any fun p => p.1.b.stream == S.data.toList
def waitP (qs : List EnX) (se sq : Int) : Bool := qs.any fun p => p.1.b.session == se && p.1.b.seq == sq
theorem dirtyP_succ {qs : List EnX} {k : Nat} (hk : k < qs.length) (S : ByteArray) : dirtyP (qs.take (k + 1)) S = (dirtyP (qs.take k) S || (qs[k].1.b.stream == S.data.toList)) := by
  unfold dirtyP
  rw [List.take_add_one, List.getElem?_eq_getElem hk, List.any_append]
  simp
theorem waitP_succ {qs : List EnX} {k : Nat} (hk : k < qs.length) (se sq : Int) : waitP (qs.take (k + 1)) se sq = (waitP (qs.take k) se sq || (qs[k].1.b.session == se && qs[k].1.b.seq == sq)) := by
  unfold waitP
  rw [List.take_add_one, List.getElem?_eq_getElem hk, List.any_append]
  simp
theorem dirtyP_all {qs : List EnX} {l : List Evt.Entry} (h : plainE qs = l) (S : ByteArray) : dirtyP qs S = l.any fun e => (e.b.stream == S.data.toList) := by
  rw [← h]; unfold dirtyP plainE; rw [List.any_map]; rfl
theorem waitP_all {qs : List EnX} {l : List Evt.Entry} (h : plainE qs = l) (se sq : Int) : waitP qs se sq = l.any fun e => (e.b.session == se && e.b.seq == sq) := by
  rw [← h]; unfold waitP plainE; rw [List.any_map]; rfl
/-- One replica, nothing beside. -/
def W1 (a : World) (r lg d sb i : Nat) (w : World) : Prop :=
  ∃ es fs next nums L, Hid (InvA es fs next nums L i 1) ∧ Hid (RR TrueR [] a r lg d sb 1048576 (Lg.stateOf next nums L) fs Stat.new w)
end Go.Proofs.YtgddgipjpdjoaaaGreatDoor
