/-
  Plain facts for the law of what waits; what its loops keep.
-/
import Derived.Test.YtgddgipjpdjoaaaGreatDoorHan
namespace Go.Proofs.YtgddgipjpdjoaaaGreatDoor
open Go.RowKit Go.Shelf
theorem Stat.apply_good {st : Stat} {e : Evt.Entry} (h1 : Evt.rightN e = true) (h2 : e.pos = st.app + 1) : (st.apply e).2.app = e.pos := by
 unfold Stat.apply
 rw [if_neg (by rw [h1]; simp), if_neg (by omega)]
 split
 · rfl
 split
 · rfl
 · rfl
theorem Stat.plays_full : ∀ (M : List Evt.Entry) (st : Stat) (ep : Int), Evt.follows M st.app ep = true → (st.plays M).2.app = st.app + M.length
 | [], st, _, _ => by simp [Stat.plays]
 | e :: l, st, ep, h => by
   obtain ⟨h1, _, h3, h4⟩ := Seg.follows_cons.1 h
   have ha := Stat.apply_good h3 h1
   have ih := Stat.plays_full l (st.apply e).2 e.epoch (by rw [ha]; exact h4)
   show ((st.apply e).2.plays l).2.app = st.app + (l.length + 1 : Nat)
   omega
theorem adv_take (n : Int) (L : List Evt.Entry) : advL Stat.new n L = L.take n.toNat := by
 unfold advL
 rw [show Stat.new.app = 0 from rfl]
 by_cases h : n ≤ 0
 · rw [if_pos h, show n.toNat = 0 by omega, List.take_zero]
 · rw [if_neg h]
   have := Lg.range_mid (L := L) (k := 0) (m := n) (Nat.zero_le _) (by omega)
   rw [List.drop_zero] at this
   rw [← this, Int.sub_zero]; rfl
def W1 (a : World) (r lg d sb i : Nat) (w : World) : Prop :=
 ∃ es fs next nums L, Hid (InvA es fs next nums L i 1) ∧ Hid (RR TrueR [] a r lg d sb 1048576 (Lg.stateOf next nums L) fs Stat.new w)
end Go.Proofs.YtgddgipjpdjoaaaGreatDoor
