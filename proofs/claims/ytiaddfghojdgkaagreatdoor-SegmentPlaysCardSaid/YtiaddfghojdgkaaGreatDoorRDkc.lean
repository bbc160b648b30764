/-
  The document's disk: the walks of List, Sync.
-/
import Derived.Test.YtiaddfghojdgkaaGreatDoorRDkb
namespace Go.Proofs.YtiaddfghojdgkaaGreatDoor
open Go.RowKit Go.Shelf

theorem strCells_snoc (fs : List Dk.File) {i : Nat} (h : i < fs.length) : strCells ((fs.map (·.name)).take (i + 1)) = strCells ((fs.map (·.name)).take i) ++ [.string ⟨(fs[i]).name.toArray⟩] := by
  rw [List.take_succ_eq_append_getElem (by simpa using h), List.getElem_map]
  unfold strCells
  rw [List.map_append]
  rfl
set_option maxHeartbeats 1000000 in
set_option maxRecDepth 100000 in
theorem rdList_any (d : Nat) (room : Int) (fs : List Dk.File) (ft : Nat → Prop) (w : World) (h : IsR w d room fs ft) :
    Calls Tryz.prog 68 #[.pointer (some ⟨d, 0, none⟩)] w fun e w' => ∃ sa sc, e = .returned (.slice sa fs.length sc) ∧ Hid (w'.ownsRow w.heap.size 9 1 (.slice sa fs.length sc) fs.length (strCells (fs.map (·.name)))) ∧ Below w.heap.size w w' := by
  obtain ⟨v, h1, h2, h3, h4, h5, -⟩ := h
  have d0 : w.cell? ⟨d, 0, none⟩ = some v := by rw [Lib.cell_of_heap h1]; rfl
  have HC := Lib.hid (cells_of_owns h2)
  obtain ⟨sa, sc, rfl⟩ := cells_sliceV HC.out
  clear h1 h2 h4 h5
  go_enter Tryz.func68, Tryz.ntmps68
  go_wp2
  go_loopw [3, 4] (fun nv iv wr => ∃ (i : Nat) (ra : Option Addr) (rc : Nat), nv = .slice ra i rc ∧ iv = .int .i64 (i : Int) ∧ i ≤ fs.length ∧ Hid (wr.ownsRow w.heap.size 9 1 (.slice ra i rc) i (strCells ((fs.map (·.name)).take i))) ∧ Below w.heap.size w wr) (fun _ iv _ => fs.length - (intOf iv).toNat)
  case atStart => exact ⟨0, none, 0, rfl, rfl, Nat.zero_le _, Lib.hid (World.ownsRow_nil _ _ _ _), Below.refl _ _⟩
  case round =>
    obtain ⟨i, ra, rc, rfl, rfl, hi, HO, hb⟩ := hrel
    have k0 := cell_kept hb (Nat.le_refl _) d0
    by_cases hgo : i < fs.length
    · have hgi : (i : Int) < (fs.length : Int) := by omega
      obtain ⟨b, o, c, hv, c1, -, -⟩ := flAt (Cells.next HC.out hb) i hgo
      cases hv
      have HS := Lib.hid (strCells_snoc fs hgo)
      obtain ⟨x, hx⟩ : ∃ x, (⟨(fs[i]).name.toArray⟩ : ByteArray) = x := ⟨_, rfl⟩
      rw [hx] at HS c1
      clear hx
      go_wp2_with (at_builtin; refine wpList_append_new rfl _ _ _ rfl strT rfl HO.out hb hb.size [.string x] _ rfl rfl (by simp [Value.oneCell']) (by omega) ?_)
      intro v' w2 hown' hg2 hb2 hs2
      obtain ⟨g', cap', rfl⟩ := ownsRow_succ hown'
      have HO2 := Lib.hid hown'
      rw [← HS.out] at HO2
      have HB := Lib.hid hb2
      clear hown' hg2 hs2 hb2
      go_wp2
      exact ⟨⟨i + 1, _, _, rfl, by go_num, hgo, HO2, HB.out⟩, by simp [intOf]; omega⟩
    · have hgi : ¬ (i : Int) < (fs.length : Int) := by omega
      obtain rfl : i = fs.length := by omega
      have HO2 := HO
      rw [List.take_of_length_le (by simp)] at HO2
      clear HO
      go_wp2
      go_ret
      exact ⟨_, _, rfl, HO2, hb⟩
/-- A store into an own row. -/
theorem owns_set {w : World} {B e sz g n cap i : Nat} {xs : List Value} (h : w.ownsRow B e sz (.slice (some ⟨g, 0, none⟩) n cap) n xs) (_hi : i < n * sz) (v : Value) : (w.setCell ⟨g, i, none⟩ v).ownsRow B e sz (.slice (some ⟨g, 0, none⟩) n cap) n (xs.set i v) := by
  refine ⟨by rw [List.length_set]; exact h.1, .inr ?_⟩
  rcases h.2 with ⟨h, _⟩ | ⟨g2, cap2, cur, hv, hb, hg, hn, hm, hs, ht⟩
  · cases h
  · cases hv
    exact ⟨g, cap, cur.setIfInBounds i v, rfl, hb, setCell_at (i := i) hg v, hn, hm, by rw [Array.size_setIfInBounds]; exact hs, by rw [Array.toList_setIfInBounds, List.take_set, ht]⟩
theorem flCells_bytes : ∀ (fs : List Dk.File) (k : Nat) (hk : k < fs.length) (b : ByteArray), (flCells fs).set (k * 3 + 1) (.string b) = flCells (fs.set k ⟨(fs[k]).name, b, (fs[k]).synced⟩)
  | x :: fs, 0, _, b => rfl
  | x :: fs, k + 1, hk, b => by
    rw [show (k + 1) * 3 + 1 = (k * 3 + 1) + 1 + 1 + 1 by omega, flCells_cons, List.set_cons_succ, List.set_cons_succ, List.set_cons_succ, flCells_bytes fs k (by simpa using hk) b]
    rfl
theorem flCells_synced : ∀ (fs : List Dk.File) (k : Nat) (hk : k < fs.length) (n : Nat), (flCells fs).set (k * 3 + 2) (.int .i64 (n : Int)) = flCells (fs.set k ⟨(fs[k]).name, (fs[k]).bytes, n⟩)
  | x :: fs, 0, _, n => rfl
  | x :: fs, k + 1, hk, n => by
    rw [show (k + 1) * 3 + 2 = (k * 3 + 2) + 1 + 1 + 1 by omega, flCells_cons, List.set_cons_succ, List.set_cons_succ, List.set_cons_succ, flCells_synced fs k (by simpa using hk) n]
    rfl
theorem Dk.put_idx {k : List UInt8} {y : Dk.File} (hy : y.name = k) : ∀ (fs : List Dk.File), Dk.Sorted fs → (Dk.look fs k).isSome → Dk.put y fs = fs.set (Dk.idx k fs) y
  | [], _, h => by simp [Dk.look] at h
  | x :: fs, hs, h => by
    have h' := List.pairwise_cons.1 hs
    rw [Dk.put, Dk.idx]
    subst hy
    by_cases e : x.name = y.name
    · rw [if_pos e, if_neg (by rw [e]; exact Std.lt_irrefl)]; rfl
    · rw [if_neg e]
      rw [Dk.look, if_neg e] at h
      obtain ⟨z, hz⟩ := Option.isSome_iff_exists.1 h
      have hz2 := Dk.look_name hz
      have h3 := h'.1 z hz2.2
      rw [hz2.1] at h3
      rw [if_neg (fun h4 => Std.lt_irrefl (Std.lt_trans h3 h4)), if_pos h3, Dk.put_idx rfl fs h'.2 h]
      rfl
end Go.Proofs.YtiaddfghojdgkaaGreatDoor
