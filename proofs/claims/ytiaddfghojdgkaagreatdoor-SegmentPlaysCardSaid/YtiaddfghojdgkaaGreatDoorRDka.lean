/-
  The document's disk (bucketlineref8): a row of files; the plain laws of places in it; the walks of find, Read, Synced.
-/
import Derived.Test.YtiaddfghojdgkaaGreatDoorRTak
import Derived.Test.YtiaddfghojdgkaaGreatDoorDsks
namespace Go.Proofs.YtiaddfghojdgkaaGreatDoor
open Go.RowKit Go.Shelf

theorem less_iff : ∀ a b : List UInt8, Op.bytesLess a b = true ↔ a < b
  | [], [] => by simp [Op.bytesLess]
  | _ :: _, [] => by simp [Op.bytesLess]
  | [], _ :: _ => by simp [Op.bytesLess]
  | a :: x, b :: y => by
    have ih := less_iff x y
    simp only [Op.bytesLess, Bool.or_eq_true, decide_eq_true_eq, Bool.and_eq_true, beq_iff_eq, List.cons_lt_cons_iff]
    rw [ih]
namespace Dk
/-- How many files' names lie ahead of a name. -/
def idx (k : List UInt8) : List File → Nat
  | [] => 0
  | x :: fs => if x.name < k then idx k fs + 1 else 0
theorem idx_le (k : List UInt8) : ∀ fs : List File, idx k fs ≤ fs.length
  | [] => Nat.le_refl _
  | x :: fs => by
    rw [idx]
    split
    · have := idx_le k fs; simp; omega
    · simp
theorem idx_go (k : List UInt8) : ∀ (fs : List File) (i : Nat), i ≤ idx k fs → (i < idx k fs ↔ ∃ h : i < fs.length, (fs[i]).name < k)
  | [], i, h => by simp [idx]
  | x :: fs, i, h => by
    rw [idx] at h ⊢
    split at h
    · rename_i e
      rw [if_pos e]
      cases i with
      | zero => simp [e]
      | succ i =>
        have := idx_go k fs i (by omega)
        constructor
        · intro h2
          obtain ⟨h3, h4⟩ := this.1 (by omega)
          exact ⟨by simp; omega, by simpa using h4⟩
        · rintro ⟨h3, h4⟩
          have := this.2 ⟨by simpa using h3, by simpa using h4⟩
          omega
    · rename_i e
      rw [if_neg e]
      obtain rfl : i = 0 := by omega
      simp [e]
theorem look_idx (k : List UInt8) : ∀ (fs : List File), Sorted fs → look fs k = match fs[idx k fs]? with | none => none | some x => if x.name = k then some x else none
  | [], _ => rfl
  | x :: fs, h => by
    have h' := List.pairwise_cons.1 h
    rw [look, idx]
    by_cases e : x.name = k
    · rw [if_pos e, if_neg (by rw [e]; exact Std.lt_irrefl)]; simp [e]
    · rw [if_neg e]
      by_cases e2 : x.name < k
      · rw [if_pos e2, look_idx k fs h'.2]; simp
      · rw [if_neg e2]
        simp only [List.getElem?_cons_zero, if_neg e]
        cases e3 : look fs k with
        | none => rfl
        | some z =>
          have hz := look_name e3
          have h3 := h'.1 z hz.2
          rw [hz.1] at h3
          exact absurd h3 e2
theorem idx_some {k : List UInt8} {fs : List File} {x : File} (hs : Sorted fs) (h : look fs k = some x) : ∃ hi : idx k fs < fs.length, fs[idx k fs] = x := by
  rw [look_idx k fs hs] at h
  cases e : fs[idx k fs]? with
  | none => rw [e] at h; cases h
  | some z =>
    rw [e] at h
    simp only at h
    split at h
    · cases h
      obtain ⟨a, b⟩ := List.getElem?_eq_some_iff.1 e
      exact ⟨a, b⟩
    · cases h
theorem idx_name {k : List UInt8} {fs : List File} (hs : Sorted fs) (hi : idx k fs < fs.length) : (look fs k).isSome = decide ((fs[idx k fs]).name = k) := by
  rw [look_idx k fs hs, List.getElem?_eq_getElem hi]
  simp only
  split
  · rename_i e; simp [e]
  · rename_i e; simp [e]
theorem idx_end {k : List UInt8} {fs : List File} (hs : Sorted fs) (hi : ¬ idx k fs < fs.length) : (look fs k).isSome = false := by
  rw [look_idx k fs hs, List.getElem?_eq_none (by omega)]
  rfl
end Dk
/-- A row of files: three cells each. -/
def flCells (fs : List Dk.File) : List Value := fs.flatMap fun x => [.string ⟨x.name.toArray⟩, .string x.bytes, .int .i64 (x.synced : Int)]
theorem flCells_cons (x : Dk.File) (fs : List Dk.File) : flCells (x :: fs) = .string ⟨x.name.toArray⟩ :: .string x.bytes :: .int .i64 (x.synced : Int) :: flCells fs := rfl
theorem flCells_append (a b : List Dk.File) : flCells (a ++ b) = flCells a ++ flCells b := by simp [flCells]
theorem flCells_len : ∀ (fs : List Dk.File), (flCells fs).length = fs.length * 3
  | [] => rfl
  | x :: fs => by rw [flCells_cons]; simp only [List.length_cons]; rw [flCells_len fs]; omega
theorem flCells_at : ∀ (fs : List Dk.File) (i : Nat) (hi : i < fs.length), (flCells fs)[i * 3]? = some (.string ⟨(fs[i]).name.toArray⟩) ∧ (flCells fs)[i * 3 + 1]? = some (.string (fs[i]).bytes) ∧ (flCells fs)[i * 3 + 2]? = some (.int .i64 ((fs[i]).synced : Int))
  | x :: fs, 0, _ => ⟨rfl, rfl, rfl⟩
  | x :: fs, i + 1, hi => by
    have := flCells_at fs i (by simpa using hi)
    rw [flCells_cons, show (i + 1) * 3 = i * 3 + 1 + 1 + 1 by omega, show i * 3 + 1 + 1 + 1 + 1 = (i * 3 + 1) + 1 + 1 + 1 by omega, show i * 3 + 1 + 1 + 1 + 2 = (i * 3 + 2) + 1 + 1 + 1 by omega]
    simpa using this
/-- The document's disk at a block; ft: the blocks that are its own. -/
def IsR (w : World) (d : Nat) (room : Int) (fs : List Dk.File) (ft : Nat → Prop) : Prop :=
  ∃ v, w.heap[d]? = some (.cells #[v, .int .i64 room] 176 (0, 0)) ∧ w.ownsRow 0 178 3 v fs.length (flCells fs) ∧ fs.length ≤ 40 ∧ Dk.Sorted fs ∧
    (1 ≤ room ∧ room ≤ 1073741824 ∧ (Dk.total fs : Int) ≤ room) ∧ ft d ∧ (∀ b, v.ownBlock = some b → ft b) ∧ (∀ x ∈ fs, x.synced ≤ x.bytes.size)
theorem IsR.kept {w w' : World} {d : Nat} {room : Int} {fs : List Dk.File} {ft : Nat → Prop} (h : IsR w d room fs ft) (hk : ∀ j, j < w.heap.size → ft j → w'.heap[j]? = w.heap[j]?) : IsR w' d room fs ft := by
  obtain ⟨v, h1, h2, h3, h4, h5, h6, h7, h8⟩ := h
  refine ⟨v, (hk d (Array.getElem?_eq_some_iff.1 h1).1 h6).trans h1, ⟨h2.1, ?_⟩, h3, h4, h5, h6, h7, h8⟩
  rcases h2.2 with h | ⟨g, cap, cur, rfl, hb, hg, hr⟩
  · exact .inl h
  · exact .inr ⟨g, cap, cur, rfl, hb, (hk g (Array.getElem?_eq_some_iff.1 hg).1 (h7 g rfl)).trans hg, hr⟩
theorem IsR.next {w w' : World} {d : Nat} {room : Int} {fs : List Dk.File} {ft : Nat → Prop} (h : IsR w d room fs ft) (hb : Below w.heap.size w w') : IsR w' d room fs ft :=
  h.kept fun j hj _ => hb.block j hj
theorem IsR.other {w w' : World} {d : Nat} {room : Int} {fs : List Dk.File} {ft f2 : Nat → Prop} (h : IsR w d room fs ft) (ht : Turn f2 w w') (hd : ∀ j, ft j → ¬ f2 j) : IsR w' d room fs ft :=
  h.kept fun j hj hf => ht.block j hj (hd j hf)
/-- A step of it. -/
def RStep (d : Nat) (room : Int) (fs : List Dk.File) (ft : Nat → Prop) (w w' : World) : Prop := ∃ ft', IsR w' d room fs ft' ∧ (∀ j, ft' j → ft j ∨ w.heap.size ≤ j) ∧ Turn ft w w'
theorem RStep.refl {d : Nat} {room : Int} {fs : List Dk.File} {ft : Nat → Prop} {w : World} (h : IsR w d room fs ft) : RStep d room fs ft w w := ⟨ft, h, fun _ hj => .inl hj, Turn.refl _ _⟩
theorem RStep.of_below {d : Nat} {room : Int} {fs : List Dk.File} {ft : Nat → Prop} {w w' : World} (h : IsR w d room fs ft) (hb : Below w.heap.size w w') : RStep d room fs ft w w' := ⟨ft, h.next hb, fun _ hj => .inl hj, Turn.of_below hb⟩
theorem flAt {w : World} {v : Value} {fs : List Dk.File} (h : Cells w v 3 fs.length (flCells fs)) (i : Nat) (hi : i < fs.length) :
    ∃ b o c, v = .slice (some ⟨b, o, none⟩) fs.length c ∧ w.cell? ⟨b, o + i * 3, none⟩ = some (.string ⟨(fs[i]).name.toArray⟩) ∧ w.cell? ⟨b, o + i * 3 + 1, none⟩ = some (.string (fs[i]).bytes) ∧ w.cell? ⟨b, o + i * 3 + 2, none⟩ = some (.int .i64 ((fs[i]).synced : Int)) := by
  rcases h.2 with ⟨h0, _⟩ | ⟨b, o, c, h1, h2⟩
  · omega
  · have := flCells_at fs i hi
    exact ⟨b, o, c, h1, h2 _ _ this.1, h2 _ _ this.2.1, h2 _ _ this.2.2⟩
set_option maxHeartbeats 1000000 in
set_option maxRecDepth 100000 in
theorem rfind_any (d : Nat) (room : Int) (fs : List Dk.File) (ft : Nat → Prop) (nm : ByteArray) (w : World) (h : IsR w d room fs ft) :
    Calls Tryz.prog 150 #[.pointer (some ⟨d, 0, none⟩), .string nm] w fun e w' => e = .returned (.tuple #[.int .i64 (Dk.idx nm.data.toList fs : Nat), .bool (Dk.look fs nm.data.toList).isSome]) ∧ Below w.heap.size w w' := by
  obtain ⟨v, h1, h2, h3, h4, -⟩ := h
  have d0 : w.cell? ⟨d, 0, none⟩ = some v := by rw [Lib.cell_of_heap h1]; rfl
  have HC := Lib.hid (cells_of_owns h2)
  obtain ⟨sa, sc, rfl⟩ := cells_sliceV HC.out
  have hle := Dk.idx_le nm.data.toList fs
  have HGO := Lib.hid (Dk.idx_go nm.data.toList fs)
  obtain ⟨K, hK⟩ : ∃ K, K = Dk.idx nm.data.toList fs := ⟨_, rfl⟩
  have HKE := Lib.hid hK
  obtain ⟨T, hT⟩ : ∃ T, T = (Dk.look fs nm.data.toList).isSome := ⟨_, rfl⟩
  have HT := Lib.hid hT
  rw [← hK] at HGO hle ⊢
  rw [← hT]
  have HS := Lib.hid h4
  clear h1 h2 h4 hK hT
  go_enter Tryz.func150, Tryz.ntmps150
  go_wp2
  go_loopw [6] (fun iv wr => ∃ i : Nat, iv = .int .i64 (i : Int) ∧ i ≤ K ∧ wr = w) (fun iv _ => K - (intOf iv).toNat)
  case atStart => exact ⟨0, rfl, Nat.zero_le _, by first | rfl | trivial⟩
  case round =>
    obtain ⟨i, rfl, hi, rfl⟩ := hrel
    by_cases hgo : i < K
    · obtain ⟨hif, hlt⟩ := (HGO.out i hi).1 hgo
      obtain ⟨b, o, c, hv, c0, -, -⟩ := flAt HC.out i hif
      cases hv
      have hll : Op.bytesLess (⟨(fs[i]).name.toArray⟩ : ByteArray).toList nm.toList = true := by rw [Lib.toList_data, Lib.toList_data, less_iff]; exact hlt
      obtain ⟨N, hN⟩ : ∃ N, (⟨(fs[i]).name.toArray⟩ : ByteArray) = N := ⟨_, rfl⟩
      rw [hN] at c0 hll
      clear hN hlt
      go_wp2
      exact ⟨⟨i + 1, by go_num, hgo, trivial⟩, by simp [intOf]; omega⟩
    · have hiK : i = K := by omega
      subst hiK
      by_cases hif : i < fs.length
      · obtain ⟨b, o, c, hv, c0, -, -⟩ := flAt HC.out i hif
        cases hv
        have hll : Op.bytesLess (⟨(fs[i]).name.toArray⟩ : ByteArray).toList nm.toList = false := by
          rw [Lib.toList_data, Lib.toList_data, Bool.eq_false_iff]
          intro e
          exact hgo ((HGO.out i hi).2 ⟨hif, (less_iff _ _).1 e⟩)
        have hq : ((⟨(fs[i]).name.toArray⟩ : ByteArray).toList == nm.toList) = T := by
          have := HKE.out
          subst this
          rw [HT.out, Dk.idx_name HS.out hif, Lib.toList_data, Lib.toList_data, Bool.eq_iff_iff, beq_iff_eq, decide_eq_true_eq]
        obtain ⟨N, hN⟩ : ∃ N, (⟨(fs[i]).name.toArray⟩ : ByteArray) = N := ⟨_, rfl⟩
        rw [hN] at c0 hll hq
        clear hN
        go_wp2
        go_region
        go_wp2
        go_ret2
        exact ⟨rfl, (Below.refl _ _).drew⟩
      · have hR : T = false := by
          have := HKE.out
          subst this
          rw [HT.out]; exact Dk.idx_end HS.out hif
        subst hR
        have hif' : ¬ (i : Int) < (fs.length : Int) := by omega
        go_wp2
        go_region
        go_wp2
        go_ret2
        exact ⟨rfl, (Below.refl _ _).drew⟩
end Go.Proofs.YtiaddfghojdgkaaGreatDoor
