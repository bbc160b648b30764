/-
  A slice of entries that came in: its cells, its events' cells.
-/
import Derived.Test.YthmblkckpdpjkaaGreatDoorFit9
import Derived.Deep.Slices
import Derived.Deep.Strs
namespace Go.Proofs.YthmblkckpdpjkaaGreatDoor
open Go.RowKit Go.Shelf Go.Deep Go.ChangeShapes

instance : Inhabited Evt.Event := ⟨⟨[], []⟩⟩
instance : Inhabited (Evt.Entry × Value) := ⟨(Evt.zeroN, .nilIface)⟩
theorem addr_add (b off j : Nat) : ((⟨b, off, none⟩ : Addr).add j) = ⟨b, off + j, none⟩ := by unfold Addr.add; split <;> simp_all

theorem flat_len_rows {c : Nat → List Value} {sz : Nat} : ∀ (len : Nat), (∀ i, i < len → (c i).length = sz) → ((List.range len).flatMap c).length = len * sz
  | 0, _ => by simp
  | n + 1, h => by
    rw [List.range_succ, List.flatMap_append, List.length_append, flat_len_rows n (fun i hi => h i (by omega))]
    simp [h n (by omega), Nat.succ_mul]
theorem flat_at {c : Nat → List Value} {sz : Nat} : ∀ (len : Nat), (∀ i, i < len → (c i).length = sz) → ∀ i r, i < len → r < sz → ((List.range len).flatMap c)[i * sz + r]? = (c i)[r]?
  | 0, _, i, r, hi, _ => by omega
  | n + 1, h, i, r, hi, hr => by
    have hl := flat_len_rows n (fun i hi => h i (by omega))
    rw [List.range_succ, List.flatMap_append]
    by_cases e : i < n
    · have hlt : i * sz + r < n * sz := by
        have h1 : i * sz + r < (i + 1) * sz := by rw [Nat.succ_mul]; omega
        exact Nat.lt_of_lt_of_le h1 (Nat.mul_le_mul_right _ e)
      rw [List.getElem?_append_left (by rw [hl]; exact hlt)]
      exact flat_at n (fun i hi => h i (by omega)) i r e hr
    · obtain rfl : i = n := by omega
      rw [List.getElem?_append_right (by rw [hl]; omega), hl]
      simp
/-- A slice whose elements' cells are known, as cells. -/
theorem cells_rows {w : World} {a : Addr} {len cap sz : Nat} (c : Nat → List Value) (hlen : ∀ i, i < len → (c i).length = sz) (hsz : 0 < sz) (hcell : ∀ i, i < len → ∀ r, r < sz → w.cell? ((a.add (i * sz)).add r) = (c i)[r]?) :
    Cells w (.slice (some a) len cap) sz len ((List.range len).flatMap c) := by
  refine ⟨flat_len_rows len hlen, ?_⟩
  by_cases h0 : len = 0
  · subst h0; exact .inl ⟨rfl, _, _, rfl⟩
  · right
    have h1 := hcell 0 (by omega) 0 hsz
    have hx : ∃ u, (c 0)[0]? = some u := ⟨_, List.getElem?_eq_getElem (by rw [hlen 0 (by omega)]; exact hsz)⟩
    obtain ⟨u, hu⟩ := hx
    rw [hu] at h1
    obtain ⟨b, off, spot⟩ := a
    have hspot : spot = none := by simpa [Addr.add] using World.cell?_spot h1
    subst hspot
    refine ⟨b, off, cap, rfl, fun j u hj => ?_⟩
    have hjl := (List.getElem?_eq_some_iff.1 hj).1
    rw [flat_len_rows len hlen] at hjl
    have hj2 : j = (j / sz) * sz + j % sz := by rw [Nat.mul_comm]; exact (Nat.div_add_mod j sz).symm
    have hi : j / sz < len := Nat.div_lt_of_lt_mul (by rw [Nat.mul_comm]; exact hjl)
    have hr : j % sz < sz := Nat.mod_lt _ hsz
    rw [hj2, flat_at len hlen _ _ hi hr] at hj
    have := hcell _ hi _ hr
    rw [hj, add_add, ← hj2, addr_add] at this
    exact this

section
variable {H : Type} {enc : TypeId × Value → H} {W : World}
set_option maxRecDepth 10000 in
theorem open_events {fuel : Nat} {v : Value} {x : DataW H × List MemPlace} (h : DataW.trod enc Tryz.prog W 0 (fun _ => true) true fuel 34 [v] = some x) : ∃ es, Evs W v es := by
  rcases open_slice Tryz.underlying34 h with ⟨hcs, _⟩ | ⟨a, len, cap, m, n, D, Pl, hcs, _, hl, _, hm, _, hx⟩
  · simp only [List.cons.injEq, and_true] at hcs
    subst hcs
    exact ⟨[], rfl, .inl ⟨rfl, _, _, rfl⟩⟩
  · simp only [List.cons.injEq, and_true] at hcs
    subst hcs
    have hc2 : Tryz.prog.cellsOf 77 = 2 := by kernel_rfl
    have each : ∀ i, i < len → ∃ e : Evt.Event, ∀ r, r < 2 → W.cell? ((a.add (i * 2)).add r) = ([Value.string ⟨e.kind.toArray⟩, Value.string ⟨e.data.toArray⟩] : List Value)[r]? := by
      intro i hi
      obtain ⟨cs', h1, h2⟩ := hx i (by rw [hm]; simp only [if_true]; omega)
      rw [hc2] at h1
      obtain ⟨_, hl2, hat⟩ := World.cells?_some h1
      obtain ⟨y0, y1, n', hx', _, q0, q1⟩ := trod_struct2 Tryz.underlying77 h2
      obtain ⟨u0, u1, rfl⟩ : ∃ u0 u1, cs' = [u0, u1] := by
        match cs', hl2 with
        | [u0, u1], _ => exact ⟨u0, u1, rfl⟩
      have hs1 : Tryz.prog.cellsOf 9 = 1 := by kernel_rfl
      obtain ⟨s0, e0, _, _⟩ := DataW.trod_string Tryz.underlying9 q0
      obtain ⟨s1, e1, _, _⟩ := DataW.trod_string Tryz.underlying9 q1
      simp only [hs1, List.drop_zero, List.drop_succ_cons, List.take_succ_cons, List.take_zero, List.cons.injEq, and_true] at e0 e1
      subst e0 e1
      refine ⟨⟨s0.data.toList, s1.data.toList⟩, fun r hr => ?_⟩
      rw [hat r hr]
    obtain ⟨f, hf⟩ := choose_lt (α := Evt.Event) (p := fun i e => ∀ r, r < 2 → W.cell? ((a.add (i * 2)).add r) = ([Value.string ⟨e.kind.toArray⟩, Value.string ⟨e.data.toArray⟩] : List Value)[r]?) each
    have hc := cells_rows (w := W) (a := a) (len := len) (cap := cap) (sz := 2) (fun i => [Value.string ⟨(f i).kind.toArray⟩, Value.string ⟨(f i).data.toArray⟩]) (fun i _ => rfl) (by omega) (fun i hi r hr => hf i hi r hr)
    refine ⟨(List.range len).map f, ?_⟩
    have e : evCells ((List.range len).map f) = (List.range len).flatMap fun i => [Value.string ⟨(f i).kind.toArray⟩, Value.string ⟨(f i).data.toArray⟩] := by
      simp [evCells, List.flatMap_map]
    unfold Evs
    rw [e, List.length_map, List.length_range]
    exact hc
set_option maxRecDepth 10000 in
theorem open_entries {fuel : Nat} {v : Value} {x : DataW H × List MemPlace} (h : DataW.trod enc Tryz.prog W 0 (fun _ => true) true fuel 26 [v] = some x) : ∃ ps : List (Evt.Entry × Value), EntsR W v ps ∧ Roomed v := by
  rcases open_slice Tryz.underlying26 h with ⟨hcs, _⟩ | ⟨a, len, cap, m, n, D, Pl, hcs, _, hl, hml, hm, _, hx⟩
  · simp only [List.cons.injEq, and_true] at hcs
    subst hcs
    exact ⟨[], ⟨⟨rfl, .inl ⟨rfl, _, _, rfl⟩⟩, fun p hp => by cases hp⟩, .inl rfl⟩
  · simp only [List.cons.injEq, and_true] at hcs
    subst hcs
    have hc7 : Tryz.prog.cellsOf 38 = 7 := by kernel_rfl
    have hc5 : Tryz.prog.cellsOf 36 = 5 := by kernel_rfl
    have hs1 : Tryz.prog.cellsOf 9 = 1 := by kernel_rfl
    have hi1 : Tryz.prog.cellsOf 3 = 1 := by kernel_rfl
    have hv1 : Tryz.prog.cellsOf 34 = 1 := by kernel_rfl
    have each : ∀ i, i < len → ∃ p : Evt.Entry × Value, Evs W p.2 p.1.b.events ∧ ∀ r, r < 7 → W.cell? ((a.add (i * 7)).add r) = (enCells [p])[r]? := by
      intro i hi
      obtain ⟨cs', h1, h2⟩ := hx i (by rw [hm]; simp only [if_true]; omega)
      rw [hc7] at h1
      obtain ⟨_, hl7, hat⟩ := World.cells?_some h1
      obtain ⟨y0, y1, y2, n', _, _, q0, q1, q2⟩ := trod_struct3 Tryz.underlying38 h2
      obtain ⟨u0, u1, u2, u3, u4, u5, u6, rfl⟩ : ∃ u0 u1 u2 u3 u4 u5 u6, cs' = [u0, u1, u2, u3, u4, u5, u6] := by
        match cs', hl7 with
        | [u0, u1, u2, u3, u4, u5, u6], _ => exact ⟨u0, u1, u2, u3, u4, u5, u6, rfl⟩
      obtain ⟨p0, e0, _, _⟩ := DataW.trod_int Tryz.underlying3 q0
      obtain ⟨p1, e1, _, _⟩ := DataW.trod_int Tryz.underlying3 q1
      simp only [hi1, List.drop_zero, List.drop_succ_cons, List.take_succ_cons, List.take_zero, List.cons.injEq, and_true] at e0 e1
      simp only [hc5, List.drop_zero, List.drop_succ_cons, List.take_succ_cons, List.take_zero] at q2
      obtain ⟨xs, n2, _, _, _, hlen, hf⟩ := DataW.trod_struct Tryz.underlying36 q2
      obtain ⟨z0, z1, z2, z3, z4, rfl⟩ : ∃ z0 z1 z2 z3 z4, xs = [z0, z1, z2, z3, z4] := by
        match xs, hlen with
        | [z0, z1, z2, z3, z4], _ => exact ⟨z0, z1, z2, z3, z4, rfl⟩
      have hz0 : DataW.trod enc Tryz.prog W 0 (fun _ => true) true n2 9 [u2] = some z0 := by simpa [hs1] using hf 0 _ rfl
      have hz1 : DataW.trod enc Tryz.prog W 0 (fun _ => true) true n2 3 [u3] = some z1 := by simpa [hi1] using hf 1 _ rfl
      have hz2 : DataW.trod enc Tryz.prog W 0 (fun _ => true) true n2 3 [u4] = some z2 := by simpa [hi1] using hf 2 _ rfl
      have hz3 : DataW.trod enc Tryz.prog W 0 (fun _ => true) true n2 3 [u5] = some z3 := by simpa [hi1] using hf 3 _ rfl
      have hz4 : DataW.trod enc Tryz.prog W 0 (fun _ => true) true n2 34 [u6] = some z4 := by simpa [hv1] using hf 4 _ rfl
      obtain ⟨s2, e2, _, _⟩ := DataW.trod_string Tryz.underlying9 hz0
      obtain ⟨p3, e3, _, _⟩ := DataW.trod_int Tryz.underlying3 hz1
      obtain ⟨p4, e4, _, _⟩ := DataW.trod_int Tryz.underlying3 hz2
      obtain ⟨p5, e5, _, _⟩ := DataW.trod_int Tryz.underlying3 hz3
      obtain ⟨es, hev⟩ := open_events hz4
      simp only [List.cons.injEq, and_true] at e2 e3 e4 e5
      subst e0 e1 e2 e3 e4 e5
      refine ⟨(⟨p0, p1, ⟨s2.data.toList, p3, p4, p5, es⟩⟩, u6), hev, fun r hr => ?_⟩
      rw [hat r hr]
      rfl
    obtain ⟨f, hf⟩ := choose_lt (α := Evt.Entry × Value) (p := fun i p => Evs W p.2 p.1.b.events ∧ ∀ r, r < 7 → W.cell? ((a.add (i * 7)).add r) = (enCells [p])[r]?) each
    have hc := cells_rows (w := W) (a := a) (len := len) (cap := cap) (sz := 7) (fun i => enCells [f i]) (fun i _ => rfl) (by omega) (fun i hi r hr => (hf i hi).2 r hr)
    refine ⟨(List.range len).map f, ⟨?_, fun p hp => ?_⟩, .inr ⟨a, len, cap, rfl, hl, hml⟩⟩
    · have e : enCells ((List.range len).map f) = (List.range len).flatMap fun i => enCells [f i] := by
        simp [enCells, List.flatMap_map]
      rw [e, List.length_map, List.length_range]
      exact hc
    · obtain ⟨i, hi, rfl⟩ := List.mem_map.1 hp
      exact (hf i (List.mem_range.1 hi)).1
end
end Go.Proofs.YthmblkckpdpjkaaGreatDoor
