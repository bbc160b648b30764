/-
  A row of acts that is handed in (the law package 11's): its cells; whether it is small.
-/
import Derived.Test.YtbknlffebcbjfaaGreatDoorOpenI
import Derived.Test.YtbknlffebcbjfaaGreatDoorLawL
namespace Go.Proofs.YtbknlffebcbjfaaGreatDoor
open Go.RowKit Go.Shelf Go.Deep Go.ChangeShapes

/-- An act of the law package 11's, plain. -/
structure Act11 where
  op : Int
  n : Int
  m : Int
  text : ByteArray
  keep : List Int
abbrev ActX := Act11 × Value
def actCells (ps : List ActX) : List Value := ps.flatMap fun p => [.int .i64 p.1.op, .int .i64 p.1.n, .int .i64 p.1.m, .string p.1.text, p.2]
def I64 (n : Int) : Prop := -9223372036854775808 ≤ n ∧ n ≤ 9223372036854775807
theorem i64_wf {n : Int} (h : (Lit.int .i64 n).wf = true) : I64 n := by
  have h2 : (decide (IntKind.i64.min ≤ n) && decide (n ≤ IntKind.i64.max)) = true := h
  rw [Bool.and_eq_true, decide_eq_true_eq, decide_eq_true_eq] at h2
  have e1 : IntKind.i64.min = -9223372036854775808 := by decide
  have e2 : IntKind.i64.max = 9223372036854775807 := by decide
  rw [e1, e2] at h2
  exact h2
def ActsR (w : World) (v : Value) (ps : List ActX) : Prop := Cells w v 5 ps.length (actCells ps) ∧ ∀ p ∈ ps, (Cells w p.2 1 p.1.keep.length (intCells p.1.keep) ∧ ∀ n ∈ p.1.keep, I64 n) ∧ I64 p.1.op ∧ I64 p.1.n ∧ I64 p.1.m
theorem ActsR.next {w w' : World} {v : Value} {ps : List ActX} (h : ActsR w v ps) (hb : Below w.heap.size w w') : ActsR w' v ps :=
  ⟨Cells.next h.1 hb, fun p hp => ⟨⟨Cells.next (h.2 p hp).1.1 hb, (h.2 p hp).1.2⟩, (h.2 p hp).2⟩⟩
theorem actCells_at : ∀ (ps : List ActX) (i : Nat) (hi : i < ps.length), (actCells ps)[i * 5]? = some (.int .i64 ps[i].1.op) ∧ (actCells ps)[i * 5 + 1]? = some (.int .i64 ps[i].1.n) ∧ (actCells ps)[i * 5 + 2]? = some (.int .i64 ps[i].1.m) ∧ (actCells ps)[i * 5 + 3]? = some (.string ps[i].1.text) ∧ (actCells ps)[i * 5 + 4]? = some ps[i].2
  | p :: ps, 0, _ => ⟨rfl, rfl, rfl, rfl, rfl⟩
  | p :: ps, i + 1, hi => by
    have := actCells_at ps i (by simpa using hi)
    have e : ∀ k, (actCells (p :: ps))[(i + 1) * 5 + k]? = (actCells ps)[i * 5 + k]? := fun k => by
      rw [show actCells (p :: ps) = .int .i64 p.1.op :: .int .i64 p.1.n :: .int .i64 p.1.m :: .string p.1.text :: p.2 :: actCells ps from rfl, show (i + 1) * 5 + k = (i * 5 + k) + 1 + 1 + 1 + 1 + 1 by omega]
      simp only [List.getElem?_cons_succ]
    have e0 := e 0
    simp only [Nat.add_zero] at e0
    simp only [e, e0, List.getElem_cons_succ]
    exact this
theorem actAt {w : World} {v : Value} {ps : List ActX} (h : ActsR w v ps) (i : Nat) (hi : i < ps.length) {o n m : Int} {t : ByteArray} {ks : List Int} {kv : Value} (hx : ps[i] = (⟨o, n, m, t, ks⟩, kv)) :
    ∃ (b f c : Nat) (ka : Option Addr) (kc : Nat), v = .slice (some ⟨b, f, none⟩) ps.length c ∧ kv = .slice ka ks.length kc ∧ w.cell? ⟨b, f + i * 5, none⟩ = some (.int .i64 o) ∧ w.cell? ⟨b, f + i * 5 + 1, none⟩ = some (.int .i64 n) ∧ w.cell? ⟨b, f + i * 5 + 2, none⟩ = some (.int .i64 m) ∧ w.cell? ⟨b, f + i * 5 + 3, none⟩ = some (.string t) ∧ w.cell? ⟨b, f + i * 5 + 4, none⟩ = some kv ∧
      Cells w kv 1 ks.length (intCells ks) ∧ (∀ k ∈ ks, I64 k) ∧ I64 o ∧ I64 n ∧ I64 m := by
  rcases h.1.2 with ⟨h0, _⟩ | ⟨b, f, c, h1, h2⟩
  · omega
  · have hp := h.2 ps[i] (List.getElem_mem hi)
    obtain ⟨k0, k1, k2, k3, k4⟩ := actCells_at ps i hi
    rw [hx] at k0 k1 k2 k3 k4 hp
    obtain ⟨⟨c1, c2⟩, c3, c4, c5⟩ := hp
    obtain ⟨ka, kc, hkv⟩ := cells_len c1
    have hkv : kv = .slice ka ks.length kc := hkv
    subst hkv
    exact ⟨b, f, c, ka, kc, h1, rfl, h2 _ _ k0, h2 _ _ k1, h2 _ _ k2, h2 _ _ k3, h2 _ _ k4, c1, c2, c3, c4, c5⟩
instance : Inhabited ActX := ⟨(⟨0, 0, 0, ⟨#[]⟩, []⟩, .nilIface)⟩
section
variable {H : Type} {enc : TypeId × Value → H} {W : World}
set_option maxRecDepth 10000 in
theorem open_acts11 {fuel : Nat} {v : Value} {x : DataW H × List MemPlace} (h : DataW.trod enc Tryz.prog W 0 (fun _ => true) true fuel 69 [v] = some x) : ∃ ps : List ActX, ActsR W v ps := by
  rcases open_slice Tryz.underlying69 h with ⟨hcs, _⟩ | ⟨a, len, cap, m, n, D, Pl, hcs, _, hl, hml, hm, _, hx⟩
  · simp only [List.cons.injEq, and_true] at hcs
    subst hcs
    exact ⟨[], ⟨⟨rfl, .inl ⟨rfl, _, _, rfl⟩⟩, fun p hp => by cases hp⟩⟩
  · simp only [List.cons.injEq, and_true] at hcs
    subst hcs
    have hc5 : Tryz.prog.cellsOf 72 = 5 := by kernel_rfl
    have hs1 : Tryz.prog.cellsOf 9 = 1 := by kernel_rfl
    have hi1 : Tryz.prog.cellsOf 3 = 1 := by kernel_rfl
    have hv1 : Tryz.prog.cellsOf 34 = 1 := by kernel_rfl
    have each : ∀ i, i < len → ∃ p : ActX, ((Cells W p.2 1 p.1.keep.length (intCells p.1.keep) ∧ ∀ n ∈ p.1.keep, I64 n) ∧ I64 p.1.op ∧ I64 p.1.n ∧ I64 p.1.m) ∧ ∀ r, r < 5 → W.cell? ((a.add (i * 5)).add r) = (actCells [p])[r]? := by
      intro i hi
      obtain ⟨cs', h1, h2⟩ := hx i (by rw [hm]; simp only [if_true]; omega)
      rw [hc5] at h1
      obtain ⟨_, hl5, hat⟩ := World.cells?_some h1
      obtain ⟨u0, u1, u2, u3, u4, rfl⟩ : ∃ u0 u1 u2 u3 u4, cs' = [u0, u1, u2, u3, u4] := by
        match cs', hl5 with
        | [u0, u1, u2, u3, u4], _ => exact ⟨u0, u1, u2, u3, u4, rfl⟩
      obtain ⟨xs, n2, _, _, _, hlen, hf⟩ := DataW.trod_struct Tryz.underlying72 h2
      obtain ⟨z0, z1, z2, z3, z4, rfl⟩ : ∃ z0 z1 z2 z3 z4, xs = [z0, z1, z2, z3, z4] := by
        match xs, hlen with
        | [z0, z1, z2, z3, z4], _ => exact ⟨z0, z1, z2, z3, z4, rfl⟩
      have hz0 : DataW.trod enc Tryz.prog W 0 (fun _ => true) true n2 3 [u0] = some z0 := by simpa [hi1] using hf 0 _ rfl
      have hz1 : DataW.trod enc Tryz.prog W 0 (fun _ => true) true n2 3 [u1] = some z1 := by simpa [hi1] using hf 1 _ rfl
      have hz2 : DataW.trod enc Tryz.prog W 0 (fun _ => true) true n2 3 [u2] = some z2 := by simpa [hi1] using hf 2 _ rfl
      have hz3 : DataW.trod enc Tryz.prog W 0 (fun _ => true) true n2 9 [u3] = some z3 := by simpa [hs1] using hf 3 _ rfl
      have hz4 : DataW.trod enc Tryz.prog W 0 (fun _ => true) true n2 34 [u4] = some z4 := by simpa [hv1] using hf 4 _ rfl
      obtain ⟨p0, e0, _, b0⟩ := DataW.trod_int Tryz.underlying3 hz0
      obtain ⟨p1, e1, _, b1⟩ := DataW.trod_int Tryz.underlying3 hz1
      obtain ⟨p2, e2, _, b2⟩ := DataW.trod_int Tryz.underlying3 hz2
      obtain ⟨s3, e3, _, _⟩ := DataW.trod_string Tryz.underlying9 hz3
      obtain ⟨ks, hk1, hk2⟩ := open_introw hz4
      simp only [List.cons.injEq, and_true] at e0 e1 e2 e3
      subst e0 e1 e2 e3
      refine ⟨(⟨p0, p1, p2, s3, ks⟩, u4), ⟨⟨hk1, hk2⟩, i64_wf b0, i64_wf b1, i64_wf b2⟩, fun r hr => ?_⟩
      rw [hat r hr]
      rfl
    obtain ⟨f, hf⟩ := choose_lt (α := ActX) (p := fun i p => ((Cells W p.2 1 p.1.keep.length (intCells p.1.keep) ∧ ∀ n ∈ p.1.keep, I64 n) ∧ I64 p.1.op ∧ I64 p.1.n ∧ I64 p.1.m) ∧ ∀ r, r < 5 → W.cell? ((a.add (i * 5)).add r) = (actCells [p])[r]?) each
    have hc := cells_rows (w := W) (a := a) (len := len) (cap := cap) (sz := 5) (fun i => actCells [f i]) (fun i _ => rfl) (by omega) (fun i hi r hr => (hf i hi).2 r hr)
    refine ⟨(List.range len).map f, ⟨?_, fun p hp => ?_⟩⟩
    · have e : actCells ((List.range len).map f) = (List.range len).flatMap fun i => actCells [f i] := by
        simp [actCells, List.flatMap_map]
      rw [e, List.length_map, List.length_range]
      exact hc
    · obtain ⟨i, hi, rfl⟩ := List.mem_map.1 hp
      exact (hf i (List.mem_range.1 hi)).1
end
def smallA (p : ActX) : Bool := decide (p.1.text.size ≤ 1000) && decide (p.1.keep.length ≤ 40)
def smallL (l : List ActX) : Bool := decide (l.length ≤ 30) && l.all smallA
set_option maxHeartbeats 4000000 in
set_option maxRecDepth 100000 in
theorem small11_any (v : Value) (ps : List ActX) (w : World) (hc : ActsR w v ps) :
    Calls Tryz.prog 31 #[v] w fun e w' => e = .returned (.bool (smallL ps)) ∧ Below w.heap.size w w' := by
  obtain ⟨va, vc, rfl⟩ := cells_len hc.1
  by_cases h30 : 30 < ps.length
  · have HN := Lib.hid (show smallL ps = false by unfold smallL; simp; omega)
    have hi30 : (30 : Int) < (ps.length : Int) := by omega
    clear hc
    go_enter Tryz.func31, Tryz.ntmps31
    go_wp2
    go_ret
    exact ⟨by rw [HN.out]; rfl, Below.refl _ _⟩
  · have hi30 : ¬ (30 : Int) < (ps.length : Int) := by omega
    have HF := Lib.hid (show smallL ps = ps.all smallA by unfold smallL; simp; omega)
    have HC := Lib.hid hc
    clear hc
    go_enter Tryz.func31, Tryz.ntmps31
    go_wp2
    go_loopw [3] (fun lv wr => ∃ i : Nat, lv = .int .i64 i ∧ i ≤ ps.length ∧ wr = w ∧ (ps.drop i).all smallA = smallL ps) (fun lv _ => ps.length - (intOf lv).toNat)
    case atStart => exact ⟨0, rfl, by omega, rfl, HF.out.symm⟩
    case round =>
      obtain ⟨i, rfl, hi, rfl, hall⟩ := hrel
      by_cases hp : i < ps.length
      · obtain ⟨⟨⟨o, n, m, t, ks⟩, kv⟩, hx⟩ : ∃ x, ps[i] = x := ⟨_, rfl⟩
        obtain ⟨b, f, c, ka, kc, hv, rfl, k0, k1, k2, k3, k4, hk, _⟩ := actAt HC.out i hp hx
        cases hv
        have HD := Lib.hid (show (ps.drop i).all smallA = (decide (t.size ≤ 1000) && decide (ks.length ≤ 40) && (ps.drop (i + 1)).all smallA) by
          rw [List.drop_eq_getElem_cons hp, hx]; rfl)
        have HA := Lib.hid hall
        clear hall hx hk
        by_cases ht : 1000 < t.size
        · have HN := Lib.hid (show smallL ps = false by
            have : decide (t.size ≤ 1000) = false := by simp; omega
            rw [← HA.out, HD.out, this]; rfl)
          have hti : (1000 : Int) < (t.size : Int) := by omega
          clear HD HA
          go_wp2
          go_ret
          exact ⟨by rw [HN.out]; rfl, Below.refl _ _⟩
        by_cases hk : 40 < ks.length
        · have HN := Lib.hid (show smallL ps = false by
            have : decide (ks.length ≤ 40) = false := by simp; omega
            rw [← HA.out, HD.out, this]; simp)
          have hki : (40 : Int) < (ks.length : Int) := by omega
          clear HD HA
          go_wp2
          go_ret
          exact ⟨by rw [HN.out]; rfl, Below.refl _ _⟩
        have HY := Lib.hid (show (ps.drop (i + 1)).all smallA = smallL ps by
          have q1 : decide (t.size ≤ 1000) = true := by simp; omega
          have q2 : decide (ks.length ≤ 40) = true := by simp; omega
          rw [← HA.out, HD.out, q1, q2]; simp)
        clear HD HA
        go_wp2
        exact ⟨⟨i + 1, by go_num, by omega, trivial, HY.out⟩, by simp [intOf]; omega⟩
      · have HN := Lib.hid (show smallL ps = true by
          rw [← hall, List.drop_eq_nil_of_le (by omega)]; rfl)
        clear hall
        go_wp2
        go_ret
        exact ⟨by rw [HN.out]; rfl, Below.refl _ _⟩
end Go.Proofs.YtbknlffebcbjfaaGreatDoor
