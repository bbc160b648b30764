/-
  A row of acts that is handed in (the law package 9's): its cells; whether it is small.
-/
import Derived.Test.YtiaddfghojdgkaaGreatDoorOpenI
import Derived.Test.YtiaddfghojdgkaaGreatDoorSegs
namespace Go.Proofs.YtiaddfghojdgkaaGreatDoor
open Go.RowKit Go.Shelf Go.Deep Go.ChangeShapes

/-- An act of the law package 9's, plain. -/
structure Act9 where
  op : Int
  n : Int
  m : Int
  l : List EnX
  text : ByteArray
  keep : List Int
abbrev Act9X := Act9 × Value × Value
def act9Cells (ps : List Act9X) : List Value := ps.flatMap fun p => [.int .i64 p.1.op, .int .i64 p.1.n, .int .i64 p.1.m, p.2.1, .string p.1.text, p.2.2]
def J64 (n : Int) : Prop := -9223372036854775808 ≤ n ∧ n ≤ 9223372036854775807
theorem j64_wf {n : Int} (h : (Lit.int .i64 n).wf = true) : J64 n := by
  have h2 : (decide (IntKind.i64.min ≤ n) && decide (n ≤ IntKind.i64.max)) = true := h
  rw [Bool.and_eq_true, decide_eq_true_eq, decide_eq_true_eq] at h2
  have e1 : IntKind.i64.min = -9223372036854775808 := by decide
  have e2 : IntKind.i64.max = 9223372036854775807 := by decide
  rw [e1, e2] at h2
  exact h2
/-- What an act's own rows are. -/
def Act9R (w : World) (p : Act9X) : Prop := EntsR w p.2.1 p.1.l ∧ (Cells w p.2.2 1 p.1.keep.length (intCells p.1.keep) ∧ ∀ n ∈ p.1.keep, J64 n) ∧ J64 p.1.op ∧ J64 p.1.n ∧ J64 p.1.m
def Acts9R (w : World) (v : Value) (ps : List Act9X) : Prop := Cells w v 6 ps.length (act9Cells ps) ∧ ∀ p ∈ ps, Act9R w p
theorem Act9R.next {w w' : World} {p : Act9X} (h : Act9R w p) (hb : Below w.heap.size w w') : Act9R w' p := ⟨h.1.next hb, ⟨Cells.next h.2.1.1 hb, h.2.1.2⟩, h.2.2⟩
theorem Acts9R.next {w w' : World} {v : Value} {ps : List Act9X} (h : Acts9R w v ps) (hb : Below w.heap.size w w') : Acts9R w' v ps :=
  ⟨Cells.next h.1 hb, fun p hp => (h.2 p hp).next hb⟩
theorem act9Cells_at : ∀ (ps : List Act9X) (i : Nat) (hi : i < ps.length), (act9Cells ps)[i * 6]? = some (.int .i64 ps[i].1.op) ∧ (act9Cells ps)[i * 6 + 1]? = some (.int .i64 ps[i].1.n) ∧ (act9Cells ps)[i * 6 + 2]? = some (.int .i64 ps[i].1.m) ∧ (act9Cells ps)[i * 6 + 3]? = some ps[i].2.1 ∧ (act9Cells ps)[i * 6 + 4]? = some (.string ps[i].1.text) ∧ (act9Cells ps)[i * 6 + 5]? = some ps[i].2.2
  | p :: ps, 0, _ => ⟨rfl, rfl, rfl, rfl, rfl, rfl⟩
  | p :: ps, i + 1, hi => by
    have := act9Cells_at ps i (by simpa using hi)
    have e : ∀ k, (act9Cells (p :: ps))[(i + 1) * 6 + k]? = (act9Cells ps)[i * 6 + k]? := fun k => by
      rw [show act9Cells (p :: ps) = .int .i64 p.1.op :: .int .i64 p.1.n :: .int .i64 p.1.m :: p.2.1 :: .string p.1.text :: p.2.2 :: act9Cells ps from rfl, show (i + 1) * 6 + k = (i * 6 + k) + 1 + 1 + 1 + 1 + 1 + 1 by omega]
      simp only [List.getElem?_cons_succ]
    have e0 := e 0
    simp only [Nat.add_zero] at e0
    simp only [e, e0, List.getElem_cons_succ]
    exact this
theorem act9At {w : World} {v : Value} {ps : List Act9X} (h : Acts9R w v ps) (i : Nat) (hi : i < ps.length) {o n m : Int} {l : List EnX} {t : ByteArray} {ks : List Int} {lv kv : Value} (hx : ps[i] = (⟨o, n, m, l, t, ks⟩, lv, kv)) :
    ∃ (b f c : Nat), v = .slice (some ⟨b, f, none⟩) ps.length c ∧ w.cell? ⟨b, f + i * 6, none⟩ = some (.int .i64 o) ∧ w.cell? ⟨b, f + i * 6 + 1, none⟩ = some (.int .i64 n) ∧ w.cell? ⟨b, f + i * 6 + 2, none⟩ = some (.int .i64 m) ∧ w.cell? ⟨b, f + i * 6 + 3, none⟩ = some lv ∧ w.cell? ⟨b, f + i * 6 + 4, none⟩ = some (.string t) ∧ w.cell? ⟨b, f + i * 6 + 5, none⟩ = some kv ∧
      Act9R w (⟨o, n, m, l, t, ks⟩, lv, kv) := by
  rcases h.1.2 with ⟨h0, _⟩ | ⟨b, f, c, h1, h2⟩
  · omega
  · have hp := h.2 ps[i] (List.getElem_mem hi)
    obtain ⟨k0, k1, k2, k3, k4, k5⟩ := act9Cells_at ps i hi
    rw [hx] at k0 k1 k2 k3 k4 k5 hp
    exact ⟨b, f, c, h1, h2 _ _ k0, h2 _ _ k1, h2 _ _ k2, h2 _ _ k3, h2 _ _ k4, h2 _ _ k5, hp⟩
theorem cells_lenB {w : World} {v : Value} {sz n : Nat} {xs : List Value} (h : Cells w v sz n xs) : ∃ va vc, v = .slice va n vc := by
  rcases cellsNil h with ⟨h0, a, c, rfl⟩ | ⟨b, o, c, rfl⟩
  · exact ⟨a, c, by rw [h0]⟩
  · exact ⟨_, _, rfl⟩
instance : Inhabited Act9X := ⟨(⟨0, 0, 0, [], ⟨#[]⟩, []⟩, .nilIface, .nilIface)⟩
section
variable {H : Type} {enc : TypeId × Value → H} {W : World}
set_option maxRecDepth 10000 in
theorem open_acts9 {fuel : Nat} {v : Value} {x : DataW H × List MemPlace} (h : DataW.trod enc Tryz.prog W 0 (fun _ => true) true fuel 22 [v] = some x) : ∃ ps : List Act9X, Acts9R W v ps := by
  rcases open_slice Tryz.underlying22 h with ⟨hcs, _⟩ | ⟨a, len, cap, m, n, D, Pl, hcs, _, hl, hml, hm, _, hx⟩
  · simp only [List.cons.injEq, and_true] at hcs
    subst hcs
    exact ⟨[], ⟨⟨rfl, .inl ⟨rfl, _, _, rfl⟩⟩, fun p hp => by cases hp⟩⟩
  · simp only [List.cons.injEq, and_true] at hcs
    subst hcs
    have hc6 : Tryz.prog.cellsOf 36 = 6 := by kernel_rfl
    have hs1 : Tryz.prog.cellsOf 9 = 1 := by kernel_rfl
    have hi1 : Tryz.prog.cellsOf 3 = 1 := by kernel_rfl
    have he1 : Tryz.prog.cellsOf 33 = 1 := by kernel_rfl
    have hv1 : Tryz.prog.cellsOf 34 = 1 := by kernel_rfl
    have each : ∀ i, i < len → ∃ p : Act9X, Act9R W p ∧ ∀ r, r < 6 → W.cell? ((a.add (i * 6)).add r) = (act9Cells [p])[r]? := by
      intro i hi
      obtain ⟨cs', h1, h2⟩ := hx i (by rw [hm]; simp only [if_true]; omega)
      rw [hc6] at h1
      obtain ⟨_, hl6, hat⟩ := World.cells?_some h1
      obtain ⟨u0, u1, u2, u3, u4, u5, rfl⟩ : ∃ u0 u1 u2 u3 u4 u5, cs' = [u0, u1, u2, u3, u4, u5] := by
        match cs', hl6 with
        | [u0, u1, u2, u3, u4, u5], _ => exact ⟨u0, u1, u2, u3, u4, u5, rfl⟩
      obtain ⟨xs, n2, _, _, _, hlen, hf⟩ := DataW.trod_struct Tryz.underlying36 h2
      obtain ⟨z0, z1, z2, z3, z4, z5, rfl⟩ : ∃ z0 z1 z2 z3 z4 z5, xs = [z0, z1, z2, z3, z4, z5] := by
        match xs, hlen with
        | [z0, z1, z2, z3, z4, z5], _ => exact ⟨z0, z1, z2, z3, z4, z5, rfl⟩
      have hz0 : DataW.trod enc Tryz.prog W 0 (fun _ => true) true n2 3 [u0] = some z0 := by simpa [hi1] using hf 0 _ rfl
      have hz1 : DataW.trod enc Tryz.prog W 0 (fun _ => true) true n2 3 [u1] = some z1 := by simpa [hi1] using hf 1 _ rfl
      have hz2 : DataW.trod enc Tryz.prog W 0 (fun _ => true) true n2 3 [u2] = some z2 := by simpa [hi1] using hf 2 _ rfl
      have hz3 : DataW.trod enc Tryz.prog W 0 (fun _ => true) true n2 33 [u3] = some z3 := by simpa [he1] using hf 3 _ rfl
      have hz4 : DataW.trod enc Tryz.prog W 0 (fun _ => true) true n2 9 [u4] = some z4 := by simpa [hs1] using hf 4 _ rfl
      have hz5 : DataW.trod enc Tryz.prog W 0 (fun _ => true) true n2 34 [u5] = some z5 := by simpa [hv1] using hf 5 _ rfl
      obtain ⟨p0, e0, _, b0⟩ := DataW.trod_int Tryz.underlying3 hz0
      obtain ⟨p1, e1, _, b1⟩ := DataW.trod_int Tryz.underlying3 hz1
      obtain ⟨p2, e2, _, b2⟩ := DataW.trod_int Tryz.underlying3 hz2
      obtain ⟨ls, hls, _⟩ := open_entries hz3
      obtain ⟨s4, e4, _, _⟩ := DataW.trod_string Tryz.underlying9 hz4
      obtain ⟨ks, hk1, hk2⟩ := open_introw hz5
      simp only [List.cons.injEq, and_true] at e0 e1 e2 e4
      subst e0 e1 e2 e4
      refine ⟨(⟨p0, p1, p2, ls, s4, ks⟩, u3, u5), ⟨hls, ⟨hk1, hk2⟩, j64_wf b0, j64_wf b1, j64_wf b2⟩, fun r hr => ?_⟩
      rw [hat r hr]
      rfl
    obtain ⟨f, hf⟩ := choose_lt (α := Act9X) (p := fun i p => Act9R W p ∧ ∀ r, r < 6 → W.cell? ((a.add (i * 6)).add r) = (act9Cells [p])[r]?) each
    have hc := cells_rows (w := W) (a := a) (len := len) (cap := cap) (sz := 6) (fun i => act9Cells [f i]) (fun i _ => rfl) (by omega) (fun i hi r hr => (hf i hi).2 r hr)
    refine ⟨(List.range len).map f, ⟨?_, fun p hp => ?_⟩⟩
    · have e : act9Cells ((List.range len).map f) = (List.range len).flatMap fun i => act9Cells [f i] := by
        simp [act9Cells, List.flatMap_map]
      rw [e, List.length_map, List.length_range]
      exact hc
    · obtain ⟨i, hi, rfl⟩ := List.mem_map.1 hp
      exact (hf i (List.mem_range.1 hi)).1
end
def small9A (p : Act9X) : Bool := fitL (plainE p.1.l) && decide (p.1.text.size ≤ 1000) && decide (p.1.keep.length ≤ 30)
def small9L (l : List Act9X) : Bool := decide (l.length ≤ 40) && l.all small9A
set_option maxHeartbeats 4000000 in
set_option maxRecDepth 100000 in
theorem small9_any (v : Value) (ps : List Act9X) (w : World) (hc : Acts9R w v ps) :
    Calls Tryz.prog 10 #[v] w fun e w' => e = .returned (.bool (small9L ps)) ∧ Below w.heap.size w w' := by
  obtain ⟨va, vc, rfl⟩ := cells_lenB hc.1
  by_cases h40 : 40 < ps.length
  · have HN := Lib.hid (show small9L ps = false by unfold small9L; simp; omega)
    have hi40 : (40 : Int) < (ps.length : Int) := by omega
    clear hc
    go_enter Tryz.func10, Tryz.ntmps10
    go_wp2
    go_ret
    exact ⟨by rw [HN.out]; rfl, Below.refl _ _⟩
  · have hi40 : ¬ (40 : Int) < (ps.length : Int) := by omega
    have HF := Lib.hid (show small9L ps = ps.all small9A by unfold small9L; simp; omega)
    have HC := Lib.hid hc
    clear hc
    go_enter Tryz.func10, Tryz.ntmps10
    go_wp2
    go_loopw [3] (fun lv wr => ∃ i : Nat, lv = .int .i64 i ∧ i ≤ ps.length ∧ Below w.heap.size w wr ∧ (ps.drop i).all small9A = small9L ps) (fun lv _ => ps.length - (intOf lv).toNat)
    case atStart => exact ⟨0, rfl, by omega, Below.refl _ _, HF.out.symm⟩
    case round =>
      obtain ⟨i, rfl, hi, hbw, hall⟩ := hrel
      by_cases hp : i < ps.length
      · obtain ⟨⟨⟨o, n, m, l, t, ks⟩, lv, kv⟩, hx⟩ : ∃ x, ps[i] = x := ⟨_, rfl⟩
        obtain ⟨b, f, c, hv, k0, k1, k2, k3, k4, k5, hR⟩ := act9At (HC.out.next hbw) i hp hx
        obtain ⟨ka, kc, hkv⟩ := cells_lenB hR.2.1.1
        have hkv : kv = .slice ka ks.length kc := hkv
        subst hkv
        cases hv
        have HD := Lib.hid (show (ps.drop i).all small9A = ((fitL (plainE l) && decide (t.size ≤ 1000) && decide (ks.length ≤ 30)) && (ps.drop (i + 1)).all small9A) by
          rw [List.drop_eq_getElem_cons hp, hx]; rfl)
        have HA := Lib.hid hall
        have HFT := Lib.hid (fun w' (hb : Below wr.heap.size wr w') => fits_any9 lv l w' (hR.1.next hb))
        obtain ⟨F, hF⟩ : ∃ F, fitL (plainE l) = F := ⟨_, rfl⟩
        rw [hF] at HFT HD
        have HFW := Lib.hid (HFT.out wr (Below.refl _ _))
        have HB := Lib.hid hbw
        clear hall hx hR hF HFT hbw
        go_wp2_with fail
        refine HFW.out.mono ?_
        rintro e w1 ⟨rfl, b1⟩
        have k4 := cell_kept b1 (Nat.le_refl _) k4
        have k5 := cell_kept b1 (Nat.le_refl _) k5
        have HB1 := Lib.hid (Below.up HB.out (Nat.le_refl _) b1)
        clear HFW HB b1 k0 k1 k2 k3
        cases F with
        | false =>
          have HN := Lib.hid (show small9L ps = false by
            rw [← HA.out, HD.out]; rfl)
          clear HD HA
          go_wp2
          go_ret
          exact ⟨by rw [HN.out]; rfl, HB1.out⟩
        | true =>
        by_cases ht : 1000 < t.size
        · have HN := Lib.hid (show small9L ps = false by
            have : decide (t.size ≤ 1000) = false := by simp; omega
            rw [← HA.out, HD.out, this]; rfl)
          have hti : (1000 : Int) < (t.size : Int) := by omega
          clear HD HA
          go_wp2
          go_ret
          exact ⟨by rw [HN.out]; rfl, HB1.out⟩
        by_cases hk : 30 < ks.length
        · have HN := Lib.hid (show small9L ps = false by
            have : decide (ks.length ≤ 30) = false := by simp; omega
            rw [← HA.out, HD.out, this]; simp)
          have hki : (30 : Int) < (ks.length : Int) := by omega
          clear HD HA
          go_wp2
          go_ret
          exact ⟨by rw [HN.out]; rfl, HB1.out⟩
        have HY := Lib.hid (show (ps.drop (i + 1)).all small9A = small9L ps by
          have q1 : decide (t.size ≤ 1000) = true := by simp; omega
          have q2 : decide (ks.length ≤ 30) = true := by simp; omega
          rw [← HA.out, HD.out, q1, q2]; simp)
        clear HD HA
        go_wp2
        exact ⟨⟨i + 1, by go_num, by omega, HB1.out, HY.out⟩, by simp [intOf]; omega⟩
      · have HN := Lib.hid (show small9L ps = true by
          rw [← hall, List.drop_eq_nil_of_le (by omega)]; rfl)
        clear hall
        go_wp2
        go_ret
        exact ⟨by rw [HN.out]; rfl, hbw⟩
end Go.Proofs.YtiaddfghojdgkaaGreatDoor
