/-
  A law's log: a disk in a pair, a log on it, and what else is to be kept.
-/
import Derived.Test.YtbknlffebcbjfaaGreatDoorLogK
import Derived.Test.YtbknlffebcbjfaaGreatDoorLogN
import Derived.Test.YtbknlffebcbjfaaGreatDoorLogX
namespace Go.Proofs.YtbknlffebcbjfaaGreatDoor
open Go.RowKit Go.Shelf

/-- What is kept by whatever turns no more than X. -/
def Stable (R : (Nat → Prop) → World → Prop) : Prop := ∀ (X X' : Nat → Prop) (w w' : World), R X w → Turn X w w' → (∀ j, X' j → X j ∨ w.heap.size ≤ j) → R X' w'
theorem stable_true : Stable (fun _ _ => True) := fun _ _ _ _ _ _ _ => trivial
def LL (R : (Nat → Prop) → World → Prop) (a : World) (P d : Nat) (mv : Value) (room : Int) (lg : Nat) (s : Lg.S) (fs : List Dk.File) (w : World) : Prop :=
  ∃ T X, LAt a lg d room s fs T X w ∧ PB11 P (.pointer (some ⟨d, 0, none⟩)) mv w ∧ ¬ X P ∧ R X w
theorem PB11.turn {b : Nat} {u v : Value} {w w' : World} {f : Nat → Prop} (h : PB11 b u v w) (hf : ¬ f b) (ht : Turn f w w') : PB11 b u v w' := (ht.block b (Array.getElem?_eq_some_iff.1 h).1 hf).trans h
variable {R : (Nat → Prop) → World → Prop} {a w0 w w' : World} {P lg d : Nat} {mv : Value} {room : Int} {s s' : Lg.S} {fs fs' : List Dk.File}
theorem LL.next (h : LL R a P d mv room lg s fs w) (hR : Stable R) (hb : Below w.heap.size w w') : LL R a P d mv room lg s fs w' := by
  obtain ⟨T, X, h1, h2, h3, h4⟩ := h
  exact ⟨T, X, h1.next hb, h2.next hb, h3, hR X X w w' h4 (Turn.of_below hb) (fun j hj => .inl hj)⟩
theorem LL.of_step {T X : Nat → Prop} (hR : Stable R) (h1 : LAt a lg d room s fs T X w) (h2 : PB11 P (.pointer (some ⟨d, 0, none⟩)) mv w) (h3 : ¬ X P) (h4 : R X w) (hs : LStep a lg d room s' fs' T X w w') : LL R a P d mv room lg s' fs' w' := by
  obtain ⟨T', q1, q2, q3, q4⟩ := hs
  have hP := (Array.getElem?_eq_some_iff.1 h2).1
  have hX : ∀ j, (X j ∨ T' j) → X j ∨ w.heap.size ≤ j := fun j hj => by
    rcases hj with hj | hj
    · exact .inl hj
    · rcases q3 j hj with h | h
      · exact .inl (h1.subX j h)
      · exact .inr h
  refine ⟨T', fun j => X j ∨ T' j, q1, h2.turn (fun h => h3 (h1.subX P h)) q4, fun hx => ?_, hR X _ w w' h4 (q4.wide h1.subX) hX⟩
  rcases hX P hx with h | h
  · exact h3 h
  · omega
theorem LL.cell (h : LL R a P d mv room lg s fs w) : w.cell? ⟨P, 0, none⟩ = some (.pointer (some ⟨d, 0, none⟩)) := by
  obtain ⟨T, X, h1, h2, h3, h4⟩ := h; exact h2.cells.1
theorem LL.env (h : LL R a P d mv room lg s fs w) : Env w := by obtain ⟨T, X, h1, _⟩ := h; exact h1.env
theorem LL.below (h : LL R a P d mv room lg s fs w) : Below a.heap.size a w := by obtain ⟨T, X, h1, _⟩ := h; exact h1.below
theorem new_apart {X : Nat → Prop} {lv : Value} {qs : List EnX} (hX : ∀ j, X j → j < w0.heap.size) (hq : NewRow w0.heap.size w lv qs) : Apart X w lv qs :=
  ⟨hq.ents, fun b hb _ hx => by have := hX b hx; have := (hq.1.lt b hb).1; omega, fun p hp b hb _ hx => by
    obtain ⟨pos, ep, g, rfl, _, hg⟩ := hq.2 p hp
    cases hb
    have := hX g hx; omega⟩
theorem append_new {lv : Value} {qs : List EnX} {c : Nat} (h : LL R a P d mv room lg s fs w0) (hR : Stable R) (hb : Below w0.heap.size w0 w) (hq : NewRow w0.heap.size w lv qs) (hroom : room ≤ 1048576) (hB : Lg.BK qs.length s) (hcap : CapOk lv) (hqn : qs.length ≤ 1000) (hr : Lg.appendF room (plainE qs) s fs = ((fs', s'), c)) :
    Calls Tryz.prog 23 #[.pointer (some ⟨lg, 0, none⟩), lv] w fun e w' => e = .returned (.int .i64 (c : Int)) ∧ LL R a P d mv room lg s' fs' w' := by
  obtain ⟨T, X, h1, h2, h3, h4⟩ := h
  have hX := h1.lt
  obtain ⟨ft, pv, ev, ps, hL⟩ := h1.next hb
  refine (logAppend_any hL hroom hB (new_apart hX hq) hcap hqn hr).mono ?_
  rintro e w' ⟨rfl, hs⟩
  exact ⟨rfl, LL.of_step hR ⟨ft, pv, ev, ps, hL⟩ (h2.next hb) h3 (hR X X w0 w h4 (Turn.of_below hb) (fun j hj => .inl hj)) hs⟩
theorem append_R {lv : Value} {qs : List EnX} {c : Nat} (h : LL R a P d mv room lg s fs w) (hR : Stable R) (hq : ∀ X, (∀ j, X j → j < w.heap.size) → R X w → Apart X w lv qs) (hroom : room ≤ 1048576) (hB : Lg.BK qs.length s) (hcap : CapOk lv) (hqn : qs.length ≤ 1000) (hr : Lg.appendF room (plainE qs) s fs = ((fs', s'), c)) :
    Calls Tryz.prog 23 #[.pointer (some ⟨lg, 0, none⟩), lv] w fun e w' => e = .returned (.int .i64 (c : Int)) ∧ LL R a P d mv room lg s' fs' w' := by
  obtain ⟨T, X, h1, h2, h3, h4⟩ := h
  obtain ⟨ft, pv, ev, ps, hL⟩ := h1
  refine (logAppend_any hL hroom hB (hq X hL.lt h4) hcap hqn hr).mono ?_
  rintro e w' ⟨rfl, hs⟩
  exact ⟨rfl, LL.of_step hR ⟨ft, pv, ev, ps, hL⟩ h2 h3 h4 hs⟩
theorem trunc_ll {c : Nat} {last : Int} (h : LL R a P d mv room lg s fs w) (hR : Stable R) (hroom : room ≤ 1048576) (hB : Lg.Bounded s) (hl1 : -9223372036854775808 ≤ last) (hl2 : last ≤ 9223372036854775807) (hr : Lg.truncF room last s fs = ((fs', s'), c)) :
    Calls Tryz.prog 34 #[.pointer (some ⟨lg, 0, none⟩), .int .i64 last] w fun e w' => e = .returned (.int .i64 (c : Int)) ∧ LL R a P d mv room lg s' fs' w' := by
  obtain ⟨T, X, h1, h2, h3, h4⟩ := h
  obtain ⟨ft, pv, ev, ps, hL⟩ := h1
  refine (logTrunc_any hL hroom hB hl1 hl2 hr).mono ?_
  rintro e w' ⟨rfl, hs⟩
  exact ⟨rfl, LL.of_step hR ⟨ft, pv, ev, ps, hL⟩ h2 h3 h4 hs⟩
theorem last_ll (h : LL R a P d mv room lg s fs w) : Calls Tryz.prog 33 #[.pointer (some ⟨lg, 0, none⟩)] w fun e w' => e = .returned (.int .i64 (s.es.length : Int)) ∧ w = w' := by
  obtain ⟨T, X, ⟨ft, pv, ev, ps, hL⟩, _⟩ := h; exact logLast_any hL
theorem segs_ll (h : LL R a P d mv room lg s fs w) (hn : s.parts.length ≤ 1000) : Calls Tryz.prog 29 #[.pointer (some ⟨lg, 0, none⟩)] w fun e w' => ∃ v, e = .returned v ∧ Hid (w'.ownsRow w.heap.size 3 1 v s.nums.length (intCells s.nums)) ∧ Below w.heap.size w w' := by
  obtain ⟨T, X, ⟨ft, pv, ev, ps, hL⟩, _⟩ := h; exact logSegs_any hL hn
def Lg.rangeL (f m : Int) (es : List Evt.Entry) : List Evt.Entry := (es.drop (Lg.rangeA f es.length - 1).toNat).take (Lg.rangeM f m es.length).toNat
theorem range_ll (f m : Int) (h : LL R a P d mv room lg s fs w) (hn : s.es.length ≤ 1000000) :
    Calls Tryz.prog 25 #[.pointer (some ⟨lg, 0, none⟩), .int .i64 f, .int .i64 m] w fun e w' => ∃ va qs vc, e = .returned (.slice va qs.length vc) ∧ Hid (plainE qs = Lg.rangeL f m s.es) ∧ Hid (Ents w' (.slice va qs.length vc) qs) ∧ Below w.heap.size w w' := by
  obtain ⟨T, X, ⟨ft, pv, ev, ps, hL⟩, _⟩ := h
  have hl := hL.len
  refine (logRange_any f m hL (by omega)).mono ?_
  rintro e w' ⟨v, rfl, hO, hb⟩
  obtain ⟨va, vc, rfl⟩ := cells_slice (cells_of_owns hO.out)
  refine ⟨va, _, vc, rfl, Lib.hid ?_, Lib.hid ⟨cells_of_owns hO.out, fun p hp => ?_⟩, hb⟩
  · rw [plainE_taken, Lg.rangeL, ← hl, ← hL.plain]
    simp [plainE, List.map_drop]
  · have := hL.entsE.2 p (List.mem_of_mem_drop (List.mem_of_mem_take hp))
    exact ⟨Cells.next this.1 hb, this.2⟩
theorem open_at {ft : Nat → Prop} {next : Int} {nums : List Int} (hA : Base a w ft) (h : IsDisk w d room fs ft) (hlt : ∀ j, ft j → j < w.heap.size) (hP : PB11 P (.pointer (some ⟨d, 0, none⟩)) mv w) (hn : ¬ ft P) (hR : Stable R) (hRw : R ft w) (hroom : room ≤ 1048576) (hl : Man.load fs = ((next, nums), 0)) (hn1 : nums.length ≤ 100)
    (hr : Lg.Reads room nums ⟨next, [], []⟩ fs s' fs') (hes : s'.es.length ≤ 500000) (hg : ∀ x ∈ fs', Lg.goneN s'.nums x.name = false ∧ x.name.length ≤ 1000) :
    Calls Tryz.prog 20 #[.pointer (some ⟨d, 0, none⟩)] w fun e w' => ∃ lg, e = .returned (.tuple #[.pointer (some ⟨lg, 0, none⟩), .int .i64 0]) ∧ LL R a P d mv room lg s' fs' w' := by
  refine (logOpen_any hA h hlt (fun _ h => h) hroom hl hn1 hr hes hg).mono ?_
  rintro e w' ⟨lg, T', rfl, q1, q2, q3, q4⟩
  have hPl := (Array.getElem?_eq_some_iff.1 hP).1
  have hX : ∀ j, (ft j ∨ T' j) → ft j ∨ w.heap.size ≤ j := fun j hj => by
    rcases hj with hj | hj
    · exact .inl hj
    · exact q2 j hj
  refine ⟨lg, rfl, T', _, q1, hP.turn hn q3, fun hx => ?_, hR ft _ w w' hRw q3 hX⟩
  rcases hX P hx with h | h
  · exact hn h
  · omega
theorem open_ll {next : Int} {nums : List Int} (h : LL R a P d mv room lg s fs w) (hR : Stable R) (hroom : room ≤ 1048576) (hl : Man.load fs = ((next, nums), 0)) (hn1 : nums.length ≤ 100)
    (hr : Lg.Reads room nums ⟨next, [], []⟩ fs s' fs') (hes : s'.es.length ≤ 500000) (hg : ∀ x ∈ fs', Lg.goneN s'.nums x.name = false ∧ x.name.length ≤ 1000) :
    Calls Tryz.prog 20 #[.pointer (some ⟨d, 0, none⟩)] w fun e w' => ∃ lg, e = .returned (.tuple #[.pointer (some ⟨lg, 0, none⟩), .int .i64 0]) ∧ LL R a P d mv room lg s' fs' w' := by
  obtain ⟨T, X, ⟨ft, pv, ev, ps, hL⟩, h2, h3, h4⟩ := h
  have hf : ∀ j, ft j → X j := fun j hj => hL.subX j (hL.sub j hj)
  refine (logOpen_any hL.baseD hL.disk hL.lt hf hroom hl hn1 hr hes hg).mono ?_
  rintro e w' ⟨lg, T', rfl, q1, q2, q3, q4⟩
  have hPl := (Array.getElem?_eq_some_iff.1 h2).1
  have hX : ∀ j, (X j ∨ T' j) → X j ∨ w.heap.size ≤ j := fun j hj => by
    rcases hj with hj | hj
    · exact .inl hj
    · rcases q2 j hj with h | h
      · exact .inl (hf j h)
      · exact .inr h
  refine ⟨lg, rfl, T', _, q1, h2.turn (fun h => h3 (hf P h)) q3, fun hx => ?_, hR X _ w w' h4 (q3.wide hf) hX⟩
  rcases hX P hx with h | h
  · exact h3 h
  · omega
/-- The disk alone goes on. -/
theorem LL.disked (h : LL R a P d mv room lg s fs w) (hR : Stable R) (hd : ∀ ft, IsDisk w d room fs ft → DStep d room fs' ft w w') : LL R a P d mv room lg s fs' w' := by
  obtain ⟨T, X, ⟨ft, pv, ev, ps, hL⟩, h2, h3, h4⟩ := h
  obtain ⟨T3, ft3, hM, _, _⟩ := (LMid.start hL).disked (hd ft hL.disk)
  exact LL.of_step hR ⟨ft, pv, ev, ps, hL⟩ h2 h3 h4 hM.step
theorem crash_ll {ks : List Int} {kv : Value} (h : LL R a P d mv room lg s fs w) (hR : Stable R) (hk : ∀ X : Nat → Prop, (∀ j, X j → a.heap.size ≤ j) → ∀ W, Turn X w W → Cells W kv 1 ks.length (ks.map fun n => Value.int .i64 n)) (hkn : ks.length ≤ 1000000) (hkb : ∀ n ∈ ks, -9223372036854775808 ≤ n ∧ n ≤ 9223372036854775807) :
    Calls Tryz.prog 35 #[.pointer (some ⟨d, 0, none⟩), kv] w fun e w' => e = .returned (.tuple #[]) ∧ LL R a P d mv room lg s (Dk.crash ks fs) w' := by
  obtain ⟨T, X, ⟨ft, pv, ev, ps, hL⟩, h2, h3, h4⟩ := h
  refine (diskCrash_any kv ks w hL.disk (fun W ht => hk ft (fun j hj => hL.baseD.out j hj) W ht) hkn hkb).mono ?_
  rintro e w' ⟨rfl, hd⟩
  obtain ⟨T3, ft3, hM, _, _⟩ := (LMid.start hL).disked hd
  exact ⟨rfl, LL.of_step hR ⟨ft, pv, ev, ps, hL⟩ h2 h3 h4 hM.step⟩
end Go.Proofs.YtbknlffebcbjfaaGreatDoor
