/-
  A disk in memory: its block, its map, its files' blocks; the walks of disk.New, Read, Synced, Used, Sync.
-/
import Derived.Test.YthmblkckpdpjkaaGreatDoorFollows
import Derived.Test.YthmblkckpdpjkaaGreatDoorDskA
import Derived.Maps.OwnSet
namespace Go.Proofs.YthmblkckpdpjkaaGreatDoor
open Go.RowKit Go.Shelf

/-- How an element of a disk's map reads: by the block that it points to. -/
def ptrR : Value → Option (DataW Unit × List MemPlace)
  | .pointer none => some (.nil, [])
  | .pointer (some ⟨b, 0, none⟩) => some (.lit (.int .i64 b), [])
  | _ => none
theorem ptrR_nil {v : Value} {ps : List MemPlace} (h : ptrR v = some (.nil, ps)) : v = .pointer none := by
  unfold ptrR at h
  split at h
  · rfl
  · cases h
  · cases h
theorem ptrR_at {v : Value} {b : Nat} {ps : List MemPlace} (h : ptrR v = some (.lit (.int .i64 b), ps)) : v = .pointer (some ⟨b, 0, none⟩) := by
  unfold ptrR at h
  split at h
  · cases h
  · rename_i c
    simp only [Option.some.injEq, Prod.mk.injEq, DataW.lit.injEq, Lit.int.injEq, true_and] at h
    obtain ⟨h, _⟩ := h
    have : c = b := by omega
    rw [this]
  · cases h

/-- Blocks outside a set lie as they lay. -/
structure Turn (ft : Nat → Prop) (w w' : World) : Prop where
  os : w'.os = w.os
  tape : w'.tape = w.tape
  output : w'.output = w.output
  size : w.heap.size ≤ w'.heap.size
  block : ∀ j, j < w.heap.size → ¬ ft j → w'.heap[j]? = w.heap[j]?
theorem Turn.refl (ft : Nat → Prop) (w : World) : Turn ft w w := ⟨rfl, rfl, rfl, Nat.le_refl _, fun _ _ _ => rfl⟩
theorem Turn.of_below {ft : Nat → Prop} {w w' : World} (h : Below w.heap.size w w') : Turn ft w w' := ⟨h.os, h.tape, h.output, h.size, fun j hj _ => h.block j hj⟩
theorem Turn.of_grown {ft : Nat → Prop} {w w' : World} {b : Nat} (h : w.grownBy w' (some b)) (hb : ft b) : Turn ft w w' :=
  ⟨h.os, h.tape, h.output, h.size, fun j hj hn => h.block j hj (fun e => by cases e; exact hn hb)⟩
theorem Turn.trans {f1 f2 : Nat → Prop} {w w1 w2 : World} (h : Turn f1 w w1) (k : Turn f2 w1 w2) (hf : ∀ j, f2 j → f1 j ∨ w.heap.size ≤ j) : Turn f1 w w2 :=
  ⟨k.os.trans h.os, k.tape.trans h.tape, k.output.trans h.output, Nat.le_trans h.size k.size, fun j hj hn => (k.block j (Nat.lt_of_lt_of_le hj h.size) (fun hf2 => by
    rcases hf j hf2 with h3 | h3
    · exact hn h3
    · omega)).trans (h.block j hj hn)⟩
theorem Turn.below {ft : Nat → Prop} {w w' : World} {B : Nat} (h : Turn ft w w') (hB : ∀ j, ft j → B ≤ j) (hs : B ≤ w.heap.size) : Below B w w' :=
  ⟨h.os, h.tape, h.output, Nat.le_trans hs h.size |> fun _ => h.size, fun j hj => h.block j (Nat.lt_of_lt_of_le hj hs) (fun hf => by have := hB j hf; omega)⟩
/-- A file at a block. -/
def FileAt (b : Nat) (bs : ByteArray) (sy : Nat) (w : World) : Prop := w.heap[b]? = some (.cells #[.string bs, .int .i64 (sy : Int)] 93 (0, 0))
/-- A disk at a block: room, files. ft: the blocks that are its own. -/
def IsDisk (w : World) (d : Nat) (room : Int) (fs : List Dk.File) (ft : Nat → Prop) : Prop :=
  ∃ (bm : Nat) (D : DataW Unit) (g : List UInt8 → Nat),
    w.heap[d]? = some (.cells #[.int .i64 room, .int .i64 (Dk.total fs : Int), .map (some bm)] 91 (0, 0)) ∧
    w.ownsMap Tryz.prog 9 ptrR bm fs.length D ∧ Maps.size D = fs.length ∧ fs.length ≤ 40 ∧ Dk.Sorted fs ∧ (1 ≤ room ∧ room ≤ 1073741824 ∧ (Dk.total fs : Int) ≤ room) ∧ ft d ∧ ft bm ∧
    (∀ k, Dk.look fs k = none → Maps.has D (.string k) = false) ∧
    (∀ k x, Dk.look fs k = some x → Maps.has D (.string k) = true ∧ (∀ z, D.atKey (.string k) z = .lit (.int .i64 (g k : Nat))) ∧ FileAt (g k) x.bytes x.synced w ∧ ft (g k) ∧ x.synced ≤ x.bytes.size) ∧
    (∀ k k' x x', Dk.look fs k = some x → Dk.look fs k' = some x' → g k = g k' → k = k')
theorem ownsMap_at {w w' : World} {bm n : Nat} {D : DataW Unit} (h : w.ownsMap Tryz.prog 9 ptrR bm n D) (he : w'.heap[bm]? = w.heap[bm]?) : w'.ownsMap Tryz.prog 9 ptrR bm n D := by
  obtain ⟨es, clock, hb, F, hs, hD⟩ := h
  exact ⟨es, clock, he.trans hb, F, hs, hD⟩
theorem IsDisk.kept {w w' : World} {d : Nat} {room : Int} {fs : List Dk.File} {ft : Nat → Prop} (h : IsDisk w d room fs ft) (hk : ∀ j, j < w.heap.size → ft j → w'.heap[j]? = w.heap[j]?) : IsDisk w' d room fs ft := by
  obtain ⟨bm, D, g, h1, h2, h3, h4, h5, h6, h7, h8, h9, h10, h11⟩ := h
  refine ⟨bm, D, g, (hk d (Array.getElem?_eq_some_iff.1 h1).1 h7).trans h1, ownsMap_at h2 (hk bm h2.lt h8), h3, h4, h5, h6, h7, h8, h9, fun k x hx => ?_, h11⟩
  obtain ⟨a, b, c, e, f⟩ := h10 k x hx
  exact ⟨a, b, (hk _ (Array.getElem?_eq_some_iff.1 c).1 e).trans c, e, f⟩
theorem IsDisk.next {w w' : World} {d : Nat} {room : Int} {fs : List Dk.File} {ft : Nat → Prop} (h : IsDisk w d room fs ft) (hb : Below w.heap.size w w') : IsDisk w' d room fs ft :=
  h.kept fun j hj _ => hb.block j hj
/-- Another disk's step leaves it. -/
theorem IsDisk.other {w w' : World} {d : Nat} {room : Int} {fs : List Dk.File} {ft f2 : Nat → Prop} (h : IsDisk w d room fs ft) (ht : Turn f2 w w') (hd : ∀ j, ft j → ¬ f2 j) : IsDisk w' d room fs ft :=
  h.kept fun j hj hf => ht.block j hj (hd j hf)
theorem zero_file (w : World) : (zeroValue 88).run Tryz.prog w = .ok (.pointer none) w := by kernel_rfl
theorem str_keyed : Maps.Keyed Tryz.prog 9 := Maps.string_keyed Tryz.underlying9
/-- What a look-up yields. -/
theorem look_run {w : World} {bm n : Nat} {D : DataW Unit} (h : w.ownsMap Tryz.prog 9 ptrR bm n D) (nm : ByteArray) (hs : nm.size ≤ 1000000000000) :
    ∃ v ps, (Instr.lookup 89 (.map (some bm)) (.string nm) false).run Tryz.prog w = .ok v w ∧ ptrR v = some (D.atKey (.string nm.data.toList) .nil, ps) :=
  h.lookup str_keyed Tryz.underlying89 (zero_file w) (zd := .nil) (zp := []) rfl (WideMaps.keyOf_string_mk Tryz.underlying9 (by unfold maxLen; omega))

set_option maxHeartbeats 1000000 in
set_option maxRecDepth 100000 in
theorem diskRead_any (d : Nat) (room : Int) (fs : List Dk.File) (ft : Nat → Prop) (nm : ByteArray) (w : World) (h : IsDisk w d room fs ft) (hn : nm.size ≤ 1000000000000) :
    Calls Tryz.prog 19 #[.pointer (some ⟨d, 0, none⟩), .string nm] w fun e w' => e = .returned (.tuple #[.string (Dk.read nm.data.toList fs).1, .int .i64 ((Dk.read nm.data.toList fs).2 : Nat)]) ∧ w = w' := by
  obtain ⟨bm, D, g, h1, h2, h3, h4, h5, h6, h7, h8, h9, h10, h11⟩ := h
  obtain ⟨v, ps, hrun, hR⟩ := look_run h2 nm hn
  have d2 : w.cell? ⟨d, 2, none⟩ = some (.map (some bm)) := by rw [Lib.cell_of_heap h1]; rfl
  have HR := Lib.hid h1
  clear h1 h3 h4 h5 h6 h7 h8 h11
  cases hl : Dk.look fs nm.data.toList with
  | none =>
    have hv := h9 _ hl
    rw [Maps.atKey_of_not_has hv] at hR
    obtain rfl := ptrR_nil hR
    have HQ := Lib.hid (show Dk.read nm.data.toList fs = (⟨#[]⟩, 6) by rw [Dk.read, hl])
    clear hR hv hl h9 h10 h2
    go_enter Tryz.func19, Tryz.ntmps19
    go_wp2
    go_ret2
    exact ⟨by rw [HQ.out]; rfl, rfl⟩
  | some x =>
    obtain ⟨_, ha, hF, _, _⟩ := h10 _ x hl
    rw [ha .nil] at hR
    obtain rfl := ptrR_at hR
    have HQ := Lib.hid (show Dk.read nm.data.toList fs = (x.bytes, 0) by rw [Dk.read, hl])
    have f0 : w.cell? ⟨g nm.data.toList, 0, none⟩ = some (.string x.bytes) := by rw [Lib.cell_of_heap hF]; rfl
    obtain ⟨gb, hgb⟩ : ∃ gb, g nm.data.toList = gb := ⟨_, rfl⟩
    rw [hgb] at hrun f0
    clear hR hl h9 h10 h2 ha hF hgb
    go_enter Tryz.func19, Tryz.ntmps19
    go_wp2
    go_ret2
    exact ⟨by rw [HQ.out]; rfl, rfl⟩
/-- A step of a disk: its files behind it; its blocks, and new ones, alone have turned. -/
def DStep (d : Nat) (room : Int) (fs : List Dk.File) (ft : Nat → Prop) (w w' : World) : Prop := ∃ ft', IsDisk w' d room fs ft' ∧ (∀ j, ft' j → ft j ∨ w.heap.size ≤ j) ∧ Turn ft w w'
theorem DStep.refl {d : Nat} {room : Int} {fs : List Dk.File} {ft : Nat → Prop} {w : World} (h : IsDisk w d room fs ft) : DStep d room fs ft w w := ⟨ft, h, fun _ hj => .inl hj, Turn.refl _ _⟩
theorem DStep.of_below {d : Nat} {room : Int} {fs : List Dk.File} {ft : Nat → Prop} {w w' : World} (h : IsDisk w d room fs ft) (hb : Below w.heap.size w w') : DStep d room fs ft w w' := ⟨ft, h.next hb, fun _ hj => .inl hj, Turn.of_below hb⟩
/-- A file's block is written, and the disk's own. -/
theorem IsDisk.write {w w' : World} {d bm : Nat} {room : Int} {fs : List Dk.File} {ft : Nat → Prop} {D : DataW Unit} {g : List UInt8 → Nat}
    (h1 : w.heap[d]? = some (.cells #[.int .i64 room, .int .i64 (Dk.total fs : Int), .map (some bm)] 91 (0, 0))) (h2 : w.ownsMap Tryz.prog 9 ptrR bm fs.length D) (h3 : Maps.size D = fs.length) (h4 : fs.length ≤ 40) (h5 : Dk.Sorted fs) (h7 : ft d) (h8 : ft bm)
    (h9 : ∀ k, Dk.look fs k = none → Maps.has D (.string k) = false)
    (h10 : ∀ k x, Dk.look fs k = some x → Maps.has D (.string k) = true ∧ (∀ z, D.atKey (.string k) z = .lit (.int .i64 (g k : Nat))) ∧ FileAt (g k) x.bytes x.synced w ∧ ft (g k) ∧ x.synced ≤ x.bytes.size)
    (h11 : ∀ k k' x x', Dk.look fs k = some x → Dk.look fs k' = some x' → g k = g k' → k = k')
    {x : Dk.File} (y : Dk.File) (hl : Dk.look fs y.name = some x) (hr : 1 ≤ room ∧ room ≤ 1073741824 ∧ (Dk.total (Dk.put y fs) : Int) ≤ room) (hy : y.synced ≤ y.bytes.size)
    (hd : w'.heap[d]? = some (.cells #[.int .i64 room, .int .i64 (Dk.total (Dk.put y fs) : Int), .map (some bm)] 91 (0, 0))) (hF : FileAt (g y.name) y.bytes y.synced w')
    (hk : ∀ j, j < w.heap.size → j ≠ g y.name → j ≠ d → w'.heap[j]? = w.heap[j]?) : IsDisk w' d room (Dk.put y fs) ft := by
  have hlen : (Dk.put y fs).length = fs.length := by rw [Dk.put_len y fs h5, hl]; rfl
  have hx := h10 _ x hl
  have hb1 : bm ≠ g y.name := by
    rintro e
    obtain ⟨es, clock, hb, _⟩ := h2
    have := hx.2.2.1
    rw [FileAt, ← e, hb] at this
    cases this
  have hb2 : bm ≠ d := by
    rintro e
    obtain ⟨es, clock, hb, _⟩ := h2
    rw [← e, hb] at h1
    cases h1
  refine ⟨bm, D, g, hd, by rw [hlen]; exact ownsMap_at h2 (hk bm h2.lt hb1 hb2), by rw [hlen]; exact h3, by rw [hlen]; exact h4, Dk.sorted_put y fs h5, hr, h7, h8, ?_, ?_, ?_⟩
  · intro k hk'
    by_cases e : k = y.name
    · subst e; rw [Dk.look_put_same] at hk'; cases hk'
    · rw [Dk.look_put_other y e] at hk'; exact h9 k hk'
  · intro k z hz
    by_cases e : k = y.name
    · subst e
      rw [Dk.look_put_same] at hz
      cases hz
      exact ⟨hx.1, hx.2.1, hF, hx.2.2.2.1, hy⟩
    · rw [Dk.look_put_other y e] at hz
      obtain ⟨a, b, c, f, q⟩ := h10 k z hz
      refine ⟨a, b, ?_, f, q⟩
      have c1 : g k ≠ g y.name := fun e2 => e (h11 _ _ _ _ hz hl e2)
      have c2 : g k ≠ d := by
        rintro e2
        rw [FileAt, e2, h1] at c
        simp at c
      exact (hk _ (Array.getElem?_eq_some_iff.1 c).1 c1 c2).trans c
  · intro k k' z z' hz hz' hg
    have q : ∀ k z, Dk.look (Dk.put y fs) k = some z → ∃ u, Dk.look fs k = some u := fun k z hz => by
      by_cases e : k = y.name
      · subst e; exact ⟨x, hl⟩
      · rw [Dk.look_put_other y e] at hz; exact ⟨z, hz⟩
    obtain ⟨u, hu⟩ := q k z hz
    obtain ⟨u', hu'⟩ := q k' z' hz'
    exact h11 _ _ _ _ hu hu' hg

set_option maxHeartbeats 1000000 in
set_option maxRecDepth 100000 in
theorem diskSync_any (d : Nat) (room : Int) (fs : List Dk.File) (ft : Nat → Prop) (nm : ByteArray) (w : World) (h : IsDisk w d room fs ft) (hn : nm.size ≤ 1000000000000) :
    Calls Tryz.prog 44 #[.pointer (some ⟨d, 0, none⟩), .string nm] w fun e w' => e = .returned (.int .i64 ((Dk.sync nm.data.toList fs).2 : Nat)) ∧ DStep d room (Dk.sync nm.data.toList fs).1 ft w w' := by
  have hID := Lib.hid h
  obtain ⟨bm, D, g, h1, h2, h3, h4, h5, h6, h7, h8, h9, h10, h11⟩ := h
  obtain ⟨v, ps, hrun, hR⟩ := look_run h2 nm hn
  have d2 : w.cell? ⟨d, 2, none⟩ = some (.map (some bm)) := by rw [Lib.cell_of_heap h1]; rfl
  cases hl : Dk.look fs nm.data.toList with
  | none =>
    have hv := h9 _ hl
    rw [Maps.atKey_of_not_has hv] at hR
    obtain rfl := ptrR_nil hR
    have HQ := Lib.hid (show Dk.sync nm.data.toList fs = (fs, 6) by rw [Dk.sync, hl])
    clear hR hv hl h9 h10 h2 h1 h3 h4 h5 h6 h7 h8 h11
    go_enter Tryz.func44, Tryz.ntmps44
    go_wp2
    go_ret
    rw [HQ.out]
    exact ⟨rfl, DStep.refl hID.out⟩
  | some x =>
    have hx := h10 _ x hl
    rw [hx.2.1 .nil] at hR
    obtain rfl := ptrR_at hR
    have HQ := Lib.hid (show Dk.sync nm.data.toList fs = (Dk.put ⟨nm.data.toList, x.bytes, x.bytes.size⟩ fs, 0) by rw [Dk.sync, hl])
    have f0 : w.cell? ⟨g nm.data.toList, 0, none⟩ = some (.string x.bytes) := by rw [Lib.cell_of_heap hx.2.2.1]; rfl
    have f1 : w.cell? ⟨g nm.data.toList, 1, none⟩ = some (.int .i64 (x.synced : Int)) := by rw [Lib.cell_of_heap hx.2.2.1]; rfl
    have fz := Lib.frozen_of_heap hx.2.2.1 1
    have htot : Dk.total (Dk.put ⟨nm.data.toList, x.bytes, x.bytes.size⟩ fs) = Dk.total fs := by
      have := Dk.put_total ⟨nm.data.toList, x.bytes, x.bytes.size⟩ fs h5
      simp only [hl] at this; omega
    have hF2 := setCell_at (i := 1) hx.2.2.1 (.int .i64 (x.bytes.size : Int))
    have hne : d ≠ g nm.data.toList := by
      rintro e
      have := hx.2.2.1
      rw [FileAt, ← e, h1] at this
      simp at this
    have HW := Lib.hid (IsDisk.write (w' := w.setCell ⟨g nm.data.toList, 1, none⟩ (.int .i64 (x.bytes.size : Int))) h1 h2 h3 h4 h5 h7 h8 h9 h10 h11 ⟨nm.data.toList, x.bytes, x.bytes.size⟩ hl (by rw [htot]; exact h6) (Nat.le_refl _)
      (by rw [htot, Below.heap_setCell _ _ _ d hne]; exact h1) hF2 (fun j _ hj _ => Below.heap_setCell _ _ _ j hj))
    have HT := Lib.hid (Turn.of_grown (grown_set w (g nm.data.toList) 1 (.int .i64 (x.bytes.size : Int))) hx.2.2.2.1)
    obtain ⟨gb, hgb⟩ : ∃ gb, g nm.data.toList = gb := ⟨_, rfl⟩
    rw [hgb] at hrun f0 f1 fz HW HT
    clear hR hl h9 h10 h2 h1 h3 h4 h5 h6 h7 h8 h11 hx hgb hF2 hne htot
    go_enter Tryz.func44, Tryz.ntmps44
    go_wp2
    go_ret
    rw [HQ.out]
    exact ⟨rfl, ft, HW.out, fun _ hj => .inl hj, HT.out⟩
end Go.Proofs.YthmblkckpdpjkaaGreatDoor
