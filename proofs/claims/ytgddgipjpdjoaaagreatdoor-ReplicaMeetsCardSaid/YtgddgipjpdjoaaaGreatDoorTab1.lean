/-
  An index at a block (its streams, each a row of its own); index.New, Version.
  dedup.New: a table that has no session.
  A table of outcomes at a block; Look.
  dedup's Look.
  dedup's table, plain: what Put makes of it; a session more at a table.
-/
import Derived.Test.YtgddgipjpdjoaaaGreatDoorSegs
import Derived.Lib.SlKeysI
namespace Go.Proofs.YtgddgipjpdjoaaaGreatDoor
open Go.RowKit Go.Shelf
def heldR (v : Value) : Option (DataW Value × List MemPlace) := some (.held v, [])
theorem heldR_of {v u : Value} {ps : List MemPlace} (h : heldR v = some (.held u, ps)) : v = u := by
 simp only [heldR, Option.some.injEq, Prod.mk.injEq, DataW.held.injEq] at h
 exact h.1
def keptCells (l : List (Int × Evt.Event)) : List Value := l.flatMap fun p => [.int .i64 p.1, .string ⟨p.2.kind.toArray⟩, .string ⟨p.2.data.toArray⟩]
abbrev Streams := List UInt8 → List (Int × Evt.Event)
def IsX (w : World) (x : Nat) (f : Streams) (n : Nat) (ft : Nat → Prop) : Prop :=
 ∃ (bm : Nat) (D : DataW Value) (g : List UInt8 → Value),
   w.heap[x]? = some (.cells #[.map (some bm), .int .i64 (n : Int)] 242 (0, 0)) ∧ w.ownsMap Tryz.prog 9 heldR bm n D ∧ ft x ∧ ft bm ∧
   (∀ k, D.atKey (.string k) (.held (.slice none 0 0)) = .held (g k)) ∧
   (∀ k, w.ownsRow 0 244 3 (g k) (f k).length (keptCells (f k)) ∧ (f k).length ≤ n ∧ ∀ b, (g k).ownBlock = some b → ft b ∧ b ≠ x ∧ b ≠ bm) ∧
   (∀ k k' b, (g k).ownBlock = some b → (g k').ownBlock = some b → k = k') ∧ (∀ k, f k = [] → ∀ z, D.atKey (.string k) z = z)
theorem ownsMap_atH {w w' : World} {bm n : Nat} {k : TypeId} {D : DataW Value} (h : w.ownsMap Tryz.prog k heldR bm n D) (he : w'.heap[bm]? = w.heap[bm]?) : w'.ownsMap Tryz.prog k heldR bm n D := by
 obtain ⟨es, c, h1, h2⟩ := h
 exact ⟨es, c, he.trans h1, h2⟩
theorem ownsRow_at {w w' : World} {B : Nat} {e : TypeId} {sz n : Nat} {v : Value} {xs : List Value} (h : w.ownsRow B e sz v n xs) (he : ∀ b, v.ownBlock = some b → b < w.heap.size → w'.heap[b]? = w.heap[b]?) : w'.ownsRow B e sz v n xs := by
 rcases h with ⟨h1, h2 | ⟨g, cap, cur, h2, h3, h4, h5⟩⟩
 · exact ⟨h1, .inl h2⟩
 · exact ⟨h1, .inr ⟨g, cap, cur, h2, h3, (he g (by rw [h2]; rfl) (Array.getElem?_eq_some_iff.1 h4).1).trans h4, h5⟩⟩
theorem IsX.kept {w w' : World} {x : Nat} {f : Streams} {n : Nat} {ft : Nat → Prop} (h : IsX w x f n ft) (hk : ∀ j, j < w.heap.size → ft j → w'.heap[j]? = w.heap[j]?) : IsX w' x f n ft := by
 obtain ⟨bm, D, g, h1, h2, h3, h4, h5, h6, h7⟩ := h
 exact ⟨bm, D, g, (hk x (Array.getElem?_eq_some_iff.1 h1).1 h3).trans h1, ownsMap_atH h2 (hk bm h2.lt h4), h3, h4, h5, fun k => ⟨ownsRow_at (h6 k).1 fun b hb hl => hk b hl ((h6 k).2.2 b hb).1, (h6 k).2⟩, h7⟩
theorem IsX.next {w w' : World} {x : Nat} {f : Streams} {n : Nat} {ft : Nat → Prop} (h : IsX w x f n ft) (hb : Below w.heap.size w w') : IsX w' x f n ft := h.kept fun j hj _ => hb.block j hj
theorem zero_kept (w : World) : (zeroValue 240).run Tryz.prog w = .ok (.slice none 0 0) w := by kernel_rfl
theorem look_kept {w : World} {bm n : Nat} {D : DataW Value} {g : List UInt8 → Value} (h : w.ownsMap Tryz.prog 9 heldR bm n D) (hg : ∀ k, D.atKey (.string k) (.held (.slice none 0 0)) = .held (g k)) (nm : ByteArray) (hs : nm.size ≤ 1000000000000) :
   (Instr.lookup 239 (.map (some bm)) (.string nm) false).run Tryz.prog w = .ok (g nm.data.toList) w := by
 obtain ⟨v, ps, hrun, hR⟩ := h.lookup str_keyed Tryz.underlying239 (zero_kept w) (zd := .held (.slice none 0 0)) (zp := []) rfl (WideMaps.keyOf_string_mk (s := nm) Tryz.underlying9 (by unfold maxLen; omega))
 rw [hg] at hR
 rw [hrun, heldR_of hR]
theorem owns_slice {w : World} {B : Nat} {e : TypeId} {sz n : Nat} {v : Value} {xs : List Value} (h : w.ownsRow B e sz v n xs) : ∃ a c, v = .slice a n c := by
 rcases h.2 with ⟨rfl, rfl⟩ | ⟨g, cap, cur, rfl, _⟩
 · exact ⟨_, _, rfl⟩
 · exact ⟨_, _, rfl⟩
theorem indexNew_any (w : World) :
   Calls Tryz.prog 86 #[] w fun e w' => ∃ x, e = .returned (.pointer (some ⟨x, 0, none⟩)) ∧ IsX w' x (fun _ => []) 0 (fun j => w.heap.size ≤ j ∧ j < w'.heap.size) ∧ Below w.heap.size w w' := by
 have hmm := @run_makeMap Tryz.prog
 go_enter Tryz.func86, Tryz.ntmps86
 go_wp2
 go_ret
 refine ⟨w.heap.size + 1, rfl, ?_, ((Below.refl _ _).alloc (Nat.le_refl _) _).alloc (by simp) _⟩
 have hm := World.ownsMap_made w Tryz.prog 9 heldR
 have ha := heap_alloc_new (w.alloc (.map #[] 0)) (.cells #[.map (some w.heap.size), .int .i64 0] 242)
 rw [World.size_alloc] at ha
 exact ⟨w.heap.size, .map [], fun _ => .slice none 0 0, ha, hm.alloc _, ⟨by omega, by simp⟩, ⟨by omega, by simp; omega⟩, fun k => rfl, fun k => ⟨⟨rfl, .inl ⟨rfl, rfl⟩⟩, Nat.le_refl _, fun b hb => by cases hb⟩, fun k k' b hb => (by cases hb), fun k _ z => rfl⟩
theorem indexVersion_any (x : Nat) (f : Streams) (n : Nat) (ft : Nat → Prop) (nm : ByteArray) (w : World) (h : IsX w x f n ft) (hs : nm.size ≤ 1000000000000) :
   Calls Tryz.prog 70 #[.pointer (some ⟨x, 0, none⟩), .string nm] w fun e w' => e = .returned (.int .i64 ((f nm.data.toList).length : Nat)) ∧ w = w' := by
 obtain ⟨bm, D, g, h1, h2, h3, h4, h5, h6, h7⟩ := h
 have d0 : w.cell? ⟨x, 0, none⟩ = some (.map (some bm)) := by rw [Lib.cell_of_heap h1]; rfl
 have hrun := look_kept h2 h5 nm hs
 obtain ⟨a, c, hv⟩ := owns_slice (h6 nm.data.toList).1
 rw [hv] at hrun
 clear h1 h2 h3 h4 h5 h6 h7 hv
 go_enter Tryz.func70, Tryz.ntmps70
 go_wp2
 go_ret
 exact ⟨rfl, rfl⟩
theorem dedupNew_any (w : World) :
   Calls Tryz.prog 87 #[] w fun e w' => ∃ t bm, e = .returned (.pointer (some ⟨t, 0, none⟩)) ∧ w'.heap[t]? = some (.cells #[.map (some bm)] 252 (0, 0)) ∧ w'.ownsMap Tryz.prog 3 heldR bm 0 (.map []) ∧ w.heap.size ≤ bm ∧ bm < t ∧ t < w'.heap.size ∧ Below w.heap.size w w' := by
 have hmm := @run_makeMap Tryz.prog
 go_enter Tryz.func87, Tryz.ntmps87
 go_wp2
 go_ret
 have hm := World.ownsMap_made w Tryz.prog 3 heldR
 have ha := heap_alloc_new (w.alloc (.map #[] 0)) (.cells #[.map (some w.heap.size)] 252)
 rw [World.size_alloc] at ha
 exact ⟨w.heap.size + 1, w.heap.size, rfl, ha, hm.alloc _, by omega, by omega, by simp, ((Below.refl _ _).alloc (Nat.le_refl _) _).alloc (by simp) _⟩
structure Outc where
 code : Int
 pos : Int
 first : Int
 version : Int
deriving DecidableEq, Inhabited
abbrev Sess := Int → Option (Int × (Int → Option Outc))
def OutAt (w : World) (b : Nat) (o : Outc) : Prop := w.heap[b]? = some (.cells #[.int .i64 o.code, .int .i64 o.pos, .int .i64 o.first, .int .i64 o.version] 98 (0, 0))
def SessAt (w : World) (sb : Nat) (hi : Int) (O : Int → Option Outc) (n : Nat) (bo : Nat) (ft : Nat → Prop) : Prop :=
 ∃ (D : DataW Value), w.heap[sb]? = some (.cells #[.int .i64 hi, .map (some bo)] 257 (0, 0)) ∧ w.ownsMap Tryz.prog 3 heldR bo n D ∧ ft sb ∧ ft bo ∧
   ∀ q, (O q = none → ∀ z, D.atKey (.int .i64 q) z = z) ∧ (∀ o, O q = some o → ∃ b, D.atKey (.int .i64 q) (.held (.pointer none)) = .held (.pointer (some ⟨b, 0, none⟩)) ∧ OutAt w b o ∧ ft b)
def IsT (w : World) (t : Nat) (S : Sess) (n : Nat) (ft : Nat → Prop) : Prop :=
 ∃ (bm : Nat) (D : DataW Value) (gs go : Int → Nat), w.heap[t]? = some (.cells #[.map (some bm)] 252 (0, 0)) ∧ w.ownsMap Tryz.prog 3 heldR bm n D ∧ ft t ∧ ft bm ∧
   (∀ k, S k = none → ∀ z, D.atKey (.int .i64 k) z = z) ∧
   (∀ k hi O, S k = some (hi, O) → D.atKey (.int .i64 k) (.held (.pointer none)) = .held (.pointer (some ⟨gs k, 0, none⟩)) ∧ SessAt w (gs k) hi O n (go k) ft ∧ go k ≠ bm) ∧
   (∀ k k' x x', S k = some x → S k' = some x' → (gs k = gs k' ∨ go k = go k') → k = k')
theorem OutAt.kept {w w' : World} {b : Nat} {o : Outc} {ft : Nat → Prop} (h : OutAt w b o) (hf : ft b) (hk : ∀ j, j < w.heap.size → ft j → w'.heap[j]? = w.heap[j]?) : OutAt w' b o := (hk b (Array.getElem?_eq_some_iff.1 h).1 hf).trans h
theorem SessAt.kept {w w' : World} {sb n bo : Nat} {hi : Int} {O : Int → Option Outc} {ft : Nat → Prop} (h : SessAt w sb hi O n bo ft) (hk : ∀ j, j < w.heap.size → ft j → w'.heap[j]? = w.heap[j]?) : SessAt w' sb hi O n bo ft := by
 obtain ⟨D, h1, h2, h3, h4, h5⟩ := h
 refine ⟨D, (hk sb (Array.getElem?_eq_some_iff.1 h1).1 h3).trans h1, ownsMap_atH h2 (hk bo h2.lt h4), h3, h4, fun q => ⟨(h5 q).1, fun o ho => ?_⟩⟩
 obtain ⟨b, a1, a2, a3⟩ := (h5 q).2 o ho
 exact ⟨b, a1, a2.kept a3 hk, a3⟩
theorem IsT.kept {w w' : World} {t n : Nat} {S : Sess} {ft : Nat → Prop} (h : IsT w t S n ft) (hk : ∀ j, j < w.heap.size → ft j → w'.heap[j]? = w.heap[j]?) : IsT w' t S n ft := by
 obtain ⟨bm, D, gs, go, h1, h2, h3, h4, h5, h6, h7⟩ := h
 exact ⟨bm, D, gs, go, (hk t (Array.getElem?_eq_some_iff.1 h1).1 h3).trans h1, ownsMap_atH h2 (hk bm h2.lt h4), h3, h4, h5, fun k hi O hS => ⟨(h6 k hi O hS).1, (h6 k hi O hS).2.1.kept hk, (h6 k hi O hS).2.2⟩, h7⟩
theorem IsT.next {w w' : World} {t n : Nat} {S : Sess} {ft : Nat → Prop} (h : IsT w t S n ft) (hb : Below w.heap.size w w') : IsT w' t S n ft := h.kept fun j hj _ => hb.block j hj
theorem isT_new {w : World} {t bm : Nat} {ft : Nat → Prop} (h1 : w.heap[t]? = some (.cells #[.map (some bm)] 252 (0, 0))) (h2 : w.ownsMap Tryz.prog 3 heldR bm 0 (.map [])) (h3 : ft t) (h4 : ft bm) : IsT w t (fun _ => none) 0 ft :=
 ⟨bm, .map [], fun _ => 0, fun _ => 0, h1, h2, h3, h4, fun _ _ _ => rfl, fun _ _ _ h => (by cases h), fun _ _ _ _ h => (by cases h)⟩
theorem int_key : Maps.Keyed Tryz.prog 3 := Maps.int_keyed Tryz.underlying3
theorem zero_sess (w : World) : (zeroValue 250).run Tryz.prog w = .ok (.pointer none) w := by kernel_rfl
theorem zero_outc (w : World) : (zeroValue 255).run Tryz.prog w = .ok (.pointer none) w := by kernel_rfl
theorem look_sess {w : World} {bm n : Nat} {D : DataW Value} {k : Int} {u : Value} (h : w.ownsMap Tryz.prog 3 heldR bm n D) (hu : D.atKey (.int .i64 k) (.held (.pointer none)) = .held u) (hk : (Lit.int .i64 k).wf = true) :
   (Instr.lookup 249 (.map (some bm)) (.int .i64 k) false).run Tryz.prog w = .ok u w := by
 obtain ⟨v, ps, hrun, hR⟩ := h.lookup int_key Tryz.underlying249 (zero_sess w) (zd := .held (.pointer none)) (zp := []) rfl (Maps.keyOf_int_mk Tryz.underlying3 hk)
 rw [hu] at hR
 rw [hrun, heldR_of hR]
theorem look_outc {w : World} {bm n : Nat} {D : DataW Value} {k : Int} {u : Value} (h : w.ownsMap Tryz.prog 3 heldR bm n D) (hu : D.atKey (.int .i64 k) (.held (.pointer none)) = .held u) (hk : (Lit.int .i64 k).wf = true) :
   (Instr.lookup 254 (.map (some bm)) (.int .i64 k) false).run Tryz.prog w = .ok u w := by
 obtain ⟨v, ps, hrun, hR⟩ := h.lookup int_key Tryz.underlying254 (zero_outc w) (zd := .held (.pointer none)) (zp := []) rfl (Maps.keyOf_int_mk Tryz.underlying3 hk)
 rw [hu] at hR
 rw [hrun, heldR_of hR]
def lookF (S : Sess) (k q : Int) : Outc × Int :=
 if q < 1 then (⟨0, 0, 0, 0⟩, 2) else
 match S k with
 | none => (⟨0, 0, 0, 0⟩, 0)
 | some (hi, O) => if q ≤ hi - 8 then (⟨0, 0, 0, 0⟩, 2) else match O q with
   | none => (⟨0, 0, 0, 0⟩, 0)
   | some o => (o, 1)
def outV (o : Outc) : Value := .agg #[.int .i64 o.code, .int .i64 o.pos, .int .i64 o.first, .int .i64 o.version]
theorem outc_size : (Tryz.prog.info? 98).map (·.size) = some 4 := by kernel_rfl
theorem outc_store {b : Nat} {u0 u1 u2 u3 : Value} {w : World} (h : w.heap[b]? = some (.cells #[u0, u1, u2, u3] 98 (0, 0))) (v0 v1 v2 v3 : Value) :
   ((((w.setCell ⟨b, 0, none⟩ v0).setCell ⟨b, 1, none⟩ v1).setCell ⟨b, 2, none⟩ v2).setCell ⟨b, 3, none⟩ v3).heap[b]? = some (.cells #[v0, v1, v2, v3] 98 (0, 0)) :=
 setCell_at (i := 3) (setCell_at (i := 2) (setCell_at (i := 1) (setCell_at (i := 0) h _) _) _) _
set_option maxHeartbeats 2000000 in
theorem dedupLook_old (t : Nat) (S : Sess) (n : Nat) (ft : Nat → Prop) (k q : Int) (w : World) (h : IsT w t S n ft) (hk : (Lit.int .i64 k).wf = true) (hq : q < 1) :
   Calls Tryz.prog 74 #[.pointer (some ⟨t, 0, none⟩), .int .i64 k, .int .i64 q] w fun e w' => e = .returned (.tuple #[outV (lookF S k q).1, .int .i64 (lookF S k q).2]) ∧ Below w.heap.size w w' := by
 obtain ⟨bm, D, gs, go, h1, h2, h3, h4, h5, h6, h7⟩ := h
 have hb0 := (Below.refl _ w).alloc (Nat.le_refl _) (.cells #[.int .i64 0, .int .i64 0, .int .i64 0, .int .i64 0] 98)
 have d0 : (w.alloc (.cells #[.int .i64 0, .int .i64 0, .int .i64 0, .int .i64 0] 98)).cell? ⟨t, 0, none⟩ = some (.map (some bm)) := by
   rw [Lib.cell_of_heap (heap_kept hb0 (Nat.le_refl _) h1)]; rfl
 obtain ⟨u, hu⟩ : ∃ u, D.atKey (.int .i64 k) (.held (.pointer none)) = .held u := by
   cases hS : S k with
   | none => exact ⟨_, h5 k hS _⟩
   | some x => exact ⟨_, (h6 k x.1 x.2 hS).1⟩
 have hrun := look_sess (w := w.alloc (.cells #[.int .i64 0, .int .i64 0, .int .i64 0, .int .i64 0] 98)) (h2.alloc _) hu hk
 have HQ := Lib.hid (show lookF S k q = (⟨0, 0, 0, 0⟩, 2) by unfold lookF; rw [if_pos hq])
 clear h1 h2 h3 h4 h5 h6 h7 hu
 go_enter Tryz.func74, Tryz.ntmps74
 go_wp2
 refine bodyPost_ret (results_cell1 rfl _ _ w.heap.size _ _ _ _ rfl (heap_alloc_new w _) Tryz.underlying98 rfl outc_size) rfl ?_
 exact ⟨by rw [HQ.out]; rfl, (Below.refl _ w).alloc (Nat.le_refl _) _⟩
set_option maxHeartbeats 2000000 in
theorem dedupLook_none (t : Nat) (S : Sess) (n : Nat) (ft : Nat → Prop) (k q : Int) (w : World) (h : IsT w t S n ft) (hk : (Lit.int .i64 k).wf = true) (hq : ¬ q < 1) (hS : S k = none) :
   Calls Tryz.prog 74 #[.pointer (some ⟨t, 0, none⟩), .int .i64 k, .int .i64 q] w fun e w' => e = .returned (.tuple #[outV (lookF S k q).1, .int .i64 (lookF S k q).2]) ∧ Below w.heap.size w w' := by
 obtain ⟨bm, D, gs, go, h1, h2, h3, h4, h5, h6, h7⟩ := h
 have hb0 := (Below.refl _ w).alloc (Nat.le_refl _) (.cells #[.int .i64 0, .int .i64 0, .int .i64 0, .int .i64 0] 98)
 have d0 : (w.alloc (.cells #[.int .i64 0, .int .i64 0, .int .i64 0, .int .i64 0] 98)).cell? ⟨t, 0, none⟩ = some (.map (some bm)) := by
   rw [Lib.cell_of_heap (heap_kept hb0 (Nat.le_refl _) h1)]; rfl
 have hrun := look_sess (w := w.alloc (.cells #[.int .i64 0, .int .i64 0, .int .i64 0, .int .i64 0] 98)) (h2.alloc _) (h5 k hS _) hk
 have HQ := Lib.hid (show lookF S k q = (⟨0, 0, 0, 0⟩, 0) by unfold lookF; rw [if_neg hq, hS])
 clear h1 h2 h3 h4 h5 h6 h7
 go_enter Tryz.func74, Tryz.ntmps74
 go_wp2
 refine bodyPost_ret (results_cell1 rfl _ _ w.heap.size _ _ _ _ rfl (heap_alloc_new w _) Tryz.underlying98 rfl outc_size) rfl ?_
 exact ⟨by rw [HQ.out]; rfl, (Below.refl _ w).alloc (Nat.le_refl _) _⟩
set_option maxHeartbeats 4000000 in
theorem dedupLook_some (t : Nat) (S : Sess) (n : Nat) (ft : Nat → Prop) (k q hi : Int) (O : Int → Option Outc) (w : World) (h : IsT w t S n ft) (hk : (Lit.int .i64 k).wf = true) (hqw : (Lit.int .i64 q).wf = true) (hq : ¬ q < 1) (hS : S k = some (hi, O)) (hh : 0 ≤ hi ∧ hi ≤ 1000000000000) :
   Calls Tryz.prog 74 #[.pointer (some ⟨t, 0, none⟩), .int .i64 k, .int .i64 q] w fun e w' => e = .returned (.tuple #[outV (lookF S k q).1, .int .i64 (lookF S k q).2]) ∧ Below w.heap.size w w' := by
 obtain ⟨bm, D, gs, go, h1, h2, h3, h4, h5, h6, h7⟩ := h
 obtain ⟨e1, ⟨D2, s1, s2, s3, s4, s5⟩, e3⟩ := h6 k hi O hS
 obtain ⟨sb, hsb⟩ : ∃ sb, gs k = sb := ⟨_, rfl⟩
 obtain ⟨bo, hbo⟩ : ∃ bo, go k = bo := ⟨_, rfl⟩
 rw [hsb] at e1 s1
 rw [hbo] at s1 s2
 have hb0 := (Below.refl _ w).alloc (Nat.le_refl _) (.cells #[.int .i64 0, .int .i64 0, .int .i64 0, .int .i64 0] 98)
 have d0 : (w.alloc (.cells #[.int .i64 0, .int .i64 0, .int .i64 0, .int .i64 0] 98)).cell? ⟨t, 0, none⟩ = some (.map (some bm)) := by
   rw [Lib.cell_of_heap (heap_kept hb0 (Nat.le_refl _) h1)]; rfl
 have s1' := heap_kept hb0 (Nat.le_refl _) s1
 have d1 : (w.alloc (.cells #[.int .i64 0, .int .i64 0, .int .i64 0, .int .i64 0] 98)).cell? ⟨sb, 0, none⟩ = some (.int .i64 hi) := by
   rw [Lib.cell_of_heap s1']; rfl
 have d2 : (w.alloc (.cells #[.int .i64 0, .int .i64 0, .int .i64 0, .int .i64 0] 98)).cell? ⟨sb, 1, none⟩ = some (.map (some bo)) := by
   rw [Lib.cell_of_heap s1']; rfl
 have hrun := look_sess (w := w.alloc (.cells #[.int .i64 0, .int .i64 0, .int .i64 0, .int .i64 0] 98)) (h2.alloc _) e1 hk
 have hw8 : wrap64 (hi - 8) = hi - 8 := IntWalk.wrap64_in _ (by omega)
 have hw9 : IntKind.i64.wrap (hi - 8) = hi - 8 := by rw [IntKind.wrap_i64]; omega
 by_cases hold : q ≤ hi - 8
 · have HQ := Lib.hid (show lookF S k q = (⟨0, 0, 0, 0⟩, 2) by unfold lookF; rw [if_neg hq, hS]; simp only; rw [if_pos hold])
   clear h1 h2 h3 h4 h5 h6 h7 s1 s2 s3 s4 s5 e1 e3 s1'
   go_enter Tryz.func74, Tryz.ntmps74
   go_wp2
   refine bodyPost_ret (results_cell1 rfl _ _ w.heap.size _ _ _ _ rfl (heap_alloc_new w _) Tryz.underlying98 rfl outc_size) rfl ?_
   exact ⟨by rw [HQ.out]; rfl, (Below.refl _ w).alloc (Nat.le_refl _) _⟩
 · cases hO : O q with
   | none =>
     have hrun2 := look_outc (w := w.alloc (.cells #[.int .i64 0, .int .i64 0, .int .i64 0, .int .i64 0] 98)) (s2.alloc _) ((s5 q).1 hO _) hqw
     have HQ := Lib.hid (show lookF S k q = (⟨0, 0, 0, 0⟩, 0) by unfold lookF; rw [if_neg hq, hS]; simp only; rw [if_neg hold, hO])
     clear h1 h2 h3 h4 h5 h6 h7 s1 s2 s3 s4 s5 e1 e3 s1' hO
     go_enter Tryz.func74, Tryz.ntmps74
     go_wp2
     refine bodyPost_ret (results_cell1 rfl _ _ w.heap.size _ _ _ _ rfl (heap_alloc_new w _) Tryz.underlying98 rfl outc_size) rfl ?_
     exact ⟨by rw [HQ.out]; rfl, (Below.refl _ w).alloc (Nat.le_refl _) _⟩
   | some o =>
     obtain ⟨ob, o1, o2, o3⟩ := (s5 q).2 o hO
     have hrun2 := look_outc (w := w.alloc (.cells #[.int .i64 0, .int .i64 0, .int .i64 0, .int .i64 0] 98)) (s2.alloc _) o1 hqw
     have HQ := Lib.hid (show lookF S k q = (o, 1) by unfold lookF; rw [if_neg hq, hS]; simp only; rw [if_neg hold, hO])
     have o2' := heap_kept hb0 (Nat.le_refl _) o2
     obtain ⟨oc, op, of, ov⟩ := o
     have c0 : (w.alloc (.cells #[.int .i64 0, .int .i64 0, .int .i64 0, .int .i64 0] 98)).cell? ⟨ob, 0, none⟩ = some (.int .i64 oc) := by rw [Lib.cell_of_heap o2']; rfl
     have c1 : (w.alloc (.cells #[.int .i64 0, .int .i64 0, .int .i64 0, .int .i64 0] 98)).cell? ⟨ob, 1, none⟩ = some (.int .i64 op) := by rw [Lib.cell_of_heap o2']; rfl
     have c2 : (w.alloc (.cells #[.int .i64 0, .int .i64 0, .int .i64 0, .int .i64 0] 98)).cell? ⟨ob, 2, none⟩ = some (.int .i64 of) := by rw [Lib.cell_of_heap o2']; rfl
     have c3 : (w.alloc (.cells #[.int .i64 0, .int .i64 0, .int .i64 0, .int .i64 0] 98)).cell? ⟨ob, 3, none⟩ = some (.int .i64 ov) := by rw [Lib.cell_of_heap o2']; rfl
     clear h1 h2 h3 h4 h5 h6 h7 s1 s2 s3 s4 s5 e1 e3 s1' hO o1 o2 o3 o2'
     go_enter Tryz.func74, Tryz.ntmps74
     go_wp2
     refine bodyPost_ret (results_cell1 rfl _ _ w.heap.size _ _ _ _ rfl (heap_alloc_new w _) Tryz.underlying98 rfl outc_size) rfl ?_
     exact ⟨by rw [HQ.out]; rfl, (Below.refl _ w).alloc (Nat.le_refl _) _⟩
theorem lookF_code (S : Sess) (k q : Int) : (lookF S k q).2 = 0 ∨ (lookF S k q).2 = 1 ∨ (lookF S k q).2 = 2 := by
 unfold lookF
 split
 · exact .inr (.inr rfl)
 split
 · exact .inl rfl
 split
 · exact .inr (.inr rfl)
 split
 · exact .inl rfl
 · exact .inr (.inl rfl)
theorem dedupLook_any (t : Nat) (S : Sess) (n : Nat) (ft : Nat → Prop) (k q : Int) (w : World) (h : IsT w t S n ft) (hk : (Lit.int .i64 k).wf = true) (hqw : (Lit.int .i64 q).wf = true) (hh : ∀ hi O, S k = some (hi, O) → 0 ≤ hi ∧ hi ≤ 1000000000000) :
   Calls Tryz.prog 74 #[.pointer (some ⟨t, 0, none⟩), .int .i64 k, .int .i64 q] w fun e w' => e = .returned (.tuple #[outV (lookF S k q).1, .int .i64 (lookF S k q).2]) ∧ Below w.heap.size w w' := by
 by_cases hq : q < 1
 · exact dedupLook_old t S n ft k q w h hk hq
 · cases hS : S k with
   | none => exact dedupLook_none t S n ft k q w h hk hq hS
   | some x => exact dedupLook_some t S n ft k q x.1 x.2 w h hk hqw hq hS (hh x.1 x.2 hS)
def hiF (S : Sess) (k q : Int) : Int := match S k with | none => q | some (hi, _) => max hi q
def outsF (S : Sess) (k : Int) : Int → Option Outc := match S k with | none => fun _ => none | some (_, O) => O
def winF (O : Int → Option Outc) (h q : Int) (o : Outc) : Int → Option Outc := fun j => if j ≤ h - 8 then none else if j = q then some o else O j
def putS (S : Sess) (k q : Int) (o : Outc) : Sess := fun j => if j = k then some (hiF S k q, winF (outsF S k) (hiF S k q) q o) else S j
def SOk (S : Sess) : Prop := ∀ k hi O, S k = some (hi, O) → 1 ≤ hi ∧ hi ≤ 274877906944 ∧ ∀ q o, O q = some o → 1 ≤ q ∧ hi - 8 < q ∧ q ≤ hi
theorem sok_none : SOk (fun _ => none) := fun _ _ _ h => by cases h
theorem hiF_le {S : Sess} (h : SOk S) (k q : Int) (h1 : 1 ≤ q) (h2 : q ≤ 274877906944) : 1 ≤ hiF S k q ∧ hiF S k q ≤ 274877906944 ∧ q ≤ hiF S k q := by
 unfold hiF
 cases hS : S k with
 | none => exact ⟨h1, h2, Int.le_refl _⟩
 | some x =>
   obtain ⟨hi, O⟩ := x
   have := h k hi O hS
   exact ⟨Int.le_trans h1 (Int.le_max_right _ _), Int.max_le.2 ⟨this.2.1, h2⟩, Int.le_max_right _ _⟩
theorem sok_put {S : Sess} (h : SOk S) (k q : Int) (o : Outc) (h1 : 1 ≤ q) (h2 : q ≤ 274877906944) : SOk (putS S k q o) := by
 intro j hi O hj
 unfold putS at hj
 by_cases e : j = k
 · rw [if_pos e] at hj
   simp only [Option.some.injEq, Prod.mk.injEq] at hj
   obtain ⟨rfl, rfl⟩ := hj
   obtain ⟨a, b, c⟩ := hiF_le h k q h1 h2
   refine ⟨a, b, fun r o' hr => ?_⟩
   unfold winF at hr
   split at hr
   · cases hr
   · rename_i hn
     split at hr
     · rename_i e2
       subst e2
       exact ⟨h1, by omega, c⟩
     · unfold outsF at hr
       cases hS : S k with
       | none => rw [hS] at hr; cases hr
       | some x =>
         obtain ⟨hi2, O2⟩ := x
         rw [hS] at hr
         have := (h k hi2 O2 hS).2.2 r o' hr
         refine ⟨this.1, by omega, ?_⟩
         unfold hiF
         rw [hS]
         exact Int.le_trans this.2.2 (Int.le_max_left _ _)
 · rw [if_neg e] at hj
   exact h j hi O hj
theorem sess_ne {w : World} {a b : Nat} {x : List Value} {T : TypeId} {fr : Nat × Nat} {n : Nat} {D : DataW Value} (h1 : w.heap[a]? = some (.cells x.toArray T fr)) (h2 : w.ownsMap Tryz.prog 3 heldR b n D) : a ≠ b := by
 intro e
 obtain ⟨es, c, hh, _⟩ := h2
 rw [← e, h1] at hh
 cases hh
theorem IsT.turned {w w' : World} {t n n' bm sb bo : Nat} {S : Sess} {ft ft' : Nat → Prop} {D D' : DataW Value} {gs go : Int → Nat} {k hi : Int} {O : Int → Option Outc}
   (h1 : w.heap[t]? = some (.cells #[.map (some bm)] 252 (0, 0))) (h2 : w.ownsMap Tryz.prog 3 heldR bm n D) (h3 : ft t) (h4 : ft bm)
   (h5 : ∀ k, S k = none → ∀ z, D.atKey (.int .i64 k) z = z)
   (h6 : ∀ k hi O, S k = some (hi, O) → D.atKey (.int .i64 k) (.held (.pointer none)) = .held (.pointer (some ⟨gs k, 0, none⟩)) ∧ SessAt w (gs k) hi O n (go k) ft ∧ go k ≠ bm)
   (h7 : ∀ k k' x x', S k = some x → S k' = some x' → (gs k = gs k' ∨ go k = go k') → k = k')
   (hM : w'.ownsMap Tryz.prog 3 heldR bm n' D') (hD : ∀ j, j ≠ k → ∀ z, D'.atKey (.int .i64 j) z = D.atKey (.int .i64 j) z)
   (hDk : D'.atKey (.int .i64 k) (.held (.pointer none)) = .held (.pointer (some ⟨sb, 0, none⟩)))
   (hS : SessAt w' sb hi O n' bo ft') (hn : n ≤ n') (hft : ∀ j, ft j → ft' j)
   (hk : ∀ j, j < w.heap.size → ft j → j ≠ bm → j ≠ sb → j ≠ bo → w'.heap[j]? = w.heap[j]?)
   (hsb : (S k = none ∧ w.heap.size ≤ sb ∧ w.heap.size ≤ bo) ∨ (∃ x, S k = some x ∧ sb = gs k ∧ bo = go k)) :
   IsT w' t (fun j => if j = k then some (hi, O) else S j) n' ft' := by
 have lt : ∀ {j : Nat} {o : Obj}, w.heap[j]? = some o → j < w.heap.size := fun h => (Array.getElem?_eq_some_iff.1 h).1
 have hold : ∀ {j : Nat} {x : List Value} {T : TypeId} {fr : Nat × Nat}, w.heap[j]? = some (.cells x.toArray T fr) → T ≠ 257 → j ≠ bm ∧ j ≠ sb ∧ j ≠ bo := by
   intro j x T fr hj hT
   have l := lt hj
   refine ⟨sess_ne hj h2, ?_, ?_⟩
   · rcases hsb with ⟨_, a, _⟩ | ⟨⟨hi0, O0⟩, hS0, rfl, _⟩
     · omega
     · intro e
       subst e
       obtain ⟨_, ⟨D0, q1, _⟩, _⟩ := h6 k hi0 O0 hS0
       rw [q1] at hj
       simp only [Option.some.injEq, Obj.cells.injEq] at hj
       exact hT hj.2.1.symm
   · rcases hsb with ⟨_, _, a⟩ | ⟨⟨hi0, O0⟩, hS0, _, rfl⟩
     · omega
     · obtain ⟨_, ⟨D0, _, q2, _⟩, _⟩ := h6 k hi0 O0 hS0
       exact sess_ne hj q2
 have ht := hold (x := [.map (some bm)]) h1 (by decide)
 refine ⟨bm, D', fun j => if j = k then sb else gs j, fun j => if j = k then bo else go j, (hk t (lt h1) h3 ht.1 ht.2.1 ht.2.2).trans h1, hM, hft t h3, hft bm h4, fun j hj => ?_, fun j hi' O' hj => ?_, fun j j' x x' hj hj' he => ?_⟩
 · by_cases e : j = k
   · simp [e] at hj
   · have hj : S j = none := by simpa [e] using hj
     intro z
     rw [hD j e]; exact h5 j hj z
 · by_cases e : j = k
   · subst e
     simp only [if_true, Option.some.injEq, Prod.mk.injEq] at hj ⊢
     obtain ⟨rfl, rfl⟩ := hj
     refine ⟨hDk, hS, ?_⟩
     rcases hsb with ⟨_, _, a⟩ | ⟨⟨hi0, O0⟩, hS0, _, rfl⟩
     · have := h2.lt; omega
     · exact (h6 j hi0 O0 hS0).2.2
   · simp only [if_neg e] at hj ⊢
     obtain ⟨q1, ⟨D0, r1, r2, r3, r4, r5⟩, q3⟩ := h6 j hi' O' hj
     have ha : gs j ≠ bm ∧ gs j ≠ sb ∧ gs j ≠ bo := by
       have l := lt r1
       refine ⟨sess_ne (x := [.int .i64 hi', .map (some (go j))]) r1 h2, ?_, ?_⟩
       · rcases hsb with ⟨_, a, _⟩ | ⟨⟨hi0, O0⟩, hS0, rfl, _⟩
         · omega
         · exact fun e2 => e (h7 j k _ _ hj hS0 (.inl e2))
       · rcases hsb with ⟨_, _, a⟩ | ⟨⟨hi0, O0⟩, hS0, _, rfl⟩
         · omega
         · obtain ⟨_, ⟨D1, _, s2, _⟩, _⟩ := h6 k hi0 O0 hS0
           exact sess_ne (x := [.int .i64 hi', .map (some (go j))]) r1 s2
     have hb : go j ≠ sb ∧ go j ≠ bo := by
       have l := r2.lt
       refine ⟨?_, ?_⟩
       · rcases hsb with ⟨_, a, _⟩ | ⟨⟨hi0, O0⟩, hS0, rfl, _⟩
         · omega
         · obtain ⟨_, ⟨D1, s1, _⟩, _⟩ := h6 k hi0 O0 hS0
           exact fun e2 => sess_ne (x := [.int .i64 hi0, .map (some (go k))]) s1 r2 e2.symm
       · rcases hsb with ⟨_, _, a⟩ | ⟨⟨hi0, O0⟩, hS0, _, rfl⟩
         · omega
         · exact fun e2 => e (h7 j k _ _ hj hS0 (.inr e2))
     refine ⟨by rw [hD j e]; exact q1, ⟨D0, (hk _ (lt r1) r3 ha.1 ha.2.1 ha.2.2).trans r1, (ownsMap_atH r2 (hk _ r2.lt r4 q3 hb.1 hb.2)).mono hn, hft _ r3, hft _ r4, fun q => ⟨(r5 q).1, fun o ho => ?_⟩⟩, q3⟩
     obtain ⟨b, b1, b2, b3⟩ := (r5 q).2 o ho
     have hc := hold (x := [.int .i64 o.code, .int .i64 o.pos, .int .i64 o.first, .int .i64 o.version]) b2 (by decide)
     exact ⟨b, b1, (hk _ (lt b2) b3 hc.1 hc.2.1 hc.2.2).trans b2, hft _ b3⟩
 · have far : ∀ j, j ≠ k → ∀ x, S j = some x → (sb = gs j ∨ bo = go j) → False := by
     intro j e x hj he
     obtain ⟨hi', O'⟩ := x
     obtain ⟨q1, ⟨D0, r1, r2, r3, r4, r5⟩, q3⟩ := h6 j hi' O' hj
     have l1 := lt r1
     have l2 := r2.lt
     rcases hsb with ⟨_, a, b⟩ | ⟨⟨hi0, O0⟩, hS0, rfl, rfl⟩
     · rcases he with he | he <;> omega
     · rcases he with he | he
       · exact e (h7 j k _ _ hj hS0 (.inl he.symm))
       · exact e (h7 j k _ _ hj hS0 (.inr he.symm))
   by_cases e : j = k <;> by_cases e' : j' = k
   · rw [e, e']
   · simp only [if_pos e, if_neg e'] at hj hj' he
     exact (far j' e' _ hj' he).elim
   · simp only [if_neg e, if_pos e'] at hj hj' he
     exact (far j e _ hj (by rcases he with he | he; exact .inl he.symm; exact .inr he.symm)).elim
   · simp only [if_neg e, if_neg e'] at hj hj' he
     exact h7 j j' _ _ hj hj' he
theorem SessAt.turned {w w' : World} {sb bo ob n' : Nat} {h' q : Int} {O : Int → Option Outc} {o : Outc} {ft ft' : Nat → Prop} {D D' : DataW Value}
   (h5 : ∀ q, (O q = none → ∀ z, D.atKey (.int .i64 q) z = z) ∧ (∀ o, O q = some o → ∃ b, D.atKey (.int .i64 q) (.held (.pointer none)) = .held (.pointer (some ⟨b, 0, none⟩)) ∧ OutAt w b o ∧ ft b))
   (hc : w'.heap[sb]? = some (.cells #[.int .i64 h', .map (some bo)] 257 (0, 0))) (hM : w'.ownsMap Tryz.prog 3 heldR bo n' D') (f1 : ft' sb) (f2 : ft' bo)
   (hD : ∀ j z, D'.atKey (.int .i64 j) z = if j ≤ h' - 8 then z else if j = q then .held (.pointer (some ⟨ob, 0, none⟩)) else D.atKey (.int .i64 j) z)
   (hO : OutAt w' ob o) (f3 : ft' ob) (hft : ∀ j, ft j → ft' j) (hk : ∀ b x, OutAt w b x → ft b → OutAt w' b x) : SessAt w' sb h' (winF O h' q o) n' bo ft' := by
 refine ⟨D', hc, hM, f1, f2, fun j => ?_⟩
 unfold winF
 by_cases e1 : j ≤ h' - 8
 · rw [if_pos e1]
   exact ⟨fun _ z => by rw [hD j z, if_pos e1], fun _ h => by cases h⟩
 · rw [if_neg e1]
   by_cases e2 : j = q
   · rw [if_pos e2]
     exact ⟨fun h => by (cases h), fun x hx => by cases hx; exact ⟨ob, by rw [hD j, if_neg e1, if_pos e2], hO, f3⟩⟩
   · rw [if_neg e2]
     refine ⟨fun h z => by rw [hD j z, if_neg e1, if_neg e2]; exact (h5 j).1 h z, fun x hx => ?_⟩
     obtain ⟨b, b1, b2, b3⟩ := (h5 j).2 x hx
     exact ⟨b, by rw [hD j, if_neg e1, if_neg e2]; exact b1, hk b x b2 b3, hft b b3⟩
theorem atKey_no_key {D : DataW Value} {x : Int} (h : x ∉ intKeys D) (z : DataW Value) : D.atKey (.int .i64 x) z = z := by
 refine Maps.atKey_of_not_has ?_ z
 cases D <;> try rfl
 rename_i es
 show es.any (fun p => p.1.sameKey (.int .i64 x)) = false
 rw [List.any_eq_false]
 intro p hp e
 apply h
 have := WideAt.sameKey_eq e
 exact List.mem_map.2 ⟨p, hp, by rw [this]; rfl⟩
def DelTo (D Di : DataW Value) (ks : List Int) (h : Int) : Prop := ∀ j z, Di.atKey (.int .i64 j) z = if j ∈ ks ∧ j ≤ h then z else D.atKey (.int .i64 j) z
theorem delTo_nil (D : DataW Value) (h : Int) : DelTo D D [] h := fun j z => by simp
theorem delTo_skip {D Di : DataW Value} {ks : List Int} {h x : Int} (hd : DelTo D Di ks h) (hx : ¬ x ≤ h) : DelTo D Di (ks ++ [x]) h := fun j z => by
 rw [hd j z]
 by_cases e : j = x
 · subst e; simp [hx]
 · simp [e]
theorem delTo_del {D Di : DataW Value} {ks : List Int} {h x : Int} (hd : DelTo D Di ks h) (hx : x ≤ h) : DelTo D (Di.del (.int .i64 x)) (ks ++ [x]) h := fun j z => by
 by_cases e : j = x
 · subst e
   rw [Maps.atKey_del_same]
   simp [hx]
 · rw [Maps.atKey_del_other (by simpa using e), hd j z]
   simp [e]
theorem delTo_all {D Di : DataW Value} {ks : List Int} {h : Int} (hd : DelTo D Di ks h) (hk : ∀ x, x ∈ ks ↔ x ∈ intKeys D) (j : Int) (z : DataW Value) :
   Di.atKey (.int .i64 j) z = if j ≤ h then z else D.atKey (.int .i64 j) z := by
 rw [hd j z]
 by_cases e : j ≤ h
 · by_cases e2 : j ∈ ks
   · simp [e, e2]
   · rw [if_neg (fun x => e2 x.1), if_pos e, atKey_no_key (fun x => e2 ((hk j).2 x))]
 · rw [if_neg (fun x => e x.2), if_neg e]
end Go.Proofs.YtgddgipjpdjoaaaGreatDoor
