/-
  Steps of a disk and the document's, side by side; the walk of the law package's alike (layer 9).
-/
import Derived.Test.YtiaddfghojdgkaaGreatDoorRCut
import Derived.Test.YtiaddfghojdgkaaGreatDoorOpenB
namespace Go.Proofs.YtiaddfghojdgkaaGreatDoor
open Go.RowKit Go.Shelf

variable {R S : (Nat → Prop) → World → Prop} {a w w' : World} {d m : Nat} {room : Int} {fs gs fs' gs' : List Dk.File}
theorem PR.weak (h : PR R a d m room fs gs w) (hw : ∀ X w, R X w → S X w) : PR S a d m room fs gs w := by
  obtain ⟨ft, fu, h⟩ := h
  exact ⟨ft, fu, h.env, h.below, h.disk, h.ref, h.dis, h.lt, hw _ _ h.rest⟩
theorem PR.push (h : PR R a d m room fs gs w) (hR : Firm R) (hb : Below w.heap.size w w') (hS : ∀ X, (∀ j, X j → j < w.heap.size) → S X w') : PR (fun X w => R X w ∧ S X w) a d m room fs gs w' := by
  obtain ⟨ft, fu, h⟩ := h
  have h' := h.next hR hb
  exact ⟨ft, fu, h'.env, h'.below, h'.disk, h'.ref, h'.dis, h'.lt, h'.rest, hS _ fun j hj => (h.lt j hj).2⟩
theorem PR.has (h : PR R a d m room fs gs w) : ∃ X, R X w := by obtain ⟨ft, fu, h⟩ := h; exact ⟨_, h.rest⟩
/-- A block that no step turns. -/
def BoxR (P : Nat) (cs : Array Value) (t : TypeId) (X : Nat → Prop) (w : World) : Prop := w.heap[P]? = some (.cells cs t (0, 0)) ∧ ¬ X P
theorem firm_box (P : Nat) (cs : Array Value) (t : TypeId) : Firm (BoxR P cs t) := fun X X' w w' h ht hX => by
  have hP := (Array.getElem?_eq_some_iff.1 h.1).1
  refine ⟨(ht.block P hP h.2).trans h.1, fun hx => ?_⟩
  rcases hX P hx with e | e
  · exact h.2 e
  · omega
theorem box_new {w : World} (cs : Array Value) (t : TypeId) (X : Nat → Prop) (hX : ∀ j, X j → j < w.heap.size) : BoxR w.heap.size cs t X (w.alloc (.cells cs t)) := ⟨heap_alloc_new w _, fun h => by have := hX _ h; omega⟩
theorem owns_firm {X : Nat → Prop} {base sz n : Nat} {e : TypeId} {v : Value} {xs : List Value} (h : w.ownsRow base e sz v n xs) (hf : ∀ b, v.ownBlock = some b → ¬ X b) (ht : Turn X w w') : w'.ownsRow base e sz v n xs := by
  refine ⟨h.1, ?_⟩
  rcases h.2 with h2 | ⟨g, cap, cur, rfl, hb, hg, hr⟩
  · exact .inl h2
  · exact .inr ⟨g, cap, cur, rfl, hb, (ht.block g (Array.getElem?_eq_some_iff.1 hg).1 (hf g rfl)).trans hg, hr⟩
/-- A row of entries: of the caller's, or the walk's own. -/
def LRow (a : World) (lv : Value) (qs : List EnX) (X : Nat → Prop) (w : World) : Prop :=
  Ents a lv qs ∨ (w.ownsRow a.heap.size 61 7 lv qs.length (enCells qs) ∧ (∀ b, lv.ownBlock = some b → ¬ X b) ∧ ∀ p ∈ qs, Evs a p.2 p.1.b.events ∧ Fine p.1)
theorem firm_lrow (a : World) (lv : Value) (qs : List EnX) : Firm (LRow a lv qs) := fun X X' w w' h ht hX => by
  rcases h with h | ⟨h1, h2, h3⟩
  · exact .inl h
  · refine .inr ⟨owns_firm h1 h2 ht, fun b hb hx => ?_, h3⟩
    have := (h1.lt b hb).2
    rcases hX b hx with e | e
    · exact h2 b hb e
    · omega
theorem LRow.ents {lv : Value} {qs : List EnX} {X : Nat → Prop} (h : LRow a lv qs X w) (hb : Below a.heap.size a w) : Ents w lv qs := by
  rcases h with h | ⟨h1, _, h3⟩
  · exact h.next hb
  · exact ⟨cells_of_owns h1, fun p hp => ⟨Cells.next (h3 p hp).1 hb, (h3 p hp).2⟩⟩

theorem create_pr {n first : Int} {c : Nat} (h : PR R a d m room fs gs w) (hR : Firm R) (hc : Seg.create room n first fs = (fs', c)) :
    Calls Tryz.prog 50 #[.pointer (some ⟨d, 0, none⟩), .int .i64 n, .int .i64 first] w fun e w' => e = .returned (.int .i64 (c : Nat)) ∧ PR R a d m room fs' gs w' := by
  obtain ⟨ft, fu, h⟩ := h
  refine (segCreate_any a d room n first fs ft w h.base h.disk).mono ?_
  rintro e w' ⟨rfl, hd⟩
  rw [hc] at hd ⊢
  exact ⟨rfl, h.stepD hR hd⟩
theorem rcreate_pr {n first : Int} {c : Nat} (h : PR R a d m room fs gs w) (hR : Firm R) (hc : Seg.create room n first gs = (gs', c)) :
    Calls Tryz.prog 58 #[.pointer (some ⟨m, 0, none⟩), .int .i64 n, .int .i64 first] w fun e w' => e = .returned (.int .i64 (c : Nat)) ∧ PR R a d m room fs gs' w' := by
  obtain ⟨ft, fu, h⟩ := h
  refine (rsegCreate_any m room n first gs fu w h.ref).mono ?_
  rintro e w' ⟨rfl, hd⟩
  rw [hc] at hd ⊢
  exact ⟨rfl, h.stepR hR hd⟩
theorem add_pr {n : Int} {c : Nat} {lv : Value} {qs : List EnX} (h : PR R a d m room fs gs w) (hR : Firm R) (hroom : room ≤ 1048576) (hq : Ents w lv qs) (hqn : qs.length ≤ 1000) (hc : Seg.addD room n (plainE qs) fs = (fs', c)) :
    Calls Tryz.prog 51 #[.pointer (some ⟨d, 0, none⟩), .int .i64 n, lv] w fun e w' => e = .returned (.int .i64 (c : Nat)) ∧ PR R a d m room fs' gs w' := by
  obtain ⟨ft, fu, h⟩ := h
  refine (segAdd_any a d room n fs ft lv qs w h.base h.disk hroom hq hqn).mono ?_
  rintro e w' ⟨rfl, hd⟩
  rw [hc] at hd ⊢
  exact ⟨rfl, h.stepD hR hd⟩
theorem radd_pr {n : Int} {c : Nat} {lv : Value} {qs : List EnX} (h : PR R a d m room fs gs w) (hR : Firm R) (hroom : room ≤ 1048576) (hq : Ents w lv qs) (hqn : qs.length ≤ 1000) (hc : Seg.addD room n (plainE qs) gs = (gs', c)) :
    Calls Tryz.prog 59 #[.pointer (some ⟨m, 0, none⟩), .int .i64 n, lv] w fun e w' => e = .returned (.int .i64 (c : Nat)) ∧ PR R a d m room fs gs' w' := by
  obtain ⟨ft, fu, h⟩ := h
  refine (rsegAdd_any m room n gs fu lv qs w h.ref hroom hq hqn).mono ?_
  rintro e w' ⟨rfl, hd⟩
  rw [hc] at hd ⊢
  exact ⟨rfl, h.stepR hR hd⟩
theorem cut_pr {n last : Int} {c : Nat} (h : PR R a d m room fs gs w) (hR : Firm R) (hroom : room ≤ 1048576) (hc : Seg.cutD room n last fs = (fs', c)) :
    Calls Tryz.prog 60 #[.pointer (some ⟨d, 0, none⟩), .int .i64 n, .int .i64 last] w fun e w' => e = .returned (.int .i64 (c : Nat)) ∧ PR R a d m room fs' gs w' := by
  obtain ⟨ft, fu, h⟩ := h
  refine (segCut_any a d room n last fs ft w h.base h.disk hroom).mono ?_
  rintro e w' ⟨rfl, hd⟩
  rw [hc] at hd ⊢
  exact ⟨rfl, h.stepD hR hd⟩
theorem rcut_pr {n last : Int} {c : Nat} (h : PR R a d m room fs gs w) (hR : Firm R) (hroom : room ≤ 1048576) (hc : Seg.cutD room n last gs = (gs', c)) :
    Calls Tryz.prog 61 #[.pointer (some ⟨m, 0, none⟩), .int .i64 n, .int .i64 last] w fun e w' => e = .returned (.int .i64 (c : Nat)) ∧ PR R a d m room fs gs' w' := by
  obtain ⟨ft, fu, h⟩ := h
  refine (rsegCut_any m room n last gs fu w h.ref hroom).mono ?_
  rintro e w' ⟨rfl, hd⟩
  rw [hc] at hd ⊢
  exact ⟨rfl, h.stepR hR hd⟩
theorem append_pr {nm s : ByteArray} {c : Nat} (h : PR R a d m room fs gs w) (hR : Firm R) (hn : nm.size ≤ 1000000000) (hs : s.size ≤ 1000000000000) (hc : Dk.append room nm.data.toList s fs = (fs', c)) :
    Calls Tryz.prog 62 #[.pointer (some ⟨d, 0, none⟩), .string nm, .string s] w fun e w' => e = .returned (.int .i64 (c : Nat)) ∧ PR R a d m room fs' gs w' := by
  have hE := h.env
  obtain ⟨ft, fu, h⟩ := h
  refine (diskAppend_any d room fs ft nm s w hE h.disk hn hs).mono ?_
  rintro e w' ⟨rfl, hd⟩
  rw [hc] at hd ⊢
  exact ⟨rfl, h.stepD hR hd⟩
theorem rappend_pr {nm s : ByteArray} {c : Nat} (h : PR R a d m room fs gs w) (hR : Firm R) (hn : nm.size ≤ 1000000000) (hs : s.size ≤ 1000000000000) (hc : Dk.append room nm.data.toList s gs = (gs', c)) :
    Calls Tryz.prog 63 #[.pointer (some ⟨m, 0, none⟩), .string nm, .string s] w fun e w' => e = .returned (.int .i64 (c : Nat)) ∧ PR R a d m room fs gs' w' := by
  obtain ⟨ft, fu, h⟩ := h
  refine (rdAppend_any m room gs fu nm s w h.ref hn hs).mono ?_
  rintro e w' ⟨rfl, hd⟩
  rw [hc] at hd ⊢
  exact ⟨rfl, h.stepR hR hd⟩
theorem delete_pr {nm : ByteArray} {c : Nat} (h : PR R a d m room fs gs w) (hR : Firm R) (hn : nm.size ≤ 1000000000) (hc : Dk.delete nm.data.toList fs = (fs', c)) :
    Calls Tryz.prog 65 #[.pointer (some ⟨d, 0, none⟩), .string nm] w fun e w' => e = .returned (.int .i64 (c : Nat)) ∧ PR R a d m room fs' gs w' := by
  obtain ⟨ft, fu, h⟩ := h
  refine (diskDelete_any d room fs ft nm w h.disk hn).mono ?_
  rintro e w' ⟨rfl, hd⟩
  rw [hc] at hd ⊢
  exact ⟨rfl, h.stepD hR hd⟩
theorem rdelete_pr {nm : ByteArray} {c : Nat} (h : PR R a d m room fs gs w) (hR : Firm R) (hc : Dk.delete nm.data.toList gs = (gs', c)) :
    Calls Tryz.prog 66 #[.pointer (some ⟨m, 0, none⟩), .string nm] w fun e w' => e = .returned (.int .i64 (c : Nat)) ∧ PR R a d m room fs gs' w' := by
  obtain ⟨ft, fu, h⟩ := h
  refine (rdDelete_any m room gs fu nm w h.ref).mono ?_
  rintro e w' ⟨rfl, hd⟩
  rw [hc] at hd ⊢
  exact ⟨rfl, h.stepR hR hd⟩
/-- Numbers of the caller's lie where no step turns. -/
theorem keep_turn9 {X : Nat → Prop} {kv : Value} {ks : List Int} (h : Cells a kv 1 ks.length (intCells ks)) (hb : Below a.heap.size a w) (hX : ∀ j, X j → a.heap.size ≤ j) : ∀ Z, Turn X w Z → Cells Z kv 1 ks.length (ks.map fun n => Value.int .i64 n) := fun _ ht =>
  Cells.next h (hb.trans (ht.below hX hb.size))
theorem crash_pr {kv : Value} {ks : List Int} (h : PR R a d m room fs gs w) (hR : Firm R) (hk : Cells a kv 1 ks.length (intCells ks)) (hkn : ks.length ≤ 1000000) (hkb : ∀ n ∈ ks, -9223372036854775808 ≤ n ∧ n ≤ 9223372036854775807) :
    Calls Tryz.prog 36 #[.pointer (some ⟨d, 0, none⟩), kv] w fun e w' => e = .returned (.tuple #[]) ∧ PR R a d m room (Dk.crash ks fs) gs w' := by
  obtain ⟨ft, fu, h⟩ := h
  refine (diskCrash_any kv ks w h.disk (keep_turn9 hk h.below fun j hj => (h.lt j (.inl hj)).1) hkn hkb).mono ?_
  rintro e w' ⟨rfl, hd⟩
  exact ⟨rfl, h.stepD hR hd⟩
theorem rcrash_pr {kv : Value} {ks : List Int} (h : PR R a d m room fs gs w) (hR : Firm R) (hk : Cells a kv 1 ks.length (intCells ks)) (hkn : ks.length ≤ 1000000) (hkb : ∀ n ∈ ks, -9223372036854775808 ≤ n ∧ n ≤ 9223372036854775807) :
    Calls Tryz.prog 37 #[.pointer (some ⟨m, 0, none⟩), kv] w fun e w' => e = .returned (.tuple #[]) ∧ PR R a d m room fs (Dk.crash ks gs) w' := by
  obtain ⟨ft, fu, h⟩ := h
  refine (rdCrash_any m room gs fu kv ks w h.ref (keep_turn9 hk h.below fun j hj => (h.lt j (.inr hj)).1) hkn hkb).mono ?_
  rintro e w' ⟨rfl, hd⟩
  exact ⟨rfl, h.stepR hR hd⟩
theorem load_pr {n : Int} {g : Seg.Seg} {c : Nat} (h : PR R a d m room fs gs w) (hroom : room ≤ 1048576) (hc : Seg.loadD n fs = (g, c)) :
    Calls Tryz.prog 15 #[.pointer (some ⟨d, 0, none⟩), .int .i64 n] w fun e w' => ∃ (sa : Option Addr) (sc : Nat) (ps : List EnX), e = .returned (.tuple #[.agg #[.int .i64 g.first, .slice sa ps.length sc, .bool g.torn], .int .i64 (c : Int)]) ∧ Hid (plainE ps = g.entries) ∧ Hid (NewEnts w.heap.size w' (.slice sa ps.length sc) ps) ∧ Below w.heap.size w w' := by
  obtain ⟨ft, fu, h⟩ := h
  refine (segLoad_any a d room n fs ft w h.base h.disk hroom).mono ?_
  rintro e w' ⟨first, v, ps, torn, c', rfl, hl, hn, hb⟩
  have hl := hl.out
  rw [hc] at hl
  simp only [Prod.mk.injEq] at hl
  obtain ⟨rfl, rfl⟩ := hl
  obtain ⟨sa, sc, rfl⟩ := cells_sliceV (cells_of_owns hn.out.1)
  exact ⟨sa, sc, ps, rfl, rfl, hn, hb⟩
theorem rload_pr {n : Int} {g : Seg.Seg} {c : Nat} (h : PR R a d m room fs gs w) (hroom : room ≤ 1048576) (hc : Seg.loadD n gs = (g, c)) :
    Calls Tryz.prog 16 #[.pointer (some ⟨m, 0, none⟩), .int .i64 n] w fun e w' => ∃ (sa : Option Addr) (sc : Nat) (ps : List EnX), e = .returned (.tuple #[.agg #[.int .i64 g.first, .slice sa ps.length sc, .bool g.torn], .int .i64 (c : Int)]) ∧ Hid (plainE ps = g.entries) ∧ Hid (NewEnts w.heap.size w' (.slice sa ps.length sc) ps) ∧ Below w.heap.size w w' := by
  obtain ⟨ft, fu, h⟩ := h
  refine (rsegLoad_any m room n gs fu w h.ref hroom).mono ?_
  rintro e w' ⟨first, v, ps, torn, c', rfl, hl, hn, hb⟩
  have hl := hl.out
  rw [hc] at hl
  simp only [Prod.mk.injEq] at hl
  obtain ⟨rfl, rfl⟩ := hl
  obtain ⟨sa, sc, rfl⟩ := cells_sliceV (cells_of_owns hn.out.1)
  exact ⟨sa, sc, ps, rfl, rfl, hn, hb⟩
theorem used_pr (h : PR R a d m room fs gs w) : Calls Tryz.prog 69 #[.pointer (some ⟨d, 0, none⟩)] w fun e w' => e = .returned (.int .i64 (Dk.total fs : Int)) ∧ w = w' := by
  obtain ⟨ft, fu, h⟩ := h; exact diskUsed_any d room fs ft w h.disk
theorem rused_pr (h : PR R a d m room fs gs w) : Calls Tryz.prog 70 #[.pointer (some ⟨m, 0, none⟩)] w fun e w' => e = .returned (.int .i64 (Dk.total gs : Int)) ∧ w = w' := by
  obtain ⟨ft, fu, h⟩ := h; exact rdUsed_any m room gs fu w h.ref
theorem list_pr (h : PR R a d m room fs gs w) : Calls Tryz.prog 67 #[.pointer (some ⟨d, 0, none⟩)] w fun e w' => ∃ sa sc, e = .returned (.slice sa fs.length sc) ∧ Hid (w'.ownsRow w.heap.size 9 1 (.slice sa fs.length sc) fs.length (strCells (fs.map (·.name)))) ∧ Below w.heap.size w w' := by
  obtain ⟨ft, fu, h⟩ := h
  obtain ⟨bm, D, g, h⟩ := h.disk
  exact diskList_rep (u := Dk.total fs) w h
theorem rlist_pr (h : PR R a d m room fs gs w) : Calls Tryz.prog 68 #[.pointer (some ⟨m, 0, none⟩)] w fun e w' => ∃ sa sc, e = .returned (.slice sa gs.length sc) ∧ Hid (w'.ownsRow w.heap.size 9 1 (.slice sa gs.length sc) gs.length (strCells (gs.map (·.name)))) ∧ Below w.heap.size w w' := by
  obtain ⟨ft, fu, h⟩ := h; exact rdList_any m room gs fu w h.ref
theorem read_pr {nm : ByteArray} (h : PR R a d m room fs gs w) (hn : nm.size ≤ 1000000000000) : Calls Tryz.prog 71 #[.pointer (some ⟨d, 0, none⟩), .string nm] w fun e w' => e = .returned (.tuple #[.string (Dk.read nm.data.toList fs).1, .int .i64 ((Dk.read nm.data.toList fs).2 : Nat)]) ∧ w = w' := by
  obtain ⟨ft, fu, h⟩ := h; exact diskRead_any d room fs ft nm w h.disk hn
theorem rread_pr {nm : ByteArray} (h : PR R a d m room fs gs w) : Calls Tryz.prog 72 #[.pointer (some ⟨m, 0, none⟩), .string nm] w fun e w' => e = .returned (.tuple #[.string (Dk.read nm.data.toList gs).1, .int .i64 ((Dk.read nm.data.toList gs).2 : Nat)]) ∧ Below w.heap.size w w' := by
  obtain ⟨ft, fu, h⟩ := h; exact rdRead_any m room gs fu nm w h.ref
theorem synced_pr {nm : ByteArray} (h : PR R a d m room fs gs w) (hn : nm.size ≤ 1000000000000) : Calls Tryz.prog 73 #[.pointer (some ⟨d, 0, none⟩), .string nm] w fun e w' => e = .returned (.int .i64 (Dk.synced nm.data.toList fs : Nat)) ∧ w = w' := by
  obtain ⟨ft, fu, h⟩ := h; exact diskSynced_any d room fs ft nm w h.disk hn
theorem rsynced_pr {nm : ByteArray} (h : PR R a d m room fs gs w) : Calls Tryz.prog 74 #[.pointer (some ⟨m, 0, none⟩), .string nm] w fun e w' => e = .returned (.int .i64 (Dk.synced nm.data.toList gs : Nat)) ∧ Below w.heap.size w w' := by
  obtain ⟨ft, fu, h⟩ := h; exact rdSynced_any m room gs fu nm w h.ref
end Go.Proofs.YtiaddfghojdgkaaGreatDoor
