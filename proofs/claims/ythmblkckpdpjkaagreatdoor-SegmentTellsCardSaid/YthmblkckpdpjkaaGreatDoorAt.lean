/-
  The walks of the document's Same and SameRow (layer 6): of entries that are the same.
  A disk, its pair, its blocks: steps of the disk, and what they leave.
-/
import Derived.Test.YthmblkckpdpjkaaGreatDoorFollows
import Derived.Deep.RegionHeld3
import Derived.BigQuiet
import Derived.Test.YthmblkckpdpjkaaGreatDoorShow
import Derived.Test.YthmblkckpdpjkaaGreatDoorCut
namespace Go.Proofs.YthmblkckpdpjkaaGreatDoor
open Go.RowKit Go.Shelf

set_option maxHeartbeats 4000000 in
set_option maxRecDepth 100000 in
theorem same6_any (p ep : Int) (S : ByteArray) (ex se sq : Int) (va vb : Value) (es : List Evt.Event) (w : World) (ha : Evs w va es) (hb : Evs w vb es) (hn : es.length ≤ 1000000) :
    Calls Tryz.prog 53 #[.agg #[.int .i64 p, .int .i64 ep, .string S, .int .i64 ex, .int .i64 se, .int .i64 sq, va], .agg #[.int .i64 p, .int .i64 ep, .string S, .int .i64 ex, .int .i64 se, .int .i64 sq, vb]] w fun e w' => e = .returned (.bool true) ∧ Below w.heap.size w w' := by
  obtain ⟨sa, la, ca, rfl⟩ := evs_slice ha
  obtain ⟨sb, lb, cb, rfl⟩ := evs_slice hb
  have hla : la = es.length := by
    rcases cellsNil ha with ⟨h, a', c', e⟩ | ⟨b', o', c', e⟩
    · cases e; omega
    · cases e; rfl
  have hlb : lb = es.length := by
    rcases cellsNil hb with ⟨h, a', c', e⟩ | ⟨b', o', c', e⟩
    · cases e; omega
    · cases e; rfl
  subst hla hlb
  obtain ⟨W, hW⟩ : ∃ W, W = (((w.alloc (.cells #[.int .i64 p, .int .i64 ep, .string S, .int .i64 ex, .int .i64 se, .int .i64 sq, .slice sa es.length ca] 38)).alloc (.cells #[.int .i64 p, .int .i64 ep, .string S, .int .i64 ex, .int .i64 se, .int .i64 sq, .slice sb es.length cb] 38)).alloc
    (.cells #[.string S, .int .i64 ex, .int .i64 se, .int .i64 sq, .slice sa es.length ca] 36)).alloc (.cells #[.string S, .int .i64 ex, .int .i64 se, .int .i64 sq, .slice sb es.length cb] 36) := ⟨_, rfl⟩
  have hB : Below w.heap.size w W := by rw [hW]; exact ((((Below.refl _ w).alloc (Nat.le_refl _) _).alloc (by simp) _).alloc (by simp; omega) _).alloc (by simp; omega) _
  have ca4 : W.cell? ⟨w.heap.size + 1 + 1, 4, none⟩ = some (.slice sa es.length ca) := by
    rw [hW]
    refine cell_kept ((Below.refl _ _).alloc (Nat.le_refl _) _) (Nat.le_refl _) ?_
    have h := heap_alloc_new ((w.alloc (.cells #[.int .i64 p, .int .i64 ep, .string S, .int .i64 ex, .int .i64 se, .int .i64 sq, .slice sa es.length ca] 38)).alloc (.cells #[.int .i64 p, .int .i64 ep, .string S, .int .i64 ex, .int .i64 se, .int .i64 sq, .slice sb es.length cb] 38)) (.cells #[.string S, .int .i64 ex, .int .i64 se, .int .i64 sq, .slice sa es.length ca] 36)
    simp only [World.size_alloc] at h
    rw [Lib.cell_of_heap h]; rfl
  have cb4 : W.cell? ⟨w.heap.size + 1 + 1 + 1, 4, none⟩ = some (.slice sb es.length cb) := by
    rw [hW]
    have h := heap_alloc_new (((w.alloc (.cells #[.int .i64 p, .int .i64 ep, .string S, .int .i64 ex, .int .i64 se, .int .i64 sq, .slice sa es.length ca] 38)).alloc (.cells #[.int .i64 p, .int .i64 ep, .string S, .int .i64 ex, .int .i64 se, .int .i64 sq, .slice sb es.length cb] 38)).alloc (.cells #[.string S, .int .i64 ex, .int .i64 se, .int .i64 sq, .slice sa es.length ca] 36)) (.cells #[.string S, .int .i64 ex, .int .i64 se, .int .i64 sq, .slice sb es.length cb] 36)
    simp only [World.size_alloc] at h
    rw [Lib.cell_of_heap h]; rfl
  have HA := Lib.hid (Cells.next ha hB)
  have HB := Lib.hid (Cells.next hb hB)
  have HW := Lib.hid hW
  have HBW := Lib.hid hB
  clear ha hb hW hB
  go_enter Tryz.func53, Tryz.ntmps53
  go_wp2
  rw [← HW.out]
  have C0 := Lib.hid (And.intro ca4 cb4)
  clear ca4 cb4
  go_loopw [7] (fun lv wr => ∃ i : Nat, lv = .int .i64 i ∧ i ≤ es.length ∧ Below W.heap.size W wr) (fun lv _ => es.length - (intOf lv).toNat)
  case atStart => exact ⟨0, rfl, by omega, Below.refl _ _⟩
  case round =>
    obtain ⟨i, rfl, hi, hbr⟩ := hrel
    have ca4 := cell_kept hbr (Nat.le_refl _) C0.out.1
    have cb4 := cell_kept hbr (Nat.le_refl _) C0.out.2
    by_cases hp : i < es.length
    · obtain ⟨b1, o1, c1, hv1, p1, p2⟩ := evAt (Cells.next HA.out hbr) i hp
      obtain ⟨b2, o2, c2, hv2, q1, q2⟩ := evAt (Cells.next HB.out hbr) i hp
      cases hv1
      cases hv2
      obtain ⟨x, hx⟩ : ∃ x, es[i] = x := ⟨_, rfl⟩
      rw [hx] at p1 p2 q1 q2
      obtain ⟨K, hK, _, _⟩ := str_of x.kind
      obtain ⟨Dd, hDd, _, _⟩ := str_of x.data
      rw [hK] at p1 q1
      rw [hDd] at p2 q2
      clear hx hK hDd
      go_wp2
      go_quiet (fail)
      go_wp2
      exact ⟨⟨i + 1, by go_num, by omega, below_drewN hbr _⟩, by simp [intOf]; omega⟩
    · go_wp2
      go_ret
      exact ⟨rfl, Below.up HBW.out (Nat.le_refl _) hbr⟩

theorem cells7_kept {w w' : World} {b o : Nat} {u0 u1 u2 u3 u4 u5 u6 : Value} (hb : Below w.heap.size w w') (h : w.cell? ⟨b, o, none⟩ = some u0 ∧ w.cell? ⟨b, o + 1, none⟩ = some u1 ∧ w.cell? ⟨b, o + 2, none⟩ = some u2 ∧ w.cell? ⟨b, o + 3, none⟩ = some u3 ∧ w.cell? ⟨b, o + 4, none⟩ = some u4 ∧ w.cell? ⟨b, o + 5, none⟩ = some u5 ∧ w.cell? ⟨b, o + 6, none⟩ = some u6) :
    w'.cell? ⟨b, o, none⟩ = some u0 ∧ w'.cell? ⟨b, o + 1, none⟩ = some u1 ∧ w'.cell? ⟨b, o + 2, none⟩ = some u2 ∧ w'.cell? ⟨b, o + 3, none⟩ = some u3 ∧ w'.cell? ⟨b, o + 4, none⟩ = some u4 ∧ w'.cell? ⟨b, o + 5, none⟩ = some u5 ∧ w'.cell? ⟨b, o + 6, none⟩ = some u6 := by
  obtain ⟨h0, h1, h2, h3, h4, h5, h6⟩ := h
  exact ⟨cell_kept hb (Nat.le_refl _) h0, cell_kept hb (Nat.le_refl _) h1, cell_kept hb (Nat.le_refl _) h2, cell_kept hb (Nat.le_refl _) h3, cell_kept hb (Nat.le_refl _) h4, cell_kept hb (Nat.le_refl _) h5, cell_kept hb (Nat.le_refl _) h6⟩

set_option maxHeartbeats 8000000 in
set_option maxRecDepth 100000 in
theorem sameRow6_any (va vb : Value) (ps qs : List (Evt.Entry × Value)) (w : World) (ha : Ents w va ps) (hb : Ents w vb qs) (he : plainE ps = plainE qs) (hn : ps.length ≤ 1000000) :
    Calls Tryz.prog 25 #[va, vb] w fun e w' => e = .returned (.bool true) ∧ Below w.heap.size w w' := by
  have hlen : qs.length = ps.length := by have := congrArg List.length he; simpa [plainE] using this.symm
  obtain ⟨sa, ca, rfl⟩ : ∃ sa ca, va = .slice sa ps.length ca := by
    rcases cellsNil ha.1 with ⟨h, a', c', e⟩ | ⟨b', o', c', e⟩
    · exact ⟨_, _, by rw [h]; exact e⟩
    · exact ⟨_, _, e⟩
  obtain ⟨sb, cb, rfl⟩ : ∃ sb cb, vb = .slice sb qs.length cb := by
    rcases cellsNil hb.1 with ⟨h, a', c', e⟩ | ⟨b', o', c', e⟩
    · exact ⟨_, _, by rw [h]; exact e⟩
    · exact ⟨_, _, e⟩
  rw [hlen] at hb ⊢
  have HA := Lib.hid ha
  have HB := Lib.hid hb
  have HE := Lib.hid he
  have HL := Lib.hid hlen
  clear ha hb he hlen
  go_enter Tryz.func25, Tryz.ntmps25
  go_wp2
  go_loopw [5] (fun lv wr => ∃ i : Nat, lv = .int .i64 i ∧ i ≤ ps.length ∧ Below w.heap.size w wr) (fun lv _ => ps.length - (intOf lv).toNat)
  case atStart => exact ⟨0, rfl, by omega, Below.refl _ _⟩
  case round =>
    obtain ⟨i, rfl, hi, hbr⟩ := hrel
    by_cases hp : i < ps.length
    · obtain ⟨b1, o1, c1, p, ep, S, ex, se, sq, sa1, sl1, sc1, es, hv, k0, k1, k2, k3, k4, k5, k6, hev, hS, hsm, hes, hpe, _⟩ := enAt (HA.out.next hbr) i hp
      obtain ⟨b2, o2, c2, p', ep', S', ex', se', sq', sa2, sl2, sc2, es', hv', j0, j1, j2, j3, j4, j5, j6, hev', _, _, _, hpe', _⟩ := enAt (HB.out.next hbr) i (by rw [HL.out]; exact hp)
      cases hv
      rw [HL.out] at hv'
      cases hv'
      have hiq : i < qs.length := by rw [HL.out]; exact hp
      have hq := hpe'.out
      have e : ps[i].1 = qs[i].1 := by
        have h : (plainE ps)[i]? = (plainE qs)[i]? := by rw [HE.out]
        simpa [plainE, hp, hiq] using h
      rw [← e, hpe.out] at hq
      simp only [Evt.Entry.mk.injEq, Evt.Batch.mk.injEq] at hq
      obtain ⟨rfl, rfl, hSS, rfl, rfl, rfl, rfl⟩ := hq
      obtain rfl : S = S' := by apply ByteArray.ext; exact Array.toList_inj.1 hSS
      have HSM := Lib.hid (same6_any p ep S ex se sq _ _ es wr.drew (Cells.next hev (Below.refl _ _).drew) (Cells.next hev' (Below.refl _ _).drew) hes)
      have hc0 := And.intro (And.intro k0 (And.intro k1 (And.intro k2 (And.intro k3 (And.intro k4 (And.intro k5 k6)))))) (And.intro j0 (And.intro j1 (And.intro j2 (And.intro j3 (And.intro j4 (And.intro j5 j6))))))
      clear e hpe hpe' hSS hsm hS hiq
      go_wp2
      go_region_held3 (fun X => (X.cell? ⟨b1, o1 + i * 7, none⟩ = some (.int .i64 p) ∧ X.cell? ⟨b1, o1 + i * 7 + 1, none⟩ = some (.int .i64 ep) ∧ X.cell? ⟨b1, o1 + i * 7 + 2, none⟩ = some (.string S) ∧ X.cell? ⟨b1, o1 + i * 7 + 3, none⟩ = some (.int .i64 ex) ∧ X.cell? ⟨b1, o1 + i * 7 + 4, none⟩ = some (.int .i64 se) ∧ X.cell? ⟨b1, o1 + i * 7 + 5, none⟩ = some (.int .i64 sq) ∧ X.cell? ⟨b1, o1 + i * 7 + 6, none⟩ = some (.slice sa1 sl1 sc1)) ∧ X.cell? ⟨b2, o2 + i * 7, none⟩ = some (.int .i64 p) ∧ X.cell? ⟨b2, o2 + i * 7 + 1, none⟩ = some (.int .i64 ep) ∧ X.cell? ⟨b2, o2 + i * 7 + 2, none⟩ = some (.string S) ∧ X.cell? ⟨b2, o2 + i * 7 + 3, none⟩ = some (.int .i64 ex) ∧ X.cell? ⟨b2, o2 + i * 7 + 4, none⟩ = some (.int .i64 se) ∧ X.cell? ⟨b2, o2 + i * 7 + 5, none⟩ = some (.int .i64 sq) ∧ X.cell? ⟨b2, o2 + i * 7 + 6, none⟩ = some (.slice sa2 sl2 sc2))
        (first | exact hc0 | exact ⟨cells7_kept hb hc0.1, cells7_kept hb hc0.2⟩)
        (first | (go_at_call 53; refine HSM.out.mono ?_; rintro e w' ⟨rfl, hb⟩))
      go_wp2
      exact ⟨⟨i + 1, by go_num, by omega, Below.up hbr.drew (Nat.le_refl _) hb⟩, by simp [intOf]; omega⟩
    · go_wp2
      go_ret
      exact ⟨rfl, hbr⟩
end Go.Proofs.YthmblkckpdpjkaaGreatDoor
namespace Go.Proofs.YthmblkckpdpjkaaGreatDoor
open Go.RowKit Go.Shelf

/-- A disk, the pair that names it; the world where the walk began; the disk's own blocks. -/
def At (a : World) (P d : Nat) (mv : Value) (room : Int) (fs : List Dk.File) (ft : Nat → Prop) (w : World) : Prop :=
  IsDisk w d room fs ft ∧ Base a w ft ∧ (∀ j, ft j → j < w.heap.size) ∧ PB P (.pointer (some ⟨d, 0, none⟩)) mv w ∧ ¬ ft P
/-- .. behind a step of the disk. -/
def Step (a : World) (P d : Nat) (mv : Value) (room : Int) (fs : List Dk.File) (ft : Nat → Prop) (w w' : World) : Prop :=
  ∃ ft', At a P d mv room fs ft' w' ∧ (∀ j, ft' j → ft j ∨ w.heap.size ≤ j) ∧ Turn ft w w'
variable {a w w' : World} {P d : Nat} {mv : Value} {room : Int} {fs fs' : List Dk.File} {ft : Nat → Prop}
theorem At.next (h : At a P d mv room fs ft w) (hb : Below w.heap.size w w') : At a P d mv room fs ft w' :=
  ⟨h.1.next hb, h.2.1.next hb, fun j hj => Nat.lt_of_lt_of_le (h.2.2.1 j hj) hb.size, h.2.2.2.1.next hb, h.2.2.2.2⟩
theorem At.env (h : At a P d mv room fs ft w) : Env w := h.2.1.envW
theorem At.below (h : At a P d mv room fs ft w) : Below a.heap.size a w := h.2.1.below
theorem At.cell (h : At a P d mv room fs ft w) : w.cell? ⟨P, 0, none⟩ = some (.pointer (some ⟨d, 0, none⟩)) := h.2.2.2.1.cells.1
theorem At.step (h : At a P d mv room fs ft w) (hd : DStep d room fs' ft w w') : Step a P d mv room fs' ft w w' := by
  obtain ⟨g, q1, q2, q3, q4⟩ := hd.open
  obtain ⟨h1, h2, h3, h4, h5⟩ := h
  have hP := (Array.getElem?_eq_some_iff.1 h4).1
  refine ⟨g, ⟨q1, h2.turn q4 q2, q3, (q4.block P hP h5).trans h4, fun h => ?_⟩, q2, q4⟩
  rcases q2 P h with h | h
  · exact h5 h
  · omega
/-- Rows that the disk's blocks are not. -/
theorem NewEnts.turn {base : Nat} {v : Value} {ps : List EnX} (h : NewEnts base w v ps) (hf : ∀ j, ft j → j < base) (ht : Turn ft w w') : NewEnts base w' v ps := by
  have key : ∀ {e sz n : Nat} {v : Value} {xs : List Value}, w.ownsRow base e sz v n xs → w'.ownsRow base e sz v n xs := fun {e sz n v xs} h => by
    obtain ⟨h1, h2⟩ := h
    refine ⟨h1, ?_⟩
    rcases h2 with h2 | ⟨g, cap, cur, hv, hg, hw, hr⟩
    · exact .inl h2
    · refine .inr ⟨g, cap, cur, hv, hg, ?_, hr⟩
      rw [ht.block g (Array.getElem?_eq_some_iff.1 hw).1 (fun h => by have := hf g h; omega)]; exact hw
  exact ⟨key h.1, fun p hp => ⟨key (h.2 p hp).1, (h.2 p hp).2⟩⟩
theorem NewEnts.next {base : Nat} {v : Value} {ps : List EnX} (h : NewEnts base w v ps) (hb : Below w.heap.size w w') : NewEnts base w' v ps :=
  h.turn (ft := fun _ => False) (fun _ h => h.elim) (Turn.of_below hb)
theorem SB.turn {b : Nat} {f : Int} {v : Value} {t : Bool} (h : SB b f v t w) (hf : ¬ ft b) (ht : Turn ft w w') : SB b f v t w' :=
  (ht.block b (Array.getElem?_eq_some_iff.1 h).1 hf).trans h
theorem append_at {nm s : ByteArray} {c : Nat} (h : At a P d mv room fs ft w) (hn : nm.size ≤ 1000000000) (hs : s.size ≤ 1000000000000) (hc : Dk.append room nm.data.toList s fs = (fs', c)) :
    Calls Tryz.prog 21 #[.pointer (some ⟨d, 0, none⟩), .string nm, .string s] w fun e w' => e = .returned (.int .i64 (c : Nat)) ∧ Step a P d mv room fs' ft w w' := by
  refine (diskAppend_any d room fs ft nm s w h.env h.1 hn hs).mono ?_
  rintro e w' ⟨rfl, hd⟩
  rw [hc] at hd ⊢
  exact ⟨rfl, h.step hd⟩
theorem cut_at {n last : Int} {c : Nat} (h : At a P d mv room fs ft w) (hroom : room ≤ 1048576) (hc : Seg.cutD room n last fs = (fs', c)) :
    Calls Tryz.prog 23 #[.pointer (some ⟨d, 0, none⟩), .int .i64 n, .int .i64 last] w fun e w' => e = .returned (.int .i64 (c : Nat)) ∧ Step a P d mv room fs' ft w w' := by
  refine (segCut_any a d room n last fs ft w h.2.1 h.1 hroom).mono ?_
  rintro e w' ⟨rfl, hd⟩
  rw [hc] at hd ⊢
  exact ⟨rfl, h.step hd⟩
theorem create_at {n first : Int} {c : Nat} (h : At a P d mv room fs ft w) (hc : Seg.create room n first fs = (fs', c)) :
    Calls Tryz.prog 17 #[.pointer (some ⟨d, 0, none⟩), .int .i64 n, .int .i64 first] w fun e w' => e = .returned (.int .i64 (c : Nat)) ∧ Step a P d mv room fs' ft w w' := by
  refine (segCreate_any a d room n first fs ft w h.2.1 h.1).mono ?_
  rintro e w' ⟨rfl, hd⟩
  rw [hc] at hd ⊢
  exact ⟨rfl, h.step hd⟩
theorem add_at {n : Int} {c : Nat} {lv : Value} {qs : List EnX} (h : At a P d mv room fs ft w) (hroom : room ≤ 1048576) (hq : Ents w lv qs) (hqn : qs.length ≤ 1000) (hc : Seg.addD room n (plainE qs) fs = (fs', c)) :
    Calls Tryz.prog 18 #[.pointer (some ⟨d, 0, none⟩), .int .i64 n, lv] w fun e w' => e = .returned (.int .i64 (c : Nat)) ∧ Step a P d mv room fs' ft w w' := by
  refine (segAdd_any a d room n fs ft lv qs w h.2.1 h.1 hroom hq hqn).mono ?_
  rintro e w' ⟨rfl, hd⟩
  rw [hc] at hd ⊢
  exact ⟨rfl, h.step hd⟩
theorem load_at {n : Int} {g : Seg.Seg} {c : Nat} (h : At a P d mv room fs ft w) (hroom : room ≤ 1048576) (hc : Seg.loadD n fs = (g, c)) :
    Calls Tryz.prog 22 #[.pointer (some ⟨d, 0, none⟩), .int .i64 n] w fun e w' => ∃ (sa : Option Addr) (sc : Nat) (ps : List EnX), e = .returned (.tuple #[.agg #[.int .i64 g.first, .slice sa ps.length sc, .bool g.torn], .int .i64 (c : Int)]) ∧ Hid (plainE ps = g.entries) ∧ Hid (NewEnts w.heap.size w' (.slice sa ps.length sc) ps) ∧ Below w.heap.size w w' := by
  refine (segLoad_any a d room n fs ft w h.2.1 h.1 hroom).mono ?_
  rintro e w' ⟨first, v, ps, torn, c', rfl, hl, hn, hb⟩
  have hl := hl.out
  rw [hc] at hl
  simp only [Prod.mk.injEq] at hl
  obtain ⟨rfl, rfl⟩ := hl
  rcases hn.out.1.2 with ⟨rfl, h0⟩ | ⟨g, cap, cur, rfl, _⟩
  · refine ⟨none, 0, ps, by rw [h0], rfl, ?_, hb⟩
    rw [h0]; exact hn
  · exact ⟨_, _, ps, rfl, rfl, hn, hb⟩
theorem read_at {nm : ByteArray} {s : ByteArray} {c : Nat} (h : At a P d mv room fs ft w) (hn : nm.size ≤ 1000000000000) (hc : Dk.read nm.data.toList fs = (s, c)) :
    Calls Tryz.prog 19 #[.pointer (some ⟨d, 0, none⟩), .string nm] w fun e w' => e = .returned (.tuple #[.string s, .int .i64 (c : Nat)]) ∧ w = w' := by
  refine (diskRead_any d room fs ft nm w h.1 hn).mono ?_
  rintro e w' ⟨rfl, rfl⟩
  rw [hc]; exact ⟨rfl, rfl⟩
end Go.Proofs.YthmblkckpdpjkaaGreatDoor
