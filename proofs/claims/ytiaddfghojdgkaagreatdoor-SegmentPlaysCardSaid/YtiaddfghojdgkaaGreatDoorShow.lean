/-
  The walk of the law package's shown (layer 9).
-/
import Derived.Test.YtiaddfghojdgkaaGreatDoorSegs
import Derived.Test.YtiaddfghojdgkaaGreatDoorSegG
import Derived.Deep.RegionHeld3
namespace Go.Proofs.YtiaddfghojdgkaaGreatDoor
open Go.RowKit Go.Shelf

/-- A disk, the pair that names it; the world where the walk began. -/
def St (a : World) (P d : Nat) (mv : Value) (room : Int) (fs : List Dk.File) (w : World) : Prop :=
  ∃ ft : Nat → Prop, IsDisk w d room fs ft ∧ Base a w ft ∧ (∀ j, ft j → j < w.heap.size) ∧ PB P (.pointer (some ⟨d, 0, none⟩)) mv w ∧ ¬ ft P
theorem St.next {a : World} {P d : Nat} {mv : Value} {room : Int} {fs : List Dk.File} {w w' : World} (h : St a P d mv room fs w) (hb : Below w.heap.size w w') : St a P d mv room fs w' := by
  obtain ⟨ft, h1, h2, h3, h4, h5⟩ := h
  exact ⟨ft, h1.next hb, h2.next hb, fun j hj => Nat.lt_of_lt_of_le (h3 j hj) hb.size, h4.next hb, h5⟩
theorem St.step {a : World} {P d : Nat} {mv : Value} {room : Int} {fs' : List Dk.File} {ft : Nat → Prop} {w w' : World} (h2 : Base a w ft) (h4 : PB P (.pointer (some ⟨d, 0, none⟩)) mv w) (h5 : ¬ ft P) (hd : DStep d room fs' ft w w') : St a P d mv room fs' w' := by
  obtain ⟨f, q1, q2, q3, q4⟩ := hd.open
  have hP := (Array.getElem?_eq_some_iff.1 h4).1
  refine ⟨f, q1, h2.turn q4 q2, q3, (q4.block P hP h5).trans h4, fun h => ?_⟩
  rcases q2 P h with h | h
  · exact h5 h
  · omega
theorem St.env {a : World} {P d : Nat} {mv : Value} {room : Int} {fs : List Dk.File} {w : World} (h : St a P d mv room fs w) : Env w := by
  obtain ⟨ft, _, h2, _⟩ := h; exact h2.envW
theorem St.below {a : World} {P d : Nat} {mv : Value} {room : Int} {fs : List Dk.File} {w : World} (h : St a P d mv room fs w) : Below a.heap.size a w := by
  obtain ⟨ft, _, h2, _⟩ := h; exact h2.below
theorem St.cell {a : World} {P d : Nat} {mv : Value} {room : Int} {fs : List Dk.File} {w : World} (h : St a P d mv room fs w) : w.cell? ⟨P, 0, none⟩ = some (.pointer (some ⟨d, 0, none⟩)) := by
  obtain ⟨ft, _, _, _, h4, _⟩ := h; exact h4.cells.1
theorem create_st {a : World} {P d : Nat} {mv : Value} {room n first : Int} {fs fs' : List Dk.File} {c : Nat} {w : World} (h : St a P d mv room fs w) (hc : Seg.create room n first fs = (fs', c)) :
    Calls Tryz.prog 50 #[.pointer (some ⟨d, 0, none⟩), .int .i64 n, .int .i64 first] w fun e w' => e = .returned (.int .i64 (c : Nat)) ∧ St a P d mv room fs' w' := by
  obtain ⟨ft, h1, h2, h3, h4, h5⟩ := h
  refine (segCreate_any a d room n first fs ft w h2 h1).mono ?_
  rintro e w' ⟨rfl, hd⟩
  rw [hc] at hd ⊢
  exact ⟨rfl, St.step h2 h4 h5 hd⟩
theorem add_st {a : World} {P d : Nat} {mv : Value} {room n : Int} {fs fs' : List Dk.File} {c : Nat} {lv : Value} {qs : List EnX} {w : World} (h : St a P d mv room fs w) (hroom : room ≤ 1048576) (hq : Ents w lv qs) (hqn : qs.length ≤ 1000) (hc : Seg.addD room n (plainE qs) fs = (fs', c)) :
    Calls Tryz.prog 51 #[.pointer (some ⟨d, 0, none⟩), .int .i64 n, lv] w fun e w' => e = .returned (.int .i64 (c : Nat)) ∧ St a P d mv room fs' w' := by
  obtain ⟨ft, h1, h2, h3, h4, h5⟩ := h
  refine (segAdd_any a d room n fs ft lv qs w h2 h1 hroom hq hqn).mono ?_
  rintro e w' ⟨rfl, hd⟩
  rw [hc] at hd ⊢
  exact ⟨rfl, St.step h2 h4 h5 hd⟩
theorem load_st {a : World} {P d : Nat} {mv : Value} {room n : Int} {fs : List Dk.File} {g : Seg.Seg} {c : Nat} {w : World} (h : St a P d mv room fs w) (hroom : room ≤ 1048576) (hc : Seg.loadD n fs = (g, c)) :
    Calls Tryz.prog 15 #[.pointer (some ⟨d, 0, none⟩), .int .i64 n] w fun e w' => ∃ (v : Value) (ps : List EnX), e = .returned (.tuple #[.agg #[.int .i64 g.first, v, .bool g.torn], .int .i64 (c : Int)]) ∧ Hid (plainE ps = g.entries) ∧ Hid (NewEnts w.heap.size w' v ps) ∧ Below w.heap.size w w' ∧ St a P d mv room fs w' := by
  have hs := h
  obtain ⟨ft, h1, h2, h3, h4, h5⟩ := h
  refine (segLoad_any a d room n fs ft w h2 h1 hroom).mono ?_
  rintro e w' ⟨first, v, ps, torn, c', rfl, hl, hn, hb⟩
  have hl := hl.out
  rw [hc] at hl
  simp only [Prod.mk.injEq] at hl
  obtain ⟨rfl, rfl⟩ := hl
  exact ⟨v, ps, rfl, rfl, hn, hb, hs.next hb⟩

/-- .. and a segment that was read, at a block. -/
def StG (a : World) (P d : Nat) (mv : Value) (room : Int) (fs : List Dk.File) (G : Nat) (sv : Value) (w : World) : Prop :=
  ∃ ft : Nat → Prop, IsDisk w d room fs ft ∧ Base a w ft ∧ PB P (.pointer (some ⟨d, 0, none⟩)) mv w ∧ ¬ ft P ∧ SB G 5 sv false w ∧ ¬ ft G
theorem St.with {a : World} {P d : Nat} {mv : Value} {room : Int} {fs : List Dk.File} {w : World} {sv : Value} (h : St a P d mv room fs w) :
    StG a P d mv room fs w.heap.size sv ((w.alloc (.cells #[.int .i64 5, sv, .bool false] 38)).drew) := by
  obtain ⟨ft, h1, h2, h3, h4, h5⟩ := h
  have hb : Below w.heap.size w ((w.alloc (.cells #[.int .i64 5, sv, .bool false] 38)).drew) := ((Below.refl _ _).alloc (Nat.le_refl _) _).drew
  exact ⟨ft, h1.next hb, h2.next hb, h4.next hb, h5, heap_alloc_new w _, fun h => by have := h3 _ h; omega⟩
theorem StG.next {a : World} {P d G : Nat} {mv sv : Value} {room : Int} {fs : List Dk.File} {w w' : World} (h : StG a P d mv room fs G sv w) (hb : Below w.heap.size w w') : StG a P d mv room fs G sv w' := by
  obtain ⟨ft, h1, h2, h3, h4, h5, h6⟩ := h
  exact ⟨ft, h1.next hb, h2.next hb, h3.next hb, h4, h5.next hb, h6⟩
theorem StG.env {a : World} {P d G : Nat} {mv sv : Value} {room : Int} {fs : List Dk.File} {w : World} (h : StG a P d mv room fs G sv w) : Env w := by
  obtain ⟨ft, _, h2, _⟩ := h; exact h2.envW
theorem StG.below {a : World} {P d G : Nat} {mv sv : Value} {room : Int} {fs : List Dk.File} {w : World} (h : StG a P d mv room fs G sv w) : Below a.heap.size a w := by
  obtain ⟨ft, _, h2, _⟩ := h; exact h2.below
theorem StG.cells {a : World} {P d G : Nat} {mv sv : Value} {room : Int} {fs : List Dk.File} {w : World} (h : StG a P d mv room fs G sv w) :
    w.cell? ⟨P, 0, none⟩ = some (.pointer (some ⟨d, 0, none⟩)) ∧ w.cell? ⟨G, 0, none⟩ = some (.int .i64 5) ∧ w.cell? ⟨G, 1, none⟩ = some sv ∧ w.cell? ⟨G, 2, none⟩ = some (.bool false) := by
  obtain ⟨ft, _, _, h3, _, h5, _⟩ := h; exact ⟨h3.cells.1, h5.cells⟩
theorem add_stG {a : World} {P d G : Nat} {mv sv : Value} {room n : Int} {fs fs' : List Dk.File} {c : Nat} {lv : Value} {qs : List EnX} {w : World} (h : StG a P d mv room fs G sv w) (hroom : room ≤ 1048576) (hq : Ents w lv qs) (hqn : qs.length ≤ 1000) (hc : Seg.addD room n (plainE qs) fs = (fs', c)) :
    Calls Tryz.prog 51 #[.pointer (some ⟨d, 0, none⟩), .int .i64 n, lv] w fun e w' => e = .returned (.int .i64 (c : Nat)) ∧ StG a P d mv room fs' G sv w' := by
  obtain ⟨ft, h1, h2, h3, h4, h5, h6⟩ := h
  refine (segAdd_any a d room n fs ft lv qs w h2 h1 hroom hq hqn).mono ?_
  rintro e w' ⟨rfl, hd⟩
  rw [hc] at hd ⊢
  obtain ⟨f, q1, q2, q3, q4⟩ := hd.open
  have hP := (Array.getElem?_eq_some_iff.1 h3).1
  have hG := (Array.getElem?_eq_some_iff.1 h5).1
  refine ⟨rfl, f, q1, h2.turn q4 q2, (q4.block P hP h4).trans h3, fun h => ?_, (q4.block G hG h6).trans h5, fun h => ?_⟩
  · rcases q2 P h with h | h
    · exact h4 h
    · omega
  · rcases q2 G h with h | h
    · exact h6 h
    · omega

/-! What the examples come to. -/
theorem shown_plain : ∃ F1 F2 : List Dk.File, Seg.create 1000 1 5 [] = (F1, 0) ∧ Seg.addD 1000 1 [Seg.plainN 5 1, Seg.plainN 6 1] F1 = (F2, 0) ∧ Seg.loadD 1 F2 = (⟨5, [Seg.plainN 5 1, Seg.plainN 6 1], false⟩, 0) ∧ (Seg.addD 1000 1 [Seg.plainN 8 1] F2).2 = 11 := by
  have hf : Evt.follows [Seg.plainN 5 1, Seg.plainN 6 1] 4 0 = true :=
    Seg.follows_cons.2 ⟨rfl, by decide, Seg.plain_right 5 (by decide) (by decide), Seg.follows_cons.2 ⟨rfl, by decide, Seg.plain_right 6 (by decide) (by decide), rfl⟩⟩
  have hl0 : Seg.load (⟨(Seg.bytesH 5).toArray⟩ : ByteArray).data.toList = (⟨5, [], false⟩, 0) := by
    have := Seg.load_bytes 5 [] (by decide) (by decide) rfl
    rwa [Seg.bytesB_nil, List.append_nil] at this
  have hlen : (Seg.bytesB [Seg.plainN 5 1, Seg.plainN 6 1]).length ≤ 300 := by
    have h5 := Seg.plain_len 5
    have h6 := Seg.plain_len 6
    simp only [Seg.bytesB, List.map_cons, List.map_nil, List.flatMap_cons, List.flatMap_nil, List.append_nil, List.length_append, Frm.framed_len]
    omega
  have hh := Seg.bytesH_len 5
  have hhs : (⟨(Seg.bytesH 5).toArray⟩ : ByteArray).size ≤ 15 := by rw [Lib.size_eq]; exact hh
  have ha := Seg.add_one 1000 1 ⟨(Seg.bytesH 5).toArray⟩ (⟨(Seg.bytesH 5).toArray⟩ : ByteArray).size [Seg.plainN 5 1, Seg.plainN 6 1] _ (by decide) (by decide) hl0 rfl hf (by simp) (by omega)
  have hl2 : Seg.load ((⟨(Seg.bytesH 5).toArray⟩ : ByteArray) ++ ⟨(Seg.bytesB [Seg.plainN 5 1, Seg.plainN 6 1]).toArray⟩).data.toList = (⟨5, [Seg.plainN 5 1, Seg.plainN 6 1], false⟩, 0) := by
    have := Seg.load_bytes 5 [Seg.plainN 5 1, Seg.plainN 6 1] (by decide) (by decide) hf
    simpa using this
  refine ⟨_, _, Seg.create_one 1000 1 5 (by decide) (by decide) (by decide) (by decide) (by decide), ha, by rw [Seg.loadD_one]; exact hl2, ?_⟩
  exact Seg.add_gap 1000 1 _ _ _ _ hl2 rfl rfl
theorem name7 : Seg.nameOf 7 = [115, 101, 103, 45, 55] := by
  unfold Seg.nameOf; rw [if_pos (by decide)]
  rw [show Lib.decDigits (Int.toNat 7) = [UInt8.ofNat (48 + 7)] by rw [Lib.decDigits]; rfl]
  rfl
theorem number7 : Seg.numberOf [115, 101, 103, 45, 55] = 7 := by rw [← name7]; exact Seg.number_name 7 (by decide) (by decide)

theorem small_plain : Small [⟨[107], []⟩] := by
  intro e he
  rw [List.mem_singleton.1 he]; simp
theorem ents2 {w : World} {g5 g6 : Nat} (h5 : Evs w (.slice (some ⟨g5, 0, none⟩) 1 1) [⟨[107], []⟩]) (h6 : Evs w (.slice (some ⟨g6, 0, none⟩) 1 1) [⟨[107], []⟩]) :
    Ents (w.alloc (.cells #[.int .i64 5, .int .i64 1, .string ⟨#[115]⟩, .int .i64 0, .int .i64 1, .int .i64 1, .slice (some ⟨g5, 0, none⟩) 1 1, .int .i64 6, .int .i64 1, .string ⟨#[115]⟩, .int .i64 0, .int .i64 1, .int .i64 1, .slice (some ⟨g6, 0, none⟩) 1 1] 61)) (.slice (some ⟨w.heap.size, 0, none⟩) 2 2) [(Seg.plainN 5 1, .slice (some ⟨g5, 0, none⟩) 1 1), (Seg.plainN 6 1, .slice (some ⟨g6, 0, none⟩) 1 1)] := by
  have hb : ∀ o, Below w.heap.size w (w.alloc o) := fun o => (Below.refl _ _).alloc (Nat.le_refl _) _
  refine ⟨⟨rfl, .inr ⟨w.heap.size, 0, 2, rfl, fun j u hj => ?_⟩⟩, fun p hp => ?_⟩
  · rw [Nat.zero_add, Lib.cell_of_heap (heap_alloc_new w _)]
    simpa [enCells, Seg.plainN] using hj
  · simp only [List.mem_cons, List.not_mem_nil, or_false] at hp
    rcases hp with rfl | rfl
    · exact ⟨Cells.next h5 (hb _), by simp [Fine, Seg.plainN, small_plain]⟩
    · exact ⟨Cells.next h6 (hb _), by simp [Fine, Seg.plainN, small_plain]⟩
theorem ents1 {w : World} {g : Nat} (h : Evs w (.slice (some ⟨g, 0, none⟩) 1 1) [⟨[107], []⟩]) :
    Ents (w.alloc (.cells #[.int .i64 8, .int .i64 1, .string ⟨#[115]⟩, .int .i64 0, .int .i64 1, .int .i64 1, .slice (some ⟨g, 0, none⟩) 1 1] 61)) (.slice (some ⟨w.heap.size, 0, none⟩) 1 1) [(Seg.plainN 8 1, .slice (some ⟨g, 0, none⟩) 1 1)] := by
  have hb : ∀ o, Below w.heap.size w (w.alloc o) := fun o => (Below.refl _ _).alloc (Nat.le_refl _) _
  refine ⟨⟨rfl, .inr ⟨w.heap.size, 0, 1, rfl, fun j u hj => ?_⟩⟩, fun p hp => ?_⟩
  · rw [Nat.zero_add, Lib.cell_of_heap (heap_alloc_new w _)]
    simpa [enCells, Seg.plainN] using hj
  · simp only [List.mem_cons, List.not_mem_nil, or_false] at hp
    subst hp
    exact ⟨Cells.next h (hb _), by simp [Fine, Seg.plainN, small_plain]⟩

set_option maxHeartbeats 8000000 in
set_option maxRecDepth 100000 in
theorem shown_any (w : World) (hE : Env w) : Calls Tryz.prog 9 #[] w fun e w' => e = .returned (.bool true) ∧ Below w.heap.size w w' := by
  obtain ⟨F1, F2, q1, q2, q3, q4⟩ := shown_plain
  obtain ⟨F3, q5⟩ : ∃ F3, Seg.addD 1000 1 [Seg.plainN 8 1] F2 = (F3, 11) := ⟨_, Prod.ext rfl q4⟩
  have Q1 := Lib.hid q1; have Q2 := Lib.hid q2; have Q3 := Lib.hid q3; have Q4 := Lib.hid q5
  clear q1 q2 q3 q4 q5
  go_enter Tryz.func9, Tryz.ntmps9
  go_wp2_with fail
  refine (begun_any 1000 w (by decide) (by decide)).mono ?_
  rintro e w1 ⟨d, m, ft, rfl, hd, hft, _, _, b1⟩
  have st : St w w1.heap.size d (.pointer (some ⟨m, 0, none⟩)) 1000 [] (w1.alloc (.cells #[.pointer (some ⟨d, 0, none⟩), .pointer (some ⟨m, 0, none⟩)] 28)) :=
    ⟨ft, hd.next ((Below.refl _ _).alloc (Nat.le_refl _) _), ⟨hE, b1.alloc b1.size _, fun j hj => (hft j hj).1⟩, fun j hj => by have := (hft j hj).2; simp; omega, heap_alloc_new w1 _, fun h => by have := (hft _ h).2; omega⟩
  obtain ⟨W, hW⟩ : ∃ W, W = w1.alloc (.cells #[.pointer (some ⟨d, 0, none⟩), .pointer (some ⟨m, 0, none⟩)] 28) := ⟨_, rfl⟩
  have hSt : St w w1.heap.size d (.pointer (some ⟨m, 0, none⟩)) 1000 [] W.drew := by rw [hW]; exact st.next ((Below.refl _ _).drew)
  have HW := Lib.hid hW
  clear hd hft b1 st hW
  go_wp2
  rw [← HW.out]
  have hc0 := hSt.cell
  go_region_held3 (fun w' => w'.cell? ⟨w1.heap.size, 0, none⟩ = some (.pointer (some ⟨d, 0, none⟩)))
    (first | exact hSt.cell | exact hc0 | exact (hSt.next ((Below.refl _ _).alloc (Nat.le_refl _) _)).cell)
    (first
      | (go_at_call 50; refine (create_st hSt Q1.out).mono ?_; rintro e w' ⟨rfl, hSt⟩)
      | (go_at_call_of 52 (Value.int .i64 5); refine (plain_any 5 1 _).mono ?_; rintro e w' ⟨g5, rfl, hev5, hb⟩; have hSt := hSt.next hb; try (have hev6 := Cells.next hev6 hb))
      | (go_at_call_of 52 (Value.int .i64 6); refine (plain_any 6 1 _).mono ?_; rintro e w' ⟨g6, rfl, hev6, hb⟩; have hSt := hSt.next hb; try (have hev5 := Cells.next hev5 hb))
      | (go_at_call 51; refine (add_st (hSt.next ((Below.refl _ _).alloc (Nat.le_refl _) _)) (by decide) (ents2 hev5 hev6) (by simp) Q2.out).mono ?_; rintro e w' ⟨rfl, hSt⟩))
  go_wp2_with fail
  refine (load_st hSt (by decide) Q3.out).mono ?_
  rintro e w5 ⟨v, ps, rfl, hpe, hne, hb5, hSt5⟩
  have hl2 : ps.length = 1 + 1 := by have := congrArg List.length hpe.out; simpa [plainE] using this
  have hrow := hne.out.1
  rw [hl2] at hrow
  obtain ⟨gv, cv, rfl⟩ := ownsRow_succ hrow
  obtain ⟨W6, hW6⟩ : ∃ W6, W6 = w5.alloc (.cells #[.int .i64 5, .slice (some ⟨gv, 0, none⟩) (1 + 1) cv, .bool false] 38) := ⟨_, rfl⟩
  have hSt : StG w w1.heap.size d (.pointer (some ⟨m, 0, none⟩)) 1000 F2 w5.heap.size (.slice (some ⟨gv, 0, none⟩) (1 + 1) cv) W6.drew := by rw [hW6]; exact hSt5.with
  have hc0 := hSt.cells
  have HW6 := Lib.hid hW6
  have N7 := Lib.hid name7
  have M7 := Lib.hid number7
  clear hW6 hne hrow hb5 hSt5 hl2
  go_wp2
  rw [← HW6.out]
  have HN7 := fun (X : World) (h : Env X) => segName_any 7 X h
  rw [N7.out] at HN7
  have HM7 := fun (X : World) (h : Env X) => segNumber_any ⟨#[115, 101, 103, 45, 55]⟩ X h (by decide)
  rw [show Seg.numberOf (⟨#[115, 101, 103, 45, 55]⟩ : ByteArray).data.toList = 7 from M7.out] at HM7
  go_region_held3 (fun w' => w'.cell? ⟨w1.heap.size, 0, none⟩ = some (.pointer (some ⟨d, 0, none⟩)) ∧ w'.cell? ⟨w5.heap.size, 0, none⟩ = some (.int .i64 5) ∧ w'.cell? ⟨w5.heap.size, 1, none⟩ = some (.slice (some ⟨gv, 0, none⟩) (1 + 1) cv) ∧ w'.cell? ⟨w5.heap.size, 2, none⟩ = some (.bool false))
    (first | exact hSt.cells | exact hc0 | exact (hSt.next ((Below.refl _ _).alloc (Nat.le_refl _) _)).cells)
    (first
      | (go_at_call 52; refine (plain_any 8 1 _).mono ?_; rintro e w' ⟨g8, rfl, hev8, hb⟩; have hSt := hSt.next hb)
      | (go_at_call 51; refine (add_stG (hSt.next ((Below.refl _ _).alloc (Nat.le_refl _) _)) (by decide) (ents1 hev8) (by simp) Q4.out).mono ?_; rintro e w' ⟨rfl, hSt⟩)
      | (go_at_call 53; refine (HN7 _ hSt.env).mono ?_; rintro e w' ⟨rfl, hb⟩; have hSt := hSt.next hb)
      | (go_at_call 54; refine (HM7 _ hSt.env).mono ?_; rintro e w' ⟨rfl, hb⟩; have hSt := hSt.next hb))
  all_goals (go_wp2_with fail; go_ret; exact ⟨rfl, hSt.below⟩)
end Go.Proofs.YtiaddfghojdgkaaGreatDoor
