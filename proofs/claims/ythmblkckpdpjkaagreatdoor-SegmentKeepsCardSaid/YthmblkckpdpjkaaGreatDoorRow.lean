/-
  The walk of frame.Row, of payloads that fit a frame.
-/
import Derived.Test.YthmblkckpdpjkaaGreatDoorScan
namespace Go.Proofs.YthmblkckpdpjkaaGreatDoor
open Go.RowKit Go.Shelf

/-- A cell of a row of strings. -/
theorem strAt {w : World} {v : Value} {ws : List (List UInt8)} (h : Cells w v 1 ws.length (strCells ws)) (i : Nat) (hi : i < ws.length) :
    ∃ b o c, v = .slice (some ⟨b, o, none⟩) ws.length c ∧ w.cell? ⟨b, o + i, none⟩ = some (.string ⟨ws[i].toArray⟩) := by
  rcases h.2 with ⟨h0, _⟩ | ⟨b, o, c, h1, h2⟩
  · omega
  · exact ⟨b, o, c, h1, h2 i _ (by simp [strCells, List.getElem?_eq_getElem hi])⟩
theorem cellsNil {w : World} {v : Value} {sz n : Nat} {xs : List Value} (h : Cells w v sz n xs) :
    (n = 0 ∧ ∃ a c, v = .slice a 0 c) ∨ ∃ b o c, v = .slice (some ⟨b, o, none⟩) n c := by
  rcases h.2 with ⟨h0, h1⟩ | ⟨b, o, c, h1, _⟩
  · exact .inl ⟨h0, h1⟩
  · exact .inr ⟨b, o, c, h1⟩
theorem flat_good : ∀ (ws : List (List UInt8)), (∀ p ∈ ws, Frm.good p) → (ws.flatMap Frm.framed).length ≤ 8008 * ws.length
  | [], _ => by simp
  | p :: ws, h => by
    have h1 := (h p (by simp)).2
    have h2 := flat_good ws (fun q hq => h q (by simp [hq]))
    rw [List.flatMap_cons, List.length_append, Frm.framed_len, List.length_cons]; omega

set_option maxHeartbeats 2000000 in
set_option maxRecDepth 100000 in
theorem row_any (v : Value) (ws : List (List UInt8)) (w : World) (hc : Cells w v 1 ws.length (strCells ws)) (hn : ws.length ≤ 1000000) (hx : ∀ p ∈ ws, Frm.good p) :
    Calls Tryz.prog 78 #[v] w fun e w' => ∃ r : ByteArray, e = .returned (.tuple #[.string r, .int .i64 0]) ∧ Hid (r.data.toList = ws.flatMap Frm.framed) ∧ Below w.heap.size w w' := by
  have HX := Lib.hid hx
  clear hx
  rcases cellsNil hc with ⟨h0, a0, c0, rfl⟩ | ⟨b, o, c, rfl⟩
  · have HW := Lib.hid (List.eq_nil_of_length_eq_zero h0)
    clear h0 hc
    go_enter Tryz.func78, Tryz.ntmps78
    go_wp2
    go_loopw [11] (fun lv wr => lv = .int .i64 0 ∧ Bld w.heap.size w.heap.size [] wr ∧ Below w.heap.size w wr) (fun _ _ => 0)
    case atStart => exact ⟨rfl, bld_fresh w, (Below.refl _ w).alloc (Nat.le_refl _) _⟩
    case round =>
      obtain ⟨rfl, hI, hbw⟩ := hrel
      have hbs := hbw.size
      go_wp2_with fail
      refine (bldString w.heap.size w.heap.size _ _ hI (by omega)).mono ?_
      rintro e w3 ⟨rfl, b3⟩
      go_wp2
      go_ret2
      exact ⟨_, rfl, by rw [HW.out]; rfl, hbw.trans b3⟩
  · go_enter Tryz.func78, Tryz.ntmps78
    go_wp2
    go_loopw [11] (fun lv wr => ∃ (i : Nat) (acc : List UInt8), lv = .int .i64 i ∧ Bld w.heap.size w.heap.size acc wr ∧ Below w.heap.size w wr ∧ acc ++ (ws.drop i).flatMap Frm.framed = ws.flatMap Frm.framed ∧ acc.length ≤ i * 8008 ∧ i ≤ ws.length) (fun lv _ => ws.length - (intOf lv).toNat)
    case atStart => exact ⟨0, [], rfl, bld_fresh w, (Below.refl _ w).alloc (Nat.le_refl _) _, rfl, by simp, by omega⟩
    case round =>
      obtain ⟨i, acc, rfl, hI, hbw, hacc, hal, hi⟩ := hrel
      have HA := Lib.hid hacc; clear hacc
      have hbs := hbw.size
      by_cases hp : i < ws.length
      · obtain ⟨b', o', c', hv, hcell⟩ := strAt hc i hp
        cases hv
        have hcell2 := cell_kept hbw (Nat.le_refl _) hcell
        have hgood := HX.out _ (List.getElem_mem hp)
        have hdr : ws.drop i = ws[i] :: ws.drop (i + 1) := List.drop_eq_getElem_cons hp
        obtain ⟨x, hx⟩ : ∃ x, ws[i] = x := ⟨_, rfl⟩
        rw [hx] at hcell2 hdr hgood
        obtain ⟨X, hX, hXl, hXs⟩ := str_of x
        rw [hX] at hcell2
        have hXm : X.size ≤ 1000000 := by have := hgood.2; omega
        have HP := Lib.hid (show Frm.put X.data.toList = (Frm.framed x, 0) by rw [hXl]; exact Frm.put_good hgood)
        have hfl : (Frm.framed x).length ≤ 8008 := by rw [Frm.framed_len]; have := hgood.2; omega
        have HN := Lib.hid (show (acc ++ Frm.framed x) ++ (ws.drop (i + 1)).flatMap Frm.framed = ws.flatMap Frm.framed by rw [← HA.out, hdr]; simp)
        clear hcell hdr hgood hx hX hXl hXs HA HX hc
        go_wp2_with fail
        refine (framePut_any X wr (by omega)).mono ?_
        rintro e w2 ⟨r, cc, rfl, HR, hr8, b2⟩
        have hR := HR.out
        rw [HP.out] at hR
        simp only [Prod.mk.injEq] at hR
        obtain ⟨hr, rfl⟩ := hR
        have hI2 := hI.next b2
        have hbw2 := Below.up hbw (Nat.le_refl _) b2
        have hs2 := hbw2.size
        rw [hr] at HN hfl
        rw [← Lib.size_eq] at hfl
        clear HR HP hr b2
        go_wp2_with fail
        refine (writeString w.heap.size w.heap.size acc r w2 hI2 (by omega) (by omega)).mono ?_
        rintro e w3 ⟨rfl, h3, b3, _⟩
        have hbw3 := hbw2.trans b3
        have hl3 : (acc ++ r.data.toList).length ≤ (i + 1) * 8008 := by rw [List.length_append, ← Lib.size_eq]; omega
        clear b3
        go_wp2
        exact ⟨⟨i + 1, _, by go_num, h3, hbw3, HN.out, hl3, by omega⟩, by simp [intOf]; omega⟩
      · obtain rfl : i = ws.length := by omega
        have HQ := Lib.hid (show acc = ws.flatMap Frm.framed by rw [← HA.out, List.drop_length]; simp)
        clear HA
        go_wp2_with fail
        refine (bldString w.heap.size w.heap.size _ _ hI (by omega)).mono ?_
        rintro e w3 ⟨rfl, b3⟩
        go_wp2
        go_ret2
        exact ⟨_, rfl, HQ.out, hbw.trans b3⟩
end Go.Proofs.YthmblkckpdpjkaaGreatDoor
