/-
  The walk of the law LogKeeps.
-/
import Derived.Test.YtbknlffebcbjfaaGreatDoorLogB
import Derived.Test.YtbknlffebcbjfaaGreatDoorOpenA
import Derived.Deep.CutBlock
namespace Go.Proofs.YtbknlffebcbjfaaGreatDoor
open Go.RowKit Go.Shelf

/-- Entries of a caller's, apart from what a log turns. -/
def RW (v : Value) (qs : List EnX) : (Nat → Prop) → World → Prop := fun X w => Apart X w v qs
theorem stable_rw (v : Value) (qs : List EnX) : Stable (RW v qs) := fun _ _ _ _ h ht hX => h.step ht hX
def RW2 (v : Value) (qs : List EnX) (v2 : Value) (ps : List EnX) : (Nat → Prop) → World → Prop := fun X w => Apart X w v qs ∧ Apart X w v2 ps
theorem stable_rw2 (v : Value) (qs : List EnX) (v2 : Value) (ps : List EnX) : Stable (RW2 v qs v2 ps) := fun _ _ _ _ h ht hX => ⟨h.1.step ht hX, h.2.step ht hX⟩
theorem apart_nil (X : Nat → Prop) (w : World) : Apart X w (.slice none 0 0) [] := ⟨⟨⟨rfl, .inl ⟨rfl, none, 0, rfl⟩⟩, fun p hp => (by cases hp)⟩, fun b hb => (by cases hb), fun p hp => (by cases hp)⟩
theorem LL.push {R R' : (Nat → Prop) → World → Prop} {a w0 w : World} {P lg d : Nat} {mv : Value} {room : Int} {s : Lg.S} {fs : List Dk.File} (h : LL R a P d mv room lg s fs w0) (hR : Stable R) (hb : Below w0.heap.size w0 w) (f : ∀ X, (∀ j, X j → j < w0.heap.size) → R X w → R' X w) : LL R' a P d mv room lg s fs w := by
  obtain ⟨T, X, h1, h2, h3, h4⟩ := h
  exact ⟨T, X, h1.next hb, h2.next hb, h3, f X h1.lt (hR X X w0 w h4 (Turn.of_below hb) (fun j hj => .inl hj))⟩
theorem LL.ents {a w : World} {v : Value} {qs : List EnX} {P lg d : Nat} {mv : Value} {room : Int} {s : Lg.S} {fs : List Dk.File} (h : LL (RW v qs) a P d mv room lg s fs w) : Ents w v qs := by
  obtain ⟨_, _, _, _, _, h4⟩ := h; exact h4.ents
theorem LL.ents2 {a w : World} {v v2 : Value} {qs ps : List EnX} {P lg d : Nat} {mv : Value} {room : Int} {s : Lg.S} {fs : List Dk.File} (h : LL (RW2 v qs v2 ps) a P d mv room lg s fs w) : Ents w v qs ∧ Ents w v2 ps := by
  obtain ⟨_, _, _, _, _, h4⟩ := h; exact ⟨h4.1.ents, h4.2.ents⟩
theorem Apart.takeV {X : Nat → Prop} {w : World} {va : Option Addr} {c m : Nat} {q : List EnX} (h : Apart X w (.slice va q.length c) q) (hm : m ≤ q.length) : Apart X w (.slice va m c) (q.take m) :=
  ⟨ents_takeV h.ents hm, fun b hb hne => h.row b (by cases va <;> exact hb) (fun e => hne (by rw [e, List.take_nil])), fun p hp => h.out p (List.mem_of_mem_take hp)⟩
theorem keep_turn {a w : World} {kv : Value} {ks : List Int} (hc : Cells a kv 1 ks.length (intCells ks)) (hb : Below a.heap.size a w) : ∀ X : Nat → Prop, (∀ j, X j → a.heap.size ≤ j) → ∀ W, Turn X w W → Cells W kv 1 ks.length (ks.map fun n => Value.int .i64 n) := by
  intro X hX W ht
  rcases hc.2 with ⟨h0, x, c, e⟩ | ⟨b, o, c, e, h2⟩
  · exact ⟨hc.1, .inl ⟨h0, x, c, e⟩⟩
  · by_cases h0 : ks.length = 0
    · exact ⟨hc.1, .inl ⟨h0, some ⟨b, o, none⟩, c, by rw [e, h0]⟩⟩
    · refine cells_turn (Cells.next hc hb) (fun b' hb' hx => ?_) ht
      subst e
      cases hb'
      cases ks with
      | nil => exact absurd rfl h0
      | cons k ks =>
        have := World.block_lt_of_cell? _ _ (h2 0 (.int .i64 k) rfl)
        have := hX _ hx
        simp only at *
        omega
/-- Behind so many acts of LogKeeps: the log, and what is wanted of it. -/
def KI (i : Nat) (a : World) (P d : Nat) (mv : Value) (room : Int) (lv wv : Value) (w : World) : Prop :=
  ∃ (lg : Nat) (next : Int) (nums : List Int) (fs : List Dk.File) (qs : List EnX) (va : Option Addr) (vc : Nat), lv = .pointer (some ⟨lg, 0, none⟩) ∧ wv = .slice va qs.length vc ∧ qs.length ≤ vc ∧ (va = none ∧ vc = 0 ∨ ∃ b o, va = some ⟨b, o, none⟩) ∧
    Hid (Lg.Kept i next nums (plainE qs) fs) ∧ Hid (LL (RW (.slice va qs.length vc) qs) a P d mv room lg (Lg.stateOf next nums (plainE qs)) fs w)
theorem plainE_len (qs : List EnX) : (plainE qs).length = qs.length := by simp [plainE]
theorem plainE_app (ps ms : List EnX) : plainE (ps ++ ms) = plainE ps ++ plainE ms := by simp [plainE]
theorem plainE_tk (ps : List EnX) (n : Nat) : plainE (ps.take n) = (plainE ps).take n := by simp [plainE, List.map_take]
/-- What is wanted with more of a new row. -/
theorem apart_both {X : Nat → Prop} {w : World} {v v2 v3 : Value} {qs ps : List EnX} {j base : Nat} (h : Apart X w v qs ∧ Apart X w v2 ps) (hX : ∀ k, X k → k < base) (ho : w.ownsRow base 58 7 v3 (qs.length + j) (enCells qs ++ enCells (ps.take j))) (hj : j ≤ ps.length) : Apart X w v3 (qs ++ ps.take j) := by
  have hl : (qs ++ ps.take j).length = qs.length + j := by rw [List.length_append, List.length_take]; omega
  refine ⟨⟨by rw [hl, enCells_append]; exact cells_of_owns ho, fun p hp => ?_⟩, fun b hb _ hx => ?_, fun p hp => ?_⟩
  · rcases List.mem_append.1 hp with hp | hp
    · exact h.1.ents.2 p hp
    · exact h.2.ents.2 p (List.mem_of_mem_take hp)
  · have := (ho.lt b hb).1; have := hX b hx; omega
  · rcases List.mem_append.1 hp with hp | hp
    · exact h.1.out p hp
    · exact h.2.out p (List.mem_of_mem_take hp)
theorem own_form {w : World} {base n sz : Nat} {e : TypeId} {v : Value} {xs : List Value} (h : w.ownsRow base e sz v n xs) : ∃ va vc, v = .slice va n vc ∧ n ≤ vc ∧ (va = none ∧ vc = 0 ∨ ∃ b o, va = some ⟨b, o, none⟩) := by
  rcases h.2 with ⟨rfl, rfl⟩ | ⟨g, cap, cur, rfl, _, _, h2, _⟩
  · exact ⟨none, 0, rfl, Nat.le_refl _, .inl ⟨rfl, rfl⟩⟩
  · exact ⟨_, cap, rfl, h2, .inr ⟨g, 0, rfl⟩⟩
theorem Lg.round_less {i n : Nat} (h : i < n) : Value.int .i64 ((i : Int) + 1) = .int .i64 ((i + 1 : Nat) : Int) ∧ i + 1 ≤ n ∧ n - (intOf (.int .i64 ((i : Int) + 1))).toNat < n - (intOf (.int .i64 (i : Int))).toNat := by
  refine ⟨rfl, h, ?_⟩
  show n - ((i : Int) + 1).toNat < n - ((i : Int)).toNat
  omega
theorem KI.mk_app {a w0 w : World} {P d lg i j : Nat} {mv v3 : Value} {rm next : Int} {nums : List Int} {fs : List Dk.File} {qs ps : List EnX} {v v2 : Value} (hL : LL (RW2 v qs v2 ps) a P d mv rm lg (Lg.stateOf next nums (plainE qs ++ (plainE ps).take j)) fs w0) (hb : Below w0.heap.size w0 w)
    (ho : w.ownsRow w0.heap.size 58 7 v3 (0 + qs.length + j) ([] ++ enCells qs ++ enCells (ps.take j))) (hj : j ≤ ps.length) (hK : Lg.Kept i next nums (plainE qs ++ (plainE ps).take j) fs) : KI i a P d mv rm (.pointer (some ⟨lg, 0, none⟩)) v3 w := by
  rw [Nat.zero_add, List.nil_append] at ho
  have hl : (qs ++ ps.take j).length = qs.length + j := by rw [List.length_append, List.length_take]; omega
  obtain ⟨va3, vc3, rfl, hc, hv⟩ := own_form ho
  refine ⟨lg, next, nums, fs, qs ++ ps.take j, va3, vc3, rfl, by rw [hl], by rw [hl]; exact hc, hv, Lib.hid (by rw [plainE_app, plainE_tk]; exact hK), Lib.hid ?_⟩
  rw [plainE_app, plainE_tk, hl]
  exact LL.push hL (stable_rw2 _ _ _ _) hb (fun X hX h => apart_both h hX ho hj)
theorem KI.mk_take {a w : World} {P d lg i m vc : Nat} {mv : Value} {va : Option Addr} {rm next : Int} {nums : List Int} {fs : List Dk.File} {qs : List EnX} (hL : LL (RW (.slice va qs.length vc) qs) a P d mv rm lg (Lg.stateOf next nums ((plainE qs).take m)) fs w) (hm : m ≤ qs.length) (hc : qs.length ≤ vc)
    (hv : va = none ∧ vc = 0 ∨ ∃ b o, va = some ⟨b, o, none⟩) (hK : Lg.Kept i next nums ((plainE qs).take m) fs) : KI i a P d mv rm (.pointer (some ⟨lg, 0, none⟩)) (.slice va m vc) w := by
  have hl : (qs.take m).length = m := by rw [List.length_take]; omega
  refine ⟨lg, next, nums, fs, qs.take m, va, vc, rfl, by rw [hl], by rw [hl]; omega, hv, Lib.hid (by rw [plainE_tk]; exact hK), Lib.hid ?_⟩
  rw [plainE_tk, hl]
  exact LL.push hL (stable_rw _ _) (Below.refl _ _) (fun X _ h => Apart.takeV h hm)
set_option maxHeartbeats 16000000 in
set_option maxRecDepth 100000 in
theorem logKeeps_any (room : Int) (v : Value) (acts : List ActX) (w : World) (hE : Env w) (h1 : -9223372036854775808 ≤ room ∧ room ≤ 9223372036854775807) (hs : ActsR w v acts) :
    Calls Tryz.prog 5 #[.int .i64 room, v] w fun e w' => e = .returned (.bool true) ∧ Below w.heap.size w w' := by
  obtain ⟨aa, ac, rfl⟩ := cells_len hs.1
  have HS := Lib.hid (shown11_any w hE)
  have HE := Lib.hid hE
  have HA := Lib.hid hs
  clear hE hs
  go_enter Tryz.func5, Tryz.ntmps5
  go_wp2_with fail
  refine HS.out.mono ?_
  rintro e w0 ⟨rfl, b0⟩
  have HSM := Lib.hid (small11_any (.slice aa acts.length ac) acts w0 (HA.out.next b0))
  have HB0 := Lib.hid b0
  clear HS b0
  go_wp2_with fail
  refine HSM.out.mono ?_
  rintro e wb ⟨rfl, b1⟩
  have HB1 := Lib.hid (Below.up HB0.out (Nat.le_refl _) b1)
  have HPK := Lib.hid (pick11_any room 9000 wb h1.1 h1.2 (by decide) (by decide))
  clear HSM HB0 b1 h1
  go_wp2_with fail
  refine HPK.out.mono ?_
  rintro e wp ⟨⟨r, rfl, hr⟩, rfl⟩
  have hw0 : wrap64 (2000 + (r : Int)) = 2000 + (r : Int) := IntWalk.wrap64_in _ (by omega)
  obtain ⟨rm, hrm⟩ : ∃ rm : Int, 2000 + (r : Int) = rm := ⟨_, rfl⟩
  rw [hrm] at hw0
  have HRM := Lib.hid (show 1 ≤ rm ∧ rm ≤ 1048576 by omega)
  have HBG := Lib.hid (begun11_any rm wp (by omega) (by omega))
  clear HPK
  go_wp2_with fail
  refine HBG.out.mono ?_
  rintro e w1 ⟨d, m, ft, rfl, hd, hft, _, _, b1⟩
  obtain ⟨W, hW⟩ : ∃ W, W = w1.alloc (.cells #[.pointer (some ⟨d, 0, none⟩), .pointer (some ⟨m, 0, none⟩)] 48) := ⟨_, rfl⟩
  have bp : Below w1.heap.size w1 W := by rw [hW]; exact (Below.refl _ _).alloc (Nat.le_refl _) _
  have hP : PB11 w1.heap.size (.pointer (some ⟨d, 0, none⟩)) (.pointer (some ⟨m, 0, none⟩)) W := by rw [hW]; exact heap_alloc_new w1 _
  have hlt : ∀ j, ft j → j < W.heap.size := fun j hj => Nat.lt_of_lt_of_le (hft j hj).2 bp.size
  have hbW : Below w.heap.size w W := Below.up (Below.up HB1.out (Nat.le_refl _) b1) (Nat.le_refl _) bp
  have HO := Lib.hid (open0 (R := RW (.slice none 0 0) []) (a := w) ⟨HE.out, hbW, fun j hj => Nat.le_trans HB1.out.size (hft j hj).1⟩ (hd.next bp) hlt hP (fun h => by have := (hft _ h).2; omega) (stable_rw _ _) (apart_nil _ _) HRM.out.2)
  obtain ⟨c0, _⟩ := hP.cells
  have HW := Lib.hid hW
  have HBW := Lib.hid hbW
  clear HBG hd hft b1 bp hP hlt hW hbW hr hrm hw0
  cases hsm : smallL acts with
  | false =>
    clear hsm
    go_wp2
    go_ret
    rw [← HW.out]
    exact ⟨rfl, HBW.out⟩
  | true =>
    have HSL := Lib.hid (show acts.length ≤ 30 ∧ ∀ p ∈ acts, p.1.keep.length ≤ 40 by
      unfold smallL at hsm
      simp only [Bool.and_eq_true, decide_eq_true_eq, List.all_eq_true, smallA] at hsm
      exact ⟨hsm.1, fun p hp => (hsm.2 p hp).2⟩)
    clear hsm
    go_wp2_with fail
    rw [← HW.out]
    refine HO.out.mono ?_
    rintro e w2 ⟨lg, rfl, hL2⟩
    have HL2 := Lib.hid hL2
    clear HO hL2 c0
    go_wp2_with fail
    go_loopw [9, 11, 12] (fun lv wv iv wr => ∃ i : Nat, iv = .int .i64 i ∧ i ≤ acts.length ∧ KI i w w1.heap.size d (.pointer (some ⟨m, 0, none⟩)) rm lv wv wr) (fun _ _ iv _ => acts.length - (intOf iv).toNat)
    case atStart => exact ⟨0, rfl, by omega, lg, 1, [], [], [], none, 0, rfl, rfl, Nat.le_refl _, .inl ⟨rfl, rfl⟩, Lib.hid Lg.kept_start, HL2⟩
    case round =>
      obtain ⟨i, rfl, hi, hKI⟩ := hrel
      by_cases hp : i < acts.length
      · obtain ⟨lg, next, nums, fs, qs, va, vc, rfl, rfl, hqc, hva, HK, HL⟩ := hKI
        obtain ⟨⟨⟨o, n, m2, t, ks⟩, kv⟩, hx⟩ : ∃ x, acts[i] = x := ⟨_, rfl⟩
        obtain ⟨b, f, c, ka, kc, hv, rfl, k0, k1, k2, k3, k4, hk, hkb, ho, hn, hm⟩ := actAt (HA.out.next HL.out.below) i hp hx
        cases hv
        have hKE := HA.out.2 acts[i] (List.getElem_mem hp)
        have hkl := HSL.out.2 acts[i] (List.getElem_mem hp)
        rw [hx] at hKE hkl
        have HKV := Lib.hid (And.intro hKE.1.1 (And.intro hkl hkb))
        have hi30 : i < 30 := by have := HSL.out.1; omega
        have hql := HK.out.len
        rw [plainE_len] at hql
        have hql : qs.length ≤ 360 := by omega
        obtain ⟨W1, hW1⟩ : ∃ W1, W1 = wr.alloc (.cells #[.int .i64 o, .int .i64 n, .int .i64 m2, .string t, .slice ka ks.length kc] 72) := ⟨_, rfl⟩
        have bA : Below wr.heap.size wr W1 := by rw [hW1]; exact (Below.refl _ _).alloc (Nat.le_refl _) _
        have hG : W1.heap[wr.heap.size]? = some (.cells #[.int .i64 o, .int .i64 n, .int .i64 m2, .string t, .slice ka ks.length kc] 72 (0, 0)) := by rw [hW1]; exact heap_alloc_new wr _
        have HL1 := Lib.hid (HL.out.next (stable_rw _ _) bA)
        have g0 : W1.cell? ⟨wr.heap.size, 0, none⟩ = some (.int .i64 o) := by rw [Lib.cell_of_heap hG]; rfl
        have g1 : W1.cell? ⟨wr.heap.size, 1, none⟩ = some (.int .i64 n) := by rw [Lib.cell_of_heap hG]; rfl
        have g4 : W1.cell? ⟨wr.heap.size, 4, none⟩ = some (.slice ka ks.length kc) := by rw [Lib.cell_of_heap hG]; rfl
        have HPK := Lib.hid (pick11_any o 6 W1 ho.1 ho.2 (by decide) (by decide))
        have HNM := Lib.hid (And.intro hn hm)
        have HW1 := Lib.hid hW1
        clear hx hk hkb ho hn hm hKE hkl bA hG hW1 HL
        go_upto_region 14 with fail
        rw [← HW1.out]
        have HI := Lib.hid (And.intro hi (And.intro hp hi30))
        clear hi hp hi30
        go_wp2_with fail
        refine HPK.out.mono ?_
        rintro e w3 ⟨⟨k, rfl, hk6⟩, rfl⟩
        clear HPK HW1
        go_upto_block 2 with fail
        go_cut [9, 11] (fun lv wv wx => KI (i + 1) w w1.heap.size d (.pointer (some ⟨m, 0, none⟩)) rm lv wv wx)
        case first =>
          by_cases hk3 : k < 4
          · go_upto_if 68 with fail
            go_cut [68] (fun v wx => v = .bool true ∧ wx = w3)
            case first =>
              have hk4 : k = 0 ∨ k = 1 ∨ k = 2 ∨ k = 3 := by omega
              rcases hk4 with rfl | rfl | rfl | rfl
              all_goals go_wp2
              all_goals go_meet
              all_goals exact ⟨rfl, rfl⟩
            case rest =>
              obtain ⟨rfl, rfl⟩ := hcut
              go_upto_region 19 with fail
              have HPK := Lib.hid (pick11_any n 12 wc HNM.out.1.1 HNM.out.1.2 (by decide) (by decide))
              have hw1 : wrap64 (1 + (i : Int)) = 1 + (i : Int) := IntWalk.wrap64_in _ (by have := HI.out.2.2; omega)
              clear g0 g4 k0 k1 k2 k3 k4
              go_wp2_with fail
              refine HPK.out.mono ?_
              rintro e w4 ⟨⟨j0, rfl, hj0⟩, rfl⟩
              obtain ⟨f2, next2, nums2, j, c, q1, q2, q3, q4⟩ := HK.out.app rm (n := j0) (by have := HI.out.2.2; omega) (by omega)
              rw [plainE_len] at q1 q2
              have HQ := Lib.hid (And.intro q1 (And.intro q2 (And.intro q3 q4)))
              clear q1 q2 q3 q4 HPK g1
              have HRW := Lib.hid (row11_any (qs.length : Int) (1 + (i : Int)) j0 w4 (by omega) (by omega) (by omega))
              go_wp2_with fail
              refine HRW.out.mono ?_
              rintro e w5 ⟨v5, ps, rfl, hpl, hnr, b5⟩
              obtain ⟨pa, pc, rfl, hpc, _⟩ := own_form hnr.out.1
              obtain rfl : j0 = ps.length := ((plain_length hpl.out).trans (Lg.rowL_len _ _ j0)).symm
              have HL5 := Lib.hid (LL.push (R' := RW2 (.slice va qs.length vc) qs (.slice pa ps.length pc) ps) HL1.out (stable_rw _ _) b5 (fun X hX h => ⟨h, new_apart hX hnr.out⟩))
              rw [← hpl.out] at HQ
              have HAP := Lib.hid (append_R (s' := Lg.stateOf next2 nums2 (plainE qs ++ (plainE ps).take j)) (fs' := f2) (c := c) HL5.out (stable_rw2 _ _ _ _) (fun X hX h => h.2) HRM.out.2 (Lg.stateOf_bk HK.out.holds _ (by rw [plainE_len]; omega)) hpc (by omega) HQ.out.1)
              clear HRW hpl hnr b5 HL5
              go_wp2_with fail
              refine HAP.out.mono ?_
              rintro e w6 ⟨rfl, hL6⟩
              have hj1 := HQ.out.2.2.1
              have hes : (Lg.stateOf next2 nums2 (plainE qs ++ (plainE ps).take j)).es.length = qs.length + j := by
                show (plainE qs ++ (plainE ps).take j).length = _
                rw [List.length_append, List.length_take, plainE_len, plainE_len]; omega
              have HLA := last_ll hL6
              rw [hes] at HLA
              obtain ⟨M, hM⟩ : ∃ M, qs.length + j = M := ⟨_, rfl⟩
              rw [hM] at HLA
              have HLA := Lib.hid HLA
              have HL6 := Lib.hid hL6
              have hw2 : wrap64 ((M : Int) - (qs.length : Int)) = (j : Int) := (IntWalk.wrap64_in _ (by omega)).trans (by omega)
              have hj2 : ¬ (j : Int) < 0 := by omega
              have hj3 : ¬ (ps.length : Int) < (j : Int) := by omega
              have hj4 : j ≤ pc := by omega
              have hj5 : j ≤ 12 := by omega
              have HJ := Lib.hid hj1
              have HDB := Lib.hid (show (decide ((j : Int) < 0) || decide (ps.length < j)) = false by rw [decide_eq_false hj2, decide_eq_false (by omega)]; rfl)
              clear HAP hL6 hes hj1 hj0 hM
              go_wp2_with fail
              refine HLA.out.mono ?_
              rintro e w7 ⟨rfl, rfl⟩
              clear HLA
              go_upto_region 22 with fail
              go_cut [15, 16, 118] (fun fv nv v wx => fv = .int .i64 (c : Int) ∧ nv = .int .i64 (j : Int) ∧ v = .bool false ∧ wx = w6)
              case first =>
                rcases HQ.out.2.2.2 with ⟨rfl, rfl⟩ | rfl | rfl
                all_goals go_wp2
                all_goals go_meet
                all_goals first | exact ⟨rfl, rfl, rfl, rfl⟩ | exact ⟨rfl, rfl, congrArg Value.bool HDB.out, rfl⟩
              case rest =>
                obtain ⟨rfl, rfl, rfl, rfl⟩ := hcut
                go_upto_region 24 with fail
                have HEN := Lib.hid HL6.out.ents2
                have hu1 := enCells_ones (fun p hp => (HEN.out.1.2 p hp).1)
                have hu2 := enCells_ones (q := ps.take j) (fun p hp => (HEN.out.2.2 p (List.mem_of_mem_take hp)).1)
                have HU := Lib.hid (And.intro hu1 hu2)
                have HX2 := Lib.hid (ents_takeV HEN.out.2 HJ.out).1
                have hjl : (ps.take j).length = j := by rw [List.length_take]; have := HJ.out; omega
                rw [hjl] at HX2
                clear hu1 hu2 hjl
                go_region_law (first
                  | (refine step_append_at rfl _ _ rfl enT wc.heap.size _ 0 [] rfl (owns_fresh wc.drew _ 58 7 (Nat.le_refl _)) _ qs.length (enCells qs) rfl (Cells.next HEN.out.1.1 ((Below.refl _ wc).drew.alloc (Nat.le_refl _) _)) HU.out.1 (by omega) (by simp) ?_
                     intro v1 wa hown1 hg1 hb1
                     have hBw1 := Lib.hid (((Below.refl _ wc).drew.alloc (Nat.le_refl _) (.cells #[] 58)).grown hg1 (by simp) (fun k hk => by cases hk; exact Nat.le_refl _))
                     have hOwn1 := Lib.hid hown1
                     clear hown1 hg1 hb1)
                  | (refine step_append_at rfl _ _ rfl enT wc.heap.size v1 _ _ rfl hOwn1.out _ j (enCells (ps.take j)) rfl (Cells.next HX2.out hBw1.out) HU.out.2 (by omega) hBw1.out.size ?_
                     intro v2 wb hown2 hg2 hb2
                     have hBw2 := Lib.hid (hBw1.out.grown hg2 hBw1.out.size (fun k hk => (hOwn1.out.lt k hk).1))
                     have hOwn2 := Lib.hid hown2
                     clear hown2 hg2 hb2))
                all_goals go_wp2
                all_goals go_meet
                all_goals exact KI.mk_app HL6.out hBw2.out hOwn2.out HJ.out HQ.out.2.1
          · by_cases hk4 : k = 4
            · subst hk4
              go_upto_region 26 with fail
              have HPK := Lib.hid (pick11_any n ((qs.length : Int) + 1) w3 HNM.out.1.1 HNM.out.1.2 (by omega) (by omega))
              have hw1 : wrap64 ((qs.length : Int) + 1) = (qs.length : Int) + 1 := IntWalk.wrap64_in _ (by omega)
              clear g0 g4 k0 k1 k2 k3 k4
              go_wp2_with fail
              refine HPK.out.mono ?_
              rintro e w4 ⟨⟨t0, rfl, ht0⟩, rfl⟩
              obtain ⟨f2, nums2, m3, c, q1, q2, q3, q4⟩ := HK.out.cut rm t0 (by rw [plainE_len]; omega)
              rw [plainE_len] at q3
              have HTR := Lib.hid (trunc_ll HL1.out (stable_rw _ _) HRM.out.2 (Lg.stateOf_bk HK.out.holds 0 (by rw [plainE_len]; omega)).bounded (by omega) (by omega) q1)
              have HQ := Lib.hid (And.intro q2 q4)
              have ht2 : t0 ≤ qs.length := by omega
              clear q1 q2 q4 HPK g1 ht0
              go_wp2_with fail
              refine HTR.out.mono ?_
              rintro e w5 ⟨rfl, hL5⟩
              have HL5 := Lib.hid hL5
              clear HTR hL5
              by_cases hc : c = 0
              · obtain ⟨rfl, rfl⟩ : c = 0 ∧ m3 = t0 := by have := HQ.out.2; omega
                clear hc
                rcases hva with ⟨rfl, rfl⟩ | ⟨vb, vo, rfl⟩
                · obtain rfl : qs = [] := List.eq_nil_of_length_eq_zero (by omega)
                  obtain rfl : m3 = 0 := by simpa using q3
                  go_wp2
                  go_meet
                  exact KI.mk_take HL5.out (by simp) (by simp) (.inl ⟨rfl, rfl⟩) HQ.out.1
                · have ht3 : m3 ≤ vc := by omega
                  go_wp2
                  go_meet
                  exact KI.mk_take HL5.out q3 hqc (.inr ⟨_, _, rfl⟩) HQ.out.1
              · obtain rfl : c = 8 := by have := HQ.out.2; omega
                have hes : (Lg.stateOf next nums2 ((plainE qs).take m3)).es.length = m3 := by
                  show ((plainE qs).take m3).length = _
                  rw [List.length_take, plainE_len]; omega
                have HLA := last_ll HL5.out
                rw [hes] at HLA
                have HLA := Lib.hid HLA
                have hmin : min (qs.length : Int) (m3 : Int) = (m3 : Int) := by omega
                clear hes hc
                rcases hva with ⟨rfl, rfl⟩ | ⟨vb, vo, rfl⟩
                · obtain rfl : qs = [] := List.eq_nil_of_length_eq_zero (by omega)
                  obtain rfl : m3 = 0 := by simpa using q3
                  clear hmin
                  go_wp2_with fail
                  refine HLA.out.mono ?_
                  rintro e w6 ⟨rfl, rfl⟩
                  go_wp2
                  go_meet
                  exact KI.mk_take HL5.out (by simp) (by simp) (.inl ⟨rfl, rfl⟩) HQ.out.1
                · have ht3 : m3 ≤ vc := by omega
                  go_wp2_with fail
                  refine HLA.out.mono ?_
                  rintro e w6 ⟨rfl, rfl⟩
                  go_wp2
                  go_meet
                  exact KI.mk_take HL5.out q3 hqc (.inr ⟨_, _, rfl⟩) HQ.out.1
            · obtain rfl : k = 5 := by omega
              go_upto_region 32 with fail
              have c5 := HL1.out.cell
              have HCR := crash_ll (ks := ks) (kv := .slice ka ks.length kc) HL1.out (stable_rw _ _) (keep_turn HKV.out.1 HL1.out.below) (by have := HKV.out.2.1; omega) HKV.out.2.2
              rw [HK.out.holds.crash ks] at HCR
              have HCR := Lib.hid HCR
              clear g0 g1 k0 k1 k2 k3 k4
              go_wp2_with fail
              refine HCR.out.mono ?_
              rintro e w4 ⟨rfl, hL4⟩
              have c4 := hL4.cell
              have HO := Lib.hid (openH hL4 HK.out.holds (stable_rw _ _) HRM.out.2 (by rw [plainE_len]; omega))
              clear HCR hL4 c5 g4
              go_wp2_with fail
              refine HO.out.mono ?_
              rintro e w5 ⟨lg2, rfl, hL5⟩
              have HL5 := Lib.hid hL5
              clear HO hL5 c4
              go_wp2
              go_meet
              exact ⟨lg2, next, nums, fs, qs, va, vc, rfl, rfl, hqc, hva, Lib.hid HK.out.idle, HL5⟩
        case rest =>
          clear HL1 g0 g1 g4 k0 k1 k2 k3 k4 HK hqc hva hql
          obtain ⟨lg2, next2, nums2, fs2, qs2, va2, vc2, rfl, rfl, hqc2, hva2, HK2, HLz⟩ := hcut
          have hq2 : qs2.length ≤ 372 := by
            have := HK2.out.len
            rw [plainE_len] at this
            have := HI.out.2.2
            omega
          have HRG := range_ll 1 1000 HLz.out (by show (plainE qs2).length ≤ 1000000; rw [plainE_len]; omega)
          rw [show Lg.rangeL 1 1000 (Lg.stateOf next2 nums2 (plainE qs2)).es = plainE qs2 from Lg.range_all (L := plainE qs2) (by rw [plainE_len]; omega)] at HRG
          have HRG := Lib.hid HRG
          go_wp2_with fail
          refine HRG.out.mono ?_
          rintro e w4 ⟨ra, qs3, rc, rfl, hpl, hEn, b4⟩
          have hL4 := HLz.out.next (stable_rw _ _) b4
          have HSR := Lib.hid (sameRow6_any (.slice ra qs3.length rc) (.slice va2 qs2.length vc2) qs3 qs2 w4 hEn.out hL4.ents hpl.out (by rw [plain_length hpl.out]; show (plainE qs2).length ≤ _; rw [plainE_len]; omega))
          have HL4 := Lib.hid hL4
          clear HRG hpl hEn b4 hL4
          go_wp2_with fail
          refine HSR.out.mono ?_
          rintro e w5 ⟨rfl, b5⟩
          have hL5 := HL4.out.next (stable_rw _ _) b5
          have HLA := last_ll hL5
          rw [show (Lg.stateOf next2 nums2 (plainE qs2)).es.length = qs2.length from plainE_len qs2] at HLA
          have HLA := Lib.hid HLA
          have HL5 := Lib.hid hL5
          clear HSR b5 hL5
          go_wp2_with fail
          refine HLA.out.mono ?_
          rintro e w6 ⟨rfl, rfl⟩
          have hw1 : wrap64 ((i : Int) + 1) = (i : Int) + 1 := IntWalk.wrap64_in _ (by have := HI.out.2.2; omega)
          have hi30 : i < 30 := HI.out.2.2
          have HR := Lib.hid (Lg.round_less (i := i) (n := acts.length) HI.out.2.1)
          have HKI := Lib.hid (show KI (i + 1) w w1.heap.size d (.pointer (some ⟨m, 0, none⟩)) rm (.pointer (some ⟨lg2, 0, none⟩)) (.slice va2 qs2.length vc2) w5 from ⟨lg2, next2, nums2, fs2, qs2, va2, vc2, rfl, rfl, hqc2, hva2, HK2, HL5.out⟩)
          clear HLA hqc2 hva2 HK2 HL5 hq2 HL4 HLz
          go_wp2
          exact ⟨⟨i + 1, HR.out.1, HR.out.2.1, HKI.out⟩, HR.out.2.2⟩
      · obtain ⟨lg, next, nums, fs, qs, va, vc, rfl, rfl, _, _, _, HL⟩ := hKI
        have HB := Lib.hid HL.out.below
        obtain rfl : i = acts.length := by omega
        clear HL
        go_wp2
        go_ret
        exact ⟨rfl, HB.out⟩
end Go.Proofs.YtbknlffebcbjfaaGreatDoor
