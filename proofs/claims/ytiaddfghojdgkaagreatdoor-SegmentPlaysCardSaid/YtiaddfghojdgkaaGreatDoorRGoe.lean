/-
  The walk of the law package's goes (layer 9).
-/
import Derived.Test.YtiaddfghojdgkaaGreatDoorRAli
namespace Go.Proofs.YtiaddfghojdgkaaGreatDoor
open Go.RowKit Go.Shelf

variable {R S : (Nat → Prop) → World → Prop} {a w w' : World} {d m : Nat} {room : Int} {fs gs fs' gs' : List Dk.File}
theorem box_cell {P : Nat} {cs : Array Value} {t : TypeId} {X : Nat → Prop} (h : BoxR P cs t X w) (i : Nat) : w.cell? ⟨P, i, none⟩ = cs[i]? := by
  rw [Lib.cell_of_heap h.1]
/-- The boxes of goes: the pair, the act. -/
def Boxes (R : (Nat → Prop) → World → Prop) (P : Nat) (d m : Nat) (Q : Nat) (op n mm : Int) (lv : Value) (tx : ByteArray) (kv : Value) : (Nat → Prop) → World → Prop := fun X w =>
  (R X w ∧ BoxR P #[.pointer (some ⟨d, 0, none⟩), .pointer (some ⟨m, 0, none⟩)] 28 X w) ∧ BoxR Q #[.int .i64 op, .int .i64 n, .int .i64 mm, lv, .string tx, kv] 36 X w
theorem firm_boxes (hR : Firm R) (P d m Q : Nat) (op n mm : Int) (lv : Value) (tx : ByteArray) (kv : Value) : Firm (Boxes R P d m Q op n mm lv tx kv) := firm_and (firm_and hR (firm_box _ _ _)) (firm_box _ _ _)
def BoxL (R : (Nat → Prop) → World → Prop) (P : Nat) (d m : Nat) (Q : Nat) (op n mm : Int) (lv : Value) (tx : ByteArray) (kv : Value) (a : World) (v : Value) (qs : List EnX) : (Nat → Prop) → World → Prop := fun X w => Boxes R P d m Q op n mm lv tx kv X w ∧ LRow a v qs X w
theorem firm_boxl (hR : Firm R) (P d m Q : Nat) (op n mm : Int) (lv : Value) (tx : ByteArray) (kv : Value) (a : World) (v : Value) (qs : List EnX) : Firm (BoxL R P d m Q op n mm lv tx kv a v qs) := firm_and (firm_boxes hR P d m Q op n mm lv tx kv) (firm_lrow a v qs)
section
variable {P Q : Nat} {op n mm : Int} {lv : Value} {tx : ByteArray} {kv v : Value} {qs : List EnX}
theorem boxes_cells (h : PR (Boxes R P d m Q op n mm lv tx kv) a d m room fs gs w) : (w.cell? ⟨P, 0, none⟩ = some (.pointer (some ⟨d, 0, none⟩)) ∧ w.cell? ⟨P, 1, none⟩ = some (.pointer (some ⟨m, 0, none⟩))) ∧
    w.cell? ⟨Q, 0, none⟩ = some (.int .i64 op) ∧ w.cell? ⟨Q, 1, none⟩ = some (.int .i64 n) ∧ w.cell? ⟨Q, 2, none⟩ = some (.int .i64 mm) ∧ w.cell? ⟨Q, 3, none⟩ = some lv ∧ w.cell? ⟨Q, 4, none⟩ = some (.string tx) ∧ w.cell? ⟨Q, 5, none⟩ = some kv := by
  obtain ⟨X, h⟩ := h.has
  exact ⟨⟨box_cell h.1.2 0, box_cell h.1.2 1⟩, box_cell h.2 0, box_cell h.2 1, box_cell h.2 2, box_cell h.2 3, box_cell h.2 4, box_cell h.2 5⟩
theorem boxl_boxes (h : PR (BoxL R P d m Q op n mm lv tx kv a v qs) a d m room fs gs w) : PR (Boxes R P d m Q op n mm lv tx kv) a d m room fs gs w := h.weak fun _ _ h => h.1
theorem boxl_rest (h : PR (BoxL R P d m Q op n mm lv tx kv a v qs) a d m room fs gs w) : PR R a d m room fs gs w := h.weak fun _ _ h => h.1.1.1
theorem boxl_ents (h : PR (BoxL R P d m Q op n mm lv tx kv a v qs) a d m room fs gs w) : Ents w v qs := by
  have hb := h.below
  obtain ⟨X, h⟩ := h.has
  exact h.2.ents hb
theorem s_p (h : PR (BoxL R P d m Q op n mm lv tx kv a v qs) a d m room fs gs w) : w.cell? ⟨P, 0, none⟩ = some (.pointer (some ⟨d, 0, none⟩)) ∧ w.cell? ⟨P, 1, none⟩ = some (.pointer (some ⟨m, 0, none⟩)) := (boxes_cells (boxl_boxes h)).1
theorem s_m (h : PR (BoxL R P d m Q op n mm lv tx kv a v qs) a d m room fs gs w) : w.cell? ⟨P, 0, none⟩ = some (.pointer (some ⟨d, 0, none⟩)) ∧ w.cell? ⟨P, 1, none⟩ = some (.pointer (some ⟨m, 0, none⟩)) ∧ w.cell? ⟨Q, 2, none⟩ = some (.int .i64 mm) := ⟨(s_p h).1, (s_p h).2, (boxes_cells (boxl_boxes h)).2.2.2.1⟩
theorem s_t (h : PR (BoxL R P d m Q op n mm lv tx kv a v qs) a d m room fs gs w) : w.cell? ⟨P, 0, none⟩ = some (.pointer (some ⟨d, 0, none⟩)) ∧ w.cell? ⟨P, 1, none⟩ = some (.pointer (some ⟨m, 0, none⟩)) ∧ w.cell? ⟨Q, 4, none⟩ = some (.string tx) := ⟨(s_p h).1, (s_p h).2, (boxes_cells (boxl_boxes h)).2.2.2.2.2.1⟩
end
theorem lg1 {k : Nat} (h : (k : Int) < 3) : wrap64 (1 + (k : Int)) = 1 + (k : Int) := IntWalk.wrap64_in _ (by omega)
theorem lg2 {f : Int} {n i : Nat} (h1 : 0 ≤ f) (h2 : f ≤ 274877906944) (h3 : n ≤ 200000) (h4 : i ≤ 40) : wrap64 (f + (n : Int)) = f + (n : Int) ∧ wrap64 (f + (n : Int) + (i : Int)) = f + (n : Int) + (i : Int) := ⟨IntWalk.wrap64_in _ (by omega), IntWalk.wrap64_in _ (by omega)⟩
theorem lg4 (n : Nat) : n ≤ n + 1 + 1 := by omega
theorem lg3 {k : Nat} (h : (k : Int) < 7) : k = 0 ∨ k = 1 ∨ k = 2 ∨ k = 3 ∨ k = 4 ∨ k = 5 ∨ k = 6 := by omega
set_option maxHeartbeats 8000000 in
set_option maxRecDepth 100000 in
theorem goes9_any (h : PR R a d m room fs fs w) (hR : Firm R) (hroom : room ≤ 1048576) (hs : Dk.Short fs) (op nn mm : Int) (l : List EnX) (tx : ByteArray) (ks : List Int) (lv kv : Value) (hx : Act9R a (⟨op, nn, mm, l, tx, ks⟩, lv, kv)) (hsm : small9A (⟨op, nn, mm, l, tx, ks⟩, lv, kv) = true) :
    Calls Tryz.prog 13 #[.agg #[.pointer (some ⟨d, 0, none⟩), .pointer (some ⟨m, 0, none⟩)], .agg #[.int .i64 op, .int .i64 nn, .int .i64 mm, lv, .string tx, kv]] w fun e w' => e = .returned (.bool true) ∧ ∃ fs', Dk.Short fs' ∧ PR R a d m room fs' fs' w' := by
  obtain ⟨hl, hk, hop, hnn, hmm⟩ := hx
  simp only [small9A, Bool.and_eq_true, decide_eq_true_eq] at hsm
  obtain ⟨⟨hfit, htx⟩, hkl⟩ := hsm
  obtain ⟨hLE, hll⟩ := fit_ents hl hfit
  obtain ⟨la, lc, hlv⟩ := cells_lenB hl.1
  have hlv : lv = .slice la l.length lc := hlv
  subst hlv
  obtain ⟨W0, hW0⟩ : ∃ W0, W0 = w.alloc (.cells #[.pointer (some ⟨d, 0, none⟩), .pointer (some ⟨m, 0, none⟩)] 28) := ⟨_, rfl⟩
  have hs0 : W0.heap.size = w.heap.size + 1 := by rw [hW0]; simp
  obtain ⟨W, hW⟩ : ∃ W, W = W0.alloc (.cells #[.int .i64 op, .int .i64 nn, .int .i64 mm, .slice la l.length lc, .string tx, kv] 36) := ⟨_, rfl⟩
  have hR0 := firm_and hR (firm_box w.heap.size #[.pointer (some ⟨d, 0, none⟩), .pointer (some ⟨m, 0, none⟩)] 28)
  have h0 : PR (fun X w' => R X w' ∧ BoxR w.heap.size #[.pointer (some ⟨d, 0, none⟩), .pointer (some ⟨m, 0, none⟩)] 28 X w') a d m room fs fs W0 :=
    h.push hR (by rw [hW0]; exact (Below.refl _ _).alloc (Nat.le_refl _) _) (fun X hX => by rw [hW0]; exact box_new _ _ X hX)
  have h1 : PR (Boxes R w.heap.size d m (w.heap.size + 1) op nn mm (.slice la l.length lc) tx kv) a d m room fs fs W := by
    have := h0.push hR0 (w' := W) (by rw [hW]; exact (Below.refl _ _).alloc (Nat.le_refl _) _) (S := BoxR (w.heap.size + 1) #[.int .i64 op, .int .i64 nn, .int .i64 mm, .slice la l.length lc, .string tx, kv] 36) (fun X hX => by rw [hW, ← hs0]; exact box_new _ _ X hX)
    exact this
  have hRB := firm_boxes hR w.heap.size d m (w.heap.size + 1) op nn mm (.slice la l.length lc) tx kv
  have HP1 := Lib.hid h1
  have HRB := Lib.hid hRB
  have HW := Lib.hid (hW.trans (by rw [hW0]))
  obtain ⟨⟨p0, p1⟩, q0, q1, q2, q3, q4, q5⟩ := boxes_cells h1
  have HK := Lib.hid (And.intro hk hkl)
  have HLE := Lib.hid hLE
  have HS := Lib.hid hs
  have HR := Lib.hid hR
  clear hW hW0 hs0 h0 h1 hR0 hRB h hR hl hfit hk hLE hs hkl
  have HPK := Lib.hid (pick_any nn 3 W hnn.1 hnn.2 (by decide) (by decide))
  go_enter Tryz.func13, Tryz.ntmps13
  go_upto_region 1 with fail
  rw [← HW.out]
  clear HW
  go_wp2_with fail
  refine HPK.out.mono ?_
  rintro e w1 ⟨⟨k, rfl, hk3⟩, hw1⟩
  subst hw1
  have hkw := lg1 hk3
  obtain ⟨g, c, hld⟩ : ∃ g c, Seg.loadD (1 + (k : Int)) fs = (g, c) := ⟨_, _, rfl⟩
  have HLD := Lib.hid (rload_pr HP1.out hroom hld)
  have hgle := (by
    obtain ⟨ft, fu, hx⟩ := HP1.out
    have := loadD_le (1 + (k : Int)) fs (rread_room hx.ref hroom _)
    rw [hld] at this
    exact this : 0 ≤ g.first ∧ g.first ≤ 274877906944 ∧ g.entries.length ≤ 200000)
  clear HPK hld
  go_wp2_with fail
  refine HLD.out.mono ?_
  rintro e w2 ⟨sa, sc, ps, rfl, hpe, hNE, b2⟩
  have hpl : ps.length ≤ 200000 := by have := hgle.2.2; rw [← hpe.out] at this; simpa [plainE] using this
  obtain ⟨W2, hW2⟩ : ∃ W2, W2 = w2.alloc (.cells #[.int .i64 g.first, .slice sa ps.length sc, .bool g.torn] 42) := ⟨_, rfl⟩
  have sr : SR w2.heap.size g.first (.slice sa ps.length sc) g.torn W2 := by rw [hW2]; exact heap_alloc_new w2 _
  have hb2 : Below w1.heap.size w1 W2 := by rw [hW2]; exact b2.alloc b2.size _
  have h2 := HP1.out.next HRB.out hb2
  obtain ⟨⟨p0, p1⟩, q0, q1, q2, q3, q4, q5⟩ := boxes_cells h2
  obtain ⟨m0, m1, m2⟩ := sr.cells
  have HP2 := Lib.hid h2
  have HW2 := Lib.hid hW2
  have HSR := Lib.hid sr
  obtain ⟨b3, hb3⟩ : ∃ b, (mm.tmod 3 == 0) = b := ⟨_, rfl⟩
  clear HLD HP1 hNE b2 sr hb2 h2 hW2 hpe
  go_upto_region 4 with fail
  rw [← HW2.out]
  clear HW2
  go_cut [32] (fun v wx => ∃ b : Bool, v = .bool b ∧ W2 = wx)
  case first =>
    by_cases hc : c = 0
    · subst hc
      go_wp2
      go_meet
      exact ⟨b3, rfl, rfl⟩
    · have hcb : ((c : Int) == 0) = false := by rw [beq_eq_false_iff_ne]; omega
      go_wp2
      go_meet
      exact ⟨false, rfl, rfl⟩
  case rest =>
    obtain ⟨b, rfl, rfl⟩ := hcut
    clear hb3
    go_upto_if 32 with fail
    go_cut [6] (fun v wx => ∃ (va : Option Addr) (vc : Nat) (qs : List EnX), v = .slice va qs.length vc ∧ qs.length ≤ 40 ∧ PR (BoxL R w.heap.size d m (w.heap.size + 1) op nn mm (.slice la l.length lc) tx kv a (.slice va qs.length vc) qs) a d m room fs fs wx)
    case first =>
      cases b with
      | false =>
        go_wp2
        go_meet
        exact ⟨la, lc, l, rfl, hll, HP2.out.push HRB.out (Below.refl _ _) (fun X hX => .inl HLE.out)⟩
      | true =>
        go_wp2
        go_loopw [9, 10] (fun ov iv wr => ∃ (i : Nat) (os : List EnX), iv = .int .i64 (i : Int) ∧ i ≤ l.length ∧ os.length = i ∧ wr.ownsRow W2.heap.size 61 7 ov os.length (enCells os) ∧ (∀ p ∈ os, Evs a p.2 p.1.b.events ∧ Fine p.1) ∧ Below W2.heap.size W2 wr) (fun _ iv _ => l.length - (intOf iv).toNat)
        case atStart => exact ⟨0, [], rfl, Nat.zero_le _, rfl, World.ownsRow_nil _ _ _ _, (fun p hp => by cases hp), Below.refl _ _⟩
        case round =>
          obtain ⟨i, os, rfl, hi, hos, hown, hev, hbr⟩ := hrel
          obtain ⟨va, vl, vc, rfl⟩ := slice_of_owns hown
          have q3 := cell_kept hbr (Nat.le_refl _) q3
          have HOS := Lib.hid hos
          by_cases hgo : i < l.length
          · have hba := HP2.out.below.trans (hbr.mono HP2.out.below.size)
            obtain ⟨b', o', c', p, ep, S, ex, se, sq, ea, el, ec, es, hv, k0, k1, k2, k3, k4, k5, k6, hevp, hS, hsm, hes, hpe, hpv⟩ := enAt (HLE.out.next hba) i hgo
            obtain ⟨rfl, rfl⟩ : la = some ⟨b', o', none⟩ ∧ lc = c' := by injection hv with z1 z2 z3; exact ⟨z1, z3⟩
            have hm := HLE.out.2 l[i] (List.getElem_mem hgo)
            rw [hpe.out, hpv.out] at hm
            obtain ⟨m0, m1, m2⟩ := ((HSR.out.next hbr).next ((Below.refl _ wr).alloc (Nat.le_refl _) (.cells #[.int .i64 p, .int .i64 ep, .string S, .int .i64 ex, .int .i64 se, .int .i64 sq, .slice ea el ec] 61))).cells
            obtain ⟨hw1, hw2⟩ := lg2 (i := i) hgle.1 hgle.2.1 hpl (by omega)
            have hon : os.length + 1 ≤ 1000000 := by omega
            have HOW := Lib.hid ((hown.alloc (.cells #[.int .i64 (g.first + (ps.length : Int) + (i : Int)), .int .i64 3, .string S, .int .i64 ex, .int .i64 se, .int .i64 sq, .slice ea el ec] 61)).alloc (.cells #[.int .i64 (g.first + (ps.length : Int) + (i : Int)), .int .i64 3, .string S, .int .i64 ex, .int .i64 se, .int .i64 sq, .slice ea el ec] 61))
            have hb2r : W2.heap.size ≤ wr.heap.size := hbr.size
            have HXN := Lib.hid (show Cells ((wr.alloc (.cells #[.int .i64 (g.first + (ps.length : Int) + (i : Int)), .int .i64 3, .string S, .int .i64 ex, .int .i64 se, .int .i64 sq, .slice ea el ec] 61)).alloc (.cells #[.int .i64 (g.first + (ps.length : Int) + (i : Int)), .int .i64 3, .string S, .int .i64 ex, .int .i64 se, .int .i64 sq, .slice ea el ec] 61)) (.slice (some ⟨wr.heap.size + 1, 0, none⟩) 1 1) 7 1 [.int .i64 (g.first + (ps.length : Int) + (i : Int)), .int .i64 3, .string S, .int .i64 ex, .int .i64 se, .int .i64 sq, .slice ea el ec] from by
              have := cells_new7 (wr.alloc (.cells #[.int .i64 (g.first + (ps.length : Int) + (i : Int)), .int .i64 3, .string S, .int .i64 ex, .int .i64 se, .int .i64 sq, .slice ea el ec] 61)) 61 (.int .i64 (g.first + (ps.length : Int) + (i : Int))) (.int .i64 3) (.string S) (.int .i64 ex) (.int .i64 se) (.int .i64 sq) (.slice ea el ec)
              rw [World.size_alloc] at this; exact this)
            have HEV := Lib.hid (And.intro hev (And.intro hm hbr))
            clear hown hev hm hbr hevp hS hsm hes hpe hpv hv hos hba
            go_wp2_with (at_builtin; refine wpList_append_row rfl _ _ rfl enT W2.heap.size (.slice va vl vc) os.length (enCells os) rfl HOW.out _ 1 _ rfl HXN.out (fun u hu => one7 hu) hon (Nat.le_trans hb2r (by simp; exact lg4 _)) ?_)
            intro v5 w5 hown5 hg5 hne5
            obtain ⟨v5a, v5l, v5c, rfl⟩ := slice_of_owns hown5
            have hb5 : Below W2.heap.size W2 w5 := ((HEV.out.2.2.alloc hb2r _).alloc (by simp; exact Nat.le_succ_of_le hb2r) _).grown hg5 (by simp; exact Nat.le_trans hb2r (lg4 _)) (fun k hk => (HOW.out.lt k hk).1)
            have HO5 := Lib.hid (show w5.ownsRow W2.heap.size 61 7 (.slice v5a v5l v5c) (os ++ [((⟨g.first + (ps.length : Int) + (i : Int), 3, ⟨S.data.toList, ex, se, sq, es⟩⟩ : Evt.Entry), Value.slice ea el ec)]).length (enCells (os ++ [((⟨g.first + (ps.length : Int) + (i : Int), 3, ⟨S.data.toList, ex, se, sq, es⟩⟩ : Evt.Entry), Value.slice ea el ec)])) by
              rw [List.length_append, enCells_snoc]; exact hown5)
            have HB5 := Lib.hid hb5
            clear hown5 hg5 hne5 HOW HXN hb5 k0 k1 k2 k3 k4 k5 k6 m0 m1 m2 hw1 hw2
            go_wp2
            exact ⟨⟨i + 1, _, by go_num, hgo, by rw [List.length_append, HOS.out]; rfl, HO5.out, (fun p hp => by
              rcases List.mem_append.1 hp with hp | hp
              · exact HEV.out.1 p hp
              · rw [List.mem_singleton.1 hp]; exact HEV.out.2.1), HB5.out⟩, by simp [intOf]; omega⟩
          · have HPU := Lib.hid (HP2.out.push HRB.out hbr (S := LRow a (.slice va vl vc) os) (fun X hX => .inr ⟨owns_low hown HP2.out.below.size, fun b hb hx => by have := (hown.lt b hb).1; have := hX b hx; omega, hev⟩))
            have HVL := Lib.hid (show vl = os.length by
              rcases hown.2 with ⟨e, h0⟩ | ⟨g, cap, cur, e, _⟩
              · cases e; exact h0.symm
              · cases e; rfl)
            have hil : os.length ≤ 40 := by omega
            clear hown hev hbr hos
            go_wp2
            go_meet
            have hvl := HVL.out
            subst hvl
            exact ⟨va, vc, os, rfl, hil, HPU.out⟩
    case rest =>
      obtain ⟨va, vc, qs, rfl, hql, hP3⟩ := hcut
      obtain ⟨⟨p0, p1⟩, q0, q1, q2, q3, q4, q5⟩ := boxes_cells (boxl_boxes hP3)
      have HPK := Lib.hid (pick_any op 7 wc hop.1 hop.2 (by decide) (by decide))
      have HPX := Lib.hid hP3
      have HRL := Lib.hid (firm_boxl HR.out w.heap.size d m (w.heap.size + 1) op nn mm (.slice la l.length lc) tx kv a (.slice va qs.length vc) qs)
      have HNZ := Lib.hid (show (⟨(Seg.nameOf (1 + (k : Int))).toArray⟩ : ByteArray).size ≤ 1000000000 by rw [Lib.size_eq]; exact Nat.le_trans (name_short _) (by decide))
      clear hP3 m0 m1 m2 HSR HP2
      go_wp2_with fail
      refine HPK.out.mono ?_
      rintro e w8 ⟨⟨k7, rfl, hk7⟩, hw8⟩
      subst hw8
      have hkc := lg3 hk7
      clear HPK hk7
      rcases hkc with rfl | rfl | rfl | rfl | rfl | rfl | rfl
      · obtain ⟨f2, c2, hf⟩ : ∃ f2 c2, Seg.create room (1 + (k : Int)) mm fs = (f2, c2) := ⟨_, _, rfl⟩
        have HF := Lib.hid hf
        have HSH := Lib.hid (show Dk.Short f2 by have := short_create (room := room) (n := 1 + (k : Int)) (first := mm) HS.out; rw [hf] at this; exact this)
        have hPd := HPX.out.next HRL.out (Below.refl _ _).drew
        clear hf
        go_wp2
        go_region_held3 (fun X => X.cell? ⟨w.heap.size, 0, none⟩ = some (.pointer (some ⟨d, 0, none⟩)) ∧ X.cell? ⟨w.heap.size, 1, none⟩ = some (.pointer (some ⟨m, 0, none⟩)) ∧ X.cell? ⟨w.heap.size + 1, 2, none⟩ = some (.int .i64 mm))
          (first | exact s_m hPd)
          (first
            | (go_at_call 50; refine (create_pr hPd HRL.out HF.out).mono ?_; rintro e w9 ⟨rfl, hPd⟩)
            | (go_at_call 58; refine (rcreate_pr hPd HRL.out HF.out).mono ?_; rintro e w9 ⟨rfl, hPd⟩))
        have HPE := Lib.hid (boxl_rest hPd)
        clear hPd
        go_wp2
        go_ret
        exact ⟨by simp, f2, HSH.out, HPE.out⟩
      · obtain ⟨f2, c2, hf⟩ : ∃ f2 c2, Seg.addD room (1 + (k : Int)) (plainE qs) fs = (f2, c2) := ⟨_, _, rfl⟩
        have HF := Lib.hid hf
        have HSH := Lib.hid (show Dk.Short f2 by have := short_add (room := room) (n := 1 + (k : Int)) (l := plainE qs) HS.out; rw [hf] at this; exact this)
        have hPd := HPX.out.next HRL.out (Below.refl _ _).drew
        clear hf
        go_wp2
        go_region_held3 (fun X => X.cell? ⟨w.heap.size, 0, none⟩ = some (.pointer (some ⟨d, 0, none⟩)) ∧ X.cell? ⟨w.heap.size, 1, none⟩ = some (.pointer (some ⟨m, 0, none⟩)))
          (first | exact s_p hPd)
          (first
            | (go_at_call 51; refine (add_pr hPd HRL.out hroom (boxl_ents hPd) (by omega) HF.out).mono ?_; rintro e w9 ⟨rfl, hPd⟩)
            | (go_at_call 59; refine (radd_pr hPd HRL.out hroom (boxl_ents hPd) (by omega) HF.out).mono ?_; rintro e w9 ⟨rfl, hPd⟩))
        have HPE := Lib.hid (boxl_rest hPd)
        clear hPd
        go_wp2
        go_ret
        exact ⟨by simp, f2, HSH.out, HPE.out⟩
      · obtain ⟨f2, c2, hf⟩ : ∃ f2 c2, Seg.addD room (1 + (k : Int)) (plainE qs) fs = (f2, c2) := ⟨_, _, rfl⟩
        have HF := Lib.hid hf
        have HSH := Lib.hid (show Dk.Short f2 by have := short_add (room := room) (n := 1 + (k : Int)) (l := plainE qs) HS.out; rw [hf] at this; exact this)
        have hPd := HPX.out.next HRL.out (Below.refl _ _).drew
        clear hf
        go_wp2
        go_region_held3 (fun X => X.cell? ⟨w.heap.size, 0, none⟩ = some (.pointer (some ⟨d, 0, none⟩)) ∧ X.cell? ⟨w.heap.size, 1, none⟩ = some (.pointer (some ⟨m, 0, none⟩)))
          (first | exact s_p hPd)
          (first
            | (go_at_call 51; refine (add_pr hPd HRL.out hroom (boxl_ents hPd) (by omega) HF.out).mono ?_; rintro e w9 ⟨rfl, hPd⟩)
            | (go_at_call 59; refine (radd_pr hPd HRL.out hroom (boxl_ents hPd) (by omega) HF.out).mono ?_; rintro e w9 ⟨rfl, hPd⟩))
        have HPE := Lib.hid (boxl_rest hPd)
        clear hPd
        go_wp2
        go_ret
        exact ⟨by simp, f2, HSH.out, HPE.out⟩
      · obtain ⟨f2, c2, hf⟩ : ∃ f2 c2, Seg.cutD room (1 + (k : Int)) mm fs = (f2, c2) := ⟨_, _, rfl⟩
        have HF := Lib.hid hf
        have HSH := Lib.hid (show Dk.Short f2 by have := short_cut (room := room) (n := 1 + (k : Int)) (last := mm) HS.out; rw [hf] at this; exact this)
        have hPd := HPX.out.next HRL.out (Below.refl _ _).drew
        clear hf
        go_wp2
        go_region_held3 (fun X => X.cell? ⟨w.heap.size, 0, none⟩ = some (.pointer (some ⟨d, 0, none⟩)) ∧ X.cell? ⟨w.heap.size, 1, none⟩ = some (.pointer (some ⟨m, 0, none⟩)) ∧ X.cell? ⟨w.heap.size + 1, 2, none⟩ = some (.int .i64 mm))
          (first | exact s_m hPd)
          (first
            | (go_at_call 60; refine (cut_pr hPd HRL.out hroom HF.out).mono ?_; rintro e w9 ⟨rfl, hPd⟩)
            | (go_at_call 61; refine (rcut_pr hPd HRL.out hroom HF.out).mono ?_; rintro e w9 ⟨rfl, hPd⟩))
        have HPE := Lib.hid (boxl_rest hPd)
        clear hPd
        go_wp2
        go_ret
        exact ⟨by simp, f2, HSH.out, HPE.out⟩
      · obtain ⟨f2, c2, hf⟩ : ∃ f2 c2, Dk.append room (Seg.nameOf (1 + (k : Int))) tx fs = (f2, c2) := ⟨_, _, rfl⟩
        have HF := Lib.hid hf
        have HSH := Lib.hid (show Dk.Short f2 by have := Dk.Short.append (room := room) (s := tx) HS.out (name_short (1 + (k : Int))); rw [hf] at this; exact this)
        have hPd := HPX.out.next HRL.out (Below.refl _ _).drew
        clear hf
        go_wp2
        go_region_held3 (fun X => X.cell? ⟨w.heap.size, 0, none⟩ = some (.pointer (some ⟨d, 0, none⟩)) ∧ X.cell? ⟨w.heap.size, 1, none⟩ = some (.pointer (some ⟨m, 0, none⟩)) ∧ X.cell? ⟨w.heap.size + 1, 4, none⟩ = some (.string tx))
          (first | exact s_t hPd)
          (first
            | (go_at_call 53; refine (segName_any (1 + (k : Int)) _ hPd.env).mono ?_; rintro e w9 ⟨rfl, b9⟩; have hPd := hPd.next HRL.out b9)
            | (go_at_call 62; refine (append_pr (nm := ⟨(Seg.nameOf (1 + (k : Int))).toArray⟩) hPd HRL.out HNZ.out (by omega) HF.out).mono ?_; rintro e w9 ⟨rfl, hPd⟩)
            | (go_at_call 64; refine ((refSegName_any (1 + (k : Int)) _).mono (fun _ _ h => (And.intro h.1 h.2.symm))).mono ?_; rintro e w9 ⟨rfl, hw9⟩; subst hw9)
            | (go_at_call 63; refine (rappend_pr (nm := ⟨(Seg.nameOf (1 + (k : Int))).toArray⟩) hPd HRL.out HNZ.out (by omega) HF.out).mono ?_; rintro e w9 ⟨rfl, hPd⟩))
        have HPE := Lib.hid (boxl_rest hPd)
        clear hPd
        go_wp2
        go_ret
        exact ⟨by simp, f2, HSH.out, HPE.out⟩
      · have HSH := Lib.hid (HS.out.crash ks)
        have HC1 := Lib.hid (crash_pr HPX.out HRL.out HK.out.1.1 (by have := HK.out.2; omega) HK.out.1.2)
        go_wp2_with fail
        refine HC1.out.mono ?_
        rintro e w9 ⟨rfl, hP9⟩
        obtain ⟨⟨p0, p1⟩, q0, q1, q2, q3, q4, q5⟩ := boxes_cells (boxl_boxes hP9)
        have HC2 := Lib.hid (rcrash_pr hP9 HRL.out HK.out.1.1 (by have := HK.out.2; omega) HK.out.1.2)
        clear HC1 hP9
        go_wp2_with fail
        refine HC2.out.mono ?_
        rintro e w10 ⟨rfl, hP10⟩
        have HPE := Lib.hid (boxl_rest hP10)
        clear HC2 hP10
        go_wp2
        go_ret
        exact ⟨rfl, _, HSH.out, HPE.out⟩
      · obtain ⟨f2, c2, hf⟩ : ∃ f2 c2, Dk.delete (Seg.nameOf (1 + (k : Int))) fs = (f2, c2) := ⟨_, _, rfl⟩
        have HF := Lib.hid hf
        have HSH := Lib.hid (show Dk.Short f2 by have := Dk.Short.delete (Seg.nameOf (1 + (k : Int))) HS.out; rw [hf] at this; exact this)
        have hPd := HPX.out.next HRL.out (Below.refl _ _).drew
        clear hf
        go_wp2
        go_region_held3 (fun X => X.cell? ⟨w.heap.size, 0, none⟩ = some (.pointer (some ⟨d, 0, none⟩)) ∧ X.cell? ⟨w.heap.size, 1, none⟩ = some (.pointer (some ⟨m, 0, none⟩)))
          (first | exact s_p hPd)
          (first
            | (go_at_call 53; refine (segName_any (1 + (k : Int)) _ hPd.env).mono ?_; rintro e w9 ⟨rfl, b9⟩; have hPd := hPd.next HRL.out b9)
            | (go_at_call 65; refine (delete_pr (nm := ⟨(Seg.nameOf (1 + (k : Int))).toArray⟩) hPd HRL.out HNZ.out HF.out).mono ?_; rintro e w9 ⟨rfl, hPd⟩)
            | (go_at_call 64; refine ((refSegName_any (1 + (k : Int)) _).mono (fun _ _ h => (And.intro h.1 h.2.symm))).mono ?_; rintro e w9 ⟨rfl, hw9⟩; subst hw9)
            | (go_at_call 66; refine (rdelete_pr (nm := ⟨(Seg.nameOf (1 + (k : Int))).toArray⟩) hPd HRL.out HF.out).mono ?_; rintro e w9 ⟨rfl, hPd⟩))
        have HPE := Lib.hid (boxl_rest hPd)
        clear hPd
        go_wp2
        go_ret
        exact ⟨by simp, f2, HSH.out, HPE.out⟩
end Go.Proofs.YtiaddfghojdgkaaGreatDoor
