/-
  The walks of strings.TrimLeft and strings.IndexAny at a blank and a tab, whatever the text.
-/
import Derived.Test.YthnhnaaihhagaaaDoorEnd
import Derived.Shelf.Strings.SlTrimAscii
namespace Go.Proofs.YthnhnaaihhagaaaDoor
open Go.RowKit Go.Shelf

theorem trimLeft_any (s : ByteArray) (w : World) : Calls Tryd.prog 36 #[.string s, .string ⟨#[32, 9]⟩] w fun e w' => e = .returned (.string ⟨(s.data.toList.dropWhile Txt.blank).toArray⟩) ∧ Below w.heap.size w w' := by
  refine (Any.strings_TrimLeft_laid Tryd.lays161 (by kernel_rfl) s ⟨#[32, 9]⟩ w (by decide) (by intro j b h; match j, h with | 0, h => (cases h; decide) | 1, h => (cases h; decide) | j + 2, h => simp at h)).mono ?_
  rintro e w' ⟨rfl, hb⟩
  refine ⟨?_, hb⟩
  have : (fun x : UInt8 => ([32, 9] : List UInt8).contains x) = Txt.blank := by
    funext x; unfold Txt.blank; cases h1 : x == 32 <;> cases h2 : x == 9 <;> simp [List.contains, List.elem, h1, h2]
  simp only [Lib.trimLeftS, this]

theorem quiet_add_same {P : Program} {f : FuncId} {args : Array Value} {w : World} {a n : Nat} {v : Value}
    (h : Calls P f args (w.drewN (a + n)) fun e w' => e = .returned v ∧ w' = w.drewN (a + n)) :
    Calls P f args (w.drewN (a + n)) fun e w'' => e = .returned v ∧ ∃ m, w'' = w.drewN (a + m) :=
  h.mono fun _ _ ⟨he, hm⟩ => ⟨he, n, hm⟩
theorem ib_empty (c : Int) (w : World) : Calls Tryd.prog 66 #[.string ⟨#[]⟩, .int .u8 c] w fun e w' => e = .returned (.int .i64 (-1)) ∧ w' = w := Tryd.strings_IndexByte ⟨#[]⟩ c w
theorem cut_ascii : ∀ k : Fin 2, ((⟨#[32, 9]⟩ : ByteArray)[k.val]'k.isLt).toNat < 128 := by decide

set_option maxHeartbeats 1000000 in
set_option maxRecDepth 100000 in
theorem indexRune_high (r : Int) (w : World) (h1 : 128 ≤ r) (h2 : r ≤ 1114111) :
    Calls Tryd.prog 55 #[.string ⟨#[32, 9]⟩, .int .i32 r] w fun e w' => e = .returned (.int .i64 (-1)) ∧ Below w.heap.size w w' := by
  by_cases hre : r = 65533
  · subst hre
    go_enter Tryd.func55, Tryd.ntmps55
    go_wp2
    go_loopw [] (fun wr => ∃ pos : Nat, pos ≤ 2 ∧ wr.heap[w.heap.size]? = some (.stringIter ⟨#[32, 9]⟩ pos) ∧ Below w.heap.size w wr) (fun wr => 2 - wr.iterPos w.heap.size)
    case atStart =>
      have hit := World.iter_heap w ⟨#[32, 9]⟩ 0
      exact ⟨0, by omega, by simpa using hit, (Below.refl _ _).alloc (Nat.le_refl _) _⟩
    case round =>
      obtain ⟨pos, hpos, hit, hbw⟩ := hrel
      by_cases hp : pos < 2
      · have hasc : ((⟨#[32, 9]⟩ : ByteArray)[pos]'hp).toNat < 128 := cut_ascii ⟨pos, hp⟩
        have hnx : ∀ ty, (Instr.next (.pointer (some ⟨w.heap.size, 0, none⟩)) true ty).run Tryd.prog wr = _ := fun ty => Lib.run_next_ascii_at wr w.heap.size ⟨#[32, 9]⟩ pos ty hit hp hasc
        have hit2 := Lib.iterAt_heap wr w.heap.size ⟨#[32, 9]⟩ pos (pos + 1) hit
        have hbw2 := Lib.below_iterAt hbw (k := w.heap.size) (Nat.le_refl _) ⟨#[32, 9]⟩ (pos + 1)
        have nre : ((((⟨#[32, 9]⟩ : ByteArray)[pos]'hp).toNat : Int) == 65533) = false := by rw [beq_eq_false_iff_ne]; omega
        go_wp2
        refine ⟨⟨pos + 1, by omega, hit2, hbw2⟩, ?_⟩
        simp only [World.iterPos, hit2, hit]; omega
      · have hnx : ∀ ty, (Instr.next (.pointer (some ⟨w.heap.size, 0, none⟩)) true ty).run Tryd.prog wr = _ := fun ty => Lib.run_next_end_at wr w.heap.size ⟨#[32, 9]⟩ pos ty hit (by exact hp)
        go_wp2
        go_ret
        exact ⟨rfl, hbw⟩
  · have n65533 : (r == 65533) = false := by rw [beq_eq_false_iff_ne]; exact hre
    go_enter Tryd.func55, Tryd.ntmps55
    go_wp2_with fail
    refine (Tryd.utf8_ValidRune r w).mono ?_
    rintro e W ⟨rfl, rfl⟩
    cases hv : Lib.validRune r
    · go_wp2
      go_ret
      exact ⟨rfl, Below.refl _ _⟩
    · obtain ⟨h2', h4', hlast⟩ := encode_facts r (by simp [Lib.validRune] at hv; simp [Utf8.valid]; omega) h1
      obtain ⟨E, hE⟩ : ∃ E, Utf8.encode r = E := ⟨_, rfl⟩
      rw [hE] at h2' h4' hlast
      have HLA := Lib.hid hlast
      clear hlast hv
      by_cases h3 : E.size = 2
      · have h3a : E.size ≤ 2 := by omega
        clear h3
        go_wp2_with fail
        go_step3
        go_wp2_with fail
        refine wp_loop_rounds 1 ?_
        rw [rounds_succ]
        have hi1 : (E.size : Int) - 1 < 2 := by omega
        have hi0 : (0 : Int) ≤ (E.size : Int) - 1 := by omega
        have e1 : (E.size : Int) - 1 = 1 := by omega
        rw [e1]
        have hl := HLA.out (by omega)
        have e2 : E.size = 2 := by omega
        have i1 : 128 ≤ (E[1]'(by omega)).toNat := by simpa [e2] using hl
        have nq : (((9 : Int)) != ((E[1]'(by omega)).toNat : Int)) = true := by rw [bne_iff_ne]; omega
        clear hl e2 e1
        have E1 : 1 < E.size := by omega
        have E1i : (1 : Int) < (E.size : Int) := by omega
        have ix1 : ∀ wx, (Instr.index 9 (.string E) (.int .i64 1)).run Tryd.prog wx = .ok (.int .u8 ((E[1]'E1).toNat : Int)) wx := fun wx => by go_simp
        have ix0 : ∀ wx, (Instr.index 9 (.string ⟨#[32, 9]⟩) (.int .i64 1)).run Tryd.prog wx = .ok (.int .u8 9) wx := fun wx => by kernel_rfl
        go_wp2_with fail
        go_step3
        go_wp2_with fail
        go_quiet (fail)
        go_wp2_with fail
        have sl2 : ∀ wx, (Instr.slice 9 (.string ⟨#[32, 9]⟩) (some (.int .i64 2)) none none).run Tryd.prog wx = .ok (.string ⟨#[]⟩) wx := fun wx => by kernel_rfl
        go_quiet ((go_at_call 66; exact quiet_add_same (ib_empty _ _)))
        go_wp2
        repeat (first | rw [Exit.noGoto_ret] | simp only [Exit.inBlock, Exit.then])
        go_ret
        exact ⟨rfl, below_drewN (Below.refl _ _) _⟩
      · have h3a : 3 ≤ E.size := by omega
        clear h3
        go_wp2_with fail
        go_step3
        go_wp2_with fail
        refine wp_loop_rounds 1 ?_
        rw [rounds_succ]
        go_wp2_with fail
        rw [Exit.noGoto_ret]
        go_ret
        exact ⟨rfl, Below.refl _ _⟩

/-- Where the first blank stands; -1: nowhere. -/
def blk : List UInt8 → Int
  | [] => -1
  | c :: t => if Txt.blank c then 0 else if blk t = -1 then -1 else blk t + 1
theorem blk_ge : ∀ l : List UInt8, -1 ≤ blk l
  | [] => by simp [blk]
  | c :: t => by
    have := blk_ge t
    unfold blk
    split
    · omega
    · split <;> omega
theorem blk_skip : ∀ (a t : List UInt8), (∀ b ∈ a, Txt.blank b = false) → blk (a ++ t) = if blk t = -1 then -1 else blk t + a.length
  | [], t, _ => by simp only [List.nil_append, List.length_nil]; split <;> simp_all
  | c :: a, t, h => by
    have h1 := h c (by simp)
    have ih := blk_skip a t (fun b hb => h b (by simp [hb]))
    have hge := blk_ge t
    rw [List.cons_append, blk, if_neg (by simp [h1]), ih]
    by_cases e : blk t = -1
    · simp [e]
    · rw [if_neg e, if_neg e, if_neg (by omega)]; simp only [List.length_cons]; omega
theorem blank_lib (x : UInt8) : ([32, 9] : List UInt8).contains x = Txt.blank x := by
  unfold Txt.blank; cases h1 : x == 32 <;> cases h2 : x == 9 <;> simp [List.contains, List.elem, h1, h2]
theorem blk_lib : ∀ l : List UInt8, Lib.indexAny l [32, 9] = blk l
  | [] => rfl
  | c :: t => by
    rw [Lib.indexAny, blk, blk_lib t, blank_lib]
    cases Txt.blank c
    · simp only [Bool.false_eq_true, if_false, beq_iff_eq]
    · simp
theorem ir_ascii (k : Nat) (w : World) (h : k < 128) (i : Int) (hi : i = if k = 32 then 0 else if k = 9 then 1 else -1) :
    Calls Tryd.prog 55 #[.string ⟨#[32, 9]⟩, .int .i32 (k : Int)] w fun e w' => e = .returned (.int .i64 i) ∧ Below w.heap.size w w' := by
  refine (Tryd.strings_IndexRune_ascii ⟨#[32, 9]⟩ (k : Int) w (by omega) (by omega)).mono ?_
  rintro e w' ⟨rfl, rfl⟩
  refine ⟨?_, Below.refl _ _⟩
  have e1 : ((k : Int).toNat).toUInt8 = k.toUInt8 := by simp
  rw [e1, hi]
  show Ending.returned (.int .i64 (Lib.indexByte [32, 9] k.toUInt8)) = _
  have key : ∀ k : Fin 128, Lib.indexByte [32, 9] k.val.toUInt8 = if k.val = 32 then 0 else if k.val = 9 then 1 else -1 := by decide
  rw [key ⟨k, h⟩]
theorem set_zero : ∀ w, (zeroValue 75).run Tryd.prog w = .ok (.agg (Array.replicate 256 (.bool false))) w := by
  intro w; exact (zero_of_info (show (Tryd.prog.info? 75).map (fun i => (i.zero, i.size)) = some (some (.agg (Array.replicate 256 (.bool false))), 256) by kernel_rfl)).1 w

set_option maxHeartbeats 1000000 in
set_option maxRecDepth 100000 in
theorem indexAny_short (s : ByteArray) (w : World) (hE : Env w) (h8 : s.size ≤ 8) :
    Calls Tryd.prog 37 #[.string s, .string ⟨#[32, 9]⟩] w fun e w' => e = .returned (.int .i64 (blk s.data.toList)) ∧ Below w.heap.size w w' := by
  have HN := Lib.hid (show blk s.data.toList = if blk (s.data.toList.drop 0) = -1 then -1 else blk (s.data.toList.drop 0) + (0 : Nat) by rw [List.drop_zero]; split <;> simp_all)
  go_enter Tryd.func37, Tryd.ntmps37
  go_wp2_with fail
  have h8f : decide (8 < (s.size : Int)) = false := by simp; omega
  refine (Tryd.strings_shouldUseASCIISet _ _).mono ?_
  rintro e W ⟨rfl, rfl⟩
  rw [h8f]
  clear h8f
  go_wp2
  go_loopw [] (fun wr => ∃ pos : Nat, pos ≤ s.size ∧ wr.heap[W.heap.size]? = some (.stringIter s pos) ∧ Below W.heap.size W wr ∧ Env wr ∧ blk s.data.toList = if blk (s.data.toList.drop pos) = -1 then -1 else blk (s.data.toList.drop pos) + (pos : Nat)) (fun wr => s.size - wr.iterPos W.heap.size)
  case atStart =>
    have hit := World.iter_heap W s 0
    exact ⟨0, by omega, by simpa using hit, (Below.refl _ _).alloc (Nat.le_refl _) _, hE.next ((Below.refl _ _).alloc (Nat.le_refl _) _), HN.out⟩
  case round =>
    obtain ⟨pos, hps, hit, hbw, hEr, hh⟩ := hrel
    have HA := Lib.hid hh
    clear hh
    by_cases hp : pos < s.size
    · obtain ⟨r, n, k, W2, hnx, HD, HT, hn1, hn2, HS, HH, hk0, hit2, hbw2, hE2, hsz2, _, _, _⟩ := range_step hit hbw (Nat.le_refl _) hEr hp
      have hcat : s.data.toList.drop pos = (s.data.toList.drop pos).take n ++ s.data.toList.drop (pos + n) := by
        rw [← List.drop_drop, List.take_append_drop]
      have hnl : ((s.data.toList.drop pos).take n).length = n := by rw [List.length_take, List.length_drop, ← Lib.size_eq]; omega
      by_cases hbl : k = 32 ∨ k = 9
      · have hr : r = k ∧ 0 ≤ r ∧ r < 128 := by
          rcases HH.out with ⟨_, e, _⟩ | ⟨e1, e2, _⟩ <;> omega
        have hbs : (s.data.toList.drop pos).take n = [k.toUInt8] := by
          rcases HS.out with ⟨e, _⟩ | ⟨_, _, e⟩ | ⟨e, _⟩
          · simp only at e; omega
          · simp only at e; rw [e, hr.1]; simp
          · simp only at e; omega
        have HQ := Lib.hid (show blk s.data.toList = (pos : Int) by
          rw [HA.out, hcat, hbs]
          have : Txt.blank k.toUInt8 = true := by rcases hbl with rfl | rfl <;> rfl
          rw [List.singleton_append, blk, if_pos this]; simp)
        obtain ⟨i, hi, hi0⟩ : ∃ i : Int, (i = if k = 32 then 0 else if k = 9 then 1 else -1) ∧ 0 ≤ i := by
          rcases hbl with rfl | rfl
          · exact ⟨0, rfl, by omega⟩
          · exact ⟨1, rfl, by omega⟩
        have HI := Lib.hid (fun w => ir_ascii k w (by omega) i hi)
        clear hcat hnl hbs hr hi hbl
        go_wp2_with fail
        refine (HI.out _).mono ?_
        rintro e W3 ⟨rfl, b3⟩
        go_wp2
        go_ret
        exact ⟨by rw [HQ.out]; rfl, Below.up hbw2 (Nat.le_refl _) b3⟩
      · have hnb : ∀ b ∈ (s.data.toList.drop pos).take n, Txt.blank b = false := by
          intro b hb
          have hb128 : 128 ≤ b.toNat ∨ b.toNat = k := by
            rcases HS.out with ⟨_, c, e, h⟩ | ⟨h0, h1, e⟩ | ⟨_, _, _, _, _, h⟩
            · simp only at e; rw [e] at hb; simp at hb; subst hb; exact .inl h
            · simp only at e h0 h1; rw [e] at hb; simp at hb; subst hb
              right
              rcases HH.out with ⟨e1, _⟩ | ⟨_, e2, _⟩
              · omega
              · simp; omega
            · exact .inl (h b hb)
          cases e : Txt.blank b with
          | false => rfl
          | true =>
            simp [Txt.blank] at e
            rcases e with rfl | rfl
            · have : ((32 : UInt8)).toNat = 32 := rfl
              omega
            · have : ((9 : UInt8)).toNat = 9 := rfl
              omega
        have HQ := Lib.hid (show blk s.data.toList = if blk (s.data.toList.drop (pos + n)) = -1 then -1 else blk (s.data.toList.drop (pos + n)) + ((pos + n : Nat) : Int) by
          rw [HA.out, hcat, blk_skip _ _ hnb, hnl]
          have := blk_ge (s.data.toList.drop (pos + n))
          by_cases e : blk (s.data.toList.drop (pos + n)) = -1
          · simp [e]
          · rw [if_neg e, if_neg e, if_neg (by omega)]; omega)
        have HI := Lib.hid (show ∀ w, Calls Tryd.prog 55 #[.string ⟨#[32, 9]⟩, .int .i32 (k : Int)] w fun e w' => e = .returned (.int .i64 (-1)) ∧ Below w.heap.size w w' by
          intro w
          by_cases h128 : k < 128
          · exact ir_ascii k w h128 (-1) (by rw [if_neg (by omega), if_neg (by omega)])
          · have hk1 : k ≤ 1114111 := by
              rcases HH.out with ⟨_, e, _⟩ | ⟨_, e2, _⟩
              · omega
              · rcases HS.out with ⟨e, _⟩ | ⟨_, e, _⟩ | ⟨_, e, _⟩ <;> simp only at e <;> omega
            exact indexRune_high (k : Int) w (by omega) (by omega))
        clear hcat hnl hnb hbl HA HH
        go_wp2_with fail
        refine (HI.out _).mono ?_
        rintro e W3 ⟨rfl, b3⟩
        have hit3 := heap_kept b3 (Nat.le_refl _) hit2; have hbw3 := Below.up hbw2 (Nat.le_refl _) b3; have hE3 := hE2.next b3
        clear b3
        go_wp2
        refine ⟨⟨pos + n, hn2, hit3, hbw3, hE3, HQ.out⟩, ?_⟩
        simp only [World.iterPos, hit3, hit]; omega
    · have hnx := range_end hit hp
      have HQ := Lib.hid (show blk s.data.toList = -1 by rw [HA.out, drop_none s pos hp]; rfl)
      go_wp2
      go_ret
      exact ⟨by rw [HQ.out]; rfl, hbw⟩
theorem indexAny_any (s : ByteArray) (w : World) (hE : Env w) (hs : s.size ≤ 1000000000) :
    Calls Tryd.prog 37 #[.string s, .string ⟨#[32, 9]⟩] w fun e w' => e = .returned (.int .i64 (blk s.data.toList)) ∧ Below w.heap.size w w' := by
  by_cases h8 : s.size ≤ 8
  · exact indexAny_short s w hE h8
  · refine (Tryd.strings_IndexAny_long set_zero s ⟨#[32, 9]⟩ w (by decide) (by omega) (by omega) (by decide) (by intro j b h; match j, h with | 0, h => (cases h; decide) | 1, h => (cases h; decide) | j + 2, h => simp at h)).mono ?_
    rintro e w' ⟨rfl, rfl⟩
    exact ⟨by rw [← blk_lib], ((Below.refl _ _).alloc (Nat.le_refl _) _).alloc (by simp) _⟩
end Go.Proofs.YthnhnaaihhagaaaDoor
