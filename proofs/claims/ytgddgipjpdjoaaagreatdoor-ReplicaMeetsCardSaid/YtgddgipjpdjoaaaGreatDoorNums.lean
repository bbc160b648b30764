/-
  The walks of text.named, text.Name.
  The walk of num.hold: at whatever numbers.
  append of one new element onto a row of the call's own, of elements of whatever size.
  Plain Lean, no program in sight: what the machine's bit operations are on the numbers that the bytes of numbers, texts and sums are made of.
  The walk of num.Put: at every number.
  The walk of num.Take: at every text.
  The walks of num.PutInt, TakeInt, PutText, Fixed.
  The walks of num.TakeText, TakeFixed.
-/
import Derived.Test.YtgddgipjpdjoaaaGreatDoorEnv
import Derived.Test.YtgddgipjpdjoaaaGreatDoorProg
import Derived.Test.YtgddgipjpdjoaaaGreatDoorPln
import Derived.WalkKit
import Derived.WalkSpells
import Derived.WalkLawsBesides
import Derived.Lib.Hide
import Derived.IntWalk
import Derived.Laws.BitsLemmas
import Derived.Lib.ConvBytes
import Derived.BigQuiet
namespace Go.Proofs.YtgddgipjpdjoaaaGreatDoor
open Go.RowKit Go.Shelf
theorem ret_bool {a b : Bool} (h : a = b) : Ending.returned (.bool a) = .returned (.bool b) := by rw [h]
theorem beq_of {a b : Bool} (h : a = true ↔ b = true) : a = b := by cases a <;> cases b <;> simp_all
set_option maxHeartbeats 1000000 in
theorem named_any (r : Int) (w : World) (b : Bool) (hb : Txt.named r = b) : Calls Tryz.prog 160 #[.int .i32 r] w fun e w' => e = .returned (.bool b) ∧ w = w' := by
 subst hb
 go_enter Tryz.func160, Tryz.ntmps160
 go_wp2
 all_goals (go_ret; refine ⟨ret_bool ?_, rfl⟩; first | rfl | (refine beq_of ?_; simp only [Txt.named, Bool.or_eq_true, decide_eq_true_eq, beq_iff_eq, true_iff]; omega))
def allNamed (ts : List (Int × List UInt8)) : Bool := ts.all fun t => Txt.named t.1
def nameFrom (m : Nat) (ts : List (Int × List UInt8)) : Bool := decide (1 ≤ m + ts.length) && decide (m + ts.length ≤ 32) && allNamed ts
theorem nameFrom_more (m : Nat) (t : Int × List UInt8) (ts : List (Int × List UInt8)) (h : 32 ≤ m) : nameFrom m (t :: ts) = false := by
 simp [nameFrom]; omega
theorem nameFrom_not (m : Nat) (t : Int × List UInt8) (ts : List (Int × List UInt8)) (h : Txt.named t.1 = false) : nameFrom m (t :: ts) = false := by
 simp [nameFrom, allNamed, h]
theorem nameFrom_next (m : Nat) (t : Int × List UInt8) (ts : List (Int × List UInt8)) (h : Txt.named t.1 = true) : nameFrom m (t :: ts) = nameFrom (m + 1) ts := by
 have e : m + (t :: ts).length = m + 1 + ts.length := by simp only [List.length_cons]; omega
 simp only [nameFrom, allNamed, List.all_cons, h, Bool.true_and, e]
set_option maxHeartbeats 1000000 in
set_option maxRecDepth 100000 in
theorem name_any (s : ByteArray) (w : World) (hE : Env w) (hs : s.size ≤ 1000000000000) :
   Calls Tryz.prog 95 #[.string s] w fun e w' => e = .returned (.bool (Txt.name s.data.toList)) ∧ Below w.heap.size w w' := by
 have hN : Txt.name s.data.toList = nameFrom 0 (Txt.toks (s.data.toList.drop 0)) := by simp [Txt.name, nameFrom, allNamed]
 have HN := Lib.hid hN; clear hN
 go_enter Tryz.func95, Tryz.ntmps95
 go_wp2
 go_loopw [3] (fun v wr => ∃ (pos m : Nat), v = .int .i64 m ∧ m ≤ 32 ∧ wr.heap[w.heap.size]? = some (.stringIter s pos) ∧ Below w.heap.size w wr ∧ Txt.name s.data.toList = nameFrom m (Txt.toks (s.data.toList.drop pos)) ∧ Env wr) (fun _ wr => s.size - wr.iterPos w.heap.size)
 case atStart =>
   have hit := World.iter_heap w s 0
   exact ⟨0, 0, rfl, by omega, by simpa using hit, (Below.refl _ _).alloc (Nat.le_refl _) _, HN.out, hE.next ((Below.refl _ _).alloc (Nat.le_refl _) _)⟩
 case round =>
   obtain ⟨pos, m, rfl, hm, hit, hbw, hnm, hEr⟩ := hrel
   have HA := Lib.hid hnm; clear hnm HN
   have hsz : w.heap.size < wr.heap.size := (Array.getElem?_eq_some_iff.1 hit).1
   by_cases hp : pos < s.size
   · obtain ⟨r, n, k, hd, htk, hn1, hn2, hsh, hrk⟩ := next_tok s pos hp
     have hnx : ∀ ty, (Instr.next (.pointer (some ⟨w.heap.size, 0, none⟩)) true ty).run Tryz.prog wr = _ := fun ty => Lib.run_next_any_at wr w.heap.size s pos ty hit hp
     rw [hd] at hnx
     simp only at hnx
     have hit2 := Lib.iterAt_heap wr w.heap.size s pos (pos + n) hit
     have hbw2 := Lib.below_iterAt hbw (k := w.heap.size) (by omega) s (pos + n)
     have hE2 := hEr.iterAt hit (pos + n)
     have hsz2 : w.heap.size < (wr.iterAt w.heap.size s (pos + n)).heap.size := by rw [Lib.iterAt_size]; omega
     have HD := Lib.hid hd; have HT := Lib.hid htk; have HH := Lib.hid hrk
     clear hd htk hrk hsh
     by_cases h32 : m = 32
     · subst h32
       go_wp2
       go_ret
       exact ⟨ret_bool (by rw [HA.out, HT.out, nameFrom_more _ _ _ (by omega)]), hbw2⟩
     · by_cases hnk : Txt.named (k : Int) = true
       · have HNK := Lib.hid hnk; clear hnk
         go_wp2_with fail
         refine (named_any _ _ true HNK.out).mono ?_
         rintro e W0 ⟨rfl, rfl⟩
         by_cases hbad : r = -1
         · obtain ⟨rfl, rfl⟩ : k = 65533 ∧ n = 1 := by have := HH.out; omega
           go_wp2_with fail
           refine (wrong_any s pos 65533 1 _ hE2 hs hp HD.out true (by rfl)).mono ?_
           rintro e W1 ⟨rfl, b1⟩
           go_wp2
           go_ret
           exact ⟨ret_bool (by rw [HA.out, HT.out, nameFrom_not _ _ _ (by rw [hbad]; rfl)]), Below.up hbw2 (by omega) b1⟩
         · have HW := Lib.hid (show ¬ (k = 65533 ∧ n = 1) by have := HH.out; omega)
           have hrk : r = k := by have := HH.out; omega
           clear HH hbad
           subst hrk
           go_wp2_with fail
           refine (wrong_any s pos k n _ hE2 hs hp HD.out false (by have := HW.out; simp <;> omega)).mono ?_
           rintro e W1 ⟨rfl, b1⟩
           have hit3 := heap_kept b1 (Nat.le_refl _) hit2; have hbw3 := Below.up hbw2 (by omega) b1; have hE3 := hE2.next b1
           have QF := Lib.hid (show Txt.name s.data.toList = nameFrom (m + 1) (Txt.toks (s.data.toList.drop (pos + n))) by rw [HA.out, HT.out, nameFrom_next _ _ _ HNK.out])
           clear b1
           go_wp2
           go_roundw
           case rel => exact ⟨pos + n, m + 1, by go_num, by omega, hit3, hbw3, QF.out, hE3⟩
           case measure => simp only [World.iterPos, hit3, hit]; omega
       · have HNK := Lib.hid (show Txt.named (k : Int) = false by simpa using hnk); clear hnk
         go_wp2_with fail
         refine (named_any _ _ false HNK.out).mono ?_
         rintro e W0 ⟨rfl, rfl⟩
         go_wp2
         go_ret
         refine ⟨ret_bool ?_, hbw2⟩
         rw [HA.out, HT.out]
         rcases HH.out with ⟨h1, h2, _⟩ | ⟨_, h2, _⟩
         · rw [nameFrom_not _ _ _ (by rw [h1]; rfl)]
         · rw [nameFrom_not _ _ _ (by rw [h2]; exact HNK.out)]
   · have hnx : ∀ ty, (Instr.next (.pointer (some ⟨w.heap.size, 0, none⟩)) true ty).run Tryz.prog wr = _ := fun ty => Lib.run_next_end_at wr w.heap.size s pos ty hit hp
     go_wp2
     go_ret
     have hq := HA.out
     rw [List.drop_eq_nil_of_le (by rw [← Lib.size_eq]; omega), Txt.toks_nil] at hq
     refine ⟨ret_bool (beq_of ?_), hbw⟩
     rw [hq]; simp [nameFrom, allNamed]; omega
end Go.Proofs.YtgddgipjpdjoaaaGreatDoor
namespace Go.Proofs.YtgddgipjpdjoaaaGreatDoor
open Go.RowKit
theorem ret_i64 {a b : Int} (h : a = b) : Ending.returned (.int .i64 a) = .returned (.int .i64 b) := by rw [h]
theorem hold_any (x least most : Int) (w : World) (r : Int) (hr : r = max least (min x most)) : Calls Tryz.prog 158 #[.int .i64 x, .int .i64 least, .int .i64 most] w fun e w' => e = .returned (.int .i64 r) ∧ w = w' := by
 go_enter Tryz.func158, Tryz.ntmps158
 go_wp2
 all_goals (go_ret; refine ⟨ret_i64 ?_, rfl⟩; omega)
theorem held_eq (n : Int) : ((Num.held n : Nat) : Int) = max 0 (min n 1099511627776) := by unfold Num.held; split <;> (try split) <;> omega
theorem putHold_any (n : Int) (w : World) : Calls Tryz.prog 158 #[.int .i64 n, .int .i64 0, .int .i64 1099511627776] w fun e w' => e = .returned (.int .i64 (Num.held n : Nat)) ∧ w = w' :=
 hold_any n 0 1099511627776 w _ (held_eq n)
theorem heldInt_eq (n : Int) : Num.heldInt n = max (-549755813888) (min n 549755813888) := by unfold Num.heldInt; split <;> (try split) <;> omega
theorem intHold_any (n : Int) (w : World) : Calls Tryz.prog 158 #[.int .i64 n, .int .i64 (-549755813888), .int .i64 549755813888] w fun e w' => e = .returned (.int .i64 (Num.heldInt n)) ∧ w = w' :=
 hold_any n _ _ w _ (heldInt_eq n)
end Go.Proofs.YtgddgipjpdjoaaaGreatDoor
namespace Go.Proofs.YtgddgipjpdjoaaaGreatDoor
open Go.RowKit Go.Shelf
theorem below_drewN {B : Nat} {a w : World} (h : Below B a w) (n : Nat) : Below B a (w.drewN n) := ⟨h.os, h.tape, h.output, h.size, h.block⟩
theorem add_lists (w : World) (a b : ByteArray) (c : ByteArray) (h : a.size + b.size ≤ 1000000000000000) (hc : a.data.toList ++ b.data.toList = c.data.toList) : (Op.stringOp .add a b).run Tryz.prog w = .ok (.string c) w := by
 rw [run_string_add_sum w a b (by omega)]
 have e : a ++ b = c := by
   apply ByteArray.ext
   rw [ByteArray.data_append]
   exact Array.toList_inj.1 (by rw [Array.toList_append]; exact hc)
 rw [e]
theorem str_of (l : List UInt8) : ∃ r : ByteArray, (⟨l.toArray⟩ : ByteArray) = r ∧ r.data.toList = l ∧ r.size = l.length := ⟨_, rfl, rfl, by rw [Lib.size_eq]⟩
structure ElemT (P : Program) (t e : TypeId) (sz : Nat) : Prop where
 und : P.underlying t = some (.slice e)
 info : ∃ i z bytes, P.info? e = some i ∧ i.zero = some z ∧ i.size = sz ∧ i.bytes = bytes ∧ z.cells.size = sz ∧ bytes ≤ 128
 pos : 0 < sz
theorem cells_top (w : World) (cs : List Value) (e : TypeId) : ∀ (j : Nat) (u : Value), cs[j]? = some u → (w.alloc (.cells cs.toArray e)).cell? ((⟨w.heap.size, 0, none⟩ : Addr).add j) = some u := by
 intro j u hj
 rw [show ((⟨w.heap.size, 0, none⟩ : Addr).add j) = ⟨w.heap.size, j, none⟩ by unfold Addr.add; split <;> simp_all]
 have hb : (w.alloc (.cells cs.toArray e)).heap[w.heap.size]? = some (.cells cs.toArray e (0, 0)) := heap_alloc_new w _
 rw [Lib.cell_of_heap hb]
 simpa using hj
theorem grown_of_alloc {w w' : World} {o : Obj} {r : Option Nat} (h : (w.alloc o).grownBy w' r) : w.grownBy w' r :=
 ⟨h.os, h.tape, h.output, by have := h.size; simp at this; omega, fun k hk hr => by rw [h.block k (by simp; omega) hr, Below.heap_alloc _ _ _ hk]⟩
theorem wpList_append_new {P : Program} {ops : Array Oper} {rest : List Oper} {o : Oper} {a : Act} {Q : Exit → Act → World → Prop} (hgd : o.guard = none) (s x : Operand) (t : TypeId)
   (ho : o.op = .call { callee := .builtin .append, args := #[s, x], argTypes := #[t, t] }) {e : TypeId} {sz : Nat} (E : ElemT P t e sz) {B : Nat} {a0 w0 : World} {v : Value} {n : Nat} {xs : List Value} (hs : a.eval s = v)
   (hown : w0.ownsRow B e sz v n xs) (hb : Below B a0 w0) (hB : B ≤ w0.heap.size) (cs : List Value) (ne : TypeId) (hx : a.eval x = .slice (some ⟨w0.heap.size, 0, none⟩) 1 1) (hcs : cs.length = sz) (h1 : ∀ u ∈ cs, u.oneCell' = true) (hn : n ≤ 1000000000)
   (h : ∀ v' w', w'.ownsRow B e sz v' (n + 1) (xs ++ cs) → w0.grownBy w' v.ownBlock → Below B a0 w' → w0.heap.size < w'.heap.size → wpList P ops Q rest (a.put o.dst v') w') : wpList P ops Q (o :: rest) a (w0.alloc (.cells cs.toArray ne)) := by
 obtain ⟨i, z, bytes, h2, h3, h4, h5, h6, h7⟩ := E.info
 refine wpList_append_own _ hgd s x t ho B e i z sz bytes E.und h2 h3 h4 h5 h6 E.pos v n xs hs (hown.alloc _) ⟨w0.heap.size, 0, none⟩ 1 1 cs hx (by omega) (cells_top w0 cs ne) h1 (by unfold maxLen; omega) ?_ (by simp; omega) ?_
 · have : (n + 1) * bytes ≤ (n + 1) * 128 := Nat.mul_le_mul_left _ h7
   omega
 · intro v' w' hown' hgrow _
   exact h v' w' hown' (grown_of_alloc hgrow) ((hb.alloc hB _).grown hgrow (by simp; omega) (fun k hk => (hown.lt k hk).1)) (by have := hgrow.size; simp at this; omega)
theorem wpList_append_newG {P : Program} {ops : Array Oper} {rest : List Oper} {o : Oper} {a : Act} {Q : Exit → Act → World → Prop} (hgd : o.guard = none) (s x : Operand) (t : TypeId)
   (ho : o.op = .call { callee := .builtin .append, args := #[s, x], argTypes := #[t, t] }) {e : TypeId} {sz : Nat} (E : ElemT P t e sz) {B : Nat} {a0 w0 : World} {v : Value} {n : Nat} {xs : List Value} (hs : a.eval s = v)
   (hown : w0.ownsRow B e sz v n xs) (hb : Below B a0 w0) (hB : B ≤ w0.heap.size) (cs : List Value) (ne : TypeId) {g : Nat} (hx : a.eval x = .slice (some ⟨g, 0, none⟩) 1 1) (hg : g = w0.heap.size) (hcs : cs.length = sz) (h1 : ∀ u ∈ cs, u.oneCell' = true) (hn : n ≤ 1000000000)
   (h : ∀ v' w', w'.ownsRow B e sz v' (n + 1) (xs ++ cs) → w0.grownBy w' v.ownBlock → Below B a0 w' → w0.heap.size < w'.heap.size → wpList P ops Q rest (a.put o.dst v') w') : wpList P ops Q (o :: rest) a (w0.alloc (.cells cs.toArray ne)) := by
 subst hg
 exact wpList_append_new hgd s x t ho E hs hown hb hB cs ne hx hcs h1 hn h
theorem byteT : ElemT Tryz.prog 266 5 1 := by
 obtain ⟨i0, hi, hz0, hz1, hz2⟩ := info_parts byte_info
 exact ⟨Tryz.underlying266, ⟨i0, _, 1, hi, hz0, hz1, hz2, rfl, by omega⟩, by omega⟩
theorem byteCells_snoc (l : List UInt8) (c : UInt8) (n : Int) (h : (c.toNat : Int) = n) : Lib.byteCells l ++ [.int .u8 n] = Lib.byteCells (l ++ [c]) := by subst h; simp [Lib.byteCells]
end Go.Proofs.YtgddgipjpdjoaaaGreatDoor
namespace Go.Proofs.YtgddgipjpdjoaaaGreatDoor
open Go.RowKit
theorem wraps_i64 (n : Int) (h₀ : 0 ≤ n) (h₁ : n < 2 ^ 62) : IntKind.i64.wrap n = n := by rw [IntKind.wrap_i64]; omega
theorem wraps_u32 (n : Int) (h₀ : 0 ≤ n) (h₁ : n < 2 ^ 32) : IntKind.u32.wrap n = n := by rw [IntKind.wrap_u32]; omega
theorem xor_nat (k : IntKind) (j : Nat) (hj : j ≤ k.bits) (hk : ∀ n : Int, 0 ≤ n → n < 2 ^ j → k.wrap n = n) (a b : Nat) (ha : a < 2 ^ j) (hb : b < 2 ^ j) : bits .xor k a b = ((a ^^^ b : Nat) : Int) := by
 have hp : 2 ^ j ≤ 2 ^ k.bits := Nat.pow_le_pow_right (by decide) hj
 have ha' : a % 2 ^ k.bits = a := Nat.mod_eq_of_lt (Nat.lt_of_lt_of_le ha hp)
 have hb' : b % 2 ^ k.bits = b := Nat.mod_eq_of_lt (Nat.lt_of_lt_of_le hb hp)
 have cast : ∀ n : Nat, n < 2 ^ j → ((n : Nat) : Int) < 2 ^ j := fun n h => by exact_mod_cast h
 simp only [bits, BitVec.ofInt_natCast, BitVec.toNat_xor, BitVec.toNat_ofNat, ha', hb']
 exact hk _ (Int.natCast_nonneg _) (cast _ (Nat.xor_lt_two_pow ha hb))
theorem xor32 (a b : Nat) (ha : a < 4294967296) (hb : b < 4294967296) : bits .xor .u32 a b = ((a ^^^ b : Nat) : Int) := xor_nat .u32 32 (by decide) wraps_u32 a b ha hb
theorem xor8 (a b : Nat) (ha : a < 256) (hb : b < 256) : bits .xor .u8 a b = ((a ^^^ b : Nat) : Int) := xor_nat .u8 8 (by decide) wraps_u8 a b ha hb
theorem and8_127 (a : Nat) (ha : a < 256) : bits .and .u8 a 127 = ((a % 128 : Nat) : Int) := by
 have := bits_mask .u8 8 (by decide) wraps_u8 7 (by decide) (a : Int) (by omega) (by omega)
 exact_mod_cast this
theorem and8_15 (a : Nat) (ha : a < 256) : bits .and .u8 a 15 = ((a % 16 : Nat) : Int) := by
 have := bits_mask .u8 8 (by decide) wraps_u8 4 (by decide) (a : Int) (by omega) (by omega)
 exact_mod_cast this
theorem and32_1 (a : Nat) (ha : a < 4294967296) : bits .and .u32 a 1 = ((a % 2 : Nat) : Int) := by
 have := bits_mask .u32 32 (by decide) wraps_u32 1 (by decide) (a : Int) (by omega) (by omega)
 exact_mod_cast this
theorem and64_1 (a : Nat) (ha : a < 4611686018427387904) : bits .and .i64 a 1 = ((a % 2 : Nat) : Int) := by
 have := bits_mask .i64 62 (by decide) wraps_i64 1 (by decide) (a : Int) (by omega) (by omega)
 exact_mod_cast this
set_option maxRecDepth 100000 in
theorem and8_128 (a : Nat) (ha : a < 256) : (bits .and .u8 a 128 != 0) = decide (128 ≤ a) := by
 have : ∀ k : Fin 256, (bits .and .u8 (k.1 : Int) 128 != 0) = decide (128 ≤ k.1) := by decide
 exact this ⟨a, ha⟩
theorem or_low (k : IntKind) (j : Nat) (hj : j ≤ k.bits) (hk : ∀ n : Int, 0 ≤ n → n < 2 ^ j → k.wrap n = n) (n m i : Nat) (hn : n < 2 ^ i) (hi : m * 2 ^ i < 2 ^ j) (hij : i ≤ j) :
   bits .or k n ((m * 2 ^ i : Nat) : Int) = ((n + m * 2 ^ i : Nat) : Int) := by
 have h1 : n < 2 ^ j := Nat.lt_of_lt_of_le hn (Nat.pow_le_pow_right (by decide) hij)
 rw [(bits_nat k j hj hk n (m * 2 ^ i) h1 hi).2, Nat.or_comm, Nat.mul_comm m, ← Nat.two_pow_add_eq_or_of_lt hn m, Nat.add_comm]
theorem or_high (k : IntKind) (j : Nat) (hj : j ≤ k.bits) (hk : ∀ n : Int, 0 ≤ n → n < 2 ^ j → k.wrap n = n) (n m i : Nat) (hn : n < 2 ^ i) (hi : m * 2 ^ i < 2 ^ j) (hij : i ≤ j) :
   bits .or k ((m * 2 ^ i : Nat) : Int) n = ((m * 2 ^ i + n : Nat) : Int) := by
 have h1 : n < 2 ^ j := Nat.lt_of_lt_of_le hn (Nat.pow_le_pow_right (by decide) hij)
 rw [(bits_nat k j hj hk (m * 2 ^ i) n hi h1).2, Nat.mul_comm m, ← Nat.two_pow_add_eq_or_of_lt hn m]
theorem pow128 (i : Nat) : 128 ^ i = 2 ^ (7 * i) := by rw [Nat.pow_mul]
theorem pow128_le (i : Nat) (h : i < 6) : 128 ^ i ≤ 34359738368 := Nat.le_trans (Nat.pow_le_pow_right (by decide) (show i ≤ 5 by omega)) (by decide)
theorem take_or (n c i : Nat) (hc : c < 256) (hi : i < 6) (hn : n < 128 ^ i) :
   bits .or .i64 n (wrap64 (wrap64 (bits .and .u8 c 127) * 2 ^ (7 * i))) = ((n + c % 128 * 128 ^ i : Nat) : Int) := by
 have hp := pow128_le i hi
 have h1 : c % 128 * 128 ^ i ≤ 127 * 34359738368 := Nat.mul_le_mul (by omega) hp
 have e1 : wrap64 (bits .and .u8 c 127) = ((c % 128 : Nat) : Int) := by rw [and8_127 c hc, IntWalk.wrap64_in]; omega
 have e2 : ((c % 128 : Nat) : Int) * 2 ^ (7 * i) = ((c % 128 * 2 ^ (7 * i) : Nat) : Int) := by simp
 rw [e1, e2, IntWalk.wrap64_in]
 · rw [pow128] at *
   exact or_low .i64 62 (by decide) wraps_i64 n _ (7 * i) hn (by omega) (by omega)
 · rw [← pow128]; omega
theorem take_next (n c i : Nat) (hn : n < 128 ^ i) : n + c % 128 * 128 ^ i < 128 ^ (i + 1) := by
 have h1 : c % 128 * 128 ^ i ≤ 127 * 128 ^ i := Nat.mul_le_mul_right _ (by omega)
 rw [Nat.pow_succ]; omega
theorem below_bytes (w : World) (e : TypeId) (s : ByteArray) : Below w.heap.size w (Lib.bytesWorld w e s) := by
 refine ⟨?_, ?_, ?_, ?_, ?_⟩
 · simp [Lib.bytesWorld, World.freeze, World.alloc, World.drew, -World.alloc_eq, -World.drew_eq]
 · simp [Lib.bytesWorld, World.freeze, World.alloc, World.drew, -World.alloc_eq, -World.drew_eq]
 · simp [Lib.bytesWorld, World.freeze, World.alloc, World.drew, -World.alloc_eq, -World.drew_eq]
 · rw [Lib.bytesWorld_size]; omega
 · intro k hk
   exact Lib.bytesWorld_at_old w e s k hk
theorem getD_at (s : ByteArray) (i : Nat) (h : i < s.size) : ∃ c : UInt8, s.data.toList.getD i 0 = c ∧ s.data.toList.drop i = c :: s.data.toList.drop (i + 1) := by
 have hl : i < s.data.toList.length := by rw [← Lib.size_eq]; exact h
 refine ⟨s.data.toList[i], ?_, ?_⟩
 · rw [List.getD_eq_getElem?_getD, List.getElem?_eq_getElem hl]; rfl
 · rw [List.drop_eq_getElem_cons hl]
theorem xor_ones (n : Int) (h1 : -9223372036854775808 ≤ n) (h2 : n ≤ 9223372036854775807) : bits .xor .i64 n (-1) = -n - 1 := by
 have e1 : BitVec.ofInt 64 (-1) = BitVec.allOnes 64 := by decide
 have e2 : bits .xor .i64 n (-1) = IntKind.i64.wrap ((~~~ (BitVec.ofInt 64 n)).toNat : Int) := by
   show IntKind.i64.wrap ((BitVec.ofInt 64 n ^^^ BitVec.ofInt 64 (-1)).toNat : Int) = _
   rw [e1, BitVec.xor_allOnes]
 rw [e2, BitVec.toNat_not, BitVec.toNat_ofInt, IntKind.wrap_i64]
 omega
theorem xor_zero (n : Int) (h1 : -9223372036854775808 ≤ n) (h2 : n ≤ 9223372036854775807) : bits .xor .i64 n 0 = n := by
 have e2 : bits .xor .i64 n 0 = IntKind.i64.wrap ((BitVec.ofInt 64 n).toNat : Int) := by
   show IntKind.i64.wrap ((BitVec.ofInt 64 n ^^^ BitVec.ofInt 64 0).toNat : Int) = _
   rw [show BitVec.ofInt 64 0 = 0#64 from rfl, BitVec.xor_zero]
 rw [e2, BitVec.toNat_ofInt, IntKind.wrap_i64]
 omega
end Go.Proofs.YtgddgipjpdjoaaaGreatDoor
namespace Go.Proofs.YtgddgipjpdjoaaaGreatDoor
open Go.RowKit Go.Shelf
set_option maxRecDepth 100000 in
theorem or128 (x : Int) (h0 : 0 ≤ x) (h1 : x < 256) : bits .or .u8 x 128 = x % 128 + 128 := by
 obtain ⟨k, rfl⟩ := Int.eq_ofNat_of_zero_le h0
 have : ∀ k : Fin 256, bits .or .u8 (k.1 : Int) 128 = (k.1 : Int) % 128 + 128 := by decide
 exact this ⟨k, by omega⟩
set_option maxHeartbeats 1000000 in
set_option maxRecDepth 100000 in
theorem numPut_any (n : Int) (w : World) :
   Calls Tryz.prog 91 #[.int .i64 n] w fun e w' => e = .returned (.string ⟨(Num.put (Num.held n)).toArray⟩) ∧ Below w.heap.size w w' := by
 have hh := Num.held_le n
 have hl6 := Num.put_le6 _ hh
 have HC := Lib.hid (putHold_any n w)
 obtain ⟨h, hhe⟩ : ∃ h, Num.held n = h := ⟨_, rfl⟩
 rw [hhe] at hh hl6 HC ⊢
 go_enter Tryz.func91, Tryz.ntmps91
 go_wp2_with fail
 refine HC.out.mono ?_
 rintro e w1 ⟨rfl, rfl⟩
 clear hhe HC
 go_wp2
 go_loopw [0, 3] (fun nv bv wr => ∃ (m : Nat) (acc : List UInt8), nv = .int .i64 (m : Int) ∧ m ≤ 1099511627776 ∧ wr.ownsRow w.heap.size 5 1 bv acc.length (Lib.byteCells acc) ∧ Below w.heap.size w wr ∧ acc ++ Num.put m = Num.put h) (fun nv _ _ => (intOf nv).toNat)
 case atStart => exact ⟨h, [], rfl, hh, World.ownsRow_nil _ _ _ _, Below.refl _ _, rfl⟩
 case round =>
   obtain ⟨m, acc, rfl, hm, hown, hbw, hacc⟩ := hrel
   have HA := Lib.hid hacc
   have hal : acc.length ≤ 6 := by rw [← hacc, List.length_append] at hl6; omega
   have hbs := hbw.size
   clear hacc
   by_cases hp : (128 : Int) ≤ m
   · have hq : bits .or .u8 ((m : Int) % 256) 128 = (m : Int) % 128 + 128 := by
       rw [or128 _ (by omega) (by omega)]; omega
     go_wp2_with (at_builtin; refine wpList_append_new rfl _ _ _ rfl byteT rfl hown hbw hbs _ _ rfl rfl (by simp [Value.oneCell']) (by omega) ?_)
     intro v' w2 hown' _ hbw2 _
     rw [byteCells_snoc acc (m % 128 + 128).toUInt8 _ (by rw [Num.toU8_nat _ (by omega)]; omega)] at hown'
     have HF := Lib.hid (show (acc ++ [(m % 128 + 128).toUInt8]) ++ Num.put (m / 128) = Num.put h by rw [← HA.out, Num.put_large m (by omega)]; simp)
     clear hown HA hq
     go_wp2
     exact ⟨⟨m / 128, acc ++ [(m % 128 + 128).toUInt8], by go_num, by omega, by simpa using hown', hbw2, HF.out⟩, by simp [intOf]; omega⟩
   · go_wp2_with (at_builtin; refine wpList_append_new rfl _ _ _ rfl byteT rfl hown hbw hbs _ _ rfl rfl (by simp [Value.oneCell']) (by omega) ?_)
     intro v' w2 hown' _ hbw2 _
     rw [byteCells_snoc acc m.toUInt8 _ (by rw [Num.toU8_nat _ (by omega)])] at hown'
     have HF := Lib.hid (show acc ++ [m.toUInt8] = Num.put h by rw [← HA.out, Num.put_small m (by omega)])
     have hstr := run_string_owned (acc := acc ++ [m.toUInt8]) (by simpa using hown')
     clear hown HA
     go_wp2
     go_ret
     rw [HF.out]
     exact ⟨rfl, hbw2⟩
theorem extract_to (s : ByteArray) (i : Nat) : (s.extract i s.size).data.toList = s.data.toList.drop i := Lib.extract_to_end s i
set_option maxHeartbeats 1000000 in
set_option maxRecDepth 100000 in
theorem numTake_any (s : ByteArray) (w : World) (hs : s.size ≤ 1000000000000) :
   Calls Tryz.prog 137 #[.string s] w fun e w' => ∃ (n : Nat) (r : ByteArray) (c : Nat), e = .returned (.tuple #[.int .i64 n, .string r, .int .i64 c]) ∧ Hid (Num.take s.data.toList = (n, r.data.toList, c)) ∧ Below w.heap.size w w' := by
 have hcv := Lib.run_convert_string_bytes (P := Tryz.prog) w 9 266 5 s (u := .string) Tryz.underlying9 Tryz.underlying266 Tryz.underlying5
 have hB : ∀ j, j < s.size → (Lib.bytesWorld w 5 s).cell? ⟨w.heap.size, j, none⟩ = some (.int .u8 (s.data.toList.getD j 0).toNat) := fun j hj => Lib.bytesWorld_cell w 5 s j hj
 have hbw0 := below_bytes w 5 s
 obtain ⟨W1, hW1⟩ : ∃ W1, W1 = Lib.bytesWorld w 5 s := ⟨_, rfl⟩
 rw [← hW1] at hcv hB hbw0
 clear hW1
 have HB := Lib.hid hB
 clear hB
 have HS := Lib.hid (show Num.takeF 0 0 (s.data.toList.drop 0) = Num.take s.data.toList from rfl)
 have HL := Lib.hid (Lib.size_eq s)
 go_enter Tryz.func137, Tryz.ntmps137
 go_wp2
 go_loopw [5, 11] (fun nv iv wr => ∃ (i n : Nat), nv = .int .i64 (n : Int) ∧ iv = .int .i64 (i : Int) ∧ i ≤ s.size ∧ i ≤ 6 ∧ n < 128 ^ i ∧ wr = W1 ∧ Num.takeF i n (s.data.toList.drop i) = Num.take s.data.toList) (fun _ iv _ => s.size - (intOf iv).toNat)
 case atStart => exact ⟨0, 0, rfl, rfl, by omega, by omega, by omega, rfl, HS.out⟩
 case round =>
   obtain ⟨i, n, rfl, rfl, hi, hi6, hn, rfl, hT⟩ := hrel
   have HT := Lib.hid hT
   clear hT HS
   by_cases hp : i < s.size
   · have hc := HB.out i hp
     obtain ⟨c, hcc, hdr⟩ := getD_at s i hp
     rw [hcc] at hc
     have HD := Lib.hid (HT.out.symm.trans (congrArg (Num.takeF i n) hdr))
     clear hdr hcc
     have hcl : c.toNat < 256 := c.toNat_lt
     obtain ⟨k, hk⟩ : ∃ k, c.toNat = k := ⟨_, rfl⟩
     rw [hk] at hc hcl
     by_cases h6 : i = 6
     · subst h6
       have HF := Lib.hid (show Num.take s.data.toList = (0, [], 2) by rw [HD.out, Num.takeF, if_pos rfl])
       clear hn
       go_wp2
       go_ret3
       exact ⟨0, _, 2, rfl, HF.out, hbw0⟩
     · have h6' : ((i : Int) == 6) = false := by simp; omega
       have hO := take_or n k i hcl (by omega) hn
       have hN := take_next n k i hn
       have hA := and8_128 k hcl
       have HN := Lib.hid hN
       have hm0 : n + k % 128 * 128 ^ i < 4611686018427387904 := by
         have h1 := Nat.pow_le_pow_right (n := 128) (by decide) (show i + 1 ≤ 6 by omega)
         have h2 : (128 : Nat) ^ 6 = 4398046511104 := by decide
         omega
       obtain ⟨m, hm⟩ : ∃ m, n + k % 128 * 128 ^ i = m := ⟨_, rfl⟩
       rw [hm] at hO HN hm0
       have HM := Lib.hid hm
       have HK := Lib.hid hk
       clear hm hk hN hn
       by_cases hc8 : 128 ≤ k
       · rw [decide_eq_true hc8] at hA
         have HF := Lib.hid (show Num.takeF (i + 1) m (s.data.toList.drop (i + 1)) = Num.take s.data.toList by
           rw [HD.out, Num.takeF, if_neg h6, if_pos (by rw [HK.out]; exact hc8), HK.out, HM.out])
         go_wp2
         exact ⟨⟨i + 1, m, rfl, by go_num, by omega, by omega, HN.out, trivial, HF.out⟩, by simp [intOf]; omega⟩
       · rw [decide_eq_false hc8] at hA
         have HD2 := Lib.hid (show Num.take s.data.toList = if k = 0 ∧ 0 < i then (0, [], 2) else if 1099511627776 < m then (0, [], 4) else (m, s.data.toList.drop (i + 1), 0) by
           rw [HD.out, Num.takeF, if_neg h6, if_neg (by rw [HK.out]; exact hc8), HK.out, HM.out])
         by_cases hz : k = 0 ∧ 0 < i
         · obtain ⟨hz1, hz2⟩ := hz
           subst hz1
           have hi0 : (0 : Int) < i := by omega
           have HF := Lib.hid (show Num.take s.data.toList = (0, [], 2) by rw [HD2.out, if_pos ⟨rfl, hz2⟩])
           clear HD HD2 HM HK HT
           go_wp2
           go_ret3
           exact ⟨0, _, 2, rfl, HF.out, hbw0⟩
         · have hzb : ((k : Int) == 0) = false ∨ (((k : Int) == 0) = true ∧ ¬ (0 : Int) < i) := by
             by_cases hk0 : k = 0
             · right; simp [hk0]; omega
             · left; simp; omega
           by_cases hm1 : 1099511627776 < m
           · have hm2 : (1099511627776 : Int) < m := by omega
             have HF := Lib.hid (show Num.take s.data.toList = (0, [], 4) by rw [HD2.out, if_neg hz, if_pos hm1])
             clear HD HD2 HM HK HT hz
             rcases hzb with hzb | ⟨hzb, hzc⟩
             · go_wp2
               go_ret3
               exact ⟨0, _, 4, rfl, HF.out, hbw0⟩
             · go_wp2
               go_ret3
               exact ⟨0, _, 4, rfl, HF.out, hbw0⟩
           · have hm2 : ¬ (1099511627776 : Int) < m := by omega
             have HF := Lib.hid (show Num.take s.data.toList = (m, (s.extract (i + 1) s.size).data.toList, 0) by rw [HD2.out, if_neg hz, if_neg hm1, extract_to])
             clear HD HD2 HM HK HT hz
             rcases hzb with hzb | ⟨hzb, hzc⟩
             · go_wp2
               go_quiet (fail)
               go_wp2
               go_ret3
               exact ⟨m, _, 0, rfl, HF.out, below_drewN hbw0 _⟩
             · go_wp2
               go_quiet (fail)
               go_wp2
               go_ret3
               exact ⟨m, _, 0, rfl, HF.out, below_drewN hbw0 _⟩
   · obtain rfl : i = s.size := by omega
     have HF := Lib.hid (show Num.take s.data.toList = (0, [], 3) by rw [← HT.out, List.drop_of_length_le (by have := HL.out; omega)]; rfl)
     go_wp2
     go_ret3
     exact ⟨0, _, 3, rfl, HF.out, hbw0⟩
theorem numPutS (n : Int) (w : World) :
   Calls Tryz.prog 91 #[.int .i64 n] w fun e w' => ∃ r : ByteArray, e = .returned (.string r) ∧ Hid (r.data.toList = Num.put (Num.held n)) ∧ r.size ≤ 6 ∧ Below w.heap.size w w' := by
 refine (numPut_any n w).mono ?_
 rintro e w1 ⟨rfl, hb⟩
 have h6 := Num.put_le6 _ (Num.held_le n)
 exact ⟨_, rfl, rfl, by rw [Lib.size_eq]; exact h6, hb⟩
theorem zig_bits (h : Int) (h1 : -549755813888 ≤ h) (h2 : h ≤ 549755813888) : bits .xor .i64 (h * 2) (h / 9223372036854775808) = ((Num.zig h : Nat) : Int) := by
 unfold Num.zig
 split
 · rw [show h / 9223372036854775808 = 0 by omega, xor_zero _ (by omega) (by omega)]; omega
 · rw [show h / 9223372036854775808 = -1 by omega, xor_ones _ (by omega) (by omega)]; omega
theorem zag_bits (m : Nat) (hm : m ≤ 1099511627776) : bits .xor .i64 ((m : Int) / 2) (wrap64 (-bits .and .i64 (m : Int) 1)) = Num.zag m := by
 rw [and64_1 m (by omega)]
 unfold Num.zag
 rcases Nat.mod_two_eq_zero_or_one m with h | h
 · rw [h, if_pos rfl, show wrap64 (-((0 : Nat) : Int)) = 0 by rw [IntWalk.wrap64_in] <;> omega, xor_zero _ (by omega) (by omega)]; omega
 · rw [h, if_neg (by omega), show wrap64 (-((1 : Nat) : Int)) = -1 by rw [IntWalk.wrap64_in] <;> omega, xor_ones _ (by omega) (by omega)]; omega
theorem putInt_any (n : Int) (w : World) :
   Calls Tryz.prog 295 #[.int .i64 n] w fun e w' => ∃ r : ByteArray, e = .returned (.string r) ∧ Hid (r.data.toList = Num.putInt n) ∧ r.size ≤ 6 ∧ Below w.heap.size w w' := by
 have hh := Num.heldInt_le n
 have hz := Num.zig_le n
 have HC := Lib.hid (intHold_any n w)
 have HP := Lib.hid (show Num.putInt n = Num.put (Num.zig (Num.heldInt n)) from rfl)
 obtain ⟨h, hhe⟩ : ∃ h, Num.heldInt n = h := ⟨_, rfl⟩
 rw [hhe] at hh HC HP hz
 clear hhe
 go_enter Tryz.func295, Tryz.ntmps295
 go_wp2_with fail
 refine HC.out.mono ?_
 rintro e w1 ⟨rfl, rfl⟩
 clear HC
 go_wp2_with fail
 rw [zig_bits h hh.1 hh.2]
 refine (numPutS _ w).mono ?_
 rintro e w1 ⟨r, rfl, hr, hr6, hb⟩
 rw [Num.held_of _ hz] at hr
 go_wp2
 go_ret
 exact ⟨r, rfl, hr.out.trans HP.out.symm, hr6, hb⟩
theorem takeInt_any (s : ByteArray) (w : World) (hs : s.size ≤ 1000000000000) :
   Calls Tryz.prog 314 #[.string s] w fun e w' => ∃ (n : Int) (r : ByteArray) (c : Nat), e = .returned (.tuple #[.int .i64 n, .string r, .int .i64 c]) ∧ Hid (Num.takeInt s.data.toList = (n, r.data.toList, c)) ∧ Below w.heap.size w w' := by
 go_enter Tryz.func314, Tryz.ntmps314
 go_wp2_with fail
 refine (numTake_any s w hs).mono ?_
 rintro e w1 ⟨n, r, c, rfl, HT, hb⟩
 have hn : n ≤ 1099511627776 := by have := (Num.take_le s.data.toList).1; rw [HT.out] at this; exact this
 have hz := zag_bits n hn
 have HF := Lib.hid (show Num.takeInt s.data.toList = (Num.zag n, r.data.toList, c) by unfold Num.takeInt; rw [HT.out])
 go_wp2
 go_ret3
 exact ⟨_, r, c, rfl, HF, hb⟩
theorem putText_any (s : ByteArray) (w : World) (hs : s.size ≤ 1000000000000) :
   Calls Tryz.prog 294 #[.string s] w fun e w' => ∃ r : ByteArray, e = .returned (.string r) ∧ Hid (r.data.toList = Num.putText s.data.toList) ∧ r.size ≤ s.size + 6 ∧ Below w.heap.size w w' := by
 have HP := Lib.hid (show Num.putText s.data.toList = Num.put (Num.held (s.size : Int)) ++ s.data.toList by rw [Lib.size_eq]; rfl)
 go_enter Tryz.func294, Tryz.ntmps294
 go_wp2_with fail
 refine (numPutS _ w).mono ?_
 rintro e w1 ⟨r, rfl, HR, hr6, hb⟩
 obtain ⟨q, hq, hq2, hq3⟩ := str_of (Num.putText s.data.toList)
 have hadd : ∀ w, (Op.stringOp .add r s).run Tryz.prog w = .ok (.string q) w := fun w => add_lists w r s q (by omega) (by rw [HR.out, hq2, HP.out])
 have hqs : q.size ≤ s.size + 6 := by rw [hq3, HP.out, ← HR.out, List.length_append, ← Lib.size_eq, ← Lib.size_eq]; omega
 have HQ := Lib.hid hq2
 clear hq hq2 hq3 HR HP
 go_wp2
 go_ret
 exact ⟨q, rfl, HQ, hqs, hb⟩
theorem fixed_cells (n : Nat) (hn : n < 4294967296) : [Value.int .u8 ((n : Int) / 16777216), .int .u8 ((n : Int) / 65536 % 256), .int .u8 ((n : Int) / 256 % 256), .int .u8 ((n : Int) % 256)] = Lib.byteCells (Num.fixed n) := by
 simp only [Num.fixed, Lib.byteCells, List.map_cons, List.map_nil, Num.toU8_mod]
 congr 2
 omega
set_option maxRecDepth 100000 in
theorem fixed_any (n : Nat) (w : World) (hn : n < 4294967296) :
   Calls Tryz.prog 156 #[.int .u32 n] w fun e w' => ∃ r : ByteArray, e = .returned (.string r) ∧ Hid (r.data.toList = Num.fixed n) ∧ r.size = 4 ∧ Below w.heap.size w w' := by
 have hown : (w.alloc (.cells #[.int .u8 ((n : Int) / 16777216), .int .u8 ((n : Int) / 65536 % 256), .int .u8 ((n : Int) / 256 % 256), .int .u8 ((n : Int) % 256)] 5)).ownsRow w.heap.size 5 1 (.slice (some ⟨w.heap.size, 0, none⟩) 4 4) (Num.fixed n).length (Lib.byteCells (Num.fixed n)) :=
   ⟨rfl, .inr ⟨w.heap.size, 4, _, rfl, Nat.le_refl _, heap_alloc_new w _, Nat.le_refl _, by decide, rfl, fixed_cells n hn⟩⟩
 have hstr := run_string_owned hown
 clear hown
 obtain ⟨q, hq, hq2, hq3⟩ := str_of (Num.fixed n)
 rw [hq] at hstr
 have HQ := Lib.hid hq2
 clear hq hq2
 go_enter Tryz.func156, Tryz.ntmps156
 go_wp2
 go_ret
 exact ⟨q, rfl, HQ, hq3, (Below.refl _ _).alloc (Nat.le_refl _) _⟩
theorem extract_front (s : ByteArray) (n : Nat) : (s.extract 0 n).data.toList = s.data.toList.take n := by simp [ByteArray.data_extract, List.extract_eq_take_drop]
theorem extract_front_size (s : ByteArray) (n : Nat) (h : n ≤ s.size) : (s.extract 0 n).size = n := by simp [ByteArray.size_extract, h]
set_option maxHeartbeats 1000000 in
theorem takeText_any (s : ByteArray) (long : Int) (w : World) (hs : s.size ≤ 1000000000000) :
   Calls Tryz.prog 222 #[.string s, .int .i64 long] w fun e w' => ∃ (a r : ByteArray) (c : Nat), e = .returned (.tuple #[.string a, .string r, .int .i64 c]) ∧ Hid (Num.takeText s.data.toList long = (a.data.toList, r.data.toList, c)) ∧ Below w.heap.size w w' := by
 go_enter Tryz.func222, Tryz.ntmps222
 go_wp2_with fail
 refine (numTake_any s w hs).mono ?_
 rintro e w1 ⟨n, r, c, rfl, HT, hb⟩
 have HU := Lib.hid (show Num.takeText s.data.toList long = if c ≠ 0 then ([], [], c) else if long < (n : Int) then ([], [], 4) else if r.data.toList.length < n then ([], [], 3) else (r.data.toList.take n, r.data.toList.drop n, 0) by unfold Num.takeText; rw [HT.out])
 have hrs : r.size ≤ s.size := by have := (Num.take_le s.data.toList).2.1; rw [HT.out, ← Lib.size_eq, ← Lib.size_eq] at this; exact this
 have hn : n ≤ 1099511627776 := by have := (Num.take_le s.data.toList).1; rw [HT.out] at this; exact this
 clear HT
 by_cases hc : c = 0
 · subst hc
   by_cases h1 : long < (n : Int)
   · have HF := Lib.hid (show Num.takeText s.data.toList long = ([], [], 4) by rw [HU.out, if_neg (by simp), if_pos h1])
     go_wp2
     go_ret3
     exact ⟨_, _, 4, rfl, HF, hb⟩
   · by_cases h2 : (r.size : Int) < (n : Int)
     · have HF := Lib.hid (show Num.takeText s.data.toList long = ([], [], 3) by rw [HU.out, if_neg (by simp), if_neg h1, if_pos (by rw [← Lib.size_eq]; omega)])
       go_wp2
       go_ret3
       exact ⟨_, _, 3, rfl, HF, hb⟩
     · have h3 : (n : Int) ≤ r.size := by omega
       have HF := Lib.hid (show Num.takeText s.data.toList long = ((r.extract 0 n).data.toList, (r.extract n r.size).data.toList, 0) by
         rw [HU.out, if_neg (by simp), if_neg h1, if_neg (by rw [← Lib.size_eq]; omega), extract_front, extract_to])
       go_wp2
       go_quiet (fail)
       go_wp2
       go_ret3
       exact ⟨_, _, 0, rfl, HF, below_drewN hb _⟩
 · have hc1 : ((c : Int) != 0) = true := by simp; omega
   have HF := Lib.hid (show Num.takeText s.data.toList long = ([], [], c) by rw [HU.out, if_pos hc])
   go_wp2
   go_ret3
   exact ⟨_, _, c, rfl, HF, hb⟩
def fx (l : List UInt8) : Nat := l.foldl (fun n c => n * 256 + c.toNat) 0
theorem fx_snoc (l : List UInt8) (c : UInt8) : fx (l ++ [c]) = fx l * 256 + c.toNat := by simp [fx]
theorem fx_lt_from : ∀ (l : List UInt8) (m : Nat), l.foldl (fun n c => n * 256 + c.toNat) m < (m + 1) * 256 ^ l.length
 | [], m => by simp
 | c :: l, m => by
   have h := fx_lt_from l (m * 256 + c.toNat)
   have hc := c.toNat_lt
   have h2 : (m * 256 + c.toNat + 1) * 256 ^ l.length ≤ ((m + 1) * 256) * 256 ^ l.length := Nat.mul_le_mul_right _ (by omega)
   rw [List.length_cons, Nat.pow_succ, Nat.mul_comm (256 ^ l.length), ← Nat.mul_assoc]
   exact Nat.lt_of_lt_of_le h h2
theorem fx_lt (l : List UInt8) : fx l < 256 ^ l.length := by have := fx_lt_from l 0; rw [Nat.zero_add, Nat.one_mul] at this; exact this
theorem fix_or (n c : Nat) (hn : n < 16777216) (hc : c < 256) : bits .or .u32 ((n : Int) * 256) c = ((n * 256 + c : Nat) : Int) := by
 have := or_high .u32 32 (by decide) wraps_u32 c n 8 hc (by omega) (by omega)
 rw [show n * 2 ^ 8 = n * 256 from rfl] at this
 rw [show (n : Int) * 256 = ((n * 256 : Nat) : Int) by omega, this]
theorem takeFixed_fx (l : List UInt8) (h : 4 ≤ l.length) : Num.takeFixed l = (fx (l.take 4), l.drop 4, 0) := by
 match l, h with
 | a :: b :: c :: d :: r, _ =>
   simp only [Num.takeFixed, fx, List.take_succ_cons, List.take_zero, List.foldl_cons, List.foldl_nil, List.drop_succ_cons, List.drop_zero, Nat.zero_mul, Nat.zero_add]
set_option maxHeartbeats 1000000 in
set_option maxRecDepth 100000 in
theorem takeFixed_any (s : ByteArray) (w : World) (hs : s.size ≤ 1000000000000) :
   Calls Tryz.prog 149 #[.string s] w fun e w' => ∃ (n : Nat) (r : ByteArray) (c : Nat), e = .returned (.tuple #[.int .u32 n, .string r, .int .i64 c]) ∧ Hid (Num.takeFixed s.data.toList = (n, r.data.toList, c)) ∧ n < 4294967296 ∧ Below w.heap.size w w' := by
 by_cases h4 : s.size < 4
 · have HF := Lib.hid (Num.takeFixed_short s.data.toList (by rw [← Lib.size_eq]; exact h4))
   go_enter Tryz.func149, Tryz.ntmps149
   go_wp2
   go_ret3
   exact ⟨0, _, 3, rfl, HF, by omega, Below.refl _ _⟩
 · obtain ⟨q, hq⟩ : ∃ q, s.extract 0 4 = q := ⟨_, rfl⟩
   have hqs : q.size = 4 := by rw [← hq]; exact extract_front_size s 4 (by omega)
   have HQ := Lib.hid (show q.data.toList = s.data.toList.take 4 by rw [← hq, extract_front])
   have hcv := Lib.run_convert_string_bytes (P := Tryz.prog) w 9 266 5 q (u := .string) Tryz.underlying9 Tryz.underlying266 Tryz.underlying5
   have hB : ∀ j, j < q.size → (Lib.bytesWorld w 5 q).cell? ⟨w.heap.size, j, none⟩ = some (.int .u8 (q.data.toList.getD j 0).toNat) := fun j hj => Lib.bytesWorld_cell w 5 q j hj
   have hbw0 := below_bytes w 5 q
   obtain ⟨W1, hW1⟩ : ∃ W1, W1 = Lib.bytesWorld w 5 q := ⟨_, rfl⟩
   rw [← hW1] at hcv hB hbw0
   clear hW1
   have HB := Lib.hid hB
   clear hB
   go_enter Tryz.func149, Tryz.ntmps149
   go_wp2
   go_loopw [5, 15] (fun nv iv wr => ∃ (i n : Nat), nv = .int .u32 (n : Int) ∧ iv = .int .i64 (i : Int) ∧ i ≤ 4 ∧ n = fx (q.data.toList.take i) ∧ wr = W1) (fun _ iv _ => 4 - (intOf iv).toNat)
   case atStart => exact ⟨0, 0, rfl, rfl, by omega, rfl, rfl⟩
   case round =>
     obtain ⟨i, n, rfl, rfl, hi, hn, rfl⟩ := hrel
     have HN := Lib.hid hn
     clear hn
     by_cases hp : i < 4
     · have hc := HB.out i (by omega)
       obtain ⟨c, hcc, hdr⟩ := getD_at q i (by omega)
       rw [hcc] at hc
       have hlen : (q.data.toList.take i).length = i := by rw [List.length_take, ← Lib.size_eq, hqs]; omega
       have hn4 : n < 16777216 := by
         have h1 := fx_lt (q.data.toList.take i)
         rw [hlen, ← HN.out] at h1
         have h2 := Nat.pow_le_pow_right (n := 256) (by decide) (show i ≤ 3 by omega)
         have h3 : (256 : Nat) ^ 3 = 16777216 := by decide
         omega
       have hcl : c.toNat < 256 := c.toNat_lt
       have HF := Lib.hid (show n * 256 + c.toNat = fx (q.data.toList.take (i + 1)) by
         rw [HN.out, ← fx_snoc]
         congr 1
         rw [List.take_add_one, ← List.head?_drop, hdr]; rfl)
       obtain ⟨k, hk⟩ : ∃ k, c.toNat = k := ⟨_, rfl⟩
       rw [hk] at hc hcl HF
       have hO := fix_or n k hn4 hcl
       clear hdr hcc hk hlen HN
       go_wp2
       exact ⟨⟨i + 1, n * 256 + k, by simp, by go_num, by omega, HF.out, trivial⟩, by simp [intOf]; omega⟩
     · obtain rfl : i = 4 := by omega
       have HF := Lib.hid (show Num.takeFixed s.data.toList = (n, (s.extract 4 s.size).data.toList, 0) by
         rw [takeFixed_fx _ (by rw [← Lib.size_eq]; omega), HN.out, HQ.out, extract_to, List.take_take]; rfl)
       have hn4 : n < 4294967296 := by
         have h1 := fx_lt (q.data.toList.take 4)
         rw [← HN.out] at h1
         have h2 : (q.data.toList.take 4).length ≤ 4 := by rw [List.length_take]; omega
         have h3 := Nat.pow_le_pow_right (n := 256) (by decide) h2
         have h4 : (256 : Nat) ^ 4 = 4294967296 := by decide
         omega
       clear HN
       go_wp2
       go_quiet (fail)
       go_wp2
       go_ret3
       exact ⟨n, _, 0, rfl, HF, hn4, below_drewN hbw0 _⟩
end Go.Proofs.YtgddgipjpdjoaaaGreatDoor
