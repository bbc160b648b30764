/-
  Plain Lean: a disk of one segment; the law package's right entry.
  Plain Lean: entries that are added in two steps (the law SegmentRows). Plain Lean, no program in sight: what is taken off the front had been put there: numbers, texts, batches, entries, frames, segments. Plain Lean, no program in sight: segments among other files; a segment that is cut. Plain Lean: what a crash leaves; the laws SegmentTells, SegmentKeeps, SegmentCuts, no program in sight.
-/
import Derived.Test.YtgddgipjpdjoaaaGreatDoorSegs
import Derived.Test.YtgddgipjpdjoaaaGreatDoorPln
namespace Go.Proofs.YtgddgipjpdjoaaaGreatDoor.Seg
open Go.RowKit

theorem toks_all_ascii : ∀ l : List UInt8, (∀ b ∈ l, b.toNat < 128) → Txt.toks l = l.map fun b => ((b.toNat : Int), [b])
  | [], _ => by rw [Txt.toks_nil]; rfl
  | b :: l, h => by
    rw [Txt.toks_ascii b l (h b (by simp)), toks_all_ascii l (fun c hc => h c (by simp [hc]))]; rfl
theorem dec_digits : ∀ (n : Nat), ∀ b ∈ Lib.decDigits n, 48 ≤ b.toNat ∧ b.toNat ≤ 57 := by
  intro n
  induction n using Nat.strongRecOn with
  | ind n ih =>
    intro b hb
    rw [Lib.decDigits] at hb
    by_cases h1 : n < 10
    · rw [dif_pos h1] at hb
      rw [List.mem_singleton.1 hb, digit_nat n h1]; omega
    · rw [dif_neg h1] at hb
      rcases List.mem_append.1 hb with h | h
      · exact ih (n / 10) (by omega) b h
      · rw [List.mem_singleton.1 h, digit_nat (n % 10) (by omega)]; omega
theorem name_named (n : Int) (h1 : 1 ≤ n) (h2 : n ≤ 1073741824) : Txt.name (nameOf n) = true := by
  have e : nameOf n = [115, 101, 103, 45] ++ Lib.decDigits n.toNat := by unfold nameOf; rw [if_pos ⟨h1, h2⟩]
  have hl := name_len n
  have hm := name_min n h1 h2
  have hd := dec_digits n.toNat
  have ha : ∀ b ∈ nameOf n, b.toNat < 128 ∧ Txt.named (b.toNat : Int) = true := by
    intro b hb
    rw [e] at hb
    rcases List.mem_append.1 hb with h | h
    · have : ∀ c ∈ ([115, 101, 103, 45] : List UInt8), c.toNat < 128 ∧ Txt.named (c.toNat : Int) = true := by decide
      exact this b h
    · have := hd b h
      refine ⟨by omega, ?_⟩
      simp only [Txt.named, Bool.or_eq_true, decide_eq_true_eq, beq_iff_eq]; omega
  unfold Txt.name
  rw [toks_all_ascii _ (fun b hb => (ha b hb).1), List.length_map]
  simp only [Bool.and_eq_true, decide_eq_true_eq, List.all_eq_true, List.mem_map]
  refine ⟨⟨by omega, by omega⟩, ?_⟩
  rintro t ⟨b, hb, rfl⟩
  exact (ha b hb).2
theorem create_one (room n first : Int) (h1 : 1 ≤ n) (h2 : n ≤ 1073741824) (h3 : 1 ≤ first) (h4 : first ≤ 274877906944) (hr : 15 ≤ room) :
    create room n first [] = ([⟨nameOf n, ⟨(bytesH first).toArray⟩, (⟨(bytesH first).toArray⟩ : ByteArray).size⟩], 0) := by
  have hs : (⟨(bytesH first).toArray⟩ : ByteArray).size ≤ 15 := by rw [Lib.size_eq]; exact bytesH_len first
  have ha : Dk.append room (nameOf n) ⟨(bytesH first).toArray⟩ [] = ([⟨nameOf n, ⟨(bytesH first).toArray⟩, 0⟩], 0) := by
    unfold Dk.append
    rw [if_neg (by rw [name_named n h1 h2]; simp), if_neg (by simp), if_neg (by simp only [Dk.total]; omega)]
    rfl
  unfold create
  rw [if_neg (by rintro (h | h | h) <;> first | exact name_ne n h1 h2 h | omega), if_neg (by simp [Dk.read, Dk.look]), writeD, ha]
  simp [Dk.sync, Dk.look, Dk.put]
theorem read_one (n : Int) (s : ByteArray) (sy : Nat) : Dk.read (nameOf n) [⟨nameOf n, s, sy⟩] = (s, 0) := by simp [Dk.read, Dk.look]
theorem loadD_one (n : Int) (s : ByteArray) (sy : Nat) : loadD n [⟨nameOf n, s, sy⟩] = load s.data.toList := by
  unfold loadD; rw [read_one]; simp
theorem add_one (room n : Int) (s : ByteArray) (sy : Nat) (l : List Evt.Entry) (g : Seg) (h1 : 1 ≤ n) (h2 : n ≤ 1073741824) (hl : load s.data.toList = (g, 0)) (ht : g.torn = false) (hf : Evt.follows l (last g).1 (last g).2 = true) (hne : l ≠ [])
    (hr : (s.size : Int) + ((bytesB l).length : Int) ≤ room) : addD room n l [⟨nameOf n, s, sy⟩] = ([⟨nameOf n, s ++ ⟨(bytesB l).toArray⟩, (s ++ ⟨(bytesB l).toArray⟩ : ByteArray).size⟩], 0) := by
  have hs : (⟨(bytesB l).toArray⟩ : ByteArray).size = (bytesB l).length := by rw [Lib.size_eq]
  have ha : Dk.append room (nameOf n) ⟨(bytesB l).toArray⟩ [⟨nameOf n, s, sy⟩] = ([⟨nameOf n, s ++ ⟨(bytesB l).toArray⟩, sy⟩], 0) := by
    unfold Dk.append
    rw [if_neg (by rw [name_named n h1 h2]; simp), if_neg (by simp), if_neg (by simp only [Dk.total, hs]; omega)]
    simp [Dk.look, Dk.more, Dk.put]
  unfold addD
  rw [loadD_one, hl]
  simp only [if_true]
  rw [if_neg (by rw [ht]; simp), if_neg (by rw [hf]; simp), if_neg hne, ha]
  simp [Dk.sync, Dk.look, Dk.put]
theorem add_gap (room n : Int) (s : ByteArray) (sy : Nat) (l : List Evt.Entry) (g : Seg) (hl : load s.data.toList = (g, 0)) (ht : g.torn = false) (hf : Evt.follows l (last g).1 (last g).2 = false) : (addD room n l [⟨nameOf n, s, sy⟩]).2 = 11 := by
  unfold addD
  rw [loadD_one, hl]
  simp only [if_true]
  rw [if_neg (by rw [ht]; simp), if_pos hf]

/-! The right entry. -/
def plainN (p ep : Int) : Evt.Entry := ⟨p, ep, ⟨[115], 0, 1, 1, [⟨[107], []⟩]⟩⟩
theorem plain_right (p : Int) (h1 : 1 ≤ p) (h2 : p ≤ 1000) : Evt.rightN (plainN p 1) = true := by
  have n1 : Txt.name [115] = true := by simp [Txt.name, Txt.toks_ascii, Txt.toks_nil, Txt.named]
  have n2 : Txt.name [107] = true := by simp [Txt.name, Txt.toks_ascii, Txt.toks_nil, Txt.named]
  simp [Evt.rightN, plainN, Evt.fits, Evt.headed, n1, n2, Evt.right, Evt.number]
  exact ⟨decide_eq_true h1, decide_eq_true (by omega)⟩
theorem plain_len (p : Int) : (member (plainN p 1)).length ≤ 100 := by
  have := Num.put_le6 _ (Num.held_le p)
  have := Num.put_le6 _ (Num.held_le 1)
  have := Num.put_le6 _ (Num.zig_le 0)
  have a := Evt.putText_len [115]
  have b := Evt.putText_len [107]
  have c := Evt.putText_len []
  have e := Num.put_le6 _ (Num.held_le ((0 + 1 : Nat) : Int))
  have l1 : (Evt.put (plainN p 1)).length ≤ (Num.put (Num.held p)).length + (Num.put (Num.held 1)).length + (Evt.putBatch (plainN p 1).b).length := by
    unfold Evt.put; split
    · simp only [List.length_append, plainN]; omega
    · simp
  have l2 : (Evt.putBatch (plainN p 1).b).length ≤ (Evt.bytesB (plainN p 1).b).length := by
    unfold Evt.putBatch; split
    · simp
    · omega
  have l3 : (Evt.bytesB (plainN p 1).b).length ≤ 60 := by
    simp only [plainN, Evt.bytesB, Evt.bytesE, Num.putInt, List.length_append, List.flatMap_cons, List.flatMap_nil, List.length_nil, List.length_cons] at *
    omega
  simp only [member, List.length_cons]
  omega
end Go.Proofs.YtgddgipjpdjoaaaGreatDoor.Seg
namespace Go.Proofs.YtgddgipjpdjoaaaGreatDoor.Seg
open Go.RowKit

/-- A disk of one segment, in order. -/
def one (n first : Int) (l : List Evt.Entry) : List Dk.File := [⟨nameOf n, ⟨(bytesH first ++ bytesB l).toArray⟩, (⟨(bytesH first ++ bytesB l).toArray⟩ : ByteArray).size⟩]
theorem one_load (n first : Int) (l : List Evt.Entry) (h1 : 1 ≤ first) (h2 : first ≤ 274877906944) (hf : Evt.follows l (first - 1) 0 = true) : loadD n (one n first l) = (⟨first, l, false⟩, 0) := by
  unfold one; rw [loadD_one]; exact load_bytes first l h1 h2 hf
theorem create_ok {room n first : Int} {f : List Dk.File} (hn1 : 1 ≤ n) (hn2 : n ≤ 1073741824) (hr : 15 ≤ room) (h : create room n first [] = (f, 0)) : 1 ≤ first ∧ first ≤ 274877906944 ∧ f = one n first [] := by
  by_cases hb : nameOf n = [] ∨ first < 1 ∨ first > 274877906944
  · unfold create at h
    rw [if_pos hb] at h
    simp at h
  · have h1 : 1 ≤ first := by omega
    have h2 : first ≤ 274877906944 := by omega
    rw [create_one room n first hn1 hn2 h1 h2 hr] at h
    refine ⟨h1, h2, ?_⟩
    simp only [Prod.mk.injEq, and_true] at h
    rw [← h, one, bytesB_nil, List.append_nil]
theorem size_cat (a b : List UInt8) : (⟨(a ++ b).toArray⟩ : ByteArray).size = a.length + b.length := by rw [Lib.size_eq]; simp
theorem cat_arr (a b : List UInt8) : (⟨a.toArray⟩ : ByteArray) ++ ⟨b.toArray⟩ = ⟨(a ++ b).toArray⟩ := by apply ByteArray.ext; simp
/-- Entries that go on are added. -/
theorem add_on {room n first : Int} (l m : List Evt.Entry) (hn1 : 1 ≤ n) (hn2 : n ≤ 1073741824) (h1 : 1 ≤ first) (h2 : first ≤ 274877906944) (hf : Evt.follows (l ++ m) (first - 1) 0 = true)
    (hr : ((bytesH first).length : Int) + (bytesB (l ++ m)).length ≤ room) : addD room n m (one n first l) = (one n first (l ++ m), 0) := by
  obtain ⟨f1, f2⟩ := (follows_append l m (first - 1) 0).1 hf
  by_cases hm : m = []
  · subst hm
    unfold addD
    rw [one_load n first l h1 h2 f1, List.append_nil]
    simp [Evt.follows]
  · have hs := size_cat (bytesH first) (bytesB l)
    have ha := add_one room n ⟨(bytesH first ++ bytesB l).toArray⟩ (⟨(bytesH first ++ bytesB l).toArray⟩ : ByteArray).size m ⟨first, l, false⟩ hn1 hn2 (load_bytes first l h1 h2 f1) rfl (by rw [last_end]; exact f2) hm
      (by rw [hs]; rw [bytesB_append, List.length_append] at hr; omega)
    rw [one, ha, one]
    rw [cat_arr, List.append_assoc, ← bytesB_append]
/-- What was added went on, and had room. -/
theorem add_ok {room n first : Int} {l m : List Evt.Entry} {f : List Dk.File} (hn1 : 1 ≤ n) (hn2 : n ≤ 1073741824) (h1 : 1 ≤ first) (h2 : first ≤ 274877906944) (hl : Evt.follows l (first - 1) 0 = true) (hlr : ((bytesH first).length : Int) + (bytesB l).length ≤ room)
    (h : addD room n m (one n first l) = (f, 0)) : Evt.follows (l ++ m) (first - 1) 0 = true ∧ ((bytesH first).length : Int) + (bytesB (l ++ m)).length ≤ room ∧ f = one n first (l ++ m) := by
  have hkeep := h
  unfold addD at h
  rw [one_load n first l h1 h2 hl] at h
  simp only [if_true, Bool.false_eq_true, if_false] at h
  cases hf : Evt.follows m (last ⟨first, l, false⟩).1 (last ⟨first, l, false⟩).2 with
  | false => rw [hf] at h; simp at h
  | true =>
    have hfa : Evt.follows (l ++ m) (first - 1) 0 = true := (follows_append l m (first - 1) 0).2 ⟨hl, by rw [last_end] at hf; exact hf⟩
    rw [hf] at h
    simp only [Bool.true_eq_false, if_false] at h
    have hroom : ((bytesH first).length : Int) + (bytesB (l ++ m)).length ≤ room := by
      by_cases hm : m = []
      · subst hm; rw [List.append_nil]; exact hlr
      · rw [if_neg hm] at h
        have hs := size_cat (bytesH first) (bytesB l)
        have hb : (⟨(bytesB m).toArray⟩ : ByteArray).size = (bytesB m).length := by rw [Lib.size_eq]
        apply Classical.byContradiction
        intro hno
        have ha : Dk.append room (nameOf n) ⟨(bytesB m).toArray⟩ (one n first l) = (one n first l, 8) := by
          unfold Dk.append one
          rw [if_neg (by rw [name_named n hn1 hn2]; simp), if_neg (by simp), if_pos (by simp only [Dk.total, hs, hb]; rw [bytesB_append, List.length_append] at hno; omega)]
        rw [ha] at h
        simp at h
    refine ⟨hfa, hroom, ?_⟩
    rw [add_on l m hn1 hn2 h1 h2 hfa hroom] at hkeep
    exact (congrArg Prod.fst hkeep).symm
theorem rows_plain {room n first : Int} {l : List Evt.Entry} {f1 f2 : List Dk.File} (k : Nat) (hn1 : 1 ≤ n) (hn2 : n ≤ 1073741824) (hr : 15 ≤ room) (hc : create room n first [] = (f1, 0)) (ha : addD room n l f1 = (f2, 0)) :
    f2 = one n first l ∧ addD room n (l.take k) f1 = (one n first (l.take k), 0) ∧ addD room n [] (one n first (l.take k)) = (one n first (l.take k), 0) ∧ addD room n (l.drop k) (one n first (l.take k)) = (one n first l, 0) := by
  obtain ⟨h1, h2, rfl⟩ := create_ok hn1 hn2 hr hc
  have hh := bytesH_len first
  obtain ⟨hf, hroom, rfl⟩ := add_ok (l := []) hn1 hn2 h1 h2 rfl (by rw [bytesB_nil]; simp; omega) ha
  rw [List.nil_append] at hf hroom
  have hfull : Evt.follows (l.take k ++ l.drop k) (first - 1) 0 = true := by rw [List.take_append_drop]; exact hf
  have hft := ((follows_append (l.take k) (l.drop k) (first - 1) 0).1 hfull).1
  have hbt : (bytesB l).length = (bytesB (l.take k)).length + (bytesB (l.drop k)).length := by rw [← List.length_append, ← bytesB_append, List.take_append_drop]
  refine ⟨by rw [List.nil_append], ?_, ?_, ?_⟩
  · have := add_on (room := room) (n := n) (first := first) [] (l.take k) hn1 hn2 h1 h2 (by rw [List.nil_append]; exact hft) (by rw [List.nil_append]; omega)
    rwa [List.nil_append] at this
  · have := add_on (room := room) (n := n) (first := first) (l.take k) [] hn1 hn2 h1 h2 (by rw [List.append_nil]; exact hft) (by rw [List.append_nil]; omega)
    rwa [List.append_nil] at this
  · have := add_on (room := room) (n := n) (first := first) (l.take k) (l.drop k) hn1 hn2 h1 h2 hfull (by rw [List.take_append_drop]; exact hroom)
    rwa [List.take_append_drop] at this
end Go.Proofs.YtgddgipjpdjoaaaGreatDoor.Seg
namespace Go.Proofs.YtgddgipjpdjoaaaGreatDoor

theorem Num.takeF_back : ∀ (l : List UInt8) (i n m : Nat) (r : List UInt8), Num.takeF i n l = (m, r, 0) → ∃ k, m = n + k * 128 ^ i ∧ l = Num.put k ++ r ∧ (0 < i → 0 < k)
  | [], i, n, m, r, h => by simp [Num.takeF] at h
  | c :: l, i, n, m, r, h => by
    have hc := c.toNat_lt
    rw [Num.takeF] at h
    split at h
    · simp at h
    · split at h
      · rename_i h6 h128
        obtain ⟨k, hm, hl, hk⟩ := Num.takeF_back l (i + 1) _ m r h
        have hk := hk (by omega)
        refine ⟨c.toNat % 128 + k * 128, ?_, ?_, fun _ => by omega⟩
        · rw [hm, Nat.pow_succ, Nat.add_mul, Nat.mul_comm (128 ^ i) 128, ← Nat.mul_assoc]; omega
        · rw [Num.put_large _ (by omega)]
          have e1 : (c.toNat % 128 + k * 128) % 128 = c.toNat % 128 := by omega
          have e2 : (c.toNat % 128 + k * 128) / 128 = k := by omega
          rw [e1, e2, List.cons_append, ← hl]
          congr 1
          apply UInt8.toNat_inj.1
          rw [Num.toU8_nat _ (by omega)]; omega
      · split at h
        · simp at h
        · split at h
          · simp at h
          · rename_i h6 h128 h0 hbig
            simp only [Prod.mk.injEq, and_true] at h
            obtain ⟨rfl, rfl⟩ := h
            have em : c.toNat % 128 = c.toNat := Nat.mod_eq_of_lt (by omega)
            refine ⟨c.toNat, by rw [em], ?_, fun hi => by omega⟩
            rw [Num.put_small _ (by omega)]
            simp
theorem Num.take_back {l : List UInt8} (h : (Num.take l).2.2 = 0) : l = Num.put (Num.take l).1 ++ (Num.take l).2.1 := by
  obtain ⟨k, hm, hl2, _⟩ := Num.takeF_back l 0 0 (Num.take l).1 (Num.take l).2.1 (Prod.ext rfl (Prod.ext rfl h))
  have : (Num.take l).1 = k := by rw [hm]; simp
  rw [this]; exact hl2
theorem Num.zig_zag (m : Nat) : Num.zig (Num.zag m) = m := by
  unfold Num.zag Num.zig
  split <;> split <;> omega
theorem Num.takeInt_back {l : List UInt8} (h : (Num.takeInt l).2.2 = 0) : l = Num.putInt (Num.takeInt l).1 ++ (Num.takeInt l).2.1 := by
  have h1 := Num.take_back (l := l) h
  have h2 := (Num.take_le l).1
  unfold Num.putInt Num.takeInt
  have hz : -549755813888 ≤ Num.zag (Num.take l).1 ∧ Num.zag (Num.take l).1 ≤ 549755813888 := by unfold Num.zag; split <;> omega
  simp only
  rw [Num.heldInt_of _ hz.1 hz.2, Num.zig_zag]; exact h1
theorem Num.takeText_back {l : List UInt8} {long : Int} (h : (Num.takeText l long).2.2 = 0) : l = Num.putText (Num.takeText l long).1 ++ (Num.takeText l long).2.1 := by
  have h2 := (Num.take_le l).1
  unfold Num.takeText at h ⊢
  split at h
  · rename_i g; exact absurd h g
  · split at h
    · simp at h
    · split at h
      · simp at h
      · rename_i g1 g2 g3
        rw [if_neg g1, if_neg g2, if_neg g3]
        have h1 := Num.take_back (l := l) (by omega)
        simp only [Num.putText]
        rw [List.length_take, Nat.min_eq_left (by omega), Num.held_of _ h2, List.append_assoc, List.take_append_drop]
        exact h1

namespace Evt
theorem rdName_back {st : List UInt8 × Nat} (h : (rdName st).2.2 = 0) : st.2 = 0 ∧ st.1 = Num.putText (rdName st).1 ++ (rdName st).2.1 := by
  unfold rdName at h ⊢
  split at h
  · rename_i g; exact absurd h g
  · rename_i g; rw [if_neg g]; exact ⟨by omega, Num.takeText_back h⟩
theorem rdNum_back {st : List UInt8 × Nat} (h : (rdNum st).2.2 = 0) : st.2 = 0 ∧ st.1 = Num.put (rdNum st).1 ++ (rdNum st).2.1 ∧ (rdNum st).1 ≤ 1099511627776 := by
  unfold rdNum at h ⊢
  split at h
  · rename_i g; exact absurd h g
  · rename_i g; rw [if_neg g]; exact ⟨by omega, Num.take_back h, (Num.take_le _).1⟩
theorem rdInt_back {st : List UInt8 × Nat} (h : (rdInt st).2.2 = 0) : st.2 = 0 ∧ st.1 = Num.putInt (rdInt st).1 ++ (rdInt st).2.1 := by
  unfold rdInt at h ⊢
  split at h
  · rename_i g; exact absurd h g
  · rename_i g; rw [if_neg g]; exact ⟨by omega, Num.takeInt_back h⟩
theorem rdEvent_back {st : List UInt8 × Nat} (h : (rdEvent st).2.2 = 0) : st.2 = 0 ∧ st.1 = bytesE (rdEvent st).1 ++ (rdEvent st).2.1 := by
  unfold rdEvent at h ⊢
  obtain ⟨h1, h2⟩ := rdName_back h
  obtain ⟨h3, h4⟩ := rdName_back h1
  refine ⟨h3, ?_⟩
  simp only [bytesE, List.append_assoc]
  rw [← h2, ← h4]
theorem rdEvents_back : ∀ (n : Nat) (st : List UInt8 × Nat), (rdEvents n st).2.2 = 0 → st.2 = 0 ∧ (rdEvents n st).1.length = n ∧ st.1 = (rdEvents n st).1.flatMap bytesE ++ (rdEvents n st).2.1
  | 0, st, h => ⟨h, rfl, rfl⟩
  | n + 1, st, h => by
    rw [rdEvents] at h ⊢
    split at h
    · rename_i g; exact absurd h g
    · rename_i g
      rw [if_neg g]
      obtain ⟨h1, h2, h3⟩ := rdEvents_back n _ h
      obtain ⟨h4, h5⟩ := rdEvent_back h1
      refine ⟨h4, by simp [h2], ?_⟩
      simp only [List.flatMap_cons, List.append_assoc]
      rw [← h3, ← h5]
theorem note_ne {st : List UInt8 × Nat} {e : Nat} (he : e ≠ 0) : (note st e).2 ≠ 0 := by
  unfold note; split <;> assumption
theorem takeBatch_back {s : List UInt8} (h : (takeBatch s).2.2 = 0) : s = putBatch (takeBatch s).1 ++ (takeBatch s).2.1 := by
  unfold takeBatch at h ⊢
  simp only at h ⊢
  split at h
  · rename_i g; exact absurd h g
  · rename_i g
    rw [if_neg g]
    obtain ⟨B, hB⟩ : ∃ B : Batch, B = ⟨(rdHead s).1, (rdHead s).2.1, (rdHead s).2.2.1, (rdHead s).2.2.2.1, (rdEvents (rdHead s).2.2.2.2.1 (rdMany (rdHead s).2.2.2.2.1 (rdHead s).2.2.2.2.2)).1⟩ := ⟨_, rfl⟩
    rw [← hB] at g ⊢
    have hf : fits B = 0 := by
      apply Classical.byContradiction
      intro hf
      unfold rdLast at g
      rw [if_pos hf] at g
      exact g (note_ne (by omega))
    have hl : ∀ q, rdLast B q = q := fun q => by unfold rdLast; rw [if_neg (by simp [hf])]
    rw [hl] at g ⊢
    obtain ⟨k1, k2, k3⟩ := rdEvents_back _ _ (by omega : (rdEvents (rdHead s).2.2.2.2.1 (rdMany (rdHead s).2.2.2.2.1 (rdHead s).2.2.2.2.2)).2.2 = 0)
    have hm : rdMany (rdHead s).2.2.2.2.1 (rdHead s).2.2.2.2.2 = (rdHead s).2.2.2.2.2 := by
      unfold rdMany at k1 ⊢
      split
      · rename_i g8; rw [if_pos g8] at k1; exact absurd k1 (note_ne (by omega))
      · rfl
    rw [hm] at k1 k2 k3
    rw [hm] at hB ⊢
    have hev : B.events = (rdEvents (rdHead s).2.2.2.2.1 (rdHead s).2.2.2.2.2).1 := by rw [hB]
    obtain ⟨z1, z2, z3, z4, z5, z6, z7⟩ := fits_zero hf
    unfold rdHead at hB k1 k2 k3
    simp only at hB k1 k2 k3
    obtain ⟨e1, e2, e3⟩ := rdNum_back k1
    obtain ⟨d1, d2, d3⟩ := rdNum_back e1
    obtain ⟨c1, c2, c3⟩ := rdNum_back d1
    obtain ⟨b1, b2⟩ := rdInt_back c1
    obtain ⟨a1, a2⟩ := rdName_back b1
    unfold putBatch
    rw [if_neg (by simp [hf])]
    unfold bytesB
    have f1 : B.stream = (rdName (s, 0)).1 := by rw [hB]
    have f2 : B.expect = (rdInt (rdName (s, 0)).2).1 := by rw [hB]
    have f3 : B.session = (rdNum (rdInt (rdName (s, 0)).2).2).1 := by rw [hB]
    have f4 : B.seq = (rdNum (rdNum (rdInt (rdName (s, 0)).2).2).2).1 := by rw [hB]
    have f5 : (B.events.length : Int) = (rdNum (rdNum (rdNum (rdInt (rdName (s, 0)).2).2).2).2).1 := by rw [hB]; simp only [k2]
    rw [f5, Num.held_of _ e3, f1, f2, f3, f4, Num.held_of _ d3, Num.held_of _ c3]
    simp only [List.append_assoc]
    have hq : B.events.flatMap bytesE ++ (rdEvents (rdHead s).2.2.2.2.1 (rdHead s).2.2.2.2.2).2.1 = (rdNum (rdNum (rdNum (rdInt (rdName (s, 0)).2).2).2).2).2.1 := by
      rw [hev]; exact k3.symm
    rw [hq, ← e2, ← d2, ← c2, ← b2, ← a2]
theorem take_back {s : List UInt8} (h : (take s).2.2 = 0) : s = put (take s).1 ++ (take s).2.1 := by
  have hr := take_right s h
  unfold put
  rw [if_pos hr]
  unfold take at h hr ⊢
  simp only at h hr ⊢
  split at h
  · rename_i g; exact absurd h g
  · rename_i g1
    split at h
    · rename_i g; exact absurd h g
    · rename_i g2
      split at h
      · rename_i g; exact absurd h g
      · rename_i g3
        split at h
        · rename_i g4
          rw [if_neg g1, if_neg g2, if_neg g3, if_pos g4]
          simp only
          rw [Num.held_of _ (Num.take_le _).1, Num.held_of _ (Num.take_le _).1]
          simp only [List.append_assoc]
          rw [← takeBatch_back (by omega), ← Num.take_back (by omega), ← Num.take_back (by omega)]
        · cases h
end Evt

namespace Frm
theorem fixed_back {s : List UInt8} (h : 4 ≤ s.length) : Num.fixed (Num.takeFixed s).1 = s.take 4 := by
  match s, h with
  | a :: b :: c :: d :: r, _ =>
    have ha := a.toNat_lt; have hb := b.toNat_lt; have hc := c.toNat_lt; have hd := d.toNat_lt
    have e : ∀ (x : UInt8) (n : Nat), n % 256 = x.toNat → n.toUInt8 = x := fun x n hx => by
      apply UInt8.toNat_inj.1
      rw [Num.toU8_mod, hx]
    simp only [Num.takeFixed, Num.fixed, List.take_succ_cons, List.take_zero]
    rw [e a _ (by omega), e b _ (by omega), e c _ (by omega), e d _ (by omega)]
theorem take_back {s : List UInt8} (h : (take s).2.2 = 0) : s = framed (take s).1 ++ (take s).2.1 := by
  unfold take at h ⊢
  split at h
  · simp at h
  · split at h
    · simp at h
    · split at h
      · simp at h
      · split at h
        · simp at h
        · split at h
          · simp at h
          · rename_i h1 h2 h3 h4 h5
            rw [if_neg h1, if_neg h2, if_neg h3, if_neg h4, if_neg h5]
            simp only
            obtain ⟨n, hn⟩ : ∃ n, (Num.takeFixed s).1 = n := ⟨_, rfl⟩
            have e1 : Num.fixed n = s.take 4 := by rw [← hn]; exact fixed_back (by omega)
            have e2 : Num.fixed (Num.takeFixed (s.drop 4)).1 = (s.drop 4).take 4 := fixed_back (by simp; omega)
            rw [hn] at h4 h5 ⊢
            have hl : ((s.drop 8).take n).length = n := by rw [List.length_take]; omega
            have h5 : Crc.sum (s.take 4 ++ (s.drop 8).take n) = (Num.takeFixed (s.drop 4)).1 := by
              apply Classical.byContradiction; intro g; exact h5 g
            unfold framed
            rw [hl, e1, h5, e2]
            simp only [List.append_assoc, List.take_append_drop]
            have e3 : (s.drop 4).take 4 ++ s.drop 8 = s.drop 4 := by
              have := List.take_append_drop 4 (s.drop 4)
              rwa [List.drop_drop] at this
            rw [e3, List.take_append_drop]
theorem scan_back : ∀ (n : Nat) (s : List UInt8), s.length ≤ n → s = (scan s).1.flatMap framed ++ (scan s).2
  | n, s, hn => by
    by_cases h : (take s).2.2 = 0
    · rw [scan_go s h]
      have h2 := ((take_le s).2.2 h).2.2.1
      match n with
      | 0 => omega
      | n + 1 =>
        have := scan_back n (take s).2.1 (by omega)
        simp only [List.flatMap_cons, List.append_assoc]
        rw [← this]
        exact take_back h
    · rw [scan_stop s h]; rfl
end Frm

namespace Seg
open Evt
theorem entF_back : ∀ (l : List (List UInt8)) (pos epoch : Int), ∃ r, l = (entF pos epoch l).map member ++ r
  | [], _, _ => ⟨[], rfl⟩
  | s :: l, pos, epoch => by
    rw [entF]
    split
    · rename_i h
      obtain ⟨r, hr⟩ := entF_back l (Evt.take (s.drop 1)).1.pos (Evt.take (s.drop 1)).1.epoch
      refine ⟨r, ?_⟩
      simp only [goes, Bool.and_eq_true, beq_iff_eq, decide_eq_true_eq, List.isEmpty_iff] at h
      obtain ⟨⟨⟨⟨h1, h2⟩, h3⟩, h4⟩, h5⟩ := h
      have hb := Evt.take_back h2
      rw [h3, List.append_nil] at hb
      have hm : s = member (Evt.take (s.drop 1)).1 := by
        match s, h1 with
        | c :: t, h1 =>
          simp only [List.head?_cons, Option.some.injEq] at h1
          subst h1
          simp only [List.drop_succ_cons, List.drop_zero] at hb ⊢
          rw [member, ← hb]
      rw [List.map_cons, List.cons_append, ← hr, ← hm]
    · exact ⟨s :: l, rfl⟩
/-- What is read of bytes are bytes that they begin with. -/
theorem load_back {s : List UInt8} (h : (load s).2 = 0) : ∃ t, s = (bytesH (load s).1.first ++ bytesB (load s).1.entries) ++ t := by
  have hs := Frm.scan_back s.length s (Nat.le_refl _)
  unfold load at h ⊢
  split at h
  · simp at h
  · rename_i hd l hsc
    split at h
    · rename_i g
      simp only [g, if_true, loaded]
      simp only [opens, Bool.and_eq_true, beq_iff_eq, decide_eq_true_eq, List.isEmpty_iff] at g
      obtain ⟨⟨⟨⟨h1, h2⟩, h3⟩, h4⟩, h5⟩ := g
      have hb := Num.take_back h2
      rw [h3, List.append_nil] at hb
      have hh : hd = headP (Num.take (hd.drop 1)).1 := by
        unfold headP
        rw [Num.held_of _ (Num.take_le _).1]
        match hd, h1 with
        | c :: t, h1 =>
          simp only [List.head?_cons, Option.some.injEq] at h1
          subst h1
          simp only [List.drop_succ_cons, List.drop_zero] at hb ⊢
          rw [← hb]
      obtain ⟨r, hr⟩ := entF_back l ((Num.take (hd.drop 1)).1 - 1) 0
      refine ⟨r.flatMap Frm.framed ++ (Frm.scan s).2, ?_⟩
      rw [hsc] at hs
      have e : (hd :: l).flatMap Frm.framed = bytesH (Num.take (hd.drop 1)).1 ++ (bytesB (entF ((Num.take (hd.drop 1)).1 - 1) 0 l) ++ r.flatMap Frm.framed) := by
        rw [List.flatMap_cons, bytesH, ← hh, bytesB, ← List.flatMap_append, ← hr]
      rw [e] at hs
      simpa [List.append_assoc] using hs
    · simp at h
theorem load_torn {s : List UInt8} (h : (load s).2 = 0) (ht : (load s).1.torn = false) : s = bytesH (load s).1.first ++ bytesB (load s).1.entries := by
  have := ((load_le s).2.2 h).2.2.2.1
  rw [ht] at this
  exact (show bytesH (load s).1.first ++ bytesB (load s).1.entries = s by simpa using this).symm
end Seg
end Go.Proofs.YtgddgipjpdjoaaaGreatDoor
namespace Go.Proofs.YtgddgipjpdjoaaaGreatDoor

theorem Dk.sorted_ext : ∀ (a b : List Dk.File), Dk.Sorted a → Dk.Sorted b → (∀ k, Dk.look a k = Dk.look b k) → a = b
  | [], [], _, _, _ => rfl
  | [], y :: b, _, _, h => by have := h y.name; simp [Dk.look] at this
  | x :: a, [], _, _, h => by have := h x.name; simp [Dk.look] at this
  | x :: a, y :: b, ha, hb, h => by
    have ha' := List.pairwise_cons.1 ha
    have hb' := List.pairwise_cons.1 hb
    by_cases e : y.name = x.name
    · have hx := h x.name
      simp only [Dk.look, if_true, if_pos e, Option.some.injEq] at hx
      subst hx
      rw [Dk.sorted_ext a b ha'.2 hb'.2 (fun k => by
        by_cases ek : x.name = k
        · subst ek; rw [Dk.look_tail ha, Dk.look_tail hb]
        · have := h k
          simpa only [Dk.look, if_neg ek] using this)]
    · have hx := h x.name
      have hy := h y.name
      simp only [Dk.look, if_true, if_neg e] at hx
      simp only [Dk.look, if_true, if_neg (Ne.symm e)] at hy
      have h1 := hb'.1 x (Dk.look_name hx.symm).2
      have h2 := ha'.1 y (Dk.look_name hy).2
      exact absurd (Std.lt_trans h1 h2) Std.lt_irrefl
theorem Dk.delete_fst (k : List UInt8) (fs : List Dk.File) : (Dk.delete k fs).1 = Dk.del k fs := by
  unfold Dk.delete
  cases h : Dk.look fs k with
  | none => exact (Dk.del_none _ _ h).symm
  | some y => rfl

namespace Seg
/-- The file that is written ahead of a rename. -/
def temp : List UInt8 := [116, 101, 109, 112]
def keepN (last : Int) (l : List Evt.Entry) : Nat := (l.takeWhile fun e => decide (e.pos ≤ last)).length
def cutG (room n : Int) (g : Seg) (k : Nat) (fs : List Dk.File) : List Dk.File × Nat :=
  if k = g.entries.length ∧ g.torn = false then (fs, 0) else
  if (writeD room temp ⟨(bytesH g.first ++ bytesB (g.entries.take k)).toArray⟩ (Dk.delete temp fs).1).2 = 0 then Dk.rename temp (nameOf n) (writeD room temp ⟨(bytesH g.first ++ bytesB (g.entries.take k)).toArray⟩ (Dk.delete temp fs).1).1 else
  writeD room temp ⟨(bytesH g.first ++ bytesB (g.entries.take k)).toArray⟩ (Dk.delete temp fs).1
def cutD (room n last : Int) (fs : List Dk.File) : List Dk.File × Nat :=
  if (loadD n fs).2 = 0 then cutG room n (loadD n fs).1 (keepN last (loadD n fs).1.entries) fs else (fs, (loadD n fs).2)
theorem temp_named : Txt.name temp = true := by simp [temp, Txt.name, Txt.toks_ascii, Txt.toks_nil, Txt.named]
theorem temp_ne (n : Int) : nameOf n ≠ temp := by
  unfold nameOf temp
  split
  · intro h; simp at h
  · simp
theorem loadD_look {n : Int} {fs : List Dk.File} {x : Dk.File} (h : Dk.look fs (nameOf n) = some x) : loadD n fs = load x.bytes.data.toList := by
  unfold loadD Dk.read; rw [h]; simp
theorem write_new {room : Int} {k : List UInt8} {s : ByteArray} {fs : List Dk.File} (hs : Dk.Sorted fs) (hk : Txt.name k = true) (h0 : Dk.look fs k = none) (h40 : fs.length < 40) (hr : (Dk.total fs : Int) + s.size ≤ room) : writeD room k s fs = (Dk.put ⟨k, s, s.size⟩ fs, 0) := by
  have ha : Dk.append room k s fs = (Dk.put ⟨k, s, 0⟩ fs, 0) := by
    unfold Dk.append
    rw [if_neg (by rw [hk]; simp), if_neg (by omega), if_neg (by omega), h0]; rfl
  unfold writeD
  rw [ha, if_pos rfl]
  have hl := Dk.look_put_same ⟨k, s, 0⟩ fs
  simp only at hl
  unfold Dk.sync
  rw [hl]
  simp only [Prod.mk.injEq, and_true]
  refine Dk.sorted_ext _ _ (Dk.sorted_put _ _ (Dk.sorted_put _ _ hs)) (Dk.sorted_put _ _ hs) (fun j => ?_)
  by_cases e : j = k
  · subst e
    have e1 := Dk.look_put_same ⟨j, s, s.size⟩ (Dk.put ⟨j, s, 0⟩ fs)
    have e2 := Dk.look_put_same ⟨j, s, s.size⟩ fs
    simp only at e1 e2
    rw [e1, e2]
  · rw [Dk.look_put_other ⟨k, s, s.size⟩ e, Dk.look_put_other ⟨k, s, s.size⟩ e, Dk.look_put_other ⟨k, s, 0⟩ e]
/-- A segment that keeps all of its entries, and is whole. -/
theorem cut_same {room n last : Int} {fs : List Dk.File} {g : Seg} (hg : loadD n fs = (g, 0)) (hk : keepN last g.entries = g.entries.length) (ht : g.torn = false) : cutD room n last fs = (fs, 0) := by
  unfold cutD cutG
  rw [hg, if_pos rfl, if_pos ⟨hk, ht⟩]
/-- .. and one that is written anew. -/
theorem cut_new {room n last : Int} {fs : List Dk.File} {g : Seg} {s : ByteArray} (h1 : 1 ≤ n) (h2 : n ≤ 1073741824) (hs : Dk.Sorted fs) (hg : loadD n fs = (g, 0)) (hk : ¬ (keepN last g.entries = g.entries.length ∧ g.torn = false)) (ht : Dk.look fs temp = none) (h40 : fs.length < 40)
    (hb : s = ⟨(bytesH g.first ++ bytesB (g.entries.take (keepN last g.entries))).toArray⟩) (hr : (Dk.total fs : Int) + s.size ≤ room) :
    cutD room n last fs = (Dk.put ⟨nameOf n, s, s.size⟩ fs, 0) := by
  unfold cutD cutG
  rw [hg, if_pos rfl, if_neg hk, Dk.delete_fst, Dk.del_none _ _ ht, ← hb, write_new hs temp_named ht h40 hr, if_pos rfl]
  have hl := Dk.look_put_same ⟨temp, s, s.size⟩ fs
  simp only at hl
  unfold Dk.rename
  rw [hl]
  simp only
  rw [if_neg (by rw [name_named n h1 h2]; simp), if_neg (fun e => temp_ne n e.symm)]
  simp only [Prod.mk.injEq, and_true]
  have q1 := Dk.sorted_put ⟨temp, s, s.size⟩ fs hs
  have q2 := Dk.sorted_del (nameOf n) _ q1
  have q3 := Dk.sorted_del temp _ q2
  refine Dk.sorted_ext _ _ (Dk.sorted_put _ _ q3) (Dk.sorted_put _ _ hs) (fun j => ?_)
  by_cases e : j = nameOf n
  · subst e
    have e1 := Dk.look_put_same ⟨nameOf n, s, s.size⟩ (Dk.del temp (Dk.del (nameOf n) (Dk.put ⟨temp, s, s.size⟩ fs)))
    have e2 := Dk.look_put_same ⟨nameOf n, s, s.size⟩ fs
    simp only at e1 e2
    rw [e1, e2]
  · rw [Dk.look_put_other ⟨nameOf n, s, s.size⟩ e, Dk.look_put_other ⟨nameOf n, s, s.size⟩ e]
    by_cases e2 : j = temp
    · subst e2; rw [Dk.look_del_same _ _ q2, ht]
    · rw [Dk.look_del_other _ e2, Dk.look_del_other _ e, Dk.look_put_other ⟨temp, s, s.size⟩ e2]
/-- What an entry added to a segment among others comes to. -/
theorem add_look {room n : Int} {l : List Evt.Entry} {fs : List Dk.File} {g : Seg} (hg : loadD n fs = (g, 0)) :
    addD room n l fs = if g.torn = true then (fs, 2) else if Evt.follows l (last g).1 (last g).2 = false then (fs, 11) else if l = [] then (fs, 0) else
      if (Dk.append room (nameOf n) ⟨(bytesB l).toArray⟩ fs).2 = 0 then Dk.sync (nameOf n) (Dk.append room (nameOf n) ⟨(bytesB l).toArray⟩ fs).1 else Dk.append room (nameOf n) ⟨(bytesB l).toArray⟩ fs := by
  unfold addD; rw [hg, if_pos rfl]
theorem more_sync {room : Int} {k : List UInt8} {s : ByteArray} {fs : List Dk.File} {x : Dk.File} (hs : Dk.Sorted fs) (hk : Txt.name k = true) (hl : Dk.look fs k = some x) (hr : (Dk.total fs : Int) + s.size ≤ room) :
    Dk.append room k s fs = (Dk.put ⟨k, x.bytes ++ s, x.synced⟩ fs, 0) ∧ Dk.sync k (Dk.append room k s fs).1 = (Dk.put ⟨k, x.bytes ++ s, (x.bytes ++ s).size⟩ fs, 0) := by
  have ha : Dk.append room k s fs = (Dk.put ⟨k, x.bytes ++ s, x.synced⟩ fs, 0) := by
    unfold Dk.append
    rw [if_neg (by rw [hk]; simp), if_neg (by rw [hl]; simp), if_neg (by omega), hl]; rfl
  refine ⟨ha, ?_⟩
  rw [ha]
  have hl := Dk.look_put_same ⟨k, x.bytes ++ s, x.synced⟩ fs
  simp only at hl
  unfold Dk.sync
  simp only
  rw [hl]
  simp only [Prod.mk.injEq, and_true]
  refine Dk.sorted_ext _ _ (Dk.sorted_put _ _ (Dk.sorted_put _ _ hs)) (Dk.sorted_put _ _ hs) (fun j => ?_)
  by_cases e : j = k
  · subst e
    have e1 := Dk.look_put_same ⟨j, x.bytes ++ s, (x.bytes ++ s).size⟩ (Dk.put ⟨j, x.bytes ++ s, x.synced⟩ fs)
    have e2 := Dk.look_put_same ⟨j, x.bytes ++ s, (x.bytes ++ s).size⟩ fs
    simp only at e1 e2
    rw [e1, e2]
  · rw [Dk.look_put_other ⟨k, x.bytes ++ s, (x.bytes ++ s).size⟩ e, Dk.look_put_other ⟨k, x.bytes ++ s, (x.bytes ++ s).size⟩ e, Dk.look_put_other ⟨k, x.bytes ++ s, x.synced⟩ e]
end Seg
end Go.Proofs.YtgddgipjpdjoaaaGreatDoor
namespace Go.Proofs.YtgddgipjpdjoaaaGreatDoor

def Dk.crashed (n : Int) (x : Dk.File) : Dk.File := ⟨x.name, x.bytes.extract 0 (x.synced + min n.toNat (x.bytes.size - x.synced)), (x.bytes.extract 0 (x.synced + min n.toNat (x.bytes.size - x.synced))).size⟩
/-- What a crash leaves: of each file what was synced, and some more. -/
def Dk.crash : List Int → List Dk.File → List Dk.File
  | _, [] => []
  | ks, x :: fs => Dk.crashed (ks.headD 0) x :: Dk.crash ks.tail fs
theorem Dk.crashed_full (n : Int) (x : Dk.File) (h : x.synced = x.bytes.size) : Dk.crashed n x = x := by
  unfold Dk.crashed
  have e : x.bytes.extract 0 (x.synced + min n.toNat (x.bytes.size - x.synced)) = x.bytes := by
    have : x.synced + min n.toNat (x.bytes.size - x.synced) = x.bytes.size := by omega
    rw [this]; simp
  rw [e, ← h]

namespace Seg
theorem keepN_all {last : Int} : ∀ {l : List Evt.Entry}, (∀ e ∈ l, e.pos ≤ last) → keepN last l = l.length
  | [], _ => rfl
  | e :: l, h => by
    have := keepN_all (last := last) (l := l) (fun x hx => h x (by simp [hx]))
    unfold keepN at this ⊢
    rw [List.takeWhile_cons, if_pos (by simpa using h e (by simp)), List.length_cons, List.length_cons, this]
theorem keepN_le (last : Int) : ∀ (l : List Evt.Entry), keepN last l ≤ l.length
  | [] => Nat.le_refl _
  | e :: l => by
    have := keepN_le last l
    unfold keepN at this ⊢
    rw [List.takeWhile_cons]
    split
    · simp only [List.length_cons]; omega
    · simp
theorem keepN_take (last : Int) : ∀ (l : List Evt.Entry), keepN last (l.take (keepN last l)) = keepN last l
  | [] => rfl
  | e :: l => by
    have := keepN_take last l
    unfold keepN at this ⊢
    rw [List.takeWhile_cons]
    split
    · rename_i h
      rw [List.length_cons, List.take_succ_cons, List.takeWhile_cons, if_pos h, List.length_cons, this]
    · simp
theorem follows_pos {l : List Evt.Entry} {pos epoch : Int} (h : Evt.follows l pos epoch = true) : ∀ e ∈ l, e.pos ≤ 274877906944 := fun e he =>
  ((Evt.number_iff _).1 (Evt.rightN_iff.1 (follows_mem _ _ _ h e he)).1).2
theorem one_sorted (x : Dk.File) : Dk.Sorted [x] := by simp [Dk.Sorted]

/-- The law SegmentTells. -/
theorem tells (s : ByteArray) (hs : s.size ≤ 9000) : Dk.append 1048576 (nameOf 2) s [] = ([⟨nameOf 2, s, 0⟩], 0) ∧
    ((loadD 2 [⟨nameOf 2, s, 0⟩] = (zeroS, 2) ∧ cutD 1048576 2 5 [⟨nameOf 2, s, 0⟩] = ([⟨nameOf 2, s, 0⟩], 2)) ∨
      ∃ g f, loadD 2 [⟨nameOf 2, s, 0⟩] = (g, 0) ∧ 1 ≤ g.first ∧ g.first ≤ 274877906944 ∧ Evt.follows g.entries (g.first - 1) 0 = true ∧ cutD 1048576 2 549755813888 [⟨nameOf 2, s, 0⟩] = (f, 0) ∧ loadD 2 f = (⟨g.first, g.entries, false⟩, 0)) := by
  have hn : Txt.name (nameOf 2) = true := name_named 2 (by decide) (by decide)
  refine ⟨?_, ?_⟩
  · unfold Dk.append
    rw [if_neg (by rw [hn]; simp), if_neg (by simp), if_neg (by simp only [Dk.total]; omega)]
    simp [Dk.more, Dk.put, Dk.look]
  · have hl := loadD_one 2 s 0
    obtain ⟨l1, l2, l3⟩ := load_le s.data.toList
    by_cases h0 : (load s.data.toList).2 = 0
    · right
      obtain ⟨m1, m2, m3, m4, m5⟩ := l3 h0
      obtain ⟨t, ht⟩ := load_back h0
      obtain ⟨g, hg⟩ : ∃ g, (load s.data.toList).1 = g := ⟨_, rfl⟩
      rw [hg] at m1 m2 m3 m4 m5 ht
      have hlg : loadD 2 [⟨nameOf 2, s, 0⟩] = (g, 0) := by rw [hl, ← hg, ← h0]
      have hk : keepN 549755813888 g.entries = g.entries.length := keepN_all (fun e he => by have := follows_pos m3 e he; omega)
      cases htn : g.torn with
      | false =>
        refine ⟨g, _, hlg, m1, m2, m3, cut_same hlg hk htn, ?_⟩
        rw [hlg, ← htn]
      | true =>
        have hsz : ((⟨(bytesH g.first ++ bytesB (g.entries.take (keepN 549755813888 g.entries))).toArray⟩ : ByteArray).size) ≤ s.size := by
          rw [Lib.size_eq, Lib.size_eq, ht, hk, List.take_length]
          simp only [List.length_append]; omega
        refine ⟨g, _, hlg, m1, m2, m3, cut_new (by decide) (by decide) (one_sorted _) hlg (by rw [htn]; simp) (by simp [Dk.look, temp_ne]) (by simp) rfl (by simp only [Dk.total]; omega), ?_⟩
        simp only [Dk.put, if_true]
        rw [loadD_one, hk, List.take_length]
        exact load_bytes _ _ m1 m2 m3
    · left
      have hz := l2 h0
      have hlz : loadD 2 [⟨nameOf 2, s, 0⟩] = (zeroS, 2) := by rw [hl, hz]
      refine ⟨hlz, ?_⟩
      unfold cutD
      rw [hlz]; simp

theorem create_look {room n first : Int} {fs : List Dk.File} (h1 : 1 ≤ n) (h2 : n ≤ 1073741824) (h3 : 1 ≤ first) (h4 : first ≤ 274877906944) (hs : Dk.Sorted fs) (hl : Dk.look fs (nameOf n) = none) (h40 : fs.length < 40) (hr : (Dk.total fs : Int) + 15 ≤ room) :
    create room n first fs = (Dk.put ⟨nameOf n, ⟨(bytesH first).toArray⟩, (⟨(bytesH first).toArray⟩ : ByteArray).size⟩ fs, 0) := by
  have hb : (⟨(bytesH first).toArray⟩ : ByteArray).size ≤ 15 := by rw [Lib.size_eq]; exact bytesH_len first
  unfold create
  rw [if_neg (by rintro (h | h | h) <;> first | exact name_ne n h1 h2 h | omega), if_neg (by simp [Dk.read, hl]), write_new hs (name_named n h1 h2) hl h40 (by omega)]
theorem name1 : nameOf 1 = [115, 101, 103, 45, 49] := by
  unfold nameOf; rw [if_pos (by decide)]
  rw [show Lib.decDigits (Int.toNat 1) = [UInt8.ofNat (48 + 1)] by rw [Lib.decDigits]; rfl]
  rfl
theorem name2 : nameOf 2 = [115, 101, 103, 45, 50] := by
  unfold nameOf; rw [if_pos (by decide)]
  rw [show Lib.decDigits (Int.toNat 2) = [UInt8.ofNat (48 + 2)] by rw [Lib.decDigits]; rfl]
  rfl
theorem name3 : nameOf 3 = [115, 101, 103, 45, 51] := by
  unfold nameOf; rw [if_pos (by decide)]
  rw [show Lib.decDigits (Int.toNat 3) = [UInt8.ofNat (48 + 3)] by rw [Lib.decDigits]; rfl]
  rfl
theorem name12 : nameOf 1 ≠ nameOf 2 ∧ ¬ nameOf 2 < nameOf 1 := by rw [name1, name2]; decide
/-- The bytes of a segment. -/
def whole (first : Int) (l : List Evt.Entry) : ByteArray := ⟨(bytesH first ++ bytesB l).toArray⟩
theorem whole_len (first : Int) (l : List Evt.Entry) : (whole first l).size ≤ 15 + 3021 * l.length := by
  have h1 := bytesH_len first
  have h2 := bytesB_len l
  rw [Lib.size_eq]; simp only [whole, List.length_append]; omega
theorem whole_append (first : Int) (l m : List Evt.Entry) : whole first (l ++ m) = whole first l ++ ⟨(bytesB m).toArray⟩ := by
  unfold whole; rw [cat_arr, bytesB_append, List.append_assoc]
/-- Two segments. -/
def pair12 (a b : ByteArray) (sa : Nat) : List Dk.File := [⟨nameOf 1, a, sa⟩, ⟨nameOf 2, b, b.size⟩]
theorem pair12_sorted (a b : ByteArray) (sa : Nat) : Dk.Sorted (pair12 a b sa) := by
  have : nameOf 1 < nameOf 2 := by rw [name1, name2]; decide
  simp [Dk.Sorted, pair12, this]
theorem pair12_put1 (a b a' : ByteArray) (sa sa' : Nat) : Dk.put ⟨nameOf 1, a', sa'⟩ (pair12 a b sa) = pair12 a' b sa' := by simp [pair12, Dk.put]
theorem pair12_look (a b : ByteArray) (sa : Nat) : Dk.look (pair12 a b sa) (nameOf 1) = some ⟨nameOf 1, a, sa⟩ ∧ Dk.look (pair12 a b sa) (nameOf 2) = some ⟨nameOf 2, b, b.size⟩ ∧ Dk.look (pair12 a b sa) temp = none := by
  simp [pair12, Dk.look, name12.1, temp_ne]
theorem pair12_total (a b : ByteArray) (sa : Nat) : Dk.total (pair12 a b sa) = a.size + b.size := by simp [pair12, Dk.total]
theorem second_made {first : Int} {l m : List Evt.Entry} {f3 f4 : List Dk.File} (h1 : 1 ≤ first) (h2 : first ≤ 274877906944) (hl : l.length ≤ 40) (hm : m.length ≤ 80)
    (c2 : create 1048576 2 first (one 1 first l) = (f3, 0)) (a2 : addD 1048576 2 m f3 = (f4, 0)) : Evt.follows m (first - 1) 0 = true ∧ f4 = pair12 (whole first l) (whole first m) (whole first l).size := by
  have hn2 := name_named 2 (by decide) (by decide)
  have hwl := whole_len first l
  have hb : (⟨(bytesH first).toArray⟩ : ByteArray).size ≤ 15 := by rw [Lib.size_eq]; exact bytesH_len first
  have hc := create_look (room := 1048576) (n := 2) (fs := one 1 first l) (by decide) (by decide) h1 h2 (one_sorted _) (by simp [one, Dk.look, name12.1]) (by simp [one]) (by simp only [one, Dk.total]; unfold whole at hwl; omega)
  rw [hc] at c2
  simp only [Prod.mk.injEq, and_true] at c2
  have hf3 : f3 = pair12 (whole first l) ⟨(bytesH first).toArray⟩ (whole first l).size := by
    rw [← c2]
    simp only [one, Dk.put, if_neg name12.1, if_neg name12.2, pair12, whole]
  have hld : loadD 2 f3 = (⟨first, [], false⟩, 0) := by
    rw [loadD_look (by rw [hf3]; exact (pair12_look _ _ _).2.1)]
    have := load_bytes first [] h1 h2 rfl
    rwa [bytesB_nil, List.append_nil] at this
  rw [add_look hld] at a2
  simp only [Bool.false_eq_true, if_false, last_end, endOf] at a2
  cases hf : Evt.follows m (first - 1) 0 with
  | false => rw [hf] at a2; simp at a2
  | true =>
    rw [hf] at a2
    simp only [Bool.true_eq_false, if_false] at a2
    refine ⟨rfl, ?_⟩
    by_cases hm0 : m = []
    · rw [if_pos hm0] at a2
      simp only [Prod.mk.injEq, and_true] at a2
      rw [← a2, hf3, hm0]
      simp [whole, bytesB_nil]
    · rw [if_neg hm0] at a2
      have hbl := bytesB_len m
      have hbs : (⟨(bytesB m).toArray⟩ : ByteArray).size ≤ 241680 := by rw [Lib.size_eq]; simp only; omega
      obtain ⟨e1, e2⟩ := more_sync (room := 1048576) (s := ⟨(bytesB m).toArray⟩) (fs := f3) (by rw [hf3]; exact pair12_sorted _ _ _) hn2 (by rw [hf3]; exact (pair12_look _ _ _).2.1) (by rw [hf3, pair12_total]; omega)
      rw [e2, e1, if_pos rfl] at a2
      simp only [Prod.mk.injEq, and_true] at a2
      rw [← a2, hf3]
      simp only [pair12, Dk.put, if_neg name12.1, if_neg name12.2, if_true, whole, cat_arr]
theorem keeps {first keep : Int} {l more : List Evt.Entry} {f1 f2 f3 f4 : List Dk.File} (hl : l.length ≤ 40) (hm : more.length ≤ 40)
    (c1 : create 1048576 1 first [] = (f1, 0)) (a1 : addD 1048576 1 l f1 = (f2, 0)) (c2 : create 1048576 2 first f2 = (f3, 0)) (a2 : addD 1048576 2 (l ++ more) f3 = (f4, 0)) :
    ∃ (f5 f7 f8 : List Dk.File) (k : Nat) (t : Bool), Dk.read (nameOf 1) f4 = (whole first l, 0) ∧ Dk.read (nameOf 2) f4 = (whole first l ++ ⟨(bytesB more).toArray⟩, 0) ∧ Dk.append 1048576 (nameOf 1) ⟨(bytesB more).toArray⟩ f4 = (f5, 0) ∧
      l.length ≤ k ∧ k ≤ (l ++ more).length ∧ loadD 1 (Dk.crash [keep] f5) = (⟨first, (l ++ more).take k, t⟩, 0) ∧ cutD 1048576 1 274877906944 (Dk.crash [keep] f5) = (f7, 0) ∧ loadD 1 f7 = (⟨first, (l ++ more).take k, false⟩, 0) ∧ addD 1048576 1 ((l ++ more).drop k) f7 = (f8, 0) := by
  obtain ⟨h1, h2, rfl⟩ := create_ok (by decide) (by decide) (by decide) c1
  have hh := bytesH_len first
  obtain ⟨hf, hroom, rfl⟩ := add_ok (l := []) (by decide) (by decide) h1 h2 rfl (by rw [bytesB_nil]; simp; omega) a1
  rw [List.nil_append] at hf hroom c2
  have hn1 := name_named 1 (by decide) (by decide)
  have hlen : (l ++ more).length ≤ 80 := by rw [List.length_append]; omega
  obtain ⟨hfa, rfl⟩ := second_made h1 h2 hl hlen c2 a2
  obtain ⟨all, hall⟩ : ∃ all, l ++ more = all := ⟨_, rfl⟩
  have hw : whole first all = whole first l ++ ⟨(bytesB more).toArray⟩ := by rw [← hall, whole_append]
  have hwl := whole_len first l
  have hwa := whole_len first all
  rw [hall] at hfa hlen ⊢
  obtain ⟨p1, p2, p3⟩ := pair12_look (whole first l) (whole first all) (whole first l).size
  have hbs : (⟨(bytesB more).toArray⟩ : ByteArray).size ≤ 120840 := by have := bytesB_len more; rw [Lib.size_eq]; simp only; omega
  obtain ⟨e1, _⟩ := more_sync (room := 1048576) (s := ⟨(bytesB more).toArray⟩) (pair12_sorted (whole first l) (whole first all) (whole first l).size) hn1 p1 (by rw [pair12_total]; omega)
  simp only [← hw, pair12_put1] at e1
  -- behind the crash
  obtain ⟨q, hq⟩ : ∃ q, (whole first all).extract 0 ((whole first l).size + min keep.toNat ((whole first all).size - (whole first l).size)) = q := ⟨_, rfl⟩
  have hcr : Dk.crash [keep] (pair12 (whole first all) (whole first all) (whole first l).size) = pair12 q (whole first all) q.size := by
    have e := Dk.crashed_full 0 ⟨nameOf 2, whole first all, (whole first all).size⟩ rfl
    simp only [pair12, Dk.crash, List.headD, List.tail]
    rw [e, Dk.crashed, hq]
  have hsz : (whole first l).size ≤ (whole first all).size := by rw [hw]; simp
  have hqs : q.size = (whole first l).size + min keep.toNat ((whole first all).size - (whole first l).size) := by rw [← hq]; simp; omega
  have hqp : bytesH first ++ bytesB all = q.data.toList ++ (bytesH first ++ bytesB all).drop q.size := by
    have : q.data.toList = (bytesH first ++ bytesB all).take q.size := by
      rw [hqs, ← hq]; simp [ByteArray.data_extract, List.extract_eq_take_drop, whole]
    rw [this, List.take_append_drop]
  have hqh : (bytesH first).length ≤ q.data.toList.length := by
    rw [← Lib.size_eq, hqs]
    have : (whole first l).size = (bytesH first).length + (bytesB l).length := by rw [Lib.size_eq]; simp [whole]
    omega
  obtain ⟨k, k1, k2, k3⟩ := load_prefix first all q.data.toList _ h1 h2 hfa hqp hqh
  have hkl : l.length ≤ k := by
    refine k3 l.length (by rw [← hall]; simp) ?_
    rw [← hall, List.take_left, ← Lib.size_eq, hqs]
    have : (whole first l).size = (bytesH first).length + (bytesB l).length := by rw [Lib.size_eq]; simp [whole]
    rw [List.length_append]; omega
  have hld : loadD 1 (pair12 q (whole first all) q.size) = (loaded first (all.take k) q.data.toList, 0) := by rw [loadD_look (pair12_look _ _ _).1, k2]
  have hfull : Evt.follows (all.take k ++ all.drop k) (first - 1) 0 = true := by rw [List.take_append_drop]; exact hfa
  obtain ⟨ft, fd⟩ := (follows_append (all.take k) (all.drop k) (first - 1) 0).1 hfull
  have hkN : keepN 274877906944 (all.take k) = (all.take k).length := keepN_all (follows_pos ft)
  have hwk := whole_len first (all.take k)
  have hwd : (⟨(bytesB (all.drop k)).toArray⟩ : ByteArray).size ≤ 241680 := by have := bytesB_len (all.drop k); rw [Lib.size_eq]; simp only; rw [List.length_drop] at this; omega
  rw [List.length_take] at hwk
  have hqle : q.size ≤ (whole first all).size := by omega
  -- what goes on
  have goes_on : ∀ (b : ByteArray) (sb : Nat), b.size ≤ 241695 → loadD 1 (pair12 b (whole first all) sb) = (⟨first, all.take k, false⟩, 0) → ∃ f8, addD 1048576 1 (all.drop k) (pair12 b (whole first all) sb) = (f8, 0) := by
    intro b sb hbb hlb
    rw [add_look hlb]
    simp only [Bool.false_eq_true, if_false, last_end, fd, Bool.true_eq_false]
    by_cases h0 : all.drop k = []
    · exact ⟨_, if_pos h0⟩
    · obtain ⟨g1, g2⟩ := more_sync (room := 1048576) (s := ⟨(bytesB (all.drop k)).toArray⟩) (pair12_sorted b (whole first all) sb) hn1 (pair12_look _ _ _).1 (by rw [pair12_total]; omega)
      rw [if_neg h0, g2, g1, if_pos rfl]
      exact ⟨_, rfl⟩
  cases ht : (loaded first (all.take k) q.data.toList).torn with
  | false =>
    have hg : (⟨first, all.take k, false⟩ : Seg) = loaded first (all.take k) q.data.toList := by rw [← ht]; rfl
    obtain ⟨f8, h8⟩ := goes_on q q.size (by omega) (by rw [hld, hg])
    refine ⟨_, _, f8, k, false, by rw [Dk.read, p1], by rw [Dk.read, p2, hw], e1, hkl, k1, by rw [hcr, hld, hg], by rw [hcr]; exact cut_same hld hkN ht, by rw [hld, hg], h8⟩
  | true =>
    have hg : (⟨first, all.take k, true⟩ : Seg) = loaded first (all.take k) q.data.toList := by rw [← ht]; rfl
    have hcn := cut_new (room := 1048576) (n := 1) (last := 274877906944) (s := whole first (all.take k)) (by decide) (by decide) (pair12_sorted q (whole first all) q.size) hld (by rw [ht]; simp) (pair12_look _ _ _).2.2 (by simp [pair12])
      (by simp only [loaded, hkN, List.take_length, whole]) (by rw [pair12_total]; omega)
    rw [pair12_put1] at hcn
    have hl7 : loadD 1 (pair12 (whole first (all.take k)) (whole first all) (whole first (all.take k)).size) = (⟨first, all.take k, false⟩, 0) := by
      rw [loadD_look (pair12_look _ _ _).1]; exact load_bytes first _ h1 h2 ft
    obtain ⟨f8, h8⟩ := goes_on _ _ (by omega) hl7
    refine ⟨_, _, f8, k, true, by rw [Dk.read, p1], by rw [Dk.read, p2, hw], e1, hkl, k1, by rw [hcr, hld, hg], by rw [hcr]; exact hcn, hl7, h8⟩
/-- The law SegmentCuts. -/
theorem cuts {first last : Int} {l : List Evt.Entry} {f1 f2 : List Dk.File} (hl : l.length ≤ 40) (c1 : create 1048576 3 first [] = (f1, 0)) (a1 : addD 1048576 3 l f1 = (f2, 0)) :
    ∃ f3 f4, cutD 1048576 3 last f2 = (f3, 0) ∧ Dk.crash [] f3 = f3 ∧ f3.length = 1 ∧ loadD 3 f3 = (⟨first, l.take (keepN last l), false⟩, 0) ∧ cutD 1048576 3 last f3 = (f3, 0) ∧ addD 1048576 3 (l.drop (keepN last l)) f3 = (f4, 0) := by
  obtain ⟨h1, h2, rfl⟩ := create_ok (by decide) (by decide) (by decide) c1
  have hh := bytesH_len first
  obtain ⟨hf, hroom, rfl⟩ := add_ok (l := []) (by decide) (by decide) h1 h2 rfl (by rw [bytesB_nil]; simp; omega) a1
  rw [List.nil_append] at hf hroom
  obtain ⟨k, hk⟩ : ∃ k, keepN last l = k := ⟨_, rfl⟩
  have hkl := keepN_le last l
  have hkk := keepN_take last l
  rw [hk] at hkl hkk ⊢
  have hfull : Evt.follows (l.take k ++ l.drop k) (first - 1) 0 = true := by rw [List.take_append_drop]; exact hf
  obtain ⟨ft, fd⟩ := (follows_append (l.take k) (l.drop k) (first - 1) 0).1 hfull
  have hc : cutD 1048576 3 last (one 3 first l) = (one 3 first (l.take k), 0) := by
    have hld := one_load 3 first l h1 h2 hf
    by_cases e : k = l.length
    · rw [cut_same hld (by simp only; omega) rfl, e, List.take_length]
    · have hwk := whole_len first (l.take k)
      have hwl := whole_len first l
      rw [List.length_take] at hwk
      have := cut_new (room := 1048576) (n := 3) (last := last) (s := whole first (l.take k)) (by decide) (by decide) (one_sorted _) hld (by simp only; omega) (by simp [Dk.look, temp_ne]) (by simp) (by simp only [hk, whole]) (by simp only [Dk.total]; unfold whole at hwl; omega)
      rw [one, this]
      simp only [Dk.put, if_true, one, whole]
  have hld := one_load 3 first (l.take k) h1 h2 ft
  have hbt : (bytesB l).length = (bytesB (l.take k)).length + (bytesB (l.drop k)).length := by rw [← List.length_append, ← bytesB_append, List.take_append_drop]
  refine ⟨one 3 first (l.take k), _, hc, ?_, rfl, hld, cut_same hld (by simp only; rw [hkk, List.length_take]; omega) rfl, add_on (l.take k) (l.drop k) (by decide) (by decide) h1 h2 hfull (by rw [bytesB_append, List.length_append]; omega)⟩
  have e := Dk.crashed_full 0 ⟨nameOf 3, whole first (l.take k), (whole first (l.take k)).size⟩ rfl
  simp only [one, Dk.crash, List.headD]
  exact congrArg (fun x => [x]) e
end Seg
end Go.Proofs.YtgddgipjpdjoaaaGreatDoor
