/-
  Plain Lean: a disk of one segment; the law package's right entry.
-/
import Derived.Test.YthmblkckpdpjkaaGreatDoorAdd
namespace Go.Proofs.YthmblkckpdpjkaaGreatDoor.Seg
open Go.RowKit

theorem toks_all_ascii : ∀ l : List UInt8, (∀ b ∈ l, b.toNat < 128) → Txt.toks l = l.map fun b => ((b.toNat : Int), [b])
  | [], _ => by rw [Txt.toks_nil]; rfl
  | b :: l, h => by
    rw [Txt.toks_ascii b l (h b (by simp)), toks_all_ascii l (fun c hc => h c (by simp [hc]))]; rfl
theorem dec_digits : ∀ (n : Nat), ∀ b ∈ Lib.decDigits n, 48 ≤ b.toNat ∧ b.toNat ≤ 57 := by
  intro n
  induction n using Nat.strongRecOn with
  | ind n ih =>
    intro b hb
    rw [Lib.decDigits] at hb
    by_cases h1 : n < 10
    · rw [dif_pos h1] at hb
      rw [List.mem_singleton.1 hb, digit_nat n h1]; omega
    · rw [dif_neg h1] at hb
      rcases List.mem_append.1 hb with h | h
      · exact ih (n / 10) (by omega) b h
      · rw [List.mem_singleton.1 h, digit_nat (n % 10) (by omega)]; omega
theorem name_named (n : Int) (h1 : 1 ≤ n) (h2 : n ≤ 1073741824) : Txt.name (nameOf n) = true := by
  have e : nameOf n = [115, 101, 103, 45] ++ Lib.decDigits n.toNat := by unfold nameOf; rw [if_pos ⟨h1, h2⟩]
  have hl := name_len n
  have hm := name_min n h1 h2
  have hd := dec_digits n.toNat
  have ha : ∀ b ∈ nameOf n, b.toNat < 128 ∧ Txt.named (b.toNat : Int) = true := by
    intro b hb
    rw [e] at hb
    rcases List.mem_append.1 hb with h | h
    · have : ∀ c ∈ ([115, 101, 103, 45] : List UInt8), c.toNat < 128 ∧ Txt.named (c.toNat : Int) = true := by decide
      exact this b h
    · have := hd b h
      refine ⟨by omega, ?_⟩
      simp only [Txt.named, Bool.or_eq_true, decide_eq_true_eq, beq_iff_eq]; omega
  unfold Txt.name
  rw [toks_all_ascii _ (fun b hb => (ha b hb).1), List.length_map]
  simp only [Bool.and_eq_true, decide_eq_true_eq, List.all_eq_true, List.mem_map]
  refine ⟨⟨by omega, by omega⟩, ?_⟩
  rintro t ⟨b, hb, rfl⟩
  exact (ha b hb).2
theorem create_one (room n first : Int) (h1 : 1 ≤ n) (h2 : n ≤ 1073741824) (h3 : 1 ≤ first) (h4 : first ≤ 274877906944) (hr : 15 ≤ room) :
    create room n first [] = ([⟨nameOf n, ⟨(bytesH first).toArray⟩, (⟨(bytesH first).toArray⟩ : ByteArray).size⟩], 0) := by
  have hs : (⟨(bytesH first).toArray⟩ : ByteArray).size ≤ 15 := by rw [Lib.size_eq]; exact bytesH_len first
  have ha : Dk.append room (nameOf n) ⟨(bytesH first).toArray⟩ [] = ([⟨nameOf n, ⟨(bytesH first).toArray⟩, 0⟩], 0) := by
    unfold Dk.append
    rw [if_neg (by rw [name_named n h1 h2]; simp), if_neg (by simp), if_neg (by simp only [Dk.total]; omega)]
    rfl
  unfold create
  rw [if_neg (by rintro (h | h | h) <;> first | exact name_ne n h1 h2 h | omega), if_neg (by simp [Dk.read, Dk.look]), writeD, ha]
  simp [Dk.sync, Dk.look, Dk.put]
theorem read_one (n : Int) (s : ByteArray) (sy : Nat) : Dk.read (nameOf n) [⟨nameOf n, s, sy⟩] = (s, 0) := by simp [Dk.read, Dk.look]
theorem loadD_one (n : Int) (s : ByteArray) (sy : Nat) : loadD n [⟨nameOf n, s, sy⟩] = load s.data.toList := by
  unfold loadD; rw [read_one]; simp
theorem add_one (room n : Int) (s : ByteArray) (sy : Nat) (l : List Evt.Entry) (g : Seg) (h1 : 1 ≤ n) (h2 : n ≤ 1073741824) (hl : load s.data.toList = (g, 0)) (ht : g.torn = false) (hf : Evt.follows l (last g).1 (last g).2 = true) (hne : l ≠ [])
    (hr : (s.size : Int) + ((bytesB l).length : Int) ≤ room) : addD room n l [⟨nameOf n, s, sy⟩] = ([⟨nameOf n, s ++ ⟨(bytesB l).toArray⟩, (s ++ ⟨(bytesB l).toArray⟩ : ByteArray).size⟩], 0) := by
  have hs : (⟨(bytesB l).toArray⟩ : ByteArray).size = (bytesB l).length := by rw [Lib.size_eq]
  have ha : Dk.append room (nameOf n) ⟨(bytesB l).toArray⟩ [⟨nameOf n, s, sy⟩] = ([⟨nameOf n, s ++ ⟨(bytesB l).toArray⟩, sy⟩], 0) := by
    unfold Dk.append
    rw [if_neg (by rw [name_named n h1 h2]; simp), if_neg (by simp), if_neg (by simp only [Dk.total, hs]; omega)]
    simp [Dk.look, Dk.more, Dk.put]
  unfold addD
  rw [loadD_one, hl]
  simp only [if_true]
  rw [if_neg (by rw [ht]; simp), if_neg (by rw [hf]; simp), if_neg hne, ha]
  simp [Dk.sync, Dk.look, Dk.put]
theorem add_gap (room n : Int) (s : ByteArray) (sy : Nat) (l : List Evt.Entry) (g : Seg) (hl : load s.data.toList = (g, 0)) (ht : g.torn = false) (hf : Evt.follows l (last g).1 (last g).2 = false) : (addD room n l [⟨nameOf n, s, sy⟩]).2 = 11 := by
  unfold addD
  rw [loadD_one, hl]
  simp only [if_true]
  rw [if_neg (by rw [ht]; simp), if_pos hf]

/-! The right entry. -/
def plainN (p ep : Int) : Evt.Entry := ⟨p, ep, ⟨[115], 0, 1, 1, [⟨[107], []⟩]⟩⟩
theorem plain_right (p : Int) (h1 : 1 ≤ p) (h2 : p ≤ 1000) : Evt.rightN (plainN p 1) = true := by
  have n1 : Txt.name [115] = true := by simp [Txt.name, Txt.toks_ascii, Txt.toks_nil, Txt.named]
  have n2 : Txt.name [107] = true := by simp [Txt.name, Txt.toks_ascii, Txt.toks_nil, Txt.named]
  simp [Evt.rightN, plainN, Evt.fits, Evt.headed, n1, n2, Evt.right, Evt.number]
  exact ⟨decide_eq_true h1, decide_eq_true (by omega)⟩
theorem plain_len (p : Int) : (member (plainN p 1)).length ≤ 100 := by
  have := Num.put_le6 _ (Num.held_le p)
  have := Num.put_le6 _ (Num.held_le 1)
  have := Num.put_le6 _ (Num.zig_le 0)
  have a := Evt.putText_len [115]
  have b := Evt.putText_len [107]
  have c := Evt.putText_len []
  have e := Num.put_le6 _ (Num.held_le ((0 + 1 : Nat) : Int))
  have l1 : (Evt.put (plainN p 1)).length ≤ (Num.put (Num.held p)).length + (Num.put (Num.held 1)).length + (Evt.putBatch (plainN p 1).b).length := by
    unfold Evt.put; split
    · simp only [List.length_append, plainN]; omega
    · simp
  have l2 : (Evt.putBatch (plainN p 1).b).length ≤ (Evt.bytesB (plainN p 1).b).length := by
    unfold Evt.putBatch; split
    · simp
    · omega
  have l3 : (Evt.bytesB (plainN p 1).b).length ≤ 60 := by
    simp only [plainN, Evt.bytesB, Evt.bytesE, Num.putInt, List.length_append, List.flatMap_cons, List.flatMap_nil, List.length_nil, List.length_cons] at *
    omega
  simp only [member, List.length_cons]
  omega
end Go.Proofs.YthmblkckpdpjkaaGreatDoor.Seg
