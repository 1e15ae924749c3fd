/- What Parse makes of bytes; lend.Read by one width of 1. -/
import Derived.Test.YtemhflafiephpaaRecE
import Derived.Test.YtemhflafiephpaaLendRead
namespace Go.Proofs.Ytemhflafiephpaa
open Go.RowKit
namespace Rec
open Go.Proofs.Ytemhflafiephpaa.Msg (Up)
/-- the text at the beginning, and what is left -/
def spl (s : ByteArray) : Option (ByteArray × ByteArray) := (Lend.split s.data.toList).map fun p => (⟨p.1.toArray⟩, ⟨p.2.toArray⟩)
def chk (u : Up) (r : ByteArray) : Option (Up × ByteArray) := if check u = 0 then some (u, r) else none
/-- the update at the beginning, and what is left -/
def first (s : ByteArray) : Option (Up × ByteArray) :=
  if h : 0 < s.size then
    match spl (s.extract 1 s.size) with
    | none => none
    | some (y, r) =>
      if s[0].toNat = 1 then match spl r with
        | none => none
        | some (v, r2) => chk ⟨1, y, v, 0⟩ r2
      else if s[0].toNat = 3 then (if 8 ≤ r.size then chk ⟨3, y, ByteArray.empty, Crc.le (r.data.toList.take 8)⟩ (r.extract 8 r.size) else none)
      else chk ⟨s[0].toNat, y, ByteArray.empty, 0⟩ r
  else none
theorem split_length : ∀ (l : List UInt8) (p : List UInt8 × List UInt8), Lend.split l = some p → p.1.length + p.2.length + 1 = l.length
  | [], p, h => by simp [Lend.split] at h
  | c :: l, p, h => by
    by_cases hc : c.toNat ≤ l.length
    · rw [Lend.split, if_pos hc] at h
      obtain rfl := Option.some.inj h
      simp only [List.length_take, List.length_drop, List.length_cons]
      omega
    · rw [Lend.split, if_neg hc] at h
      cases h
theorem spl_size {s y r : ByteArray} (h : spl s = some (y, r)) : y.size + r.size + 1 = s.size := by
  unfold spl at h
  cases hp : Lend.split s.data.toList with
  | none => rw [hp] at h; cases h
  | some p =>
    rw [hp] at h
    simp only [Option.map_some, Option.some.injEq, Prod.mk.injEq] at h
    obtain ⟨rfl, rfl⟩ := h
    have := split_length _ _ hp
    have h1 : (⟨p.1.toArray⟩ : ByteArray).size = p.1.length := List.size_toArray
    have h2 : (⟨p.2.toArray⟩ : ByteArray).size = p.2.length := List.size_toArray
    rw [h1, h2]; simpa using this
theorem chk_some {u u' : Up} {r r' : ByteArray} (h : chk u r = some (u', r')) : check u = 0 ∧ u' = u ∧ r' = r := by
  unfold chk at h
  split at h
  · cases h; exact ⟨‹_›, rfl, rfl⟩
  · cases h
theorem first_size {s r : ByteArray} {u : Up} (h : first s = some (u, r)) : check u = 0 ∧ r.size < s.size ∧ (u.kind < 256 ∧ u.key.size ≤ s.size ∧ u.value.size ≤ s.size ∧ u.delta < 18446744073709551616) := by
  unfold first at h
  split at h
  · rename_i h0
    have he : (s.extract 1 s.size).size = s.size - 1 := by simp
    have hb := s[0].toNat_lt
    split at h
    · cases h
    · rename_i y r0 hs
      have h1 := spl_size hs
      split at h
      · split at h
        · cases h
        · rename_i v r2 hs2
          have h2 := spl_size hs2
          obtain ⟨hc, rfl, rfl⟩ := chk_some h
          exact ⟨hc, by omega, by simp, by simp only; omega, by simp only; omega, by simp⟩
      · split at h
        · split at h
          · rename_i h8
            obtain ⟨hc, rfl, rfl⟩ := chk_some h
            have : (r0.extract 8 r0.size).size = r0.size - 8 := by simp
            have hle := Lend.le_lt (r0.data.toList.take 8)
            have hl8 : (r0.data.toList.take 8).length ≤ 8 := by rw [List.length_take]; omega
            exact ⟨hc, by omega, by simp, by simp only; omega, Nat.zero_le _, Nat.lt_of_lt_of_le hle (Nat.pow_le_pow_right (by decide) hl8 : 256 ^ _ ≤ 256 ^ 8)⟩
          · cases h
        · obtain ⟨hc, rfl, rfl⟩ := chk_some h
          exact ⟨hc, by omega, hb, by simp only; omega, Nat.zero_le _, by simp⟩
  · cases h
/-- the updates of bytes -/
def parse : Nat → ByteArray → Option (List Up)
  | 0, s => if s.size = 0 then some [] else none
  | n + 1, s => if s.size = 0 then some [] else match first s with
    | none => none
    | some (u, r) => (parse n r).map (u :: ·)
theorem parse_fuel : ∀ (n m : Nat) (s : ByteArray), s.size ≤ n → s.size ≤ m → parse n s = parse m s
  | 0, 0, _, _, _ => rfl
  | 0, m + 1, s, h, _ => by unfold parse; rw [if_pos (by omega), if_pos (by omega)]
  | n + 1, 0, s, _, h => by unfold parse; rw [if_pos (by omega), if_pos (by omega)]
  | n + 1, m + 1, s, h1, h2 => by
    unfold parse
    split
    · rfl
    · cases hf : first s with
      | none => rfl
      | some p =>
        obtain ⟨u, r⟩ := p
        have := (first_size hf).2.1
        simp only
        rw [parse_fuel n m r (by omega) (by omega)]
/-- of all bytes -/
def parseAll (s : ByteArray) : Option (List Up) := parse s.size s
theorem parse_empty {s : ByteArray} (h : s.size = 0) : parseAll s = some [] := by
  unfold parseAll
  rw [h]; unfold parse; rw [if_pos h]
theorem parse_none {s : ByteArray} (h : s.size ≠ 0) (hf : first s = none) : parseAll s = none := by
  unfold parseAll
  obtain ⟨n, hn⟩ : ∃ n, s.size = n + 1 := ⟨s.size - 1, by omega⟩
  rw [hn]; unfold parse; rw [if_neg h, hf]
theorem parse_some {s r : ByteArray} {u : Up} (h : s.size ≠ 0) (hf : first s = some (u, r)) : parseAll s = (parseAll r).map (u :: ·) := by
  have h1 := (first_size hf).2.1
  unfold parseAll
  obtain ⟨n, hn⟩ : ∃ n, s.size = n + 1 := ⟨s.size - 1, by omega⟩
  rw [hn]
  conv => lhs; unfold parse
  rw [if_neg h, hf]
  simp only
  rw [parse_fuel n r.size r (by omega) (Nat.le_refl _)]
end Rec
theorem splitAns_spl (s : ByteArray) : splitAns s = match Rec.spl s with
    | some p => .tuple #[.string p.1, .string p.2, .bool true]
    | none => .tuple #[.string ⟨#[]⟩, .string ⟨#[]⟩, .bool false] := by
  unfold splitAns Rec.spl
  cases Lend.split s.data.toList <;> rfl
theorem nums1 (l : List UInt8) : Lend.nums [1] l = if 1 ≤ l.length then some ([Crc.le (l.take 1)], l.drop 1) else none := by
  rw [Lend.nums_eq]
  have e : Lend.total [1] = 1 := rfl
  have e2 : [(1 : Int)].all Lend.okW = true := by decide
  rw [e, e2]
  by_cases h : 1 ≤ l.length <;> simp [h, Lend.cut]
theorem read1_no (s : ByteArray) (T : TypeId) (c : Nat) (w : World) (h : s.size < 1) : Calls Try.prog 42 #[.slice (some ⟨w.heap.size, 0, none⟩) 1 c, .string s] (w.alloc (.cells #[.int .i64 1] T)) fun e w' => e = .returned (.tuple #[.slice none 0 0, .string ⟨#[]⟩, .bool false]) ∧ Ext w w' :=
  (read_any [1] s (some ⟨w.heap.size, 0, none⟩) c _ (by decide) (by unfold maxLen; omega) (ints_new1 w 1 .i64 T)).mono fun e w' hp => by
    have h9 := readPost_none (by rw [nums1, if_neg (by simpa using h)]) hp
    exact ⟨h9.1, (Ext.alloc _ _).trans h9.2⟩
theorem read1_yes (s : ByteArray) (T : TypeId) (c : Nat) (w : World) (h : 0 < s.size) (hs : s.size ≤ maxLen) : Calls Try.prog 42 #[.slice (some ⟨w.heap.size, 0, none⟩) 1 c, .string s] (w.alloc (.cells #[.int .i64 1] T)) fun e w' =>
    ∃ b o d, e = .returned (.tuple #[.slice (some ⟨b, o, none⟩) 1 d, .string (s.extract 1 s.size), .bool true]) ∧ w'.cell? ⟨b, o, none⟩ = some (.int .u64 (s[0].toNat : Int)) ∧ Ext w w' := by
  refine (read_any [1] s (some ⟨w.heap.size, 0, none⟩) c _ (by decide) hs (ints_new1 w 1 .i64 T)).mono fun e w' hp => ?_
  obtain ⟨x, d, rfl, h1, h2⟩ := readPost_some (by rw [nums1, if_pos (by simp; omega)]) hp
  obtain ⟨b, o, rfl, c0⟩ := h1.at 0 (by simp)
  have e : s.extract 1 s.size = ⟨(s.data.toList.drop 1).toArray⟩ := bytes_ext (by rw [ext_data, List.take_of_length_le (by simp)])
  have e2 : Crc.le (s.data.toList.take 1) = s[0].toNat := by
    rw [data_cons h]
    simp [Crc.le]
  refine ⟨b, o, d, by rw [e]; rfl, ?_, (Ext.alloc _ _).trans h2⟩
  rw [← e2]
  exact c0
end Go.Proofs.Ytemhflafiephpaa
