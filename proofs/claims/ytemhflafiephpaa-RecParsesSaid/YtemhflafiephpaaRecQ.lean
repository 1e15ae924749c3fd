/- how Parse and Open answer, in one form for every text -/
import Derived.Test.YtemhflafiephpaaRecP
namespace Go.Proofs.Ytemhflafiephpaa
open Go.RowKit
/-- what Parse tells -/
def parsA (s : ByteArray) : List Msg.Up × Nat := match Rec.parseAll s with
  | some l => (l, 0)
  | none => ([], 4)
theorem parsA_length (s : ByteArray) : (parsA s).1.length ≤ s.size := by
  unfold parsA
  cases h : Rec.parseAll s with
  | none => exact Nat.zero_le _
  | some l => exact parse_length _ _ _ h
theorem parsA_of {T : TypeId} {B : Nat} {s : ByteArray} {e : Ending} {w' : World} (h : ParsePost T B (Rec.parseAll s) e w') :
    ∃ a ca, e = .returned (.tuple #[.slice a (parsA s).1.length ca, .int .i64 ((parsA s).2 : Nat)]) ∧ Recs w' a (parsA s).1 := by
  unfold parsA
  cases h1 : Rec.parseAll s with
  | none =>
    rw [h1] at h
    exact ⟨none, 0, h, Recs.nil _ _⟩
  | some l =>
    rw [h1] at h
    obtain ⟨v, rfl, ho, _⟩ := h
    obtain ⟨a, ca, rfl, _, _, hR⟩ := own_recs ho
    exact ⟨a, ca, rfl, hR⟩
/-- what Open tells -/
def opensA (s : ByteArray) : Nat × Nat × List Msg.Up × Nat := match Rec.opens s with
  | some (q, c, l) => (q, c, l, 0)
  | none => (0, 0, [], 4)
theorem opensA_length (s : ByteArray) : (opensA s).2.2.1.length ≤ s.size := by
  unfold opensA
  cases h : Rec.opens s with
  | none => exact Nat.zero_le _
  | some x =>
    obtain ⟨q, c, l⟩ := x
    show l.length ≤ _
    unfold Rec.opens at h
    split at h
    · cases h1 : Rec.parseAll (s.extract 14 s.size) with
      | none => rw [h1] at h; cases h
      | some m =>
        rw [h1] at h
        simp only at h
        split at h
        · have h2 := parse_length _ _ _ h1
          simp only [ByteArray.size_extract] at h2
          simp only [Option.some.injEq, Prod.mk.injEq] at h
          obtain ⟨_, _, rfl⟩ := h
          omega
        · cases h
    · cases h
theorem opensA_of {s : ByteArray} {e : Ending} {w' : World} (h : OpenPost (Rec.opens s) e w') :
    ∃ a ca, e = .returned (.tuple #[.agg #[.int .u64 ((opensA s).1 : Int), .int .u32 ((opensA s).2.1 : Int), .slice a (opensA s).2.2.1.length ca], .int .i64 ((opensA s).2.2.2 : Nat)]) ∧ Recs w' a (opensA s).2.2.1 := by
  unfold opensA
  cases h1 : Rec.opens s with
  | none =>
    rw [h1] at h
    exact ⟨none, 0, h, Recs.nil _ _⟩
  | some x =>
    rw [h1] at h
    exact h
theorem turn_byte (u : UInt8) (y : Nat) : ∃ v : UInt8, Go.bits .xor .u8 (u.toNat : Int) ((y : Int) % 256) = v.toNat := by
  have h2 : y % 256 < 256 := Nat.mod_lt _ (by decide)
  have h1 : u.toNat ^^^ (y % 256) < 256 := Nat.xor_lt_two_pow (n := 8) u.toNat_lt h2
  refine ⟨UInt8.ofNat (u.toNat ^^^ (y % 256)), ?_⟩
  have e : (y : Int) % 256 = ((y % 256 : Nat) : Int) := by omega
  rw [e, u8_xor_nat _ _ u.toNat_lt h2]
  exact congrArg _ (UInt8.toNat_ofNat_of_lt h1).symm
/-- a slice of texts -/
def SlT (l : List ByteArray) (v : Value) (w : World) : Prop := ∃ b, v = .slice (some ⟨b, 0, none⟩) l.length l.length ∧ ∀ i (h : i < l.length), w.cell? ⟨b, i, none⟩ = some (.string l[i])
theorem SlT.ext {l : List ByteArray} {v : Value} {w w' : World} (h : SlT l v w) (e : Ext w w') : SlT l v w' := by
  obtain ⟨b, rfl, hb⟩ := h
  exact ⟨b, rfl, fun i hi => cell_ext (hb i hi) e⟩
theorem SlT.new8 (w : World) (a b c d e f g h : ByteArray) : SlT [a, b, c, d, e, f, g, h] (.slice (some ⟨w.heap.size, 0, none⟩) 8 8) (w.alloc (.cells #[.string a, .string b, .string c, .string d, .string e, .string f, .string g, .string h] 9)) := by
  refine ⟨_, rfl, fun i hi => ?_⟩
  rw [World.cell?_alloc_new]
  match i, hi with
  | 0, _ => rfl
  | 1, _ => rfl
  | 2, _ => rfl
  | 3, _ => rfl
  | 4, _ => rfl
  | 5, _ => rfl
  | 6, _ => rfl
  | 7, _ => rfl
end Go.Proofs.Ytemhflafiephpaa
