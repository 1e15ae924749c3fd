/- The program's Seal and the reference's answer alike, at every size, head and payload. -/
import Derived.Test.YtbnpldilkkhgmaaEnvL
import Derived.Test.YtbnpldilkkhgmaaEnvN
namespace Go.Proofs.Ytbnpldilkkhgmaa
open Go.RowKit
/-- what both answer: the image, what is known of it, the error -/
def BothSeal (z : Int) (k g : Nat) (x : Int) (p : ByteArray) (S : ByteArray) (a : Int) (g' c : Nat) (E : Int) : Prop :=
  (S.size ≤ maxLen ∧ c < 4294967296) ∧
  ((E = 0 ∧ a = x ∧ g' = g ∧ meetsB a g' c S = true) ∨ (¬ E = 0 ∧ a = 0 ∧ g' = 0 ∧ c = 0)) ∧
  (∀ b w, TabAt w b → Calls Try.prog 13 #[.pointer (some ⟨b, 0, none⟩), .int .i64 z, .agg #[.int .u8 (k : Int), .int .i64 x, .int .u64 (g : Int)], .string p] w fun e w' =>
    e = .returned (.tuple #[.string S, .agg #[.int .i64 a, .int .u64 (g' : Int), .int .u32 (c : Int)], .int .i64 E]) ∧ Ext w w') ∧
  (∀ w, Calls Try.prog 15 #[.int .i64 z, .agg #[.int .u8 (k : Int), .int .i64 x, .int .u64 (g : Int)], .string p] w fun e w' =>
    e = .returned (.tuple #[.string S, .int .u64 (c : Int), .int .i64 E]) ∧ Ext w w')
theorem seal_both (z : Int) (k g : Nat) (x : Int) (p : ByteArray) (hg : g < 18446744073709551616) : ∃ (S : ByteArray) (a : Int) (g' c : Nat) (E : Int), BothSeal z k g x p S a g' c E := by
  cases hb : Env.okSize z && Env.okHead ⟨k, x, g⟩ with
  | false => exact ⟨⟨#[]⟩, 0, 0, 0, 2, ⟨Nat.zero_le _, by decide⟩, .inr ⟨by decide, rfl, rfl, rfl⟩, fun b w _ => seal_bad b z k g x p w hb, fun w => refseal_bad z k g x p w hb⟩
  | true =>
    rw [Bool.and_eq_true] at hb
    obtain ⟨h1, h2⟩ := hb
    have b1 := Env.okSize_iff.1 h1
    have b2 := (Env.okHead_iff.1 h2).2
    simp only at b2
    by_cases hl : z - 24 < p.size
    · exact ⟨⟨#[]⟩, 0, 0, 0, 20, ⟨Nat.zero_le _, by decide⟩, .inr ⟨by decide, rfl, rfl, rfl⟩, fun b w _ => seal_long b z k g x p w h1 h2 hl, fun w => refseal_long z k g x p w h1 h2 hl⟩
    · obtain ⟨n, rfl⟩ : ∃ n : Nat, z = (n : Int) := ⟨z.toNat, by omega⟩
      obtain ⟨X, rfl⟩ : ∃ X : Nat, x = (X : Int) := ⟨x.toNat, by omega⟩
      have hme := (open_img (size := n) (p := p) h2 hg (by omega) (by omega) (by omega)).2
      refine ⟨_, X, g, sumT n ⟨k, X, g⟩ p, 0, ⟨?_, Crc.sum_lt _⟩, .inl ⟨rfl, rfl, rfl, ?_⟩, fun b w ht => seal_ok b n k X g p w ht h2 hg (by omega) (by omega) (by omega), fun w => refseal_ok n k X g p w h2 hg (by omega) (by omega) (by omega)⟩
      · rw [imgT_size (by omega)]; unfold maxLen; omega
      · exact (hme _ _ _).trans (by simp)
end Go.Proofs.Ytbnpldilkkhgmaa
