/- The program's Open of layer 5 and the reference's answer alike. -/
import Derived.Test.YtbnpldilkkhgmaaSupH
import Derived.Test.YtbnpldilkkhgmaaSupG
namespace Go.Proofs.Ytbnpldilkkhgmaa
open Go.RowKit
theorem both_open (s : ByteArray) (hm : s.size ≤ maxLen) : ∃ (g : Nat) (a : Int) (r u : Nat) (h : Int) (q c : Nat) (E : Int),
    (∀ b w, TabAt w b → Calls Try.prog 30 #[.pointer (some ⟨b, 0, none⟩), .string s] w fun e w' => e = .returned (.tuple #[.agg #[.int .u64 (g : Int), .int .i64 a, .int .u64 (r : Int), .int .u32 (u : Int), .int .i64 h, .int .u64 (q : Int), .int .u32 (c : Int)], .int .i64 E]) ∧ Ext w w') ∧
    (∀ w, Calls Try.prog 31 #[.string s] w fun e w' => e = .returned (.tuple #[.agg #[.int .u64 (g : Int), .int .i64 a, .int .u64 (r : Int), .int .u32 (u : Int), .int .i64 h, .int .u64 (q : Int), .int .u32 (c : Int)], .int .i64 E]) ∧ Ext w w') := by
  have hro := fun w => refopen_any s w hm
  rcases refopen_cases s with ⟨k, X, g, p, c, ⟨hq, hX⟩, hop, href⟩ | ⟨e, hop, he, href⟩
  · rw [href] at hro
    have hp := parts_small hq
    have h1 := fun b w ht => sopen_good b k X g s p w ht hm (by omega) hop
    have h2 := fun w => rsopen_good s p k X g c w (by omega) hX hro
    unfold sopenAns at h1 h2
    by_cases hc : ((p.size = 29 ∧ (three p.data.toList).a ≤ 2147483647) ∧ Sup.okB g (three p.data.toList).g ((tail3 (p.data.toList.drop 16)).a : Nat) = true) ∧ k = 1 ∧ X = g % 2
    · rw [if_pos hc] at h1 h2
      exact ⟨g, ((three p.data.toList).a : Nat), (three p.data.toList).g, (three p.data.toList).c, ((tail3 (p.data.toList.drop 16)).a : Nat), (tail3 (p.data.toList.drop 16)).g, (tail3 (p.data.toList.drop 16)).c, 0, h1, h2⟩
    · rw [if_neg hc] at h1 h2
      exact ⟨0, 0, 0, 0, 0, 0, 0, 4, h1, h2⟩
  · rw [href] at hro
    exact ⟨0, 0, 0, 0, 0, 0, 0, e, fun b w ht => sopen_bad b s w ht hm e (by omega) hop, fun w => rsopen_bad s e (by omega) w hro⟩
theorem refsup_image (g X r u h s c : Nat) (w : World) (hg : g < 18446744073709551616) (hX : X ≤ 2147483647) (hr : r < 18446744073709551616) (hu : u < 4294967296) (hs : s < 18446744073709551616) (hc : c < 4294967296) (hb : Sup.okB g r (h : Int) = true) :
    Calls Try.prog 27 #[.agg #[.int .u64 (g : Int), .int .i64 (X : Int), .int .u64 (r : Int), .int .u32 (u : Int), .int .i64 (h : Int), .int .u64 (s : Int), .int .u32 (c : Int)], .int .i64 128] w fun e w' => e = .returned (.tuple #[.string (supT g X r u h s c), .int .i64 0]) ∧ Ext w w' :=
  refimage_gen g X r u h s c 128 w hX hr hu hs hc hb (by decide) _ (sumT 128 ⟨1, ((g % 2 : Nat) : Int), g⟩ (payT X r u h s c)) 0 fun w =>
    refseal_ok 128 1 (g % 2) g (payT X r u h s c) w (sup_head g) hg (by rw [payT_size]; decide) (by decide) (by decide)
end Go.Proofs.Ytbnpldilkkhgmaa
