/- []uint8: its cells -/
import Derived.Test.YtcpbpfngiimcnaaOpenFaults
namespace Go.Proofs.Ytcpbpfngiimcnaa
open Go.RowKit Go.ChangeShapes Go.WideShapes Go.Deep
set_option maxRecDepth 100000 in
theorem open_bslice {H : Type} {enc : TypeId × Value → H} {w : World} {base b0 : Nat} {spare : Nat → Bool} {held : Bool} {r : Reach} {v : Value} {d : DataW H} {p : List MemPlace}
    (hv : Value.okWide Try.prog w r b0 22 v) (h : DataW.Trod enc Try.prog w base spare held 22 v d p) :
    ∃ (a : Option Addr) (l : List Int) (ca : Nat), v = .slice a l.length ca ∧ IntsOf .u8 w a l ∧ (l.length ≤ ca ∧ ca ≤ maxLen) ∧ ∀ u ∈ l, 0 ≤ u ∧ u < 256 := by
  obtain ⟨a, len, cap, rfl⟩ := okWide_slice Try.underlying22 hv
  obtain ⟨l, rfl, hI, hc, hS⟩ := ints_cells Try.underlying22 Try.underlying5 (by kernel_rfl) h
  refine ⟨a, l, cap, rfl, hI, hc, fun u hu => ?_⟩
  obtain ⟨j, rfl⟩ := nat_u8 (hS u hu)
  have := j.toNat_lt
  omega
end Go.Proofs.Ytcpbpfngiimcnaa
