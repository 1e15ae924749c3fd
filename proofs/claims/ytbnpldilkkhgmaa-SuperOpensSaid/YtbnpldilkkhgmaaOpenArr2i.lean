/- a [2]int by value -/
import Derived.Test.YtbnpldilkkhgmaaOpenHead
namespace Go.Proofs.Ytbnpldilkkhgmaa
open Go.RowKit Go.ChangeShapes Go.WideShapes
set_option maxRecDepth 100000 in
theorem open_arr2i {H : Type} {enc : TypeId × Value → H} {w : World} {base b0 : Nat} {spare : Nat → Bool} {held : Bool} {r : Reach} {v : Value} {d : DataW H} {p : List MemPlace}
    (hv : Value.okWide Try.prog w r b0 78 v) (h : DataW.Trod enc Try.prog w base spare held 78 v d p) :
    ∃ x y : Int, v = .agg #[.int .i64 x, .int .i64 y] ∧ -9223372036854775808 ≤ x ∧ x ≤ 9223372036854775807 ∧ -9223372036854775808 ≤ y ∧ y ≤ 9223372036854775807 := by
  obtain ⟨cs, rfl, hs, hx⟩ := open_arr Try.underlying78 (by kernel_rfl) (by kernel_rfl) hv h
  obtain ⟨m0, x0, h0⟩ := hx 0 (by omega) (by omega)
  obtain ⟨m1, x1, h1⟩ := hx 1 (by omega) (by omega)
  obtain ⟨a, ha, _, la⟩ := DataW.trod_int Try.underlying3 h0
  obtain ⟨b, hb, _, lb⟩ := DataW.trod_int Try.underlying3 h1
  obtain ⟨p0, q0⟩ := int_i64 la
  obtain ⟨p1, q1⟩ := int_i64 lb
  refine ⟨a, b, ?_, p0, q0, p1, q1⟩
  simp only [List.cons.injEq, and_true] at ha hb
  rw [← ha, ← hb]
  congr 1
  refine Array.ext (by simpa using hs) fun i h1 h2 => ?_
  match i, h2 with
  | 0, _ => rfl
  | 1, _ => rfl
end Go.Proofs.Ytbnpldilkkhgmaa
