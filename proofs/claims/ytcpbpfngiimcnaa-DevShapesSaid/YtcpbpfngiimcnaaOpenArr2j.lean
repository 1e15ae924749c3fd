/- what arrays by value give when they are read: their cells -/
import Derived.Test.YtcpbpfngiimcnaaOpen
namespace Go.Proofs.Ytcpbpfngiimcnaa
open Go.RowKit Go.ChangeShapes Go.WideShapes
section
variable {H : Type} {enc : TypeId × Value → H} {P : Program} {w : World} {base b0 : Nat} {spare : Nat → Bool} {held : Bool} {r : Reach} {t e n : Nat} {v : Value} {d : DataW H} {p : List MemPlace}
theorem okWide_arr (ht : P.underlying t = some (.array n e)) (h : Value.okWide P w r b0 t v) : ∃ cs, v = .agg cs ∧ cs.size = P.cellsOf t := by
  simp only [Value.okWide, ht] at h
  obtain ⟨cs, h1, h2, _⟩ := h
  exact ⟨cs, h1, h2⟩
/-- each element of one cell: its reading -/
theorem open_arr (ht : P.underlying t = some (.array n e)) (hc : P.cellsOf t = n) (h1 : P.cellsOf e = 1) (hv : Value.okWide P w r b0 t v) (h : DataW.Trod enc P w base spare held t v d p) :
    ∃ cs : Array Value, v = .agg cs ∧ cs.size = n ∧ ∀ i (_ : i < n) (hs : i < cs.size), ∃ m x, DataW.trod enc P w base spare held m e [cs[i]] = some x := by
  obtain ⟨cs, rfl, hsz⟩ := okWide_arr ht hv
  obtain ⟨fuel, hf⟩ := h
  obtain ⟨xs, m, _, _, hl, hxl, hx⟩ := DataW.trod_array ht hf
  refine ⟨cs, rfl, by omega, fun i hi hs => ?_⟩
  have h9 := hx i hi
  rw [h1, Nat.mul_one] at h9
  have e1 : ((Value.agg cs).cells.toList.drop i).take 1 = [cs[i]] := by
    show (cs.toList.drop i).take 1 = _
    rw [List.drop_eq_getElem_cons (by simpa using hs)]
    simp
  rw [e1] at h9
  exact ⟨m, xs[i]'(by omega), by rw [h9]; simp [show i < xs.length from by omega]⟩
end
set_option maxRecDepth 100000 in
theorem open_arr2i {H : Type} {enc : TypeId × Value → H} {w : World} {base b0 : Nat} {spare : Nat → Bool} {held : Bool} {r : Reach} {v : Value} {d : DataW H} {p : List MemPlace}
    (hv : Value.okWide Try.prog w r b0 70 v) (h : DataW.Trod enc Try.prog w base spare held 70 v d p) :
    ∃ x y : Int, v = .agg #[.int .i64 x, .int .i64 y] ∧ -9223372036854775808 ≤ x ∧ x ≤ 9223372036854775807 ∧ -9223372036854775808 ≤ y ∧ y ≤ 9223372036854775807 := by
  obtain ⟨cs, rfl, hs, hx⟩ := open_arr Try.underlying70 (by kernel_rfl) (by kernel_rfl) hv h
  obtain ⟨m0, x0, h0⟩ := hx 0 (by omega) (by omega)
  obtain ⟨m1, x1, h1⟩ := hx 1 (by omega) (by omega)
  obtain ⟨a, ha, _, la⟩ := DataW.trod_int Try.underlying3 h0
  obtain ⟨b, hb, _, lb⟩ := DataW.trod_int Try.underlying3 h1
  obtain ⟨p0, q0⟩ := int_i64 la
  obtain ⟨p1, q1⟩ := int_i64 lb
  refine ⟨a, b, ?_, p0, q0, p1, q1⟩
  simp only [List.cons.injEq, and_true] at ha hb
  rw [← ha, ← hb]
  congr 1
  refine Array.ext (by simpa using hs) fun i h1 h2 => ?_
  match i, h2 with
  | 0, _ => rfl
  | 1, _ => rfl
end Go.Proofs.Ytcpbpfngiimcnaa
