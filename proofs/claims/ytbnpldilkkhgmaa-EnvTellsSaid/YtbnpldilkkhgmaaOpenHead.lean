/- a law04.Head by value, and small arrays by value: their cells -/
import Derived.Test.YtbnpldilkkhgmaaOpen
import Derived.Lib.SmallJoins
namespace Go.Proofs.Ytbnpldilkkhgmaa
open Go.RowKit Go.ChangeShapes Go.WideShapes
section
variable {H : Type} {enc : TypeId × Value → H} {P : Program} {w : World} {base b0 : Nat} {spare : Nat → Bool} {held : Bool} {r : Reach} {t e n : Nat} {v : Value} {d : DataW H} {p : List MemPlace}
theorem okWide_arr (ht : P.underlying t = some (.array n e)) (h : Value.okWide P w r b0 t v) : ∃ cs, v = .agg cs ∧ cs.size = P.cellsOf t := by
  simp only [Value.okWide, ht] at h
  obtain ⟨cs, h1, h2, _⟩ := h
  exact ⟨cs, h1, h2⟩
/-- each element of one cell: its reading -/
theorem open_arr (ht : P.underlying t = some (.array n e)) (hc : P.cellsOf t = n) (h1 : P.cellsOf e = 1) (hv : Value.okWide P w r b0 t v) (h : DataW.Trod enc P w base spare held t v d p) :
    ∃ cs : Array Value, v = .agg cs ∧ cs.size = n ∧ ∀ i (_ : i < n) (hs : i < cs.size), ∃ m x, DataW.trod enc P w base spare held m e [cs[i]] = some x := by
  obtain ⟨cs, rfl, hsz⟩ := okWide_arr ht hv
  obtain ⟨fuel, hf⟩ := h
  obtain ⟨xs, m, _, _, hl, hxl, hx⟩ := DataW.trod_array ht hf
  refine ⟨cs, rfl, by omega, fun i hi hs => ?_⟩
  have h9 := hx i hi
  rw [h1, Nat.mul_one] at h9
  have e1 : ((Value.agg cs).cells.toList.drop i).take 1 = [cs[i]] := by
    show (cs.toList.drop i).take 1 = _
    rw [List.drop_eq_getElem_cons (by simpa using hs)]
    simp
  rw [e1] at h9
  exact ⟨m, xs[i]'(by omega), by rw [h9]; simp [show i < xs.length from by omega]⟩
end
set_option maxRecDepth 100000 in
/-- a law04.Head, by value -/
theorem open_head {H : Type} {enc : TypeId × Value → H} {w : World} {base b0 : Nat} {spare : Nat → Bool} {held : Bool} {r : Reach} {v : Value} {d : DataW H} {p : List MemPlace}
    (hv : Value.okWide Try.prog w r b0 24 v) (h : DataW.Trod enc Try.prog w base spare held 24 v d p) :
    ∃ (k : Nat) (x : Int) (g : Nat), v = .agg #[.int .u8 (k : Int), .int .i64 x, .int .u64 (g : Int)] ∧ k < 256 ∧ -9223372036854775808 ≤ x ∧ x ≤ 9223372036854775807 ∧ g < 18446744073709551616 := by
  obtain ⟨v0, v1, v2, y0, y1, y2, n, rfl, _, _, t0, t1, t2⟩ := Go.Joins.open_agg3 Try.underlying24 (by kernel_rfl) (by kernel_rfl) hv h
  obtain ⟨x0, e0, _, l0⟩ := DataW.trod_int Try.underlying5 t0
  obtain ⟨x1, e1, _, l1⟩ := DataW.trod_int Try.underlying3 t1
  obtain ⟨x2, e2, _, l2⟩ := DataW.trod_int Try.underlying22 t2
  obtain ⟨k, rfl⟩ := nat_u8 l0
  obtain ⟨b, c⟩ := int_i64 l1
  obtain ⟨n, rfl, hn⟩ := nat_u64 l2
  simp only [List.cons.injEq, and_true] at e0 e1 e2
  subst e0 e1 e2
  exact ⟨k.toNat, x1, n, rfl, k.toNat_lt, b, c, hn⟩
set_option maxRecDepth 100000 in
theorem open_arr3w {H : Type} {enc : TypeId × Value → H} {w : World} {base b0 : Nat} {spare : Nat → Bool} {held : Bool} {r : Reach} {v : Value} {d : DataW H} {p : List MemPlace}
    (hv : Value.okWide Try.prog w r b0 62 v) (h : DataW.Trod enc Try.prog w base spare held 62 v d p) :
    ∃ x y z : Nat, v = .agg #[.int .u32 (x : Int), .int .u32 (y : Int), .int .u32 (z : Int)] ∧ x < 4294967296 ∧ y < 4294967296 ∧ z < 4294967296 := by
  obtain ⟨cs, rfl, hs, hx⟩ := open_arr Try.underlying62 (by kernel_rfl) (by kernel_rfl) hv h
  obtain ⟨m0, x0, h0⟩ := hx 0 (by omega) (by omega)
  obtain ⟨m1, x1, h1⟩ := hx 1 (by omega) (by omega)
  obtain ⟨m2, x2, h2⟩ := hx 2 (by omega) (by omega)
  obtain ⟨a, ha, _, la⟩ := DataW.trod_int Try.underlying30 h0
  obtain ⟨b, hb, _, lb⟩ := DataW.trod_int Try.underlying30 h1
  obtain ⟨c, hc, _, lc⟩ := DataW.trod_int Try.underlying30 h2
  obtain ⟨x, rfl, hx⟩ := nat_u32 la
  obtain ⟨y, rfl, hy⟩ := nat_u32 lb
  obtain ⟨z, rfl, hz⟩ := nat_u32 lc
  refine ⟨x, y, z, ?_, hx, hy, hz⟩
  simp only [List.cons.injEq, and_true] at ha hb hc
  rw [← ha, ← hb, ← hc]
  congr 1
  refine Array.ext (by simpa using hs) fun i h1 h2 => ?_
  match i, h2 with
  | 0, _ => rfl
  | 1, _ => rfl
  | 2, _ => rfl
set_option maxRecDepth 100000 in
theorem open_arr2s {H : Type} {enc : TypeId × Value → H} {w : World} {base b0 : Nat} {spare : Nat → Bool} {held : Bool} {r : Reach} {v : Value} {d : DataW H} {p : List MemPlace}
    (hv : Value.okWide Try.prog w r b0 47 v) (h : DataW.Trod enc Try.prog w base spare held 47 v d p) :
    ∃ x y : ByteArray, v = .agg #[.string x, .string y] ∧ x.size ≤ maxLen ∧ y.size ≤ maxLen := by
  obtain ⟨cs, rfl, hs, hx⟩ := open_arr Try.underlying47 (by kernel_rfl) (by kernel_rfl) hv h
  obtain ⟨m0, x0, h0⟩ := hx 0 (by omega) (by omega)
  obtain ⟨m1, x1, h1⟩ := hx 1 (by omega) (by omega)
  obtain ⟨a, ha, _, la⟩ := DataW.trod_string Try.underlying9 h0
  obtain ⟨b, hb, _, lb⟩ := DataW.trod_string Try.underlying9 h1
  refine ⟨a, b, ?_, la, lb⟩
  simp only [List.cons.injEq, and_true] at ha hb
  rw [← ha, ← hb]
  congr 1
  refine Array.ext (by simpa using hs) fun i h1 h2 => ?_
  match i, h2 with
  | 0, _ => rfl
  | 1, _ => rfl
end Go.Proofs.Ytbnpldilkkhgmaa
