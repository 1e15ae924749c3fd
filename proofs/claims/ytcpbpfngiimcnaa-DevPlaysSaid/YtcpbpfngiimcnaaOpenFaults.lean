/- law03.Faults by value: its cells -/
import Derived.Test.YtcpbpfngiimcnaaOpen
import Derived.Test.YtcpbpfngiimcnaaBytes
import Derived.Deep.Slices
import Derived.Deep.Fields
import Derived.ChangeSame
import Derived.Deep.Strs
import Derived.Lib.SmallJoins
namespace Go.Proofs.Ytcpbpfngiimcnaa
open Go.RowKit Go.ChangeShapes Go.WideShapes Go.Deep
/-- whole numbers of a slice's cells -/
def IntsOf (k : IntKind) (w : World) (a : Option Addr) (xs : List Int) : Prop := ∀ i (h : i < xs.length), ∃ b off, a = some ⟨b, off, none⟩ ∧ w.cell? ⟨b, off + i, none⟩ = some (.int k xs[i])
theorem IntsOf.ext {k : IntKind} {w w' : World} {a : Option Addr} {xs : List Int} (h : IntsOf k w a xs) (e : Ext w w') : IntsOf k w' a xs := fun i hi => let ⟨b, o, h1, h2⟩ := h i hi; ⟨b, o, h1, cell_ext h2 e⟩
theorem IntsOf.take {k : IntKind} {w : World} {a : Option Addr} {xs : List Int} (h : IntsOf k w a xs) (n : Nat) : IntsOf k w a (xs.take n) := fun i hi => by
  have hi' : i < xs.length := by rw [List.length_take] at hi; omega
  obtain ⟨b, o, h1, h2⟩ := h i hi'
  exact ⟨b, o, h1, by simpa using h2⟩
section
variable {H : Type} {enc : TypeId × Value → H} {P : Program} {w : World} {base : Nat} {spare : Nat → Bool} {held : Bool} {t e : TypeId} {d : DataW H} {p : List MemPlace} {k : IntKind}
theorem slice_shape {n : Nat} {v : Value} {y : DataW H × List MemPlace} (ht : P.underlying t = some (.slice e)) (h : DataW.trod enc P w base spare held n t [v] = some y) : ∃ a len cap, v = .slice a len cap := by
  rcases open_slice ht h with ⟨hcs, _⟩ | ⟨a, len, cap, m, n, D, Pl, hcs, _⟩
  · exact ⟨none, 0, 0, by simpa using hcs⟩
  · exact ⟨some a, len, cap, by simpa using hcs⟩
theorem ints_cells {a0 : Option Addr} {len cap : Nat} (ht : P.underlying t = some (.slice e)) (he : P.underlying e = some (.int k)) (h1 : P.cellsOf e = 1) (h : DataW.Trod enc P w base spare held t (.slice a0 len cap) d p) :
    ∃ xs : List Int, xs.length = len ∧ IntsOf k w a0 xs ∧ (len ≤ cap ∧ cap ≤ maxLen) ∧ ∀ x ∈ xs, (Lit.int k x).wf = true := by
  obtain ⟨fuel, hf⟩ := h
  rcases open_ints ht he h1 hf with ⟨hcs, hx⟩ | ⟨a, len', cap', zs, hcs, _, hle, hmax, hall, hx, hcell, hwf⟩
  · simp [Value.cells] at hcs
    obtain ⟨rfl, rfl, rfl⟩ := hcs
    exact ⟨[], rfl, fun i hi => by simp at hi, ⟨Nat.zero_le _, Nat.zero_le _⟩, fun x hx => by simp at hx⟩
  · simp [Value.cells] at hcs
    obtain ⟨rfl, rfl, rfl⟩ := hcs
    have hlen : len ≤ zs.length := by rw [hall]; split <;> omega
    have hz : (zs.take len).length = len := by rw [List.length_take]; omega
    refine ⟨zs.take len, hz, fun i hi => ?_, ⟨by omega, hmax⟩, fun x hx => hwf x (List.mem_of_mem_take hx)⟩
    have hi' : i < len := by omega
    have h0 := hcell 0 (by omega)
    have hi2 := hcell i (by omega)
    obtain ⟨b, off, spot⟩ := a
    have hs : spot = none := by
      cases spot with
      | none => rfl
      | some y =>
        exfalso
        simp only [Addr.add, if_pos] at h0
        unfold World.cell? at h0
        split at h0
        all_goals simp at h0
    subst hs
    refine ⟨b, off, rfl, ?_⟩
    have e : (⟨b, off, none⟩ : Addr).add i = ⟨b, off + i, none⟩ := by unfold Addr.add; split <;> simp_all
    rw [e] at hi2
    rw [hi2]
    simp [List.getD_eq_getElem?_getD, show i < zs.length by omega]
end
set_option maxRecDepth 100000 in
theorem open_faults {H : Type} {enc : TypeId × Value → H} {w : World} {base b0 : Nat} {spare : Nat → Bool} {held : Bool} {r : Reach} {v : Value} {d : DataW H} {p : List MemPlace}
    (hv : Value.okWide Try.prog w r b0 44 v) (h : DataW.Trod enc Try.prog w base spare held 44 v d p) :
    ∃ (x y z : Nat) (a : Option Addr) (l : List Int) (ca : Nat), v = .agg #[.int .u8 (x : Int), .int .u8 (y : Int), .int .u8 (z : Int), .slice a l.length ca] ∧ x < 256 ∧ y < 256 ∧ z < 256 ∧ IntsOf .u8 w a l ∧ (l.length ≤ ca ∧ ca ≤ maxLen) ∧ ∀ u ∈ l, 0 ≤ u ∧ u < 256 := by
  obtain ⟨v0, v1, v2, v3, y0, y1, y2, y3, n, rfl, _, _, t0, t1, t2, t3⟩ := Go.Joins.open_agg4 Try.underlying44 (by kernel_rfl) (by kernel_rfl) hv h
  obtain ⟨x0, e0, _, l0⟩ := DataW.trod_int Try.underlying5 t0
  obtain ⟨x1, e1, _, l1⟩ := DataW.trod_int Try.underlying5 t1
  obtain ⟨x2, e2, _, l2⟩ := DataW.trod_int Try.underlying5 t2
  obtain ⟨k0, rfl⟩ := nat_u8 l0
  obtain ⟨k1, rfl⟩ := nat_u8 l1
  obtain ⟨k2, rfl⟩ := nat_u8 l2
  obtain ⟨a, len, cap, rfl⟩ := slice_shape Try.underlying22 t3
  obtain ⟨l, rfl, hI, hc, hS⟩ := ints_cells Try.underlying22 Try.underlying5 (by kernel_rfl) ⟨n, t3⟩
  simp only [List.cons.injEq, and_true] at e0 e1 e2
  subst e0 e1 e2
  refine ⟨k0.toNat, k1.toNat, k2.toNat, a, l, cap, rfl, k0.toNat_lt, k1.toNat_lt, k2.toNat_lt, hI, hc, fun u hu => ?_⟩
  obtain ⟨j, rfl⟩ := nat_u8 (hS u hu)
  have := j.toNat_lt
  omega
end Go.Proofs.Ytcpbpfngiimcnaa
