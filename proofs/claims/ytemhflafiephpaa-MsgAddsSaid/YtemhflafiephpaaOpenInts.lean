/- what a slice of integers gives when it is read -/
import Derived.Test.YtemhflafiephpaaOpen
import Derived.Test.YtemhflafiephpaaLendW
namespace Go.Proofs.Ytemhflafiephpaa
open Go.RowKit Go.ChangeShapes Go.WideShapes
section
variable {H : Type} {enc : TypeId × Value → H} {P : Program} {w : World} {base b0 : Nat} {spare : Nat → Bool} {held : Bool} {r : Reach} {t e : TypeId} {v : Value} {d : DataW H} {p : List MemPlace} {k : IntKind}
theorem open_row (ht : P.underlying t = some (.slice e)) (he : P.underlying e = some (.int k)) (h1 : P.cellsOf e = 1) (hv : Value.okWide P w r b0 t v) (h : DataW.Trod enc P w base spare held t v d p) :
    ∃ (a : Option Addr) (xs : List Int) (cap : Nat), v = .slice a xs.length cap ∧ Ints k w a xs ∧ xs.length ≤ cap ∧ cap ≤ maxLen ∧ ∀ x ∈ xs, (Lit.int k x).wf = true := by
  obtain ⟨a0, len, cap, rfl⟩ := okWide_slice ht hv
  obtain ⟨fuel, hf⟩ := h
  rcases open_ints ht he h1 hf with ⟨hcs, hx⟩ | ⟨a, len', cap', zs, hcs, _, hle, hmax, hall, hx, hcell, hwf⟩
  · simp [Value.cells] at hcs
    obtain ⟨rfl, rfl, rfl⟩ := hcs
    exact ⟨none, [], 0, rfl, fun i hi => by simp at hi, Nat.zero_le _, Nat.zero_le _, fun x hx => by simp at hx⟩
  · simp [Value.cells] at hcs
    obtain ⟨rfl, rfl, rfl⟩ := hcs
    have hlen : len ≤ zs.length := by rw [hall]; split <;> omega
    have hz : (zs.take len).length = len := by rw [List.length_take]; omega
    refine ⟨some a, zs.take len, cap, by rw [hz], fun i hi => ?_, by omega, hmax, fun x hx => hwf x (List.mem_of_mem_take hx)⟩
    have hi' : i < len := by omega
    have h0 := hcell 0 (by omega)
    have hi2 := hcell i (by omega)
    obtain ⟨b, off, spot⟩ := a
    have hs : spot = none := by
      cases spot with
      | none => rfl
      | some y =>
        exfalso
        simp only [Addr.add, if_pos] at h0
        unfold World.cell? at h0
        split at h0
        all_goals simp at h0
    subst hs
    refine ⟨b, off, rfl, ?_⟩
    have e : (⟨b, off, none⟩ : Addr).add i = ⟨b, off + i, none⟩ := by unfold Addr.add; split <;> simp_all
    rw [e] at hi2
    rw [hi2]
    simp [List.getD_eq_getElem?_getD, show i < zs.length by omega]
/-- a slice of int -/
theorem open_islice (ht : P.underlying t = some (.slice e)) (he : P.underlying e = some (.int .i64)) (h1 : P.cellsOf e = 1) (hv : Value.okWide P w r b0 t v) (h : DataW.Trod enc P w base spare held t v d p) :
    ∃ (a : Option Addr) (xs : List Int) (cap : Nat), v = .slice a xs.length cap ∧ Ints .i64 w a xs ∧ (xs.length ≤ cap ∧ cap ≤ maxLen) ∧ ∀ x ∈ xs, -9223372036854775808 ≤ x ∧ x ≤ 9223372036854775807 := by
  obtain ⟨a, xs, cap, h1, h2, h3, h4, h5⟩ := open_row ht he h1 hv h
  exact ⟨a, xs, cap, h1, h2, ⟨h3, h4⟩, fun x hx => int_i64 (h5 x hx)⟩
/-- a slice of uint64 -/
theorem open_uslice (ht : P.underlying t = some (.slice e)) (he : P.underlying e = some (.int .u64)) (h1 : P.cellsOf e = 1) (hv : Value.okWide P w r b0 t v) (h : DataW.Trod enc P w base spare held t v d p) :
    ∃ (a : Option Addr) (ns : List Nat) (cap : Nat), v = .slice a ns.length cap ∧ Nums w a ns ∧ (ns.length ≤ cap ∧ cap ≤ maxLen) ∧ SmallN ns := by
  obtain ⟨a, xs, cap, h1, h2, h3, h4, h5⟩ := open_row ht he h1 hv h
  have e : (xs.map Int.toNat).map Int.ofNat = xs := by
    rw [List.map_map]
    conv => rhs; rw [← List.map_id xs]
    refine List.map_congr_left fun x hx => ?_
    have := wf_bounds (h5 x hx)
    simp [IntKind.min, IntKind.max, IntKind.signed, IntKind.bits] at this
    show ((x.toNat : Nat) : Int) = x
    omega
  refine ⟨a, xs.map Int.toNat, cap, by rw [h1, List.length_map], by unfold Nums; rw [e]; exact h2, by rw [List.length_map]; exact ⟨h3, h4⟩, fun n hn => ?_⟩
  obtain ⟨x, hx, rfl⟩ := List.mem_map.1 hn
  have := wf_bounds (h5 x hx)
  simp [IntKind.min, IntKind.max, IntKind.signed, IntKind.bits] at this
  omega
end
end Go.Proofs.Ytemhflafiephpaa
