/- a slice of law12.Update's: its cells -/
import Derived.Test.YtemhflafiephpaaUps
import Derived.Test.YtemhflafiephpaaRecD
namespace Go.Proofs.Ytemhflafiephpaa
open Go.RowKit Go.ChangeShapes Go.WideShapes Go.Deep
set_option maxRecDepth 100000 in
theorem open_recs {H : Type} {enc : TypeId × Value → H} {w : World} {base b0 : Nat} {spare : Nat → Bool} {held : Bool} {r : Reach} {v : Value} {d : DataW H} {p : List MemPlace}
    (hv : Value.okWide Try.prog w r b0 55 v) (h : DataW.Trod enc Try.prog w base spare held 55 v d p) :
    ∃ (a : Option Addr) (l : List Msg.Up) (cap : Nat), v = .slice a l.length cap ∧ Recs w a l ∧ (l.length ≤ cap ∧ cap ≤ maxLen) ∧ ∀ u ∈ l, FitU u := by
  obtain ⟨a, len, cap, rfl⟩ := okWide_slice Try.underlying55 hv
  obtain ⟨h1, h2, h3⟩ := open_fields Try.underlying55 Try.underlying67 (by kernel_rfl) (by kernel_rfl) (by show 0 < 4; omega) h
  obtain ⟨U, hU⟩ := choose_lt (n := len) (p := fun i (u : Msg.Up) => (∃ b off, a = some ⟨b, off, none⟩ ∧ w.cell? ⟨b, off + i * 4, none⟩ = some (.int .u8 (u.kind : Int)) ∧ w.cell? ⟨b, off + i * 4 + 1, none⟩ = some (.string u.key) ∧ w.cell? ⟨b, off + i * 4 + 2, none⟩ = some (.string u.value) ∧ w.cell? ⟨b, off + i * 4 + 3, none⟩ = some (.int .u64 (u.delta : Int))) ∧ FitU u) (fun i hi => by
    obtain ⟨b, off, rfl, hf⟩ := h3 i hi
    obtain ⟨v0, n0, y0, c0, t0⟩ := hf 0 _ rfl
    obtain ⟨v1, n1, y1, c1, t1⟩ := hf 1 _ rfl
    obtain ⟨v2, n2, y2, c2, t2⟩ := hf 2 _ rfl
    obtain ⟨v3, n3, y3, c3, t3⟩ := hf 3 _ rfl
    obtain ⟨x0, e0, _, l0⟩ := DataW.trod_int Try.underlying5 t0
    obtain ⟨x1, e1, _, l1⟩ := DataW.trod_string Try.underlying9 t1
    obtain ⟨x2, e2, _, l2⟩ := DataW.trod_string Try.underlying9 t2
    obtain ⟨x3, e3, _, l3⟩ := DataW.trod_int Try.underlying22 t3
    obtain ⟨k, rfl⟩ := nat_u8 l0
    obtain ⟨n, rfl, hn⟩ := nat_u64 l3
    simp only [List.cons.injEq, and_true] at e0 e1 e2 e3
    subst e0 e1 e2 e3
    simp only [List.size_toArray, List.length_cons, List.length_nil, Nat.reduceAdd, Nat.add_zero, ← Nat.add_assoc] at c0 c1 c2 c3
    exact ⟨⟨k.toNat, x1, x2, n⟩, ⟨b, off, rfl, c0, c1, c2, c3⟩, k.toNat_lt, l1, l2, hn⟩)
  refine ⟨a, (List.range len).map U, cap, by simp, fun i hi => ?_, by simpa using ⟨h1, h2⟩, fun u hu => ?_⟩
  · have hi' : i < len := by simpa using hi
    simpa using (hU i hi').1
  · obtain ⟨i, hi, rfl⟩ := List.mem_map.1 hu
    exact (hU i (List.mem_range.1 hi)).2
end Go.Proofs.Ytemhflafiephpaa
