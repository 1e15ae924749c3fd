/- A slice of int of the call's own: its form, an append. -/
import Derived.Test.YtbnpldilkkhgmaaOwn
import Derived.Test.YtbnpldilkkhgmaaLendW
namespace Go.Proofs.Ytbnpldilkkhgmaa
open Go.RowKit
/-- the integers xs, in a slice of the call's own -/
def OwnI (w : World) (B : Nat) (v : Value) (xs : List Int) : Prop := w.ownsRow B 3 1 v xs.length (xs.map fun x => .int .i64 x)
theorem info_i64 : (Try.prog.info? 3).map (fun i => (i.zero, i.size, i.bytes)) = some (some (.int .i64 0), 1, 8) := by kernel_rfl
theorem wpl_int {w : World} {ops : Array Oper} {rest : List Oper} {o : Oper} {a : Act} {Q : Exit → Act → World → Prop} (hgd : o.guard = none) (s x : Operand) (ho : o.op = .call { callee := .builtin .append, args := #[s, x], argTypes := #[29, 29] })
    {B : Nat} {v : Value} (hs : a.eval s = v) {l : List Int} (hown : OwnI w B v l) (hB : B ≤ w.heap.size) (hn : l.length ≤ 1000000) {c : Nat} (hx : a.eval x = .slice (some ⟨w.heap.size, 0, none⟩) 1 c) (u : Int)
    (h : ∀ v' w', OwnI w' B v' (l ++ [u]) → Below B w w' → wpList Try.prog ops Q rest (a.put o.dst v') w') : wpList Try.prog ops Q (o :: rest) a (w.alloc (.cells #[.int .i64 u] 3)) :=
  wpl_app (P := Try.prog) Try.underlying29 info_i64 rfl (by decide) (by decide) hgd s x ho B v hs _ _ hown hB hn c hx [.int .i64 u] rfl (by intro x hx; simp at hx; subst hx; rfl) fun v' w' h1 h2 => h v' w' (by simpa [OwnI] using h1) h2
theorem own_ints {w : World} {B : Nat} {v : Value} {xs : List Int} (h : OwnI w B v xs) : ∃ a cap, v = .slice a xs.length cap ∧ xs.length ≤ cap ∧ cap ≤ maxLen ∧ Ints .i64 w a xs := by
  obtain ⟨_, ⟨rfl, hn⟩ | ⟨g, cap, cur, rfl, _, hg, h1, h2, h3, ht⟩⟩ := h
  · have : xs = [] := List.length_eq_zero_iff.1 hn
    subst this
    exact ⟨none, 0, rfl, Nat.le_refl _, Nat.zero_le _, fun i hi => by simp at hi⟩
  · refine ⟨_, cap, rfl, by omega, by omega, fun i hi => ⟨g, 0, rfl, ?_⟩⟩
    rw [Nat.zero_add, cell_of_row w g i cur 3 (0, 0) hg]
    have e : (cur.toList.take (xs.length * 1))[i]? = some (.int .i64 xs[i]) := by rw [ht]; simp [hi]
    rw [List.getElem?_take] at e
    simpa [hi] using e
end Go.Proofs.Ytbnpldilkkhgmaa
