/- One element more of a slice of the call's own. -/
import Derived.Test.YtcpbpfngiimcnaaBytes
namespace Go.Proofs.Ytcpbpfngiimcnaa
open Go.RowKit
section
variable {P : Program} {w : World}
theorem app_run {e t : TypeId} {z : Value} {sz bs : Nat} (ht : P.underlying t = some (.slice e)) (hi : (P.info? e).map (fun i => (i.zero, i.size, i.bytes)) = some (some z, sz, bs)) (hz : z.cells.size = sz) (hsz : 0 < sz) (hbs : bs ≤ 1000)
    (B : Nat) (v : Value) (n : Nat) (xs : List Value) (hown : w.ownsRow B e sz v n xs) (hB : B ≤ w.heap.size) (hn : n ≤ 1000000) (news : List Value) (hl : news.length = sz) (h1 : ∀ u ∈ news, u.oneCell' = true) (ty : TypeId) (c : Nat) :
    ∃ v' w', (Builtin.append_ #[t, t] ty #[v, .slice (some ⟨w.heap.size, 0, none⟩) 1 c]).run P (w.alloc (.cells news.toArray e)) = .ok v' w' ∧ w'.ownsRow B e sz v' (n + 1) (xs ++ news) ∧ Below B w w' := by
  obtain ⟨i0, hi, hz0, hz1, hz2⟩ := info_parts hi
  have hcells : ∀ j u, news[j]? = some u → (w.alloc (.cells news.toArray e)).cell? ((⟨w.heap.size, 0, none⟩ : Addr).add j) = some u := fun j u hj => by
    have hp : (⟨w.heap.size, 0, none⟩ : Addr).add j = ⟨w.heap.size, j, none⟩ := by unfold Addr.add; split <;> simp_all
    rw [hp, World.cell?_alloc_new]; simpa using hj
  obtain ⟨v', w', hr, ho, hg, _⟩ := run_append_own (P := P) (w := w.alloc (.cells news.toArray e)) B t ty e i0 z sz bs ht hi hz0 hz1 hz2 hz hsz v n xs (hown.alloc _) ⟨w.heap.size, 0, none⟩ 1 c news (by omega) hcells h1 (by unfold maxLen; omega)
    (by have : (n + 1) * bs ≤ 1000001 * 1000 := Nat.mul_le_mul (by omega) hbs; omega) (by simp; omega)
  refine ⟨v', w', hr, ho, Below.grown ((Below.refl _ _).alloc hB _) hg (by simp; omega) fun k hk => (hown.lt k hk).1⟩
theorem wpl_app {ops : Array Oper} {rest : List Oper} {o : Oper} {a : Act} {Q : Exit → Act → World → Prop} {e t : TypeId} {z : Value} {sz bs : Nat} (ht : P.underlying t = some (.slice e)) (hi : (P.info? e).map (fun i => (i.zero, i.size, i.bytes)) = some (some z, sz, bs)) (hz : z.cells.size = sz) (hsz : 0 < sz) (hbs : bs ≤ 1000)
    (hgd : o.guard = none) (s x : Operand) (ho : o.op = .call { callee := .builtin .append, args := #[s, x], argTypes := #[t, t] })
    (B : Nat) (v : Value) (hs : a.eval s = v) (n : Nat) (xs : List Value) (hown : w.ownsRow B e sz v n xs) (hB : B ≤ w.heap.size) (hn : n ≤ 1000000) (c : Nat) (hx : a.eval x = .slice (some ⟨w.heap.size, 0, none⟩) 1 c) (news : List Value) (hl : news.length = sz) (h1 : ∀ u ∈ news, u.oneCell' = true)
    (h : ∀ v' w', w'.ownsRow B e sz v' (n + 1) (xs ++ news) → Below B w w' → wpList P ops Q rest (a.put o.dst v') w') : wpList P ops Q (o :: rest) a (w.alloc (.cells news.toArray e)) := by
  obtain ⟨v', w', hr, h2, h3⟩ := app_run ht hi hz hsz hbs B v n xs hown hB hn news hl h1 o.type c
  refine wpList_plain hgd fun K hK => ?_
  unfold Oper.wp
  simp [execOp, ho, resolve, invoke, builtin, hs, hx, hr, Result.andThen]
  exact hK _ _ (h v' w' h2 h3)
end
end Go.Proofs.Ytcpbpfngiimcnaa
