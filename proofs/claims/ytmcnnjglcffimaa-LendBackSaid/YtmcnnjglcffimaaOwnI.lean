/- A slice of int of the call's own. -/
import Derived.Test.YtmcnnjglcffimaaLaw01
namespace Go.Proofs.Ytmcnnjglcffimaa
open Go.RowKit
/-- the integers xs, in a slice of the call's own -/
def OwnI (w : World) (B : Nat) (v : Value) (xs : List Int) : Prop := w.ownsRow B 3 1 v xs.length (xs.map fun x => .int .i64 x)
theorem info_i64 : (Try.prog.info? 3).map (fun i => (i.zero, i.size, i.bytes)) = some (some (.int .i64 0), 1, 8) := by kernel_rfl
theorem wpl_int {w : World} {ops : Array Oper} {rest : List Oper} {o : Oper} {a : Act} {Q : Exit → Act → World → Prop} (hgd : o.guard = none) (s x : Operand) (ho : o.op = .call { callee := .builtin .append, args := #[s, x], argTypes := #[40, 40] })
    {B : Nat} {v : Value} (hs : a.eval s = v) {l : List Int} (hown : OwnI w B v l) (hB : B ≤ w.heap.size) (hn : l.length ≤ 1000000) {c : Nat} (hx : a.eval x = .slice (some ⟨w.heap.size, 0, none⟩) 1 c) (u : Int)
    (h : ∀ v' w', OwnI w' B v' (l ++ [u]) → Below B w w' → wpList Try.prog ops Q rest (a.put o.dst v') w') : wpList Try.prog ops Q (o :: rest) a (w.alloc (.cells #[.int .i64 u] 3)) :=
  wpl_app (P := Try.prog) Try.underlying40 info_i64 rfl (by decide) (by decide) hgd s x ho B v hs _ _ hown hB hn c hx [.int .i64 u] rfl (by intro x hx; simp at hx; subst hx; rfl) fun v' w' h1 h2 => h v' w' (by simpa [OwnI] using h1) h2
theorem own_ints {w : World} {B : Nat} {v : Value} {xs : List Int} (h : OwnI w B v xs) : ∃ a cap, v = .slice a xs.length cap ∧ xs.length ≤ cap ∧ cap ≤ maxLen ∧ Ints .i64 w a xs := by
  obtain ⟨_, ⟨rfl, hn⟩ | ⟨g, cap, cur, rfl, _, hg, h1, h2, h3, ht⟩⟩ := h
  · have : xs = [] := List.length_eq_zero_iff.1 hn
    subst this
    exact ⟨none, 0, rfl, Nat.le_refl _, Nat.zero_le _, fun i hi => by simp at hi⟩
  · refine ⟨_, cap, rfl, by omega, by omega, fun i hi => ⟨g, 0, rfl, ?_⟩⟩
    rw [Nat.zero_add, cell_of_row w g i cur 3 (0, 0) hg]
    have e : (cur.toList.take (xs.length * 1))[i]? = some (.int .i64 xs[i]) := by rw [ht]; simp [hi]
    rw [List.getElem?_take] at e
    simpa [hi] using e
/-- all of a slice, behind nothing: a new slice with the same integers -/
theorem copy_ints {w : World} {a : Option Addr} {ca : Nat} {xs : List Int} (hI : Ints .i64 w a xs) (hn : xs.length ≤ 1000) (hx0 : 0 < xs.length) (ty : TypeId) :
    ∃ g cap w', (Builtin.append_ #[40, 40] ty #[.slice none 0 0, .slice a xs.length ca]).run Try.prog w = .ok (.slice (some ⟨g, 0, none⟩) xs.length cap) w' ∧ w.heap.size ≤ g ∧ Ints .i64 w' (some ⟨g, 0, none⟩) xs ∧ Ext w w' ∧ xs.length ≤ cap ∧ ∀ i, w'.frozen? ⟨g, i, none⟩ = false := by
  obtain ⟨i0, hi, hz0, hz1, hz2⟩ := info_parts info_i64
  obtain ⟨b, o, rfl, _⟩ := hI 0 hx0
  have hcells : ∀ j u, (xs.map fun x => Value.int .i64 x)[j]? = some u → w.cell? ((⟨b, o, none⟩ : Addr).add j) = some u := fun j u hj => by
    obtain ⟨x, hx, rfl⟩ : ∃ x, xs[j]? = some x ∧ Value.int .i64 x = u := by simpa using hj
    obtain ⟨hlt, rfl⟩ := List.getElem?_eq_some_iff.1 hx
    obtain ⟨b', o', h1, h2⟩ := hI j hlt
    cases h1
    have hp : (⟨b, o, none⟩ : Addr).add j = ⟨b, o + j, none⟩ := by unfold Addr.add; split <;> simp_all
    rw [hp, h2]
  obtain ⟨v', w', hr, h2, hg, _⟩ := run_append_own (P := Try.prog) (w := w) w.heap.size 40 ty 3 i0 (.int .i64 0) 1 8 Try.underlying40 hi hz0 hz1 hz2 rfl (by decide) (.slice none 0 0) 0 [] (World.ownsRow_nil _ _ _ _) ⟨b, o, none⟩ xs.length ca (xs.map fun x => Value.int .i64 x) (by simp) hcells
    (by intro z hz; simp at hz; obtain ⟨x, _, rfl⟩ := hz; rfl) (by unfold maxLen; omega) (by omega) (Nat.le_refl _)
  have hext : Ext w w' := Below.grown (Below.refl _ _) hg (Nat.le_refl _) fun k hk => by cases hk
  obtain ⟨_, ⟨rfl, hn0⟩ | ⟨g, cap, cur, rfl, hgb, hgc, h3, h4, h5, ht⟩⟩ := h2
  · omega
  · refine ⟨g, cap, w', by rw [hr, Nat.zero_add], hgb, fun i hi => ⟨g, 0, rfl, ?_⟩, hext, by omega, fun i => by simp [World.frozen?, hgc]⟩
    rw [Nat.zero_add, cell_of_row w' g i cur 3 (0, 0) hgc]
    have e : (cur.toList.take ((0 + xs.length) * 1))[i]? = some (.int .i64 xs[i]) := by rw [ht]; simp [hi]
    rw [List.getElem?_take] at e
    simpa [hi] using e
theorem wpl_copy {w : World} {ops : Array Oper} {rest : List Oper} {o : Oper} {a : Act} {Q : Exit → Act → World → Prop} (hgd : o.guard = none) (s x : Operand) (ho : o.op = .call { callee := .builtin .append, args := #[s, x], argTypes := #[40, 40] })
    (hs : a.eval s = .slice none 0 0) {k : Nat} {ad : Option Addr} {ca : Nat} (hx : a.eval x = .slice ad k ca) {xs : List Int} (hk : xs.length = k) (hI : Ints .i64 w ad xs) (hn : k ≤ 1000) (hx0 : 0 < k)
    (h : ∀ g cap w', w.heap.size ≤ g → k ≤ cap → Ints .i64 w' (some ⟨g, 0, none⟩) xs → Ext w w' → (∀ i, w'.frozen? ⟨g, i, none⟩ = false) → wpList Try.prog ops Q rest (a.put o.dst (.slice (some ⟨g, 0, none⟩) k cap)) w') : wpList Try.prog ops Q (o :: rest) a w := by
  subst hk
  obtain ⟨g, cap, w', hr, h2, h3, h4, h5, h6⟩ := copy_ints (ca := ca) hI hn hx0 o.type
  refine wpList_plain hgd fun K hK => ?_
  unfold Oper.wp
  simp [execOp, ho, resolve, invoke, builtin, hs, hx, hr, Result.andThen]
  exact hK _ _ (h g cap w' h2 h5 h3 h4 h6)
theorem Ints.set {k : IntKind} {w : World} {g : Nat} {xs : List Int} (h : Ints k w (some ⟨g, 0, none⟩) xs) (i : Nat) (hi : i < xs.length) (y : Int) : Ints k (w.setCell ⟨g, i, none⟩ (.int k y)) (some ⟨g, 0, none⟩) (xs.set i y) := fun j hj => by
  have hj' : j < xs.length := by simpa using hj
  obtain ⟨b, o, h1, h2⟩ := h j hj'
  obtain ⟨b2, o2, h3, h4⟩ := h i hi
  cases h1; cases h3
  refine ⟨g, 0, rfl, ?_⟩
  rw [Nat.zero_add] at h2 h4 ⊢
  by_cases hij : i = j
  · subst hij
    rw [List.getElem_set_self]
    exact World.cell?_setCell_same _ _ _ h4
  · rw [List.getElem_set_ne hij, World.cell?_setCell_other _ _ _ _ (by intro e; cases e; exact hij rfl)]
    exact h2
theorem Ints.drop {k : IntKind} {w : World} {b off : Nat} {xs : List Int} (h : Ints k w (some ⟨b, off, none⟩) xs) (n : Nat) : Ints k w (some ⟨b, off + n, none⟩) (xs.drop n) := fun i hi => by
  have hi' : n + i < xs.length := by rw [List.length_drop] at hi; omega
  obtain ⟨b', o', h1, h2⟩ := h (n + i) hi'
  cases h1
  exact ⟨b, off + n, rfl, by rw [Nat.add_assoc, h2]; simp⟩
theorem Nums.drop {w : World} {b off : Nat} {ns : List Nat} (h : Nums w (some ⟨b, off, none⟩) ns) (n : Nat) : Nums w (some ⟨b, off + n, none⟩) (ns.drop n) := by
  unfold Nums; rw [List.map_drop]; exact Ints.drop h n
/-- where 'a[k:]' begins -/
theorem Ints.from {kd : IntKind} {w : World} {a : Option Addr} {xs : List Int} (h : Ints kd w a xs) (cap k : Nat) (hc : xs.length ≤ cap) : ∃ a2, (if cap = k then a else Option.map (fun x => x.add k) a) = a2 ∧ Ints kd w a2 (xs.drop k) := by
  refine ⟨_, rfl, fun i hi => ?_⟩
  have hi' : k + i < xs.length := by rw [List.length_drop] at hi; omega
  rw [if_neg (by omega)]
  obtain ⟨b, o, rfl, _⟩ := h (k + i) hi'
  obtain ⟨b', o', h1, h2⟩ := (h.drop k) i hi
  refine ⟨b', o', ?_, h2⟩
  rw [← h1]
  show some _ = _
  congr 1
  unfold Addr.add; split <;> simp_all
theorem Nums.from {w : World} {a : Option Addr} {ns : List Nat} (h : Nums w a ns) (cap k : Nat) (hc : ns.length ≤ cap) : ∃ a2, (if cap = k then a else Option.map (fun x => x.add k) a) = a2 ∧ Nums w a2 (ns.drop k) := by
  have h1 := Ints.from h cap k (by rw [List.length_map]; exact hc)
  obtain ⟨a2, h2, h3⟩ := h1
  exact ⟨a2, h2, by unfold Nums; rw [List.map_drop]; exact h3⟩
end Go.Proofs.Ytmcnnjglcffimaa
