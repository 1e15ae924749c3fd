/- append of two lists of updates of the program's kind, the first one cut to its length -/
import Derived.Test.YtemhflafiephpaaRecO
import Derived.ArgAppend
namespace Go.Proofs.Ytemhflafiephpaa
open Go.RowKit
theorem Recs.flat {w : World} {a : Addr} {l : List Msg.Up} (h : Recs w (some a) l) : ∀ j u, (l.flatMap cellsU)[j]? = some u → w.cell? (a.add j) = some u := fun j u hj => by
  have hl : j < l.length * 4 := by
    have h1 := (List.getElem?_eq_some_iff.1 hj).1
    rw [flat_length cellsU 4 cellsU_length] at h1
    exact h1
  have hi : j / 4 < l.length := by omega
  have e : j = j / 4 * 4 + j % 4 := by omega
  obtain ⟨b, off, ha, c0, c1, c2, c3⟩ := h (j / 4) hi
  cases ha
  have h9 := flat_at cellsU 4 cellsU_length l (j / 4) hi (j % 4) (by omega)
  rw [← e, hj] at h9
  replace hj := h9.symm
  rw [Addr.add_lit, show off + j = off + j / 4 * 4 + j % 4 by omega]
  have h4 : j % 4 < 4 := by omega
  generalize j % 4 = r at *
  match r, h4 with
  | 0, _ => simpa [cellsU, c0] using hj
  | 1, _ => simpa [cellsU, c1] using hj
  | 2, _ => simpa [cellsU, c2] using hj
  | 3, _ => simpa [cellsU, c3] using hj
theorem info_recu : (Try.prog.info? 37).map (fun i => (i.zero, i.size, i.bytes)) = some (some (.agg #[.int .u8 0, .string ⟨#[]⟩, .string ⟨#[]⟩, .int .u64 0]), 4, 48) := by kernel_rfl
theorem wpl_cat {w : World} {ops : Array Oper} {rest : List Oper} {o : Oper} {a : Act} {Q : Exit → Act → World → Prop} (hgd : o.guard = none) (s x : Operand) (ho : o.op = .call { callee := .builtin .append, args := #[s, x], argTypes := #[32, 32] })
    {l m : List Msg.Up} {p q : Option Addr} {n k c : Nat} (hs : a.eval s = .slice p n n) (hx : a.eval x = .slice q k c) (hn : n = l.length) (hk : k = m.length) (hl : l.length ≤ 1000) (hm : m.length ≤ 1000) (hL : Recs w p l) (hM : Recs w q m)
    (h : ∀ v' w', (∃ p' c', v' = .slice p' (l ++ m).length c' ∧ Recs w' p' (l ++ m)) → Ext w w' → wpList Try.prog ops Q rest (a.put o.dst v') w') : wpList Try.prog ops Q (o :: rest) a w := by
  obtain ⟨i0, hi0, hz0, hz1, hz2⟩ := info_parts info_recu
  subst hn hk
  by_cases h0 : m.length = 0
  · obtain rfl : m = [] := List.eq_nil_of_length_eq_zero h0
    refine wpList_plain hgd fun K hK => ?_
    replace hx : a.eval x = .slice q 0 c := hx
    have hr : (Builtin.append_ #[32, 32] o.type #[.slice p l.length l.length, .slice q 0 c]).run Try.prog w = .ok (.slice p l.length l.length) w := by
      have hf : (Builtin.firstCells i0.size 0 (.slice q 0 c)).run Try.prog w = .ok #[] w := by
        cases q <;> simp [Builtin.firstCells, loadCells, loadCellsFrom]
      cases p <;> simp [Builtin.append_, run_underlying Try.underlying32, sizeOf, typeInfo, hi0, Builtin.lenOf, hf, storeCells]
    unfold Oper.wp
    simp only [execOp, ho]
    simp [resolve, invoke, builtin, hs, hx, hr, Result.andThen]
    exact hK _ _ (h _ _ ⟨p, l.length, by simp, by simpa using hL⟩ (Ext.refl _))
  · obtain ⟨ad, rfl⟩ : ∃ ad, q = some ad := by
      obtain ⟨b, o, rfl, _⟩ := hM 0 (by omega)
      exact ⟨_, rfl⟩
    refine wpList_append_grows w hgd s x _ ho 37 i0 _ 4 48 Try.underlying32 hi0 hz0 hz1 hz2 rfl (by decide) p l.length l.length (l.flatMap cellsU) hs (fun e => ?_) (flat_length cellsU 4 cellsU_length l) (fun b e => ?_) ad m.length c (m.flatMap cellsU) hx (flat_length cellsU 4 cellsU_length m) hM.flat (fun u hu => ?_) (by omega) (by unfold maxLen; omega) (by omega) fun v' w' hown hg => ?_
    · subst e
      rcases Nat.eq_zero_or_pos l.length with e0 | e0
      · exact ⟨e0, e0⟩
      · obtain ⟨b, o, e1, _⟩ := hL 0 e0
        cases e1
    · subst e
      exact hL.flat
    · obtain ⟨y, _, hy⟩ := List.mem_flatMap.1 hu
      simp [cellsU] at hy
      rcases hy with rfl | rfl | rfl | rfl <;> rfl
    · rw [← List.flatMap_append, ← List.length_append] at hown
      obtain ⟨p', c', rfl, _, _, hR⟩ := own_recs (e := 37) hown
      exact h _ _ ⟨p', c', rfl, hR⟩ ((Below.refl _ _).grown hg (Nat.le_refl _) (fun k hk => by cases hk))
end Go.Proofs.Ytemhflafiephpaa
