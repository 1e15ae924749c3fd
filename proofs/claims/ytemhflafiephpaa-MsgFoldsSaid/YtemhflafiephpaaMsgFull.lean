/- append to a slice that has no room: a new slice with all. -/
import Derived.Test.YtemhflafiephpaaRecs
namespace Go.Proofs.Ytemhflafiephpaa
open Go.RowKit
theorem add_plain0 (b j : Nat) : (⟨b, 0, none⟩ : Addr).add j = ⟨b, j, none⟩ := by unfold Addr.add; split <;> simp_all
theorem flat_cell {w : World} {g : Nat} {l : List Msg.Up} (hR : Recs w (some ⟨g, 0, none⟩) l) (j : Nat) (v : Value) (hj : (l.flatMap cellsU)[j]? = some v) : w.cell? ⟨g, j, none⟩ = some v := by
  have hlt : j < l.length * 4 := by rw [← flat_length cellsU 4 cellsU_length]; exact (List.getElem?_eq_some_iff.1 hj).1
  have hi : j / 4 < l.length := by omega
  have hm : j % 4 < 4 := Nat.mod_lt _ (by decide)
  have e : j = j / 4 * 4 + j % 4 := by omega
  have h1 := flat_at cellsU 4 cellsU_length l (j / 4) hi (j % 4) hm
  rw [← e, hj] at h1
  obtain ⟨b, o, h0, c0, c1, c2, c3⟩ := hR (j / 4) hi
  cases h0
  simp only [Nat.zero_add] at c0 c1 c2 c3
  have h2 : j % 4 = 0 ∨ j % 4 = 1 ∨ j % 4 = 2 ∨ j % 4 = 3 := by omega
  rcases h2 with h2 | h2 | h2 | h2 <;> rw [h2] at h1 e
  · rw [Nat.add_zero] at e; rw [e, c0]; exact h1.symm
  · rw [e, c1]; exact h1.symm
  · rw [e, c2]; exact h1.symm
  · rw [e, c3]; exact h1.symm
theorem recs_of_row {w : World} {g : Nat} {cs : Array Value} {l : List Msg.Up} {T : TypeId} (h : w.heap[g]? = some (.cells cs T (0, 0))) (hl : ∀ j, j < l.length * 4 → cs[j]? = (l.flatMap cellsU)[j]?) : Recs w (some ⟨g, 0, none⟩) l := fun i hi => by
  have at' : ∀ j, j < 4 → w.cell? ⟨g, i * 4 + j, none⟩ = (cellsU l[i])[j]? := fun j hj => by
    rw [cell_of_row w g _ cs T (0, 0) h, hl _ (by omega), flat_at cellsU 4 cellsU_length l i hi j hj]
  have c0 := at' 0 (by omega)
  rw [Nat.add_zero] at c0
  exact ⟨g, 0, rfl, by rw [Nat.zero_add]; exact c0, by rw [Nat.zero_add]; exact at' 1 (by omega), by rw [Nat.zero_add]; exact at' 2 (by omega), by rw [Nat.zero_add]; exact at' 3 (by omega)⟩
theorem append_full (w : World) {g : Nat} {k : Nat} {l m : List Msg.Up} (hl : l.length = k) (hR : Recs w (some ⟨g, 0, none⟩) l) {b0 n c : Nat} (hm : m.length = n) (hS : Recs w (some ⟨b0, 0, none⟩) m) (hk : k ≤ 1000) (hn : n ≤ 1000) (h0 : 0 < n) (ty : TypeId) :
    ∃ cap w', (Builtin.append_ #[32, 32] ty #[.slice (some ⟨g, 0, none⟩) k k, .slice (some ⟨b0, 0, none⟩) n c]).run Try.prog w = .ok (.slice (some ⟨w.heap.size, 0, none⟩) (k + n) cap) w' ∧ Recs w' (some ⟨w.heap.size, 0, none⟩) (l ++ m) ∧ Ext w w' ∧ k + n ≤ cap ∧ cap ≤ maxLen := by
  obtain ⟨i0, hi, hz0, hz1, hz2⟩ := info_parts info_upd
  have hr := run_append_grow (P := Try.prog) w 32 ty 37 i0 (.agg #[.int .u8 0, .string ⟨#[]⟩, .string ⟨#[]⟩, .int .u64 0]) Try.underlying32 hi hz0 ⟨g, 0, none⟩ k k (l.flatMap cellsU) (by rw [hz1, flat_length cellsU 4 cellsU_length, hl])
    (fun j v hj => by rw [add_plain0]; exact flat_cell hR j v hj) ⟨b0, 0, none⟩ n c (m.flatMap cellsU) (by rw [hz1, flat_length cellsU 4 cellsU_length, hm]) (fun j v hj => by rw [add_plain0]; exact flat_cell hS j v hj)
    (by omega) (by omega) (by rw [hz2]; exact growslice_fits (by omega) (by omega))
  refine ⟨_, _, hr, ?_, (Ext.drew w).trans (Ext.alloc _ _), grownCap_ge _ _ _ _, grownCap_le_maxLen _ _ _ _ (by unfold maxLen; omega)⟩
  refine recs_of_row (heap_alloc_new w.drew _) fun j hj => ?_
  have hl1 := flat_length cellsU 4 cellsU_length l
  have hl2 := flat_length cellsU 4 cellsU_length m
  rw [List.length_append] at hj
  rw [List.flatMap_append, Array.getElem?_append_left (by simp only [Array.size_append, List.size_toArray]; omega)]
  rw [← Array.getElem?_toList, Array.toList_append]
/-- the same as one step of a region that draws its order -/
theorem step_full {w : World} {o : Oper} {a : Act} {y : Nat → Option Bool} {K : Act → World → Prop} {Q : Exit → Act → World → Prop} (hgd : o.guard = none) (s x : Operand) (ho : o.op = .call { callee := .builtin .append, args := #[s, x], argTypes := #[32, 32] })
    {g k b0 n c : Nat} (hs : a.eval s = .slice (some ⟨g, 0, none⟩) k k) (hx : a.eval x = .slice (some ⟨b0, 0, none⟩) n c) {l m : List Msg.Up} (hl : l.length = k) (hR : Recs w (some ⟨g, 0, none⟩) l) (hm : m.length = n) (hS : Recs w (some ⟨b0, 0, none⟩) m) (hk : k ≤ 1000) (hn : n ≤ 1000) (h0 : 0 < n)
    (h : ∀ cap w', Recs w' (some ⟨w.heap.size, 0, none⟩) (l ++ m) → Ext w w' → K (a.put o.dst (.slice (some ⟨w.heap.size, 0, none⟩) (k + n) cap)) w') :
    if Region.wanted o y = true then o.wp Try.prog a w K Q else K (a.put o.dst undef) w := by
  rw [if_pos (by simp [Region.wanted, hgd])]
  obtain ⟨cap, w', hr, h1, h2, _⟩ := append_full (c := c) w hl hR hm hS hk hn h0 o.type
  unfold Oper.wp
  simp [execOp, ho, resolve, invoke, builtin, hs, hx, hr, Result.andThen]
  exact h cap w' h1 h2
theorem recs_one {w : World} {b : Nat} {u : Msg.Up} (c0 : w.cell? ⟨b, 0, none⟩ = some (.int .u8 (u.kind : Int))) (c1 : w.cell? ⟨b, 1, none⟩ = some (.string u.key)) (c2 : w.cell? ⟨b, 2, none⟩ = some (.string u.value)) (c3 : w.cell? ⟨b, 3, none⟩ = some (.int .u64 (u.delta : Int))) : Recs w (some ⟨b, 0, none⟩) [u] := fun i hi => by
  obtain rfl : i = 0 := by simpa using hi
  exact ⟨b, 0, rfl, c0, c1, c2, c3⟩
theorem step_build {w : World} {o : Oper} {a : Act} {y : Nat → Option Bool} {K : Act → World → Prop} {Q : Exit → Act → World → Prop} (hgd : o.guard = none) {x : Tmp} (ho : o.op = .buildSlice 32 1 #[(0, .tmp x)])
    {k d : Nat} {y1 v1 : ByteArray} (hx : a.tmps[x]?.getD undef = .agg #[.int .u8 (k : Int), .string y1, .string v1, .int .u64 (d : Int)])
    (h : K (a.put o.dst (.slice (some ⟨w.heap.size, 0, none⟩) 1 1)) (w.alloc (.cells #[.int .u8 (k : Int), .string y1, .string v1, .int .u64 (d : Int)] 37))) :
    if Region.wanted o y = true then o.wp Try.prog a w K Q else K (a.put o.dst undef) w := by
  rw [if_pos (by simp [Region.wanted, hgd])]
  obtain ⟨dst, op, ty, pos, af, gd⟩ := o
  simp only at ho hgd h
  subst ho hgd
  go_simp
  exact h
end Go.Proofs.Ytemhflafiephpaa
