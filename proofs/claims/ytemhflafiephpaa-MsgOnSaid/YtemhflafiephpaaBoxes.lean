/- Boxes of the call's own, each written once, whatever the order. -/
import Derived.Test.YtemhflafiephpaaDriftR
import Derived.Test.YtemhflafiephpaaDrift
namespace Go.Proofs.Ytemhflafiephpaa
open Go.RowKit
/-- each of the boxes is as it was, or holds what it is to hold; all else that was there is as it was -/
structure Boxes (bs : List (Nat × Array Value × TypeId)) (w w' : World) : Prop where
  os : w'.os = w.os
  tape : w'.tape = w.tape
  output : w'.output = w.output
  size : w.heap.size ≤ w'.heap.size
  block : ∀ k, k < w.heap.size → (∀ p ∈ bs, p.1 ≠ k) → w'.heap[k]? = w.heap[k]?
  box : ∀ p ∈ bs, p.1 < w.heap.size → w'.heap[p.1]? = w.heap[p.1]? ∨ w'.heap[p.1]? = some (.cells p.2.1 p.2.2 (0, 0))
variable {bs : List (Nat × Array Value × TypeId)}
theorem Boxes.rel (bs : List (Nat × Array Value × TypeId)) : RR.Rel (Boxes bs) where
  refl := fun _ => ⟨rfl, rfl, rfl, Nat.le_refl _, fun _ _ _ => rfl, fun _ _ _ => .inl rfl⟩
  trans := fun {a b c} h k => ⟨k.os.trans h.os, k.tape.trans h.tape, k.output.trans h.output, Nat.le_trans h.size k.size, fun i hi hn => (k.block i (Nat.lt_of_lt_of_le hi h.size) hn).trans (h.block i hi hn), fun p hp hlt => by
    rcases k.box p hp (Nat.lt_of_lt_of_le hlt h.size) with e | e
    · rw [e]; exact h.box p hp hlt
    · exact .inr e⟩
  drew := fun _ => ⟨rfl, rfl, rfl, Nat.le_refl _, fun _ _ _ => rfl, fun _ _ _ => .inl rfl⟩
theorem Boxes.cell {w w' : World} {a : Addr} {v : Value} (h : w.cell? a = some v) (hn : ∀ p ∈ bs, p.1 ≠ a.block) (e : Boxes bs w w') : w'.cell? a = some v := by
  rw [World.cell?_of_block (e.block a.block (World.block_lt_of_cell? w _ h) hn)]; exact h
theorem Boxes.ext {a w w' : World} (h : Ext a w) (e : Boxes bs w w') (hn : ∀ p ∈ bs, a.heap.size ≤ p.1) : Ext a w' :=
  ⟨e.os.trans h.os, e.tape.trans h.tape, e.output.trans h.output, Nat.le_trans h.size e.size, fun k hk => (e.block k (Nat.lt_of_lt_of_le hk h.size) (fun p hp q => by have := hn p hp; omega)).trans (h.block k hk)⟩
/-- a row that a box holds -/
def RowIs (b : Nat) (T : TypeId) (cs : Array Value) (w : World) : Prop := w.heap[b]? = some (.cells cs T (0, 0))
theorem RowIs.lt {b : Nat} {T : TypeId} {cs : Array Value} {w : World} (h : RowIs b T cs w) : b < w.heap.size := (Array.getElem?_eq_some_iff.1 h).1
theorem RowIs.cell {b : Nat} {T : TypeId} {cs : Array Value} {w : World} (h : RowIs b T cs w) (i : Nat) (v : Value) (hi : cs[i]? = some v) : w.cell? ⟨b, i, none⟩ = some v := by
  rw [cell_of_row w b i cs T (0, 0) h]; exact hi
theorem RowIs.ext {b : Nat} {T : TypeId} {cs : Array Value} {w w' : World} (h : RowIs b T cs w) (e : Ext w w') : RowIs b T cs w' := (e.block b h.lt).trans h
theorem RowIs.new (w : World) (T : TypeId) (cs : Array Value) : RowIs w.heap.size T cs (w.alloc (.cells cs T)) := heap_alloc_new w _
/-- what a box holds, it goes on to hold -/
theorem RowIs.kept {b : Nat} {T : TypeId} {cs : Array Value} {w w' : World} (hm : (b, cs, T) ∈ bs) (h : RowIs b T cs w) (e : Boxes bs w w') : RowIs b T cs w' := by
  rcases e.box _ hm h.lt with q | q
  · exact q.trans h
  · exact q
/-- a box that holds something else goes on to hold that, or what it is to hold -/
theorem RowIs.either {b : Nat} {T : TypeId} {cs old : Array Value} {w w' : World} (hm : (b, cs, T) ∈ bs) (h : RowIs b T old w) (e : Boxes bs w w') : ∃ c, RowIs b T c w' ∧ (c = old ∨ c = cs) := by
  rcases e.box _ hm h.lt with q | q
  · exact ⟨old, q.trans h, .inl rfl⟩
  · exact ⟨cs, q, .inr rfl⟩
theorem setRow_boxes {w : World} {b : Nat} {T : TypeId} {old cs : Array Value} (h : RowIs b T old w) (hm : (b, cs, T) ∈ bs) (hu : ∀ p ∈ bs, p.1 = b → p = (b, cs, T)) : Boxes bs w (w.setRow b cs) ∧ RowIs b T cs (w.setRow b cs) := by
  have hs := setRow_heap w b old cs T (0, 0) h
  refine ⟨⟨rfl, rfl, rfl, by simp, fun k _ hn => setRow_other w b k cs fun e => hn _ hm e.symm, fun p hp _ => ?_⟩, hs⟩
  by_cases e : p.1 = b
  · rw [hu p hp e]; exact .inr hs
  · exact .inl (setRow_other w b p.1 cs e)
theorem step_store {P : Program} {w : World} {o : Oper} {a : Act} {y : Nat → Option Bool} {K : Act → World → Prop} {Q : Exit → Act → World → Prop} {ty T : TypeId} {x v : Operand} (hgd : o.guard = none) (ho : o.op = .store ty x v)
    {g : Nat} (hx : a.eval x = .pointer (some ⟨g, 0, none⟩)) {cs old : Array Value} (hv : a.eval v = .agg cs) (hg : RowIs g T old w) (hi : (P.info? ty).map (·.size) = some cs.size) (hs : old.size = cs.size) (h1 : cs.all (·.oneCell') = true)
    (h : K (a.put o.dst undef) (w.setRow g cs)) : if Region.wanted o y = true then o.wp P a w K Q else K (a.put o.dst undef) w := by
  rw [if_pos (by simp [Region.wanted, hgd])]
  have hr := run_storeVar_row (P := P) w g T ty old cs hg hi hs h1
  unfold Oper.wp execOp
  simp only [ho, hx, hv, Instr.storeAt, Instr.sureAddr, Sem.run_bind, Sem.run_pure, Result.andThen_ok, hr]
  exact h
/-- two results that lie in boxes -/
theorem results_rows2 {P : Program} {fn : Func} {p q : Tmp} {t u : TypeId} (h : fn.results = #[.cell p t, .cell q u]) (tmps : Array Value) (w : World) {g k : Nat} {c e : Array Value} {T U : TypeId} {d f : TypeDesc}
    (hp : tmps.getD p undef = .pointer (some ⟨g, 0, none⟩)) (hg : RowIs g T c w) (hq : tmps.getD q undef = .pointer (some ⟨k, 0, none⟩)) (hk : RowIs k U e w)
    (hu : P.underlying t = some d) (hd : (match d with | .struct _ | .array _ _ => true | _ => false) = true) (hi : (P.info? t).map (·.size) = some c.size)
    (hv : P.underlying u = some f) (hf : (match f with | .struct _ | .array _ _ => true | _ => false) = true) (hj : (P.info? u).map (·.size) = some e.size) :
    (results fn tmps).run P w = .ok (.tuple #[.agg c, .agg e]) w := by
  have hp' : tmps[p]?.getD undef = .pointer (some ⟨g, 0, none⟩) := by simpa using hp
  have hq' : tmps[q]?.getD undef = .pointer (some ⟨k, 0, none⟩) := by simpa using hq
  simp [results, h, hp', hq', asAddr, run_loadVar_row w g T t c (0, 0) d hg hu hd hi, run_loadVar_row w k U u e (0, 0) f hk hv hf hj]
end Go.Proofs.Ytemhflafiephpaa
