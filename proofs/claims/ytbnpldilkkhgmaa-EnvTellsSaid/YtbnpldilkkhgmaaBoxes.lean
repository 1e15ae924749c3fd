/- Boxes of the call's own, each written once, whatever the order. -/
import Derived.Test.YtbnpldilkkhgmaaDriftR
import Derived.Test.YtbnpldilkkhgmaaDrift
namespace Go.Proofs.Ytbnpldilkkhgmaa
open Go.RowKit
/-- each of the boxes is as it was, or holds what it is to hold; all else that was there is as it was -/
structure Boxes (bs : List (Nat × Array Value × TypeId)) (w w' : World) : Prop where
  os : w'.os = w.os
  tape : w'.tape = w.tape
  output : w'.output = w.output
  size : w.heap.size ≤ w'.heap.size
  block : ∀ k, k < w.heap.size → (∀ p ∈ bs, p.1 ≠ k) → w'.heap[k]? = w.heap[k]?
  box : ∀ p ∈ bs, p.1 < w.heap.size → w'.heap[p.1]? = w.heap[p.1]? ∨ w'.heap[p.1]? = some (.cells p.2.1 p.2.2 (0, 0))
variable {bs : List (Nat × Array Value × TypeId)}
theorem Boxes.rel (bs : List (Nat × Array Value × TypeId)) : RR.Rel (Boxes bs) where
  refl := fun _ => ⟨rfl, rfl, rfl, Nat.le_refl _, fun _ _ _ => rfl, fun _ _ _ => .inl rfl⟩
  trans := fun {a b c} h k => ⟨k.os.trans h.os, k.tape.trans h.tape, k.output.trans h.output, Nat.le_trans h.size k.size, fun i hi hn => (k.block i (Nat.lt_of_lt_of_le hi h.size) hn).trans (h.block i hi hn), fun p hp hlt => by
    rcases k.box p hp (Nat.lt_of_lt_of_le hlt h.size) with e | e
    · rw [e]; exact h.box p hp hlt
    · exact .inr e⟩
  drew := fun _ => ⟨rfl, rfl, rfl, Nat.le_refl _, fun _ _ _ => rfl, fun _ _ _ => .inl rfl⟩
theorem Boxes.of {w w' : World} (e : Ext w w') : Boxes bs w w' := ⟨e.os, e.tape, e.output, e.size, fun k hk _ => e.block k hk, fun p _ hk => .inl (e.block p.1 hk)⟩
theorem Boxes.cell {w w' : World} {a : Addr} {v : Value} (h : w.cell? a = some v) (hn : ∀ p ∈ bs, p.1 ≠ a.block) (e : Boxes bs w w') : w'.cell? a = some v := by
  rw [World.cell?_of_block (e.block a.block (World.block_lt_of_cell? w _ h) hn)]; exact h
theorem Boxes.ext {a w w' : World} (h : Ext a w) (e : Boxes bs w w') (hn : ∀ p ∈ bs, a.heap.size ≤ p.1) : Ext a w' :=
  ⟨e.os.trans h.os, e.tape.trans h.tape, e.output.trans h.output, Nat.le_trans h.size e.size, fun k hk => (e.block k (Nat.lt_of_lt_of_le hk h.size) (fun p hp q => by have := hn p hp; omega)).trans (h.block k hk)⟩
/-- a row that a box holds -/
def RowIs (b : Nat) (T : TypeId) (cs : Array Value) (w : World) : Prop := w.heap[b]? = some (.cells cs T (0, 0))
theorem RowIs.lt {b : Nat} {T : TypeId} {cs : Array Value} {w : World} (h : RowIs b T cs w) : b < w.heap.size := (Array.getElem?_eq_some_iff.1 h).1
theorem RowIs.cell {b : Nat} {T : TypeId} {cs : Array Value} {w : World} (h : RowIs b T cs w) (i : Nat) (v : Value) (hi : cs[i]? = some v) : w.cell? ⟨b, i, none⟩ = some v := by
  rw [cell_of_row w b i cs T (0, 0) h]; exact hi
theorem RowIs.ext {b : Nat} {T : TypeId} {cs : Array Value} {w w' : World} (h : RowIs b T cs w) (e : Ext w w') : RowIs b T cs w' := (e.block b h.lt).trans h
theorem RowIs.new (w : World) (T : TypeId) (cs : Array Value) : RowIs w.heap.size T cs (w.alloc (.cells cs T)) := heap_alloc_new w _
/-- what a box holds, it goes on to hold -/
theorem RowIs.kept {b : Nat} {T : TypeId} {cs : Array Value} {w w' : World} (hm : (b, cs, T) ∈ bs) (h : RowIs b T cs w) (e : Boxes bs w w') : RowIs b T cs w' := by
  rcases e.box _ hm h.lt with q | q
  · exact q.trans h
  · exact q
/-- a pointer to a row -/
def PtrRow (b : Nat) (T : TypeId) (cs : Array Value) (v : Value) (w : World) : Prop := v = .pointer (some ⟨b, 0, none⟩) ∧ RowIs b T cs w
theorem PtrRow.kept {b : Nat} {T : TypeId} {cs : Array Value} {v : Value} {w w' : World} (hm : (b, cs, T) ∈ bs) (h : PtrRow b T cs v w) (e : Boxes bs w w') : PtrRow b T cs v w' := ⟨h.1, h.2.kept hm e⟩
/-- a box that holds something else goes on to hold that, or what it is to hold -/
theorem RowIs.either {b : Nat} {T : TypeId} {cs old : Array Value} {w w' : World} (hm : (b, cs, T) ∈ bs) (h : RowIs b T old w) (e : Boxes bs w w') : ∃ c, RowIs b T c w' ∧ (c = old ∨ c = cs) := by
  rcases e.box _ hm h.lt with q | q
  · exact ⟨old, q.trans h, .inl rfl⟩
  · exact ⟨cs, q, .inr rfl⟩
theorem setRow_boxes {w : World} {b : Nat} {T : TypeId} {old cs : Array Value} (h : RowIs b T old w) (hm : (b, cs, T) ∈ bs) (hu : ∀ p ∈ bs, p.1 = b → p = (b, cs, T)) : Boxes bs w (w.setRow b cs) ∧ RowIs b T cs (w.setRow b cs) := by
  have hs := setRow_heap w b old cs T (0, 0) h
  refine ⟨⟨rfl, rfl, rfl, by simp, fun k _ hn => setRow_other w b k cs fun e => hn _ hm e.symm, fun p hp _ => ?_⟩, hs⟩
  by_cases e : p.1 = b
  · rw [hu p hp e]; exact .inr hs
  · exact .inl (setRow_other w b p.1 cs e)
theorem step_store {P : Program} {w : World} {o : Oper} {a : Act} {y : Nat → Option Bool} {K : Act → World → Prop} {Q : Exit → Act → World → Prop} {ty T : TypeId} {x v : Operand} (hgd : o.guard = none) (ho : o.op = .store ty x v)
    {g : Nat} (hx : a.eval x = .pointer (some ⟨g, 0, none⟩)) {cs old : Array Value} (hv : a.eval v = .agg cs) (hg : RowIs g T old w) (hi : (P.info? ty).map (·.size) = some cs.size) (hs : old.size = cs.size) (h1 : cs.all (·.oneCell') = true)
    (h : K (a.put o.dst undef) (w.setRow g cs)) : if Region.wanted o y = true then o.wp P a w K Q else K (a.put o.dst undef) w := by
  rw [if_pos (by simp [Region.wanted, hgd])]
  have hr := run_storeVar_row (P := P) w g T ty old cs hg hi hs h1
  unfold Oper.wp execOp
  simp only [ho, hx, hv, Instr.storeAt, Instr.sureAddr, Sem.run_bind, Sem.run_pure, Result.andThen_ok, hr]
  exact h
/-- all is as it was, but that a row of a kind that is listed, from block B on, may have been written -/
structure Slots (B : Nat) (ks : List (TypeId × Array Value × Array Value)) (w w' : World) : Prop where
  os : w'.os = w.os
  tape : w'.tape = w.tape
  output : w'.output = w.output
  size : w.heap.size ≤ w'.heap.size
  block : ∀ k, k < w.heap.size → w'.heap[k]? = w.heap[k]? ∨ (B ≤ k ∧ ∃ p ∈ ks, RowIs k p.1 p.2.1 w ∧ RowIs k p.1 p.2.2 w')
def OneEach (ks : List (TypeId × Array Value × Array Value)) : Prop := ∀ p ∈ ks, ∀ q ∈ ks, p.1 = q.1 → p = q
theorem oneEach2 {T U : TypeId} {Z A Y C : Array Value} (h : T ≠ U) : OneEach [(T, Z, A), (U, Y, C)] := by
  intro p hp q hq e
  simp only [List.mem_cons, List.not_mem_nil, or_false] at hp hq
  rcases hp with rfl | rfl <;> rcases hq with rfl | rfl
  · rfl
  · exact absurd e h
  · exact absurd e.symm h
  · rfl
theorem RowIs.inj {b : Nat} {T U : TypeId} {c d : Array Value} {w : World} (h : RowIs b T c w) (k : RowIs b U d w) : T = U ∧ c = d := by
  have e := Option.some.inj (h.symm.trans k)
  injection e with e1 e2
  exact ⟨e2, e1⟩
theorem Slots.rel {B : Nat} {ks : List (TypeId × Array Value × Array Value)} (h1 : OneEach ks) : RR.Rel (Slots B ks) where
  refl := fun _ => ⟨rfl, rfl, rfl, Nat.le_refl _, fun _ _ => .inl rfl⟩
  trans := fun {a b c} h k => ⟨k.os.trans h.os, k.tape.trans h.tape, k.output.trans h.output, Nat.le_trans h.size k.size, fun i hi => by
    rcases h.block i hi with e | ⟨hB, p, hp, r1, r2⟩
    · rcases k.block i (Nat.lt_of_lt_of_le hi h.size) with e' | ⟨hB, p, hp, r1, r2⟩
      · exact .inl (e'.trans e)
      · exact .inr ⟨hB, p, hp, e.symm.trans r1, r2⟩
    · rcases k.block i (Nat.lt_of_lt_of_le hi h.size) with e' | ⟨_, q, hq, r3, r4⟩
      · exact .inr ⟨hB, p, hp, r1, e'.trans r2⟩
      · obtain ⟨e1, _⟩ := r2.inj r3
        obtain rfl := h1 p hp q hq e1
        exact .inr ⟨hB, p, hp, r1, r4⟩⟩
  drew := fun _ => ⟨rfl, rfl, rfl, Nat.le_refl _, fun _ _ => .inl rfl⟩
section
variable {B : Nat} {ks : List (TypeId × Array Value × Array Value)}
theorem Slots.of {w w' : World} (e : Ext w w') : Slots B ks w w' := ⟨e.os, e.tape, e.output, e.size, fun k hk => .inl (e.block k hk)⟩
theorem Slots.ext {a w w' : World} (h : Ext a w) (e : Slots B ks w w') (hB : a.heap.size ≤ B) : Ext a w' :=
  ⟨e.os.trans h.os, e.tape.trans h.tape, e.output.trans h.output, Nat.le_trans h.size e.size, fun k hk => by
    rcases e.block k (Nat.lt_of_lt_of_le hk h.size) with q | ⟨q, _⟩
    · exact q.trans (h.block k hk)
    · omega⟩
theorem Slots.cell {w w' : World} {a : Addr} {v : Value} (h : w.cell? a = some v) (hB : a.block < B) (e : Slots B ks w w') : w'.cell? a = some v := by
  rcases e.block a.block (World.block_lt_of_cell? w _ h) with q | ⟨q, _⟩
  · rw [World.cell?_of_block q]; exact h
  · omega
theorem Slots.row {w w' : World} {b : Nat} {T : TypeId} {cs : Array Value} (h : RowIs b T cs w) (hB : b < B) (e : Slots B ks w w') : RowIs b T cs w' := by
  rcases e.block b h.lt with q | ⟨q, _⟩
  · exact q.trans h
  · omega
/-- a new box, written or not -/
def Fresh (B : Nat) (T : TypeId) (Z U : Array Value) (v : Value) (w : World) : Prop := ∃ b, v = .pointer (some ⟨b, 0, none⟩) ∧ B ≤ b ∧ ∃ c, RowIs b T c w ∧ (c = Z ∨ c = U)
theorem Fresh.new {w : World} {T : TypeId} {Z U : Array Value} (h : B ≤ w.heap.size) : Fresh B T Z U (.pointer (some ⟨w.heap.size, 0, none⟩)) (w.alloc (.cells Z T)) := ⟨_, rfl, h, _, RowIs.new _ _ _, .inl rfl⟩
theorem Fresh.kept {T : TypeId} {Z U : Array Value} {v : Value} {w w' : World} (h1 : OneEach ks) (hm : (T, Z, U) ∈ ks) (h : Fresh B T Z U v w) (e : Slots B ks w w') : Fresh B T Z U v w' := by
  obtain ⟨b, rfl, hb, c, hr, hc⟩ := h
  rcases e.block b hr.lt with q | ⟨_, p, hp, r1, r2⟩
  · exact ⟨b, rfl, hb, c, q.trans hr, hc⟩
  · obtain ⟨e1, _⟩ := hr.inj r1
    obtain rfl := h1 _ hm p hp e1
    exact ⟨b, rfl, hb, U, r2, .inr rfl⟩
/-- a new box, written -/
def Done (B : Nat) (T : TypeId) (U : Array Value) (v : Value) (w : World) : Prop := ∃ b, v = .pointer (some ⟨b, 0, none⟩) ∧ B ≤ b ∧ RowIs b T U w
theorem Done.kept {T : TypeId} {Z U : Array Value} {v : Value} {w w' : World} (h1 : OneEach ks) (hm : (T, Z, U) ∈ ks) (h : Done B T U v w) (e : Slots B ks w w') : Done B T U v w' := by
  obtain ⟨b, rfl, hb, hr⟩ := h
  rcases e.block b hr.lt with q | ⟨_, p, hp, r1, r2⟩
  · exact ⟨b, rfl, hb, q.trans hr⟩
  · obtain ⟨e1, _⟩ := hr.inj r1
    obtain rfl := h1 _ hm p hp e1
    exact ⟨b, rfl, hb, r2⟩
theorem Slots.setRow {w : World} {b : Nat} {T : TypeId} {Z U c : Array Value} (hm : (T, Z, U) ∈ ks) (hb : B ≤ b) (hr : RowIs b T c w) (hc : c = Z ∨ c = U) : Slots B ks w (w.setRow b U) ∧ RowIs b T U (w.setRow b U) := by
  have hs := setRow_heap w b c U T (0, 0) hr
  refine ⟨⟨rfl, rfl, rfl, by simp, fun k hk => ?_⟩, hs⟩
  by_cases e : k = b
  · subst e
    rcases hc with rfl | rfl
    · exact .inr ⟨hb, _, hm, hr, hs⟩
    · exact .inl (hs.trans hr.symm)
  · exact .inl (setRow_other w b k U e)
end
/-- two results that lie in boxes -/
theorem results_rows2 {P : Program} {fn : Func} {p q : Tmp} {t u : TypeId} (h : fn.results = #[.cell p t, .cell q u]) (tmps : Array Value) (w : World) {g k : Nat} {c e : Array Value} {T U : TypeId} {d f : TypeDesc}
    (hp : tmps.getD p undef = .pointer (some ⟨g, 0, none⟩)) (hg : RowIs g T c w) (hq : tmps.getD q undef = .pointer (some ⟨k, 0, none⟩)) (hk : RowIs k U e w)
    (hu : P.underlying t = some d) (hd : (match d with | .struct _ | .array _ _ => true | _ => false) = true) (hi : (P.info? t).map (·.size) = some c.size)
    (hv : P.underlying u = some f) (hf : (match f with | .struct _ | .array _ _ => true | _ => false) = true) (hj : (P.info? u).map (·.size) = some e.size) :
    (results fn tmps).run P w = .ok (.tuple #[.agg c, .agg e]) w := by
  have hp' : tmps[p]?.getD undef = .pointer (some ⟨g, 0, none⟩) := by simpa using hp
  have hq' : tmps[q]?.getD undef = .pointer (some ⟨k, 0, none⟩) := by simpa using hq
  simp [results, h, hp', hq', asAddr, run_loadVar_row w g T t c (0, 0) d hg hu hd hi, run_loadVar_row w k U u e (0, 0) f hk hv hf hj]
/-- results of which one lies in a box -/
theorem results_tct {P : Program} {fn : Func} {p q r : Tmp} {t : TypeId} (h : fn.results = #[.tmp p, .cell q t, .tmp r]) (tmps : Array Value) (w : World) {g : Nat} {c : Array Value} {T : TypeId} {d : TypeDesc}
    (hp : tmps.getD q undef = .pointer (some ⟨g, 0, none⟩)) (hg : RowIs g T c w)
    (hu : P.underlying t = some d) (hd : (match d with | .struct _ | .array _ _ => true | _ => false) = true) (hi : (P.info? t).map (·.size) = some c.size) :
    (results fn tmps).run P w = .ok (.tuple #[tmps.getD p undef, .agg c, tmps.getD r undef]) w := by
  have hp' : tmps[q]?.getD undef = .pointer (some ⟨g, 0, none⟩) := by simpa using hp
  simp [results, h, hp', asAddr, run_loadVar_row w g T t c (0, 0) d hg hu hd hi]
theorem results_ctt {P : Program} {fn : Func} {p q r : Tmp} {t : TypeId} (h : fn.results = #[.cell p t, .tmp q, .tmp r]) (tmps : Array Value) (w : World) {g : Nat} {c : Array Value} {T : TypeId} {d : TypeDesc}
    (hp : tmps.getD p undef = .pointer (some ⟨g, 0, none⟩)) (hg : RowIs g T c w)
    (hu : P.underlying t = some d) (hd : (match d with | .struct _ | .array _ _ => true | _ => false) = true) (hi : (P.info? t).map (·.size) = some c.size) :
    (results fn tmps).run P w = .ok (.tuple #[.agg c, tmps.getD q undef, tmps.getD r undef]) w := by
  have hp' : tmps[p]?.getD undef = .pointer (some ⟨g, 0, none⟩) := by simpa using hp
  simp [results, h, hp', asAddr, run_loadVar_row w g T t c (0, 0) d hg hu hd hi]
theorem results_cttt {P : Program} {fn : Func} {p q r s : Tmp} {t : TypeId} (h : fn.results = #[.cell p t, .tmp q, .tmp r, .tmp s]) (tmps : Array Value) (w : World) {g : Nat} {c : Array Value} {T : TypeId} {d : TypeDesc}
    (hp : tmps.getD p undef = .pointer (some ⟨g, 0, none⟩)) (hg : RowIs g T c w)
    (hu : P.underlying t = some d) (hd : (match d with | .struct _ | .array _ _ => true | _ => false) = true) (hi : (P.info? t).map (·.size) = some c.size) :
    (results fn tmps).run P w = .ok (.tuple #[.agg c, tmps.getD q undef, tmps.getD r undef, tmps.getD s undef]) w := by
  have hp' : tmps[p]?.getD undef = .pointer (some ⟨g, 0, none⟩) := by simpa using hp
  simp [results, h, hp', asAddr, run_loadVar_row w g T t c (0, 0) d hg hu hd hi]
/-- only the block g may be another one -/
structure Wrote (g : Nat) (w w' : World) : Prop where
  os : w'.os = w.os
  tape : w'.tape = w.tape
  output : w'.output = w.output
  size : w'.heap.size = w.heap.size
  block : ∀ k, k ≠ g → w'.heap[k]? = w.heap[k]?
theorem Wrote.setRow (g : Nat) (w : World) (cs : Array Value) : Wrote g w (w.setRow g cs) := ⟨rfl, rfl, rfl, by simp, fun k hk => setRow_other w g k cs hk⟩
theorem Wrote.setCell {g : Nat} {w : World} {T : TypeId} {cs : Array Value} (h : RowIs g T cs w) (i : Nat) (v : Value) : Wrote g w (w.setCell ⟨g, i, none⟩ v) := by
  rw [setCell_eq_setRow w g i cs T (0, 0) v h]; exact Wrote.setRow g w _
theorem Wrote.ext {g : Nat} {a w w' : World} (e : Wrote g w w') (h : Ext a w) (hg : a.heap.size ≤ g) : Ext a w' :=
  ⟨e.os.trans h.os, e.tape.trans h.tape, e.output.trans h.output, by rw [e.size]; exact h.size, fun k hk => (e.block k (by omega)).trans (h.block k hk)⟩
theorem Wrote.row {g b : Nat} {w w' : World} {T : TypeId} {cs : Array Value} (e : Wrote g w w') (h : RowIs b T cs w) (hb : b ≠ g) : RowIs b T cs w' := (e.block b hb).trans h
theorem Wrote.cell {g : Nat} {w w' : World} {a : Addr} {v : Value} (e : Wrote g w w') (h : w.cell? a = some v) (hb : a.block ≠ g) : w'.cell? a = some v := by
  rw [World.cell?_of_block (e.block a.block hb)]; exact h
theorem RowIs.setCell {g : Nat} {w : World} {T : TypeId} {cs : Array Value} (h : RowIs g T cs w) (i : Nat) (v : Value) : RowIs g T (cs.setIfInBounds i v) (w.setCell ⟨g, i, none⟩ v) := by
  rw [setCell_eq_setRow w g i cs T (0, 0) v h]; exact setRow_heap w g cs _ T (0, 0) h
theorem RowIs.free {g : Nat} {w : World} {T : TypeId} {cs : Array Value} (h : RowIs g T cs w) (i : Nat) : w.frozen? ⟨g, i, none⟩ = false := by
  have h' : w.heap[g]? = some (.cells cs T (0, 0)) := h
  simp [World.frozen?, h']
theorem RowIs.set4 {g : Nat} {w : World} {T : TypeId} {a b c d a' b' c' d' : Value} (h : RowIs g T #[a, b, c, d] w) :
    RowIs g T #[a', b', c', d'] ((((w.setCell ⟨g, 0, none⟩ a').setCell ⟨g, 1, none⟩ b').setCell ⟨g, 2, none⟩ c').setCell ⟨g, 3, none⟩ d') := by
  have := (((h.setCell 0 a').setCell 1 b').setCell 2 c').setCell 3 d'
  simpa using this
theorem Wrote.trans {g : Nat} {a b c : World} (h : Wrote g a b) (k : Wrote g b c) : Wrote g a c :=
  ⟨k.os.trans h.os, k.tape.trans h.tape, k.output.trans h.output, k.size.trans h.size, fun i hi => (k.block i hi).trans (h.block i hi)⟩
theorem Wrote.set4 {g : Nat} {w : World} {T : TypeId} {cs : Array Value} {a' b' c' d' : Value} (h : RowIs g T cs w) :
    Wrote g w ((((w.setCell ⟨g, 0, none⟩ a').setCell ⟨g, 1, none⟩ b').setCell ⟨g, 2, none⟩ c').setCell ⟨g, 3, none⟩ d') :=
  (Wrote.setCell h 0 a').trans ((Wrote.setCell (h.setCell 0 a') 1 b').trans ((Wrote.setCell ((h.setCell 0 a').setCell 1 b') 2 c').trans (Wrote.setCell (((h.setCell 0 a').setCell 1 b').setCell 2 c') 3 d')))
/-- a struct, stored into a row of its size, as a step of a region that draws nothing -/
theorem wpl_row {P : Program} {w : World} {ops : Array Oper} {rest : List Oper} {o : Oper} {a : Act} {Q : Exit → Act → World → Prop} {ty T : TypeId} {x v : Operand} (hgd : o.guard = none) (ho : o.op = .store ty x v)
    {g : Nat} (hx : a.eval x = .pointer (some ⟨g, 0, none⟩)) {cs old : Array Value} (hv : a.eval v = .agg cs) (hg : RowIs g T old w) (hi : (P.info? ty).map (·.size) = some cs.size) (hs : old.size = cs.size) (h1 : cs.all (·.oneCell') = true)
    (h : ∀ w', Wrote g w w' → RowIs g T cs w' → wpList P ops Q rest (a.put o.dst undef) w') : wpList P ops Q (o :: rest) a w := by
  refine wpList_plain hgd fun K hK => ?_
  have hr := run_storeVar_row (P := P) w g T ty old cs hg hi hs h1
  unfold Oper.wp execOp
  simp only [ho, hx, hv, Instr.storeAt, Instr.sureAddr, Sem.run_bind, Sem.run_pure, Result.andThen_ok, hr]
  exact hK _ _ (h _ (Wrote.setRow g w cs) (setRow_heap w g old cs T (0, 0) hg))
theorem RowIs.new2 (w : World) (o : Obj) (T : TypeId) (cs : Array Value) : RowIs (w.heap.size + 1) T cs ((w.alloc o).alloc (.cells cs T)) := by
  have e : (w.alloc o).heap.size = w.heap.size + 1 := by simp
  rw [← e]; exact RowIs.new _ _ _
theorem RowIs.new3 (w : World) (o p : Obj) (T : TypeId) (cs : Array Value) : RowIs (w.heap.size + 1 + 1) T cs (((w.alloc o).alloc p).alloc (.cells cs T)) := by
  have e : (w.alloc o).heap.size = w.heap.size + 1 := by simp
  rw [← e]; exact RowIs.new2 _ _ _ _
theorem RowIs.new4 (w : World) (o p q : Obj) (T : TypeId) (cs : Array Value) : RowIs (w.heap.size + 1 + 1 + 1) T cs ((((w.alloc o).alloc p).alloc q).alloc (.cells cs T)) := by
  have e : (w.alloc o).heap.size = w.heap.size + 1 := by simp
  rw [← e]; exact RowIs.new3 _ _ _ _ _
theorem cell_new2 (w : World) (o : Obj) (T : TypeId) (cs : Array Value) (j : Nat) : ((w.alloc o).alloc (.cells cs T)).cell? ⟨w.heap.size + 1, j, none⟩ = cs[j]? := by
  rw [← show (w.alloc o).heap.size = w.heap.size + 1 by simp]; exact World.cell?_alloc_new _ _ _ _
/-- all that was there but the block g is as it was -/
structure But (g : Nat) (w w' : World) : Prop where
  os : w'.os = w.os
  tape : w'.tape = w.tape
  output : w'.output = w.output
  size : w.heap.size ≤ w'.heap.size
  block : ∀ k, k < w.heap.size → k ≠ g → w'.heap[k]? = w.heap[k]?
theorem But.refl (g : Nat) (w : World) : But g w w := ⟨rfl, rfl, rfl, Nat.le_refl _, fun _ _ _ => rfl⟩
theorem But.trans {g : Nat} {a b c : World} (h : But g a b) (k : But g b c) : But g a c :=
  ⟨k.os.trans h.os, k.tape.trans h.tape, k.output.trans h.output, Nat.le_trans h.size k.size, fun i hi hn => (k.block i (Nat.lt_of_lt_of_le hi h.size) hn).trans (h.block i hi hn)⟩
theorem But.of {g : Nat} {w w' : World} (e : Ext w w') : But g w w' := ⟨e.os, e.tape, e.output, e.size, fun k hk _ => e.block k hk⟩
theorem Wrote.but {g : Nat} {w w' : World} (e : Wrote g w w') : But g w w' := ⟨e.os, e.tape, e.output, by rw [e.size]; exact Nat.le_refl _, fun k _ hn => e.block k hn⟩
theorem But.cell {g : Nat} {w w' : World} {a : Addr} {v : Value} (e : But g w w') (h : w.cell? a = some v) (hb : a.block ≠ g) : w'.cell? a = some v := by
  rw [World.cell?_of_block (e.block a.block (World.block_lt_of_cell? w _ h) hb)]; exact h
theorem But.ext {g : Nat} {a w w' : World} (e : But g w w') (h : Ext a w) (hg : a.heap.size ≤ g) : Ext a w' :=
  ⟨e.os.trans h.os, e.tape.trans h.tape, e.output.trans h.output, Nat.le_trans h.size e.size, fun k hk => (e.block k (Nat.lt_of_lt_of_le hk h.size) (by omega)).trans (h.block k hk)⟩
theorem But.row {g b : Nat} {w w' : World} {T : TypeId} {cs : Array Value} (e : But g w w') (h : RowIs b T cs w) (hb : b ≠ g) : RowIs b T cs w' := (e.block b h.lt hb).trans h
end Go.Proofs.Ytbnpldilkkhgmaa
