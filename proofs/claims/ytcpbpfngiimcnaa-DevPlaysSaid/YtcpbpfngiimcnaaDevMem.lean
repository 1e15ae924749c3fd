/- Where a device lies in memory. -/
import Derived.Test.YtcpbpfngiimcnaaDevSpec
import Derived.Test.YtcpbpfngiimcnaaBoxes
import Derived.Lib.OwnKind
namespace Go.Proofs.Ytcpbpfngiimcnaa
open Go.RowKit
/-- a list in a block, a cell for each of it -/
def ListAt {α : Type} (T : TypeId) (f : α → Value) (w : World) (m : Nat) (l : List α) : Prop := ∃ cs, RowIs m T cs w ∧ ∀ i (h : i < l.length), cs[i]? = some (f l[i])
section
variable {α : Type} {T : TypeId} {f : α → Value} {w w' : World} {m : Nat} {l : List α}
theorem ListAt.lt (h : ListAt T f w m l) : m < w.heap.size := by
  obtain ⟨cs, hr, _⟩ := h
  exact hr.lt
theorem ListAt.cell (h : ListAt T f w m l) (i : Nat) (hi : i < l.length) : w.cell? ⟨m, i, none⟩ = some (f l[i]) := by
  obtain ⟨cs, hr, hc⟩ := h
  exact hr.cell i _ (hc i hi)
theorem ListAt.cellD {f : Bool → Value} {l : List Bool} (h : ListAt T f w m l) (i : Nat) (hi : i < l.length) : w.cell? ⟨m, i, none⟩ = some (f (l.getD i false)) := by
  rw [List.getD_eq_getElem?_getD, List.getElem?_eq_getElem hi]
  exact h.cell i hi
theorem ListAt.cellT {f : ByteArray → Value} {l : List ByteArray} (h : ListAt T f w m l) (i : Nat) (hi : i < l.length) : w.cell? ⟨m, i, none⟩ = some (f (l.getD i .empty)) := by
  rw [List.getD_eq_getElem?_getD, List.getElem?_eq_getElem hi]
  exact h.cell i hi
theorem ListAt.free (h : ListAt T f w m l) (i : Nat) : w.frozen? ⟨m, i, none⟩ = false := by
  obtain ⟨cs, hr, _⟩ := h
  exact hr.free i
theorem ListAt.ext (h : ListAt T f w m l) (e : Ext w w') : ListAt T f w' m l := by
  obtain ⟨cs, hr, hc⟩ := h
  exact ⟨cs, hr.ext e, hc⟩
theorem ListAt.but {g : Nat} (h : ListAt T f w m l) (e : But g w w') (hg : m ≠ g) : ListAt T f w' m l := by
  obtain ⟨cs, hr, hc⟩ := h
  exact ⟨cs, e.row hr hg, hc⟩
theorem ListAt.same (h : ListAt T f w m l) (e : w'.heap[m]? = w.heap[m]?) : ListAt T f w' m l := by
  obtain ⟨cs, hr, hc⟩ := h
  exact ⟨cs, e.trans hr, hc⟩
theorem ListAt.set (h : ListAt T f w m l) (i : Nat) (x : α) : ListAt T f (w.setCell ⟨m, i, none⟩ (f x)) m (l.set i x) := by
  obtain ⟨cs, hr, hc⟩ := h
  refine ⟨_, hr.setCell i (f x), fun j hj => ?_⟩
  have hj' : j < l.length := by simpa using hj
  have h1 := hc j hj'
  have hs : j < cs.size := (Array.getElem?_eq_some_iff.1 h1).1
  by_cases e : i = j
  · subst e
    rw [List.getElem_set_self, Array.getElem?_setIfInBounds_self_of_lt hs]
  · rw [List.getElem_set_ne e, Array.getElem?_setIfInBounds_ne e]
    exact h1
theorem ListAt.wrote (h : ListAt T f w m l) (i : Nat) (v : Value) : Wrote m w (w.setCell ⟨m, i, none⟩ v) := by
  obtain ⟨cs, hr, _⟩ := h
  exact Wrote.setCell hr i v
end
theorem RowIs.ne {b g : Nat} {T U : TypeId} {c d : Array Value} {w : World} (h : RowIs b T c w) (k : RowIs g U d w) (hT : T ≠ U) : b ≠ g := fun e => by
  subst e
  exact hT (h.inj k).1
theorem RowIs.ne_list {α : Type} {b g : Nat} {T U : TypeId} {c : Array Value} {f : α → Value} {l : List α} {w : World} (h : RowIs b T c w) (k : ListAt U f w g l) (hT : T ≠ U) : b ≠ g := by
  obtain ⟨cs, hr, _⟩ := k
  exact h.ne hr hT
theorem ListAt.ne_list {α β : Type} {b g : Nat} {T U : TypeId} {f : α → Value} {l : List α} {f2 : β → Value} {l2 : List β} {w : World} (h : ListAt T f w b l) (k : ListAt U f2 w g l2) (hT : T ≠ U) : b ≠ g := by
  obtain ⟨cs, hr, _⟩ := h
  exact hr.ne_list k hT
/-- the cells of a write in the cache -/
def cellsW (x : Nat × ByteArray) : List Value := [.int .i64 (x.1 : Int), .string x.2]
theorem cellsW_length (x : Nat × ByteArray) : (cellsW x).length = 2 := rfl
theorem flat_at {α β : Type} (f : α → List β) (m : Nat) (hf : ∀ x, (f x).length = m) : ∀ (l : List α) (i : Nat) (hi : i < l.length) (j : Nat), j < m → (l.flatMap f)[i * m + j]? = (f l[i])[j]?
  | x :: l, 0, _, j, hj => by
    rw [List.flatMap_cons, Nat.zero_mul, Nat.zero_add, List.getElem?_append_left (by rw [hf]; exact hj)]; rfl
  | x :: l, i + 1, hi, j, hj => by
    have e : (i + 1) * m + j = (f x).length + (i * m + j) := by rw [hf, Nat.add_mul]; omega
    rw [List.flatMap_cons, e, List.getElem?_append_right (by omega), Nat.add_sub_cancel_left]
    exact flat_at f m hf l i (by simpa using hi) j hj
theorem flat_length {α β : Type} (f : α → List β) (m : Nat) (hf : ∀ x, (f x).length = m) (l : List α) : (l.flatMap f).length = l.length * m := by
  induction l with
  | nil => simp
  | cons x l ih => rw [List.flatMap_cons, List.length_append, hf, ih, List.length_cons, Nat.add_mul]; omega
theorem own_cells {w : World} {B : Nat} {v : Value} {e : TypeId} {m n : Nat} {xs : List Value} (h : w.ownsRow B e m v n xs) :
    ∃ a cap, v = .slice a n cap ∧ n ≤ cap ∧ cap ≤ maxLen ∧ (0 < n → ∃ g, a = some ⟨g, 0, none⟩ ∧ B ≤ g) ∧ ∀ k, k < n * m → ∃ b, a = some ⟨b, 0, none⟩ ∧ w.cell? ⟨b, k, none⟩ = xs[k]? := by
  obtain ⟨hx, ⟨rfl, rfl⟩ | ⟨g, cap, cur, rfl, hb, hg, h1, h2, h3, ht⟩⟩ := h
  · exact ⟨none, 0, rfl, Nat.le_refl _, Nat.zero_le _, fun h => by omega, fun k hk => by omega⟩
  · refine ⟨_, cap, rfl, h1, h2, fun _ => ⟨g, rfl, hb⟩, fun k hk => ⟨g, rfl, ?_⟩⟩
    rw [cell_of_row w g k cur e (0, 0) hg, ← ht, List.getElem?_take, if_pos hk]; simp
/-- a cache: a slice of the call's own -/
def CacheIs (T : TypeId) (w : World) (B : Nat) (cv : Value) (c : List (Nat × ByteArray)) : Prop := w.ownsRow B T 2 cv c.length (c.flatMap cellsW)
theorem CacheIs.nil (T : TypeId) (w : World) (B : Nat) : CacheIs T w B (.slice none 0 0) [] := World.ownsRow_nil _ _ _ _
/-- what a cache's slice is, and its cells -/
theorem CacheIs.cells {T : TypeId} {w : World} {B : Nat} {cv : Value} {c : List (Nat × ByteArray)} (h : CacheIs T w B cv c) :
    ∃ a cap, cv = .slice a c.length cap ∧ (c.length ≤ cap ∧ cap ≤ maxLen) ∧ (∀ i (hi : i < c.length), ∃ g, a = some ⟨g, 0, none⟩ ∧ B ≤ g ∧ w.cell? ⟨g, i * 2, none⟩ = some (.int .i64 (c[i].1 : Int)) ∧ w.cell? ⟨g, i * 2 + 1, none⟩ = some (.string c[i].2)) := by
  obtain ⟨a, cap, rfl, h1, h2, h0, h3⟩ := own_cells h
  refine ⟨a, cap, rfl, ⟨h1, h2⟩, fun i hi => ?_⟩
  obtain ⟨g, rfl, hg⟩ := h0 (by omega)
  obtain ⟨b0, e0, c0⟩ := h3 (i * 2 + 0) (by omega)
  obtain ⟨b1, e1, c1⟩ := h3 (i * 2 + 1) (by omega)
  cases e0; cases e1
  rw [flat_at cellsW 2 cellsW_length c i hi 0 (by omega)] at c0
  rw [flat_at cellsW 2 cellsW_length c i hi 1 (by omega)] at c1
  exact ⟨g, rfl, hg, by simpa [cellsW] using c0, by simpa [cellsW] using c1⟩
theorem CacheIs.shape {T : TypeId} {w : World} {B : Nat} {cv : Value} {c : List (Nat × ByteArray)} (h : CacheIs T w B cv c) : ∃ a n p, cv = .slice a n p := by
  obtain ⟨a, p, e, _⟩ := h.cells
  exact ⟨a, _, p, e⟩
theorem CacheIs.kept {T : TypeId} {w w' : World} {B : Nat} {cv : Value} {c : List (Nat × ByteArray)} (h : CacheIs T w B cv c) (hs : ∀ (k : Nat) (cs : Array Value) (z : Nat × Nat), w.heap[k]? = some (Obj.cells cs T z) → w'.heap[k]? = w.heap[k]?) : CacheIs T w' B cv c := by
  obtain ⟨hx, h | ⟨g, cap, cur, e, hb, hg, h1⟩⟩ := h
  · exact ⟨hx, .inl h⟩
  · exact ⟨hx, .inr ⟨g, cap, cur, e, hb, (hs g cur (0, 0) hg).trans hg, h1⟩⟩
theorem CacheIs.ext {T : TypeId} {w w' : World} {B : Nat} {cv : Value} {c : List (Nat × ByteArray)} (h : CacheIs T w B cv c) (e : Ext w w') : CacheIs T w' B cv c :=
  h.kept fun k _ _ hk => e.block k (Array.getElem?_eq_some_iff.1 hk).1
theorem CacheIs.but {T U : TypeId} {w w' : World} {B g : Nat} {cv : Value} {c : List (Nat × ByteArray)} {cs0 : Array Value} (h : CacheIs T w B cv c) (hr : RowIs g U cs0 w) (hT : T ≠ U) (e : But g w w') : CacheIs T w' B cv c :=
  h.kept fun k cs z hk => e.block k (Array.getElem?_eq_some_iff.1 hk).1 fun ek => by
    subst ek
    have h9 : w.heap[k]? = some (.cells cs0 U (0, 0)) := hr
    rw [h9] at hk
    simp only [Option.some.injEq, Obj.cells.injEq] at hk
    exact hT hk.2.1.symm
/-- all is as it was, but three blocks, and rows of a type, from block B on -/
structure DF (T : TypeId) (B b m q : Nat) (w w' : World) : Prop where
  os : w'.os = w.os
  tape : w'.tape = w.tape
  output : w'.output = w.output
  size : w.heap.size ≤ w'.heap.size
  block : ∀ k, k < w.heap.size → k ≠ b → k ≠ m → k ≠ q → w'.heap[k]? = w.heap[k]? ∨ (B ≤ k ∧ ∃ (cs : Array Value) (z : Nat × Nat), w.heap[k]? = some (Obj.cells cs T z))
section
variable {T : TypeId} {B b m q : Nat}
theorem DF.refl (w : World) : DF T B b m q w w := ⟨rfl, rfl, rfl, Nat.le_refl _, fun _ _ _ _ _ => .inl rfl⟩
theorem DF.of {w w' : World} (e : Ext w w') : DF T B b m q w w' := ⟨e.os, e.tape, e.output, e.size, fun k hk _ _ _ => .inl (e.block k hk)⟩
theorem DF.trans {u v w : World} (h : DF T B b m q u v) (k : DF T B b m q v w) : DF T B b m q u w :=
  ⟨k.os.trans h.os, k.tape.trans h.tape, k.output.trans h.output, Nat.le_trans h.size k.size, fun i hi h1 h2 h3 => by
    rcases h.block i hi h1 h2 h3 with e | ⟨hB, e1⟩
    · rcases k.block i (Nat.lt_of_lt_of_le hi h.size) h1 h2 h3 with e' | ⟨hB, e3⟩
      · exact .inl (e'.trans e)
      · exact .inr ⟨hB, by rw [← e]; exact e3⟩
    · exact .inr ⟨hB, e1⟩⟩
theorem DF.but {g : Nat} {w w' : World} (e : But g w w') (hg : g = b ∨ g = m ∨ g = q) : DF T B b m q w w' :=
  ⟨e.os, e.tape, e.output, e.size, fun k hk h1 h2 h3 => .inl (e.block k hk fun e => by subst e; rcases hg with rfl | rfl | rfl <;> contradiction)⟩
theorem DF.low {a w w' : World} (e : DF T B b m q w w') (h : Ext a w) (h1 : a.heap.size ≤ B) (h2 : B ≤ b ∧ B ≤ m ∧ B ≤ q) : Ext a w' :=
  ⟨e.os.trans h.os, e.tape.trans h.tape, e.output.trans h.output, Nat.le_trans h.size e.size, fun k hk => by
    rcases e.block k (Nat.lt_of_lt_of_le hk h.size) (by omega) (by omega) (by omega) with q | ⟨q, _⟩
    · exact q.trans (h.block k hk)
    · omega⟩
theorem DF.row {w w' : World} {x : Nat} {U : TypeId} {cs : Array Value} (e : DF T B b m q w w') (h : RowIs x U cs w) (hU : U ≠ T) (hx : x ≠ b ∧ x ≠ m ∧ x ≠ q) : RowIs x U cs w' := by
  rcases e.block x h.lt hx.1 hx.2.1 hx.2.2 with k | ⟨_, c, z, k⟩
  · exact k.trans h
  · have h9 : w.heap[x]? = some (.cells cs U (0, 0)) := h
    rw [h9] at k
    simp only [Option.some.injEq, Obj.cells.injEq] at k
    exact absurd k.2.1 hU
end
theorem wpl_wr {T S : TypeId} (ht : Try.prog.underlying S = some (.slice T)) (hi : (Try.prog.info? T).map (fun i => (i.zero, i.size, i.bytes)) = some (some (.agg #[.int .i64 0, .string ⟨#[]⟩]), 2, 24))
    {w : World} {ops : Array Oper} {rest : List Oper} {o : Oper} {a : Act} {Q : Exit → Act → World → Prop} (hgd : o.guard = none) (s x : Operand) (ho : o.op = .call { callee := .builtin .append, args := #[s, x], argTypes := #[S, S] })
    {B : Nat} {v : Value} (hs : a.eval s = v) {l : List (Nat × ByteArray)} (hown : CacheIs T w B v l) (hB : B ≤ w.heap.size) (hn : l.length ≤ 1000000) {c : Nat} (hx : a.eval x = .slice (some ⟨w.heap.size, 0, none⟩) 1 c) (k : Nat) (t : ByteArray)
    (h : ∀ v' w', CacheIs T w' B v' (l ++ [(k, t)]) → (∀ b m q, DF T B b m q w w') → wpList Try.prog ops Q rest (a.put o.dst v') w') : wpList Try.prog ops Q (o :: rest) a (w.alloc (.cells #[.int .i64 (k : Int), .string t] T)) := by
  obtain ⟨i0, hi0, hz0, hz1, hz2⟩ := info_parts hi
  have hcells : ∀ j u, [Value.int .i64 (k : Int), .string t][j]? = some u → (w.alloc (.cells #[.int .i64 (k : Int), .string t] T)).cell? ((⟨w.heap.size, 0, none⟩ : Addr).add j) = some u := fun j u hj => by
    have hp : (⟨w.heap.size, 0, none⟩ : Addr).add j = ⟨w.heap.size, j, none⟩ := by unfold Addr.add; split <;> simp_all
    rw [hp, World.cell?_alloc_new]; simpa using hj
  have hown' : (w.alloc (.cells #[.int .i64 (k : Int), .string t] T)).ownsRow B T 2 v l.length (l.flatMap cellsW) := World.ownsRow.alloc hown _
  obtain ⟨v', w', hr, h2, hg, _⟩ := run_append_own (P := Try.prog) (w := w.alloc (.cells #[.int .i64 (k : Int), .string t] T)) B S o.type T i0 _ 2 24 ht hi0 hz0 hz1 hz2 rfl (by decide) v _ _ hown' ⟨w.heap.size, 0, none⟩ 1 c [.int .i64 (k : Int), .string t] rfl hcells
    (by intro z hz; simp at hz; rcases hz with rfl | rfl <;> rfl) (by unfold maxLen; omega) (by omega) (by simp; omega)
  have kind : ∀ b, v.ownBlock = some b → ∃ c fz, (w.alloc (.cells #[.int .i64 (k : Int), .string t] T)).heap[b]? = some (.cells c T fz) := Go.Lib.ownsRow_kind hown'
  refine wpList_plain hgd fun K hK => ?_
  unfold Oper.wp
  simp [execOp, ho, resolve, invoke, builtin, hs, hx, hr, Result.andThen]
  refine hK _ _ (h v' w' (by unfold CacheIs; rw [List.length_append, List.flatMap_append]; exact h2) fun b m q => ?_)
  refine (DF.of (Ext.alloc w _)).trans ⟨hg.os, hg.tape, hg.output, hg.size, fun i hi _ _ _ => ?_⟩
  by_cases e : v.ownBlock = some i
  · obtain ⟨c2, f2, e2⟩ := kind i e
    exact .inr ⟨(hown'.lt i e).1, c2, f2, e2⟩
  · exact .inl (hg.block i hi fun e2 => e e2.symm)
theorem DF.list {α : Type} {T U : TypeId} {B b m q : Nat} {w w' : World} {x : Nat} {f : α → Value} {l : List α} (e : DF T B b m q w w') (h : ListAt U f w x l) (hU : U ≠ T) (hx : x ≠ b ∧ x ≠ m ∧ x ≠ q) : ListAt U f w' x l := by
  obtain ⟨cs, hr, hc⟩ := h
  exact ⟨cs, e.row hr hU hx, hc⟩
/-- the program's device, as it lies -/
def devRow (d : Dev.St) (m q : Nat) (cv : Value) : Array Value := #[.int .i64 9, .int .i64 128, .slice (some ⟨m, 0, none⟩) 9 9, .slice (some ⟨q, 0, none⟩) 9 9, cv, .int .i64 (d.fuse : Int), .int .i64 (d.lose : Int), .int .i64 (d.stray : Int), .int .i64 d.to, .bool d.off, .bool d.gone, .int .i64 (d.reads : Int), .int .i64 (d.writes : Int), .int .i64 (d.fls : Int)]
structure PD (w : World) (B b m q : Nat) (d : Dev.St) : Prop where
  row : ∃ cv, RowIs b 80 (devRow d m q cv) w ∧ CacheIs 95 w B cv d.cache
  media : ListAt 9 .string w m d.media
  bad : ListAt 4 .bool w q d.bad
  ok : Dev.Ok d
  low : B ≤ b ∧ B ≤ m ∧ B ≤ q
end Go.Proofs.Ytcpbpfngiimcnaa
