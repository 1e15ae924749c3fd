/- Updates in a slice: rec.Update's, of the call's own or not. -/
import Derived.Test.YtemhflafiephpaaOwn
import Derived.Test.YtemhflafiephpaaMsgOn
import Derived.Test.YtemhflafiephpaaBoxes
namespace Go.Proofs.Ytemhflafiephpaa
open Go.RowKit
theorem flat_at {α β : Type} (f : α → List β) (m : Nat) (hf : ∀ x, (f x).length = m) : ∀ (l : List α) (i : Nat) (hi : i < l.length) (j : Nat), j < m → (l.flatMap f)[i * m + j]? = (f l[i])[j]?
  | x :: l, 0, _, j, hj => by
    rw [List.flatMap_cons, Nat.zero_mul, Nat.zero_add, List.getElem?_append_left (by rw [hf]; exact hj)]; rfl
  | x :: l, i + 1, hi, j, hj => by
    have e : (i + 1) * m + j = (f x).length + (i * m + j) := by rw [hf, Nat.add_mul]; omega
    rw [List.flatMap_cons, e, List.getElem?_append_right (by omega), Nat.add_sub_cancel_left]
    exact flat_at f m hf l i (by simpa using hi) j hj
theorem flat_length {α β : Type} (f : α → List β) (m : Nat) (hf : ∀ x, (f x).length = m) (l : List α) : (l.flatMap f).length = l.length * m := by
  induction l with
  | nil => simp
  | cons x l ih => rw [List.flatMap_cons, List.length_append, hf, ih, List.length_cons, Nat.add_mul]; omega
/-- a slice of the call's own: its cells -/
theorem own_cells {w : World} {B : Nat} {v : Value} {e : TypeId} {m n : Nat} {xs : List Value} (h : w.ownsRow B e m v n xs) :
    ∃ a cap, v = .slice a n cap ∧ n ≤ cap ∧ cap ≤ maxLen ∧ (0 < n → ∃ g, a = some ⟨g, 0, none⟩ ∧ B ≤ g) ∧ ∀ k, k < n * m → ∃ b, a = some ⟨b, 0, none⟩ ∧ w.cell? ⟨b, k, none⟩ = xs[k]? := by
  obtain ⟨hx, ⟨rfl, rfl⟩ | ⟨g, cap, cur, rfl, hb, hg, h1, h2, h3, ht⟩⟩ := h
  · exact ⟨none, 0, rfl, Nat.le_refl _, Nat.zero_le _, fun h => by omega, fun k hk => by omega⟩
  · refine ⟨_, cap, rfl, h1, h2, fun _ => ⟨g, rfl, hb⟩, fun k hk => ⟨g, rfl, ?_⟩⟩
    rw [cell_of_row w g k cur e (0, 0) hg, ← ht, List.getElem?_take, if_pos hk]; simp
/-- the cells of an update -/
def cellsU (u : Msg.Up) : List Value := [.int .u8 (u.kind : Int), .string u.key, .string u.value, .int .u64 (u.delta : Int)]
theorem cellsU_length (u : Msg.Up) : (cellsU u).length = 4 := rfl
/-- rec.Update's of a slice's elements -/
def Recs (w : World) (a : Option Addr) (l : List Msg.Up) : Prop := ∀ i (h : i < l.length), ∃ b off, a = some ⟨b, off, none⟩ ∧
  w.cell? ⟨b, off + i * 4, none⟩ = some (.int .u8 (l[i].kind : Int)) ∧ w.cell? ⟨b, off + i * 4 + 1, none⟩ = some (.string l[i].key) ∧ w.cell? ⟨b, off + i * 4 + 2, none⟩ = some (.string l[i].value) ∧ w.cell? ⟨b, off + i * 4 + 3, none⟩ = some (.int .u64 (l[i].delta : Int))
theorem Recs.ext {w w' : World} {a : Option Addr} {l : List Msg.Up} (h : Recs w a l) (e : Ext w w') : Recs w' a l := fun i hi =>
  let ⟨b, o, h1, h2, h3, h4, h5⟩ := h i hi; ⟨b, o, h1, cell_ext h2 e, cell_ext h3 e, cell_ext h4 e, cell_ext h5 e⟩
theorem Recs.take {w : World} {a : Option Addr} {l : List Msg.Up} (h : Recs w a l) (n : Nat) : Recs w a (l.take n) := fun i hi => by
  have hi' : i < l.length := by rw [List.length_take] at hi; omega
  obtain ⟨b, o, h1, h2⟩ := h i hi'
  exact ⟨b, o, h1, by simpa using h2⟩
theorem Recs.nil (w : World) (a : Option Addr) : Recs w a [] := fun i hi => by simp at hi
theorem Recs.but {g : Nat} {w w' : World} {a : Option Addr} {l : List Msg.Up} (h : Recs w a l) (e : But g w w') (hg : ∀ b o, a = some ⟨b, o, none⟩ → b ≠ g) : Recs w' a l := fun i hi =>
  let ⟨b, o, h1, h2, h3, h4, h5⟩ := h i hi; ⟨b, o, h1, e.cell h2 (hg b o h1), e.cell h3 (hg b o h1), e.cell h4 (hg b o h1), e.cell h5 (hg b o h1)⟩
theorem Recs.drop {w : World} {b off : Nat} {l : List Msg.Up} (h : Recs w (some ⟨b, off, none⟩) l) (n : Nat) : Recs w (some ⟨b, off + n * 4, none⟩) (l.drop n) := fun i hi => by
  have hi' : n + i < l.length := by rw [List.length_drop] at hi; omega
  obtain ⟨b', o', h0, h1, h2, h3, h4⟩ := h (n + i) hi'
  cases h0
  have e : off + n * 4 + i * 4 = off + (n + i) * 4 := by rw [Nat.add_mul]; omega
  refine ⟨b, _, rfl, ?_⟩
  rw [e]
  simpa using ⟨h1, h2, h3, h4⟩
/-- updates in a slice of the call's own, of a type e -/
def OwnE (e : TypeId) (w : World) (B : Nat) (v : Value) (l : List Msg.Up) : Prop := w.ownsRow B e 4 v l.length (l.flatMap cellsU)
theorem OwnE.nil (e : TypeId) (w : World) (B : Nat) : OwnE e w B (.slice none 0 0) [] := World.ownsRow_nil _ _ _ _
theorem own_recs {e : TypeId} {w : World} {B : Nat} {v : Value} {l : List Msg.Up} (h : OwnE e w B v l) : ∃ a cap, v = .slice a l.length cap ∧ (l.length ≤ cap ∧ cap ≤ maxLen) ∧ (0 < l.length → ∃ g, a = some ⟨g, 0, none⟩ ∧ B ≤ g) ∧ Recs w a l := by
  obtain ⟨a, cap, rfl, h1, h2, h0, h3⟩ := own_cells h
  refine ⟨a, cap, rfl, ⟨h1, h2⟩, h0, fun i hi => ?_⟩
  have at' : ∀ j, j < 4 → ∃ b, a = some ⟨b, 0, none⟩ ∧ w.cell? ⟨b, i * 4 + j, none⟩ = (cellsU l[i])[j]? := fun j hj => by
    obtain ⟨b, hb, hc⟩ := h3 (i * 4 + j) (by omega)
    exact ⟨b, hb, by rw [hc, flat_at cellsU 4 cellsU_length l i hi j hj]⟩
  obtain ⟨b, rfl, c0⟩ := at' 0 (by omega)
  obtain ⟨b1, e1, c1⟩ := at' 1 (by omega)
  obtain ⟨b2, e2, c2⟩ := at' 2 (by omega)
  obtain ⟨b3, e3, c3⟩ := at' 3 (by omega)
  cases e1; cases e2; cases e3
  simp only [Nat.add_zero] at c0
  exact ⟨b, 0, rfl, by rw [Nat.zero_add]; exact c0, by rw [Nat.zero_add]; exact c1, by rw [Nat.zero_add]; exact c2, by rw [Nat.zero_add]; exact c3⟩
theorem info_upd : (Try.prog.info? 37).map (fun i => (i.zero, i.size, i.bytes)) = some (some (.agg #[.int .u8 0, .string ⟨#[]⟩, .string ⟨#[]⟩, .int .u64 0]), 4, 48) := by kernel_rfl
def OwnU (w : World) (B : Nat) (v : Value) (l : List Msg.Up) : Prop := OwnE 37 w B v l
theorem own_ext {w w' : World} {B : Nat} {v : Value} {e : TypeId} {m n : Nat} {xs : List Value} (h : w.ownsRow B e m v n xs) (k : Ext w w') : w'.ownsRow B e m v n xs := by
  refine ⟨h.1, ?_⟩
  rcases h.2 with hn | ⟨g, cap, cur, rfl, hb, hg, rest⟩
  · exact .inl hn
  · exact .inr ⟨g, cap, cur, rfl, hb, (k.block g (Array.getElem?_eq_some_iff.1 hg).1).trans hg, rest⟩
theorem OwnE.ext {e : TypeId} {w w' : World} {B : Nat} {v : Value} {l : List Msg.Up} (h : OwnE e w B v l) (k : Ext w w') : OwnE e w' B v l := own_ext h k
theorem OwnU.ext {w w' : World} {B : Nat} {v : Value} {l : List Msg.Up} (h : OwnU w B v l) (k : Ext w w') : OwnU w' B v l := own_ext h k
theorem wpl_upd {w : World} {ops : Array Oper} {rest : List Oper} {o : Oper} {a : Act} {Q : Exit → Act → World → Prop} (hgd : o.guard = none) (s x : Operand) (ho : o.op = .call { callee := .builtin .append, args := #[s, x], argTypes := #[32, 32] })
    {B : Nat} {v : Value} (hs : a.eval s = v) {l : List Msg.Up} (hown : OwnU w B v l) (hB : B ≤ w.heap.size) (hn : l.length ≤ 1000000) {c : Nat} (hx : a.eval x = .slice (some ⟨w.heap.size, 0, none⟩) 1 c) (k d : Nat) (key value : ByteArray)
    (h : ∀ v' w', OwnU w' B v' (l ++ [⟨k, key, value, d⟩]) → Below B w w' → wpList Try.prog ops Q rest (a.put o.dst v') w') : wpList Try.prog ops Q (o :: rest) a (w.alloc (.cells #[.int .u8 (k : Int), .string key, .string value, .int .u64 (d : Int)] 37)) :=
  wpl_app (P := Try.prog) Try.underlying32 info_upd rfl (by decide) (by decide) hgd s x ho B v hs _ _ hown hB hn c hx [.int .u8 (k : Int), .string key, .string value, .int .u64 (d : Int)] rfl (by intro x hx; simp at hx; rcases hx with rfl | rfl | rfl | rfl <;> rfl) fun v' w' h1 h2 => h v' w' (by
    unfold OwnU OwnE
    rw [List.length_append, List.flatMap_append]
    exact h1) h2
end Go.Proofs.Ytemhflafiephpaa
