/- A slice of the call's own: made, appended to, turned into a text. -/
import Derived.Test.YtbnpldilkkhgmaaBytes
namespace Go.Proofs.Ytbnpldilkkhgmaa
open Go.RowKit
section
variable {P : Program} {w : World}
theorem app_run {e t : TypeId} {z : Value} {sz bs : Nat} (ht : P.underlying t = some (.slice e)) (hi : (P.info? e).map (fun i => (i.zero, i.size, i.bytes)) = some (some z, sz, bs)) (hz : z.cells.size = sz) (hsz : 0 < sz) (hbs : bs ≤ 1000)
    (B : Nat) (v : Value) (n : Nat) (xs : List Value) (hown : w.ownsRow B e sz v n xs) (hB : B ≤ w.heap.size) (hn : n ≤ 1000000) (news : List Value) (hl : news.length = sz) (h1 : ∀ u ∈ news, u.oneCell' = true) (ty : TypeId) (c : Nat) :
    ∃ v' w', (Builtin.append_ #[t, t] ty #[v, .slice (some ⟨w.heap.size, 0, none⟩) 1 c]).run P (w.alloc (.cells news.toArray e)) = .ok v' w' ∧ w'.ownsRow B e sz v' (n + 1) (xs ++ news) ∧ Below B w w' := by
  obtain ⟨i0, hi, hz0, hz1, hz2⟩ := info_parts hi
  have hcells : ∀ j u, news[j]? = some u → (w.alloc (.cells news.toArray e)).cell? ((⟨w.heap.size, 0, none⟩ : Addr).add j) = some u := fun j u hj => by
    have hp : (⟨w.heap.size, 0, none⟩ : Addr).add j = ⟨w.heap.size, j, none⟩ := by unfold Addr.add; split <;> simp_all
    rw [hp, World.cell?_alloc_new]; simpa using hj
  obtain ⟨v', w', hr, ho, hg, _⟩ := run_append_own (P := P) (w := w.alloc (.cells news.toArray e)) B t ty e i0 z sz bs ht hi hz0 hz1 hz2 hz hsz v n xs (hown.alloc _) ⟨w.heap.size, 0, none⟩ 1 c news (by omega) hcells h1 (by unfold maxLen; omega)
    (by have : (n + 1) * bs ≤ 1000001 * 1000 := Nat.mul_le_mul (by omega) hbs; omega) (by simp; omega)
  refine ⟨v', w', hr, ho, Below.grown ((Below.refl _ _).alloc hB _) hg (by simp; omega) fun k hk => (hown.lt k hk).1⟩
theorem wpl_app {ops : Array Oper} {rest : List Oper} {o : Oper} {a : Act} {Q : Exit → Act → World → Prop} {e t : TypeId} {z : Value} {sz bs : Nat} (ht : P.underlying t = some (.slice e)) (hi : (P.info? e).map (fun i => (i.zero, i.size, i.bytes)) = some (some z, sz, bs)) (hz : z.cells.size = sz) (hsz : 0 < sz) (hbs : bs ≤ 1000)
    (hgd : o.guard = none) (s x : Operand) (ho : o.op = .call { callee := .builtin .append, args := #[s, x], argTypes := #[t, t] })
    (B : Nat) (v : Value) (hs : a.eval s = v) (n : Nat) (xs : List Value) (hown : w.ownsRow B e sz v n xs) (hB : B ≤ w.heap.size) (hn : n ≤ 1000000) (c : Nat) (hx : a.eval x = .slice (some ⟨w.heap.size, 0, none⟩) 1 c) (news : List Value) (hl : news.length = sz) (h1 : ∀ u ∈ news, u.oneCell' = true)
    (h : ∀ v' w', w'.ownsRow B e sz v' (n + 1) (xs ++ news) → Below B w w' → wpList P ops Q rest (a.put o.dst v') w') : wpList P ops Q (o :: rest) a (w.alloc (.cells news.toArray e)) := by
  obtain ⟨v', w', hr, h2, h3⟩ := app_run ht hi hz hsz hbs B v n xs hown hB hn news hl h1 o.type c
  refine wpList_plain hgd fun K hK => ?_
  unfold Oper.wp
  simp [execOp, ho, resolve, invoke, builtin, hs, hx, hr, Result.andThen]
  exact hK _ _ (h v' w' h2 h3)
end
/-- the bytes l, in a slice of the call's own -/
def OwnB (w : World) (B : Nat) (v : Value) (l : List UInt8) : Prop := w.ownsRow B 5 1 v l.length (l.map fun c => .int .u8 (c.toNat : Int))
theorem app_byte {w : World} {B : Nat} {v : Value} {l : List UInt8} (h : OwnB w B v l) (hB : B ≤ w.heap.size) (hl : l.length ≤ 1000000) (u : UInt8) (c : Nat) :
    ∃ v' w', (Builtin.append_ #[48, 48] 48 #[v, .slice (some ⟨w.heap.size, 0, none⟩) 1 c]).run Try.prog (w.alloc (.cells #[.int .u8 (u.toNat : Int)] 5)) = .ok v' w' ∧ OwnB w' B v' (l ++ [u]) ∧ Below B w w' := by
  obtain ⟨v', w', h1, h2, h3⟩ := app_run (P := Try.prog) Try.underlying48 info_u8 rfl (by decide) (by decide) B v _ _ h hB hl [.int .u8 (u.toNat : Int)] rfl (by intro x hx; simp at hx; subst hx; rfl) 48 c
  exact ⟨v', w', h1, by simpa [OwnB] using h2, h3⟩
theorem wpl_byte {w : World} {ops : Array Oper} {rest : List Oper} {o : Oper} {a : Act} {Q : Exit → Act → World → Prop} (hgd : o.guard = none) (s x : Operand) (ho : o.op = .call { callee := .builtin .append, args := #[s, x], argTypes := #[48, 48] })
    {B : Nat} {v : Value} (hs : a.eval s = v) {l : List UInt8} (hown : OwnB w B v l) (hB : B ≤ w.heap.size) (hn : l.length ≤ 1000000) {c : Nat} (hx : a.eval x = .slice (some ⟨w.heap.size, 0, none⟩) 1 c) (u : UInt8)
    (h : ∀ v' w', OwnB w' B v' (l ++ [u]) → Below B w w' → wpList Try.prog ops Q rest (a.put o.dst v') w') : wpList Try.prog ops Q (o :: rest) a (w.alloc (.cells #[.int .u8 (u.toNat : Int)] 5)) :=
  wpl_app (P := Try.prog) Try.underlying48 info_u8 rfl (by decide) (by decide) hgd s x ho B v hs _ _ hown hB hn c hx [.int .u8 (u.toNat : Int)] rfl (by intro x hx; simp at hx; subst hx; rfl) fun v' w' h1 h2 => h v' w' (by simpa [OwnB] using h1) h2
/-- the numbers xs, in a slice of the call's own -/
def OwnN (w : World) (B : Nat) (v : Value) (xs : List Nat) : Prop := w.ownsRow B 22 1 v xs.length (xs.map fun (n : Nat) => .int .u64 (n : Int))
theorem info_u64 : (Try.prog.info? 22).map (fun i => (i.zero, i.size, i.bytes)) = some (some (.int .u64 0), 1, 8) := by kernel_rfl
theorem wpl_num {w : World} {ops : Array Oper} {rest : List Oper} {o : Oper} {a : Act} {Q : Exit → Act → World → Prop} (hgd : o.guard = none) (s x : Operand) (ho : o.op = .call { callee := .builtin .append, args := #[s, x], argTypes := #[56, 56] })
    {B : Nat} {v : Value} (hs : a.eval s = v) {l : List Nat} (hown : OwnN w B v l) (hB : B ≤ w.heap.size) (hn : l.length ≤ 1000000) {c : Nat} (hx : a.eval x = .slice (some ⟨w.heap.size, 0, none⟩) 1 c) (u : Nat)
    (h : ∀ v' w', OwnN w' B v' (l ++ [u]) → Below B w w' → wpList Try.prog ops Q rest (a.put o.dst v') w') : wpList Try.prog ops Q (o :: rest) a (w.alloc (.cells #[.int .u64 (u : Int)] 22)) :=
  wpl_app (P := Try.prog) Try.underlying56 info_u64 rfl (by decide) (by decide) hgd s x ho B v hs _ _ hown hB hn c hx [.int .u64 (u : Int)] rfl (by intro x hx; simp at hx; subst hx; rfl) fun v' w' h1 h2 => h v' w' (by simpa [OwnN] using h1) h2
/-- the same as one step of a region that draws its order, in whatever world the number stands -/
theorem step_num {w : World} {o : Oper} {a : Act} {y : Nat → Option Bool} {K : Act → World → Prop} {Q : Exit → Act → World → Prop} (hgd : o.guard = none) (s x : Operand) (ho : o.op = .call { callee := .builtin .append, args := #[s, x], argTypes := #[56, 56] })
    {B : Nat} {v : Value} (hs : a.eval s = v) {l : List Nat} {b0 c : Nat} (hx : a.eval x = .slice (some ⟨b0, 0, none⟩) 1 c) (u : Nat) (hown : OwnN w B v l) (hB : B ≤ w.heap.size) (hn : l.length ≤ 1000000) (hc : w.cell? ⟨b0, 0, none⟩ = some (.int .u64 (u : Int)))
    (h : ∀ v' w', OwnN w' B v' (l ++ [u]) → Below B w w' → K (a.put o.dst v') w') :
    if Region.wanted o y = true then o.wp Try.prog a w K Q else K (a.put o.dst undef) w := by
  rw [if_pos (by simp [Region.wanted, hgd])]
  obtain ⟨i0, hi, hz0, hz1, hz2⟩ := info_parts info_u64
  have hcells : ∀ j u', [Value.int .u64 (u : Int)][j]? = some u' → w.cell? ((⟨b0, 0, none⟩ : Addr).add j) = some u' := fun j u' hj => by
    match j, hj with
    | 0, hj => simp at hj; subst hj; exact hc
  obtain ⟨v', w', hr, h2, hg, _⟩ := run_append_own (P := Try.prog) (w := w) B 56 o.type 22 i0 (.int .u64 0) 1 8 Try.underlying56 hi hz0 hz1 hz2 rfl (by decide) v _ _ hown ⟨b0, 0, none⟩ 1 c [.int .u64 (u : Int)] rfl hcells (by intro z hz; simp at hz; subst hz; rfl) (by unfold maxLen; omega) (by omega) hB
  unfold Oper.wp
  simp [execOp, ho, resolve, invoke, builtin, hs, hx, hr, Result.andThen]
  exact h v' w' (by simpa [OwnN] using h2) (Below.grown (Below.refl _ _) hg hB fun k hk => (hown.lt k hk).1)
/-- 'make([]byte, 0, n)' -/
theorem make_cap (w : World) (n : Nat) (hn : n ≤ 1048576) : ∃ v wr, (Instr.makeSlice 48 (.int .i64 0) (.int .i64 n)).run Try.prog w = .ok v wr ∧ OwnB wr w.heap.size v [] ∧ Ext w wr := by
  obtain ⟨i0, hi, hz0, hz1, hz2⟩ := info_parts info_u8
  have h := run_make (P := Try.prog) w 48 5 i0 (.int .u8 0) Try.underlying48 hi hz0 .i64 .i64 0 (n : Int) (by omega) (by omega) (by rw [hz2]; omega) (by omega)
  rw [Int.toNat_natCast] at h
  exact ⟨_, _, h, World.ownsRow_made w _ n (Nat.le_refl _) (by unfold maxLen; omega) (by simp [hz1, Value.cells, madeCells]), Ext.alloc _ _⟩
/-- 'string(b)' -/
theorem conv_own {w : World} {B : Nat} {v : Value} {l : List UInt8} (h : OwnB w B v l) : (convert 48 9 v).run Try.prog w = .ok (.string ⟨l.toArray⟩) w := by
  obtain ⟨_, ⟨rfl, hn⟩ | ⟨g, cap, cur, rfl, _, hg, _, _, hs, ht⟩⟩ := h
  · have : l = [] := List.length_eq_zero_iff.1 hn
    subst this
    exact run_convert_bytes_nil w 48 5 Try.underlying48 Try.underlying5 0 0 9 Try.underlying9
  · refine run_convert_bytes_back (P := Try.prog) w 48 9 5 ⟨g, 0, none⟩ cap l Try.underlying48 Try.underlying5 Try.underlying9 fun j hj => ?_
    have hp : (⟨g, 0, none⟩ : Addr).add j = ⟨g, j, none⟩ := by unfold Addr.add; split <;> simp_all
    rw [hp, cell_of_row w g j cur 5 (0, 0) hg]
    have e : (cur.toList.take (l.length * 1))[j]? = some (.int .u8 (l[j].toNat : Int)) := by rw [ht]; simp [hj]
    rw [List.getElem?_take] at e
    simpa [show j < l.length from hj] using e
end Go.Proofs.Ytbnpldilkkhgmaa
