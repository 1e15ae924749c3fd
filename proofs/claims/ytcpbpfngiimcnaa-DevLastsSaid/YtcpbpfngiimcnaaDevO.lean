/- A map from sectors to flags, made by the call itself. -/
import Derived.Test.YtcpbpfngiimcnaaDevN
import Derived.Maps.OwnOps
import Derived.Maps.Views
namespace Go.Proofs.Ytcpbpfngiimcnaa
open Go.RowKit Go.Maps
/-- what the map in block b says of sectors -/
def LaterAt (w : World) (b n : Nat) (later : Nat → Bool) : Prop := ∃ D : DataW Unit, w.ownsMap Try.prog 3 (plainElem Try.prog 4) b n D ∧ IsMap D ∧ ∀ i : Nat, D.atKey (.int .i64 (i : Int)) (.lit (.bool false)) = .lit (.bool (later i))
theorem LaterAt.new (w : World) : LaterAt (w.alloc (.map #[] 0)) w.heap.size 0 (fun _ => false) := ⟨.map [], World.ownsMap_made _ _ _ _, isMap_empty, fun _ => rfl⟩
theorem LaterAt.lt {w : World} {b n : Nat} {later : Nat → Bool} (h : LaterAt w b n later) : b < w.heap.size := by
  obtain ⟨D, h1, _⟩ := h
  exact h1.lt
theorem LaterAt.same {w w' : World} {b n : Nat} {later : Nat → Bool} (h : LaterAt w b n later) (e : w'.heap[b]? = w.heap[b]?) : LaterAt w' b n later := by
  obtain ⟨D, ⟨es, clock, hb, F, hs, hD⟩, h2, h3⟩ := h
  exact ⟨D, ⟨es, clock, e.trans hb, F, hs, hD⟩, h2, h3⟩
theorem LaterAt.mono {w : World} {b n n' : Nat} {later : Nat → Bool} (h : LaterAt w b n later) (hn : n ≤ n') : LaterAt w b n' later := by
  obtain ⟨D, h1, h2, h3⟩ := h
  exact ⟨D, h1.mono hn, h2, h3⟩
theorem LaterAt.ext {w w' : World} {b n : Nat} {later : Nat → Bool} (h : LaterAt w b n later) (e : Ext w w') : LaterAt w' b n later := h.same (e.block b h.lt)
/-- a map is no row -/
theorem LaterAt.ne_row {w : World} {b n g : Nat} {later : Nat → Bool} {T : TypeId} {cs : Array Value} {z : Nat × Nat} (h : LaterAt w b n later) (k : w.heap[g]? = some (Obj.cells cs T z)) : b ≠ g := fun e => by
  obtain ⟨D, ⟨es, clock, hb, _⟩, _⟩ := h
  subst e
  rw [hb] at k
  cases k
theorem LaterAt.df {w w' : World} {B db dm dq b n : Nat} {T : TypeId} {later : Nat → Bool} (h : LaterAt w b n later) (e : DF T B db dm dq w w') (hb : b ≠ db ∧ b ≠ dm ∧ b ≠ dq) : LaterAt w' b n later := by
  rcases e.block b h.lt hb.1 hb.2.1 hb.2.2 with q | ⟨_, cs, z, q⟩
  · exact h.same q
  · exact absurd rfl (h.ne_row q)
theorem key_ok {i : Nat} (hi : i < 9) : keyOf Try.prog 3 (.int .i64 (i : Int)) = some (.int .i64 (i : Int)) := keyOf_int_mk Try.underlying3 (by simp [Lit.wf, IntKind.min, IntKind.max, IntKind.signed, IntKind.bits]; omega)
/-- the sector i is one of them from now on -/
theorem LaterAt.set {w : World} {b n : Nat} {later : Nat → Bool} (h : LaterAt w b n later) (hn : n ≤ 1000) {i : Nat} (hi : i < 9) :
    ∃ w', (Instr.mapUpdate 31 (.map (some b)) (.int .i64 (i : Int)) (.bool true)).run Try.prog w = .ok () w' ∧ LaterAt w' b (n + 1) (fun j => if i = j then true else later j) ∧ But b w w' := by
  obtain ⟨D, h1, h2, h3⟩ := h
  obtain ⟨w', hr, ho, hg⟩ := h1.update (int_keyed Try.underlying3) Try.underlying31 (by unfold maxLen; omega) (key_ok hi) (plainElem_bool Try.underlying4 true)
  refine ⟨w', hr, ⟨_, ho, h2.put _ _, fun j => ?_⟩, ⟨hg.os, hg.tape, hg.output, hg.size, fun k hk hne => hg.block k hk (fun e => hne (by cases e; rfl))⟩⟩
  show (D.put _ _).atKey _ _ = .lit (.bool (if i = j then true else later j))
  by_cases e : i = j
  · subst e
    rw [if_pos rfl, atKey_put_same h2 (show WideAt.IsKeyLit (.int .i64 (i : Int)) from trivial)]
  · rw [if_neg e, atKey_put_other (fun e2 => e (by cases e2; rfl))]
    exact h3 j
set_option maxRecDepth 100000 in
theorem LaterAt.look {w : World} {b n : Nat} {later : Nat → Bool} (h : LaterAt w b n later) {i : Nat} (hi : i < 9) :
    (Instr.lookup 31 (.map (some b)) (.int .i64 (i : Int)) false).run Try.prog w = .ok (.bool (later i)) w := by
  obtain ⟨D, h1, h2, h3⟩ := h
  obtain ⟨v, ps, hr, hv⟩ := h1.lookup (int_keyed Try.underlying3) Try.underlying31 (z := .bool false) (Try.zeroValue4 _) (plainElem_bool Try.underlying4 false) (key_ok hi)
  rw [h3 i] at hv
  have e : v = .bool (later i) := by
    unfold plainElem at hv
    rw [Try.underlying4] at hv
    split at hv <;> simp_all
  rw [hr, e]
end Go.Proofs.Ytcpbpfngiimcnaa
