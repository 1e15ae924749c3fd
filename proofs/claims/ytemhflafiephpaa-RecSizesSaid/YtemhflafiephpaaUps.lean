/- Updates in memory: the cells of a slice of structs; and what such an argument gives when it is read. -/
import Derived.Test.YtemhflafiephpaaOpen
import Derived.Test.YtemhflafiephpaaMsg
import Derived.Deep.Slices
import Derived.Deep.Fields
import Derived.ChangeSame
import Derived.Deep.Strs
import Derived.Lib.SmallJoins
namespace Go.Proofs.Ytemhflafiephpaa
open Go.RowKit Go.ChangeShapes Go.WideShapes Go.Deep
/-- law14.Update's of a slice's elements -/
def Ups (w : World) (a : Option Addr) (l : List Msg.Up) : Prop := ∀ i (h : i < l.length), ∃ b off, a = some ⟨b, off, none⟩ ∧
  w.cell? ⟨b, off + i * 3, none⟩ = some (.int .u8 (l[i].kind : Int)) ∧ w.cell? ⟨b, off + i * 3 + 1, none⟩ = some (.string l[i].value) ∧ w.cell? ⟨b, off + i * 3 + 2, none⟩ = some (.int .u64 (l[i].delta : Int))
theorem Ups.ext {w w' : World} {a : Option Addr} {l : List Msg.Up} (h : Ups w a l) (e : Ext w w') : Ups w' a l := fun i hi =>
  let ⟨b, o, h1, h2, h3, h4⟩ := h i hi; ⟨b, o, h1, cell_ext h2 e, cell_ext h3 e, cell_ext h4 e⟩
theorem Ups.take {w : World} {a : Option Addr} {l : List Msg.Up} (h : Ups w a l) (n : Nat) : Ups w a (l.take n) := fun i hi => by
  have hi' : i < l.length := by rw [List.length_take] at hi; omega
  obtain ⟨b, o, h1, h2⟩ := h i hi'
  exact ⟨b, o, h1, by simpa using h2⟩
def SmallUp (u : Msg.Up) : Prop := u.kind < 256 ∧ u.value.size ≤ maxLen ∧ u.delta < 18446744073709551616
section
variable {H : Type} {enc : TypeId × Value → H} {P : Program} {w : World} {base b0 : Nat} {spare : Nat → Bool} {held : Bool} {r : Reach} {v : Value} {d : DataW H} {p : List MemPlace}
/-- a slice of structs of one-cell fields: each field's cell with its reading -/
theorem open_fields {t e : TypeId} {fs : Array Field} {a0 : Option Addr} {len cap : Nat} (ht : P.underlying t = some (.slice e)) (he : P.underlying e = some (.struct fs))
    (hone : oneCellFields P fs = true) (hC : P.cellsOf e = fs.size) (h0 : 0 < fs.size) (h : DataW.Trod enc P w base spare held t (.slice a0 len cap) d p) :
    len ≤ cap ∧ cap ≤ maxLen ∧ ∀ i, i < len → ∃ b off, a0 = some ⟨b, off, none⟩ ∧ ∀ (j : Nat) (f : Field), fs[j]? = some f → ∃ (v : Value) (n : Nat) (y : DataW H × List MemPlace), w.cell? ⟨b, off + (i * fs.size + j), none⟩ = some v ∧ DataW.trod enc P w base spare held n f.type [v] = some y := by
  obtain ⟨fuel, hf⟩ := h
  rcases open_slice ht hf with ⟨hcs, _⟩ | ⟨a, len', cap', m, n, D, Pl, hcs, _, hl, hmax, hmm, _, hi⟩
  · simp [Value.cells] at hcs
    obtain ⟨rfl, rfl, rfl⟩ := hcs
    exact ⟨Nat.zero_le _, Nat.zero_le _, fun i hi => by omega⟩
  · simp [Value.cells] at hcs
    obtain ⟨rfl, rfl, rfl⟩ := hcs
    refine ⟨hl, hmax, fun i hil => ?_⟩
    have hlm : len ≤ m := by rw [hmm]; split <;> omega
    obtain ⟨cs, hc, htr⟩ := hi i (by omega)
    rw [hC] at hc
    obtain ⟨ys, k, _, _, _, hyl, hg⟩ := DataW.trod_struct he htr
    obtain ⟨_, hcl, hat⟩ := World.cells?_some hc
    have cellj : ∀ j, (hj : j < fs.size) → w.cell? (a.add (i * fs.size + j)) = some (cs[j]'(by omega)) := fun j hj => by
      rw [← Go.Deep.add_add, hat j hj, List.getElem?_eq_getElem]
    obtain ⟨b, off, spot⟩ := a
    have plain : spot = none := by
      obtain ⟨cs0, hc0, _⟩ := hi 0 (by omega)
      rw [hC] at hc0
      obtain ⟨_, hcl0, hat0⟩ := World.cells?_some hc0
      have h9 := hat0 0 h0
      rw [List.getElem?_eq_getElem (by omega)] at h9
      cases spot with
      | none => rfl
      | some y =>
        exfalso
        simp only [Nat.zero_mul, Addr.add, if_pos] at h9
        unfold World.cell? at h9
        split at h9
        all_goals simp at h9
    obtain rfl := plain
    · refine ⟨b, off, rfl, fun j f hj => ?_⟩
      have hjl : j < fs.size := (Array.getElem?_eq_some_iff.1 hj).1
      obtain ⟨ho, hk⟩ := hone_of hone j f hj
      have h1 := hg j f hj
      rw [ho, hk] at h1
      have hone' : (cs.drop j).take 1 = [cs[j]'(by omega)] := by
        rw [List.drop_eq_getElem_cons (by omega)]; rfl
      rw [hone'] at h1
      have e : (⟨b, off, none⟩ : Addr).add (i * fs.size + j) = ⟨b, off + (i * fs.size + j), none⟩ := by unfold Addr.add; split <;> simp_all
      exact ⟨_, _, _, by rw [← e]; exact cellj j hjl, h1.trans (List.getElem?_eq_getElem (by omega))⟩
end
instance : Inhabited Msg.Up := ⟨⟨0, ByteArray.empty, ByteArray.empty, 0⟩⟩
set_option maxRecDepth 100000 in
/-- a slice of law14.Update -/
theorem open_ups {H : Type} {enc : TypeId × Value → H} {w : World} {base b0 : Nat} {spare : Nat → Bool} {held : Bool} {r : Reach} {v : Value} {d : DataW H} {p : List MemPlace}
    (hv : Value.okWide Try.prog w r b0 31 v) (h : DataW.Trod enc Try.prog w base spare held 31 v d p) :
    ∃ (a : Option Addr) (l : List Msg.Up) (cap : Nat), v = .slice a l.length cap ∧ Ups w a l ∧ (l.length ≤ cap ∧ cap ≤ maxLen) ∧ ∀ u ∈ l, SmallUp u := by
  obtain ⟨a, len, cap, rfl⟩ := okWide_slice Try.underlying31 hv
  obtain ⟨h1, h2, h3⟩ := open_fields Try.underlying31 Try.underlying34 (by kernel_rfl) (by kernel_rfl) (by show 0 < 3; omega) h
  obtain ⟨U, hU⟩ := choose_lt (n := len) (p := fun i (u : Msg.Up) => (∃ b off, a = some ⟨b, off, none⟩ ∧ w.cell? ⟨b, off + i * 3, none⟩ = some (.int .u8 (u.kind : Int)) ∧ w.cell? ⟨b, off + i * 3 + 1, none⟩ = some (.string u.value) ∧ w.cell? ⟨b, off + i * 3 + 2, none⟩ = some (.int .u64 (u.delta : Int))) ∧ SmallUp u) (fun i hi => by
    obtain ⟨b, off, rfl, hf⟩ := h3 i hi
    obtain ⟨v0, n0, y0, c0, t0⟩ := hf 0 _ rfl
    obtain ⟨v1, n1, y1, c1, t1⟩ := hf 1 _ rfl
    obtain ⟨v2, n2, y2, c2, t2⟩ := hf 2 _ rfl
    obtain ⟨x0, e0, _, l0⟩ := DataW.trod_int Try.underlying5 t0
    obtain ⟨x1, e1, _, l1⟩ := DataW.trod_string Try.underlying9 t1
    obtain ⟨x2, e2, _, l2⟩ := DataW.trod_int Try.underlying22 t2
    obtain ⟨k, rfl⟩ := nat_u8 l0
    obtain ⟨n, rfl, hn⟩ := nat_u64 l2
    simp only [List.cons.injEq, and_true] at e0 e1 e2
    subst e0 e1 e2
    simp only [List.size_toArray, List.length_cons, List.length_nil, Nat.reduceAdd, Nat.add_zero, ← Nat.add_assoc] at c0 c1 c2
    exact ⟨⟨k.toNat, ByteArray.empty, x1, n⟩, ⟨b, off, rfl, c0, c1, c2⟩, k.toNat_lt, l1, hn⟩)
  refine ⟨a, (List.range len).map U, cap, by simp, fun i hi => ?_, by simpa using ⟨h1, h2⟩, fun u hu => ?_⟩
  · have hi' : i < len := by simpa using hi
    simpa using (hU i hi').1
  · obtain ⟨i, hi, rfl⟩ := List.mem_map.1 hu
    exact (hU i (List.mem_range.1 hi)).2
set_option maxRecDepth 100000 in
/-- a law14.Update, by value -/
theorem open_up {H : Type} {enc : TypeId × Value → H} {w : World} {base b0 : Nat} {spare : Nat → Bool} {held : Bool} {r : Reach} {v : Value} {d : DataW H} {p : List MemPlace}
    (hv : Value.okWide Try.prog w r b0 34 v) (h : DataW.Trod enc Try.prog w base spare held 34 v d p) :
    ∃ (k d : Nat) (s : ByteArray), v = .agg #[.int .u8 (k : Int), .string s, .int .u64 (d : Int)] ∧ (k < 256 ∧ s.size ≤ maxLen ∧ d < 18446744073709551616) := by
  obtain ⟨v0, v1, v2, y0, y1, y2, n, rfl, _, _, t0, t1, t2⟩ := Go.Joins.open_agg3 Try.underlying34 (by kernel_rfl) (by kernel_rfl) hv h
  obtain ⟨x0, e0, _, l0⟩ := DataW.trod_int Try.underlying5 t0
  obtain ⟨x1, e1, _, l1⟩ := DataW.trod_string Try.underlying9 t1
  obtain ⟨x2, e2, _, l2⟩ := DataW.trod_int Try.underlying22 t2
  obtain ⟨k, rfl⟩ := nat_u8 l0
  obtain ⟨n, rfl, hn⟩ := nat_u64 l2
  simp only [List.cons.injEq, and_true] at e0 e1 e2
  subst e0 e1 e2
  exact ⟨k.toNat, n, x1, rfl, k.toNat_lt, l1, hn⟩
theorem slice_cell {H : Type} {enc : TypeId × Value → H} {P : Program} {w : World} {base : Nat} {spare : Nat → Bool} {held : Bool} {t e : TypeId} {n : Nat} {v : Value} {y : DataW H × List MemPlace} (ht : P.underlying t = some (.slice e)) (h : DataW.trod enc P w base spare held n t [v] = some y) : ∃ a len cap, v = .slice a len cap := by
  rcases open_slice ht h with ⟨hcs, _⟩ | ⟨a, len, cap, m, n, D, Pl, hcs, _⟩
  · exact ⟨none, 0, 0, by simpa using hcs⟩
  · exact ⟨some a, len, cap, by simpa using hcs⟩
/-- what a slice of law14.Update's cells hold -/
theorem ups_cells {H : Type} {enc : TypeId × Value → H} {w : World} {base : Nat} {spare : Nat → Bool} {held : Bool} {a : Option Addr} {len cap : Nat} {d : DataW H} {p : List MemPlace}
    (h : DataW.Trod enc Try.prog w base spare held 31 (.slice a len cap) d p) :
    ∃ l : List Msg.Up, l.length = len ∧ Ups w a l ∧ (len ≤ cap ∧ cap ≤ maxLen) ∧ ∀ u ∈ l, SmallUp u := by
  obtain ⟨h1, h2, h3⟩ := open_fields Try.underlying31 Try.underlying34 (by kernel_rfl) (by kernel_rfl) (by show 0 < 3; omega) h
  obtain ⟨U, hU⟩ := choose_lt (n := len) (p := fun i (u : Msg.Up) => (∃ b off, a = some ⟨b, off, none⟩ ∧ w.cell? ⟨b, off + i * 3, none⟩ = some (.int .u8 (u.kind : Int)) ∧ w.cell? ⟨b, off + i * 3 + 1, none⟩ = some (.string u.value) ∧ w.cell? ⟨b, off + i * 3 + 2, none⟩ = some (.int .u64 (u.delta : Int))) ∧ SmallUp u) (fun i hi => by
    obtain ⟨b, off, rfl, hf⟩ := h3 i hi
    obtain ⟨v0, n0, y0, c0, t0⟩ := hf 0 _ rfl
    obtain ⟨v1, n1, y1, c1, t1⟩ := hf 1 _ rfl
    obtain ⟨v2, n2, y2, c2, t2⟩ := hf 2 _ rfl
    obtain ⟨x0, e0, _, l0⟩ := DataW.trod_int Try.underlying5 t0
    obtain ⟨x1, e1, _, l1⟩ := DataW.trod_string Try.underlying9 t1
    obtain ⟨x2, e2, _, l2⟩ := DataW.trod_int Try.underlying22 t2
    obtain ⟨k, rfl⟩ := nat_u8 l0
    obtain ⟨n, rfl, hn⟩ := nat_u64 l2
    simp only [List.cons.injEq, and_true] at e0 e1 e2
    subst e0 e1 e2
    simp only [List.size_toArray, List.length_cons, List.length_nil, Nat.reduceAdd, Nat.add_zero, ← Nat.add_assoc] at c0 c1 c2
    exact ⟨⟨k.toNat, ByteArray.empty, x1, n⟩, ⟨b, off, rfl, c0, c1, c2⟩, k.toNat_lt, l1, hn⟩)
  refine ⟨(List.range len).map U, by simp, fun i hi => ?_, ⟨h1, h2⟩, fun u hu => ?_⟩
  · have hi' : i < len := by simpa using hi
    simpa using (hU i hi').1
  · obtain ⟨i, hi, rfl⟩ := List.mem_map.1 hu
    exact (hU i (List.mem_range.1 hi)).2
set_option maxRecDepth 100000 in
/-- a law14.Fold, by value -/
theorem open_fold {H : Type} {enc : TypeId × Value → H} {w : World} {base b0 : Nat} {spare : Nat → Bool} {held : Bool} {r : Reach} {v : Value} {d : DataW H} {p : List MemPlace}
    (hv : Value.okWide Try.prog w r b0 51 v) (h : DataW.Trod enc Try.prog w base spare held 51 v d p) :
    ∃ (s : ByteArray) (t : Bool) (a : Option Addr) (l : List Msg.Up) (ca at' : Nat), v = .agg #[.string s, .bool t, .slice a l.length ca, .int .u8 (at' : Int)] ∧ s.size ≤ maxLen ∧ Ups w a l ∧ (l.length ≤ ca ∧ ca ≤ maxLen) ∧ (∀ u ∈ l, SmallUp u) ∧ at' < 256 := by
  obtain ⟨v0, v1, v2, v3, y0, y1, y2, y3, n, rfl, _, _, t0, t1, t2, t3⟩ := Go.Joins.open_agg4 Try.underlying51 (by kernel_rfl) (by kernel_rfl) hv h
  obtain ⟨x0, e0, _, l0⟩ := DataW.trod_string Try.underlying9 t0
  obtain ⟨x1, e1, _⟩ := DataW.trod_bool Try.underlying4 t1
  obtain ⟨a, len, cap, rfl⟩ := slice_cell Try.underlying31 t2
  obtain ⟨l, rfl, hU, hc, hS⟩ := ups_cells ⟨n, t2⟩
  obtain ⟨x3, e3, _, l3⟩ := DataW.trod_int Try.underlying5 t3
  obtain ⟨k, rfl⟩ := nat_u8 l3
  simp only [List.cons.injEq, and_true] at e0 e1 e3
  subst e0 e1 e3
  exact ⟨x0, x1, a, l, cap, k.toNat, rfl, l0, hU, hc, hS, k.toNat_lt⟩
end Go.Proofs.Ytemhflafiephpaa
