/- a slice of law05.Block's: its cells -/
import Derived.Test.YtbnpldilkkhgmaaOpenBlk
import Derived.Deep.Slices
import Derived.Deep.Fields
import Derived.ChangeSame
import Derived.Deep.Strs
namespace Go.Proofs.Ytbnpldilkkhgmaa
open Go.RowKit Go.ChangeShapes Go.WideShapes Go.Deep
/-- a block of layer 5 as plain data -/
structure Bk where
  g : Nat
  a : Int
  r : Nat
  u : Nat
  h : Int
  s : Nat
  c : Nat
def FitBk (x : Bk) : Prop := (x.g < 18446744073709551616 ∧ -9223372036854775808 ≤ x.a ∧ x.a ≤ 9223372036854775807) ∧ (x.r < 18446744073709551616 ∧ x.u < 4294967296) ∧ (-9223372036854775808 ≤ x.h ∧ x.h ≤ 9223372036854775807) ∧ x.s < 18446744073709551616 ∧ x.c < 4294967296
/-- law05.Block's of a slice's elements -/
def Bks (w : World) (a : Option Addr) (l : List Bk) : Prop := ∀ i (h : i < l.length), ∃ b off, a = some ⟨b, off, none⟩ ∧ w.cell? ⟨b, off + i * 7, none⟩ = some (.int .u64 (l[i].g : Int)) ∧ w.cell? ⟨b, off + i * 7 + 1, none⟩ = some (.int .i64 l[i].a) ∧ w.cell? ⟨b, off + i * 7 + 2, none⟩ = some (.int .u64 (l[i].r : Int)) ∧ w.cell? ⟨b, off + i * 7 + 3, none⟩ = some (.int .u32 (l[i].u : Int)) ∧ w.cell? ⟨b, off + i * 7 + 4, none⟩ = some (.int .i64 l[i].h) ∧ w.cell? ⟨b, off + i * 7 + 5, none⟩ = some (.int .u64 (l[i].s : Int)) ∧ w.cell? ⟨b, off + i * 7 + 6, none⟩ = some (.int .u32 (l[i].c : Int))
theorem Bks.ext {w w' : World} {a : Option Addr} {l : List Bk} (h : Bks w a l) (e : Ext w w') : Bks w' a l := fun i hi =>
  let ⟨b, o, h1, c0, c1, c2, c3, c4, c5, c6⟩ := h i hi; ⟨b, o, h1, cell_ext c0 e, cell_ext c1 e, cell_ext c2 e, cell_ext c3 e, cell_ext c4 e, cell_ext c5 e, cell_ext c6 e⟩
theorem Bks.take {w : World} {a : Option Addr} {l : List Bk} (h : Bks w a l) (n : Nat) : Bks w a (l.take n) := fun i hi => by
  have hi' : i < l.length := by rw [List.length_take] at hi; omega
  obtain ⟨b, o, h1, h2⟩ := h i hi'
  exact ⟨b, o, h1, by simpa using h2⟩
section
variable {H : Type} {enc : TypeId × Value → H} {P : Program} {w : World} {base b0 : Nat} {spare : Nat → Bool} {held : Bool} {r : Reach} {v : Value} {d : DataW H} {p : List MemPlace}
/-- a slice of structs of one-cell fields: each field's cell with its reading -/
theorem open_fields {t e : TypeId} {fs : Array Field} {a0 : Option Addr} {len cap : Nat} (ht : P.underlying t = some (.slice e)) (he : P.underlying e = some (.struct fs))
    (hone : oneCellFields P fs = true) (hC : P.cellsOf e = fs.size) (h0 : 0 < fs.size) (h : DataW.Trod enc P w base spare held t (.slice a0 len cap) d p) :
    len ≤ cap ∧ cap ≤ maxLen ∧ ∀ i, i < len → ∃ b off, a0 = some ⟨b, off, none⟩ ∧ ∀ (j : Nat) (f : Field), fs[j]? = some f → ∃ (v : Value) (n : Nat) (y : DataW H × List MemPlace), w.cell? ⟨b, off + (i * fs.size + j), none⟩ = some v ∧ DataW.trod enc P w base spare held n f.type [v] = some y := by
  obtain ⟨fuel, hf⟩ := h
  rcases open_slice ht hf with ⟨hcs, _⟩ | ⟨a, len', cap', m, n, D, Pl, hcs, _, hl, hmax, hmm, _, hi⟩
  · simp [Value.cells] at hcs
    obtain ⟨rfl, rfl, rfl⟩ := hcs
    exact ⟨Nat.zero_le _, Nat.zero_le _, fun i hi => by omega⟩
  · simp [Value.cells] at hcs
    obtain ⟨rfl, rfl, rfl⟩ := hcs
    refine ⟨hl, hmax, fun i hil => ?_⟩
    have hlm : len ≤ m := by rw [hmm]; split <;> omega
    obtain ⟨cs, hc, htr⟩ := hi i (by omega)
    rw [hC] at hc
    obtain ⟨ys, k, _, _, _, hyl, hg⟩ := DataW.trod_struct he htr
    obtain ⟨_, hcl, hat⟩ := World.cells?_some hc
    have cellj : ∀ j, (hj : j < fs.size) → w.cell? (a.add (i * fs.size + j)) = some (cs[j]'(by omega)) := fun j hj => by
      rw [← Go.Deep.add_add, hat j hj, List.getElem?_eq_getElem]
    obtain ⟨b, off, spot⟩ := a
    have plain : spot = none := by
      obtain ⟨cs0, hc0, _⟩ := hi 0 (by omega)
      rw [hC] at hc0
      obtain ⟨_, hcl0, hat0⟩ := World.cells?_some hc0
      have h9 := hat0 0 h0
      rw [List.getElem?_eq_getElem (by omega)] at h9
      cases spot with
      | none => rfl
      | some y =>
        exfalso
        simp only [Nat.zero_mul, Addr.add, if_pos] at h9
        unfold World.cell? at h9
        split at h9
        all_goals simp at h9
    obtain rfl := plain
    · refine ⟨b, off, rfl, fun j f hj => ?_⟩
      have hjl : j < fs.size := (Array.getElem?_eq_some_iff.1 hj).1
      obtain ⟨ho, hk⟩ := hone_of hone j f hj
      have h1 := hg j f hj
      rw [ho, hk] at h1
      have hone' : (cs.drop j).take 1 = [cs[j]'(by omega)] := by
        rw [List.drop_eq_getElem_cons (by omega)]; rfl
      rw [hone'] at h1
      have e : (⟨b, off, none⟩ : Addr).add (i * fs.size + j) = ⟨b, off + (i * fs.size + j), none⟩ := by unfold Addr.add; split <;> simp_all
      exact ⟨_, _, _, by rw [← e]; exact cellj j hjl, h1.trans (List.getElem?_eq_getElem (by omega))⟩
end
instance : Inhabited Bk := ⟨⟨0, 0, 0, 0, 0, 0, 0⟩⟩
set_option maxRecDepth 100000 in
set_option maxHeartbeats 1000000 in
/-- a slice of law05.Block -/
theorem open_blks {H : Type} {enc : TypeId × Value → H} {w : World} {base b0 : Nat} {spare : Nat → Bool} {held : Bool} {r : Reach} {v : Value} {d : DataW H} {p : List MemPlace}
    (hv : Value.okWide Try.prog w r b0 67 v) (h : DataW.Trod enc Try.prog w base spare held 67 v d p) :
    ∃ (a : Option Addr) (l : List Bk) (cap : Nat), v = .slice a l.length cap ∧ Bks w a l ∧ (l.length ≤ cap ∧ cap ≤ maxLen) ∧ ∀ u ∈ l, FitBk u := by
  obtain ⟨a, len, cap, rfl⟩ := okWide_slice Try.underlying67 hv
  obtain ⟨h1, h2, h3⟩ := open_fields Try.underlying67 Try.underlying65 (by kernel_rfl) (by kernel_rfl) (by show 0 < 7; omega) h
  obtain ⟨U, hU⟩ := choose_lt (n := len) (p := fun i (x : Bk) => (∃ b off, a = some ⟨b, off, none⟩ ∧ w.cell? ⟨b, off + i * 7, none⟩ = some (.int .u64 (x.g : Int)) ∧ w.cell? ⟨b, off + i * 7 + 1, none⟩ = some (.int .i64 x.a) ∧ w.cell? ⟨b, off + i * 7 + 2, none⟩ = some (.int .u64 (x.r : Int)) ∧ w.cell? ⟨b, off + i * 7 + 3, none⟩ = some (.int .u32 (x.u : Int)) ∧ w.cell? ⟨b, off + i * 7 + 4, none⟩ = some (.int .i64 x.h) ∧ w.cell? ⟨b, off + i * 7 + 5, none⟩ = some (.int .u64 (x.s : Int)) ∧ w.cell? ⟨b, off + i * 7 + 6, none⟩ = some (.int .u32 (x.c : Int))) ∧ FitBk x) (fun i hi => by
    obtain ⟨b, off, rfl, hf⟩ := h3 i hi
    obtain ⟨v0, n0, y0, c0, t0⟩ := hf 0 _ rfl
    obtain ⟨v1, n1, y1, c1, t1⟩ := hf 1 _ rfl
    obtain ⟨v2, n2, y2, c2, t2⟩ := hf 2 _ rfl
    obtain ⟨v3, n3, y3, c3, t3⟩ := hf 3 _ rfl
    obtain ⟨v4, n4, y4, c4, t4⟩ := hf 4 _ rfl
    obtain ⟨v5, n5, y5, c5, t5⟩ := hf 5 _ rfl
    obtain ⟨v6, n6, y6, c6, t6⟩ := hf 6 _ rfl
    obtain ⟨x0, e0, _, l0⟩ := DataW.trod_int Try.underlying22 t0
    obtain ⟨x1, e1, _, l1⟩ := DataW.trod_int Try.underlying3 t1
    obtain ⟨x2, e2, _, l2⟩ := DataW.trod_int Try.underlying22 t2
    obtain ⟨x3, e3, _, l3⟩ := DataW.trod_int Try.underlying30 t3
    obtain ⟨x4, e4, _, l4⟩ := DataW.trod_int Try.underlying3 t4
    obtain ⟨x5, e5, _, l5⟩ := DataW.trod_int Try.underlying22 t5
    obtain ⟨x6, e6, _, l6⟩ := DataW.trod_int Try.underlying30 t6
    obtain ⟨m0, rfl, p0⟩ := nat_u64 l0
    obtain ⟨p1, q1⟩ := int_i64 l1
    obtain ⟨m2, rfl, p2⟩ := nat_u64 l2
    obtain ⟨m3, rfl, p3⟩ := nat_u32 l3
    obtain ⟨p4, q4⟩ := int_i64 l4
    obtain ⟨m5, rfl, p5⟩ := nat_u64 l5
    obtain ⟨m6, rfl, p6⟩ := nat_u32 l6
    simp only [List.cons.injEq, and_true] at e0 e1 e2 e3 e4 e5 e6
    subst e0 e1 e2 e3 e4 e5 e6
    simp only [List.size_toArray, List.length_cons, List.length_nil, Nat.reduceAdd, Nat.add_zero, ← Nat.add_assoc] at c0 c1 c2 c3 c4 c5 c6
    exact ⟨⟨m0, x1, m2, m3, x4, m5, m6⟩, ⟨b, off, rfl, c0, c1, c2, c3, c4, c5, c6⟩, ⟨p0, p1, q1⟩, ⟨p2, p3⟩, ⟨p4, q4⟩, p5, p6⟩)
  refine ⟨a, (List.range len).map U, cap, by simp, fun i hi => ?_, by simpa using ⟨h1, h2⟩, fun u hu => ?_⟩
  · have hi' : i < len := by simpa using hi
    simpa using (hU i hi').1
  · obtain ⟨i, hi, rfl⟩ := List.mem_map.1 hu
    exact (hU i (List.mem_range.1 hi)).2
end Go.Proofs.Ytbnpldilkkhgmaa
