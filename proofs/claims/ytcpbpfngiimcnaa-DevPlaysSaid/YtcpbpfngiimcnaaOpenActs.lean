/- a slice of law03.Act's: its cells -/
import Derived.Test.YtcpbpfngiimcnaaOpenFaults
namespace Go.Proofs.Ytcpbpfngiimcnaa
open Go.RowKit Go.ChangeShapes Go.WideShapes Go.Deep
/-- an act of layer 3 as plain data -/
structure Act3 where
  act : Int
  sector : Int
  n : Int
  data : ByteArray
  fa : Option Addr
  fl : List Int
  fc : Nat
instance : Inhabited Act3 := ⟨⟨0, 0, 0, .empty, none, [], 0⟩⟩
def I64 (x : Int) : Prop := -9223372036854775808 ≤ x ∧ x ≤ 9223372036854775807
def FitAct (x : Act3) : Prop := (I64 x.act ∧ I64 x.sector ∧ I64 x.n) ∧ x.data.size ≤ maxLen ∧ (x.fl.length ≤ x.fc ∧ x.fc ≤ maxLen) ∧ ∀ f ∈ x.fl, I64 f
def Acts (w : World) (a : Option Addr) (l : List Act3) : Prop := ∀ i (h : i < l.length), (∃ b off, a = some ⟨b, off, none⟩ ∧ w.cell? ⟨b, off + i * 5, none⟩ = some (.int .i64 l[i].act) ∧ w.cell? ⟨b, off + i * 5 + 1, none⟩ = some (.int .i64 l[i].sector) ∧ w.cell? ⟨b, off + i * 5 + 2, none⟩ = some (.int .i64 l[i].n) ∧ w.cell? ⟨b, off + i * 5 + 3, none⟩ = some (.string l[i].data) ∧ w.cell? ⟨b, off + i * 5 + 4, none⟩ = some (.slice l[i].fa l[i].fl.length l[i].fc)) ∧ IntsOf .i64 w l[i].fa l[i].fl
theorem Acts.ext {w w' : World} {a : Option Addr} {l : List Act3} (h : Acts w a l) (e : Ext w w') : Acts w' a l := fun i hi =>
  let ⟨⟨b, o, h1, c0, c1, c2, c3, c4⟩, hI⟩ := h i hi; ⟨⟨b, o, h1, cell_ext c0 e, cell_ext c1 e, cell_ext c2 e, cell_ext c3 e, cell_ext c4 e⟩, hI.ext e⟩
theorem Acts.take {w : World} {a : Option Addr} {l : List Act3} (h : Acts w a l) (n : Nat) : Acts w a (l.take n) := fun i hi => by
  have hi' : i < l.length := by rw [List.length_take] at hi; omega
  have := h i hi'
  simpa using this
section
variable {H : Type} {enc : TypeId × Value → H} {P : Program} {w : World} {base b0 : Nat} {spare : Nat → Bool} {held : Bool} {r : Reach} {v : Value} {d : DataW H} {p : List MemPlace}
/-- a slice of structs of one-cell fields: each field's cell with its reading -/
theorem open_fields {t e : TypeId} {fs : Array Field} {a0 : Option Addr} {len cap : Nat} (ht : P.underlying t = some (.slice e)) (he : P.underlying e = some (.struct fs))
    (hone : oneCellFields P fs = true) (hC : P.cellsOf e = fs.size) (h0 : 0 < fs.size) (h : DataW.Trod enc P w base spare held t (.slice a0 len cap) d p) :
    len ≤ cap ∧ cap ≤ maxLen ∧ ∀ i, i < len → ∃ b off, a0 = some ⟨b, off, none⟩ ∧ ∀ (j : Nat) (f : Field), fs[j]? = some f → ∃ (v : Value) (n : Nat) (y : DataW H × List MemPlace), w.cell? ⟨b, off + (i * fs.size + j), none⟩ = some v ∧ DataW.trod enc P w base spare held n f.type [v] = some y := by
  obtain ⟨fuel, hf⟩ := h
  rcases open_slice ht hf with ⟨hcs, _⟩ | ⟨a, len', cap', m, n, D, Pl, hcs, _, hl, hmax, hmm, _, hi⟩
  · simp [Value.cells] at hcs
    obtain ⟨rfl, rfl, rfl⟩ := hcs
    exact ⟨Nat.zero_le _, Nat.zero_le _, fun i hi => by omega⟩
  · simp [Value.cells] at hcs
    obtain ⟨rfl, rfl, rfl⟩ := hcs
    refine ⟨hl, hmax, fun i hil => ?_⟩
    have hlm : len ≤ m := by rw [hmm]; split <;> omega
    obtain ⟨cs, hc, htr⟩ := hi i (by omega)
    rw [hC] at hc
    obtain ⟨ys, k, _, _, _, hyl, hg⟩ := DataW.trod_struct he htr
    obtain ⟨_, hcl, hat⟩ := World.cells?_some hc
    have cellj : ∀ j, (hj : j < fs.size) → w.cell? (a.add (i * fs.size + j)) = some (cs[j]'(by omega)) := fun j hj => by
      rw [← Go.Deep.add_add, hat j hj, List.getElem?_eq_getElem]
    obtain ⟨b, off, spot⟩ := a
    have plain : spot = none := by
      obtain ⟨cs0, hc0, _⟩ := hi 0 (by omega)
      rw [hC] at hc0
      obtain ⟨_, hcl0, hat0⟩ := World.cells?_some hc0
      have h9 := hat0 0 h0
      rw [List.getElem?_eq_getElem (by omega)] at h9
      cases spot with
      | none => rfl
      | some y =>
        exfalso
        simp only [Nat.zero_mul, Addr.add, if_pos] at h9
        unfold World.cell? at h9
        split at h9
        all_goals simp at h9
    obtain rfl := plain
    · refine ⟨b, off, rfl, fun j f hj => ?_⟩
      have hjl : j < fs.size := (Array.getElem?_eq_some_iff.1 hj).1
      obtain ⟨ho, hk⟩ := hone_of hone j f hj
      have h1 := hg j f hj
      rw [ho, hk] at h1
      have hone' : (cs.drop j).take 1 = [cs[j]'(by omega)] := by
        rw [List.drop_eq_getElem_cons (by omega)]; rfl
      rw [hone'] at h1
      have e : (⟨b, off, none⟩ : Addr).add (i * fs.size + j) = ⟨b, off + (i * fs.size + j), none⟩ := by unfold Addr.add; split <;> simp_all
      exact ⟨_, _, _, by rw [← e]; exact cellj j hjl, h1.trans (List.getElem?_eq_getElem (by omega))⟩
end
set_option maxRecDepth 100000 in
theorem open_acts {H : Type} {enc : TypeId × Value → H} {w : World} {base b0 : Nat} {spare : Nat → Bool} {held : Bool} {r : Reach} {v : Value} {d : DataW H} {p : List MemPlace}
    (hv : Value.okWide Try.prog w r b0 48 v) (h : DataW.Trod enc Try.prog w base spare held 48 v d p) :
    ∃ (a : Option Addr) (l : List Act3) (cap : Nat), v = .slice a l.length cap ∧ Acts w a l ∧ (l.length ≤ cap ∧ cap ≤ maxLen) ∧ ∀ u ∈ l, FitAct u := by
  obtain ⟨a, len, cap, rfl⟩ := okWide_slice Try.underlying48 hv
  obtain ⟨h1, h2, h3⟩ := open_fields Try.underlying48 Try.underlying53 (by kernel_rfl) (by kernel_rfl) (by show 0 < 5; omega) h
  obtain ⟨U, hU⟩ := choose_lt (n := len) (p := fun i (u : Act3) => ((∃ b off, a = some ⟨b, off, none⟩ ∧ w.cell? ⟨b, off + i * 5, none⟩ = some (.int .i64 u.act) ∧ w.cell? ⟨b, off + i * 5 + 1, none⟩ = some (.int .i64 u.sector) ∧ w.cell? ⟨b, off + i * 5 + 2, none⟩ = some (.int .i64 u.n) ∧ w.cell? ⟨b, off + i * 5 + 3, none⟩ = some (.string u.data) ∧ w.cell? ⟨b, off + i * 5 + 4, none⟩ = some (.slice u.fa u.fl.length u.fc)) ∧ IntsOf .i64 w u.fa u.fl) ∧ FitAct u) (fun i hi => by
    obtain ⟨b, off, rfl, hf⟩ := h3 i hi
    obtain ⟨v0, n0, y0, c0, t0⟩ := hf 0 _ rfl
    obtain ⟨v1, n1, y1, c1, t1⟩ := hf 1 _ rfl
    obtain ⟨v2, n2, y2, c2, t2⟩ := hf 2 _ rfl
    obtain ⟨v3, n3, y3, c3, t3⟩ := hf 3 _ rfl
    obtain ⟨v4, n4, y4, c4, t4⟩ := hf 4 _ rfl
    obtain ⟨x0, e0, _, l0⟩ := DataW.trod_int Try.underlying3 t0
    obtain ⟨x1, e1, _, l1⟩ := DataW.trod_int Try.underlying3 t1
    obtain ⟨x2, e2, _, l2⟩ := DataW.trod_int Try.underlying3 t2
    obtain ⟨x3, e3, _, l3⟩ := DataW.trod_string Try.underlying9 t3
    obtain ⟨fa, fn, fc, rfl⟩ := slice_shape Try.underlying51 t4
    obtain ⟨fl, rfl, hI, hc, hS⟩ := ints_cells Try.underlying51 Try.underlying3 (by kernel_rfl) ⟨n4, t4⟩
    simp only [List.cons.injEq, and_true] at e0 e1 e2 e3
    subst e0 e1 e2 e3
    simp only [List.size_toArray, List.length_cons, List.length_nil, Nat.reduceAdd, Nat.add_zero, ← Nat.add_assoc] at c0 c1 c2 c3 c4
    exact ⟨⟨x0, x1, x2, x3, fa, fl, fc⟩, ⟨⟨b, off, rfl, c0, c1, c2, c3, c4⟩, hI⟩, ⟨int_i64 l0, int_i64 l1, int_i64 l2⟩, l3, hc, fun f hf => int_i64 (hS f hf)⟩)
  refine ⟨a, (List.range len).map U, cap, by simp, fun i hi => ?_, by simpa using ⟨h1, h2⟩, fun u hu => ?_⟩
  · have hi' : i < len := by simpa using hi
    simpa using (hU i hi').1
  · obtain ⟨i, hi, rfl⟩ := List.mem_map.1 hu
    exact (hU i (List.mem_range.1 hi)).2
end Go.Proofs.Ytcpbpfngiimcnaa
