/- a slice of law12.Update's: its cells -/
import Derived.Test.YtemhflafiephpaaUps
import Derived.Test.YtemhflafiephpaaRecD
import Derived.SizedLaws
namespace Go.Proofs.Ytemhflafiephpaa
open Go.RowKit Go.ChangeShapes Go.WideShapes Go.Deep
set_option maxRecDepth 100000 in
theorem open_recs {H : Type} {enc : TypeId × Value → H} {w : World} {base b0 : Nat} {spare : Nat → Bool} {held : Bool} {r : Reach} {v : Value} {d : DataW H} {p : List MemPlace}
    (hv : Value.okWide Try.prog w r b0 55 v) (h : DataW.Trod enc Try.prog w base spare held 55 v d p) :
    ∃ (a : Option Addr) (l : List Msg.Up) (cap : Nat), v = .slice a l.length cap ∧ Recs w a l ∧ (l.length ≤ cap ∧ cap ≤ maxLen) ∧ ∀ u ∈ l, FitU u := by
  obtain ⟨a, len, cap, rfl⟩ := okWide_slice Try.underlying55 hv
  obtain ⟨h1, h2, h3⟩ := open_fields Try.underlying55 Try.underlying67 (by kernel_rfl) (by kernel_rfl) (by show 0 < 4; omega) h
  obtain ⟨U, hU⟩ := choose_lt (n := len) (p := fun i (u : Msg.Up) => (∃ b off, a = some ⟨b, off, none⟩ ∧ w.cell? ⟨b, off + i * 4, none⟩ = some (.int .u8 (u.kind : Int)) ∧ w.cell? ⟨b, off + i * 4 + 1, none⟩ = some (.string u.key) ∧ w.cell? ⟨b, off + i * 4 + 2, none⟩ = some (.string u.value) ∧ w.cell? ⟨b, off + i * 4 + 3, none⟩ = some (.int .u64 (u.delta : Int))) ∧ FitU u) (fun i hi => by
    obtain ⟨b, off, rfl, hf⟩ := h3 i hi
    obtain ⟨v0, n0, y0, c0, t0⟩ := hf 0 _ rfl
    obtain ⟨v1, n1, y1, c1, t1⟩ := hf 1 _ rfl
    obtain ⟨v2, n2, y2, c2, t2⟩ := hf 2 _ rfl
    obtain ⟨v3, n3, y3, c3, t3⟩ := hf 3 _ rfl
    obtain ⟨x0, e0, _, l0⟩ := DataW.trod_int Try.underlying5 t0
    obtain ⟨x1, e1, _, l1⟩ := DataW.trod_string Try.underlying9 t1
    obtain ⟨x2, e2, _, l2⟩ := DataW.trod_string Try.underlying9 t2
    obtain ⟨x3, e3, _, l3⟩ := DataW.trod_int Try.underlying22 t3
    obtain ⟨k, rfl⟩ := nat_u8 l0
    obtain ⟨n, rfl, hn⟩ := nat_u64 l3
    simp only [List.cons.injEq, and_true] at e0 e1 e2 e3
    subst e0 e1 e2 e3
    simp only [List.size_toArray, List.length_cons, List.length_nil, Nat.reduceAdd, Nat.add_zero, ← Nat.add_assoc] at c0 c1 c2 c3
    exact ⟨⟨k.toNat, x1, x2, n⟩, ⟨b, off, rfl, c0, c1, c2, c3⟩, k.toNat_lt, l1, l2, hn⟩)
  refine ⟨a, (List.range len).map U, cap, by simp, fun i hi => ?_, by simpa using ⟨h1, h2⟩, fun u hu => ?_⟩
  · have hi' : i < len := by simpa using hi
    simpa using (hU i hi').1
  · obtain ⟨i, hi, rfl⟩ := List.mem_map.1 hu
    exact (hU i (List.mem_range.1 hi)).2
theorem mem_weightsAll {H : Type} {P : Program} {e : TypeId} {n : Nat} : ∀ {l : List (DataW H)} {d : DataW H}, d ∈ l → n ∈ d.weights P e → n ∈ DataW.weightsAll P e l
  | d0 :: l, d, hm, hn => by
    simp only [DataW.weightsAll, List.mem_append]
    rcases List.mem_cons.1 hm with rfl | hm
    · exact .inl hn
    · exact .inr (mem_weightsAll hm hn)
section
variable {H : Type} {enc : TypeId × Value → H} {P : Program} {w : World} {base b0 : Nat} {spare : Nat → Bool} {held : Bool} {r : Reach} {v : Value} {d : DataW H} {p : List MemPlace}
/-- a slice of structs of one-cell fields: each field's cell with its reading, and what it weighs -/
theorem open_fields_sized {t e : TypeId} {fs : Array Field} {a0 : Option Addr} {len cap : Nat} (ht : P.underlying t = some (.slice e)) (he : P.underlying e = some (.struct fs))
    (hone : oneCellFields P fs = true) (hC : P.cellsOf e = fs.size) (h0 : 0 < fs.size) (h : DataW.Trod enc P w base spare held t (.slice a0 len cap) d p) :
    ∀ i, i < len → ∃ b off, a0 = some ⟨b, off, none⟩ ∧ ∀ (j : Nat) (f : Field), fs[j]? = some f → ∃ (v : Value) (n : Nat) (y : DataW H × List MemPlace), w.cell? ⟨b, off + (i * fs.size + j), none⟩ = some v ∧ DataW.trod enc P w base spare held n f.type [v] = some y ∧ ∀ x ∈ y.1.weights P f.type, x ∈ d.weights P t := by
  obtain ⟨fuel, hf⟩ := h
  rcases open_slice ht hf with ⟨hcs, _⟩ | ⟨a, len', cap', m, n, D, Pl, hcs, _, hl, hmax, hmm, hx, hi⟩
  · simp [Value.cells] at hcs
    obtain ⟨rfl, rfl, rfl⟩ := hcs
    exact fun i hi => by omega
  · simp [Value.cells] at hcs
    obtain ⟨rfl, rfl, rfl⟩ := hcs
    refine fun i hil => ?_
    have hlm : len ≤ m := by rw [hmm]; split <;> omega
    obtain ⟨cs, hc, htr⟩ := hi i (by omega)
    rw [hC] at hc
    obtain ⟨ys, k, _, hD, _, hyl, hg⟩ := DataW.trod_struct he htr
    obtain ⟨_, hcl, hat⟩ := World.cells?_some hc
    have hDi : D i = .agg (ys.map (·.1)) := (Prod.mk.inj hD).1
    have hd : d = .slice ((List.range len).map D) ((List.range (m - len)).map fun j => D (len + j)) := (Prod.mk.inj hx).1
    have cellj : ∀ j, (hj : j < fs.size) → w.cell? (a.add (i * fs.size + j)) = some (cs[j]'(by omega)) := fun j hj => by
      rw [← Go.Deep.add_add, hat j hj, List.getElem?_eq_getElem]
    obtain ⟨b, off, spot⟩ := a
    have plain : spot = none := by
      obtain ⟨cs0, hc0, _⟩ := hi 0 (by omega)
      rw [hC] at hc0
      obtain ⟨_, hcl0, hat0⟩ := World.cells?_some hc0
      have h9 := hat0 0 h0
      rw [List.getElem?_eq_getElem (by omega)] at h9
      cases spot with
      | none => rfl
      | some y =>
        exfalso
        simp only [Nat.zero_mul, Addr.add, if_pos] at h9
        unfold World.cell? at h9
        split at h9
        all_goals simp at h9
    obtain rfl := plain
    · refine ⟨b, off, rfl, fun j f hj => ?_⟩
      have hjl : j < fs.size := (Array.getElem?_eq_some_iff.1 hj).1
      obtain ⟨ho, hk⟩ := hone_of hone j f hj
      have h1 := hg j f hj
      rw [ho, hk] at h1
      have hone' : (cs.drop j).take 1 = [cs[j]'(by omega)] := by
        rw [List.drop_eq_getElem_cons (by omega)]; rfl
      rw [hone'] at h1
      have e : (⟨b, off, none⟩ : Addr).add (i * fs.size + j) = ⟨b, off + (i * fs.size + j), none⟩ := by unfold Addr.add; split <;> simp_all
      refine ⟨_, _, ys[j]'(by omega), by rw [← e]; exact cellj j hjl, h1.trans (List.getElem?_eq_getElem (by omega)), fun x hx => ?_⟩
      rw [hd]
      simp only [DataW.weights, ht]
      refine List.mem_cons_of_mem _ (List.mem_append_left _ (mem_weightsAll (d := D i) (List.mem_map.2 ⟨i, List.mem_range.2 hil, rfl⟩) ?_))
      rw [hDi]
      simp only [DataW.weights, he]
      exact DataW.weights_mem_each (j := j) (t := f.type) (d := (ys[j]'(by omega)).1) (by rw [List.getElem?_map, Array.getElem?_toList, hj]; rfl) (by rw [List.getElem?_map, List.getElem?_eq_getElem (by omega)]; rfl) x hx
end
/-- a key that a machine can hold -/
def ShortKey (u : Msg.Up) : Prop := u.key.size ≤ reachBytes
set_option maxRecDepth 100000 in
theorem open_recs_sized {H : Type} {enc : TypeId × Value → H} {w : World} {base b0 : Nat} {spare : Nat → Bool} {held : Bool} {r : Reach} {v : Value} {d : DataW H} {p : List MemPlace}
    (hv : Value.okWide Try.prog w r b0 55 v) (h : DataW.Trod enc Try.prog w base spare held 55 v d p) (hW : ∀ x ∈ d.weights Try.prog 55, x ≤ reachBytes) :
    ∃ (a : Option Addr) (l : List Msg.Up) (cap : Nat), v = .slice a l.length cap ∧ Recs w a l ∧ (l.length ≤ cap ∧ cap ≤ maxLen) ∧ ∀ u ∈ l, FitU u ∧ ShortKey u := by
  obtain ⟨a, l, cap, rfl, h1, h2, h3⟩ := open_recs hv h
  refine ⟨a, l, cap, rfl, h1, h2, fun u hu => ⟨h3 u hu, ?_⟩⟩
  obtain ⟨i, hi, rfl⟩ := List.getElem_of_mem hu
  obtain ⟨b, o, e, c0, c1, _⟩ := h1 i hi
  obtain ⟨b', o', e', hf⟩ := open_fields_sized Try.underlying55 Try.underlying67 (by kernel_rfl) (by kernel_rfl) (by show 0 < 4; omega) h i hi
  rw [e] at e'
  cases e'
  obtain ⟨v1, n1, y1, k1, t1, w1⟩ := hf 1 _ rfl
  obtain ⟨x1, e1, ey, _⟩ := DataW.trod_string Try.underlying9 t1
  simp only [List.cons.injEq, and_true] at e1
  subst e1
  simp only [List.size_toArray, List.length_cons, List.length_nil, Nat.reduceAdd, ← Nat.add_assoc] at k1
  rw [k1] at c1
  injection c1 with c1
  injection c1 with c1
  have := hW _ (w1 x1.data.toList.length (by rw [ey]; simp [DataW.weights]))
  unfold ShortKey
  rw [← c1]
  simpa using this
end Go.Proofs.Ytemhflafiephpaa
