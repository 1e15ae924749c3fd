/- A region that draws its order, makes two boxes of one type, and writes both: the condition for RegionJ's law. -/
import Derived.Test.YtbnpldilkkhgmaaRegionJ
import Derived.Test.YtbnpldilkkhgmaaBoxes
namespace Go.Proofs.Ytbnpldilkkhgmaa
open Go.RowKit
/-- p, q make the boxes, s, t write them -/
structure TwoJ (p q s t : Nat) (w0 : World) (T : TypeId) (Z U V : Array Value) (vs : RJ.Vals) (w : World) : Prop where
  ext : Ext w0 w
  sp : vs p = none → vs s = none
  tq : vs q = none → vs t = none
  one : ∀ v, vs p = some v → ∃ b, v = .pointer (some ⟨b, 0, none⟩) ∧ w0.heap.size ≤ b ∧ RowIs b T (match vs s with | none => Z | some _ => U) w
  two : ∀ v, vs q = some v → ∃ b, v = .pointer (some ⟨b, 0, none⟩) ∧ w0.heap.size ≤ b ∧ RowIs b T (match vs t with | none => Z | some _ => V) w
  ne : ∀ v u, vs p = some v → vs q = some u → v ≠ u
namespace TwoJ
variable {p q s t : Nat} {w0 w w' : World} {T : TypeId} {Z U V : Array Value} {vs : RJ.Vals}
theorem start (h : Ext w0 w) : TwoJ p q s t w0 T Z U V (fun _ => none) w := ⟨h, fun _ => rfl, fun _ => rfl, by simp, by simp, by simp⟩
theorem keep (j : TwoJ p q s t w0 T Z U V vs w) (i : Nat) (v : Value) (h : i ≠ p ∧ i ≠ q ∧ i ≠ s ∧ i ≠ t) (e : Ext w w') : TwoJ p q s t w0 T Z U V (RJ.upd vs i v) w' := by
  obtain ⟨h1, h2, h3, h4⟩ := h
  have e1 := RJ.upd_ne vs v (Ne.symm h1)
  have e2 := RJ.upd_ne vs v (Ne.symm h2)
  have e3 := RJ.upd_ne vs v (Ne.symm h3)
  have e4 := RJ.upd_ne vs v (Ne.symm h4)
  refine ⟨j.ext.trans e, ?_, ?_, ?_, ?_, ?_⟩
  · rw [e1, e3]; exact j.sp
  · rw [e2, e4]; exact j.tq
  · rw [e1, e3]; intro v hv; obtain ⟨b, a1, a2, a3⟩ := j.one v hv; exact ⟨b, a1, a2, a3.ext e⟩
  · rw [e2, e4]; intro v hv; obtain ⟨b, a1, a2, a3⟩ := j.two v hv; exact ⟨b, a1, a2, a3.ext e⟩
  · rw [e1, e2]; exact j.ne
theorem make1 (j : TwoJ p q s t w0 T Z U V vs w) (hp : vs p = none) (h : p ≠ q ∧ p ≠ s ∧ p ≠ t) : TwoJ p q s t w0 T Z U V (RJ.upd vs p (.pointer (some ⟨w.heap.size, 0, none⟩))) (w.alloc (.cells Z T)) := by
  obtain ⟨h2, h3, h4⟩ := h
  have e2 := RJ.upd_ne vs (.pointer (some ⟨w.heap.size, 0, none⟩)) (Ne.symm h2)
  have e3 := RJ.upd_ne vs (.pointer (some ⟨w.heap.size, 0, none⟩)) (Ne.symm h3)
  have e4 := RJ.upd_ne vs (.pointer (some ⟨w.heap.size, 0, none⟩)) (Ne.symm h4)
  have e := Ext.alloc w (.cells Z T)
  refine ⟨j.ext.trans e, ?_, ?_, ?_, ?_, ?_⟩
  · rw [e3]; intro _; exact j.sp hp
  · rw [e2, e4]; exact j.tq
  · rw [e3, RJ.upd_self, j.sp hp]; rintro v ⟨⟩; exact ⟨_, rfl, j.ext.size, RowIs.new _ _ _⟩
  · rw [e2, e4]; intro v hv; obtain ⟨b, a1, a2, a3⟩ := j.two v hv; exact ⟨b, a1, a2, a3.ext e⟩
  · rw [e2, RJ.upd_self]; rintro v u ⟨⟩ hu; obtain ⟨b, rfl, a2, a3⟩ := j.two u hu; intro q; have := a3.lt; injection q with q; injection q with q; injection q with q; omega
theorem make2 (j : TwoJ p q s t w0 T Z U V vs w) (hq : vs q = none) (h : q ≠ p ∧ q ≠ s ∧ q ≠ t) : TwoJ p q s t w0 T Z U V (RJ.upd vs q (.pointer (some ⟨w.heap.size, 0, none⟩))) (w.alloc (.cells Z T)) := by
  obtain ⟨h2, h3, h4⟩ := h
  have e2 := RJ.upd_ne vs (.pointer (some ⟨w.heap.size, 0, none⟩)) (Ne.symm h2)
  have e3 := RJ.upd_ne vs (.pointer (some ⟨w.heap.size, 0, none⟩)) (Ne.symm h3)
  have e4 := RJ.upd_ne vs (.pointer (some ⟨w.heap.size, 0, none⟩)) (Ne.symm h4)
  have e := Ext.alloc w (.cells Z T)
  refine ⟨j.ext.trans e, ?_, ?_, ?_, ?_, ?_⟩
  · rw [e2, e3]; exact j.sp
  · rw [e4]; intro _; exact j.tq hq
  · rw [e2, e3]; intro v hv; obtain ⟨b, a1, a2, a3⟩ := j.one v hv; exact ⟨b, a1, a2, a3.ext e⟩
  · rw [e4, RJ.upd_self, j.tq hq]; rintro v ⟨⟩; exact ⟨_, rfl, j.ext.size, RowIs.new _ _ _⟩
  · rw [e2, RJ.upd_self]; rintro v u hv ⟨⟩; obtain ⟨b, rfl, a2, a3⟩ := j.one v hv; intro q; have := a3.lt; injection q with q; injection q with q; injection q with q; omega
theorem put1 (j : TwoJ p q s t w0 T Z U V vs w) {v x : Value} (hp : vs p = some v) (hs : vs s = none) (h : s ≠ p ∧ s ≠ q ∧ s ≠ t) :
    ∃ b, v = .pointer (some ⟨b, 0, none⟩) ∧ RowIs b T Z w ∧ TwoJ p q s t w0 T Z U V (RJ.upd vs s x) (w.setRow b U) := by
  obtain ⟨h2, h3, h4⟩ := h
  have e2 := RJ.upd_ne vs x (Ne.symm h2)
  have e3 := RJ.upd_ne vs x (Ne.symm h3)
  have e4 := RJ.upd_ne vs x (Ne.symm h4)
  obtain ⟨b, rfl, hb, hr⟩ := j.one _ hp
  rw [hs] at hr
  have e := Wrote.setRow b w U
  refine ⟨b, rfl, hr, e.ext j.ext hb, ?_, ?_, ?_, ?_, ?_⟩
  · rw [e2, hp]; intro h; cases h
  · rw [e3, e4]; exact j.tq
  · rw [e2, RJ.upd_self, hp]; rintro v ⟨⟩; exact ⟨_, rfl, hb, setRow_heap w b _ _ T (0, 0) hr⟩
  · rw [e3, e4]; intro v hv; obtain ⟨c, a1, a2, a3⟩ := j.two v hv; exact ⟨c, a1, a2, e.row a3 (fun h => by subst h; exact j.ne _ _ hp hv a1.symm)⟩
  · rw [e2, e3]; exact j.ne
theorem put2 (j : TwoJ p q s t w0 T Z U V vs w) {v x : Value} (hq : vs q = some v) (ht : vs t = none) (h : t ≠ p ∧ t ≠ q ∧ t ≠ s) :
    ∃ b, v = .pointer (some ⟨b, 0, none⟩) ∧ RowIs b T Z w ∧ TwoJ p q s t w0 T Z U V (RJ.upd vs t x) (w.setRow b V) := by
  obtain ⟨h2, h3, h4⟩ := h
  have e2 := RJ.upd_ne vs x (Ne.symm h2)
  have e3 := RJ.upd_ne vs x (Ne.symm h3)
  have e4 := RJ.upd_ne vs x (Ne.symm h4)
  obtain ⟨b, rfl, hb, hr⟩ := j.two _ hq
  rw [ht] at hr
  have e := Wrote.setRow b w V
  refine ⟨b, rfl, hr, e.ext j.ext hb, ?_, ?_, ?_, ?_, ?_⟩
  · rw [e2, e4]; exact j.sp
  · rw [e3, hq]; intro h; cases h
  · rw [e2, e4]; intro v hv; obtain ⟨c, a1, a2, a3⟩ := j.one v hv; exact ⟨c, a1, a2, e.row a3 (fun h => by subst h; exact j.ne _ _ hv hq a1)⟩
  · rw [e3, RJ.upd_self, hq]; rintro v ⟨⟩; exact ⟨_, rfl, hb, setRow_heap w b _ _ T (0, 0) hr⟩
  · rw [e2, e3]; exact j.ne
end TwoJ
end Go.Proofs.Ytbnpldilkkhgmaa
