/- A new device; what the document fixes. -/
import Derived.Test.YtcpbpfngiimcnaaDevH
namespace Go.Proofs.Ytcpbpfngiimcnaa
open Go.RowKit
/-- a slice of one text -/
def OneT (Z : ByteArray) (v : Value) (w : World) : Prop := ∃ p, v = .slice (some ⟨p, 0, none⟩) 1 1 ∧ w.cell? ⟨p, 0, none⟩ = some (.string Z)
theorem OneT.ext {Z : ByteArray} {v : Value} {w w' : World} (h : OneT Z v w) (e : Ext w w') : OneT Z v w' := by
  obtain ⟨p, rfl, hc⟩ := h
  exact ⟨p, rfl, cell_ext hc e⟩
/-- a slice of nine, from block B on -/
def NineAt {α : Type} (T : TypeId) (f : α → Value) (B : Nat) (l : List α) (v : Value) (w : World) : Prop := ∃ g, v = .slice (some ⟨g, 0, none⟩) 9 9 ∧ B ≤ g ∧ ListAt T f w g l
theorem NineAt.ext {α : Type} {T : TypeId} {f : α → Value} {B : Nat} {l : List α} {v : Value} {w w' : World} (h : NineAt T f B l v w) (e : Ext w w') : NineAt T f B l v w' := by
  obtain ⟨g, rfl, hB, hl⟩ := h
  exact ⟨g, rfl, hB, hl.ext e⟩
/-- a device's cells, not yet in a box -/
def DevAgg (B : Nat) (d : Dev.St) (v : Value) (w : World) : Prop := ∃ m q, v = .agg (devRow d m q (.slice none 0 0)) ∧ B ≤ m ∧ B ≤ q ∧ ListAt 9 .string w m d.media ∧ ListAt 4 .bool w q d.bad
theorem DevAgg.ext {B : Nat} {d : Dev.St} {v : Value} {w w' : World} (h : DevAgg B d v w) (e : Ext w w') : DevAgg B d v w' := by
  obtain ⟨m, q, rfl, h1, h2, h3, h4⟩ := h
  exact ⟨m, q, rfl, h1, h2, h3.ext e, h4.ext e⟩
/-- a device -/
def DevPtr (B : Nat) (d : Dev.St) (v : Value) (w : World) : Prop := ∃ b m q, v = .pointer (some ⟨b, 0, none⟩) ∧ PD w B b m q d
theorem DevPtr.ext {B : Nat} {d : Dev.St} {v : Value} {w w' : World} (h : DevPtr B d v w) (e : Ext w w') : DevPtr B d v w' := by
  obtain ⟨b, m, q, rfl, hp⟩ := h
  exact ⟨b, m, q, rfl, hp.ext e⟩
theorem nines_new (w : World) : ListAt 4 .bool (w.alloc (.cells (Array.replicate 9 (.bool false)) 4)) w.heap.size (List.replicate 9 false) := by
  refine ⟨_, RowIs.new _ _ _, fun i hi => ?_⟩
  have hi' : i < 9 := by simpa using hi
  rw [List.getElem_replicate, Array.getElem?_replicate, if_pos hi']
set_option maxRecDepth 100000 in
set_option maxHeartbeats 4000000 in
theorem new_yes (w : World) : Calls Try.prog 7 #[.agg #[.int .i64 9, .int .i64 128]] w fun e w' => (∃ v, e = .returned (.tuple #[v, .int .i64 0]) ∧ DevPtr w.heap.size Dev.new v w') ∧ Ext w w' := by
  have k0 := World.cell?_alloc_new w #[.int .i64 9, .int .i64 128] 28 0
  have k1 := World.cell?_alloc_new w #[.int .i64 9, .int .i64 128] 28 1
  have hx := Ext.alloc w (.cells #[.int .i64 9, .int .i64 128] 28)
  go_enter Try.func7, Try.ntmps7
  go_wp2_with fail
  generalize w.alloc (.cells #[.int .i64 9, .int .i64 128] 28) = w0 at *
  obtain ⟨A, hA⟩ : ∃ A, w.heap.size = A := ⟨_, rfl⟩
  rw [hA] at k0 k1 ⊢
  have HAA := Lib.hid hA
  clear hA
  refine (right_any 9 128 _).mono ?_
  rintro e w1 ⟨rfl, he1⟩
  rw [show Dev.right 9 128 = true by decide]
  replace k0 := cell_ext k0 he1
  replace k1 := cell_ext k1 he1
  go_wp2_with fail
  refine (srepeat_any 0 _).mono ?_
  rintro e w2 ⟨rfl, he2⟩
  replace k0 := cell_ext k0 he2
  replace k1 := cell_ext k1 he2
  obtain ⟨Z, hZ⟩ : ∃ Z, (⟨Array.replicate 128 0⟩ : ByteArray) = Z := ⟨_, rfl⟩
  rw [hZ]
  have HZ := Lib.hid (show Dev.zero = Z from hZ)
  clear hZ
  go_upto_region 4 with (fail)
  have HE2 := Lib.hid (hx.trans (he1.trans he2))
  clear hx he1 he2
  refine wp_region_drift_lit (n := 22) (by kernel_rfl) (by kernel_rfl) (by rfl) ?_
  apply chain_val (.agg #[.int .i64 9, .int .i64 128])
  · intro w2 hx  K hK
    simp only [Act.put, List.setIfInBounds_toArray, List.set_cons_zero, List.set_cons_succ] at hK ⊢
    have x0 := cell_ext k0 hx
    have x1 := cell_ext k1 hx
    go_simp
    exact hK _ _ (Ext.refl _) rfl
  apply chain_val
  · intro w2 hx  K hK
    simp only [Act.put, List.setIfInBounds_toArray, List.set_cons_zero, List.set_cons_succ] at hK ⊢
    go_simp
    exact hK _ _ (Ext.refl _) rfl
  refine chain_pred (OneT Z) (fun _ _ _ e h => OneT.ext h e) ?_ ?_
  · intro w2 hx  K hK
    simp only [Act.put, List.setIfInBounds_toArray, List.set_cons_zero, List.set_cons_succ] at hK ⊢
    go_simp
    exact hK _ _ (Ext.alloc _ _) ⟨_, rfl, World.cell?_alloc_new _ _ _ 0⟩
  apply chain_val
  · intro w2 hx  K hK
    simp only [Act.put, List.setIfInBounds_toArray, List.set_cons_zero, List.set_cons_succ] at hK ⊢
    go_simp
    exact hK _ _ (Ext.refl _) rfl
  apply chain_val (.int .i64 9)
  · intro w2 hx  K hK
    simp only [Act.put, List.setIfInBounds_toArray, List.set_cons_zero, List.set_cons_succ] at hK ⊢
    have x0 := cell_ext k0 hx
    go_simp
    exact hK _ _ (Ext.refl _) rfl
  refine chain_pred (NineAt 9 .string A (List.replicate 9 Z)) (fun _ _ _ e h => NineAt.ext h e) ?_ ?_
  · intro w2 hx v2 h2 K hK
    simp only [Act.put, List.setIfInBounds_toArray, List.set_cons_zero, List.set_cons_succ] at hK ⊢
    obtain ⟨p, rfl, hp⟩ := h2
    go_simp
    refine (repeat9_any Z p 1 _ hp).mono ?_
    rintro e w9 ⟨⟨g, rfl, hg, hl⟩, he9⟩
    exact hK _ _ he9 ⟨g, rfl, by have := HE2.out.size; have := hx.size; have := HAA.out; omega, hl⟩
  apply chain_val
  · intro w2 hx  K hK
    simp only [Act.put, List.setIfInBounds_toArray, List.set_cons_zero, List.set_cons_succ] at hK ⊢
    go_simp
    exact hK _ _ (Ext.refl _) rfl
  apply chain_val (.int .i64 9)
  · intro w2 hx  K hK
    simp only [Act.put, List.setIfInBounds_toArray, List.set_cons_zero, List.set_cons_succ] at hK ⊢
    have x0 := cell_ext k0 hx
    go_simp
    exact hK _ _ (Ext.refl _) rfl
  refine chain_pred (NineAt 4 .bool A (List.replicate 9 false)) (fun _ _ _ e h => NineAt.ext h e) ?_ ?_
  · intro w2 hx  K hK
    simp only [Act.put, List.setIfInBounds_toArray, List.set_cons_zero, List.set_cons_succ] at hK ⊢
    go_simp
    rw [make9 Try.underlying62 info_bool (made9 _) (by omega)]
    exact hK _ _ (Ext.alloc _ _) ⟨_, rfl, by have := HE2.out.size; have := hx.size; have := HAA.out; omega, nines_new _⟩
  refine chain_pred (DevAgg A Dev.new) (fun _ _ _ e h => DevAgg.ext h e) ?_ ?_
  · intro w2 hx v5 h5 v8 h8 K hK
    simp only [Act.put, List.setIfInBounds_toArray, List.set_cons_zero, List.set_cons_succ] at hK ⊢
    obtain ⟨m, rfl, hm, hml⟩ := h5
    obtain ⟨q, rfl, hq, hql⟩ := h8
    go_simp
    exact hK _ _ (Ext.refl _) ⟨m, q, rfl, hm, hq, by rw [show Dev.new.media = List.replicate 9 Z by rw [← HZ.out]; rfl]; exact hml, hql⟩
  refine chain_pred (DevPtr A Dev.new) (fun _ _ _ e h => DevPtr.ext h e) ?_ ?_
  · intro w2 hx v9 h9 K hK
    simp only [Act.put, List.setIfInBounds_toArray, List.set_cons_zero, List.set_cons_succ] at hK ⊢
    obtain ⟨m, q, rfl, hm, hq, hml, hql⟩ := h9
    go_simp
    exact hK _ _ (Ext.alloc _ _) ⟨_, m, q, rfl, ⟨⟨.slice none 0 0, RowIs.new _ _ _, CacheIs.nil _ _ _⟩, hml.ext (Ext.alloc _ _), hql.ext (Ext.alloc _ _), Dev.ok_new, by have := HE2.out.size; have := hx.size; have := HAA.out; omega, hm, hq⟩⟩
  refine chain_pred (DevPtr A Dev.new) (fun _ _ _ e h => DevPtr.ext h e) ?_ ?_
  · intro w2 hx _ _ _ _ v2 h2 v5 h5 v8 h8 v9 h9 v10 h10 K hK
    simp only [Act.put, List.setIfInBounds_toArray, List.set_cons_zero, List.set_cons_succ] at hK ⊢
    go_simp
    exact hK _ _ (Ext.refl _) h10
  apply chain_val
  · intro w2 hx _ _ v2 h2 v5 h5 v8 h8 v9 h9 v10 h10 v11 h11 K hK
    simp only [Act.put, List.setIfInBounds_toArray, List.set_cons_zero, List.set_cons_succ] at hK ⊢
    go_simp
    exact hK _ _ (Ext.refl _) rfl
  refine chain_end fun w2 hx => ?_
  simp only [List.reverse_cons, List.reverse_nil, List.nil_append, List.cons_append, withDeps, Act.put, List.setIfInBounds_toArray, List.set_cons_zero, List.set_cons_succ]
  intro v2 h2 v5 h5 v8 h8 v9 h9 v10 h10 v11 h11
  go_wp2_with fail
  go_ret2
  exact ⟨⟨v11, rfl, by rw [HAA.out]; exact h11⟩, HE2.out.trans hx⟩
end Go.Proofs.Ytcpbpfngiimcnaa
