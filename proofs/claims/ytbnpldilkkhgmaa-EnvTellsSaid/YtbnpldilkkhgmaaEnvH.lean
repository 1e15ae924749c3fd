/- Contracts of (env.Ptr).Meets, of (env.Ptr).Text and of env.ParsePtr. -/
import Derived.Test.YtbnpldilkkhgmaaEnvG
namespace Go.Proofs.Ytbnpldilkkhgmaa
open Go.RowKit
def pws : List Int := [4, 8, 4]
theorem own_pwidths (w : World) : Calls Try.prog 45 #[] w fun e w' => (∃ v, e = .returned v ∧ SlI .i64 3 pws v w') ∧ Ext w w' := by
  go_enter Try.func45, Try.ntmps45
  go_wp2_with fail
  go_ret
  exact ⟨⟨_, rfl, _, _, rfl, ints_new w .i64 _ pws rfl⟩, Ext.alloc _ _⟩
/-- the bytes of what is known -/
def ptrB (X g c : Nat) : List UInt8 := Lend.cat pws [X, g, c]
theorem ptrB_bytes {X g c : Nat} (hX : X < 4294967296) (hg : g < 18446744073709551616) (hc : c < 4294967296) : Lend.bytes pws [X, g, c] = some (ptrB X g c) := by
  rw [Lend.bytes_eq rfl, if_pos]
  · rfl
  · rw [Bool.and_eq_true]
    refine ⟨by decide, (Lend.fit_iff rfl).2 fun k h1 h2 => ?_⟩
    match k, h1 with
    | 0, _ => exact hX
    | 1, _ => exact hg
    | 2, _ => exact hc
theorem text_no (x : Int) (g c : Nat) (w : World) (h : Env.okAddr x = false) : Calls Try.prog 20 #[.agg #[.int .i64 x, .int .u64 (g : Int), .int .u32 (c : Int)]] w fun e w' => e = .returned (.tuple #[.string ⟨#[]⟩, .bool false]) ∧ Ext w w' := by
  have H := Lib.hid h; clear h
  go_enter Try.func20, Try.ntmps20
  go_wp2_with fail
  refine (placed_any x _).mono ?_
  rw [H.out]
  rintro e w1 ⟨rfl, he⟩
  subst he
  go_wp2_with fail
  go_ret2
  exact ⟨rfl, Ext.alloc _ _⟩
set_option maxRecDepth 100000 in
set_option maxHeartbeats 1000000 in
theorem text_yes (X g c : Nat) (w : World) (hX : X ≤ 2147483647) (hg : g < 18446744073709551616) (hc : c < 4294967296) : Calls Try.prog 20 #[.agg #[.int .i64 (X : Int), .int .u64 (g : Int), .int .u32 (c : Int)]] w fun e w' => e = .returned (.tuple #[.string ⟨(ptrB X g c).toArray⟩, .bool true]) ∧ Ext w w' := by
  have H := Lib.hid (Env.okAddr_iff.2 (show 0 ≤ (X : Int) ∧ (X : Int) ≤ 2147483647 by omega))
  have hsm : SmallN [X, g, c] := fun y hy => by
    simp at hy
    rcases hy with rfl | rfl | rfl <;> omega
  have HWR := Lib.hid (fun (v b : Value) => write_ok (v := v) (b := b) (vs := pws) (ns := [X, g, c]) (n := 3) rfl rfl (by decide) (ptrB_bytes (by omega) hg hc) hsm)
  clear hsm
  generalize (ptrB X g c) = B at *
  go_enter Try.func20, Try.ntmps20
  go_wp2_with fail
  refine (placed_any _ _).mono ?_
  rw [H.out]
  rintro e w1 ⟨rfl, he⟩
  subst he
  go_upto_region 3 with (fail)
  obtain ⟨W, hW⟩ : ∃ W, W = w.alloc (.cells #[.int .i64 (X : Int), .int .u64 (g : Int), .int .u32 (c : Int)] 32) := ⟨_, rfl⟩
  have c0 : W.cell? ⟨w.heap.size, 0, none⟩ = some (.int .i64 (X : Int)) := by rw [hW]; exact World.cell?_alloc_new _ _ _ 0
  have c1 : W.cell? ⟨w.heap.size, 1, none⟩ = some (.int .u64 (g : Int)) := by rw [hW]; exact World.cell?_alloc_new _ _ _ 1
  have c2 : W.cell? ⟨w.heap.size, 2, none⟩ = some (.int .u32 (c : Int)) := by rw [hW]; exact World.cell?_alloc_new _ _ _ 2
  have hE : Ext w W := by rw [hW]; exact Ext.alloc _ _
  rw [← hW]
  clear hW
  have hw1 : IntKind.u64.wrap (X : Int) = (X : Int) := by rw [IntKind.wrap_u64]; omega
  have hw2 : IntKind.u64.wrap (c : Int) = (c : Int) := by rw [IntKind.wrap_u64]; omega
  refine wp_region_drift_lit (n := 21) (by kernel_rfl) (by kernel_rfl) (by rfl) ?_
  refine chain_pred (SlI .i64 3 pws) (fun _ _ _ e h => SlI.ext h e) ?_ ?_
  · intro w2 hx  K hK
    simp only [Act.put, List.setIfInBounds_toArray, List.set_cons_zero, List.set_cons_succ] at hK ⊢
    go_simp
    refine (own_pwidths _).mono ?_
    rintro e w3 ⟨⟨v, rfl, hv⟩, he3⟩
    exact hK _ _ he3 hv
  apply chain_val
  · intro w2 hx  K hK
    simp only [Act.put, List.setIfInBounds_toArray, List.set_cons_zero, List.set_cons_succ] at hK ⊢
    go_simp
    exact hK _ _ (Ext.refl _) rfl
  apply chain_val (.int .i64 (X : Int))
  · intro w2 hx  K hK
    simp only [Act.put, List.setIfInBounds_toArray, List.set_cons_zero, List.set_cons_succ] at hK ⊢
    have hc := cell_ext c0 hx
    go_simp
    exact hK _ _ (Ext.refl _) rfl
  apply chain_val
  · intro w2 hx  K hK
    simp only [Act.put, List.setIfInBounds_toArray, List.set_cons_zero, List.set_cons_succ] at hK ⊢
    go_simp
    exact hK _ _ (Ext.refl _) rfl
  apply chain_val
  · intro w2 hx  K hK
    simp only [Act.put, List.setIfInBounds_toArray, List.set_cons_zero, List.set_cons_succ] at hK ⊢
    go_simp
    exact hK _ _ (Ext.refl _) rfl
  apply chain_val (.int .u64 (g : Int))
  · intro w2 hx  K hK
    simp only [Act.put, List.setIfInBounds_toArray, List.set_cons_zero, List.set_cons_succ] at hK ⊢
    have hc := cell_ext c1 hx
    go_simp
    exact hK _ _ (Ext.refl _) rfl
  apply chain_val
  · intro w2 hx  K hK
    simp only [Act.put, List.setIfInBounds_toArray, List.set_cons_zero, List.set_cons_succ] at hK ⊢
    go_simp
    exact hK _ _ (Ext.refl _) rfl
  apply chain_val (.int .u32 (c : Int))
  · intro w2 hx  K hK
    simp only [Act.put, List.setIfInBounds_toArray, List.set_cons_zero, List.set_cons_succ] at hK ⊢
    have hc := cell_ext c2 hx
    go_simp
    exact hK _ _ (Ext.refl _) rfl
  apply chain_val
  · intro w2 hx  K hK
    simp only [Act.put, List.setIfInBounds_toArray, List.set_cons_zero, List.set_cons_succ] at hK ⊢
    go_simp
    exact hK _ _ (Ext.refl _) rfl
  refine chain_pred (SlI .u64 3 ([X, g, c].map Int.ofNat)) (fun _ _ _ e h => SlI.ext h e) ?_ ?_
  · intro w2 hx  K hK
    simp only [Act.put, List.setIfInBounds_toArray, List.set_cons_zero, List.set_cons_succ] at hK ⊢
    go_simp
    exact hK _ _ (Ext.alloc _ _) ⟨_, _, rfl, ints_new _ .u64 _ ([X, g, c].map Int.ofNat) rfl⟩
  apply chain_val (.tuple #[.string ⟨B.toArray⟩, .bool true])
  · intro w2 hx _ _ v9 h9 v0 h0 K hK
    simp only [Act.put, List.setIfInBounds_toArray, List.set_cons_zero, List.set_cons_succ] at hK ⊢
    go_simp
    refine (HWR.out _ _ _ h0 h9).mono ?_
    rintro e w3 ⟨rfl, he3⟩
    exact hK _ _ he3 rfl
  apply chain_val
  · intro w2 hx  K hK
    simp only [Act.put, List.setIfInBounds_toArray, List.set_cons_zero, List.set_cons_succ] at hK ⊢
    go_simp
    exact hK _ _ (Ext.refl _) rfl
  apply chain_val
  · intro w2 hx  K hK
    simp only [Act.put, List.setIfInBounds_toArray, List.set_cons_zero, List.set_cons_succ] at hK ⊢
    go_simp
    exact hK _ _ (Ext.refl _) rfl
  apply chain_val
  · intro w2 hx v0 h0 v9 h9 K hK
    simp only [Act.put, List.setIfInBounds_toArray, List.set_cons_zero, List.set_cons_succ] at hK ⊢
    go_simp
    exact hK _ _ (Ext.refl _) rfl
  apply chain_val
  · intro w2 hx v0 h0 v9 h9 K hK
    simp only [Act.put, List.setIfInBounds_toArray, List.set_cons_zero, List.set_cons_succ] at hK ⊢
    go_simp
    exact hK _ _ (Ext.refl _) rfl
  refine chain_end fun w2 hx => ?_
  simp only [List.reverse_cons, List.reverse_nil, List.nil_append, List.cons_append, withDeps, Act.put, List.setIfInBounds_toArray, List.set_cons_zero, List.set_cons_succ]
  intro v0 h0 v9 h9
  go_wp2_with fail
  go_ret2
  exact ⟨rfl, hE.trans hx⟩
end Go.Proofs.Ytbnpldilkkhgmaa
