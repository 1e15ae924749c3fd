/- Contract of env.bare. -/
import Derived.Test.YtbnpldilkkhgmaaEnvB
namespace Go.Proofs.Ytbnpldilkkhgmaa
open Go.RowKit
/-- an image, as a text -/
def imgT (size : Nat) (h : Env.Hd) (p : ByteArray) (c : Nat) : ByteArray := ⟨(Env.img size h p.data.toList c).toArray⟩
theorem imgT_size {size : Nat} {h : Env.Hd} {p : ByteArray} {c : Nat} (hs : 24 + p.size ≤ size) : (imgT size h p c).size = size := by
  show (Env.img size h p.data.toList c).toArray.size = size
  rw [List.size_toArray]; exact Env.img_length (by simpa using hs)
theorem imgT_list (size : Nat) (h : Env.Hd) (p : ByteArray) (c : Nat) : (imgT size h p c).data.toList = Env.img size h p.data.toList c := rfl
set_option maxRecDepth 100000 in
set_option maxHeartbeats 2000000 in
theorem bare_any (size k X g : Nat) (p : ByteArray) (w : World) (hk : k < 256) (hX : X < 4294967296) (hg : g < 18446744073709551616) (hs : 24 + p.size ≤ size) (hs2 : size ≤ 65535) :
    Calls Try.prog 35 #[.int .i64 (size : Int), .agg #[.int .u8 (k : Int), .int .i64 (X : Int), .int .u64 (g : Int)], .string p] w fun e w' => e = .returned (.string (imgT size ⟨k, X, g⟩ p 0)) ∧ Ext w w' := by
  have hb := Env.bytes_ok (h := ⟨k, X, g⟩) (n := p.size) hk (by omega) hX hg
  have hl16 := Env.cat_len ⟨k, X, g⟩ p.size
  have hsm : SmallN (Env.nums ⟨k, X, g⟩ p.size) := fun y hy => by
    simp [Env.nums] at hy
    rcases hy with rfl | rfl | rfl | rfl | rfl <;> omega
  have hwr := fun (v b : Value) => write_ok (v := v) (b := b) (vs := Env.ws) (ns := Env.nums ⟨k, X, g⟩ p.size) (n := 5) rfl rfl (by decide) hb hsm
  have e : imgT size ⟨k, X, g⟩ p 0 = ((((⟨#[84, 82, 78, 76]⟩ : ByteArray) ++ ⟨(Lend.cat Env.ws (Env.nums ⟨k, X, g⟩ p.size)).toArray⟩) ++ ⟨(List.replicate 4 0).toArray⟩) ++ p) ++ ⟨(List.replicate (size - 24 - p.size) 0).toArray⟩ := bytes_ext (by
    simp only [imgT_list, ByteArray.data_append, Array.toList_append, Env.img]
    rw [show p.data.toList.length = p.size by simp]
    rfl)
  rw [e]
  clear e
  obtain ⟨B, hB⟩ : ∃ B : ByteArray, ⟨(Lend.cat Env.ws (Env.nums ⟨k, X, g⟩ p.size)).toArray⟩ = B := ⟨_, rfl⟩
  have hB1 : B.size = 16 := by rw [← hB]; show (Lend.cat _ _).toArray.size = 16; rw [List.size_toArray, hl16]
  rw [hB] at hwr ⊢
  clear hB hb hl16
  have HWR := Lib.hid hwr; clear hwr hsm
  obtain ⟨Z, hZ⟩ : ∃ Z : ByteArray, ⟨(List.replicate 4 0).toArray⟩ = Z := ⟨_, rfl⟩
  have hZ1 : Z.size = 4 := by rw [← hZ]; rfl
  rw [hZ]
  have HZ := Lib.hid hZ; clear hZ
  obtain ⟨R, hR0⟩ : ∃ R : ByteArray, ⟨(List.replicate (size - 24 - p.size) 0).toArray⟩ = R := ⟨_, rfl⟩
  have hR : R.size = size - 24 - p.size := by
    rw [← hR0]
    show (List.replicate (size - 24 - p.size) (0 : UInt8)).toArray.size = _
    simp
  rw [hR0]
  have HR := Lib.hid hR0; clear hR0
  go_enter Try.func35, Try.ntmps35
  go_wp2_with fail
  obtain ⟨W, hW⟩ : ∃ W, W = w.alloc (.cells #[.int .u8 (k : Int), .int .i64 (X : Int), .int .u64 (g : Int)] 38) := ⟨_, rfl⟩
  have c0 : W.cell? ⟨w.heap.size, 0, none⟩ = some (.int .u8 (k : Int)) := by rw [hW]; exact World.cell?_alloc_new _ _ _ 0
  have c1 : W.cell? ⟨w.heap.size, 1, none⟩ = some (.int .i64 (X : Int)) := by rw [hW]; exact World.cell?_alloc_new _ _ _ 1
  have c2 : W.cell? ⟨w.heap.size, 2, none⟩ = some (.int .u64 (g : Int)) := by rw [hW]; exact World.cell?_alloc_new _ _ _ 2
  have hE : Ext w W := by rw [hW]; exact Ext.alloc _ _
  rw [← hW]
  clear hW
  have hw1 : IntKind.u64.wrap (k : Int) = (k : Int) := by rw [IntKind.wrap_u64]; omega
  have hw2 : IntKind.u64.wrap (p.size : Int) = (p.size : Int) := by rw [IntKind.wrap_u64]; omega
  have hw3 : IntKind.u64.wrap (X : Int) = (X : Int) := by rw [IntKind.wrap_u64]; omega
  refine wp_region_drift_lit (n := 39) (by kernel_rfl) (by kernel_rfl) (by rfl) ?_
  refine chain_pred (SlI .i64 5 Env.ws) (fun _ _ _ e h => SlI.ext h e) ?_ ?_
  · intro w2 hx  K hK
    simp only [Act.put, List.setIfInBounds_toArray, List.set_cons_zero, List.set_cons_succ] at hK ⊢
    go_simp
    refine (widths_any _).mono ?_
    rintro e w3 ⟨⟨v, rfl, hv⟩, he3⟩
    exact hK _ _ he3 hv
  apply chain_val
  · intro w2 hx  K hK
    simp only [Act.put, List.setIfInBounds_toArray, List.set_cons_zero, List.set_cons_succ] at hK ⊢
    go_simp
    exact hK _ _ (Ext.refl _) rfl
  apply chain_val (.int .u8 (k : Int))
  · intro w2 hx  K hK
    simp only [Act.put, List.setIfInBounds_toArray, List.set_cons_zero, List.set_cons_succ] at hK ⊢
    have hc := cell_ext c0 hx
    go_simp
    exact hK _ _ (Ext.refl _) rfl
  apply chain_val
  · intro w2 hx  K hK
    simp only [Act.put, List.setIfInBounds_toArray, List.set_cons_zero, List.set_cons_succ] at hK ⊢
    go_simp
    exact hK _ _ (Ext.refl _) rfl
  apply chain_val
  · intro w2 hx  K hK
    simp only [Act.put, List.setIfInBounds_toArray, List.set_cons_zero, List.set_cons_succ] at hK ⊢
    go_simp
    exact hK _ _ (Ext.refl _) rfl
  apply chain_val
  · intro w2 hx  K hK
    simp only [Act.put, List.setIfInBounds_toArray, List.set_cons_zero, List.set_cons_succ] at hK ⊢
    go_simp
    exact hK _ _ (Ext.refl _) rfl
  apply chain_val
  · intro w2 hx  K hK
    simp only [Act.put, List.setIfInBounds_toArray, List.set_cons_zero, List.set_cons_succ] at hK ⊢
    go_simp
    exact hK _ _ (Ext.refl _) rfl
  apply chain_val
  · intro w2 hx  K hK
    simp only [Act.put, List.setIfInBounds_toArray, List.set_cons_zero, List.set_cons_succ] at hK ⊢
    go_simp
    exact hK _ _ (Ext.refl _) rfl
  apply chain_val (.int .i64 (X : Int))
  · intro w2 hx  K hK
    simp only [Act.put, List.setIfInBounds_toArray, List.set_cons_zero, List.set_cons_succ] at hK ⊢
    have hc := cell_ext c1 hx
    go_simp
    exact hK _ _ (Ext.refl _) rfl
  apply chain_val
  · intro w2 hx  K hK
    simp only [Act.put, List.setIfInBounds_toArray, List.set_cons_zero, List.set_cons_succ] at hK ⊢
    go_simp
    exact hK _ _ (Ext.refl _) rfl
  apply chain_val
  · intro w2 hx  K hK
    simp only [Act.put, List.setIfInBounds_toArray, List.set_cons_zero, List.set_cons_succ] at hK ⊢
    go_simp
    exact hK _ _ (Ext.refl _) rfl
  apply chain_val (.int .u64 (g : Int))
  · intro w2 hx  K hK
    simp only [Act.put, List.setIfInBounds_toArray, List.set_cons_zero, List.set_cons_succ] at hK ⊢
    have hc := cell_ext c2 hx
    go_simp
    exact hK _ _ (Ext.refl _) rfl
  refine chain_pred (SlI .u64 5 ((Env.nums ⟨k, X, g⟩ p.size).map Int.ofNat)) (fun _ _ _ e h => SlI.ext h e) ?_ ?_
  · intro w2 hx  K hK
    simp only [Act.put, List.setIfInBounds_toArray, List.set_cons_zero, List.set_cons_succ] at hK ⊢
    go_simp
    exact hK _ _ (Ext.alloc _ _) ⟨_, _, rfl, ints_new _ .u64 _ ((Env.nums ⟨k, X, g⟩ p.size).map Int.ofNat) rfl⟩
  apply chain_val (.tuple #[.string B, .bool true])
  · intro w2 hx _ _ v12 h12 v0 h0 K hK
    simp only [Act.put, List.setIfInBounds_toArray, List.set_cons_zero, List.set_cons_succ] at hK ⊢
    go_simp
    refine (HWR.out _ _ _ h0 h12).mono ?_
    rintro e w3 ⟨rfl, he3⟩
    exact hK _ _ he3 rfl
  apply chain_val
  · intro w2 hx  K hK
    simp only [Act.put, List.setIfInBounds_toArray, List.set_cons_zero, List.set_cons_succ] at hK ⊢
    go_simp
    exact hK _ _ (Ext.refl _) rfl
  apply chain_val
  · intro w2 hx  K hK
    simp only [Act.put, List.setIfInBounds_toArray, List.set_cons_zero, List.set_cons_succ] at hK ⊢
    go_simp
    exact hK _ _ (Ext.refl _) rfl
  apply chain_val
  · intro w2 hx  K hK
    simp only [Act.put, List.setIfInBounds_toArray, List.set_cons_zero, List.set_cons_succ] at hK ⊢
    go_simp
    exact hK _ _ (Ext.refl _) rfl
  apply chain_val
  · intro w2 hx v0 h0 v12 h12 K hK
    simp only [Act.put, List.setIfInBounds_toArray, List.set_cons_zero, List.set_cons_succ] at hK ⊢
    go_simp
    exact hK _ _ (Ext.refl _) rfl
  apply chain_val
  · intro w2 hx v0 h0 v12 h12 K hK
    simp only [Act.put, List.setIfInBounds_toArray, List.set_cons_zero, List.set_cons_succ] at hK ⊢
    go_simp
    exact hK _ _ (Ext.refl _) rfl
  refine chain_end fun w2 hx => ?_
  simp only [List.reverse_cons, List.reverse_nil, List.nil_append, List.cons_append, withDeps, Act.put, List.setIfInBounds_toArray, List.set_cons_zero, List.set_cons_succ]
  intro v0 h0 v12 h12
  clear hw1 hw2 hw3 c0 c1 c2 HWR
  have hMB : ((⟨#[84, 82, 78, 76]⟩ : ByteArray) ++ B).size = 20 := by rw [ByteArray.size_append]; show 4 + B.size = 20; omega
  have hMBZ : ((⟨#[84, 82, 78, 76]⟩ : ByteArray) ++ B ++ Z).size = 24 := by rw [ByteArray.size_append]; omega
  have hMBP : ((⟨#[84, 82, 78, 76]⟩ : ByteArray) ++ B ++ Z ++ p).size = 24 + p.size := by rw [ByteArray.size_append]; omega
  go_wp2_with fail
  refine (repeat_any 4 _ (by decide)).mono ?_
  rw [HZ.out]
  rintro e w3 ⟨rfl, he3⟩
  go_wp2_with fail
  rw [show (size : Int) - (24 + (p.size : Int)) = ((size - 24 - p.size : Nat) : Int) by omega]
  refine (repeat_any (size - 24 - p.size) _ (by omega)).mono ?_
  rw [HR.out]
  rintro e w4 ⟨rfl, he4⟩
  have hq : ¬ 9223372036854775807 < 24 + p.size + R.size := by omega
  go_wp2_with fail
  go_ret
  exact ⟨rfl, hE.trans (hx.trans (he3.trans he4))⟩
end Go.Proofs.Ytbnpldilkkhgmaa
