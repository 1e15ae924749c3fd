/- The walk of law14.MsgJoins. -/
import Derived.Test.YtemhflafiephpaaMsgAll
import Derived.Test.YtemhflafiephpaaMsgTame
import Derived.Test.YtemhflafiephpaaMsgJoin
namespace Go.Proofs.Ytemhflafiephpaa
open Go.RowKit
set_option maxRecDepth 100000 in
set_option maxHeartbeats 4000000 in
theorem msgJoins_walk (k1 d1 : Nat) (v1 : ByteArray) (k2 d2 : Nat) (v2 : ByteArray) (w : World) (s1 : k1 < 256 ∧ v1.size ≤ maxLen ∧ d1 < 18446744073709551616) (s2 : k2 < 256 ∧ v2.size ≤ maxLen ∧ d2 < 18446744073709551616) :
    Calls Try.prog 5 #[.agg #[.int .u8 (k1 : Int), .string v1, .int .u64 (d1 : Int)], .agg #[.int .u8 (k2 : Int), .string v2, .int .u64 (d2 : Int)]] w fun e w' => e = .returned (.bool true) ∧ Ext w w' := by
  go_enter Try.func5, Try.ntmps5
  go_wp2_with fail
  refine (tame_ex k1 d1 v1 _ s1.1 s1.2.1 s1.2.2).mono ?_
  rintro e w1 ⟨K1, V1, D1, rfl, t1, he1⟩
  have b0 := cell_ext (cell_new2 w _ _ _ 0) he1
  have b1 := cell_ext (cell_new2 w _ _ _ 1) he1
  have b2 := cell_ext (cell_new2 w _ _ _ 2) he1
  have he1 := (Ext.alloc _ _).trans ((Ext.alloc _ _).trans he1)
  go_wp2_with fail
  refine (of_any K1 D1 V1 _ t1.size).mono ?_
  rintro e w2 ⟨X1, hx1, hy1, rfl, he2⟩
  have T1 := t1.cut hy1
  clear t1 hy1
  unfold upV
  have b0 := fun A B => cell_ext (cell_ext (cell_ext b0 he2) (Ext.alloc _ A)) (Ext.alloc _ B)
  have b1 := fun A B => cell_ext (cell_ext (cell_ext b1 he2) (Ext.alloc _ A)) (Ext.alloc _ B)
  have b2 := fun A B => cell_ext (cell_ext (cell_ext b2 he2) (Ext.alloc _ A)) (Ext.alloc _ B)
  have he2 := he1.trans he2
  go_wp2_with fail
  refine (tame_ex k2 d2 v2 _ s2.1 s2.2.1 s2.2.2).mono ?_
  rintro e w3 ⟨K2, V2, D2, rfl, t2, he3⟩
  have a0 := cell_ext (cell_ext (World.cell?_alloc_new w2 _ _ 0) (Ext.alloc _ _)) he3
  have a1 := cell_ext (cell_ext (World.cell?_alloc_new w2 _ _ 1) (Ext.alloc _ _)) he3
  have a2 := cell_ext (cell_ext (World.cell?_alloc_new w2 _ _ 2) (Ext.alloc _ _)) he3
  have a3 := cell_ext (cell_ext (World.cell?_alloc_new w2 _ _ 3) (Ext.alloc _ _)) he3
  have m0 := cell_ext (cell_new2 w2 _ _ _ 0) he3
  have m1 := cell_ext (cell_new2 w2 _ _ _ 1) he3
  have m2 := cell_ext (cell_new2 w2 _ _ _ 2) he3
  have m3 := cell_ext (cell_new2 w2 _ _ _ 3) he3
  have he3 := (Ext.alloc _ _).trans ((Ext.alloc _ _).trans he3)
  have he3' := he2.trans he3
  go_wp2_with fail
  refine (of_any K2 D2 V2 _ t2.size).mono ?_
  rintro e w4 ⟨X2, hx2, hy2, rfl, he4⟩
  have T2 := t2.cut hy2
  clear t2 hy2
  unfold upV
  go_wp2_with fail
  obtain ⟨W, hW⟩ : ∃ W, W = ((w4.alloc (.cells #[.int .u8 (K2 : Int), .string keyK, .string X2, .int .u64 (D2 : Int)] 37)).alloc (.cells #[.int .u8 (K2 : Int), .string keyK, .string X2, .int .u64 (D2 : Int)] 39)) := ⟨_, rfl⟩
  have hEW : Ext w4 W := by rw [hW]; exact (Ext.alloc _ _).trans (Ext.alloc _ _)
  have c0 : W.cell? ⟨w4.heap.size, 0, none⟩ = (#[.int .u8 (K2 : Int), .string keyK, .string X2, .int .u64 (D2 : Int)] : Array Value)[0]? := by rw [hW]; exact cell_ext (World.cell?_alloc_new w4 _ _ 0) (Ext.alloc _ _)
  have c1 : W.cell? ⟨w4.heap.size, 1, none⟩ = (#[.int .u8 (K2 : Int), .string keyK, .string X2, .int .u64 (D2 : Int)] : Array Value)[1]? := by rw [hW]; exact cell_ext (World.cell?_alloc_new w4 _ _ 1) (Ext.alloc _ _)
  have c2 : W.cell? ⟨w4.heap.size, 2, none⟩ = (#[.int .u8 (K2 : Int), .string keyK, .string X2, .int .u64 (D2 : Int)] : Array Value)[2]? := by rw [hW]; exact cell_ext (World.cell?_alloc_new w4 _ _ 2) (Ext.alloc _ _)
  have c3 : W.cell? ⟨w4.heap.size, 3, none⟩ = (#[.int .u8 (K2 : Int), .string keyK, .string X2, .int .u64 (D2 : Int)] : Array Value)[3]? := by rw [hW]; exact cell_ext (World.cell?_alloc_new w4 _ _ 3) (Ext.alloc _ _)
  have n0 : W.cell? ⟨w4.heap.size + 1, 0, none⟩ = (#[.int .u8 (K2 : Int), .string keyK, .string X2, .int .u64 (D2 : Int)] : Array Value)[0]? := by rw [hW]; exact cell_new2 w4 _ _ _ 0
  have n1 : W.cell? ⟨w4.heap.size + 1, 1, none⟩ = (#[.int .u8 (K2 : Int), .string keyK, .string X2, .int .u64 (D2 : Int)] : Array Value)[1]? := by rw [hW]; exact cell_new2 w4 _ _ _ 1
  have n2 : W.cell? ⟨w4.heap.size + 1, 2, none⟩ = (#[.int .u8 (K2 : Int), .string keyK, .string X2, .int .u64 (D2 : Int)] : Array Value)[2]? := by rw [hW]; exact cell_new2 w4 _ _ _ 2
  have n3 : W.cell? ⟨w4.heap.size + 1, 3, none⟩ = (#[.int .u8 (K2 : Int), .string keyK, .string X2, .int .u64 (D2 : Int)] : Array Value)[3]? := by rw [hW]; exact cell_new2 w4 _ _ _ 3
  rw [← hW]
  clear hW
  have a0 := cell_ext a0 (he4.trans hEW)
  have a1 := cell_ext a1 (he4.trans hEW)
  have a2 := cell_ext a2 (he4.trans hEW)
  have a3 := cell_ext a3 (he4.trans hEW)
  have m0 := cell_ext m0 (he4.trans hEW)
  have m1 := cell_ext m1 (he4.trans hEW)
  have m2 := cell_ext m2 (he4.trans hEW)
  have m3 := cell_ext m3 (he4.trans hEW)
  have hE := he3'.trans (he4.trans hEW)
  have la : w2.heap.size < W.heap.size := World.block_lt_of_cell? _ _ a0
  have lm : w2.heap.size + 1 < W.heap.size := World.block_lt_of_cell? _ _ m0
  have lc : w4.heap.size < W.heap.size := World.block_lt_of_cell? _ _ c0
  have ln : w4.heap.size + 1 < W.heap.size := World.block_lt_of_cell? _ _ n0
  have hj := join_any K1 D1 K2 D2 keyK X1 keyK X2
  have hj2 := refjoin_any K1 D1 K2 D2 keyK X1 keyK X2
  obtain ⟨J, hJ⟩ : ∃ J, J = Msg.join ⟨K1, keyK, X1, D1⟩ ⟨K2, keyK, X2, D2⟩ := ⟨_, rfl⟩
  rw [← hJ] at hj hj2
  clear hJ
  obtain ⟨K, Y, X, D⟩ := J
  unfold upV at hj hj2
  simp only at hj hj2
  have h1 : OneEach [(37, updZ, updC ⟨K, Y, X, D⟩), (39, updZ, updC ⟨K, Y, X, D⟩)] := oneEach2 (by decide)
  have p1 : (37, updZ, updC ⟨K, Y, X, D⟩) ∈ [(37, updZ, updC ⟨K, Y, X, D⟩), (39, updZ, updC ⟨K, Y, X, D⟩)] := List.mem_cons_self
  have p2 : (39, updZ, updC ⟨K, Y, X, D⟩) ∈ [(37, updZ, updC ⟨K, Y, X, D⟩), (39, updZ, updC ⟨K, Y, X, D⟩)] := List.mem_cons_of_mem _ List.mem_cons_self
  refine RR.wp_region_drift_lit (n := 58) (Slots.rel h1 (B := W.heap.size)) (by kernel_rfl) (by kernel_rfl) (by rfl) ?_
  apply RR.chain_val (.agg #[.int .u8 (K1 : Int), .string keyK, .string X1, .int .u64 (D1 : Int)])
  · rfl
  · intro w2 hx  K hK
    simp only [Act.put, List.setIfInBounds_toArray, List.set_cons_zero, List.set_cons_succ] at hK ⊢
    have c0 := Slots.cell a0 la hx
    have c1 := Slots.cell a1 la hx
    have c2 := Slots.cell a2 la hx
    have c3 := Slots.cell a3 la hx
    go_simp
    exact hK _ _ ((Slots.rel h1).refl _) rfl
  apply RR.chain_val (.agg #[.int .u8 (K2 : Int), .string keyK, .string X2, .int .u64 (D2 : Int)])
  · rfl
  · intro w2 hx  K hK
    simp only [Act.put, List.setIfInBounds_toArray, List.set_cons_zero, List.set_cons_succ] at hK ⊢
    have c0 := Slots.cell c0 lc hx
    have c1 := Slots.cell c1 lc hx
    have c2 := Slots.cell c2 lc hx
    have c3 := Slots.cell c3 lc hx
    go_simp
    exact hK _ _ ((Slots.rel h1).refl _) rfl
  apply RR.chain_val (.agg (updC ⟨K, Y, X, D⟩))
  · rfl
  · intro w2 hx  K hK
    simp only [Act.put, List.setIfInBounds_toArray, List.set_cons_zero, List.set_cons_succ] at hK ⊢
    go_simp
    refine (hj _ T1.lt T2.lt T1.less T2.less T1.size).mono ?_
    rintro e w6 ⟨rfl, he6⟩
    exact hK _ _ (Slots.of he6) rfl
  apply RR.chain_val (.agg #[.int .u8 (K1 : Int), .string keyK, .string X1, .int .u64 (D1 : Int)])
  · rfl
  · intro w2 hx  K hK
    simp only [Act.put, List.setIfInBounds_toArray, List.set_cons_zero, List.set_cons_succ] at hK ⊢
    have c0 := Slots.cell m0 lm hx
    have c1 := Slots.cell m1 lm hx
    have c2 := Slots.cell m2 lm hx
    have c3 := Slots.cell m3 lm hx
    go_simp
    exact hK _ _ ((Slots.rel h1).refl _) rfl
  apply RR.chain_val (.agg #[.int .u8 (K2 : Int), .string keyK, .string X2, .int .u64 (D2 : Int)])
  · rfl
  · intro w2 hx  K hK
    simp only [Act.put, List.setIfInBounds_toArray, List.set_cons_zero, List.set_cons_succ] at hK ⊢
    have c0 := Slots.cell n0 ln hx
    have c1 := Slots.cell n1 ln hx
    have c2 := Slots.cell n2 ln hx
    have c3 := Slots.cell n3 ln hx
    go_simp
    exact hK _ _ ((Slots.rel h1).refl _) rfl
  apply RR.chain_val (.agg (updC ⟨K, Y, X, D⟩))
  · rfl
  · intro w2 hx  K hK
    simp only [Act.put, List.setIfInBounds_toArray, List.set_cons_zero, List.set_cons_succ] at hK ⊢
    go_simp
    refine (hj2 _ T1.kind T2.lt T2.less fun h => T2.none (by omega)).mono ?_
    rintro e w6 ⟨rfl, he6⟩
    exact hK _ _ (Slots.of he6) rfl
  refine RR.chain_pred (Fresh W.heap.size 37 updZ (updC ⟨K, Y, X, D⟩)) (fun _ _ _ e h => Fresh.kept h1 p1 h e) rfl ?_ ?_
  · intro w2 hx  K hK
    simp only [Act.put, List.setIfInBounds_toArray, List.set_cons_zero, List.set_cons_succ] at hK ⊢
    go_simp
    exact hK _ _ (Slots.of (Ext.alloc _ _)) (Fresh.new hx.size)
  refine RR.chain_pred (Fresh W.heap.size 39 updZ (updC ⟨K, Y, X, D⟩)) (fun _ _ _ e h => Fresh.kept h1 p2 h e) rfl ?_ ?_
  · intro w2 hx  K hK
    simp only [Act.put, List.setIfInBounds_toArray, List.set_cons_zero, List.set_cons_succ] at hK ⊢
    go_simp
    exact hK _ _ (Slots.of (Ext.alloc _ _)) (Fresh.new hx.size)
  refine RR.chain_store (Done W.heap.size 37 (updC ⟨K, Y, X, D⟩)) (fun _ _ _ e h => Done.kept h1 p1 h e) rfl rfl ?_ ?_
  · intro w2 hx _ _ v6 h6 v7 h7 K hK
    simp only [Act.put, List.setIfInBounds_toArray, List.set_cons_zero, List.set_cons_succ] at hK ⊢
    obtain ⟨b, rfl, hb, c, hr, hc⟩ := h6
    have hs : c.size = 4 := by rcases hc with rfl | rfl <;> rfl
    exact step_store rfl rfl rfl rfl hr (by kernel_rfl) hs (by simp [updC, Value.oneCell']) (let ⟨e, q⟩ := Slots.setRow p1 hb hr hc; hK _ e ⟨b, rfl, hb, q⟩)
  refine RR.chain_store (Done W.heap.size 39 (updC ⟨K, Y, X, D⟩)) (fun _ _ _ e h => Done.kept h1 p2 h e) rfl rfl ?_ ?_
  · intro w2 hx _ _ _ _ v6 h6 v7 h7 v8 h8 K hK
    simp only [Act.put, List.setIfInBounds_toArray, List.set_cons_zero, List.set_cons_succ] at hK ⊢
    obtain ⟨b, rfl, hb, c, hr, hc⟩ := h7
    have hs : c.size = 4 := by rcases hc with rfl | rfl <;> rfl
    exact step_store rfl rfl rfl rfl hr (by kernel_rfl) hs (by simp [updC, Value.oneCell']) (let ⟨e, q⟩ := Slots.setRow p2 hb hr hc; hK _ e ⟨b, rfl, hb, q⟩)
  refine RR.chain_end fun w2 hx => ?_
  simp only [List.reverse_cons, List.reverse_nil, List.nil_append, List.cons_append, RR.withDeps, Act.put, List.setIfInBounds_toArray, List.set_cons_zero, List.set_cons_succ]
  intro v6 h6 v7 h7 v8 h8 v9 h9
  obtain ⟨x1, rfl, hx1, r1⟩ := h8
  obtain ⟨x2, rfl, hx2, r2⟩ := h9
  have hE2 := Slots.ext hE hx (by have := hE.size; omega)
  go_wp2_with fail
  refine (wakes14 _).mono ?_
  rintro e w9 ⟨rfl, he9⟩
  have g0 := cell_ext (r1.cell 0 (.int .u8 (K : Int)) rfl) he9
  have g1 := cell_ext (r1.cell 1 (.string Y) rfl) he9
  have g2 := cell_ext (r1.cell 2 (.string X) rfl) he9
  have g3 := cell_ext (r1.cell 3 (.int .u64 (D : Int)) rfl) he9
  have f0 := cell_ext (r2.cell 0 (.int .u8 (K : Int)) rfl) he9
  have f1 := cell_ext (r2.cell 1 (.string Y) rfl) he9
  have f2 := cell_ext (r2.cell 2 (.string X) rfl) he9
  have f3 := cell_ext (r2.cell 3 (.int .u64 (D : Int)) rfl) he9
  go_wp2_with fail
  go_ret
  exact ⟨rfl, hE2.trans he9⟩
end Go.Proofs.Ytemhflafiephpaa
