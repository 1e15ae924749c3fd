/- Contracts of msg.Join and of the reference's Join. -/
import Derived.Test.YtemhflafiephpaaMsgOn
import Derived.Test.YtemhflafiephpaaBoxes
namespace Go.Proofs.Ytemhflafiephpaa
open Go.RowKit
theorem Ext.alloc3 (w : World) (o p q : Obj) : Ext w (((w.alloc o).alloc p).alloc q) := (Ext.alloc _ _).trans ((Ext.alloc _ _).trans (Ext.alloc _ _))
set_option maxHeartbeats 1000000 in
theorem join_any (k1 d1 k2 d2 : Nat) (y1 v1 y2 v2 : ByteArray) (w : World) (hk1 : k1 < 256) (hk2 : k2 < 256) (hd1 : d1 < 18446744073709551616) (hd2 : d2 < 18446744073709551616) (hv1 : v1.size ≤ maxLen) :
    Calls Try.prog 23 #[.agg #[.int .u8 (k1 : Int), .string y1, .string v1, .int .u64 (d1 : Int)], .agg #[.int .u8 (k2 : Int), .string y2, .string v2, .int .u64 (d2 : Int)]] w fun e w' =>
      e = .returned (upV (Msg.join ⟨k1, y1, v1, d1⟩ ⟨k2, y2, v2, d2⟩)) ∧ Ext w w' := by
  by_cases h3 : k2 = 3
  · subst h3
    by_cases h1 : k1 = 3
    · subst h1
      have hj : Msg.join ⟨3, y1, v1, d1⟩ ⟨3, y2, v2, d2⟩ = ⟨3, y2, v2, (d2 + d1) % 18446744073709551616⟩ := rfl
      rw [hj]
      have hw := wrap_add d2 d1
      generalize (d2 + d1) % 18446744073709551616 = N at *
      clear hj
      go_enter Try.func23, Try.ntmps23
      go_wp2_with fail
      (try simp only [Exit.inBlock, Exit.then])
      refine bodyPost_ret (results_cell_row Try.results23 _ _ (w.heap.size + 1 + 1) 37 _ (0, 0) _ rfl (RowIs.new3 _ _ _ _ _) Try.underlying37 rfl (by kernel_rfl)) rfl ?_
      exact ⟨rfl, Ext.alloc3 _ _ _ _⟩
    · have hj : Msg.join ⟨k1, y1, v1, d1⟩ ⟨3, y2, v2, d2⟩ = ⟨1, y2, (Msg.on (Msg.on (ByteArray.empty, false) ⟨k1, y1, v1, d1⟩) ⟨3, y2, v2, d2⟩).1, 0⟩ := by
        unfold Msg.join; rw [if_neg (by simp), if_neg h1]
      rw [hj]
      clear hj
      have q1 : ((k1 : Int) == 3) = false := beq_eq_false_iff_ne.2 (by omega)
      have hsz := Msg.on_size (ByteArray.empty, false) ⟨k1, y1, v1, d1⟩ maxLen (by decide) (Nat.zero_le _) hv1
      obtain ⟨S, b, hP⟩ : ∃ S b, Msg.on (ByteArray.empty, false) ⟨k1, y1, v1, d1⟩ = (S, b) := ⟨_, _, rfl⟩
      rw [hP] at hsz ⊢
      have HP := Lib.hid hP; clear hP
      obtain ⟨S2, b2, hP2⟩ : ∃ S2 b2, Msg.on (S, b) ⟨3, y2, v2, d2⟩ = (S2, b2) := ⟨_, _, rfl⟩
      rw [hP2]
      have HP2 := Lib.hid hP2; clear hP2
      go_enter Try.func23, Try.ntmps23
      go_wp2_with fail
      refine (on_any ⟨#[]⟩ y1 v1 false k1 d1 _ hk1 (by decide) hd1).mono ?_
      rw [show Msg.on (⟨#[]⟩, false) ⟨k1, y1, v1, d1⟩ = _ from HP.out]
      unfold pairV
      rintro e w1 ⟨rfl, he1⟩
      have c10 := cell_ext (cell_ext (cell_new2 w _ _ _ 0) (Ext.alloc _ _)) he1
      have c11 := cell_ext (cell_ext (cell_new2 w _ _ _ 1) (Ext.alloc _ _)) he1
      have c12 := cell_ext (cell_ext (cell_new2 w _ _ _ 2) (Ext.alloc _ _)) he1
      have c13 := cell_ext (cell_ext (cell_new2 w _ _ _ 3) (Ext.alloc _ _)) he1
      have r4 := (RowIs.new3 w _ _ _ _).ext he1
      have he1 := (Ext.alloc3 w _ _ _).trans he1
      go_wp2_with fail
      refine (on_any S y2 v2 b 3 d2 _ (by decide) hsz hd2).mono ?_
      rw [HP2.out]
      unfold pairV
      rintro e w2 ⟨rfl, he2⟩
      have c11 := cell_ext c11 he2
      have R4 := Lib.hid (r4.ext he2)
      clear r4
      go_wp2_with (refine wpl_row rfl rfl rfl rfl R4.out (by kernel_rfl) rfl (by simp [Value.oneCell']) ?_; intro w3 hw3 hr3; have HW3 := Lib.hid hw3; have HR3 := Lib.hid hr3; clear hw3 hr3)
      (try simp only [Exit.inBlock, Exit.then])
      refine bodyPost_ret (results_cell_row Try.results23 _ _ (w.heap.size + 1 + 1) 37 _ (0, 0) _ rfl HR3.out Try.underlying37 rfl (by kernel_rfl)) rfl ?_
      exact ⟨rfl, HW3.out.ext (he1.trans he2) (by omega)⟩
  · have hj : Msg.join ⟨k1, y1, v1, d1⟩ ⟨k2, y2, v2, d2⟩ = ⟨k2, y2, v2, d2⟩ := by unfold Msg.join; rw [if_pos h3]
    rw [hj]
    have q1 : ((k2 : Int) != 3) = true := by simp; omega
    clear hj
    go_enter Try.func23, Try.ntmps23
    go_wp2_with fail
    (try simp only [Exit.inBlock, Exit.then])
    refine bodyPost_ret (results_cell_row Try.results23 _ _ (w.heap.size + 1 + 1) 37 _ (0, 0) _ rfl (RowIs.new3 _ _ _ _ _) Try.underlying37 rfl (by kernel_rfl)) rfl ?_
    exact ⟨rfl, Ext.alloc3 _ _ _ _⟩
theorem Ext.alloc4 (w : World) (o p q r : Obj) : Ext w ((((w.alloc o).alloc p).alloc q).alloc r) := (Ext.alloc _ _).trans (Ext.alloc3 _ _ _ _)
set_option maxRecDepth 100000 in
set_option maxHeartbeats 1000000 in
theorem refjoin_any (k1 d1 k2 d2 : Nat) (y1 v1 y2 v2 : ByteArray) (w : World) (hk : k1 = 1 ∨ k1 = 2 ∨ k1 = 3) (hk2 : k2 < 256) (hd2 : d2 < 18446744073709551616) (hv2 : k2 = 3 → v2 = ByteArray.empty) :
    Calls Try.prog 24 #[.agg #[.int .u8 (k1 : Int), .string y1, .string v1, .int .u64 (d1 : Int)], .agg #[.int .u8 (k2 : Int), .string y2, .string v2, .int .u64 (d2 : Int)]] w fun e w' =>
      e = .returned (upV (Msg.join ⟨k1, y1, v1, d1⟩ ⟨k2, y2, v2, d2⟩)) ∧ Ext w w' := by
  by_cases h3 : k2 = 3
  · subst h3
    obtain rfl := hv2 rfl
    rcases hk with rfl | rfl | rfl
    · have hj : Msg.join ⟨1, y1, v1, d1⟩ ⟨3, y2, ByteArray.empty, d2⟩ = ⟨1, y2, (Msg.on (v1, true) ⟨3, y2, ByteArray.empty, d2⟩).1, 0⟩ := by
        unfold Msg.join; rw [if_neg (by simp), if_neg (by simp), Msg.on_put (ByteArray.empty, false) ⟨1, y1, v1, d1⟩ rfl]
      rw [hj]
      clear hj
      by_cases h8 : v1.size = 8
      · rw [Msg.on_add_num _ _ rfl h8]
        have hq : ((v1.size : Int) == 8) = true := by rw [h8]; rfl
        have hq2 : ((v1.size : Int) != 8) = false := by rw [h8]; rfl
        have hM := Lib.hid (show Crc.le v1.data.toList = Msg.num v1 from rfl)
        have hw := wrap_add (Msg.num v1) d2
        have hl := Nat.mod_lt (Msg.num v1 + d2) (show 0 < 18446744073709551616 by decide)
        simp only
        generalize (Msg.num v1 + d2) % 18446744073709551616 = N at *
        generalize Msg.num v1 = M at *
        go_enter Try.func24, Try.ntmps24
        go_wp2_with fail
        refine (get_any v1 _ (by omega)).mono ?_
        rintro e w1 ⟨rfl, he⟩
        subst he
        rw [hM.out]
        go_wp2_with fail
        refine (put8_any N _ hl).mono ?_
        rintro e w1 ⟨rfl, he1⟩
        have r5 := (RowIs.new4 w _ _ _ _ _).ext he1
        have r4 := ((RowIs.new3 w _ _ _ _).ext (Ext.alloc _ _)).ext he1
        have c10 := cell_ext (cell_ext (cell_ext (cell_ext (World.cell?_alloc_new w _ _ 0) (Ext.alloc _ _)) (Ext.alloc _ _)) (Ext.alloc _ _)) he1
        have c12 := cell_ext (cell_ext (cell_ext (cell_ext (World.cell?_alloc_new w _ _ 2) (Ext.alloc _ _)) (Ext.alloc _ _)) (Ext.alloc _ _)) he1
        have he1 := (Ext.alloc4 w _ _ _ _).trans he1
        have c50 := r5.cell 0 _ rfl
        have c51 := r5.cell 1 _ rfl
        have c52 := r5.cell 2 _ rfl
        have c53 := r5.cell 3 _ rfl
        have f52 := r5.free 2
        have hW := Wrote.setCell r5 2 (.string (Msg.val N))
        have R4 := Lib.hid (hW.row r4 (by omega))
        have hE := Lib.hid (hW.ext he1 (by omega))
        clear r4 r5 hW
        go_wp2_with (refine wpl_row rfl rfl rfl rfl R4.out (by kernel_rfl) rfl (by simp [Value.oneCell']) ?_; intro w3 hw3 hr3; have HW3 := Lib.hid hw3; have HR3 := Lib.hid hr3; clear hw3 hr3)
        (try simp only [Exit.inBlock, Exit.then])
        refine bodyPost_ret (results_cell_row Try.results24 _ _ (w.heap.size + 1 + 1) 39 _ (0, 0) _ rfl HR3.out Try.underlying39 rfl (by kernel_rfl)) rfl ?_
        exact ⟨rfl, HW3.out.ext hE.out (by omega)⟩
      · rw [Msg.on_add_text _ _ rfl h8]
        have hq : ((v1.size : Int) == 8) = false := by simp; omega
        have hq2 : ((v1.size : Int) != 8) = true := by simp; omega
        go_enter Try.func24, Try.ntmps24
        go_wp2_with fail
        (try simp only [Exit.inBlock, Exit.then])
        refine bodyPost_ret (results_cell_row Try.results24 _ _ (w.heap.size + 1 + 1) 39 _ (0, 0) _ rfl ((RowIs.new3 _ _ _ _ _).ext (Ext.alloc _ _)) Try.underlying39 rfl (by kernel_rfl)) rfl ?_
        exact ⟨rfl, Ext.alloc4 _ _ _ _ _⟩
    · have hj : Msg.join ⟨2, y1, v1, d1⟩ ⟨3, y2, ByteArray.empty, d2⟩ = ⟨1, y2, Msg.val d2, 0⟩ := by
        unfold Msg.join; rw [if_neg (by simp), if_neg (by simp), Msg.on_del (ByteArray.empty, false) ⟨2, y1, v1, d1⟩ rfl, Msg.on_add_new _ _ rfl]
      rw [hj]
      clear hj
      go_enter Try.func24, Try.ntmps24
      go_wp2_with fail
      refine (put8_any d2 _ hd2).mono ?_
      rintro e w1 ⟨rfl, he1⟩
      have r5 := (RowIs.new4 w _ _ _ _ _).ext he1
      have r4 := ((RowIs.new3 w _ _ _ _).ext (Ext.alloc _ _)).ext he1
      have c10 := cell_ext (cell_ext (cell_ext (cell_ext (World.cell?_alloc_new w _ _ 0) (Ext.alloc _ _)) (Ext.alloc _ _)) (Ext.alloc _ _)) he1
      have c12 := cell_ext (cell_ext (cell_ext (cell_ext (World.cell?_alloc_new w _ _ 2) (Ext.alloc _ _)) (Ext.alloc _ _)) (Ext.alloc _ _)) he1
      have he1 := (Ext.alloc4 w _ _ _ _).trans he1
      have c50 := r5.cell 0 _ rfl
      have c51 := r5.cell 1 _ rfl
      have c52 := r5.cell 2 _ rfl
      have c53 := r5.cell 3 _ rfl
      have f52 := r5.free 2
      have hW := Wrote.setCell r5 2 (.string (Msg.val d2))
      have R4 := Lib.hid (hW.row r4 (by omega))
      have hE := Lib.hid (hW.ext he1 (by omega))
      clear r4 r5 hW
      go_wp2_with (refine wpl_row rfl rfl rfl rfl R4.out (by kernel_rfl) rfl (by simp [Value.oneCell']) ?_; intro w3 hw3 hr3; have HW3 := Lib.hid hw3; have HR3 := Lib.hid hr3; clear hw3 hr3)
      (try simp only [Exit.inBlock, Exit.then])
      refine bodyPost_ret (results_cell_row Try.results24 _ _ (w.heap.size + 1 + 1) 39 _ (0, 0) _ rfl HR3.out Try.underlying39 rfl (by kernel_rfl)) rfl ?_
      exact ⟨rfl, HW3.out.ext hE.out (by omega)⟩
    · have hj : Msg.join ⟨3, y1, v1, d1⟩ ⟨3, y2, ByteArray.empty, d2⟩ = ⟨3, y2, ByteArray.empty, (d1 + d2) % 18446744073709551616⟩ := by
        unfold Msg.join; rw [if_neg (by simp), if_pos rfl]; simp only [Nat.add_comm]
      rw [hj]
      clear hj
      have hw := wrap_add d1 d2
      generalize (d1 + d2) % 18446744073709551616 = N at *
      go_enter Try.func24, Try.ntmps24
      go_wp2_with fail
      (try simp only [Exit.inBlock, Exit.then])
      refine bodyPost_ret (results_cell_row Try.results24 _ _ (w.heap.size + 1 + 1) 39 _ (0, 0) _ rfl ((RowIs.new3 _ _ _ _ _).ext (Ext.alloc _ _)) Try.underlying39 rfl (by kernel_rfl)) rfl ?_
      exact ⟨rfl, Ext.alloc4 _ _ _ _ _⟩
  · have hj : Msg.join ⟨k1, y1, v1, d1⟩ ⟨k2, y2, v2, d2⟩ = ⟨k2, y2, v2, d2⟩ := by unfold Msg.join; rw [if_pos h3]
    rw [hj]
    have q1 : ((k2 : Int) != 3) = true := by simp; omega
    clear hj
    go_enter Try.func24, Try.ntmps24
    go_wp2_with fail
    (try simp only [Exit.inBlock, Exit.then])
    refine bodyPost_ret (results_cell_row Try.results24 _ _ (w.heap.size + 1 + 1) 39 _ (0, 0) _ rfl (RowIs.new3 _ _ _ _ _) Try.underlying39 rfl (by kernel_rfl)) rfl ?_
    exact ⟨rfl, Ext.alloc3 _ _ _ _⟩
end Go.Proofs.Ytemhflafiephpaa
