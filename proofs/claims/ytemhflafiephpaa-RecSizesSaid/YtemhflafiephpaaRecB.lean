/- Contracts of the reference's Check and of (rec.Update).bytes, Size. -/
import Derived.Test.YtemhflafiephpaaRecA
namespace Go.Proofs.Ytemhflafiephpaa
open Go.RowKit
set_option maxRecDepth 100000 in
set_option maxHeartbeats 2000000 in
theorem refcheck_any (k d : Nat) (y v : ByteArray) (w : World) (hk : k < 256) (hd : d < 18446744073709551616) (hy : y.size ≤ maxLen) (hv : v.size ≤ maxLen) :
    Calls Try.prog 44 #[.agg #[.int .u8 (k : Int), .string y, .string v, .int .u64 (d : Int)]] w fun e w' => e = .returned (.int .i64 (Rec.check ⟨k, y, v, d⟩ : Nat)) ∧ Ext w w' := by
  unfold maxLen at hy hv
  by_cases hl : y.size < 1 ∨ 16 < y.size ∨ 32 < v.size
  · rw [Rec.check_large hl]
    by_cases h1 : y.size < 1
    · have n1 : decide ((y.size : Int) < 1) = true := decide_eq_true (by omega)
      go_enter Try.func44, Try.ntmps44
      go_wp2_with fail
      go_ret
      exact ⟨rfl, Ext.alloc _ _⟩
    · have n1 : decide ((y.size : Int) < 1) = false := decide_eq_false (by omega)
      by_cases h2 : 16 < y.size
      · have q2 : decide ((16 : Int) < (y.size : Int)) = true := decide_eq_true (by omega)
        go_enter Try.func44, Try.ntmps44
        go_wp2_with fail
        go_ret
        exact ⟨rfl, Ext.alloc _ _⟩
      · have q2 : decide ((16 : Int) < (y.size : Int)) = false := decide_eq_false (by omega)
        have q3 : decide ((32 : Int) < (v.size : Int)) = true := decide_eq_true (by omega)
        go_enter Try.func44, Try.ntmps44
        go_wp2_with fail
        go_ret
        exact ⟨rfl, Ext.alloc _ _⟩
  · have n1 : decide ((y.size : Int) < 1) = false := decide_eq_false (by omega)
    have q2 : decide ((16 : Int) < (y.size : Int)) = false := decide_eq_false (by omega)
    have q3 : decide ((32 : Int) < (v.size : Int)) = false := decide_eq_false (by omega)
    by_cases ha : k < 1 ∨ 3 < k ∨ (k ≠ 1 ∧ v.size ≠ 0) ∨ (k ≠ 3 ∧ d ≠ 0)
    · rw [Rec.check_arg hl ha]
      by_cases h1 : k < 1
      · obtain rfl : k = 0 := by omega
        go_enter Try.func44, Try.ntmps44
        go_wp2_with fail
        go_ret
        exact ⟨rfl, Ext.alloc _ _⟩
      · have p1 : decide ((k : Int) < 1) = false := decide_eq_false (by omega)
        by_cases h3 : 3 < k
        · have p3 : decide ((3 : Int) < (k : Int)) = true := decide_eq_true (by omega)
          go_enter Try.func44, Try.ntmps44
          go_wp2_with fail
          go_ret
          exact ⟨rfl, Ext.alloc _ _⟩
        · have hk3 : k = 1 ∨ k = 2 ∨ k = 3 := by omega
          clear p1 h1 h3
          by_cases hv0 : v.size = 0
          · obtain ⟨m1, m2⟩ := isEmpty_of_zero hv0
            have hd0 : ((d : Int) != 0) = true := by simp; omega
            rcases hk3 with rfl | rfl | rfl
            all_goals first | (exfalso; omega) | skip
            all_goals
              go_enter Try.func44, Try.ntmps44
              go_wp2_with fail
              go_ret
              exact ⟨rfl, Ext.alloc _ _⟩
          · obtain ⟨m1, m2⟩ := isEmpty_of_pos (s := v) (by omega)
            by_cases hd0 : d = 0
            · subst hd0
              rcases hk3 with rfl | rfl | rfl
              all_goals first | (exfalso; omega) | skip
              all_goals
                go_enter Try.func44, Try.ntmps44
                go_wp2_with fail
                go_ret
                exact ⟨rfl, Ext.alloc _ _⟩
            · have hd1 : ((d : Int) != 0) = true := by simp; omega
              rcases hk3 with rfl | rfl | rfl
              all_goals first | (exfalso; omega) | skip
              all_goals
                go_enter Try.func44, Try.ntmps44
                go_wp2_with fail
                go_ret
                exact ⟨rfl, Ext.alloc _ _⟩
    · rw [Rec.check_ok hl ha]
      have hk3 : k = 1 ∨ k = 2 ∨ k = 3 := by omega
      by_cases hv0 : v.size = 0
      · obtain ⟨m1, m2⟩ := isEmpty_of_zero hv0
        by_cases hd0 : d = 0
        · subst hd0
          rcases hk3 with rfl | rfl | rfl
          all_goals
            go_enter Try.func44, Try.ntmps44
            go_wp2_with fail
            go_ret
            exact ⟨rfl, Ext.alloc _ _⟩
        · obtain rfl : k = 3 := by omega
          go_enter Try.func44, Try.ntmps44
          go_wp2_with fail
          go_ret
          exact ⟨rfl, Ext.alloc _ _⟩
      · obtain ⟨m1, m2⟩ := isEmpty_of_pos (s := v) (by omega)
        obtain rfl : k = 1 := by omega
        obtain rfl : d = 0 := by omega
        go_enter Try.func44, Try.ntmps44
        go_wp2_with fail
        go_ret
        exact ⟨rfl, Ext.alloc _ _⟩
theorem write8_at (n : Nat) (T U : TypeId) (c d : Nat) (w : World) (hn : n < 18446744073709551616) {z y : Nat} (hz : w.heap.size = z) (hy : w.heap.size + 1 = y) : Calls Try.prog 43 #[.slice (some ⟨z, 0, none⟩) 1 c, .slice (some ⟨y, 0, none⟩) 1 d] ((w.alloc (.cells #[.int .i64 8] T)).alloc (.cells #[.int .u64 (n : Int)] U)) fun e w' =>
    e = .returned (.tuple #[.string (Msg.val n), .bool true]) ∧ Ext w w' := by
  subst hz hy; exact write8_new n T U c d w hn
theorem check_zero {k d : Nat} {y v : ByteArray} (h : Rec.check ⟨k, y, v, d⟩ = 0) : (1 ≤ y.size ∧ y.size ≤ 16 ∧ v.size ≤ 32) ∧ (k = 1 ∨ k = 2 ∨ k = 3) ∧ (k ≠ 1 → v.size = 0) ∧ (k ≠ 3 → d = 0) := by
  unfold Rec.check at h
  split at h
  · cases h
  · split at h
    · cases h
    · rename_i h1 h2
      simp only at h1 h2
      omega
set_option maxRecDepth 100000 in
set_option maxHeartbeats 2000000 in
theorem bytes_any (k d : Nat) (y v : ByteArray) (w : World) (hd : d < 18446744073709551616) (hy : y.size ≤ 16) (hv : v.size ≤ 32) (hk : k = 1 ∨ k = 2 ∨ k = 3) :
    Calls Try.prog 45 #[.agg #[.int .u8 (k : Int), .string y, .string v, .int .u64 (d : Int)]] w fun e w' => e = .returned (.string ⟨(Rec.bytes ⟨k, y, v, d⟩).toArray⟩) ∧ Ext w w' := by
  have hjy := fun w => join_short y w (by omega)
  obtain ⟨Y, hY⟩ : ∃ Y, (⟨#[UInt8.ofNat y.size]⟩ ++ y : ByteArray) = Y := ⟨_, rfl⟩
  have hYs : Y.size = 1 + y.size := by rw [← hY, ByteArray.size_append]; rfl
  rw [hY] at hjy
  have HY := Lib.hid hY; clear hY
  rcases hk with rfl | rfl | rfl
  · have hcv : ∀ w : World, (convert 76 9 (.slice (some ⟨w.heap.size, 0, none⟩) 1 1)).run Try.prog (w.alloc (.cells #[.int .u8 1] 5)) = .ok (.string ⟨#[1]⟩) (w.alloc (.cells #[.int .u8 1] 5)) := fun w => conv_one w 1 1
    have hs1 : (⟨#[1]⟩ ++ Y : ByteArray).size = 2 + y.size := by rw [ByteArray.size_append, hYs]; show 1 + (1 + y.size) = _; omega
    have hjv := fun w => join_short v w (by omega)
    obtain ⟨V, hV⟩ : ∃ V, (⟨#[UInt8.ofNat v.size]⟩ ++ v : ByteArray) = V := ⟨_, rfl⟩
    have hVs : V.size = 1 + v.size := by rw [← hV, ByteArray.size_append]; rfl
    rw [hV] at hjv
    have e : (⟨(Rec.bytes ⟨1, y, v, d⟩).toArray⟩ : ByteArray) = ⟨#[1]⟩ ++ Y ++ V := bytes_ext (by
      rw [← HY.out, ← hV]; simp [Rec.bytes])
    rw [e]
    clear e hV
    go_enter Try.func45, Try.ntmps45
    go_wp2_with fail
    refine (hjy _).mono ?_
    rintro e w1 ⟨rfl, he1⟩
    have c0 := cell_ext (World.cell?_alloc_new w _ _ 0) he1
    have c2 := cell_ext (World.cell?_alloc_new w _ _ 2) he1
    have c3 := cell_ext (World.cell?_alloc_new w _ _ 3) he1
    have he1 := (Ext.alloc w _).trans he1
    have c0o := fun o => cell_ext c0 (Ext.alloc w1 o)
    have c2o := fun o => cell_ext c2 (Ext.alloc w1 o)
    have c3o := fun o => cell_ext c3 (Ext.alloc w1 o)
    have c3p := fun o p => cell_ext (c3o o) (Ext.alloc _ p)
    go_wp2_with fail
    refine (hjv _).mono ?_
    rintro e w2 ⟨rfl, he2⟩
    go_wp2_with fail
    go_ret
    exact ⟨rfl, he1.trans ((Ext.alloc _ _).trans he2)⟩
  · have hcv : ∀ w : World, (convert 76 9 (.slice (some ⟨w.heap.size, 0, none⟩) 1 1)).run Try.prog (w.alloc (.cells #[.int .u8 2] 5)) = .ok (.string ⟨#[2]⟩) (w.alloc (.cells #[.int .u8 2] 5)) := fun w => conv_one w 2 1
    have hs1 : (⟨#[2]⟩ ++ Y : ByteArray).size = 2 + y.size := by rw [ByteArray.size_append, hYs]; show 1 + (1 + y.size) = _; omega
    have e : (⟨(Rec.bytes ⟨2, y, v, d⟩).toArray⟩ : ByteArray) = ⟨#[2]⟩ ++ Y := bytes_ext (by
      rw [← HY.out]; simp [Rec.bytes])
    rw [e]
    clear e
    go_enter Try.func45, Try.ntmps45
    go_wp2_with fail
    refine (hjy _).mono ?_
    rintro e w1 ⟨rfl, he1⟩
    have c0 := cell_ext (World.cell?_alloc_new w _ _ 0) he1
    have c2 := cell_ext (World.cell?_alloc_new w _ _ 2) he1
    have c3 := cell_ext (World.cell?_alloc_new w _ _ 3) he1
    have he1 := (Ext.alloc w _).trans he1
    have c0o := fun o => cell_ext c0 (Ext.alloc w1 o)
    have c2o := fun o => cell_ext c2 (Ext.alloc w1 o)
    have c3o := fun o => cell_ext c3 (Ext.alloc w1 o)
    have c3p := fun o p => cell_ext (c3o o) (Ext.alloc _ p)
    go_wp2_with fail
    go_ret
    exact ⟨rfl, he1.trans (Ext.alloc _ _)⟩
  · have hcv : ∀ w : World, (convert 76 9 (.slice (some ⟨w.heap.size, 0, none⟩) 1 1)).run Try.prog (w.alloc (.cells #[.int .u8 3] 5)) = .ok (.string ⟨#[3]⟩) (w.alloc (.cells #[.int .u8 3] 5)) := fun w => conv_one w 3 1
    have hs1 : (⟨#[3]⟩ ++ Y : ByteArray).size = 2 + y.size := by rw [ByteArray.size_append, hYs]; show 1 + (1 + y.size) = _; omega
    have e : (⟨(Rec.bytes ⟨3, y, v, d⟩).toArray⟩ : ByteArray) = ⟨#[3]⟩ ++ Y ++ Msg.val d := bytes_ext (by
      rw [← HY.out]; simp [Rec.bytes, Msg.val])
    rw [e]
    clear e
    have hVs := Msg.val_size d
    have hwr := fun T U c d' w (z y : Nat) (hz : w.heap.size = z) (hy : w.heap.size + 1 = y) => write8_at d T U c d' w hd hz hy
    generalize Msg.val d = V at *
    go_enter Try.func45, Try.ntmps45
    go_wp2_with fail
    refine (hjy _).mono ?_
    rintro e w1 ⟨rfl, he1⟩
    have c0 := cell_ext (World.cell?_alloc_new w _ _ 0) he1
    have c2 := cell_ext (World.cell?_alloc_new w _ _ 2) he1
    have c3 := cell_ext (World.cell?_alloc_new w _ _ 3) he1
    have he1 := (Ext.alloc w _).trans he1
    have c0o := fun o => cell_ext c0 (Ext.alloc w1 o)
    have c2o := fun o => cell_ext c2 (Ext.alloc w1 o)
    have c3o := fun o => cell_ext c3 (Ext.alloc w1 o)
    have c3p := fun o p => cell_ext (c3o o) (Ext.alloc _ p)
    go_wp2_with fail
    refine (hwr _ _ _ _ _ _ _ (by simp) (by simp)).mono ?_
    rintro e w2 ⟨rfl, he2⟩
    go_wp2_with fail
    go_ret
    exact ⟨rfl, he1.trans ((Ext.alloc _ _).trans he2)⟩
theorem bytes_length {k d : Nat} {y v : ByteArray} : (Rec.bytes ⟨k, y, v, d⟩).length ≤ 2 + y.size + (1 + v.size + 8) := by
  unfold Rec.bytes
  simp only
  split
  · simp; omega
  · split
    · simp [Lend.put_length]; omega
    · simp; omega
set_option maxHeartbeats 1000000 in
theorem usize_any (k d : Nat) (y v : ByteArray) (w : World) (hk : k < 256) (hd : d < 18446744073709551616) (hy : y.size ≤ maxLen) (hv : v.size ≤ maxLen) :
    Calls Try.prog 28 #[.agg #[.int .u8 (k : Int), .string y, .string v, .int .u64 (d : Int)]] w fun e w' =>
      e = .returned (.int .i64 ((if Rec.check ⟨k, y, v, d⟩ = 0 then (Rec.bytes ⟨k, y, v, d⟩).length else 0 : Nat) : Int)) ∧ Ext w w' := by
  have hck := fun w => check_any k d y v w hk hd hy hv
  by_cases h0 : Rec.check ⟨k, y, v, d⟩ = 0
  · rw [if_pos h0]
    obtain ⟨⟨_, a2, a3⟩, a4, _, _⟩ := check_zero h0
    rw [h0] at hck
    have hby := fun w => bytes_any k d y v w hd a2 a3 a4
    have hbl := bytes_length (k := k) (d := d) (y := y) (v := v)
    have hsz : (⟨(Rec.bytes ⟨k, y, v, d⟩).toArray⟩ : ByteArray).size = (Rec.bytes ⟨k, y, v, d⟩).length := List.size_toArray
    generalize (⟨(Rec.bytes ⟨k, y, v, d⟩).toArray⟩ : ByteArray) = B at *
    generalize (Rec.bytes ⟨k, y, v, d⟩).length = n at *
    clear h0 a4
    go_enter Try.func28, Try.ntmps28
    go_wp2_with fail
    refine (hck _).mono ?_
    rintro e w1 ⟨rfl, he1⟩
    have c0 := cell_ext (World.cell?_alloc_new w _ _ 0) he1
    have c1 := cell_ext (World.cell?_alloc_new w _ _ 1) he1
    have c2 := cell_ext (World.cell?_alloc_new w _ _ 2) he1
    have c3 := cell_ext (World.cell?_alloc_new w _ _ 3) he1
    have he1 := (Ext.alloc w _).trans he1
    go_wp2_with fail
    refine (hby _).mono ?_
    rintro e w2 ⟨rfl, he2⟩
    go_wp2_with fail
    go_ret
    exact ⟨rfl, he1.trans he2⟩
  · rw [if_neg h0]
    generalize Rec.check ⟨k, y, v, d⟩ = c at *
    have hne : ((c : Int) != 0) = true := by simp; omega
    go_enter Try.func28, Try.ntmps28
    go_wp2_with fail
    refine (hck _).mono ?_
    rintro e w1 ⟨rfl, he1⟩
    go_wp2_with fail
    go_ret
    exact ⟨rfl, (Ext.alloc w _).trans he1⟩
end Go.Proofs.Ytemhflafiephpaa
