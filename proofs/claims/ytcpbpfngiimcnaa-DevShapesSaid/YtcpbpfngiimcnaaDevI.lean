/- What a nil device tells. -/
import Derived.Test.YtcpbpfngiimcnaaDevE
namespace Go.Proofs.Ytcpbpfngiimcnaa
open Go.RowKit
section
variable (w : World)
set_option maxRecDepth 100000 in
theorem nilready (w : World) : Calls Try.prog 44 #[.pointer none] w fun e w' => e = .returned (.int .i64 1) ∧ Ext w w' := by
  go_enter Try.func44, Try.ntmps44
  go_wp2_with fail
  go_ret
  exact ⟨rfl, Ext.refl _⟩
set_option maxRecDepth 100000 in
theorem nilis (i : Int) (w : World) : Calls Try.prog 46 #[.pointer none, .int .i64 i] w fun e w' => e = .returned (.bool false) ∧ Ext w w' := by
  go_enter Try.func46, Try.ntmps46
  go_wp2_with fail
  go_ret
  exact ⟨rfl, Ext.refl _⟩
set_option maxRecDepth 100000 in
set_option maxHeartbeats 4000000 in
theorem nilread (i : Int) (w : World) : Calls Try.prog 13 #[.pointer none, .int .i64 i] w fun e w' => e = .returned (.tuple #[.string .empty, .int .i64 1]) ∧ Ext w w' := by
  refine calls_marks Try.func13 rfl ?_
  simp only [Try.ntmps13, List.size_toArray, List.length_cons, List.length_nil, Nat.reduceAdd, Nat.reduceSub, Array.replicate_succ, Array.replicate_zero, List.push_toArray, List.append_toArray, List.nil_append, List.cons_append]
  go_upto_region 1 with (fail)
  have r4 := (RowIs.new2 w (.cells #[.int .i64 i] 3) 9 #[.string ⟨#[]⟩]).ext (Ext.alloc _ (.cells #[.int .i64 0] 24))
  have r5 := RowIs.new3 w (.cells #[.int .i64 i] 3) (.cells #[.string ⟨#[]⟩] 9) 24 #[.int .i64 0]
  have hx0 := ((Ext.alloc w (.cells #[.int .i64 i] 3)).trans (Ext.alloc _ (.cells #[.string ⟨#[]⟩] 9))).trans (Ext.alloc _ (.cells #[.int .i64 0] 24))
  generalize ((w.alloc (.cells #[.int .i64 i] 3)).alloc (.cells #[.string ⟨#[]⟩] 9)).alloc (.cells #[.int .i64 0] 24) = w0 at *
  obtain ⟨A5, h5⟩ : ∃ A, w.heap.size + 1 + 1 = A := ⟨_, rfl⟩
  obtain ⟨A4, h4⟩ : ∃ A, w.heap.size + 1 = A := ⟨_, rfl⟩
  rw [h5] at r5 ⊢
  rw [h4] at r4 ⊢
  have g4 : w.heap.size ≤ A4 := by omega
  have g5 : w.heap.size ≤ A5 := by omega
  clear h5 h4
  have R4 := Lib.hid r4; have R5 := Lib.hid r5
  clear r4 r5
  go_wp2_with fail
  refine (nilready _).mono ?_
  rintro e w1 ⟨rfl, he1⟩
  replace R4 := Lib.hid (R4.out.ext he1)
  replace R5 := Lib.hid (R5.out.ext he1)
  have c4 := R4.out.cell 0 _ rfl
  have f4 := R4.out.free 0
  have c5 := R5.out.cell 0 _ rfl
  have f5 := R5.out.free 0
  have n45 : ¬ A5 = A4 := (R4.out.ne R5.out (by decide)).symm
  go_wp2_with fail
  obtain ⟨k4, k5, kb⟩ := two_stores (s := .string ⟨#[]⟩) (r := .int .i64 1) R4.out R5.out (by decide) g4 g5
  refine leave_plain rfl (results_read _ _ rfl k4 rfl k5) ?_
  exact ⟨rfl, Below.trans (hx0.trans he1) kb⟩
set_option maxRecDepth 100000 in
set_option maxHeartbeats 4000000 in
theorem nilstick (i : Int) (w : World) : Calls Try.prog 16 #[.pointer none, .int .i64 i] w fun e w' => (∃ v, e = .returned v) ∧ Ext w w' := by
  go_enter Try.func16, Try.ntmps16
  go_wp2_with fail
  refine (nilis i _).mono ?_
  rintro e w1 ⟨rfl, he1⟩
  go_wp2_with fail
  first
    | go_end0
    | refine bodyPost_ret (results_none rfl _ _ _) rfl ?_
  exact ⟨⟨_, rfl⟩, (Ext.alloc _ _).trans he1⟩
set_option maxRecDepth 100000 in
set_option maxHeartbeats 4000000 in
theorem nilgarble (i a b : Int) (w : World) : Calls Try.prog 26 #[.pointer none, .int .i64 i, .int .i64 a, .int .u8 b] w fun e w' => (∃ v, e = .returned v) ∧ Ext w w' := by
  go_enter Try.func26, Try.ntmps26
  go_wp2_with fail
  refine (nilis i _).mono ?_
  rintro e w1 ⟨rfl, he1⟩
  go_wp2_with fail
  first
    | go_end0
    | refine bodyPost_ret (results_none rfl _ _ _) rfl ?_
  exact ⟨⟨_, rfl⟩, he1⟩
set_option maxRecDepth 100000 in
set_option maxHeartbeats 4000000 in
theorem nillose (n : Int) (w : World) : Calls Try.prog 17 #[.pointer none, .int .i64 n] w fun e w' => (∃ v, e = .returned v) ∧ Ext w w' := by
  go_enter Try.func17, Try.ntmps17
  go_wp2_with fail
  first
    | go_end0
    | refine bodyPost_ret (results_none rfl _ _ _) rfl ?_
  exact ⟨⟨_, rfl⟩, Ext.refl _⟩
set_option maxRecDepth 100000 in
set_option maxHeartbeats 4000000 in
theorem nilstray (n t : Int) (w : World) : Calls Try.prog 18 #[.pointer none, .int .i64 n, .int .i64 t] w fun e w' => (∃ v, e = .returned v) ∧ Ext w w' := by
  go_enter Try.func18, Try.ntmps18
  go_wp2_with fail
  first
    | go_end0
    | refine bodyPost_ret (results_none rfl _ _ _) rfl ?_
  exact ⟨⟨_, rfl⟩, Ext.refl _⟩
set_option maxRecDepth 100000 in
set_option maxHeartbeats 4000000 in
theorem nilkill (w : World) : Calls Try.prog 19 #[.pointer none] w fun e w' => (∃ v, e = .returned v) ∧ Ext w w' := by
  go_enter Try.func19, Try.ntmps19
  go_wp2_with fail
  first
    | go_end0
    | refine bodyPost_ret (results_none rfl _ _ _) rfl ?_
  exact ⟨⟨_, rfl⟩, Ext.refl _⟩
set_option maxRecDepth 100000 in
set_option maxHeartbeats 4000000 in
theorem nilfuse (n : Int) (w : World) : Calls Try.prog 28 #[.pointer none, .int .i64 n] w fun e w' => (∃ v, e = .returned v) ∧ Ext w w' := by
  go_enter Try.func28, Try.ntmps28
  go_wp2_with fail
  first
    | go_end0
    | refine bodyPost_ret (results_none rfl _ _ _) rfl ?_
  exact ⟨⟨_, rfl⟩, Ext.refl _⟩
set_option maxRecDepth 100000 in
set_option maxHeartbeats 4000000 in
theorem nilcrash (w : World) : Calls Try.prog 15 #[.pointer none, .slice none 0 0] w fun e w' => (∃ v, e = .returned v) ∧ Ext w w' := by
  go_enter Try.func15, Try.ntmps15
  go_wp2_with fail
  first
    | go_end0
    | refine bodyPost_ret (results_none rfl _ _ _) rfl ?_
  exact ⟨⟨_, rfl⟩, Ext.refl _⟩
set_option maxRecDepth 100000 in
set_option maxHeartbeats 4000000 in
theorem nilcount (w : World) : Calls Try.prog 34 #[.pointer none] w fun e w' => e = .returned (.tuple #[.int .i64 0, .int .i64 0, .int .i64 0]) ∧ Ext w w' := by
  go_enter Try.func34, Try.ntmps34
  go_wp2_with fail
  first
    | go_ret
    | go_ret3
  exact ⟨rfl, Ext.refl _⟩
set_option maxRecDepth 100000 in
set_option maxHeartbeats 4000000 in
theorem nilwrite (i : Int) (s : ByteArray) (w : World) : Calls Try.prog 12 #[.pointer none, .int .i64 i, .string s] w fun e w' => e = .returned (.int .i64 1) ∧ Ext w w' := by
  go_enter Try.func12, Try.ntmps12
  go_wp2_with fail
  refine (nilready _).mono ?_
  rintro e w1 ⟨rfl, he1⟩
  go_wp2_with fail
  first
    | go_ret
    | go_ret3
  exact ⟨rfl, he1⟩
set_option maxRecDepth 100000 in
set_option maxHeartbeats 4000000 in
theorem nilflush (w : World) : Calls Try.prog 10 #[.pointer none] w fun e w' => e = .returned (.int .i64 1) ∧ Ext w w' := by
  go_enter Try.func10, Try.ntmps10
  go_wp2_with fail
  refine (nilready _).mono ?_
  rintro e w1 ⟨rfl, he1⟩
  go_wp2_with fail
  first
    | go_ret
    | go_ret3
  exact ⟨rfl, he1⟩
set_option maxRecDepth 100000 in
set_option maxHeartbeats 4000000 in
theorem nilmedia (i : Int) (w : World) : Calls Try.prog 14 #[.pointer none, .int .i64 i] w fun e w' => e = .returned (.string ⟨#[]⟩) ∧ Ext w w' := by
  go_enter Try.func14, Try.ntmps14
  go_wp2_with fail
  refine (nilis i _).mono ?_
  rintro e w1 ⟨rfl, he1⟩
  go_wp2_with fail
  first
    | go_ret
    | go_ret3
  exact ⟨rfl, he1⟩
set_option maxRecDepth 100000 in
set_option maxHeartbeats 4000000 in
theorem nildead (w : World) : Calls Try.prog 20 #[.pointer none] w fun e w' => e = .returned (.bool false) ∧ Ext w w' := by
  go_enter Try.func20, Try.ntmps20
  go_wp2_with fail
  first
    | go_ret
    | go_ret3
  exact ⟨rfl, Ext.refl _⟩
set_option maxRecDepth 100000 in
set_option maxHeartbeats 4000000 in
theorem niloff (w : World) : Calls Try.prog 35 #[.pointer none] w fun e w' => e = .returned (.bool false) ∧ Ext w w' := by
  go_enter Try.func35, Try.ntmps35
  go_wp2_with fail
  first
    | go_ret
    | go_ret3
  exact ⟨rfl, Ext.refl _⟩
set_option maxRecDepth 100000 in
set_option maxHeartbeats 4000000 in
theorem nilshape (w : World) : Calls Try.prog 36 #[.pointer none] w fun e w' => e = .returned (.agg #[.int .i64 0, .int .i64 0]) ∧ Ext w w' := by
  go_enter Try.func36, Try.ntmps36
  go_wp2_with fail
  refine bodyPost_ret (results_cell_row Try.results36 _ _ w.heap.size 28 _ (0, 0) _ rfl (RowIs.new _ _ _) Try.underlying28 rfl (by kernel_rfl)) rfl ?_
  exact ⟨rfl, Ext.alloc _ _⟩
end
end Go.Proofs.Ytcpbpfngiimcnaa
