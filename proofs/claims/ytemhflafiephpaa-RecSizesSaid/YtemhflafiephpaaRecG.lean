/- Contract of rec.first. -/
import Derived.Test.YtemhflafiephpaaRecF2
import Derived.Deep.DeepCutAuto
namespace Go.Proofs.Ytemhflafiephpaa
open Go.RowKit
/-- how first answers -/
def FirstPost (o : Option (Msg.Up × ByteArray)) (e : Ending) : Prop := match o with
  | some (u, r) => e = .returned (.tuple #[.agg #[.int .u8 (u.kind : Int), .string u.key, .string u.value, .int .u64 (u.delta : Int)], .string r, .bool true])
  | none => ∃ (k d : Nat) (y v r : ByteArray), e = .returned (.tuple #[.agg #[.int .u8 (k : Int), .string y, .string v, .int .u64 (d : Int)], .string r, .bool false])
set_option maxRecDepth 100000 in
set_option maxHeartbeats 2000000 in
theorem first_c0 (s : ByteArray) (w : World) (h0 : ¬ 0 < s.size) : Calls Try.prog 49 #[.string s] w fun e w' => FirstPost none e ∧ Ext w w' := by
  have HRD := Lib.hid (fun T c w (z : Nat) (hz : w.heap.size = z) => read1_no_at s T c w (by omega) hz)
  go_enter Try.func49, Try.ntmps49
  go_wp2_with fail
  refine (HRD.out _ _ _ _ (by simp)).mono ?_
  rintro e w1 ⟨rfl, he1⟩
  have r2 := (RowIs.new w 37 #[.int .u8 0, .string ⟨#[]⟩, .string ⟨#[]⟩, .int .u64 0]).ext he1
  have hE := (Ext.alloc w (.cells #[.int .u8 0, .string ⟨#[]⟩, .string ⟨#[]⟩, .int .u64 0] 37)).trans he1
  have R2 := Lib.hid r2
  clear r2
  go_wp2_with (refine wpl_row rfl rfl rfl rfl R2.out (by kernel_rfl) rfl (by simp [Value.oneCell']) ?_; intro w9 hw9 hr9; have HW9 := Lib.hid hw9; have HR9 := Lib.hid hr9; clear hw9 hr9)
  (try simp only [Exit.inBlock, Exit.then])
  refine bodyPost_ret (results_ctt Try.results49 _ _ rfl HR9.out Try.underlying37 rfl (by kernel_rfl)) rfl ?_
  exact ⟨⟨0, 0, ⟨#[]⟩, ⟨#[]⟩, ⟨#[]⟩, rfl⟩, HW9.out.ext hE (Nat.le_refl _)⟩
set_option maxRecDepth 100000 in
set_option maxHeartbeats 4000000 in
theorem first_c1 (s : ByteArray) (w : World) (hs : s.size ≤ 1000000) (h0 : 0 < s.size) (h1 : Rec.spl (s.extract 1 s.size) = none) : Calls Try.prog 49 #[.string s] w fun e w' => FirstPost none e ∧ Ext w w' := by
  have hrd := fun T c w (z : Nat) (hz : w.heap.size = z) => read1_yes_at s T c w h0 (by unfold maxLen; omega) hz
  have hb := s[0].toNat_lt
  have hR1 : (s.extract 1 s.size).size = s.size - 1 := by simp
  generalize s[0].toNat = Kd at *
  generalize s.extract 1 s.size = R1 at *
  have hsp := fun w => split_any R1 w (by unfold maxLen; omega)
  rw [splitAns_spl, h1] at hsp
  simp only at hsp
  have HSP := Lib.hid hsp
  have hwk : IntKind.u8.wrap (Kd : Int) = (Kd : Int) := by rw [IntKind.wrap_u8]; omega
  have HRD := Lib.hid hrd
  clear hrd hsp
  clear h1
  go_enter Try.func49, Try.ntmps49
  go_wp2_with fail
  refine (HRD.out _ _ _ _ (by simp)).mono ?_
  rintro e w1 ⟨bl, ol, dl, rfl, hl, he1⟩
  have r2 := (RowIs.new w 37 #[.int .u8 0, .string ⟨#[]⟩, .string ⟨#[]⟩, .int .u64 0]).ext he1
  have hE := (Ext.alloc w (.cells #[.int .u8 0, .string ⟨#[]⟩, .string ⟨#[]⟩, .int .u64 0] 37)).trans he1
  go_wp2_with fail
  have r7 := RowIs.new w1 37 #[Value.int .u8 (Kd : Int), Value.string ⟨#[]⟩, Value.string ⟨#[]⟩, Value.int .u64 0]
  have hEa := Ext.alloc w1 (.cells #[Value.int .u8 (Kd : Int), Value.string ⟨#[]⟩, Value.string ⟨#[]⟩, Value.int .u64 0] 37)
  refine (HSP.out _).mono ?_
  rintro e w2 ⟨rfl, he2⟩
  replace r7 := r7.ext he2
  replace r2 := (r2.ext hEa).ext he2
  replace hE := (hE.trans hEa).trans he2
  have h27 : w.heap.size ≠ w1.heap.size := by have := (RowIs.ext (RowIs.new w 37 #[.int .u8 0, .string ⟨#[]⟩, .string ⟨#[]⟩, .int .u64 0]) he1).lt; omega
  have hle : w.heap.size ≤ w1.heap.size := by have := (RowIs.ext (RowIs.new w 37 #[.int .u8 0, .string ⟨#[]⟩, .string ⟨#[]⟩, .int .u64 0]) he1).lt; omega
  obtain ⟨b7, hb7⟩ : ∃ b7, w1.heap.size = b7 := ⟨_, rfl⟩
  rw [hb7] at r7 h27 hle ⊢
  have f1 := r7.free 1
  have c1 := r7.cell 1 (.string ⟨#[]⟩) rfl
  clear hl he1 he2 hEa hb7
  go_upto_region 6 with (fail)
  have hst := Wrote.setCell r7 1 (.string ⟨#[]⟩)
  replace r7 : RowIs b7 37 #[Value.int .u8 (Kd : Int), Value.string ⟨#[]⟩, Value.string ⟨#[]⟩, Value.int .u64 0] _ := r7.setCell 1 (.string ⟨#[]⟩)
  replace r2 := hst.row r2 h27
  replace hE := hst.ext hE hle
  clear f1 c1 hst
  generalize w2.setCell ⟨b7, 1, none⟩ (.string ⟨#[]⟩) = w3 at *
  have x0 := r7.cell 0 (.int .u8 (Kd : Int)) rfl
  have R2 := Lib.hid r2
  clear r2
  go_wp2_with (refine wpl_row rfl rfl rfl rfl R2.out (by kernel_rfl) rfl (by simp [Value.oneCell']) ?_; intro w9 hw9 hr9; have HW9 := Lib.hid hw9; have HR9 := Lib.hid hr9; clear hw9 hr9)
  (try simp only [Exit.inBlock, Exit.then])
  refine bodyPost_ret (results_ctt Try.results49 _ _ rfl HR9.out Try.underlying37 rfl (by kernel_rfl)) rfl ?_
  exact ⟨⟨0, 0, ⟨#[]⟩, ⟨#[]⟩, ⟨#[]⟩, rfl⟩, HW9.out.ext hE (Nat.le_refl _)⟩
set_option maxRecDepth 100000 in
set_option maxHeartbeats 4000000 in
theorem first_c2 (s : ByteArray) (w : World) (hs : s.size ≤ 1000000) (h0 : 0 < s.size) (y r : ByteArray) (h1 : Rec.spl (s.extract 1 s.size) = some (y, r)) (hk : s[0].toNat = 1) (h2 : Rec.spl r = none) : Calls Try.prog 49 #[.string s] w fun e w' => FirstPost none e ∧ Ext w w' := by
  have hrd := fun T c w (z : Nat) (hz : w.heap.size = z) => read1_yes_at s T c w h0 (by unfold maxLen; omega) hz
  have hb := s[0].toNat_lt
  have hR1 : (s.extract 1 s.size).size = s.size - 1 := by simp
  generalize s[0].toNat = Kd at *
  generalize s.extract 1 s.size = R1 at *
  have hsp := fun w => split_any R1 w (by unfold maxLen; omega)
  rw [splitAns_spl, h1] at hsp
  simp only at hsp
  have HSP := Lib.hid hsp
  have hwk : IntKind.u8.wrap (Kd : Int) = (Kd : Int) := by rw [IntKind.wrap_u8]; omega
  have HRD := Lib.hid hrd
  clear hrd hsp
  have hsz1 := Rec.spl_size h1
  subst hk
  have hsp2 := fun w => split_any r w (by unfold maxLen; omega)
  rw [splitAns_spl, h2] at hsp2
  simp only at hsp2
  have HSP2 := Lib.hid hsp2
  clear hsp2 h1 h2
  go_enter Try.func49, Try.ntmps49
  go_wp2_with fail
  refine (HRD.out _ _ _ _ (by simp)).mono ?_
  rintro e w1 ⟨bl, ol, dl, rfl, hl, he1⟩
  have r2 := (RowIs.new w 37 #[.int .u8 0, .string ⟨#[]⟩, .string ⟨#[]⟩, .int .u64 0]).ext he1
  have hE := (Ext.alloc w (.cells #[.int .u8 0, .string ⟨#[]⟩, .string ⟨#[]⟩, .int .u64 0] 37)).trans he1
  go_wp2_with fail
  have r7 := RowIs.new w1 37 #[Value.int .u8 ((1 : Nat) : Int), Value.string ⟨#[]⟩, Value.string ⟨#[]⟩, Value.int .u64 0]
  have hEa := Ext.alloc w1 (.cells #[Value.int .u8 ((1 : Nat) : Int), Value.string ⟨#[]⟩, Value.string ⟨#[]⟩, Value.int .u64 0] 37)
  refine (HSP.out _).mono ?_
  rintro e w2 ⟨rfl, he2⟩
  replace r7 := r7.ext he2
  replace r2 := (r2.ext hEa).ext he2
  replace hE := (hE.trans hEa).trans he2
  have h27 : w.heap.size ≠ w1.heap.size := by have := (RowIs.ext (RowIs.new w 37 #[.int .u8 0, .string ⟨#[]⟩, .string ⟨#[]⟩, .int .u64 0]) he1).lt; omega
  have hle : w.heap.size ≤ w1.heap.size := by have := (RowIs.ext (RowIs.new w 37 #[.int .u8 0, .string ⟨#[]⟩, .string ⟨#[]⟩, .int .u64 0]) he1).lt; omega
  obtain ⟨b7, hb7⟩ : ∃ b7, w1.heap.size = b7 := ⟨_, rfl⟩
  rw [hb7] at r7 h27 hle ⊢
  have f1 := r7.free 1
  have c1 := r7.cell 1 (.string ⟨#[]⟩) rfl
  clear hl he1 he2 hEa hb7
  go_upto_region 6 with (fail)
  have hst := Wrote.setCell r7 1 (.string y)
  replace r7 : RowIs b7 37 #[Value.int .u8 ((1 : Nat) : Int), Value.string y, Value.string ⟨#[]⟩, Value.int .u64 0] _ := r7.setCell 1 (.string y)
  replace r2 := hst.row r2 h27
  replace hE := hst.ext hE hle
  clear f1 c1 hst
  generalize w2.setCell ⟨b7, 1, none⟩ (.string y) = w3 at *
  have x0 := r7.cell 0 (.int .u8 ((1 : Nat) : Int)) rfl
  go_wp2_with fail
  refine (HSP2.out _).mono ?_
  rintro e w4 ⟨rfl, he4⟩
  replace r7 := r7.ext he4
  replace r2 := r2.ext he4
  replace hE := hE.trans he4
  clear x0 he4
  have f1 := r7.free 2
  have c1 := r7.cell 2 (.string ⟨#[]⟩) rfl
  go_upto_region 15 with (fail)
  have hst := Wrote.setCell r7 2 (.string ⟨#[]⟩)
  replace r7 : RowIs b7 37 #[Value.int .u8 ((1 : Nat) : Int), Value.string y, Value.string ⟨#[]⟩, Value.int .u64 0] _ := r7.setCell 2 (.string ⟨#[]⟩)
  replace r2 := hst.row r2 h27
  replace hE := hst.ext hE hle
  clear f1 c1 hst
  generalize w4.setCell ⟨b7, 2, none⟩ (.string ⟨#[]⟩) = w5 at *
  go_upto_region 15 with (fail)
  have x0 := r7.cell 0 (.int .u8 ((1 : Nat) : Int)) rfl
  have x1 := r7.cell 1 (.string y) rfl
  have x2 := r7.cell 2 (.string ⟨#[]⟩) rfl
  have x3 := r7.cell 3 (.int .u64 0) rfl
  have m1 : (w.heap.size, #[Value.int .u8 ((1 : Nat) : Int), Value.string y, Value.string ⟨#[]⟩, Value.int .u64 0], 37) ∈ [(w.heap.size, #[Value.int .u8 ((1 : Nat) : Int), Value.string y, Value.string ⟨#[]⟩, Value.int .u64 0], 37)] := List.mem_cons_self
  have u1 : ∀ p ∈ [(w.heap.size, #[Value.int .u8 ((1 : Nat) : Int), Value.string y, Value.string ⟨#[]⟩, Value.int .u64 0], 37)], p.1 = w.heap.size → p = (w.heap.size, #[Value.int .u8 ((1 : Nat) : Int), Value.string y, Value.string ⟨#[]⟩, Value.int .u64 0], 37) := by intro p hp _; simpa using hp
  have hb' : ∀ p ∈ [(w.heap.size, #[Value.int .u8 ((1 : Nat) : Int), Value.string y, Value.string ⟨#[]⟩, Value.int .u64 0], 37)], w.heap.size ≤ p.1 := by intro p hp; simp at hp; rw [hp]; exact Nat.le_refl _
  have hn2 : ∀ p ∈ [(w.heap.size, #[Value.int .u8 ((1 : Nat) : Int), Value.string y, Value.string ⟨#[]⟩, Value.int .u64 0], 37)], p.1 ≠ b7 := by intro p hp; simp at hp; rw [hp]; exact h27
  clear r7
  refine RR.wp_region_drift_lit (n := 66) (Boxes.rel [(w.heap.size, #[Value.int .u8 ((1 : Nat) : Int), Value.string y, Value.string ⟨#[]⟩, Value.int .u64 0], 37)]) (by kernel_rfl) (by kernel_rfl) (by rfl) ?_
  apply RR.chain_val (.agg #[Value.int .u8 ((1 : Nat) : Int), Value.string y, Value.string ⟨#[]⟩, Value.int .u64 0])
  · rfl
  · intro w2 hx  K hK
    simp only [Act.put, List.setIfInBounds_toArray, List.set_cons_zero, List.set_cons_succ] at hK ⊢
    have y0 := Boxes.cell x0 hn2 hx
    have y1 := Boxes.cell x1 hn2 hx
    have y2 := Boxes.cell x2 hn2 hx
    have y3 := Boxes.cell x3 hn2 hx
    go_simp
    exact hK _ _ ((Boxes.rel [(w.heap.size, #[Value.int .u8 ((1 : Nat) : Int), Value.string y, Value.string ⟨#[]⟩, Value.int .u64 0], 37)]).refl _) rfl
  apply RR.chain_val
  · rfl
  · intro w2 hx  K hK
    simp only [Act.put, List.setIfInBounds_toArray, List.set_cons_zero, List.set_cons_succ] at hK ⊢
    go_simp
    exact hK _ _ (RR.Rel.refl (Boxes.rel [(w.heap.size, #[Value.int .u8 ((1 : Nat) : Int), Value.string y, Value.string ⟨#[]⟩, Value.int .u64 0], 37)]) _) rfl
  apply RR.chain_val
  · rfl
  · intro w2 hx  K hK
    simp only [Act.put, List.setIfInBounds_toArray, List.set_cons_zero, List.set_cons_succ] at hK ⊢
    go_simp
    exact hK _ _ (RR.Rel.refl (Boxes.rel [(w.heap.size, #[Value.int .u8 ((1 : Nat) : Int), Value.string y, Value.string ⟨#[]⟩, Value.int .u64 0], 37)]) _) rfl
  apply RR.chain_val
  · rfl
  · intro w2 hx  K hK
    simp only [Act.put, List.setIfInBounds_toArray, List.set_cons_zero, List.set_cons_succ] at hK ⊢
    go_simp
    exact hK _ _ (RR.Rel.refl (Boxes.rel [(w.heap.size, #[Value.int .u8 ((1 : Nat) : Int), Value.string y, Value.string ⟨#[]⟩, Value.int .u64 0], 37)]) _) rfl
  apply RR.chain_val
  · rfl
  · intro w2 hx  K hK
    simp only [Act.put, List.setIfInBounds_toArray, List.set_cons_zero, List.set_cons_succ] at hK ⊢
    go_simp
    exact hK _ _ (RR.Rel.refl (Boxes.rel [(w.heap.size, #[Value.int .u8 ((1 : Nat) : Int), Value.string y, Value.string ⟨#[]⟩, Value.int .u64 0], 37)]) _) rfl
  apply RR.chain_val
  · rfl
  · intro w2 hx  K hK
    simp only [Act.put, List.setIfInBounds_toArray, List.set_cons_zero, List.set_cons_succ] at hK ⊢
    go_simp
    exact hK _ _ (RR.Rel.refl (Boxes.rel [(w.heap.size, #[Value.int .u8 ((1 : Nat) : Int), Value.string y, Value.string ⟨#[]⟩, Value.int .u64 0], 37)]) _) rfl
  apply RR.chain_val
  · rfl
  · intro w2 hx  K hK
    simp only [Act.put, List.setIfInBounds_toArray, List.set_cons_zero, List.set_cons_succ] at hK ⊢
    go_simp
    exact hK _ _ (RR.Rel.refl (Boxes.rel [(w.heap.size, #[Value.int .u8 ((1 : Nat) : Int), Value.string y, Value.string ⟨#[]⟩, Value.int .u64 0], 37)]) _) rfl
  apply RR.chain_val (.bool false)
  · rfl
  · intro w2 hx  K hK
    simp only [Act.put, List.setIfInBounds_toArray, List.set_cons_zero, List.set_cons_succ] at hK ⊢
    go_simp
    exact hK _ _ ((Boxes.rel [(w.heap.size, #[Value.int .u8 ((1 : Nat) : Int), Value.string y, Value.string ⟨#[]⟩, Value.int .u64 0], 37)]).refl _) rfl
  refine RR.chain_store (PtrRow w.heap.size 37 (#[Value.int .u8 ((1 : Nat) : Int), Value.string y, Value.string ⟨#[]⟩, Value.int .u64 0])) (fun _ _ _ e h => PtrRow.kept m1 h e) rfl rfl ?_ ?_
  · intro w2 hx  K hK
    simp only [Act.put, List.setIfInBounds_toArray, List.set_cons_zero, List.set_cons_succ] at hK ⊢
    obtain ⟨q, hr, hc⟩ := RowIs.either m1 r2 hx
    have hs : q.size = 4 := by rcases hc with rfl | rfl <;> rfl
    exact step_store rfl rfl rfl rfl hr (by kernel_rfl) hs (by simp [Value.oneCell']) (let ⟨e, q⟩ := setRow_boxes hr m1 u1; hK _ e ⟨rfl, q⟩)
  apply RR.chain_val
  · rfl
  · intro w2 hx _ _ v8 h8 K hK
    simp only [Act.put, List.setIfInBounds_toArray, List.set_cons_zero, List.set_cons_succ] at hK ⊢
    go_simp
    exact hK _ _ (RR.Rel.refl (Boxes.rel [(w.heap.size, #[Value.int .u8 ((1 : Nat) : Int), Value.string y, Value.string ⟨#[]⟩, Value.int .u64 0], 37)]) _) rfl
  apply RR.chain_val
  · rfl
  · intro w2 hx v8 h8 K hK
    simp only [Act.put, List.setIfInBounds_toArray, List.set_cons_zero, List.set_cons_succ] at hK ⊢
    go_simp
    exact hK _ _ (RR.Rel.refl (Boxes.rel [(w.heap.size, #[Value.int .u8 ((1 : Nat) : Int), Value.string y, Value.string ⟨#[]⟩, Value.int .u64 0], 37)]) _) rfl
  refine RR.chain_end fun w2 hx => ?_
  simp only [List.reverse_cons, List.reverse_nil, List.nil_append, List.cons_append, RR.withDeps, Act.put, List.setIfInBounds_toArray, List.set_cons_zero, List.set_cons_succ]
  intro v8 h8
  obtain ⟨rfl, h8⟩ := h8
  go_wp2_with fail
  (try simp only [Exit.inBlock, Exit.then])
  refine bodyPost_ret (results_ctt Try.results49 _ _ rfl h8 Try.underlying37 rfl (by kernel_rfl)) rfl ?_
  exact ⟨⟨_, _, _, _, _, rfl⟩, Boxes.ext hE hx hb'⟩
set_option maxRecDepth 100000 in
set_option maxHeartbeats 4000000 in
theorem first_c3 (s : ByteArray) (w : World) (hs : s.size ≤ 1000000) (h0 : 0 < s.size) (y r : ByteArray) (h1 : Rec.spl (s.extract 1 s.size) = some (y, r)) (hk : s[0].toNat = 1) (v r2' : ByteArray) (h2 : Rec.spl r = some (v, r2')) : Calls Try.prog 49 #[.string s] w fun e w' => FirstPost (if Rec.check ⟨1, y, v, 0⟩ = 0 then some (⟨1, y, v, 0⟩, r2') else none) e ∧ Ext w w' := by
  have hrd := fun T c w (z : Nat) (hz : w.heap.size = z) => read1_yes_at s T c w h0 (by unfold maxLen; omega) hz
  have hb := s[0].toNat_lt
  have hR1 : (s.extract 1 s.size).size = s.size - 1 := by simp
  generalize s[0].toNat = Kd at *
  generalize s.extract 1 s.size = R1 at *
  have hsp := fun w => split_any R1 w (by unfold maxLen; omega)
  rw [splitAns_spl, h1] at hsp
  simp only at hsp
  have HSP := Lib.hid hsp
  have hwk : IntKind.u8.wrap (Kd : Int) = (Kd : Int) := by rw [IntKind.wrap_u8]; omega
  have HRD := Lib.hid hrd
  clear hrd hsp
  have hsz1 := Rec.spl_size h1
  have hsz2 := Rec.spl_size h2
  subst hk
  have hsp2 := fun w => split_any r w (by unfold maxLen; omega)
  rw [splitAns_spl, h2] at hsp2
  simp only at hsp2
  have HSP2 := Lib.hid hsp2
  have hck := fun w => check_any 1 0 y v w (by decide) (by decide) (by unfold maxLen; omega) (by unfold maxLen; omega)
  generalize Rec.check ⟨1, y, v, 0⟩ = cc at *
  have HCK := Lib.hid hck
  clear hsp2 h1 h2 hck
  go_enter Try.func49, Try.ntmps49
  go_wp2_with fail
  refine (HRD.out _ _ _ _ (by simp)).mono ?_
  rintro e w1 ⟨bl, ol, dl, rfl, hl, he1⟩
  have r2 := (RowIs.new w 37 #[.int .u8 0, .string ⟨#[]⟩, .string ⟨#[]⟩, .int .u64 0]).ext he1
  have hE := (Ext.alloc w (.cells #[.int .u8 0, .string ⟨#[]⟩, .string ⟨#[]⟩, .int .u64 0] 37)).trans he1
  go_wp2_with fail
  have r7 := RowIs.new w1 37 #[Value.int .u8 ((1 : Nat) : Int), Value.string ⟨#[]⟩, Value.string ⟨#[]⟩, Value.int .u64 0]
  have hEa := Ext.alloc w1 (.cells #[Value.int .u8 ((1 : Nat) : Int), Value.string ⟨#[]⟩, Value.string ⟨#[]⟩, Value.int .u64 0] 37)
  refine (HSP.out _).mono ?_
  rintro e w2 ⟨rfl, he2⟩
  replace r7 := r7.ext he2
  replace r2 := (r2.ext hEa).ext he2
  replace hE := (hE.trans hEa).trans he2
  have h27 : w.heap.size ≠ w1.heap.size := by have := (RowIs.ext (RowIs.new w 37 #[.int .u8 0, .string ⟨#[]⟩, .string ⟨#[]⟩, .int .u64 0]) he1).lt; omega
  have hle : w.heap.size ≤ w1.heap.size := by have := (RowIs.ext (RowIs.new w 37 #[.int .u8 0, .string ⟨#[]⟩, .string ⟨#[]⟩, .int .u64 0]) he1).lt; omega
  obtain ⟨b7, hb7⟩ : ∃ b7, w1.heap.size = b7 := ⟨_, rfl⟩
  rw [hb7] at r7 h27 hle ⊢
  have f1 := r7.free 1
  have c1 := r7.cell 1 (.string ⟨#[]⟩) rfl
  clear hl he1 he2 hEa hb7
  go_upto_region 6 with (fail)
  have hst := Wrote.setCell r7 1 (.string y)
  replace r7 : RowIs b7 37 #[Value.int .u8 ((1 : Nat) : Int), Value.string y, Value.string ⟨#[]⟩, Value.int .u64 0] _ := r7.setCell 1 (.string y)
  replace r2 := hst.row r2 h27
  replace hE := hst.ext hE hle
  clear f1 c1 hst
  generalize w2.setCell ⟨b7, 1, none⟩ (.string y) = w3 at *
  have x0 := r7.cell 0 (.int .u8 ((1 : Nat) : Int)) rfl
  go_wp2_with fail
  refine (HSP2.out _).mono ?_
  rintro e w4 ⟨rfl, he4⟩
  replace r7 := r7.ext he4
  replace r2 := r2.ext he4
  replace hE := hE.trans he4
  clear x0 he4
  have f1 := r7.free 2
  have c1 := r7.cell 2 (.string ⟨#[]⟩) rfl
  go_upto_region 15 with (fail)
  have hst := Wrote.setCell r7 2 (.string v)
  replace r7 : RowIs b7 37 #[Value.int .u8 ((1 : Nat) : Int), Value.string y, Value.string v, Value.int .u64 0] _ := r7.setCell 2 (.string v)
  replace r2 := hst.row r2 h27
  replace hE := hst.ext hE hle
  clear f1 c1 hst
  generalize w4.setCell ⟨b7, 2, none⟩ (.string v) = w5 at *
  go_upto_region 15 with (fail)
  have x0 := r7.cell 0 (.int .u8 ((1 : Nat) : Int)) rfl
  have x1 := r7.cell 1 (.string y) rfl
  have x2 := r7.cell 2 (.string v) rfl
  have x3 := r7.cell 3 (.int .u64 0) rfl
  have m1 : (w.heap.size, #[Value.int .u8 ((1 : Nat) : Int), Value.string y, Value.string v, Value.int .u64 0], 37) ∈ [(w.heap.size, #[Value.int .u8 ((1 : Nat) : Int), Value.string y, Value.string v, Value.int .u64 0], 37)] := List.mem_cons_self
  have u1 : ∀ p ∈ [(w.heap.size, #[Value.int .u8 ((1 : Nat) : Int), Value.string y, Value.string v, Value.int .u64 0], 37)], p.1 = w.heap.size → p = (w.heap.size, #[Value.int .u8 ((1 : Nat) : Int), Value.string y, Value.string v, Value.int .u64 0], 37) := by intro p hp _; simpa using hp
  have hb' : ∀ p ∈ [(w.heap.size, #[Value.int .u8 ((1 : Nat) : Int), Value.string y, Value.string v, Value.int .u64 0], 37)], w.heap.size ≤ p.1 := by intro p hp; simp at hp; rw [hp]; exact Nat.le_refl _
  have hn2 : ∀ p ∈ [(w.heap.size, #[Value.int .u8 ((1 : Nat) : Int), Value.string y, Value.string v, Value.int .u64 0], 37)], p.1 ≠ b7 := by intro p hp; simp at hp; rw [hp]; exact h27
  clear r7
  by_cases hcc : cc = 0
  · have hq : ((cc : Int) == 0) = true := by simp; omega
    have HCC := Lib.hid hcc
    clear hcc
    refine RR.wp_region_drift_lit (n := 66) (Boxes.rel [(w.heap.size, #[Value.int .u8 ((1 : Nat) : Int), Value.string y, Value.string v, Value.int .u64 0], 37)]) (by kernel_rfl) (by kernel_rfl) (by rfl) ?_
    apply RR.chain_val (.agg #[Value.int .u8 ((1 : Nat) : Int), Value.string y, Value.string v, Value.int .u64 0])
    · rfl
    · intro w2 hx  K hK
      simp only [Act.put, List.setIfInBounds_toArray, List.set_cons_zero, List.set_cons_succ] at hK ⊢
      have y0 := Boxes.cell x0 hn2 hx
      have y1 := Boxes.cell x1 hn2 hx
      have y2 := Boxes.cell x2 hn2 hx
      have y3 := Boxes.cell x3 hn2 hx
      go_simp
      exact hK _ _ ((Boxes.rel [(w.heap.size, #[Value.int .u8 ((1 : Nat) : Int), Value.string y, Value.string v, Value.int .u64 0], 37)]).refl _) rfl
    apply RR.chain_val
    · rfl
    · intro w2 hx  K hK
      simp only [Act.put, List.setIfInBounds_toArray, List.set_cons_zero, List.set_cons_succ] at hK ⊢
      go_simp
      exact hK _ _ (RR.Rel.refl (Boxes.rel [(w.heap.size, #[Value.int .u8 ((1 : Nat) : Int), Value.string y, Value.string v, Value.int .u64 0], 37)]) _) rfl
    apply RR.chain_val
    · rfl
    · intro w2 hx  K hK
      simp only [Act.put, List.setIfInBounds_toArray, List.set_cons_zero, List.set_cons_succ] at hK ⊢
      go_simp
      exact hK _ _ (RR.Rel.refl (Boxes.rel [(w.heap.size, #[Value.int .u8 ((1 : Nat) : Int), Value.string y, Value.string v, Value.int .u64 0], 37)]) _) rfl
    apply RR.chain_val
    · rfl
    · intro w2 hx  K hK
      simp only [Act.put, List.setIfInBounds_toArray, List.set_cons_zero, List.set_cons_succ] at hK ⊢
      go_simp
      exact hK _ _ (RR.Rel.refl (Boxes.rel [(w.heap.size, #[Value.int .u8 ((1 : Nat) : Int), Value.string y, Value.string v, Value.int .u64 0], 37)]) _) rfl
    apply RR.chain_val (.agg #[Value.int .u8 ((1 : Nat) : Int), Value.string y, Value.string v, Value.int .u64 0])
    · rfl
    · intro w2 hx  K hK
      simp only [Act.put, List.setIfInBounds_toArray, List.set_cons_zero, List.set_cons_succ] at hK ⊢
      have y0 := Boxes.cell x0 hn2 hx
      have y1 := Boxes.cell x1 hn2 hx
      have y2 := Boxes.cell x2 hn2 hx
      have y3 := Boxes.cell x3 hn2 hx
      go_simp
      exact hK _ _ ((Boxes.rel [(w.heap.size, #[Value.int .u8 ((1 : Nat) : Int), Value.string y, Value.string v, Value.int .u64 0], 37)]).refl _) rfl
    apply RR.chain_val (.int .i64 (cc : Int))
    · rfl
    · intro w2 hx  K hK
      simp only [Act.put, List.setIfInBounds_toArray, List.set_cons_zero, List.set_cons_succ] at hK ⊢
      go_simp
      refine (HCK.out _).mono ?_
      rintro e w19 ⟨rfl, he19⟩
      exact hK _ _ (Boxes.of he19) rfl
    apply RR.chain_val (.bool true)
    · rfl
    · intro w2 hx  K hK
      simp only [Act.put, List.setIfInBounds_toArray, List.set_cons_zero, List.set_cons_succ] at hK ⊢
      go_simp
      exact hK _ _ ((Boxes.rel [(w.heap.size, #[Value.int .u8 ((1 : Nat) : Int), Value.string y, Value.string v, Value.int .u64 0], 37)]).refl _) rfl
    apply RR.chain_val (.bool true)
    · rfl
    · intro w2 hx  K hK
      simp only [Act.put, List.setIfInBounds_toArray, List.set_cons_zero, List.set_cons_succ] at hK ⊢
      go_simp
      exact hK _ _ ((Boxes.rel [(w.heap.size, #[Value.int .u8 ((1 : Nat) : Int), Value.string y, Value.string v, Value.int .u64 0], 37)]).refl _) rfl
    refine RR.chain_store (PtrRow w.heap.size 37 (#[Value.int .u8 ((1 : Nat) : Int), Value.string y, Value.string v, Value.int .u64 0])) (fun _ _ _ e h => PtrRow.kept m1 h e) rfl rfl ?_ ?_
    · intro w2 hx  K hK
      simp only [Act.put, List.setIfInBounds_toArray, List.set_cons_zero, List.set_cons_succ] at hK ⊢
      obtain ⟨q, hr, hc⟩ := RowIs.either m1 r2 hx
      have hs : q.size = 4 := by rcases hc with rfl | rfl <;> rfl
      exact step_store rfl rfl rfl rfl hr (by kernel_rfl) hs (by simp [Value.oneCell']) (let ⟨e, q⟩ := setRow_boxes hr m1 u1; hK _ e ⟨rfl, q⟩)
    apply RR.chain_val
    · rfl
    · intro w2 hx _ _ v8 h8 K hK
      simp only [Act.put, List.setIfInBounds_toArray, List.set_cons_zero, List.set_cons_succ] at hK ⊢
      go_simp
      exact hK _ _ (RR.Rel.refl (Boxes.rel [(w.heap.size, #[Value.int .u8 ((1 : Nat) : Int), Value.string y, Value.string v, Value.int .u64 0], 37)]) _) rfl
    apply RR.chain_val
    · rfl
    · intro w2 hx v8 h8 K hK
      simp only [Act.put, List.setIfInBounds_toArray, List.set_cons_zero, List.set_cons_succ] at hK ⊢
      go_simp
      exact hK _ _ (RR.Rel.refl (Boxes.rel [(w.heap.size, #[Value.int .u8 ((1 : Nat) : Int), Value.string y, Value.string v, Value.int .u64 0], 37)]) _) rfl
    refine RR.chain_end fun w2 hx => ?_
    simp only [List.reverse_cons, List.reverse_nil, List.nil_append, List.cons_append, RR.withDeps, Act.put, List.setIfInBounds_toArray, List.set_cons_zero, List.set_cons_succ]
    intro v8 h8
    obtain ⟨rfl, h8⟩ := h8
    go_wp2_with fail
    (try simp only [Exit.inBlock, Exit.then])
    refine bodyPost_ret (results_ctt Try.results49 _ _ rfl h8 Try.underlying37 rfl (by kernel_rfl)) rfl ?_
    exact ⟨by (try rw [if_pos HCC.out]); exact (rfl : _ = _), Boxes.ext hE hx hb'⟩
  · have hq : ((cc : Int) == 0) = false := by simp; omega
    have HCC := Lib.hid hcc
    clear hcc
    refine RR.wp_region_drift_lit (n := 66) (Boxes.rel [(w.heap.size, #[Value.int .u8 ((1 : Nat) : Int), Value.string y, Value.string v, Value.int .u64 0], 37)]) (by kernel_rfl) (by kernel_rfl) (by rfl) ?_
    apply RR.chain_val (.agg #[Value.int .u8 ((1 : Nat) : Int), Value.string y, Value.string v, Value.int .u64 0])
    · rfl
    · intro w2 hx  K hK
      simp only [Act.put, List.setIfInBounds_toArray, List.set_cons_zero, List.set_cons_succ] at hK ⊢
      have y0 := Boxes.cell x0 hn2 hx
      have y1 := Boxes.cell x1 hn2 hx
      have y2 := Boxes.cell x2 hn2 hx
      have y3 := Boxes.cell x3 hn2 hx
      go_simp
      exact hK _ _ ((Boxes.rel [(w.heap.size, #[Value.int .u8 ((1 : Nat) : Int), Value.string y, Value.string v, Value.int .u64 0], 37)]).refl _) rfl
    apply RR.chain_val
    · rfl
    · intro w2 hx  K hK
      simp only [Act.put, List.setIfInBounds_toArray, List.set_cons_zero, List.set_cons_succ] at hK ⊢
      go_simp
      exact hK _ _ (RR.Rel.refl (Boxes.rel [(w.heap.size, #[Value.int .u8 ((1 : Nat) : Int), Value.string y, Value.string v, Value.int .u64 0], 37)]) _) rfl
    apply RR.chain_val
    · rfl
    · intro w2 hx  K hK
      simp only [Act.put, List.setIfInBounds_toArray, List.set_cons_zero, List.set_cons_succ] at hK ⊢
      go_simp
      exact hK _ _ (RR.Rel.refl (Boxes.rel [(w.heap.size, #[Value.int .u8 ((1 : Nat) : Int), Value.string y, Value.string v, Value.int .u64 0], 37)]) _) rfl
    apply RR.chain_val
    · rfl
    · intro w2 hx  K hK
      simp only [Act.put, List.setIfInBounds_toArray, List.set_cons_zero, List.set_cons_succ] at hK ⊢
      go_simp
      exact hK _ _ (RR.Rel.refl (Boxes.rel [(w.heap.size, #[Value.int .u8 ((1 : Nat) : Int), Value.string y, Value.string v, Value.int .u64 0], 37)]) _) rfl
    apply RR.chain_val (.agg #[Value.int .u8 ((1 : Nat) : Int), Value.string y, Value.string v, Value.int .u64 0])
    · rfl
    · intro w2 hx  K hK
      simp only [Act.put, List.setIfInBounds_toArray, List.set_cons_zero, List.set_cons_succ] at hK ⊢
      have y0 := Boxes.cell x0 hn2 hx
      have y1 := Boxes.cell x1 hn2 hx
      have y2 := Boxes.cell x2 hn2 hx
      have y3 := Boxes.cell x3 hn2 hx
      go_simp
      exact hK _ _ ((Boxes.rel [(w.heap.size, #[Value.int .u8 ((1 : Nat) : Int), Value.string y, Value.string v, Value.int .u64 0], 37)]).refl _) rfl
    apply RR.chain_val (.int .i64 (cc : Int))
    · rfl
    · intro w2 hx  K hK
      simp only [Act.put, List.setIfInBounds_toArray, List.set_cons_zero, List.set_cons_succ] at hK ⊢
      go_simp
      refine (HCK.out _).mono ?_
      rintro e w19 ⟨rfl, he19⟩
      exact hK _ _ (Boxes.of he19) rfl
    apply RR.chain_val (.bool false)
    · rfl
    · intro w2 hx  K hK
      simp only [Act.put, List.setIfInBounds_toArray, List.set_cons_zero, List.set_cons_succ] at hK ⊢
      go_simp
      exact hK _ _ ((Boxes.rel [(w.heap.size, #[Value.int .u8 ((1 : Nat) : Int), Value.string y, Value.string v, Value.int .u64 0], 37)]).refl _) rfl
    apply RR.chain_val (.bool false)
    · rfl
    · intro w2 hx  K hK
      simp only [Act.put, List.setIfInBounds_toArray, List.set_cons_zero, List.set_cons_succ] at hK ⊢
      go_simp
      exact hK _ _ ((Boxes.rel [(w.heap.size, #[Value.int .u8 ((1 : Nat) : Int), Value.string y, Value.string v, Value.int .u64 0], 37)]).refl _) rfl
    refine RR.chain_store (PtrRow w.heap.size 37 (#[Value.int .u8 ((1 : Nat) : Int), Value.string y, Value.string v, Value.int .u64 0])) (fun _ _ _ e h => PtrRow.kept m1 h e) rfl rfl ?_ ?_
    · intro w2 hx  K hK
      simp only [Act.put, List.setIfInBounds_toArray, List.set_cons_zero, List.set_cons_succ] at hK ⊢
      obtain ⟨q, hr, hc⟩ := RowIs.either m1 r2 hx
      have hs : q.size = 4 := by rcases hc with rfl | rfl <;> rfl
      exact step_store rfl rfl rfl rfl hr (by kernel_rfl) hs (by simp [Value.oneCell']) (let ⟨e, q⟩ := setRow_boxes hr m1 u1; hK _ e ⟨rfl, q⟩)
    apply RR.chain_val
    · rfl
    · intro w2 hx _ _ v8 h8 K hK
      simp only [Act.put, List.setIfInBounds_toArray, List.set_cons_zero, List.set_cons_succ] at hK ⊢
      go_simp
      exact hK _ _ (RR.Rel.refl (Boxes.rel [(w.heap.size, #[Value.int .u8 ((1 : Nat) : Int), Value.string y, Value.string v, Value.int .u64 0], 37)]) _) rfl
    apply RR.chain_val
    · rfl
    · intro w2 hx v8 h8 K hK
      simp only [Act.put, List.setIfInBounds_toArray, List.set_cons_zero, List.set_cons_succ] at hK ⊢
      go_simp
      exact hK _ _ (RR.Rel.refl (Boxes.rel [(w.heap.size, #[Value.int .u8 ((1 : Nat) : Int), Value.string y, Value.string v, Value.int .u64 0], 37)]) _) rfl
    refine RR.chain_end fun w2 hx => ?_
    simp only [List.reverse_cons, List.reverse_nil, List.nil_append, List.cons_append, RR.withDeps, Act.put, List.setIfInBounds_toArray, List.set_cons_zero, List.set_cons_succ]
    intro v8 h8
    obtain ⟨rfl, h8⟩ := h8
    go_wp2_with fail
    (try simp only [Exit.inBlock, Exit.then])
    refine bodyPost_ret (results_ctt Try.results49 _ _ rfl h8 Try.underlying37 rfl (by kernel_rfl)) rfl ?_
    exact ⟨by (try rw [if_neg HCC.out]); exact ⟨_, _, _, _, _, rfl⟩, Boxes.ext hE hx hb'⟩
set_option maxRecDepth 100000 in
set_option maxHeartbeats 4000000 in
theorem first_c4 (s : ByteArray) (w : World) (hs : s.size ≤ 1000000) (h0 : 0 < s.size) (y r : ByteArray) (h1 : Rec.spl (s.extract 1 s.size) = some (y, r)) (hk : s[0].toNat = 3) (h8 : 8 ≤ r.size) : Calls Try.prog 49 #[.string s] w fun e w' => FirstPost (if Rec.check ⟨3, y, ⟨#[]⟩, Crc.le (r.data.toList.take 8)⟩ = 0 then some (⟨3, y, ⟨#[]⟩, Crc.le (r.data.toList.take 8)⟩, r.extract 8 r.size) else none) e ∧ Ext w w' := by
  have hrd := fun T c w (z : Nat) (hz : w.heap.size = z) => read1_yes_at s T c w h0 (by unfold maxLen; omega) hz
  have hb := s[0].toNat_lt
  have hR1 : (s.extract 1 s.size).size = s.size - 1 := by simp
  generalize s[0].toNat = Kd at *
  generalize s.extract 1 s.size = R1 at *
  have hsp := fun w => split_any R1 w (by unfold maxLen; omega)
  rw [splitAns_spl, h1] at hsp
  simp only at hsp
  have HSP := Lib.hid hsp
  have hwk : IntKind.u8.wrap (Kd : Int) = (Kd : Int) := by rw [IntKind.wrap_u8]; omega
  have HRD := Lib.hid hrd
  clear hrd hsp
  have hsz1 := Rec.spl_size h1
  subst hk
  have hrd8 := fun w T c => read8_yes r T c w h8 (by unfold maxLen; omega)
  have hle := Lend.le_lt (r.data.toList.take 8)
  have hl8 : (r.data.toList.take 8).length ≤ 8 := by rw [List.length_take]; omega
  have hdb : Crc.le (r.data.toList.take 8) < 18446744073709551616 := Nat.lt_of_lt_of_le hle (Nat.pow_le_pow_right (by decide) hl8 : 256 ^ _ ≤ 256 ^ 8)
  clear hle hl8
  generalize Crc.le (r.data.toList.take 8) = D at *
  have hck := fun w => check_any 3 D y ⟨#[]⟩ w (by decide) hdb (by unfold maxLen; omega) (Nat.zero_le _)
  generalize Rec.check ⟨3, y, ⟨#[]⟩, D⟩ = cc at *
  have HCK := Lib.hid hck; have HRD8 := Lib.hid hrd8
  clear hck hrd8 h1
  go_enter Try.func49, Try.ntmps49
  go_wp2_with fail
  refine (HRD.out _ _ _ _ (by simp)).mono ?_
  rintro e w1 ⟨bl, ol, dl, rfl, hl, he1⟩
  have r2 := (RowIs.new w 37 #[.int .u8 0, .string ⟨#[]⟩, .string ⟨#[]⟩, .int .u64 0]).ext he1
  have hE := (Ext.alloc w (.cells #[.int .u8 0, .string ⟨#[]⟩, .string ⟨#[]⟩, .int .u64 0] 37)).trans he1
  go_wp2_with fail
  have r7 := RowIs.new w1 37 #[Value.int .u8 ((3 : Nat) : Int), Value.string ⟨#[]⟩, Value.string ⟨#[]⟩, Value.int .u64 0]
  have hEa := Ext.alloc w1 (.cells #[Value.int .u8 ((3 : Nat) : Int), Value.string ⟨#[]⟩, Value.string ⟨#[]⟩, Value.int .u64 0] 37)
  refine (HSP.out _).mono ?_
  rintro e w2 ⟨rfl, he2⟩
  replace r7 := r7.ext he2
  replace r2 := (r2.ext hEa).ext he2
  replace hE := (hE.trans hEa).trans he2
  have h27 : w.heap.size ≠ w1.heap.size := by have := (RowIs.ext (RowIs.new w 37 #[.int .u8 0, .string ⟨#[]⟩, .string ⟨#[]⟩, .int .u64 0]) he1).lt; omega
  have hle : w.heap.size ≤ w1.heap.size := by have := (RowIs.ext (RowIs.new w 37 #[.int .u8 0, .string ⟨#[]⟩, .string ⟨#[]⟩, .int .u64 0]) he1).lt; omega
  obtain ⟨b7, hb7⟩ : ∃ b7, w1.heap.size = b7 := ⟨_, rfl⟩
  rw [hb7] at r7 h27 hle ⊢
  have f1 := r7.free 1
  have c1 := r7.cell 1 (.string ⟨#[]⟩) rfl
  clear hl he1 he2 hEa hb7
  go_upto_region 6 with (fail)
  have hst := Wrote.setCell r7 1 (.string y)
  replace r7 : RowIs b7 37 #[Value.int .u8 ((3 : Nat) : Int), Value.string y, Value.string ⟨#[]⟩, Value.int .u64 0] _ := r7.setCell 1 (.string y)
  replace r2 := hst.row r2 h27
  replace hE := hst.ext hE hle
  clear f1 c1 hst
  generalize w2.setCell ⟨b7, 1, none⟩ (.string y) = w3 at *
  have x0 := r7.cell 0 (.int .u8 ((3 : Nat) : Int)) rfl
  go_wp2_with fail
  refine (HRD8.out _ _ _).mono ?_
  rintro e w4 ⟨b8, o8, d8, rfl, hl8, he4⟩
  replace r7 := r7.ext he4
  replace r2 := r2.ext he4
  replace hE := hE.trans he4
  clear x0 he4
  have f1 := r7.free 3
  have c1 := r7.cell 3 (.int .u64 0) rfl
  go_upto_region 15 with (fail)
  have hst := Wrote.setCell r7 3 (.int .u64 (D : Int))
  replace r7 : RowIs b7 37 #[Value.int .u8 ((3 : Nat) : Int), Value.string y, Value.string ⟨#[]⟩, Value.int .u64 (D : Int)] _ := r7.setCell 3 (.int .u64 (D : Int))
  replace r2 := hst.row r2 h27
  replace hE := hst.ext hE hle
  clear f1 c1 hst
  generalize w4.setCell ⟨b7, 3, none⟩ (.int .u64 (D : Int)) = w5 at *
  go_upto_region 15 with (fail)
  have x0 := r7.cell 0 (.int .u8 ((3 : Nat) : Int)) rfl
  have x1 := r7.cell 1 (.string y) rfl
  have x2 := r7.cell 2 (.string ⟨#[]⟩) rfl
  have x3 := r7.cell 3 (.int .u64 (D : Int)) rfl
  have m1 : (w.heap.size, #[Value.int .u8 ((3 : Nat) : Int), Value.string y, Value.string ⟨#[]⟩, Value.int .u64 (D : Int)], 37) ∈ [(w.heap.size, #[Value.int .u8 ((3 : Nat) : Int), Value.string y, Value.string ⟨#[]⟩, Value.int .u64 (D : Int)], 37)] := List.mem_cons_self
  have u1 : ∀ p ∈ [(w.heap.size, #[Value.int .u8 ((3 : Nat) : Int), Value.string y, Value.string ⟨#[]⟩, Value.int .u64 (D : Int)], 37)], p.1 = w.heap.size → p = (w.heap.size, #[Value.int .u8 ((3 : Nat) : Int), Value.string y, Value.string ⟨#[]⟩, Value.int .u64 (D : Int)], 37) := by intro p hp _; simpa using hp
  have hb' : ∀ p ∈ [(w.heap.size, #[Value.int .u8 ((3 : Nat) : Int), Value.string y, Value.string ⟨#[]⟩, Value.int .u64 (D : Int)], 37)], w.heap.size ≤ p.1 := by intro p hp; simp at hp; rw [hp]; exact Nat.le_refl _
  have hn2 : ∀ p ∈ [(w.heap.size, #[Value.int .u8 ((3 : Nat) : Int), Value.string y, Value.string ⟨#[]⟩, Value.int .u64 (D : Int)], 37)], p.1 ≠ b7 := by intro p hp; simp at hp; rw [hp]; exact h27
  clear r7
  by_cases hcc : cc = 0
  · have hq : ((cc : Int) == 0) = true := by simp; omega
    have HCC := Lib.hid hcc
    clear hcc
    refine RR.wp_region_drift_lit (n := 66) (Boxes.rel [(w.heap.size, #[Value.int .u8 ((3 : Nat) : Int), Value.string y, Value.string ⟨#[]⟩, Value.int .u64 (D : Int)], 37)]) (by kernel_rfl) (by kernel_rfl) (by rfl) ?_
    apply RR.chain_val (.agg #[Value.int .u8 ((3 : Nat) : Int), Value.string y, Value.string ⟨#[]⟩, Value.int .u64 (D : Int)])
    · rfl
    · intro w2 hx  K hK
      simp only [Act.put, List.setIfInBounds_toArray, List.set_cons_zero, List.set_cons_succ] at hK ⊢
      have y0 := Boxes.cell x0 hn2 hx
      have y1 := Boxes.cell x1 hn2 hx
      have y2 := Boxes.cell x2 hn2 hx
      have y3 := Boxes.cell x3 hn2 hx
      go_simp
      exact hK _ _ ((Boxes.rel [(w.heap.size, #[Value.int .u8 ((3 : Nat) : Int), Value.string y, Value.string ⟨#[]⟩, Value.int .u64 (D : Int)], 37)]).refl _) rfl
    apply RR.chain_val
    · rfl
    · intro w2 hx  K hK
      simp only [Act.put, List.setIfInBounds_toArray, List.set_cons_zero, List.set_cons_succ] at hK ⊢
      go_simp
      exact hK _ _ (RR.Rel.refl (Boxes.rel [(w.heap.size, #[Value.int .u8 ((3 : Nat) : Int), Value.string y, Value.string ⟨#[]⟩, Value.int .u64 (D : Int)], 37)]) _) rfl
    apply RR.chain_val
    · rfl
    · intro w2 hx  K hK
      simp only [Act.put, List.setIfInBounds_toArray, List.set_cons_zero, List.set_cons_succ] at hK ⊢
      go_simp
      exact hK _ _ (RR.Rel.refl (Boxes.rel [(w.heap.size, #[Value.int .u8 ((3 : Nat) : Int), Value.string y, Value.string ⟨#[]⟩, Value.int .u64 (D : Int)], 37)]) _) rfl
    apply RR.chain_val
    · rfl
    · intro w2 hx  K hK
      simp only [Act.put, List.setIfInBounds_toArray, List.set_cons_zero, List.set_cons_succ] at hK ⊢
      go_simp
      exact hK _ _ (RR.Rel.refl (Boxes.rel [(w.heap.size, #[Value.int .u8 ((3 : Nat) : Int), Value.string y, Value.string ⟨#[]⟩, Value.int .u64 (D : Int)], 37)]) _) rfl
    apply RR.chain_val (.agg #[Value.int .u8 ((3 : Nat) : Int), Value.string y, Value.string ⟨#[]⟩, Value.int .u64 (D : Int)])
    · rfl
    · intro w2 hx  K hK
      simp only [Act.put, List.setIfInBounds_toArray, List.set_cons_zero, List.set_cons_succ] at hK ⊢
      have y0 := Boxes.cell x0 hn2 hx
      have y1 := Boxes.cell x1 hn2 hx
      have y2 := Boxes.cell x2 hn2 hx
      have y3 := Boxes.cell x3 hn2 hx
      go_simp
      exact hK _ _ ((Boxes.rel [(w.heap.size, #[Value.int .u8 ((3 : Nat) : Int), Value.string y, Value.string ⟨#[]⟩, Value.int .u64 (D : Int)], 37)]).refl _) rfl
    apply RR.chain_val (.int .i64 (cc : Int))
    · rfl
    · intro w2 hx  K hK
      simp only [Act.put, List.setIfInBounds_toArray, List.set_cons_zero, List.set_cons_succ] at hK ⊢
      go_simp
      refine (HCK.out _).mono ?_
      rintro e w19 ⟨rfl, he19⟩
      exact hK _ _ (Boxes.of he19) rfl
    apply RR.chain_val (.bool true)
    · rfl
    · intro w2 hx  K hK
      simp only [Act.put, List.setIfInBounds_toArray, List.set_cons_zero, List.set_cons_succ] at hK ⊢
      go_simp
      exact hK _ _ ((Boxes.rel [(w.heap.size, #[Value.int .u8 ((3 : Nat) : Int), Value.string y, Value.string ⟨#[]⟩, Value.int .u64 (D : Int)], 37)]).refl _) rfl
    apply RR.chain_val (.bool true)
    · rfl
    · intro w2 hx  K hK
      simp only [Act.put, List.setIfInBounds_toArray, List.set_cons_zero, List.set_cons_succ] at hK ⊢
      go_simp
      exact hK _ _ ((Boxes.rel [(w.heap.size, #[Value.int .u8 ((3 : Nat) : Int), Value.string y, Value.string ⟨#[]⟩, Value.int .u64 (D : Int)], 37)]).refl _) rfl
    refine RR.chain_store (PtrRow w.heap.size 37 (#[Value.int .u8 ((3 : Nat) : Int), Value.string y, Value.string ⟨#[]⟩, Value.int .u64 (D : Int)])) (fun _ _ _ e h => PtrRow.kept m1 h e) rfl rfl ?_ ?_
    · intro w2 hx  K hK
      simp only [Act.put, List.setIfInBounds_toArray, List.set_cons_zero, List.set_cons_succ] at hK ⊢
      obtain ⟨q, hr, hc⟩ := RowIs.either m1 r2 hx
      have hs : q.size = 4 := by rcases hc with rfl | rfl <;> rfl
      exact step_store rfl rfl rfl rfl hr (by kernel_rfl) hs (by simp [Value.oneCell']) (let ⟨e, q⟩ := setRow_boxes hr m1 u1; hK _ e ⟨rfl, q⟩)
    apply RR.chain_val
    · rfl
    · intro w2 hx _ _ v8 h8 K hK
      simp only [Act.put, List.setIfInBounds_toArray, List.set_cons_zero, List.set_cons_succ] at hK ⊢
      go_simp
      exact hK _ _ (RR.Rel.refl (Boxes.rel [(w.heap.size, #[Value.int .u8 ((3 : Nat) : Int), Value.string y, Value.string ⟨#[]⟩, Value.int .u64 (D : Int)], 37)]) _) rfl
    apply RR.chain_val
    · rfl
    · intro w2 hx v8 h8 K hK
      simp only [Act.put, List.setIfInBounds_toArray, List.set_cons_zero, List.set_cons_succ] at hK ⊢
      go_simp
      exact hK _ _ (RR.Rel.refl (Boxes.rel [(w.heap.size, #[Value.int .u8 ((3 : Nat) : Int), Value.string y, Value.string ⟨#[]⟩, Value.int .u64 (D : Int)], 37)]) _) rfl
    refine RR.chain_end fun w2 hx => ?_
    simp only [List.reverse_cons, List.reverse_nil, List.nil_append, List.cons_append, RR.withDeps, Act.put, List.setIfInBounds_toArray, List.set_cons_zero, List.set_cons_succ]
    intro v8 h8
    obtain ⟨rfl, h8⟩ := h8
    go_wp2_with fail
    (try simp only [Exit.inBlock, Exit.then])
    refine bodyPost_ret (results_ctt Try.results49 _ _ rfl h8 Try.underlying37 rfl (by kernel_rfl)) rfl ?_
    exact ⟨by (try rw [if_pos HCC.out]); exact (rfl : _ = _), Boxes.ext hE hx hb'⟩
  · have hq : ((cc : Int) == 0) = false := by simp; omega
    have HCC := Lib.hid hcc
    clear hcc
    refine RR.wp_region_drift_lit (n := 66) (Boxes.rel [(w.heap.size, #[Value.int .u8 ((3 : Nat) : Int), Value.string y, Value.string ⟨#[]⟩, Value.int .u64 (D : Int)], 37)]) (by kernel_rfl) (by kernel_rfl) (by rfl) ?_
    apply RR.chain_val (.agg #[Value.int .u8 ((3 : Nat) : Int), Value.string y, Value.string ⟨#[]⟩, Value.int .u64 (D : Int)])
    · rfl
    · intro w2 hx  K hK
      simp only [Act.put, List.setIfInBounds_toArray, List.set_cons_zero, List.set_cons_succ] at hK ⊢
      have y0 := Boxes.cell x0 hn2 hx
      have y1 := Boxes.cell x1 hn2 hx
      have y2 := Boxes.cell x2 hn2 hx
      have y3 := Boxes.cell x3 hn2 hx
      go_simp
      exact hK _ _ ((Boxes.rel [(w.heap.size, #[Value.int .u8 ((3 : Nat) : Int), Value.string y, Value.string ⟨#[]⟩, Value.int .u64 (D : Int)], 37)]).refl _) rfl
    apply RR.chain_val
    · rfl
    · intro w2 hx  K hK
      simp only [Act.put, List.setIfInBounds_toArray, List.set_cons_zero, List.set_cons_succ] at hK ⊢
      go_simp
      exact hK _ _ (RR.Rel.refl (Boxes.rel [(w.heap.size, #[Value.int .u8 ((3 : Nat) : Int), Value.string y, Value.string ⟨#[]⟩, Value.int .u64 (D : Int)], 37)]) _) rfl
    apply RR.chain_val
    · rfl
    · intro w2 hx  K hK
      simp only [Act.put, List.setIfInBounds_toArray, List.set_cons_zero, List.set_cons_succ] at hK ⊢
      go_simp
      exact hK _ _ (RR.Rel.refl (Boxes.rel [(w.heap.size, #[Value.int .u8 ((3 : Nat) : Int), Value.string y, Value.string ⟨#[]⟩, Value.int .u64 (D : Int)], 37)]) _) rfl
    apply RR.chain_val
    · rfl
    · intro w2 hx  K hK
      simp only [Act.put, List.setIfInBounds_toArray, List.set_cons_zero, List.set_cons_succ] at hK ⊢
      go_simp
      exact hK _ _ (RR.Rel.refl (Boxes.rel [(w.heap.size, #[Value.int .u8 ((3 : Nat) : Int), Value.string y, Value.string ⟨#[]⟩, Value.int .u64 (D : Int)], 37)]) _) rfl
    apply RR.chain_val (.agg #[Value.int .u8 ((3 : Nat) : Int), Value.string y, Value.string ⟨#[]⟩, Value.int .u64 (D : Int)])
    · rfl
    · intro w2 hx  K hK
      simp only [Act.put, List.setIfInBounds_toArray, List.set_cons_zero, List.set_cons_succ] at hK ⊢
      have y0 := Boxes.cell x0 hn2 hx
      have y1 := Boxes.cell x1 hn2 hx
      have y2 := Boxes.cell x2 hn2 hx
      have y3 := Boxes.cell x3 hn2 hx
      go_simp
      exact hK _ _ ((Boxes.rel [(w.heap.size, #[Value.int .u8 ((3 : Nat) : Int), Value.string y, Value.string ⟨#[]⟩, Value.int .u64 (D : Int)], 37)]).refl _) rfl
    apply RR.chain_val (.int .i64 (cc : Int))
    · rfl
    · intro w2 hx  K hK
      simp only [Act.put, List.setIfInBounds_toArray, List.set_cons_zero, List.set_cons_succ] at hK ⊢
      go_simp
      refine (HCK.out _).mono ?_
      rintro e w19 ⟨rfl, he19⟩
      exact hK _ _ (Boxes.of he19) rfl
    apply RR.chain_val (.bool false)
    · rfl
    · intro w2 hx  K hK
      simp only [Act.put, List.setIfInBounds_toArray, List.set_cons_zero, List.set_cons_succ] at hK ⊢
      go_simp
      exact hK _ _ ((Boxes.rel [(w.heap.size, #[Value.int .u8 ((3 : Nat) : Int), Value.string y, Value.string ⟨#[]⟩, Value.int .u64 (D : Int)], 37)]).refl _) rfl
    apply RR.chain_val (.bool false)
    · rfl
    · intro w2 hx  K hK
      simp only [Act.put, List.setIfInBounds_toArray, List.set_cons_zero, List.set_cons_succ] at hK ⊢
      go_simp
      exact hK _ _ ((Boxes.rel [(w.heap.size, #[Value.int .u8 ((3 : Nat) : Int), Value.string y, Value.string ⟨#[]⟩, Value.int .u64 (D : Int)], 37)]).refl _) rfl
    refine RR.chain_store (PtrRow w.heap.size 37 (#[Value.int .u8 ((3 : Nat) : Int), Value.string y, Value.string ⟨#[]⟩, Value.int .u64 (D : Int)])) (fun _ _ _ e h => PtrRow.kept m1 h e) rfl rfl ?_ ?_
    · intro w2 hx  K hK
      simp only [Act.put, List.setIfInBounds_toArray, List.set_cons_zero, List.set_cons_succ] at hK ⊢
      obtain ⟨q, hr, hc⟩ := RowIs.either m1 r2 hx
      have hs : q.size = 4 := by rcases hc with rfl | rfl <;> rfl
      exact step_store rfl rfl rfl rfl hr (by kernel_rfl) hs (by simp [Value.oneCell']) (let ⟨e, q⟩ := setRow_boxes hr m1 u1; hK _ e ⟨rfl, q⟩)
    apply RR.chain_val
    · rfl
    · intro w2 hx _ _ v8 h8 K hK
      simp only [Act.put, List.setIfInBounds_toArray, List.set_cons_zero, List.set_cons_succ] at hK ⊢
      go_simp
      exact hK _ _ (RR.Rel.refl (Boxes.rel [(w.heap.size, #[Value.int .u8 ((3 : Nat) : Int), Value.string y, Value.string ⟨#[]⟩, Value.int .u64 (D : Int)], 37)]) _) rfl
    apply RR.chain_val
    · rfl
    · intro w2 hx v8 h8 K hK
      simp only [Act.put, List.setIfInBounds_toArray, List.set_cons_zero, List.set_cons_succ] at hK ⊢
      go_simp
      exact hK _ _ (RR.Rel.refl (Boxes.rel [(w.heap.size, #[Value.int .u8 ((3 : Nat) : Int), Value.string y, Value.string ⟨#[]⟩, Value.int .u64 (D : Int)], 37)]) _) rfl
    refine RR.chain_end fun w2 hx => ?_
    simp only [List.reverse_cons, List.reverse_nil, List.nil_append, List.cons_append, RR.withDeps, Act.put, List.setIfInBounds_toArray, List.set_cons_zero, List.set_cons_succ]
    intro v8 h8
    obtain ⟨rfl, h8⟩ := h8
    go_wp2_with fail
    (try simp only [Exit.inBlock, Exit.then])
    refine bodyPost_ret (results_ctt Try.results49 _ _ rfl h8 Try.underlying37 rfl (by kernel_rfl)) rfl ?_
    exact ⟨by (try rw [if_neg HCC.out]); exact ⟨_, _, _, _, _, rfl⟩, Boxes.ext hE hx hb'⟩
set_option maxRecDepth 100000 in
set_option maxHeartbeats 4000000 in
theorem first_c5 (s : ByteArray) (w : World) (hs : s.size ≤ 1000000) (h0 : 0 < s.size) (y r : ByteArray) (h1 : Rec.spl (s.extract 1 s.size) = some (y, r)) (hk : s[0].toNat = 3) (h8 : ¬ 8 ≤ r.size) : Calls Try.prog 49 #[.string s] w fun e w' => FirstPost none e ∧ Ext w w' := by
  have hrd := fun T c w (z : Nat) (hz : w.heap.size = z) => read1_yes_at s T c w h0 (by unfold maxLen; omega) hz
  have hb := s[0].toNat_lt
  have hR1 : (s.extract 1 s.size).size = s.size - 1 := by simp
  generalize s[0].toNat = Kd at *
  generalize s.extract 1 s.size = R1 at *
  have hsp := fun w => split_any R1 w (by unfold maxLen; omega)
  rw [splitAns_spl, h1] at hsp
  simp only at hsp
  have HSP := Lib.hid hsp
  have hwk : IntKind.u8.wrap (Kd : Int) = (Kd : Int) := by rw [IntKind.wrap_u8]; omega
  have HRD := Lib.hid hrd
  clear hrd hsp
  subst hk
  have HRD8 := Lib.hid (fun w T c => read8_no r T c w (by omega))
  clear h1
  go_enter Try.func49, Try.ntmps49
  go_wp2_with fail
  refine (HRD.out _ _ _ _ (by simp)).mono ?_
  rintro e w1 ⟨bl, ol, dl, rfl, hl, he1⟩
  have r2 := (RowIs.new w 37 #[.int .u8 0, .string ⟨#[]⟩, .string ⟨#[]⟩, .int .u64 0]).ext he1
  have hE := (Ext.alloc w (.cells #[.int .u8 0, .string ⟨#[]⟩, .string ⟨#[]⟩, .int .u64 0] 37)).trans he1
  go_wp2_with fail
  have r7 := RowIs.new w1 37 #[Value.int .u8 ((3 : Nat) : Int), Value.string ⟨#[]⟩, Value.string ⟨#[]⟩, Value.int .u64 0]
  have hEa := Ext.alloc w1 (.cells #[Value.int .u8 ((3 : Nat) : Int), Value.string ⟨#[]⟩, Value.string ⟨#[]⟩, Value.int .u64 0] 37)
  refine (HSP.out _).mono ?_
  rintro e w2 ⟨rfl, he2⟩
  replace r7 := r7.ext he2
  replace r2 := (r2.ext hEa).ext he2
  replace hE := (hE.trans hEa).trans he2
  have h27 : w.heap.size ≠ w1.heap.size := by have := (RowIs.ext (RowIs.new w 37 #[.int .u8 0, .string ⟨#[]⟩, .string ⟨#[]⟩, .int .u64 0]) he1).lt; omega
  have hle : w.heap.size ≤ w1.heap.size := by have := (RowIs.ext (RowIs.new w 37 #[.int .u8 0, .string ⟨#[]⟩, .string ⟨#[]⟩, .int .u64 0]) he1).lt; omega
  obtain ⟨b7, hb7⟩ : ∃ b7, w1.heap.size = b7 := ⟨_, rfl⟩
  rw [hb7] at r7 h27 hle ⊢
  have f1 := r7.free 1
  have c1 := r7.cell 1 (.string ⟨#[]⟩) rfl
  clear hl he1 he2 hEa hb7
  go_upto_region 6 with (fail)
  have hst := Wrote.setCell r7 1 (.string y)
  replace r7 : RowIs b7 37 #[Value.int .u8 ((3 : Nat) : Int), Value.string y, Value.string ⟨#[]⟩, Value.int .u64 0] _ := r7.setCell 1 (.string y)
  replace r2 := hst.row r2 h27
  replace hE := hst.ext hE hle
  clear f1 c1 hst
  generalize w2.setCell ⟨b7, 1, none⟩ (.string y) = w3 at *
  have x0 := r7.cell 0 (.int .u8 ((3 : Nat) : Int)) rfl
  go_wp2_with fail
  refine (HRD8.out _ _ _).mono ?_
  rintro e w4 ⟨rfl, he4⟩
  replace r7 := r7.ext he4
  replace r2 := r2.ext he4
  replace hE := hE.trans he4
  clear x0 he4
  go_upto_region 15 with (fail)
  have x0 := r7.cell 0 (.int .u8 ((3 : Nat) : Int)) rfl
  have x1 := r7.cell 1 (.string y) rfl
  have x2 := r7.cell 2 (.string ⟨#[]⟩) rfl
  have x3 := r7.cell 3 (.int .u64 0) rfl
  have m1 : (w.heap.size, #[Value.int .u8 ((3 : Nat) : Int), Value.string y, Value.string ⟨#[]⟩, Value.int .u64 0], 37) ∈ [(w.heap.size, #[Value.int .u8 ((3 : Nat) : Int), Value.string y, Value.string ⟨#[]⟩, Value.int .u64 0], 37)] := List.mem_cons_self
  have u1 : ∀ p ∈ [(w.heap.size, #[Value.int .u8 ((3 : Nat) : Int), Value.string y, Value.string ⟨#[]⟩, Value.int .u64 0], 37)], p.1 = w.heap.size → p = (w.heap.size, #[Value.int .u8 ((3 : Nat) : Int), Value.string y, Value.string ⟨#[]⟩, Value.int .u64 0], 37) := by intro p hp _; simpa using hp
  have hb' : ∀ p ∈ [(w.heap.size, #[Value.int .u8 ((3 : Nat) : Int), Value.string y, Value.string ⟨#[]⟩, Value.int .u64 0], 37)], w.heap.size ≤ p.1 := by intro p hp; simp at hp; rw [hp]; exact Nat.le_refl _
  have hn2 : ∀ p ∈ [(w.heap.size, #[Value.int .u8 ((3 : Nat) : Int), Value.string y, Value.string ⟨#[]⟩, Value.int .u64 0], 37)], p.1 ≠ b7 := by intro p hp; simp at hp; rw [hp]; exact h27
  clear r7
  refine RR.wp_region_drift_lit (n := 66) (Boxes.rel [(w.heap.size, #[Value.int .u8 ((3 : Nat) : Int), Value.string y, Value.string ⟨#[]⟩, Value.int .u64 0], 37)]) (by kernel_rfl) (by kernel_rfl) (by rfl) ?_
  apply RR.chain_val (.agg #[Value.int .u8 ((3 : Nat) : Int), Value.string y, Value.string ⟨#[]⟩, Value.int .u64 0])
  · rfl
  · intro w2 hx  K hK
    simp only [Act.put, List.setIfInBounds_toArray, List.set_cons_zero, List.set_cons_succ] at hK ⊢
    have y0 := Boxes.cell x0 hn2 hx
    have y1 := Boxes.cell x1 hn2 hx
    have y2 := Boxes.cell x2 hn2 hx
    have y3 := Boxes.cell x3 hn2 hx
    go_simp
    exact hK _ _ ((Boxes.rel [(w.heap.size, #[Value.int .u8 ((3 : Nat) : Int), Value.string y, Value.string ⟨#[]⟩, Value.int .u64 0], 37)]).refl _) rfl
  apply RR.chain_val
  · rfl
  · intro w2 hx  K hK
    simp only [Act.put, List.setIfInBounds_toArray, List.set_cons_zero, List.set_cons_succ] at hK ⊢
    go_simp
    exact hK _ _ (RR.Rel.refl (Boxes.rel [(w.heap.size, #[Value.int .u8 ((3 : Nat) : Int), Value.string y, Value.string ⟨#[]⟩, Value.int .u64 0], 37)]) _) rfl
  apply RR.chain_val
  · rfl
  · intro w2 hx  K hK
    simp only [Act.put, List.setIfInBounds_toArray, List.set_cons_zero, List.set_cons_succ] at hK ⊢
    go_simp
    exact hK _ _ (RR.Rel.refl (Boxes.rel [(w.heap.size, #[Value.int .u8 ((3 : Nat) : Int), Value.string y, Value.string ⟨#[]⟩, Value.int .u64 0], 37)]) _) rfl
  apply RR.chain_val
  · rfl
  · intro w2 hx  K hK
    simp only [Act.put, List.setIfInBounds_toArray, List.set_cons_zero, List.set_cons_succ] at hK ⊢
    go_simp
    exact hK _ _ (RR.Rel.refl (Boxes.rel [(w.heap.size, #[Value.int .u8 ((3 : Nat) : Int), Value.string y, Value.string ⟨#[]⟩, Value.int .u64 0], 37)]) _) rfl
  apply RR.chain_val
  · rfl
  · intro w2 hx  K hK
    simp only [Act.put, List.setIfInBounds_toArray, List.set_cons_zero, List.set_cons_succ] at hK ⊢
    go_simp
    exact hK _ _ (RR.Rel.refl (Boxes.rel [(w.heap.size, #[Value.int .u8 ((3 : Nat) : Int), Value.string y, Value.string ⟨#[]⟩, Value.int .u64 0], 37)]) _) rfl
  apply RR.chain_val
  · rfl
  · intro w2 hx  K hK
    simp only [Act.put, List.setIfInBounds_toArray, List.set_cons_zero, List.set_cons_succ] at hK ⊢
    go_simp
    exact hK _ _ (RR.Rel.refl (Boxes.rel [(w.heap.size, #[Value.int .u8 ((3 : Nat) : Int), Value.string y, Value.string ⟨#[]⟩, Value.int .u64 0], 37)]) _) rfl
  apply RR.chain_val
  · rfl
  · intro w2 hx  K hK
    simp only [Act.put, List.setIfInBounds_toArray, List.set_cons_zero, List.set_cons_succ] at hK ⊢
    go_simp
    exact hK _ _ (RR.Rel.refl (Boxes.rel [(w.heap.size, #[Value.int .u8 ((3 : Nat) : Int), Value.string y, Value.string ⟨#[]⟩, Value.int .u64 0], 37)]) _) rfl
  apply RR.chain_val (.bool false)
  · rfl
  · intro w2 hx  K hK
    simp only [Act.put, List.setIfInBounds_toArray, List.set_cons_zero, List.set_cons_succ] at hK ⊢
    go_simp
    exact hK _ _ ((Boxes.rel [(w.heap.size, #[Value.int .u8 ((3 : Nat) : Int), Value.string y, Value.string ⟨#[]⟩, Value.int .u64 0], 37)]).refl _) rfl
  refine RR.chain_store (PtrRow w.heap.size 37 (#[Value.int .u8 ((3 : Nat) : Int), Value.string y, Value.string ⟨#[]⟩, Value.int .u64 0])) (fun _ _ _ e h => PtrRow.kept m1 h e) rfl rfl ?_ ?_
  · intro w2 hx  K hK
    simp only [Act.put, List.setIfInBounds_toArray, List.set_cons_zero, List.set_cons_succ] at hK ⊢
    obtain ⟨q, hr, hc⟩ := RowIs.either m1 r2 hx
    have hs : q.size = 4 := by rcases hc with rfl | rfl <;> rfl
    exact step_store rfl rfl rfl rfl hr (by kernel_rfl) hs (by simp [Value.oneCell']) (let ⟨e, q⟩ := setRow_boxes hr m1 u1; hK _ e ⟨rfl, q⟩)
  apply RR.chain_val
  · rfl
  · intro w2 hx _ _ v8 h8 K hK
    simp only [Act.put, List.setIfInBounds_toArray, List.set_cons_zero, List.set_cons_succ] at hK ⊢
    go_simp
    exact hK _ _ (RR.Rel.refl (Boxes.rel [(w.heap.size, #[Value.int .u8 ((3 : Nat) : Int), Value.string y, Value.string ⟨#[]⟩, Value.int .u64 0], 37)]) _) rfl
  apply RR.chain_val
  · rfl
  · intro w2 hx v8 h8 K hK
    simp only [Act.put, List.setIfInBounds_toArray, List.set_cons_zero, List.set_cons_succ] at hK ⊢
    go_simp
    exact hK _ _ (RR.Rel.refl (Boxes.rel [(w.heap.size, #[Value.int .u8 ((3 : Nat) : Int), Value.string y, Value.string ⟨#[]⟩, Value.int .u64 0], 37)]) _) rfl
  refine RR.chain_end fun w2 hx => ?_
  simp only [List.reverse_cons, List.reverse_nil, List.nil_append, List.cons_append, RR.withDeps, Act.put, List.setIfInBounds_toArray, List.set_cons_zero, List.set_cons_succ]
  intro v8 h8
  obtain ⟨rfl, h8⟩ := h8
  go_wp2_with fail
  (try simp only [Exit.inBlock, Exit.then])
  refine bodyPost_ret (results_ctt Try.results49 _ _ rfl h8 Try.underlying37 rfl (by kernel_rfl)) rfl ?_
  exact ⟨⟨_, _, _, _, _, rfl⟩, Boxes.ext hE hx hb'⟩
set_option maxRecDepth 100000 in
set_option maxHeartbeats 4000000 in
theorem first_c6 (s : ByteArray) (w : World) (hs : s.size ≤ 1000000) (h0 : 0 < s.size) (y r : ByteArray) (h1 : Rec.spl (s.extract 1 s.size) = some (y, r)) (hk1 : s[0].toNat ≠ 1) (hk3 : s[0].toNat ≠ 3) : Calls Try.prog 49 #[.string s] w fun e w' => FirstPost (if Rec.check ⟨s[0].toNat, y, ⟨#[]⟩, 0⟩ = 0 then some (⟨s[0].toNat, y, ⟨#[]⟩, 0⟩, r) else none) e ∧ Ext w w' := by
  have hrd := fun T c w (z : Nat) (hz : w.heap.size = z) => read1_yes_at s T c w h0 (by unfold maxLen; omega) hz
  have hb := s[0].toNat_lt
  have hR1 : (s.extract 1 s.size).size = s.size - 1 := by simp
  generalize s[0].toNat = Kd at *
  generalize s.extract 1 s.size = R1 at *
  have hsp := fun w => split_any R1 w (by unfold maxLen; omega)
  rw [splitAns_spl, h1] at hsp
  simp only at hsp
  have HSP := Lib.hid hsp
  have hwk : IntKind.u8.wrap (Kd : Int) = (Kd : Int) := by rw [IntKind.wrap_u8]; omega
  have HRD := Lib.hid hrd
  clear hrd hsp
  have hsz1 := Rec.spl_size h1
  have hkk1 : ((Kd : Int) == 1) = false := by simp; omega
  have hkk3 : ((Kd : Int) == 3) = false := by simp; omega
  have hck := fun w => check_any Kd 0 y ⟨#[]⟩ w hb (by decide) (by unfold maxLen; omega) (Nat.zero_le _)
  generalize Rec.check ⟨Kd, y, ⟨#[]⟩, 0⟩ = cc at *
  have HCK := Lib.hid hck
  clear hck hk1 hk3 h1
  go_enter Try.func49, Try.ntmps49
  go_wp2_with fail
  refine (HRD.out _ _ _ _ (by simp)).mono ?_
  rintro e w1 ⟨bl, ol, dl, rfl, hl, he1⟩
  have r2 := (RowIs.new w 37 #[.int .u8 0, .string ⟨#[]⟩, .string ⟨#[]⟩, .int .u64 0]).ext he1
  have hE := (Ext.alloc w (.cells #[.int .u8 0, .string ⟨#[]⟩, .string ⟨#[]⟩, .int .u64 0] 37)).trans he1
  go_wp2_with fail
  have r7 := RowIs.new w1 37 #[Value.int .u8 (Kd : Int), Value.string ⟨#[]⟩, Value.string ⟨#[]⟩, Value.int .u64 0]
  have hEa := Ext.alloc w1 (.cells #[Value.int .u8 (Kd : Int), Value.string ⟨#[]⟩, Value.string ⟨#[]⟩, Value.int .u64 0] 37)
  refine (HSP.out _).mono ?_
  rintro e w2 ⟨rfl, he2⟩
  replace r7 := r7.ext he2
  replace r2 := (r2.ext hEa).ext he2
  replace hE := (hE.trans hEa).trans he2
  have h27 : w.heap.size ≠ w1.heap.size := by have := (RowIs.ext (RowIs.new w 37 #[.int .u8 0, .string ⟨#[]⟩, .string ⟨#[]⟩, .int .u64 0]) he1).lt; omega
  have hle : w.heap.size ≤ w1.heap.size := by have := (RowIs.ext (RowIs.new w 37 #[.int .u8 0, .string ⟨#[]⟩, .string ⟨#[]⟩, .int .u64 0]) he1).lt; omega
  obtain ⟨b7, hb7⟩ : ∃ b7, w1.heap.size = b7 := ⟨_, rfl⟩
  rw [hb7] at r7 h27 hle ⊢
  have f1 := r7.free 1
  have c1 := r7.cell 1 (.string ⟨#[]⟩) rfl
  clear hl he1 he2 hEa hb7
  go_upto_region 6 with (fail)
  have hst := Wrote.setCell r7 1 (.string y)
  replace r7 : RowIs b7 37 #[Value.int .u8 (Kd : Int), Value.string y, Value.string ⟨#[]⟩, Value.int .u64 0] _ := r7.setCell 1 (.string y)
  replace r2 := hst.row r2 h27
  replace hE := hst.ext hE hle
  clear f1 c1 hst
  generalize w2.setCell ⟨b7, 1, none⟩ (.string y) = w3 at *
  have x0 := r7.cell 0 (.int .u8 (Kd : Int)) rfl
  go_upto_region 15 with (fail)
  have x0 := r7.cell 0 (.int .u8 (Kd : Int)) rfl
  have x1 := r7.cell 1 (.string y) rfl
  have x2 := r7.cell 2 (.string ⟨#[]⟩) rfl
  have x3 := r7.cell 3 (.int .u64 0) rfl
  have m1 : (w.heap.size, #[Value.int .u8 (Kd : Int), Value.string y, Value.string ⟨#[]⟩, Value.int .u64 0], 37) ∈ [(w.heap.size, #[Value.int .u8 (Kd : Int), Value.string y, Value.string ⟨#[]⟩, Value.int .u64 0], 37)] := List.mem_cons_self
  have u1 : ∀ p ∈ [(w.heap.size, #[Value.int .u8 (Kd : Int), Value.string y, Value.string ⟨#[]⟩, Value.int .u64 0], 37)], p.1 = w.heap.size → p = (w.heap.size, #[Value.int .u8 (Kd : Int), Value.string y, Value.string ⟨#[]⟩, Value.int .u64 0], 37) := by intro p hp _; simpa using hp
  have hb' : ∀ p ∈ [(w.heap.size, #[Value.int .u8 (Kd : Int), Value.string y, Value.string ⟨#[]⟩, Value.int .u64 0], 37)], w.heap.size ≤ p.1 := by intro p hp; simp at hp; rw [hp]; exact Nat.le_refl _
  have hn2 : ∀ p ∈ [(w.heap.size, #[Value.int .u8 (Kd : Int), Value.string y, Value.string ⟨#[]⟩, Value.int .u64 0], 37)], p.1 ≠ b7 := by intro p hp; simp at hp; rw [hp]; exact h27
  clear r7
  by_cases hcc : cc = 0
  · have hq : ((cc : Int) == 0) = true := by simp; omega
    have HCC := Lib.hid hcc
    clear hcc
    refine RR.wp_region_drift_lit (n := 66) (Boxes.rel [(w.heap.size, #[Value.int .u8 (Kd : Int), Value.string y, Value.string ⟨#[]⟩, Value.int .u64 0], 37)]) (by kernel_rfl) (by kernel_rfl) (by rfl) ?_
    apply RR.chain_val (.agg #[Value.int .u8 (Kd : Int), Value.string y, Value.string ⟨#[]⟩, Value.int .u64 0])
    · rfl
    · intro w2 hx  K hK
      simp only [Act.put, List.setIfInBounds_toArray, List.set_cons_zero, List.set_cons_succ] at hK ⊢
      have y0 := Boxes.cell x0 hn2 hx
      have y1 := Boxes.cell x1 hn2 hx
      have y2 := Boxes.cell x2 hn2 hx
      have y3 := Boxes.cell x3 hn2 hx
      go_simp
      exact hK _ _ ((Boxes.rel [(w.heap.size, #[Value.int .u8 (Kd : Int), Value.string y, Value.string ⟨#[]⟩, Value.int .u64 0], 37)]).refl _) rfl
    apply RR.chain_val
    · rfl
    · intro w2 hx  K hK
      simp only [Act.put, List.setIfInBounds_toArray, List.set_cons_zero, List.set_cons_succ] at hK ⊢
      go_simp
      exact hK _ _ (RR.Rel.refl (Boxes.rel [(w.heap.size, #[Value.int .u8 (Kd : Int), Value.string y, Value.string ⟨#[]⟩, Value.int .u64 0], 37)]) _) rfl
    apply RR.chain_val
    · rfl
    · intro w2 hx  K hK
      simp only [Act.put, List.setIfInBounds_toArray, List.set_cons_zero, List.set_cons_succ] at hK ⊢
      go_simp
      exact hK _ _ (RR.Rel.refl (Boxes.rel [(w.heap.size, #[Value.int .u8 (Kd : Int), Value.string y, Value.string ⟨#[]⟩, Value.int .u64 0], 37)]) _) rfl
    apply RR.chain_val
    · rfl
    · intro w2 hx  K hK
      simp only [Act.put, List.setIfInBounds_toArray, List.set_cons_zero, List.set_cons_succ] at hK ⊢
      go_simp
      exact hK _ _ (RR.Rel.refl (Boxes.rel [(w.heap.size, #[Value.int .u8 (Kd : Int), Value.string y, Value.string ⟨#[]⟩, Value.int .u64 0], 37)]) _) rfl
    apply RR.chain_val (.agg #[Value.int .u8 (Kd : Int), Value.string y, Value.string ⟨#[]⟩, Value.int .u64 0])
    · rfl
    · intro w2 hx  K hK
      simp only [Act.put, List.setIfInBounds_toArray, List.set_cons_zero, List.set_cons_succ] at hK ⊢
      have y0 := Boxes.cell x0 hn2 hx
      have y1 := Boxes.cell x1 hn2 hx
      have y2 := Boxes.cell x2 hn2 hx
      have y3 := Boxes.cell x3 hn2 hx
      go_simp
      exact hK _ _ ((Boxes.rel [(w.heap.size, #[Value.int .u8 (Kd : Int), Value.string y, Value.string ⟨#[]⟩, Value.int .u64 0], 37)]).refl _) rfl
    apply RR.chain_val (.int .i64 (cc : Int))
    · rfl
    · intro w2 hx  K hK
      simp only [Act.put, List.setIfInBounds_toArray, List.set_cons_zero, List.set_cons_succ] at hK ⊢
      go_simp
      refine (HCK.out _).mono ?_
      rintro e w19 ⟨rfl, he19⟩
      exact hK _ _ (Boxes.of he19) rfl
    apply RR.chain_val (.bool true)
    · rfl
    · intro w2 hx  K hK
      simp only [Act.put, List.setIfInBounds_toArray, List.set_cons_zero, List.set_cons_succ] at hK ⊢
      go_simp
      exact hK _ _ ((Boxes.rel [(w.heap.size, #[Value.int .u8 (Kd : Int), Value.string y, Value.string ⟨#[]⟩, Value.int .u64 0], 37)]).refl _) rfl
    apply RR.chain_val (.bool true)
    · rfl
    · intro w2 hx  K hK
      simp only [Act.put, List.setIfInBounds_toArray, List.set_cons_zero, List.set_cons_succ] at hK ⊢
      go_simp
      exact hK _ _ ((Boxes.rel [(w.heap.size, #[Value.int .u8 (Kd : Int), Value.string y, Value.string ⟨#[]⟩, Value.int .u64 0], 37)]).refl _) rfl
    refine RR.chain_store (PtrRow w.heap.size 37 (#[Value.int .u8 (Kd : Int), Value.string y, Value.string ⟨#[]⟩, Value.int .u64 0])) (fun _ _ _ e h => PtrRow.kept m1 h e) rfl rfl ?_ ?_
    · intro w2 hx  K hK
      simp only [Act.put, List.setIfInBounds_toArray, List.set_cons_zero, List.set_cons_succ] at hK ⊢
      obtain ⟨q, hr, hc⟩ := RowIs.either m1 r2 hx
      have hs : q.size = 4 := by rcases hc with rfl | rfl <;> rfl
      exact step_store rfl rfl rfl rfl hr (by kernel_rfl) hs (by simp [Value.oneCell']) (let ⟨e, q⟩ := setRow_boxes hr m1 u1; hK _ e ⟨rfl, q⟩)
    apply RR.chain_val
    · rfl
    · intro w2 hx _ _ v8 h8 K hK
      simp only [Act.put, List.setIfInBounds_toArray, List.set_cons_zero, List.set_cons_succ] at hK ⊢
      go_simp
      exact hK _ _ (RR.Rel.refl (Boxes.rel [(w.heap.size, #[Value.int .u8 (Kd : Int), Value.string y, Value.string ⟨#[]⟩, Value.int .u64 0], 37)]) _) rfl
    apply RR.chain_val
    · rfl
    · intro w2 hx v8 h8 K hK
      simp only [Act.put, List.setIfInBounds_toArray, List.set_cons_zero, List.set_cons_succ] at hK ⊢
      go_simp
      exact hK _ _ (RR.Rel.refl (Boxes.rel [(w.heap.size, #[Value.int .u8 (Kd : Int), Value.string y, Value.string ⟨#[]⟩, Value.int .u64 0], 37)]) _) rfl
    refine RR.chain_end fun w2 hx => ?_
    simp only [List.reverse_cons, List.reverse_nil, List.nil_append, List.cons_append, RR.withDeps, Act.put, List.setIfInBounds_toArray, List.set_cons_zero, List.set_cons_succ]
    intro v8 h8
    obtain ⟨rfl, h8⟩ := h8
    go_wp2_with fail
    (try simp only [Exit.inBlock, Exit.then])
    refine bodyPost_ret (results_ctt Try.results49 _ _ rfl h8 Try.underlying37 rfl (by kernel_rfl)) rfl ?_
    exact ⟨by (try rw [if_pos HCC.out]); exact (rfl : _ = _), Boxes.ext hE hx hb'⟩
  · have hq : ((cc : Int) == 0) = false := by simp; omega
    have HCC := Lib.hid hcc
    clear hcc
    refine RR.wp_region_drift_lit (n := 66) (Boxes.rel [(w.heap.size, #[Value.int .u8 (Kd : Int), Value.string y, Value.string ⟨#[]⟩, Value.int .u64 0], 37)]) (by kernel_rfl) (by kernel_rfl) (by rfl) ?_
    apply RR.chain_val (.agg #[Value.int .u8 (Kd : Int), Value.string y, Value.string ⟨#[]⟩, Value.int .u64 0])
    · rfl
    · intro w2 hx  K hK
      simp only [Act.put, List.setIfInBounds_toArray, List.set_cons_zero, List.set_cons_succ] at hK ⊢
      have y0 := Boxes.cell x0 hn2 hx
      have y1 := Boxes.cell x1 hn2 hx
      have y2 := Boxes.cell x2 hn2 hx
      have y3 := Boxes.cell x3 hn2 hx
      go_simp
      exact hK _ _ ((Boxes.rel [(w.heap.size, #[Value.int .u8 (Kd : Int), Value.string y, Value.string ⟨#[]⟩, Value.int .u64 0], 37)]).refl _) rfl
    apply RR.chain_val
    · rfl
    · intro w2 hx  K hK
      simp only [Act.put, List.setIfInBounds_toArray, List.set_cons_zero, List.set_cons_succ] at hK ⊢
      go_simp
      exact hK _ _ (RR.Rel.refl (Boxes.rel [(w.heap.size, #[Value.int .u8 (Kd : Int), Value.string y, Value.string ⟨#[]⟩, Value.int .u64 0], 37)]) _) rfl
    apply RR.chain_val
    · rfl
    · intro w2 hx  K hK
      simp only [Act.put, List.setIfInBounds_toArray, List.set_cons_zero, List.set_cons_succ] at hK ⊢
      go_simp
      exact hK _ _ (RR.Rel.refl (Boxes.rel [(w.heap.size, #[Value.int .u8 (Kd : Int), Value.string y, Value.string ⟨#[]⟩, Value.int .u64 0], 37)]) _) rfl
    apply RR.chain_val
    · rfl
    · intro w2 hx  K hK
      simp only [Act.put, List.setIfInBounds_toArray, List.set_cons_zero, List.set_cons_succ] at hK ⊢
      go_simp
      exact hK _ _ (RR.Rel.refl (Boxes.rel [(w.heap.size, #[Value.int .u8 (Kd : Int), Value.string y, Value.string ⟨#[]⟩, Value.int .u64 0], 37)]) _) rfl
    apply RR.chain_val (.agg #[Value.int .u8 (Kd : Int), Value.string y, Value.string ⟨#[]⟩, Value.int .u64 0])
    · rfl
    · intro w2 hx  K hK
      simp only [Act.put, List.setIfInBounds_toArray, List.set_cons_zero, List.set_cons_succ] at hK ⊢
      have y0 := Boxes.cell x0 hn2 hx
      have y1 := Boxes.cell x1 hn2 hx
      have y2 := Boxes.cell x2 hn2 hx
      have y3 := Boxes.cell x3 hn2 hx
      go_simp
      exact hK _ _ ((Boxes.rel [(w.heap.size, #[Value.int .u8 (Kd : Int), Value.string y, Value.string ⟨#[]⟩, Value.int .u64 0], 37)]).refl _) rfl
    apply RR.chain_val (.int .i64 (cc : Int))
    · rfl
    · intro w2 hx  K hK
      simp only [Act.put, List.setIfInBounds_toArray, List.set_cons_zero, List.set_cons_succ] at hK ⊢
      go_simp
      refine (HCK.out _).mono ?_
      rintro e w19 ⟨rfl, he19⟩
      exact hK _ _ (Boxes.of he19) rfl
    apply RR.chain_val (.bool false)
    · rfl
    · intro w2 hx  K hK
      simp only [Act.put, List.setIfInBounds_toArray, List.set_cons_zero, List.set_cons_succ] at hK ⊢
      go_simp
      exact hK _ _ ((Boxes.rel [(w.heap.size, #[Value.int .u8 (Kd : Int), Value.string y, Value.string ⟨#[]⟩, Value.int .u64 0], 37)]).refl _) rfl
    apply RR.chain_val (.bool false)
    · rfl
    · intro w2 hx  K hK
      simp only [Act.put, List.setIfInBounds_toArray, List.set_cons_zero, List.set_cons_succ] at hK ⊢
      go_simp
      exact hK _ _ ((Boxes.rel [(w.heap.size, #[Value.int .u8 (Kd : Int), Value.string y, Value.string ⟨#[]⟩, Value.int .u64 0], 37)]).refl _) rfl
    refine RR.chain_store (PtrRow w.heap.size 37 (#[Value.int .u8 (Kd : Int), Value.string y, Value.string ⟨#[]⟩, Value.int .u64 0])) (fun _ _ _ e h => PtrRow.kept m1 h e) rfl rfl ?_ ?_
    · intro w2 hx  K hK
      simp only [Act.put, List.setIfInBounds_toArray, List.set_cons_zero, List.set_cons_succ] at hK ⊢
      obtain ⟨q, hr, hc⟩ := RowIs.either m1 r2 hx
      have hs : q.size = 4 := by rcases hc with rfl | rfl <;> rfl
      exact step_store rfl rfl rfl rfl hr (by kernel_rfl) hs (by simp [Value.oneCell']) (let ⟨e, q⟩ := setRow_boxes hr m1 u1; hK _ e ⟨rfl, q⟩)
    apply RR.chain_val
    · rfl
    · intro w2 hx _ _ v8 h8 K hK
      simp only [Act.put, List.setIfInBounds_toArray, List.set_cons_zero, List.set_cons_succ] at hK ⊢
      go_simp
      exact hK _ _ (RR.Rel.refl (Boxes.rel [(w.heap.size, #[Value.int .u8 (Kd : Int), Value.string y, Value.string ⟨#[]⟩, Value.int .u64 0], 37)]) _) rfl
    apply RR.chain_val
    · rfl
    · intro w2 hx v8 h8 K hK
      simp only [Act.put, List.setIfInBounds_toArray, List.set_cons_zero, List.set_cons_succ] at hK ⊢
      go_simp
      exact hK _ _ (RR.Rel.refl (Boxes.rel [(w.heap.size, #[Value.int .u8 (Kd : Int), Value.string y, Value.string ⟨#[]⟩, Value.int .u64 0], 37)]) _) rfl
    refine RR.chain_end fun w2 hx => ?_
    simp only [List.reverse_cons, List.reverse_nil, List.nil_append, List.cons_append, RR.withDeps, Act.put, List.setIfInBounds_toArray, List.set_cons_zero, List.set_cons_succ]
    intro v8 h8
    obtain ⟨rfl, h8⟩ := h8
    go_wp2_with fail
    (try simp only [Exit.inBlock, Exit.then])
    refine bodyPost_ret (results_ctt Try.results49 _ _ rfl h8 Try.underlying37 rfl (by kernel_rfl)) rfl ?_
    exact ⟨by (try rw [if_neg HCC.out]); exact ⟨_, _, _, _, _, rfl⟩, Boxes.ext hE hx hb'⟩
theorem first_any (s : ByteArray) (w : World) (hs : s.size ≤ 1000000) : Calls Try.prog 49 #[.string s] w fun e w' => FirstPost (Rec.first s) e ∧ Ext w w' := by
  by_cases h0 : 0 < s.size
  · cases h1 : Rec.spl (s.extract 1 s.size) with
    | none => rw [Rec.first_nokey h0 h1]; exact first_c1 s w hs h0 h1
    | some p =>
      obtain ⟨y, r⟩ := p
      by_cases hk1 : s[0].toNat = 1
      · cases h2 : Rec.spl r with
        | none => rw [Rec.first_1n h0 h1 hk1 h2]; exact first_c2 s w hs h0 y r h1 hk1 h2
        | some p2 =>
          obtain ⟨v, r2⟩ := p2
          rw [Rec.first_1y h0 h1 hk1 h2]; exact first_c3 s w hs h0 y r h1 hk1 v r2 h2
      · by_cases hk3 : s[0].toNat = 3
        · by_cases h8 : 8 ≤ r.size
          · rw [Rec.first_3y h0 h1 hk3 h8]; exact first_c4 s w hs h0 y r h1 hk3 h8
          · rw [Rec.first_3n h0 h1 hk3 h8]; exact first_c5 s w hs h0 y r h1 hk3 h8
        · rw [Rec.first_x h0 h1 hk1 hk3]; exact first_c6 s w hs h0 y r h1 hk1 hk3
  · rw [Rec.first_nil h0]; exact first_c0 s w h0
end Go.Proofs.Ytemhflafiephpaa
