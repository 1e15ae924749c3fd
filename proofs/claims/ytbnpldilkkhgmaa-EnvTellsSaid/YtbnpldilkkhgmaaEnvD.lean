/- Contract of env.Seal. -/
import Derived.Test.YtbnpldilkkhgmaaEnvC
import Derived.Test.YtbnpldilkkhgmaaSumNew
import Derived.Test.YtbnpldilkkhgmaaBoxes
namespace Go.Proofs.Ytbnpldilkkhgmaa
open Go.RowKit
theorem img_with {size : Nat} {h : Env.Hd} {p : ByteArray} {c d : Nat} : (⟨((imgT size h p d).data.toList.take 20 ++ Lend.put 4 c ++ (imgT size h p d).data.toList.drop 24).toArray⟩ : ByteArray) = imgT size h p c := by
  refine bytes_ext ?_
  show (imgT size h p d).data.toList.take 20 ++ Lend.put 4 c ++ (imgT size h p d).data.toList.drop 24 = (imgT size h p c).data.toList
  rw [imgT_list size h p d, imgT_list size h p c]
  unfold Env.img
  have h20 : (Env.magic ++ Lend.cat Env.ws (Env.nums h p.data.toList.length)).length = 20 := by rw [List.length_append, Env.cat_len]; rfl
  have h4 : (Lend.put 4 d).length = 4 := Lend.put_length _ _
  have h24 : (Env.magic ++ Lend.cat Env.ws (Env.nums h p.data.toList.length) ++ Lend.put 4 d).length = 24 := by rw [List.length_append, h20, h4]
  rw [List.append_assoc (_ ++ Lend.put 4 d), List.drop_left' h24, List.append_assoc _ (Lend.put 4 d), List.take_left' h20]
  simp
/-- the check of an image -/
def sumT (size : Nat) (h : Env.Hd) (p : ByteArray) : Nat := Crc.sum (imgT size h p 0).data.toList
def ptrZ : Array Value := #[.int .i64 0, .int .u64 0, .int .u32 0]
def ptrC (a : Int) (g c : Nat) : Array Value := #[.int .i64 a, .int .u64 (g : Int), .int .u32 (c : Int)]
set_option maxRecDepth 100000 in
set_option maxHeartbeats 2000000 in
theorem seal_ok (b size k X g : Nat) (p : ByteArray) (w : World) (ht : TabAt w b) (hh : Env.okHead ⟨k, X, g⟩ = true) (hg : g < 18446744073709551616) (hs : 24 + p.size ≤ size) (hs1 : 128 ≤ size) (hs2 : size ≤ 1024) :
    Calls Try.prog 13 #[.pointer (some ⟨b, 0, none⟩), .int .i64 (size : Int), .agg #[.int .u8 (k : Int), .int .i64 (X : Int), .int .u64 (g : Int)], .string p] w fun e w' =>
      e = .returned (.tuple #[.string (imgT size ⟨k, X, g⟩ p (sumT size ⟨k, X, g⟩ p)), .agg (ptrC X g (sumT size ⟨k, X, g⟩ p)), .int .i64 0]) ∧ Ext w w' := by
  have hhb := Env.okHead_iff.1 hh
  simp only at hhb
  have hok := Lib.hid (Env.okSize_iff.2 (show 128 ≤ (size : Int) ∧ (size : Int) ≤ 1024 by omega))
  have hroom := Lib.hid (show roomOf (size : Int) = (size : Int) - 24 by unfold roomOf; rw [if_pos hok.out])
  have HH := Lib.hid hh; clear hh
  have hcl : sumT size ⟨k, X, g⟩ p < 4294967296 := Crc.sum_lt _
  have hsz := imgT_size (h := ⟨k, X, g⟩) (c := 0) hs
  have hwith := Lib.hid (img_with (size := size) (h := ⟨k, X, g⟩) (p := p) (c := sumT size ⟨k, X, g⟩ p) (d := 0))
  have hsum := Lib.hid (show Crc.sum (imgT size ⟨k, X, g⟩ p 0).data.toList = sumT size ⟨k, X, g⟩ p from rfl)
  have hbare := bare_any size k X g p
  generalize sumT size ⟨k, X, g⟩ p = c at *
  generalize hT : imgT size ⟨k, X, g⟩ p c = T at *
  clear hT
  generalize hI : imgT size ⟨k, X, g⟩ p 0 = I at *
  clear hI
  have hnl : decide ((size : Int) - 24 < (p.size : Int)) = false := decide_eq_false (by omega)
  go_enter Try.func13, Try.ntmps13
  go_wp2_with fail
  refine (sized_any _ _).mono ?_
  rw [hok.out]
  rintro e w1 ⟨rfl, he⟩
  subst he
  go_wp2_with fail
  refine (hright_any k g X _).mono ?_
  rw [HH.out]
  rintro e w1 ⟨rfl, he1⟩
  have c0 := cell_ext (cell_ext (World.cell?_alloc_new w _ _ 0) (Ext.alloc _ _)) he1
  have c1 := cell_ext (cell_ext (World.cell?_alloc_new w _ _ 1) (Ext.alloc _ _)) he1
  have c2 := cell_ext (cell_ext (World.cell?_alloc_new w _ _ 2) (Ext.alloc _ _)) he1
  have r9 := (RowIs.new2 w _ _ _).ext he1
  have he1 := (Ext.alloc w _).trans ((Ext.alloc _ _).trans he1)
  go_wp2_with fail
  refine (room_any _ _).mono ?_
  rw [hroom.out]
  rintro e w2 ⟨rfl, he⟩
  subst he
  go_wp2_with fail
  refine (hbare _ (by omega) (by omega) hg hs (by omega)).mono ?_
  rintro e w2 ⟨rfl, he2⟩
  replace c1 := cell_ext c1 he2
  replace c2 := cell_ext c2 he2
  replace r9 := r9.ext he2
  have he2' := he1.trans he2
  go_wp2_with fail
  refine (of_one_new b _ _ c I w2 (ht.ext he2') (by unfold maxLen; omega) hsum.out).mono ?_
  rintro e w3 ⟨rfl, _, he3⟩
  replace c1 := cell_ext c1 he3
  replace c2 := cell_ext c2 he3
  replace r9 := r9.ext he3
  have he3' := he2'.trans he3
  go_wp2_with fail
  have m1 : (w.heap.size + 1, ptrC X g c, 32) ∈ [(w.heap.size + 1, ptrC X g c, 32)] := List.mem_cons_self
  have u1 : ∀ p ∈ [(w.heap.size + 1, ptrC X g c, 32)], p.1 = w.heap.size + 1 → p = (w.heap.size + 1, ptrC X g c, 32) := by intro p hp _; simpa using hp
  have hb' : ∀ p ∈ [(w.heap.size + 1, ptrC X g c, 32)], w.heap.size ≤ p.1 := by intro p hp; simp at hp; rw [hp]; simp
  have hn : ∀ p ∈ [(w.heap.size + 1, ptrC X g c, 32)], p.1 ≠ w.heap.size := by intro p hp; simp at hp; rw [hp]; simp
  refine RR.wp_region_drift_lit (n := 51) (Boxes.rel [(w.heap.size + 1, ptrC X g c, 32)]) (by kernel_rfl) (by kernel_rfl) (by rfl) ?_
  apply RR.chain_val
  · rfl
  · intro w2 hx  K hK
    simp only [Act.put, List.setIfInBounds_toArray, List.set_cons_zero, List.set_cons_succ] at hK ⊢
    go_simp
    exact hK _ _ (RR.Rel.refl (Boxes.rel [(w.heap.size + 1, ptrC X g c, 32)]) _) rfl
  apply RR.chain_val
  · rfl
  · intro w2 hx  K hK
    simp only [Act.put, List.setIfInBounds_toArray, List.set_cons_zero, List.set_cons_succ] at hK ⊢
    go_simp
    exact hK _ _ (RR.Rel.refl (Boxes.rel [(w.heap.size + 1, ptrC X g c, 32)]) _) rfl
  apply RR.chain_val (.string T)
  · rfl
  · intro w2 hx  K hK
    simp only [Act.put, List.setIfInBounds_toArray, List.set_cons_zero, List.set_cons_succ] at hK ⊢
    go_simp
    refine (with_any I c _ (by omega) (by unfold maxLen; omega) hcl).mono ?_
    rw [hwith.out]
    rintro e w6 ⟨rfl, he6⟩
    exact hK _ _ (Boxes.of he6) rfl
  apply RR.chain_val
  · rfl
  · intro w2 hx  K hK
    simp only [Act.put, List.setIfInBounds_toArray, List.set_cons_zero, List.set_cons_succ] at hK ⊢
    go_simp
    exact hK _ _ (RR.Rel.refl (Boxes.rel [(w.heap.size + 1, ptrC X g c, 32)]) _) rfl
  apply RR.chain_val (.int .i64 (X : Int))
  · rfl
  · intro w2 hx  K hK
    simp only [Act.put, List.setIfInBounds_toArray, List.set_cons_zero, List.set_cons_succ] at hK ⊢
    have hc := Boxes.cell c1 hn hx
    go_simp
    exact hK _ _ ((Boxes.rel [(w.heap.size + 1, ptrC X g c, 32)]).refl _) rfl
  apply RR.chain_val
  · rfl
  · intro w2 hx  K hK
    simp only [Act.put, List.setIfInBounds_toArray, List.set_cons_zero, List.set_cons_succ] at hK ⊢
    go_simp
    exact hK _ _ (RR.Rel.refl (Boxes.rel [(w.heap.size + 1, ptrC X g c, 32)]) _) rfl
  apply RR.chain_val (.int .u64 (g : Int))
  · rfl
  · intro w2 hx  K hK
    simp only [Act.put, List.setIfInBounds_toArray, List.set_cons_zero, List.set_cons_succ] at hK ⊢
    have hc := Boxes.cell c2 hn hx
    go_simp
    exact hK _ _ ((Boxes.rel [(w.heap.size + 1, ptrC X g c, 32)]).refl _) rfl
  apply RR.chain_val
  · rfl
  · intro w2 hx  K hK
    simp only [Act.put, List.setIfInBounds_toArray, List.set_cons_zero, List.set_cons_succ] at hK ⊢
    go_simp
    exact hK _ _ (RR.Rel.refl (Boxes.rel [(w.heap.size + 1, ptrC X g c, 32)]) _) rfl
  apply RR.chain_val
  · rfl
  · intro w2 hx  K hK
    simp only [Act.put, List.setIfInBounds_toArray, List.set_cons_zero, List.set_cons_succ] at hK ⊢
    go_simp
    exact hK _ _ (RR.Rel.refl (Boxes.rel [(w.heap.size + 1, ptrC X g c, 32)]) _) rfl
  apply RR.chain_val
  · rfl
  · intro w2 hx  K hK
    simp only [Act.put, List.setIfInBounds_toArray, List.set_cons_zero, List.set_cons_succ] at hK ⊢
    go_simp
    exact hK _ _ (RR.Rel.refl (Boxes.rel [(w.heap.size + 1, ptrC X g c, 32)]) _) rfl
  refine RR.chain_store (PtrRow (w.heap.size + 1) 32 (ptrC X g c)) (fun _ _ _ e h => PtrRow.kept m1 h e) rfl rfl ?_ ?_
  · intro w2 hx  K hK
    simp only [Act.put, List.setIfInBounds_toArray, List.set_cons_zero, List.set_cons_succ] at hK ⊢
    obtain ⟨q, hr, hc⟩ := RowIs.either m1 r9 hx
    have hs : q.size = 3 := by rcases hc with rfl | rfl <;> rfl
    exact step_store rfl rfl rfl rfl hr (by kernel_rfl) hs (by simp [Value.oneCell']) (let ⟨e, q⟩ := setRow_boxes hr m1 u1; hK _ e ⟨rfl, q⟩)
  apply RR.chain_val
  · rfl
  · intro w2 hx _ _ v10 h10 K hK
    simp only [Act.put, List.setIfInBounds_toArray, List.set_cons_zero, List.set_cons_succ] at hK ⊢
    go_simp
    exact hK _ _ (RR.Rel.refl (Boxes.rel [(w.heap.size + 1, ptrC X g c, 32)]) _) rfl
  refine RR.chain_end fun w2 hx => ?_
  simp only [List.reverse_cons, List.reverse_nil, List.nil_append, List.cons_append, RR.withDeps, Act.put, List.setIfInBounds_toArray, List.set_cons_zero, List.set_cons_succ]
  intro v10 h10
  obtain ⟨rfl, h10⟩ := h10
  go_wp2_with fail
  (try simp only [Exit.inBlock, Exit.then])
  refine bodyPost_ret (results_tct Try.results13 _ _ rfl h10 Try.underlying32 rfl (by kernel_rfl)) rfl ?_
  exact ⟨rfl, Boxes.ext he3' hx hb'⟩
theorem seal_nil (size : Int) (k g : Nat) (x : Int) (p : ByteArray) (w : World) : Calls Try.prog 13 #[.pointer none, .int .i64 size, .agg #[.int .u8 (k : Int), .int .i64 x, .int .u64 (g : Int)], .string p] w fun e w' =>
    e = .returned (.tuple #[.string ⟨#[]⟩, .agg ptrZ, .int .i64 1]) ∧ Ext w w' := by
  go_enter Try.func13, Try.ntmps13
  go_wp2_with fail
  (try simp only [Exit.inBlock, Exit.then])
  refine bodyPost_ret (results_tct Try.results13 _ _ rfl (RowIs.new2 _ _ _ _) Try.underlying32 rfl (by kernel_rfl)) rfl ?_
  exact ⟨rfl, (Ext.alloc _ _).trans (Ext.alloc _ _)⟩
set_option maxHeartbeats 1000000 in
theorem seal_bad (b : Nat) (size : Int) (k g : Nat) (x : Int) (p : ByteArray) (w : World) (hb : (Env.okSize size && Env.okHead ⟨k, x, g⟩) = false) : Calls Try.prog 13 #[.pointer (some ⟨b, 0, none⟩), .int .i64 size, .agg #[.int .u8 (k : Int), .int .i64 x, .int .u64 (g : Int)], .string p] w fun e w' =>
    e = .returned (.tuple #[.string ⟨#[]⟩, .agg ptrZ, .int .i64 2]) ∧ Ext w w' := by
  cases h1 : Env.okSize size with
  | false =>
    have H1 := Lib.hid h1; clear h1 hb
    go_enter Try.func13, Try.ntmps13
    go_wp2_with fail
    refine (sized_any _ _).mono ?_
    rw [H1.out]
    rintro e w1 ⟨rfl, he⟩
    subst he
    go_wp2_with fail
    (try simp only [Exit.inBlock, Exit.then])
    refine bodyPost_ret (results_tct Try.results13 _ _ rfl (RowIs.new2 _ _ _ _) Try.underlying32 rfl (by kernel_rfl)) rfl ?_
    exact ⟨rfl, (Ext.alloc _ _).trans (Ext.alloc _ _)⟩
  | true =>
    rw [h1, Bool.true_and] at hb
    have H1 := Lib.hid h1; have H2 := Lib.hid hb; clear h1 hb
    go_enter Try.func13, Try.ntmps13
    go_wp2_with fail
    refine (sized_any _ _).mono ?_
    rw [H1.out]
    rintro e w1 ⟨rfl, he⟩
    subst he
    go_wp2_with fail
    refine (hright_any k g x _).mono ?_
    rw [H2.out]
    rintro e w1 ⟨rfl, he1⟩
    have R9 := Lib.hid ((RowIs.new2 w _ _ _).ext he1)
    have he1 := (Ext.alloc w _).trans ((Ext.alloc _ _).trans he1)
    go_wp2_with (refine wpl_row rfl rfl rfl rfl R9.out (by kernel_rfl) rfl (by simp [Value.oneCell']) ?_; intro w3 hw3 hr3; have HW3 := Lib.hid hw3; have HR3 := Lib.hid hr3; clear hw3 hr3)
    (try simp only [Exit.inBlock, Exit.then])
    refine bodyPost_ret (results_tct Try.results13 _ _ rfl HR3.out Try.underlying32 rfl (by kernel_rfl)) rfl ?_
    exact ⟨rfl, HW3.out.ext he1 (by omega)⟩
set_option maxHeartbeats 1000000 in
theorem seal_long (b : Nat) (size : Int) (k g : Nat) (x : Int) (p : ByteArray) (w : World) (h1 : Env.okSize size = true) (h2 : Env.okHead ⟨k, x, g⟩ = true) (hl : size - 24 < p.size) : Calls Try.prog 13 #[.pointer (some ⟨b, 0, none⟩), .int .i64 size, .agg #[.int .u8 (k : Int), .int .i64 x, .int .u64 (g : Int)], .string p] w fun e w' =>
    e = .returned (.tuple #[.string ⟨#[]⟩, .agg ptrZ, .int .i64 20]) ∧ Ext w w' := by
  have hroom := Lib.hid (show roomOf size = size - 24 by unfold roomOf; rw [if_pos h1])
  have H1 := Lib.hid h1; have H2 := Lib.hid h2; clear h1 h2
  have hd : decide (size - 24 < (p.size : Int)) = true := decide_eq_true hl
  go_enter Try.func13, Try.ntmps13
  go_wp2_with fail
  refine (sized_any _ _).mono ?_
  rw [H1.out]
  rintro e w1 ⟨rfl, he⟩
  subst he
  go_wp2_with fail
  refine (hright_any k g x _).mono ?_
  rw [H2.out]
  rintro e w1 ⟨rfl, he1⟩
  have R9 := Lib.hid ((RowIs.new2 w _ _ _).ext he1)
  have he1 := (Ext.alloc w _).trans ((Ext.alloc _ _).trans he1)
  go_wp2_with fail
  refine (room_any _ _).mono ?_
  rw [hroom.out]
  rintro e w2 ⟨rfl, he⟩
  subst he
  go_wp2_with (refine wpl_row rfl rfl rfl rfl R9.out (by kernel_rfl) rfl (by simp [Value.oneCell']) ?_; intro w3 hw3 hr3; have HW3 := Lib.hid hw3; have HR3 := Lib.hid hr3; clear hw3 hr3)
  (try simp only [Exit.inBlock, Exit.then])
  refine bodyPost_ret (results_tct Try.results13 _ _ rfl HR3.out Try.underlying32 rfl (by kernel_rfl)) rfl ?_
  exact ⟨rfl, HW3.out.ext he1 (by omega)⟩
end Go.Proofs.Ytbnpldilkkhgmaa
