/- Contracts of (super.Block).payload and (super.Block).Image. -/
import Derived.Test.YtbnpldilkkhgmaaSupA
namespace Go.Proofs.Ytbnpldilkkhgmaa
open Go.RowKit
set_option maxRecDepth 100000 in
set_option maxHeartbeats 2000000 in
theorem payload_no (g : Nat) (a : Int) (r u : Nat) (h : Int) (s c : Nat) (w : World) (hr : r < 18446744073709551616) (hu : u < 4294967296) (hb : (Env.okAddr a && Sup.okB g r h) = false) :
    Calls Try.prog 49 #[.agg #[.int .u64 (g : Int), .int .i64 a, .int .u64 (r : Int), .int .u32 (u : Int), .int .i64 h, .int .u64 (s : Int), .int .u32 (c : Int)]] w fun e w' => e = .returned (.tuple #[.string ⟨#[]⟩, .bool false]) ∧ Ext w w' := by
  cases h1 : Env.okAddr a with
  | false =>
    have htx := fun w => text_no a r u w h1
    clear h1 hb
    go_enter Try.func49, Try.ntmps49
    go_wp2_with fail
    refine (htx _).mono ?_
    rintro e w1 ⟨rfl, he1⟩
    go_wp2_with fail
    go_ret2
    exact ⟨rfl, (Ext.alloc _ _).trans he1⟩
  | true =>
    have ha := Env.okAddr_iff.1 h1
    rw [h1, Bool.true_and] at hb
    obtain ⟨X, rfl⟩ : ∃ X : Nat, a = (X : Int) := ⟨a.toNat, by omega⟩
    have htx := fun w => text_yes X r u w (by omega) hr hu
    generalize (⟨(ptrB X r u).toArray⟩ : ByteArray) = T at *
    have HB := Lib.hid hb
    clear h1 hb
    go_enter Try.func49, Try.ntmps49
    go_wp2_with fail
    refine (htx _).mono ?_
    rintro e w1 ⟨rfl, he1⟩
    have c0 := cell_ext (World.cell?_alloc_new w _ _ 0) he1
    have c1 := cell_ext (World.cell?_alloc_new w _ _ 1) he1
    have c2 := cell_ext (World.cell?_alloc_new w _ _ 2) he1
    have c3 := cell_ext (World.cell?_alloc_new w _ _ 3) he1
    have c4 := cell_ext (World.cell?_alloc_new w _ _ 4) he1
    have c5 := cell_ext (World.cell?_alloc_new w _ _ 5) he1
    have c6 := cell_ext (World.cell?_alloc_new w _ _ 6) he1
    go_wp2_with fail
    refine (bright_any _ _ _ _ _ _ _ _).mono ?_
    rw [HB.out]
    rintro e w2 ⟨rfl, he2⟩
    go_wp2_with fail
    go_ret2
    exact ⟨rfl, (Ext.alloc _ _).trans (he1.trans he2)⟩
set_option maxRecDepth 100000 in
set_option maxHeartbeats 2000000 in
theorem payload_yes (g X r u h s c : Nat) (w : World) (hX : X ≤ 2147483647) (hr : r < 18446744073709551616) (hu : u < 4294967296) (hs : s < 18446744073709551616) (hc : c < 4294967296) (hb : Sup.okB g r (h : Int) = true) :
    Calls Try.prog 49 #[.agg #[.int .u64 (g : Int), .int .i64 (X : Int), .int .u64 (r : Int), .int .u32 (u : Int), .int .i64 (h : Int), .int .u64 (s : Int), .int .u32 (c : Int)]] w fun e w' => e = .returned (.tuple #[.string (payT X r u h s c), .bool true]) ∧ Ext w w' := by
  have hh := (Sup.okB_iff.1 hb).2
  have htx := fun w => text_yes X r u w hX hr hu
  have hbb : (Sup.tl3 h s c).toArray.size = 13 := by rw [List.size_toArray, Sup.tl3_len]
  have hsm : SmallN [h, s, c] := fun y hy => by
    simp at hy
    rcases hy with rfl | rfl | rfl <;> omega
  have HWR := Lib.hid (fun (v b : Value) => write_ok (v := v) (b := b) (vs := Sup.ws3) (ns := [h, s, c]) (n := 3) rfl rfl (by decide) (Sup.tl3_bytes (by omega) hs hc) hsm)
  clear hsm
  have hpt := ptrT_size X r u
  unfold payT
  change (∀ w : World, Calls _ _ _ w fun e w' => e = Ending.returned (Value.tuple #[Value.string (ptrT X r u), Value.bool true]) ∧ Ext w w') at htx
  generalize ptrT X r u = T at *
  generalize hR : (⟨(Sup.tl3 h s c).toArray⟩ : ByteArray) = R at *
  have hRs : R.size = 13 := by rw [← hR]; exact hbb
  clear hR hbb
  have HB := Lib.hid hb
  clear hb
  have hw1 : IntKind.u64.wrap (h : Int) = (h : Int) := by rw [IntKind.wrap_u64]; omega
  have hw2 : IntKind.u64.wrap (c : Int) = (c : Int) := by rw [IntKind.wrap_u64]; omega
  go_enter Try.func49, Try.ntmps49
  go_wp2_with fail
  refine (htx _).mono ?_
  rintro e w1 ⟨rfl, he1⟩
  have c0 := cell_ext (World.cell?_alloc_new w _ _ 0) he1
  have c1 := cell_ext (World.cell?_alloc_new w _ _ 1) he1
  have c2 := cell_ext (World.cell?_alloc_new w _ _ 2) he1
  have c3 := cell_ext (World.cell?_alloc_new w _ _ 3) he1
  have c4 := cell_ext (World.cell?_alloc_new w _ _ 4) he1
  have c5 := cell_ext (World.cell?_alloc_new w _ _ 5) he1
  have c6 := cell_ext (World.cell?_alloc_new w _ _ 6) he1
  replace he1 := (Ext.alloc w _).trans he1
  go_wp2_with fail
  refine (bright_any _ _ _ _ _ _ _ _).mono ?_
  rw [HB.out]
  rintro e w2 ⟨rfl, he2⟩
  replace c4 := cell_ext c4 he2
  replace c5 := cell_ext c5 he2
  replace c6 := cell_ext c6 he2
  replace he1 := he1.trans he2
  clear c0 c1 c2 c3 he2 htx
  generalize w.heap.size = B0 at *
  go_upto_region 4 with (fail)
  refine wp_region_drift_lit (n := 38) (by kernel_rfl) (by kernel_rfl) (by rfl) ?_
  refine chain_pred (SlI .i64 3 Sup.ws3) (fun _ _ _ e h => SlI.ext h e) ?_ ?_
  · intro w2 hx  K hK
    simp only [Act.put, List.setIfInBounds_toArray, List.set_cons_zero, List.set_cons_succ] at hK ⊢
    go_simp
    refine (own_widths3 _).mono ?_
    rintro e w3 ⟨⟨v, rfl, hv⟩, he3⟩
    exact hK _ _ he3 hv
  apply chain_val
  · intro w2 hx  K hK
    simp only [Act.put, List.setIfInBounds_toArray, List.set_cons_zero, List.set_cons_succ] at hK ⊢
    go_simp
    exact hK _ _ (Ext.refl _) rfl
  apply chain_val (.int .i64 (h : Int))
  · intro w2 hx  K hK
    simp only [Act.put, List.setIfInBounds_toArray, List.set_cons_zero, List.set_cons_succ] at hK ⊢
    have hc := cell_ext c4 hx
    go_simp
    exact hK _ _ (Ext.refl _) rfl
  apply chain_val
  · intro w2 hx  K hK
    simp only [Act.put, List.setIfInBounds_toArray, List.set_cons_zero, List.set_cons_succ] at hK ⊢
    go_simp
    exact hK _ _ (Ext.refl _) rfl
  apply chain_val
  · intro w2 hx  K hK
    simp only [Act.put, List.setIfInBounds_toArray, List.set_cons_zero, List.set_cons_succ] at hK ⊢
    go_simp
    exact hK _ _ (Ext.refl _) rfl
  apply chain_val (.int .u64 (s : Int))
  · intro w2 hx  K hK
    simp only [Act.put, List.setIfInBounds_toArray, List.set_cons_zero, List.set_cons_succ] at hK ⊢
    have hc := cell_ext c5 hx
    go_simp
    exact hK _ _ (Ext.refl _) rfl
  apply chain_val
  · intro w2 hx  K hK
    simp only [Act.put, List.setIfInBounds_toArray, List.set_cons_zero, List.set_cons_succ] at hK ⊢
    go_simp
    exact hK _ _ (Ext.refl _) rfl
  apply chain_val (.int .u32 (c : Int))
  · intro w2 hx  K hK
    simp only [Act.put, List.setIfInBounds_toArray, List.set_cons_zero, List.set_cons_succ] at hK ⊢
    have hc := cell_ext c6 hx
    go_simp
    exact hK _ _ (Ext.refl _) rfl
  apply chain_val
  · intro w2 hx  K hK
    simp only [Act.put, List.setIfInBounds_toArray, List.set_cons_zero, List.set_cons_succ] at hK ⊢
    go_simp
    exact hK _ _ (Ext.refl _) rfl
  refine chain_pred (SlI .u64 3 ([h, s, c].map Int.ofNat)) (fun _ _ _ e h => SlI.ext h e) ?_ ?_
  · intro w2 hx  K hK
    simp only [Act.put, List.setIfInBounds_toArray, List.set_cons_zero, List.set_cons_succ] at hK ⊢
    go_simp
    exact hK _ _ (Ext.alloc _ _) ⟨_, _, rfl, ints_new _ .u64 _ ([h, s, c].map Int.ofNat) rfl⟩
  apply chain_val (.tuple #[.string R, .bool true])
  · intro w2 hx _ _ v9 h9 v0 h0 K hK
    simp only [Act.put, List.setIfInBounds_toArray, List.set_cons_zero, List.set_cons_succ] at hK ⊢
    go_simp
    refine (HWR.out _ _ _ h0 h9).mono ?_
    rintro e w3 ⟨rfl, he3⟩
    exact hK _ _ he3 rfl
  apply chain_val
  · intro w2 hx  K hK
    simp only [Act.put, List.setIfInBounds_toArray, List.set_cons_zero, List.set_cons_succ] at hK ⊢
    go_simp
    exact hK _ _ (Ext.refl _) rfl
  apply chain_val
  · intro w2 hx  K hK
    simp only [Act.put, List.setIfInBounds_toArray, List.set_cons_zero, List.set_cons_succ] at hK ⊢
    go_simp
    exact hK _ _ (Ext.refl _) rfl
  apply chain_val
  · intro w2 hx  K hK
    simp only [Act.put, List.setIfInBounds_toArray, List.set_cons_zero, List.set_cons_succ] at hK ⊢
    go_simp
    exact hK _ _ (Ext.refl _) rfl
  apply chain_val
  · intro w2 hx v0 h0 v9 h9 K hK
    simp only [Act.put, List.setIfInBounds_toArray, List.set_cons_zero, List.set_cons_succ] at hK ⊢
    go_simp
    exact hK _ _ (Ext.refl _) rfl
  apply chain_val
  · intro w2 hx v0 h0 v9 h9 K hK
    simp only [Act.put, List.setIfInBounds_toArray, List.set_cons_zero, List.set_cons_succ] at hK ⊢
    go_simp
    exact hK _ _ (Ext.refl _) rfl
  refine chain_end fun w2 hx => ?_
  simp only [List.reverse_cons, List.reverse_nil, List.nil_append, List.cons_append, withDeps, Act.put, List.setIfInBounds_toArray, List.set_cons_zero, List.set_cons_succ]
  intro v0 h0 v9 h9
  have hq : ¬ 9223372036854775807 < T.size + R.size := by omega
  go_wp2_with fail
  go_ret2
  exact ⟨rfl, he1.trans hx⟩
theorem image_nil (g : Nat) (a : Int) (r u : Nat) (h : Int) (s c : Nat) (z : Int) (w : World) :
    Calls Try.prog 26 #[.agg #[.int .u64 (g : Int), .int .i64 a, .int .u64 (r : Int), .int .u32 (u : Int), .int .i64 h, .int .u64 (s : Int), .int .u32 (c : Int)], .pointer none, .int .i64 z] w fun e w' => e = .returned (.tuple #[.string ⟨#[]⟩, .int .i64 1]) ∧ Ext w w' := by
  go_enter Try.func26, Try.ntmps26
  go_wp2_with fail
  go_ret2
  exact ⟨rfl, Ext.alloc _ _⟩
set_option maxRecDepth 100000 in
set_option maxHeartbeats 2000000 in
theorem image_no (b g : Nat) (a : Int) (r u : Nat) (h : Int) (s c : Nat) (z : Int) (w : World) (hr : r < 18446744073709551616) (hu : u < 4294967296) (hb : (Env.okAddr a && Sup.okB g r h) = false) :
    Calls Try.prog 26 #[.agg #[.int .u64 (g : Int), .int .i64 a, .int .u64 (r : Int), .int .u32 (u : Int), .int .i64 h, .int .u64 (s : Int), .int .u32 (c : Int)], .pointer (some ⟨b, 0, none⟩), .int .i64 z] w fun e w' => e = .returned (.tuple #[.string ⟨#[]⟩, .int .i64 2]) ∧ Ext w w' := by
  have HP := Lib.hid (fun w => payload_no g a r u h s c w hr hu hb)
  clear hb
  go_enter Try.func26, Try.ntmps26
  go_wp2_with fail
  refine (HP.out _).mono ?_
  rintro e w1 ⟨rfl, he1⟩
  go_wp2_with fail
  go_ret2
  exact ⟨rfl, (Ext.alloc _ _).trans he1⟩
set_option maxRecDepth 100000 in
set_option maxHeartbeats 2000000 in
theorem image_gen (b g X r u h s c : Nat) (z : Int) (w : World) (ht : TabAt w b) (hX : X ≤ 2147483647) (hr : r < 18446744073709551616) (hu : u < 4294967296) (hs : s < 18446744073709551616) (hc : c < 4294967296) (hb : Sup.okB g r (h : Int) = true)
    (S : ByteArray) (a' : Int) (g' c' : Nat) (E : Int) (hse : ∀ w, TabAt w b → Calls Try.prog 13 #[.pointer (some ⟨b, 0, none⟩), .int .i64 z, .agg #[.int .u8 1, .int .i64 ((g % 2 : Nat) : Int), .int .u64 (g : Int)], .string (payT X r u h s c)] w fun e w' =>
      e = .returned (.tuple #[.string S, .agg #[.int .i64 a', .int .u64 (g' : Int), .int .u32 (c' : Int)], .int .i64 E]) ∧ Ext w w') :
    Calls Try.prog 26 #[.agg #[.int .u64 (g : Int), .int .i64 (X : Int), .int .u64 (r : Int), .int .u32 (u : Int), .int .i64 (h : Int), .int .u64 (s : Int), .int .u32 (c : Int)], .pointer (some ⟨b, 0, none⟩), .int .i64 z] w fun e w' => e = .returned (.tuple #[.string S, .int .i64 E]) ∧ Ext w w' := by
  have HP := Lib.hid (fun w => payload_yes g X r u h s c w hX hr hu hs hc hb)
  have HSL := Lib.hid (slot_any g)
  clear hb
  generalize payT X r u h s c = T at *
  generalize g % 2 = m at *
  have HSE := Lib.hid hse
  clear hse
  go_enter Try.func26, Try.ntmps26
  go_wp2_with fail
  refine (HP.out _).mono ?_
  rintro e w1 ⟨rfl, he1⟩
  have c0 := cell_ext (World.cell?_alloc_new w _ _ 0) he1
  replace he1 := (Ext.alloc w _).trans he1
  replace ht := ht.ext he1
  clear HP
  go_upto_region 6 with (fail)
  have hB0 : w.heap.size < w1.heap.size := World.block_lt_of_cell? w1 _ c0
  generalize w.heap.size = B0 at *
  have ho : OneEach [(32, ptrZ, ptrC a' g' c')] := by intro p hp q hq _; simp only [List.mem_singleton] at hp hq; rw [hp, hq]
  have p1 : (32, ptrZ, ptrC a' g' c') ∈ [(32, ptrZ, ptrC a' g' c')] := List.mem_singleton.2 rfl
  refine RR.wp_region_drift_lit (n := 38) (Slots.rel ho (B := w1.heap.size)) (by kernel_rfl) (by kernel_rfl) (by rfl) ?_
  apply RR.chain_val
  · rfl
  · intro w2 hx  K hK
    simp only [Act.put, List.setIfInBounds_toArray, List.set_cons_zero, List.set_cons_succ] at hK ⊢
    go_simp
    exact hK _ _ (RR.Rel.refl (Slots.rel ho (B := w1.heap.size)) _) rfl
  apply RR.chain_val
  · rfl
  · intro w2 hx  K hK
    simp only [Act.put, List.setIfInBounds_toArray, List.set_cons_zero, List.set_cons_succ] at hK ⊢
    go_simp
    exact hK _ _ (RR.Rel.refl (Slots.rel ho (B := w1.heap.size)) _) rfl
  apply RR.chain_val
  · rfl
  · intro w2 hx  K hK
    simp only [Act.put, List.setIfInBounds_toArray, List.set_cons_zero, List.set_cons_succ] at hK ⊢
    go_simp
    exact hK _ _ (RR.Rel.refl (Slots.rel ho (B := w1.heap.size)) _) rfl
  apply RR.chain_val (.int .u64 (g : Int))
  · rfl
  · intro w2 hx  K hK
    simp only [Act.put, List.setIfInBounds_toArray, List.set_cons_zero, List.set_cons_succ] at hK ⊢
    have hc := Slots.cell c0 hB0 hx
    go_simp
    exact hK _ _ ((Slots.rel ho).refl _) rfl
  apply RR.chain_val (.int .i64 (m : Int))
  · rfl
  · intro w2 hx  K hK
    simp only [Act.put, List.setIfInBounds_toArray, List.set_cons_zero, List.set_cons_succ] at hK ⊢
    go_simp
    refine (HSL.out _).mono ?_
    rintro e w6 ⟨rfl, he6⟩
    subst he6
    exact hK _ _ ((Slots.rel ho).refl _) rfl
  apply RR.chain_val
  · rfl
  · intro w2 hx  K hK
    simp only [Act.put, List.setIfInBounds_toArray, List.set_cons_zero, List.set_cons_succ] at hK ⊢
    go_simp
    exact hK _ _ (RR.Rel.refl (Slots.rel ho (B := w1.heap.size)) _) rfl
  apply RR.chain_val (.int .u64 (g : Int))
  · rfl
  · intro w2 hx  K hK
    simp only [Act.put, List.setIfInBounds_toArray, List.set_cons_zero, List.set_cons_succ] at hK ⊢
    have hc := Slots.cell c0 hB0 hx
    go_simp
    exact hK _ _ ((Slots.rel ho).refl _) rfl
  apply RR.chain_val
  · rfl
  · intro w2 hx  K hK
    simp only [Act.put, List.setIfInBounds_toArray, List.set_cons_zero, List.set_cons_succ] at hK ⊢
    go_simp
    exact hK _ _ (RR.Rel.refl (Slots.rel ho (B := w1.heap.size)) _) rfl
  apply RR.chain_val
  · rfl
  · intro w2 hx  K hK
    simp only [Act.put, List.setIfInBounds_toArray, List.set_cons_zero, List.set_cons_succ] at hK ⊢
    go_simp
    exact hK _ _ (RR.Rel.refl (Slots.rel ho (B := w1.heap.size)) _) rfl
  apply RR.chain_val (.tuple #[.string S, .agg #[.int .i64 a', .int .u64 (g' : Int), .int .u32 (c' : Int)], .int .i64 E])
  · rfl
  · intro w2 hx  K hK
    simp only [Act.put, List.setIfInBounds_toArray, List.set_cons_zero, List.set_cons_succ] at hK ⊢
    go_simp
    refine (HSE.out _ (ht.ext (Slots.ext (Ext.refl _) hx (Nat.le_refl _)))).mono ?_
    rintro e w6 ⟨rfl, he6⟩
    exact hK _ _ (Slots.of he6) rfl
  apply RR.chain_val
  · rfl
  · intro w2 hx  K hK
    simp only [Act.put, List.setIfInBounds_toArray, List.set_cons_zero, List.set_cons_succ] at hK ⊢
    go_simp
    exact hK _ _ (RR.Rel.refl (Slots.rel ho (B := w1.heap.size)) _) rfl
  apply RR.chain_val
  · rfl
  · intro w2 hx  K hK
    simp only [Act.put, List.setIfInBounds_toArray, List.set_cons_zero, List.set_cons_succ] at hK ⊢
    go_simp
    exact hK _ _ (RR.Rel.refl (Slots.rel ho (B := w1.heap.size)) _) rfl
  apply RR.chain_val
  · rfl
  · intro w2 hx  K hK
    simp only [Act.put, List.setIfInBounds_toArray, List.set_cons_zero, List.set_cons_succ] at hK ⊢
    go_simp
    exact hK _ _ (RR.Rel.refl (Slots.rel ho (B := w1.heap.size)) _) rfl
  apply RR.chain_val
  · rfl
  · intro w2 hx  K hK
    simp only [Act.put, List.setIfInBounds_toArray, List.set_cons_zero, List.set_cons_succ] at hK ⊢
    go_simp
    exact hK _ _ (RR.Rel.refl (Slots.rel ho (B := w1.heap.size)) _) rfl
  refine RR.chain_pred (Fresh w1.heap.size 32 ptrZ (ptrC a' g' c')) (fun _ _ _ e h => Fresh.kept ho p1 h e) rfl ?_ ?_
  · intro w2 hx  K hK
    simp only [Act.put, List.setIfInBounds_toArray, List.set_cons_zero, List.set_cons_succ] at hK ⊢
    go_simp
    exact hK _ _ (Slots.of (Ext.alloc _ _)) (Fresh.new hx.size)
  apply RR.chain_val
  · rfl
  · intro w2 hx v14 h14 K hK
    simp only [Act.put, List.setIfInBounds_toArray, List.set_cons_zero, List.set_cons_succ] at hK ⊢
    go_simp
    exact hK _ _ (RR.Rel.refl (Slots.rel ho (B := w1.heap.size)) _) rfl
  refine RR.chain_store (Done w1.heap.size 32 (ptrC a' g' c')) (fun _ _ _ e h => Done.kept ho p1 h e) rfl rfl ?_ ?_
  · intro w2 hx _ _ v14 h14 K hK
    simp only [Act.put, List.setIfInBounds_toArray, List.set_cons_zero, List.set_cons_succ] at hK ⊢
    obtain ⟨b1, rfl, hb1, c, hr, hc⟩ := h14
    have hs : c.size = 3 := by rcases hc with rfl | rfl <;> rfl
    exact step_store rfl rfl rfl rfl hr (by kernel_rfl) hs (by simp [Value.oneCell']) (let ⟨e, q⟩ := Slots.setRow p1 hb1 hr hc; hK _ e ⟨b1, rfl, hb1, q⟩)
  apply RR.chain_val
  · rfl
  · intro w2 hx _ _ v14 h14 v16 h16 K hK
    simp only [Act.put, List.setIfInBounds_toArray, List.set_cons_zero, List.set_cons_succ] at hK ⊢
    go_simp
    exact hK _ _ (RR.Rel.refl (Slots.rel ho (B := w1.heap.size)) _) rfl
  refine RR.chain_end fun w2 hx => ?_
  simp only [List.reverse_cons, List.reverse_nil, List.nil_append, List.cons_append, RR.withDeps, Act.put, List.setIfInBounds_toArray, List.set_cons_zero, List.set_cons_succ]
  intro v14 h14 v16 h16
  have he2 := Slots.ext (Ext.refl _) hx (Nat.le_refl _)
  clear h14 h16
  go_wp2_with fail
  go_ret2
  exact ⟨rfl, he1.trans he2⟩
end Go.Proofs.Ytbnpldilkkhgmaa
