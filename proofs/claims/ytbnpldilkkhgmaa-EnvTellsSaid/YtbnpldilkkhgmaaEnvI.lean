/- Contract of env.ParsePtr. -/
import Derived.Test.YtbnpldilkkhgmaaEnvH
namespace Go.Proofs.Ytbnpldilkkhgmaa
open Go.RowKit
structure Three where
  a : Nat
  g : Nat
  c : Nat
def three (l : List UInt8) : Three := ⟨Crc.le (l.take 4), Crc.le ((l.drop 4).take 8), Crc.le ((l.drop 12).take 4)⟩
theorem cut3 (l : List UInt8) : Lend.cut pws l = [(three l).a, (three l).g, (three l).c] := by
  simp [Lend.cut, pws, three, List.drop_drop]
theorem three_lt (l : List UInt8) : (three l).a < 4294967296 ∧ (three l).g < 18446744073709551616 ∧ (three l).c < 4294967296 := ⟨Env.le_take 4, Env.le_take 8, Env.le_take 4⟩
theorem nums3 (l : List UInt8) : Lend.nums pws l = if 16 ≤ l.length then some ([(three l).a, (three l).g, (three l).c], l.drop 16) else none := by
  rw [Lend.nums_eq, cut3]
  have e : Lend.total pws = 16 := rfl
  have e2 : pws.all Lend.okW = true := by decide
  rw [e, e2]
  by_cases h : 16 ≤ l.length <;> simp [h]
theorem read3_no (s : ByteArray) (v : Value) (w : World) (hs : s.size < 16) (hv : SlI .i64 3 pws v w) : Calls Try.prog 47 #[v, .string s] w fun e w' => e = .returned (.tuple #[.slice none 0 0, .string ⟨#[]⟩, .bool false]) ∧ Ext w w' := by
  obtain ⟨a, c, rfl, hI⟩ := hv
  exact (read_any pws s a c w (by decide) (by unfold maxLen; omega) hI).mono fun e w' hp => readPost_none (by rw [nums3, if_neg (by simpa using hs)]) hp
theorem read3_yes (s : ByteArray) (v : Value) (w : World) (hs : 16 ≤ s.size) (hm : s.size ≤ maxLen) (hv : SlI .i64 3 pws v w) : Calls Try.prog 47 #[v, .string s] w fun e w' =>
    ∃ b o d, e = .returned (.tuple #[.slice (some ⟨b, o, none⟩) 3 d, .string (s.extract 16 s.size), .bool true]) ∧
      (w'.cell? ⟨b, o, none⟩ = some (.int .u64 ((three s.data.toList).a : Int)) ∧ w'.cell? ⟨b, o + 1, none⟩ = some (.int .u64 ((three s.data.toList).g : Int)) ∧ w'.cell? ⟨b, o + 2, none⟩ = some (.int .u64 ((three s.data.toList).c : Int))) ∧ Ext w w' := by
  obtain ⟨a, c, rfl, hI⟩ := hv
  refine (read_any pws s a c w (by decide) hm hI).mono fun e w' hp => ?_
  obtain ⟨x, d, rfl, h1, h2⟩ := readPost_some (by rw [nums3, if_pos (by simpa using hs)]) hp
  obtain ⟨b, o, rfl, c0⟩ := h1.at 0 (by simp)
  obtain ⟨b', o', e', c1⟩ := h1.at 1 (by simp)
  cases e'
  obtain ⟨b', o', e', c2⟩ := h1.at 2 (by simp)
  cases e'
  have e : s.extract 16 s.size = ⟨(s.data.toList.drop 16).toArray⟩ := bytes_ext (by rw [ext_data, List.take_of_length_le (by simp)])
  exact ⟨b, o, d, by rw [e]; rfl, ⟨c0, c1, c2⟩, h2⟩
/-- what ParsePtr answers -/
def parseAns (s : ByteArray) : Value :=
  if 16 ≤ s.size ∧ (three s.data.toList).a ≤ 2147483647 then .tuple #[.agg (ptrC (three s.data.toList).a (three s.data.toList).g (three s.data.toList).c), .string (s.extract 16 s.size), .bool true]
  else .tuple #[.agg ptrZ, .string ⟨#[]⟩, .bool false]
set_option maxRecDepth 100000 in
set_option maxHeartbeats 1000000 in
theorem parse_any (s : ByteArray) (w : World) (hm : s.size ≤ maxLen) : Calls Try.prog 22 #[.string s] w fun e w' => e = .returned (parseAns s) ∧ Ext w w' := by
  by_cases hs : 16 ≤ s.size
  · have hq := three_lt s.data.toList
    have hrd := fun v w => read3_yes s v w hs hm
    unfold parseAns
    generalize three s.data.toList = q at *
    obtain ⟨a, g, c⟩ := q
    obtain ⟨q1, q2, q3⟩ := hq
    simp only at hrd q1 q2 q3 ⊢
    generalize s.extract 16 s.size = R at *
    by_cases ha : a ≤ 2147483647
    · rw [if_pos ⟨hs, ha⟩]
      have l1 : decide ((2147483647 : Int) < (a : Int)) = false := decide_eq_false (by omega)
      go_enter Try.func22, Try.ntmps22
      go_wp2_with fail
      refine (own_pwidths _).mono ?_
      rintro e w1 ⟨⟨v, rfl, hv⟩, he1⟩
      have r2 := (RowIs.new w _ _).ext he1
      have hE1 := (Ext.alloc w _).trans he1
      go_wp2_with fail
      refine (hrd v _ hv).mono ?_
      rintro e w2 ⟨b, o, d, rfl, ⟨c0, c1, c2⟩, he2⟩
      replace r2 := r2.ext he2
      replace hE1 := hE1.trans he2
      have hbw : w.heap.size ≠ b := by
        intro hh
        have h0 := c0
        have h2 := c2
        rw [← hh, cell_of_row w2 w.heap.size (o + 2) ptrZ 32 (0, 0) r2] at h2
        have ho : o = 0 := by
          apply Classical.byContradiction
          intro ho
          rw [Array.getElem?_eq_none (by show 3 ≤ o + 2; omega)] at h2
          cases h2
        subst ho
        simp [ptrZ] at h2
      go_upto_region 4 with (fail)
      have v1 : IntKind.i64.wrap (a : Int) = (a : Int) := by rw [IntKind.wrap_i64]; omega
      have v2 : IntKind.u32.wrap (c : Int) = (c : Int) := by rw [IntKind.wrap_u32]; omega
      have m1 : (w.heap.size, ptrC a g c, 32) ∈ [(w.heap.size, ptrC a g c, 32)] := List.mem_cons_self
      have u1 : ∀ p ∈ [(w.heap.size, ptrC a g c, 32)], p.1 = w.heap.size → p = (w.heap.size, ptrC a g c, 32) := by intro p hp _; simpa using hp
      have hb' : ∀ p ∈ [(w.heap.size, ptrC a g c, 32)], w.heap.size ≤ p.1 := by intro p hp; simp at hp; rw [hp]; exact Nat.le_refl _
      have hn2 : ∀ p ∈ [(w.heap.size, ptrC a g c, 32)], p.1 ≠ b := by intro p hp; simp at hp; rw [hp]; exact hbw
      refine RR.wp_region_drift_lit (n := 37) (Boxes.rel [(w.heap.size, ptrC a g c, 32)]) (by kernel_rfl) (by kernel_rfl) (by rfl) ?_
      apply RR.chain_val
      · rfl
      · intro w2 hx  K hK
        simp only [Act.put, List.setIfInBounds_toArray, List.set_cons_zero, List.set_cons_succ] at hK ⊢
        go_simp
        exact hK _ _ (RR.Rel.refl (Boxes.rel [(w.heap.size, ptrC a g c, 32)]) _) rfl
      apply RR.chain_val
      · rfl
      · intro w2 hx  K hK
        simp only [Act.put, List.setIfInBounds_toArray, List.set_cons_zero, List.set_cons_succ] at hK ⊢
        go_simp
        exact hK _ _ (RR.Rel.refl (Boxes.rel [(w.heap.size, ptrC a g c, 32)]) _) rfl
      apply RR.chain_val (.int .u64 (a : Int))
      · rfl
      · intro w2 hx  K hK
        simp only [Act.put, List.setIfInBounds_toArray, List.set_cons_zero, List.set_cons_succ] at hK ⊢
        have hc := Boxes.cell c0 hn2 hx
        go_simp
        exact hK _ _ ((Boxes.rel [(w.heap.size, ptrC a g c, 32)]).refl _) rfl
      apply RR.chain_val
      · rfl
      · intro w2 hx  K hK
        simp only [Act.put, List.setIfInBounds_toArray, List.set_cons_zero, List.set_cons_succ] at hK ⊢
        go_simp
        exact hK _ _ (RR.Rel.refl (Boxes.rel [(w.heap.size, ptrC a g c, 32)]) _) rfl
      apply RR.chain_val
      · rfl
      · intro w2 hx  K hK
        simp only [Act.put, List.setIfInBounds_toArray, List.set_cons_zero, List.set_cons_succ] at hK ⊢
        go_simp
        exact hK _ _ (RR.Rel.refl (Boxes.rel [(w.heap.size, ptrC a g c, 32)]) _) rfl
      apply RR.chain_val
      · rfl
      · intro w2 hx  K hK
        simp only [Act.put, List.setIfInBounds_toArray, List.set_cons_zero, List.set_cons_succ] at hK ⊢
        go_simp
        exact hK _ _ (RR.Rel.refl (Boxes.rel [(w.heap.size, ptrC a g c, 32)]) _) rfl
      apply RR.chain_val (.int .u64 (g : Int))
      · rfl
      · intro w2 hx  K hK
        simp only [Act.put, List.setIfInBounds_toArray, List.set_cons_zero, List.set_cons_succ] at hK ⊢
        have hc := Boxes.cell c1 hn2 hx
        go_simp
        exact hK _ _ ((Boxes.rel [(w.heap.size, ptrC a g c, 32)]).refl _) rfl
      apply RR.chain_val
      · rfl
      · intro w2 hx  K hK
        simp only [Act.put, List.setIfInBounds_toArray, List.set_cons_zero, List.set_cons_succ] at hK ⊢
        go_simp
        exact hK _ _ (RR.Rel.refl (Boxes.rel [(w.heap.size, ptrC a g c, 32)]) _) rfl
      apply RR.chain_val
      · rfl
      · intro w2 hx  K hK
        simp only [Act.put, List.setIfInBounds_toArray, List.set_cons_zero, List.set_cons_succ] at hK ⊢
        go_simp
        exact hK _ _ (RR.Rel.refl (Boxes.rel [(w.heap.size, ptrC a g c, 32)]) _) rfl
      apply RR.chain_val (.int .u64 (c : Int))
      · rfl
      · intro w2 hx  K hK
        simp only [Act.put, List.setIfInBounds_toArray, List.set_cons_zero, List.set_cons_succ] at hK ⊢
        have hc := Boxes.cell c2 hn2 hx
        go_simp
        exact hK _ _ ((Boxes.rel [(w.heap.size, ptrC a g c, 32)]).refl _) rfl
      apply RR.chain_val
      · rfl
      · intro w2 hx  K hK
        simp only [Act.put, List.setIfInBounds_toArray, List.set_cons_zero, List.set_cons_succ] at hK ⊢
        go_simp
        exact hK _ _ (RR.Rel.refl (Boxes.rel [(w.heap.size, ptrC a g c, 32)]) _) rfl
      apply RR.chain_val
      · rfl
      · intro w2 hx  K hK
        simp only [Act.put, List.setIfInBounds_toArray, List.set_cons_zero, List.set_cons_succ] at hK ⊢
        go_simp
        exact hK _ _ (RR.Rel.refl (Boxes.rel [(w.heap.size, ptrC a g c, 32)]) _) rfl
      apply RR.chain_val
      · rfl
      · intro w2 hx  K hK
        simp only [Act.put, List.setIfInBounds_toArray, List.set_cons_zero, List.set_cons_succ] at hK ⊢
        go_simp
        exact hK _ _ (RR.Rel.refl (Boxes.rel [(w.heap.size, ptrC a g c, 32)]) _) rfl
      refine RR.chain_store (PtrRow w.heap.size 32 (ptrC a g c)) (fun _ _ _ e h => PtrRow.kept m1 h e) rfl rfl ?_ ?_
      · intro w2 hx  K hK
        simp only [Act.put, List.setIfInBounds_toArray, List.set_cons_zero, List.set_cons_succ] at hK ⊢
        obtain ⟨q, hr, hc⟩ := RowIs.either m1 r2 hx
        have hs : q.size = 3 := by rcases hc with rfl | rfl <;> rfl
        exact step_store rfl rfl rfl rfl hr (by kernel_rfl) hs (by simp [Value.oneCell']) (let ⟨e, q⟩ := setRow_boxes hr m1 u1; hK _ e ⟨rfl, q⟩)
      apply RR.chain_val
      · rfl
      · intro w2 hx _ _ v13 h13 K hK
        simp only [Act.put, List.setIfInBounds_toArray, List.set_cons_zero, List.set_cons_succ] at hK ⊢
        go_simp
        exact hK _ _ (RR.Rel.refl (Boxes.rel [(w.heap.size, ptrC a g c, 32)]) _) rfl
      apply RR.chain_val
      · rfl
      · intro w2 hx v13 h13 K hK
        simp only [Act.put, List.setIfInBounds_toArray, List.set_cons_zero, List.set_cons_succ] at hK ⊢
        go_simp
        exact hK _ _ (RR.Rel.refl (Boxes.rel [(w.heap.size, ptrC a g c, 32)]) _) rfl
      refine RR.chain_end fun w2 hx => ?_
      simp only [List.reverse_cons, List.reverse_nil, List.nil_append, List.cons_append, RR.withDeps, Act.put, List.setIfInBounds_toArray, List.set_cons_zero, List.set_cons_succ]
      intro v13 h13
      obtain ⟨rfl, h13⟩ := h13
      go_wp2_with fail
      (try simp only [Exit.inBlock, Exit.then])
      refine bodyPost_ret (results_ctt Try.results22 _ _ rfl h13 Try.underlying32 rfl (by kernel_rfl)) rfl ?_
      exact ⟨rfl, Boxes.ext hE1 hx hb'⟩
    · rw [if_neg (fun h => ha h.2)]
      have l1 : decide ((2147483647 : Int) < (a : Int)) = true := decide_eq_true (by omega)
      go_enter Try.func22, Try.ntmps22
      go_wp2_with fail
      refine (own_pwidths _).mono ?_
      rintro e w1 ⟨⟨v, rfl, hv⟩, he1⟩
      have r2 := (RowIs.new w _ _).ext he1
      have hE1 := (Ext.alloc w _).trans he1
      go_wp2_with fail
      refine (hrd v _ hv).mono ?_
      rintro e w2 ⟨b, o, d, rfl, ⟨c0, c1, c2⟩, he2⟩
      have R2 := Lib.hid (r2.ext he2)
      replace hE1 := hE1.trans he2
      clear r2
      go_wp2_with (refine wpl_row rfl rfl rfl rfl R2.out (by kernel_rfl) rfl (by simp [Value.oneCell']) ?_; intro w6 hw6 hr6; have HW6 := Lib.hid hw6; have HR6 := Lib.hid hr6; clear hw6 hr6)
      (try simp only [Exit.inBlock, Exit.then])
      refine bodyPost_ret (results_ctt Try.results22 _ _ rfl HR6.out Try.underlying32 rfl (by kernel_rfl)) rfl ?_
      exact ⟨rfl, HW6.out.ext hE1 (Nat.le_refl _)⟩
  · unfold parseAns
    rw [if_neg (fun h => hs h.1)]
    have hrd := fun v w => read3_no s v w (by omega)
    go_enter Try.func22, Try.ntmps22
    go_wp2_with fail
    refine (own_pwidths _).mono ?_
    rintro e w1 ⟨⟨v, rfl, hv⟩, he1⟩
    have r2 := (RowIs.new w _ _).ext he1
    have hE1 := (Ext.alloc w _).trans he1
    go_wp2_with fail
    refine (hrd v _ hv).mono ?_
    rintro e w2 ⟨rfl, he2⟩
    have R2 := Lib.hid (r2.ext he2)
    replace hE1 := hE1.trans he2
    clear r2
    go_wp2_with (refine wpl_row rfl rfl rfl rfl R2.out (by kernel_rfl) rfl (by simp [Value.oneCell']) ?_; intro w6 hw6 hr6; have HW6 := Lib.hid hw6; have HR6 := Lib.hid hr6; clear hw6 hr6)
    (try simp only [Exit.inBlock, Exit.then])
    refine bodyPost_ret (results_ctt Try.results22 _ _ rfl HR6.out Try.underlying32 rfl (by kernel_rfl)) rfl ?_
    exact ⟨rfl, HW6.out.ext hE1 (Nat.le_refl _)⟩
end Go.Proofs.Ytbnpldilkkhgmaa
