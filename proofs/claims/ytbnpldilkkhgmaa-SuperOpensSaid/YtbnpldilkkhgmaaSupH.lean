/- Contract of the reference's Open of layer 5. -/
import Derived.Test.YtbnpldilkkhgmaaSupF
import Derived.Test.YtbnpldilkkhgmaaEnvQ
namespace Go.Proofs.Ytbnpldilkkhgmaa
open Go.RowKit
theorem cut6p (l : List UInt8) : Lend.cut ws6p l = [(three l).a, (three l).g, (three l).c, (tail3 (l.drop 16)).a, (tail3 (l.drop 16)).g, (tail3 (l.drop 16)).c] := by
  simp [Lend.cut, ws6p, three, tail3, List.drop_drop]
theorem nums6p (l : List UInt8) : Lend.nums ws6p l = if 29 ≤ l.length then some ([(three l).a, (three l).g, (three l).c, (tail3 (l.drop 16)).a, (tail3 (l.drop 16)).g, (tail3 (l.drop 16)).c], l.drop 29) else none := by
  rw [Lend.nums_eq, cut6p]
  have e : Lend.total ws6p = 29 := rfl
  have e2 : ws6p.all Lend.okW = true := by decide
  rw [e, e2]
  by_cases h : 29 ≤ l.length <;> simp [h]
theorem read6p_no (s : ByteArray) (w : World) (T : TypeId) (c : Nat) (hs : s.size < 29) : Calls Try.prog 23 #[.slice (some ⟨w.heap.size, 0, none⟩) 6 c, .string s] (w.alloc (.cells #[.int .i64 4, .int .i64 8, .int .i64 4, .int .i64 1, .int .i64 8, .int .i64 4] T)) fun e w' => e = .returned (.tuple #[.slice none 0 0, .string ⟨#[]⟩, .bool false]) ∧ Ext w w' :=
  (refread_any ws6p s (some ⟨w.heap.size, 0, none⟩) c _ (by decide) (by unfold maxLen; omega) (ints_new w .i64 T ws6p rfl)).mono fun e w' hp => by
    have h := readPost_none (by rw [nums6p, if_neg (by simpa using hs)]) hp
    exact ⟨h.1, (Ext.alloc _ _).trans h.2⟩
theorem read6p_yes (s : ByteArray) (w : World) (T : TypeId) (c : Nat) (hs : 29 ≤ s.size) (hm : s.size ≤ maxLen) : Calls Try.prog 23 #[.slice (some ⟨w.heap.size, 0, none⟩) 6 c, .string s] (w.alloc (.cells #[.int .i64 4, .int .i64 8, .int .i64 4, .int .i64 1, .int .i64 8, .int .i64 4] T)) fun e w' =>
    ∃ b d, e = .returned (.tuple #[.slice (some ⟨b, 0, none⟩) 6 d, .string (s.extract 29 s.size), .bool true]) ∧
      (w'.cell? ⟨b, 0, none⟩ = some (.int .u64 ((three s.data.toList).a : Int)) ∧ w'.cell? ⟨b, 1, none⟩ = some (.int .u64 ((three s.data.toList).g : Int)) ∧ w'.cell? ⟨b, 2, none⟩ = some (.int .u64 ((three s.data.toList).c : Int)) ∧ w'.cell? ⟨b, 3, none⟩ = some (.int .u64 ((tail3 (s.data.toList.drop 16)).a : Int)) ∧ w'.cell? ⟨b, 4, none⟩ = some (.int .u64 ((tail3 (s.data.toList.drop 16)).g : Int)) ∧ w'.cell? ⟨b, 5, none⟩ = some (.int .u64 ((tail3 (s.data.toList.drop 16)).c : Int))) ∧ Ext w w' := by
  refine (refread_any ws6p s (some ⟨w.heap.size, 0, none⟩) c _ (by decide) hm (ints_new w .i64 T ws6p rfl)).mono fun e w' hp => ?_
  unfold ReadPost at hp
  rw [nums6p, if_pos (by simpa using hs)] at hp
  obtain ⟨h2, v, rfl, h1⟩ := hp
  obtain ⟨_, ⟨_, hn⟩ | ⟨b, cap, cur, rfl, hB, hg, h3, h4, h5, ht⟩⟩ := h1
  · cases hn
  have hc : ∀ i (hi : i < 6), w'.cell? ⟨b, i, none⟩ = some (.int .u64 (([(three s.data.toList).a, (three s.data.toList).g, (three s.data.toList).c, (tail3 (s.data.toList.drop 16)).a, (tail3 (s.data.toList.drop 16)).g, (tail3 (s.data.toList.drop 16)).c][i] : Nat) : Int)) := fun i hi => by
    rw [cell_of_row w' b i cur 22 (0, 0) hg]
    have e := congrArg (fun l => l[i]?) ht
    simp only [List.getElem?_take, List.length_cons, List.length_nil] at e
    rw [if_pos (by omega)] at e
    rw [← Array.getElem?_toList, e]
    match i, hi with
    | 0, _ => rfl
    | 1, _ => rfl
    | 2, _ => rfl
    | 3, _ => rfl
    | 4, _ => rfl
    | 5, _ => rfl
  have e : s.extract 29 s.size = ⟨(s.data.toList.drop 29).toArray⟩ := bytes_ext (by rw [ext_data, List.take_of_length_le (by simp)])
  exact ⟨b, cap, by rw [e]; rfl, ⟨hc 0 (by decide), hc 1 (by decide), hc 2 (by decide), hc 3 (by decide), hc 4 (by decide), hc 5 (by decide)⟩, (Ext.alloc _ _).trans h2⟩
set_option maxRecDepth 100000 in
set_option maxHeartbeats 2000000 in
theorem rsopen_bad (s : ByteArray) (e : Int) (he : ¬ e = 0) (w : World) (hro : ∀ w, Calls Try.prog 53 #[.string s] w fun en w' => en = .returned (.tuple #[.agg hdZ, .string ⟨#[]⟩, .int .u64 0, .int .i64 e]) ∧ Ext w w') :
    Calls Try.prog 31 #[.string s] w fun en w' => en = .returned (.tuple #[.agg blkZ, .int .i64 e]) ∧ Ext w w' := by
  have he' : ((e : Int) != 0) = true := by simpa using he
  unfold hdZ at hro
  go_enter Try.func31, Try.ntmps31
  go_wp2_with fail
  refine (hro _).mono ?_
  rintro e w1 ⟨rfl, he1⟩
  have r2 := ((RowIs.new w 75 #[.int .u64 0, .int .i64 0, .int .u64 0, .int .u32 0, .int .i64 0, .int .u64 0, .int .u32 0]).ext (Ext.alloc _ (.cells #[.int .u64 0, .int .i64 0, .int .u64 0, .int .u32 0, .int .i64 0, .int .u64 0, .int .u32 0] 75))).ext he1
  have r4 := (RowIs.new2 w (.cells #[.int .u64 0, .int .i64 0, .int .u64 0, .int .u32 0, .int .i64 0, .int .u64 0, .int .u32 0] 75) 75 #[.int .u64 0, .int .i64 0, .int .u64 0, .int .u32 0, .int .i64 0, .int .u64 0, .int .u32 0]).ext he1
  have hE1 := ((Ext.alloc w (.cells #[.int .u64 0, .int .i64 0, .int .u64 0, .int .u32 0, .int .i64 0, .int .u64 0, .int .u32 0] 75)).trans (Ext.alloc _ (.cells #[.int .u64 0, .int .i64 0, .int .u64 0, .int .u32 0, .int .i64 0, .int .u64 0, .int .u32 0] 75))).trans he1
  have hEa := Ext.alloc w1 (.cells #[.int .u8 0, .int .i64 0, .int .u64 0] 42)
  replace r2 := r2.ext hEa
  replace r4 := r4.ext hEa
  replace hE1 := hE1.trans hEa
  have d0 := r4.cell 0 (.int .u64 0) rfl
  have d1 := r4.cell 1 (.int .i64 0) rfl
  have d2 := r4.cell 2 (.int .u64 0) rfl
  have d3 := r4.cell 3 (.int .u32 0) rfl
  have d4 := r4.cell 4 (.int .i64 0) rfl
  have d5 := r4.cell 5 (.int .u64 0) rfl
  have d6 := r4.cell 6 (.int .u32 0) rfl
  clear r4
  have R2 := Lib.hid r2
  clear r2
  go_wp2_with (refine wpl_row rfl rfl rfl rfl R2.out (by kernel_rfl) rfl (by simp [Value.oneCell']) ?_; intro w9 hw9 hr9; have HW9 := Lib.hid hw9; have HR9 := Lib.hid hr9; clear hw9 hr9)
  (try simp only [Exit.inBlock, Exit.then])
  refine bodyPost_ret (results_ct Try.results31 _ _ rfl HR9.out Try.underlying75 rfl (by kernel_rfl)) rfl ?_
  exact ⟨rfl, HW9.out.ext hE1 (Nat.le_refl _)⟩
set_option maxRecDepth 100000 in
set_option maxHeartbeats 6000000 in
theorem rsopen_good (s p : ByteArray) (k X g c' : Nat) (w : World) (hp : p.size ≤ maxLen) (hX : X ≤ 2147483647) (hro : ∀ w, Calls Try.prog 53 #[.string s] w fun en w' => en = .returned (.tuple #[.agg (hdC k X g), .string p, .int .u64 (c' : Int), .int .i64 0]) ∧ Ext w w') :
    Calls Try.prog 31 #[.string s] w fun en w' => en = .returned (sopenAns k X g p) ∧ Ext w w' := by
  unfold sopenAns
  unfold hdC at hro
  by_cases h1 : p.size < 29
  · rw [if_neg (fun h => by omega)]
    have hrd := fun w T c => read6p_no p w T c h1
    go_enter Try.func31, Try.ntmps31
    go_wp2_with fail
    refine (hro _).mono ?_
    rintro e w1 ⟨rfl, he1⟩
    have r2 := ((RowIs.new w 75 #[.int .u64 0, .int .i64 0, .int .u64 0, .int .u32 0, .int .i64 0, .int .u64 0, .int .u32 0]).ext (Ext.alloc _ (.cells #[.int .u64 0, .int .i64 0, .int .u64 0, .int .u32 0, .int .i64 0, .int .u64 0, .int .u32 0] 75))).ext he1
    have r4 := (RowIs.new2 w (.cells #[.int .u64 0, .int .i64 0, .int .u64 0, .int .u32 0, .int .i64 0, .int .u64 0, .int .u32 0] 75) 75 #[.int .u64 0, .int .i64 0, .int .u64 0, .int .u32 0, .int .i64 0, .int .u64 0, .int .u32 0]).ext he1
    have hE1 := ((Ext.alloc w (.cells #[.int .u64 0, .int .i64 0, .int .u64 0, .int .u32 0, .int .i64 0, .int .u64 0, .int .u32 0] 75)).trans (Ext.alloc _ (.cells #[.int .u64 0, .int .i64 0, .int .u64 0, .int .u32 0, .int .i64 0, .int .u64 0, .int .u32 0] 75))).trans he1
    have r5 := RowIs.new w1 42 #[.int .u8 (k : Int), .int .i64 (X : Int), .int .u64 (g : Int)]
    have hEa := Ext.alloc w1 (.cells #[.int .u8 (k : Int), .int .i64 (X : Int), .int .u64 (g : Int)] 42)
    replace r2 := r2.ext hEa
    replace r4 := r4.ext hEa
    replace hE1 := hE1.trans hEa
    go_upto_region 5 with (fail)
    generalize w1.alloc (.cells #[.int .u8 (k : Int), .int .i64 (X : Int), .int .u64 (g : Int)] 42) = w2 at *
    generalize w1.heap.size = D at *
    clear he1 hEa hro
    have d0 := r4.cell 0 (.int .u64 0) rfl
    have d1 := r4.cell 1 (.int .i64 0) rfl
    have d2 := r4.cell 2 (.int .u64 0) rfl
    have d3 := r4.cell 3 (.int .u32 0) rfl
    have d4 := r4.cell 4 (.int .i64 0) rfl
    have d5 := r4.cell 5 (.int .u64 0) rfl
    have d6 := r4.cell 6 (.int .u32 0) rfl
    have k0 := r5.cell 0 (.int .u8 (k : Int)) rfl
    have k1 := r5.cell 1 (.int .i64 (X : Int)) rfl
    have k2 := r5.cell 2 (.int .u64 (g : Int)) rfl
    clear r4 r5
    go_wp2_with fail
    refine (hrd _ _ _).mono ?_
    rintro e w3 ⟨rfl, he3⟩
    replace r2 := r2.ext he3
    replace hE1 := hE1.trans he3
    replace d0 := cell_ext d0 he3
    replace d1 := cell_ext d1 he3
    replace d2 := cell_ext d2 he3
    replace d3 := cell_ext d3 he3
    replace d4 := cell_ext d4 he3
    replace d5 := cell_ext d5 he3
    replace d6 := cell_ext d6 he3
    replace k0 := cell_ext k0 he3
    replace k1 := cell_ext k1 he3
    replace k2 := cell_ext k2 he3
    have R2 := Lib.hid r2
    clear r2
    go_wp2_with (refine wpl_row rfl rfl rfl rfl R2.out (by kernel_rfl) rfl (by simp [Value.oneCell']) ?_; intro w9 hw9 hr9; have HW9 := Lib.hid hw9; have HR9 := Lib.hid hr9; clear hw9 hr9)
    (try simp only [Exit.inBlock, Exit.then])
    refine bodyPost_ret (results_ct Try.results31 _ _ rfl HR9.out Try.underlying75 rfl (by kernel_rfl)) rfl ?_
    exact ⟨rfl, HW9.out.ext hE1 (Nat.le_refl _)⟩
  · have hrd := fun w T c => read6p_yes p w T c (by omega) hp
    have hq := three_lt p.data.toList
    have ht := tail3_lt (p.data.toList.drop 16)
    have hzs : (p.extract 29 p.size).size = p.size - 29 := by simp
    by_cases h2 : p.size = 29
    · have hz : p.extract 29 p.size = ⟨#[]⟩ := bytes_ext (by rw [ext_data, List.take_of_length_le (by simp)]; exact List.drop_eq_nil_of_le (by simp; omega))
      rw [hz] at hrd
      clear hz hzs
      generalize three p.data.toList = q at *
      generalize tail3 (p.data.toList.drop 16) = t at *
      obtain ⟨a, r, u⟩ := q
      obtain ⟨h, sq, ch⟩ := t
      obtain ⟨q1, q2, q3⟩ := hq
      obtain ⟨t1, t2, t3⟩ := ht
      simp only at hrd q1 q2 q3 t1 t2 t3 ⊢
      by_cases h3 : k = 1
      · subst h3
        by_cases h4 : X = g % 2
        · obtain ⟨Y, hY⟩ : ∃ Y : Int, (g : Int) % 2 = Y := ⟨_, rfl⟩
          have hcmp : ((X : Int) != Y) = false := by simp; omega
          have hw0 : IntKind.u64.wrap (X : Int) = (X : Int) := by rw [IntKind.wrap_u64]; omega
          have hw1 : IntKind.i64.wrap (a : Int) = (a : Int) := by rw [IntKind.wrap_i64]; omega
          have hw2 : IntKind.u32.wrap (u : Int) = (u : Int) := by rw [IntKind.wrap_u32]; omega
          have hw3 : IntKind.i64.wrap (h : Int) = (h : Int) := by rw [IntKind.wrap_i64]; omega
          have hw4 : IntKind.u32.wrap (ch : Int) = (ch : Int) := by rw [IntKind.wrap_u32]; omega
          have HBR := Lib.hid (refbright_any g (a : Int) r u (h : Int) sq ch)
          obtain ⟨OK, hOK⟩ : ∃ OK, (Env.okAddr (a : Int) && Sup.okB g r (h : Int)) = OK := ⟨_, rfl⟩
          have hans : (if ((p.size = 29 ∧ a ≤ 2147483647) ∧ Sup.okB g r (h : Int) = true) ∧ 1 = 1 ∧ X = g % 2 then Value.tuple #[.agg (blkC g (a : Nat) r u (h : Nat) sq ch), .int .i64 0] else .tuple #[.agg blkZ, .int .i64 4]) = if OK = true then Value.tuple #[.agg (blkC g (a : Nat) r u (h : Nat) sq ch), .int .i64 0] else .tuple #[.agg blkZ, .int .i64 4] := by
            have hiff : OK = true ↔ (a ≤ 2147483647 ∧ Sup.okB g r (h : Int) = true) := by
              rw [← hOK, Bool.and_eq_true, Env.okAddr_iff]
              constructor
              · intro h; exact ⟨by omega, h.2⟩
              · intro h; exact ⟨by omega, h.2⟩
            by_cases hc : a ≤ 2147483647 ∧ Sup.okB g r (h : Int) = true
            · rw [if_pos ⟨⟨⟨h2, hc.1⟩, hc.2⟩, rfl, h4⟩, if_pos (hiff.2 hc)]
            · rw [if_neg (fun h => hc ⟨h.1.1.2, h.1.2⟩), if_neg (fun h => hc (hiff.1 h))]
          rw [hans]
          rw [hOK] at HBR
          clear hans hOK h4
          go_enter Try.func31, Try.ntmps31
          go_wp2_with fail
          refine (hro _).mono ?_
          rintro e w1 ⟨rfl, he1⟩
          have r2 := ((RowIs.new w 75 #[.int .u64 0, .int .i64 0, .int .u64 0, .int .u32 0, .int .i64 0, .int .u64 0, .int .u32 0]).ext (Ext.alloc _ (.cells #[.int .u64 0, .int .i64 0, .int .u64 0, .int .u32 0, .int .i64 0, .int .u64 0, .int .u32 0] 75))).ext he1
          have r4 := (RowIs.new2 w (.cells #[.int .u64 0, .int .i64 0, .int .u64 0, .int .u32 0, .int .i64 0, .int .u64 0, .int .u32 0] 75) 75 #[.int .u64 0, .int .i64 0, .int .u64 0, .int .u32 0, .int .i64 0, .int .u64 0, .int .u32 0]).ext he1
          have hE1 := ((Ext.alloc w (.cells #[.int .u64 0, .int .i64 0, .int .u64 0, .int .u32 0, .int .i64 0, .int .u64 0, .int .u32 0] 75)).trans (Ext.alloc _ (.cells #[.int .u64 0, .int .i64 0, .int .u64 0, .int .u32 0, .int .i64 0, .int .u64 0, .int .u32 0] 75))).trans he1
          have r5 := RowIs.new w1 42 #[.int .u8 ((1 : Nat) : Int), .int .i64 (X : Int), .int .u64 (g : Int)]
          have hEa := Ext.alloc w1 (.cells #[.int .u8 ((1 : Nat) : Int), .int .i64 (X : Int), .int .u64 (g : Int)] 42)
          replace r2 := r2.ext hEa
          replace r4 := r4.ext hEa
          replace hE1 := hE1.trans hEa
          go_upto_region 5 with (fail)
          generalize w1.alloc (.cells #[.int .u8 ((1 : Nat) : Int), .int .i64 (X : Int), .int .u64 (g : Int)] 42) = w2 at *
          generalize w1.heap.size = D at *
          clear he1 hEa hro
          have d0 := r4.cell 0 (.int .u64 0) rfl
          have d1 := r4.cell 1 (.int .i64 0) rfl
          have d2 := r4.cell 2 (.int .u64 0) rfl
          have d3 := r4.cell 3 (.int .u32 0) rfl
          have d4 := r4.cell 4 (.int .i64 0) rfl
          have d5 := r4.cell 5 (.int .u64 0) rfl
          have d6 := r4.cell 6 (.int .u32 0) rfl
          have k0 := r5.cell 0 (.int .u8 ((1 : Nat) : Int)) rfl
          have k1 := r5.cell 1 (.int .i64 (X : Int)) rfl
          have k2 := r5.cell 2 (.int .u64 (g : Int)) rfl
          clear r4 r5
          go_wp2_with fail
          refine (hrd _ _ _).mono ?_
          rintro e w3 ⟨b, d, rfl, ⟨n0, n1, n2, n3, n4, n5⟩, he3⟩
          replace r2 := r2.ext he3
          replace hE1 := hE1.trans he3
          replace d0 := cell_ext d0 he3
          replace d1 := cell_ext d1 he3
          replace d2 := cell_ext d2 he3
          replace d3 := cell_ext d3 he3
          replace d4 := cell_ext d4 he3
          replace d5 := cell_ext d5 he3
          replace d6 := cell_ext d6 he3
          replace k0 := cell_ext k0 he3
          replace k1 := cell_ext k1 he3
          replace k2 := cell_ext k2 he3
          go_upto_region 8 with (fail)
          clear hcmp hw0 h2 hX hp hY
          have hb3 : b < w3.heap.size := World.block_lt_of_cell? w3 _ n0
          have hD3 : D < w3.heap.size := World.block_lt_of_cell? w3 _ k2
          have ho : OneEach [(75, blkZ, blkC g (a : Int) r u (h : Int) sq ch)] := by intro p hp q hq _; simp only [List.mem_singleton] at hp hq; rw [hp, hq]
          have p1 : (75, blkZ, blkC g (a : Int) r u (h : Int) sq ch) ∈ [(75, blkZ, blkC g (a : Int) r u (h : Int) sq ch)] := List.mem_singleton.2 rfl
          refine RR.wp_region_drift_lit (n := 85) (Slots.rel ho (B := w3.heap.size)) (by kernel_rfl) (by kernel_rfl) (by rfl) ?_
          apply RR.chain_val
          · rfl
          · intro w2 hx  K hK
            simp only [Act.put, List.setIfInBounds_toArray, List.set_cons_zero, List.set_cons_succ] at hK ⊢
            go_simp
            exact hK _ _ (RR.Rel.refl (Slots.rel ho (B := w3.heap.size)) _) rfl
          apply RR.chain_val (.int .u64 (g : Int))
          · rfl
          · intro w2 hx  K hK
            simp only [Act.put, List.setIfInBounds_toArray, List.set_cons_zero, List.set_cons_succ] at hK ⊢
            have hc := Slots.cell k2 hD3 hx
            go_simp
            exact hK _ _ ((Slots.rel ho).refl _) rfl
          apply RR.chain_val
          · rfl
          · intro w2 hx  K hK
            simp only [Act.put, List.setIfInBounds_toArray, List.set_cons_zero, List.set_cons_succ] at hK ⊢
            go_simp
            exact hK _ _ (RR.Rel.refl (Slots.rel ho (B := w3.heap.size)) _) rfl
          apply RR.chain_val
          · rfl
          · intro w2 hx  K hK
            simp only [Act.put, List.setIfInBounds_toArray, List.set_cons_zero, List.set_cons_succ] at hK ⊢
            go_simp
            exact hK _ _ (RR.Rel.refl (Slots.rel ho (B := w3.heap.size)) _) rfl
          apply RR.chain_val (.int .u64 (a : Int))
          · rfl
          · intro w2 hx  K hK
            simp only [Act.put, List.setIfInBounds_toArray, List.set_cons_zero, List.set_cons_succ] at hK ⊢
            have hc := Slots.cell n0 hb3 hx
            go_simp
            exact hK _ _ ((Slots.rel ho).refl _) rfl
          apply RR.chain_val
          · rfl
          · intro w2 hx  K hK
            simp only [Act.put, List.setIfInBounds_toArray, List.set_cons_zero, List.set_cons_succ] at hK ⊢
            go_simp
            exact hK _ _ (RR.Rel.refl (Slots.rel ho (B := w3.heap.size)) _) rfl
          apply RR.chain_val
          · rfl
          · intro w2 hx  K hK
            simp only [Act.put, List.setIfInBounds_toArray, List.set_cons_zero, List.set_cons_succ] at hK ⊢
            go_simp
            exact hK _ _ (RR.Rel.refl (Slots.rel ho (B := w3.heap.size)) _) rfl
          apply RR.chain_val
          · rfl
          · intro w2 hx  K hK
            simp only [Act.put, List.setIfInBounds_toArray, List.set_cons_zero, List.set_cons_succ] at hK ⊢
            go_simp
            exact hK _ _ (RR.Rel.refl (Slots.rel ho (B := w3.heap.size)) _) rfl
          apply RR.chain_val (.int .u64 (r : Int))
          · rfl
          · intro w2 hx  K hK
            simp only [Act.put, List.setIfInBounds_toArray, List.set_cons_zero, List.set_cons_succ] at hK ⊢
            have hc := Slots.cell n1 hb3 hx
            go_simp
            exact hK _ _ ((Slots.rel ho).refl _) rfl
          apply RR.chain_val
          · rfl
          · intro w2 hx  K hK
            simp only [Act.put, List.setIfInBounds_toArray, List.set_cons_zero, List.set_cons_succ] at hK ⊢
            go_simp
            exact hK _ _ (RR.Rel.refl (Slots.rel ho (B := w3.heap.size)) _) rfl
          apply RR.chain_val
          · rfl
          · intro w2 hx  K hK
            simp only [Act.put, List.setIfInBounds_toArray, List.set_cons_zero, List.set_cons_succ] at hK ⊢
            go_simp
            exact hK _ _ (RR.Rel.refl (Slots.rel ho (B := w3.heap.size)) _) rfl
          apply RR.chain_val (.int .u64 (u : Int))
          · rfl
          · intro w2 hx  K hK
            simp only [Act.put, List.setIfInBounds_toArray, List.set_cons_zero, List.set_cons_succ] at hK ⊢
            have hc := Slots.cell n2 hb3 hx
            go_simp
            exact hK _ _ ((Slots.rel ho).refl _) rfl
          apply RR.chain_val
          · rfl
          · intro w2 hx  K hK
            simp only [Act.put, List.setIfInBounds_toArray, List.set_cons_zero, List.set_cons_succ] at hK ⊢
            go_simp
            exact hK _ _ (RR.Rel.refl (Slots.rel ho (B := w3.heap.size)) _) rfl
          apply RR.chain_val
          · rfl
          · intro w2 hx  K hK
            simp only [Act.put, List.setIfInBounds_toArray, List.set_cons_zero, List.set_cons_succ] at hK ⊢
            go_simp
            exact hK _ _ (RR.Rel.refl (Slots.rel ho (B := w3.heap.size)) _) rfl
          apply RR.chain_val
          · rfl
          · intro w2 hx  K hK
            simp only [Act.put, List.setIfInBounds_toArray, List.set_cons_zero, List.set_cons_succ] at hK ⊢
            go_simp
            exact hK _ _ (RR.Rel.refl (Slots.rel ho (B := w3.heap.size)) _) rfl
          apply RR.chain_val (.int .u64 (h : Int))
          · rfl
          · intro w2 hx  K hK
            simp only [Act.put, List.setIfInBounds_toArray, List.set_cons_zero, List.set_cons_succ] at hK ⊢
            have hc := Slots.cell n3 hb3 hx
            go_simp
            exact hK _ _ ((Slots.rel ho).refl _) rfl
          apply RR.chain_val
          · rfl
          · intro w2 hx  K hK
            simp only [Act.put, List.setIfInBounds_toArray, List.set_cons_zero, List.set_cons_succ] at hK ⊢
            go_simp
            exact hK _ _ (RR.Rel.refl (Slots.rel ho (B := w3.heap.size)) _) rfl
          apply RR.chain_val
          · rfl
          · intro w2 hx  K hK
            simp only [Act.put, List.setIfInBounds_toArray, List.set_cons_zero, List.set_cons_succ] at hK ⊢
            go_simp
            exact hK _ _ (RR.Rel.refl (Slots.rel ho (B := w3.heap.size)) _) rfl
          apply RR.chain_val
          · rfl
          · intro w2 hx  K hK
            simp only [Act.put, List.setIfInBounds_toArray, List.set_cons_zero, List.set_cons_succ] at hK ⊢
            go_simp
            exact hK _ _ (RR.Rel.refl (Slots.rel ho (B := w3.heap.size)) _) rfl
          apply RR.chain_val (.int .u64 (sq : Int))
          · rfl
          · intro w2 hx  K hK
            simp only [Act.put, List.setIfInBounds_toArray, List.set_cons_zero, List.set_cons_succ] at hK ⊢
            have hc := Slots.cell n4 hb3 hx
            go_simp
            exact hK _ _ ((Slots.rel ho).refl _) rfl
          apply RR.chain_val
          · rfl
          · intro w2 hx  K hK
            simp only [Act.put, List.setIfInBounds_toArray, List.set_cons_zero, List.set_cons_succ] at hK ⊢
            go_simp
            exact hK _ _ (RR.Rel.refl (Slots.rel ho (B := w3.heap.size)) _) rfl
          apply RR.chain_val
          · rfl
          · intro w2 hx  K hK
            simp only [Act.put, List.setIfInBounds_toArray, List.set_cons_zero, List.set_cons_succ] at hK ⊢
            go_simp
            exact hK _ _ (RR.Rel.refl (Slots.rel ho (B := w3.heap.size)) _) rfl
          apply RR.chain_val (.int .u64 (ch : Int))
          · rfl
          · intro w2 hx  K hK
            simp only [Act.put, List.setIfInBounds_toArray, List.set_cons_zero, List.set_cons_succ] at hK ⊢
            have hc := Slots.cell n5 hb3 hx
            go_simp
            exact hK _ _ ((Slots.rel ho).refl _) rfl
          apply RR.chain_val
          · rfl
          · intro w2 hx  K hK
            simp only [Act.put, List.setIfInBounds_toArray, List.set_cons_zero, List.set_cons_succ] at hK ⊢
            go_simp
            exact hK _ _ (RR.Rel.refl (Slots.rel ho (B := w3.heap.size)) _) rfl
          apply RR.chain_val
          · rfl
          · intro w2 hx  K hK
            simp only [Act.put, List.setIfInBounds_toArray, List.set_cons_zero, List.set_cons_succ] at hK ⊢
            go_simp
            exact hK _ _ (RR.Rel.refl (Slots.rel ho (B := w3.heap.size)) _) rfl
          refine RR.chain_pred (Fresh w3.heap.size 75 blkZ (blkC g (a : Int) r u (h : Int) sq ch)) (fun _ _ _ e h => Fresh.kept ho p1 h e) rfl ?_ ?_
          · intro w2 hx  K hK
            simp only [Act.put, List.setIfInBounds_toArray, List.set_cons_zero, List.set_cons_succ] at hK ⊢
            go_simp
            exact hK _ _ (Slots.of (Ext.alloc _ _)) (Fresh.new hx.size)
          refine RR.chain_store (Done w3.heap.size 75 (blkC g (a : Int) r u (h : Int) sq ch)) (fun _ _ _ e h => Done.kept ho p1 h e) rfl rfl ?_ ?_
          · intro w2 hx _ _ v25 h25 K hK
            simp only [Act.put, List.setIfInBounds_toArray, List.set_cons_zero, List.set_cons_succ] at hK ⊢
            obtain ⟨b1, rfl, hb1, c, hr, hc⟩ := h25
            have hs : c.size = 7 := by rcases hc with rfl | rfl <;> rfl
            exact step_store rfl rfl rfl rfl hr (by kernel_rfl) hs (by simp [Value.oneCell']) (let ⟨e, q⟩ := Slots.setRow p1 hb1 hr hc; hK _ e ⟨b1, rfl, hb1, q⟩)
          refine RR.chain_end fun w2 hx => ?_
          simp only [List.reverse_cons, List.reverse_nil, List.nil_append, List.cons_append, RR.withDeps, Act.put, List.setIfInBounds_toArray, List.set_cons_zero, List.set_cons_succ]
          intro v25 h25 v26 h26
          obtain ⟨b9, rfl, hb9, r9⟩ := h26
          have he4 := Slots.ext (Ext.refl _) hx (Nat.le_refl _)
          replace r2 := r2.ext he4
          replace hE1 := hE1.trans he4
          replace d0 := cell_ext d0 he4
          replace d1 := cell_ext d1 he4
          replace d2 := cell_ext d2 he4
          replace d3 := cell_ext d3 he4
          replace d4 := cell_ext d4 he4
          replace d5 := cell_ext d5 he4
          replace d6 := cell_ext d6 he4
          clear hx h25 ho p1 he4 hb9 n0 n1 n2 n3 n4 n5 k0 k1 k2 hrd
          have m0 := r9.cell 0 (.int .u64 (g : Int)) rfl
          have m1 := r9.cell 1 (.int .i64 (a : Int)) rfl
          have m2 := r9.cell 2 (.int .u64 (r : Int)) rfl
          have m3 := r9.cell 3 (.int .u32 (u : Int)) rfl
          have m4 := r9.cell 4 (.int .i64 (h : Int)) rfl
          have m5 := r9.cell 5 (.int .u64 (sq : Int)) rfl
          have m6 := r9.cell 6 (.int .u32 (ch : Int)) rfl
          clear r9
          go_wp2_with fail
          refine (HBR.out _).mono ?_
          rintro e w5 ⟨rfl, he5⟩
          replace r2 := r2.ext he5
          replace hE1 := hE1.trans he5
          replace d0 := cell_ext d0 he5
          replace d1 := cell_ext d1 he5
          replace d2 := cell_ext d2 he5
          replace d3 := cell_ext d3 he5
          replace d4 := cell_ext d4 he5
          replace d5 := cell_ext d5 he5
          replace d6 := cell_ext d6 he5
          replace m0 := cell_ext m0 he5
          replace m1 := cell_ext m1 he5
          replace m2 := cell_ext m2 he5
          replace m3 := cell_ext m3 he5
          replace m4 := cell_ext m4 he5
          replace m5 := cell_ext m5 he5
          replace m6 := cell_ext m6 he5
          clear he5
          cases OK with
          | false =>
            have R2 := Lib.hid r2
            clear r2
            go_wp2_with (refine wpl_row rfl rfl rfl rfl R2.out (by kernel_rfl) rfl (by simp [Value.oneCell']) ?_; intro w9 hw9 hr9; have HW9 := Lib.hid hw9; have HR9 := Lib.hid hr9; clear hw9 hr9)
            (try simp only [Exit.inBlock, Exit.then])
            refine bodyPost_ret (results_ct Try.results31 _ _ rfl HR9.out Try.underlying75 rfl (by kernel_rfl)) rfl ?_
            exact ⟨rfl, HW9.out.ext hE1 (Nat.le_refl _)⟩
          | true =>
            have R2 := Lib.hid r2
            clear r2
            go_wp2_with (refine wpl_row rfl rfl rfl rfl R2.out (by kernel_rfl) rfl (by simp [Value.oneCell']) ?_; intro w9 hw9 hr9; have HW9 := Lib.hid hw9; have HR9 := Lib.hid hr9; clear hw9 hr9)
            (try simp only [Exit.inBlock, Exit.then])
            refine bodyPost_ret (results_ct Try.results31 _ _ rfl HR9.out Try.underlying75 rfl (by kernel_rfl)) rfl ?_
            exact ⟨rfl, HW9.out.ext hE1 (Nat.le_refl _)⟩
        · rw [if_neg (fun h => h4 h.2.2)]
          have hcmp : ((X : Int) != (g : Int) % 2) = true := by simp; omega
          have hw0 : IntKind.u64.wrap (X : Int) = (X : Int) := by rw [IntKind.wrap_u64]; omega
          clear h4
          go_enter Try.func31, Try.ntmps31
          go_wp2_with fail
          refine (hro _).mono ?_
          rintro e w1 ⟨rfl, he1⟩
          have r2 := ((RowIs.new w 75 #[.int .u64 0, .int .i64 0, .int .u64 0, .int .u32 0, .int .i64 0, .int .u64 0, .int .u32 0]).ext (Ext.alloc _ (.cells #[.int .u64 0, .int .i64 0, .int .u64 0, .int .u32 0, .int .i64 0, .int .u64 0, .int .u32 0] 75))).ext he1
          have r4 := (RowIs.new2 w (.cells #[.int .u64 0, .int .i64 0, .int .u64 0, .int .u32 0, .int .i64 0, .int .u64 0, .int .u32 0] 75) 75 #[.int .u64 0, .int .i64 0, .int .u64 0, .int .u32 0, .int .i64 0, .int .u64 0, .int .u32 0]).ext he1
          have hE1 := ((Ext.alloc w (.cells #[.int .u64 0, .int .i64 0, .int .u64 0, .int .u32 0, .int .i64 0, .int .u64 0, .int .u32 0] 75)).trans (Ext.alloc _ (.cells #[.int .u64 0, .int .i64 0, .int .u64 0, .int .u32 0, .int .i64 0, .int .u64 0, .int .u32 0] 75))).trans he1
          have r5 := RowIs.new w1 42 #[.int .u8 ((1 : Nat) : Int), .int .i64 (X : Int), .int .u64 (g : Int)]
          have hEa := Ext.alloc w1 (.cells #[.int .u8 ((1 : Nat) : Int), .int .i64 (X : Int), .int .u64 (g : Int)] 42)
          replace r2 := r2.ext hEa
          replace r4 := r4.ext hEa
          replace hE1 := hE1.trans hEa
          go_upto_region 5 with (fail)
          generalize w1.alloc (.cells #[.int .u8 ((1 : Nat) : Int), .int .i64 (X : Int), .int .u64 (g : Int)] 42) = w2 at *
          generalize w1.heap.size = D at *
          clear he1 hEa hro
          have d0 := r4.cell 0 (.int .u64 0) rfl
          have d1 := r4.cell 1 (.int .i64 0) rfl
          have d2 := r4.cell 2 (.int .u64 0) rfl
          have d3 := r4.cell 3 (.int .u32 0) rfl
          have d4 := r4.cell 4 (.int .i64 0) rfl
          have d5 := r4.cell 5 (.int .u64 0) rfl
          have d6 := r4.cell 6 (.int .u32 0) rfl
          have k0 := r5.cell 0 (.int .u8 ((1 : Nat) : Int)) rfl
          have k1 := r5.cell 1 (.int .i64 (X : Int)) rfl
          have k2 := r5.cell 2 (.int .u64 (g : Int)) rfl
          clear r4 r5
          go_wp2_with fail
          refine (hrd _ _ _).mono ?_
          rintro e w3 ⟨b, d, rfl, ⟨n0, n1, n2, n3, n4, n5⟩, he3⟩
          replace r2 := r2.ext he3
          replace hE1 := hE1.trans he3
          replace d0 := cell_ext d0 he3
          replace d1 := cell_ext d1 he3
          replace d2 := cell_ext d2 he3
          replace d3 := cell_ext d3 he3
          replace d4 := cell_ext d4 he3
          replace d5 := cell_ext d5 he3
          replace d6 := cell_ext d6 he3
          replace k0 := cell_ext k0 he3
          replace k1 := cell_ext k1 he3
          replace k2 := cell_ext k2 he3
          have R2 := Lib.hid r2
          clear r2
          go_wp2_with (refine wpl_row rfl rfl rfl rfl R2.out (by kernel_rfl) rfl (by simp [Value.oneCell']) ?_; intro w9 hw9 hr9; have HW9 := Lib.hid hw9; have HR9 := Lib.hid hr9; clear hw9 hr9)
          (try simp only [Exit.inBlock, Exit.then])
          refine bodyPost_ret (results_ct Try.results31 _ _ rfl HR9.out Try.underlying75 rfl (by kernel_rfl)) rfl ?_
          exact ⟨rfl, HW9.out.ext hE1 (Nat.le_refl _)⟩
      · rw [if_neg (fun h => h3 h.2.1)]
        have hk1 : ((k : Int) != 1) = true := by simp; omega
        have hk2 : ((k : Int) == 1) = false := by simp; omega
        clear h3
        go_enter Try.func31, Try.ntmps31
        go_wp2_with fail
        refine (hro _).mono ?_
        rintro e w1 ⟨rfl, he1⟩
        have r2 := ((RowIs.new w 75 #[.int .u64 0, .int .i64 0, .int .u64 0, .int .u32 0, .int .i64 0, .int .u64 0, .int .u32 0]).ext (Ext.alloc _ (.cells #[.int .u64 0, .int .i64 0, .int .u64 0, .int .u32 0, .int .i64 0, .int .u64 0, .int .u32 0] 75))).ext he1
        have r4 := (RowIs.new2 w (.cells #[.int .u64 0, .int .i64 0, .int .u64 0, .int .u32 0, .int .i64 0, .int .u64 0, .int .u32 0] 75) 75 #[.int .u64 0, .int .i64 0, .int .u64 0, .int .u32 0, .int .i64 0, .int .u64 0, .int .u32 0]).ext he1
        have hE1 := ((Ext.alloc w (.cells #[.int .u64 0, .int .i64 0, .int .u64 0, .int .u32 0, .int .i64 0, .int .u64 0, .int .u32 0] 75)).trans (Ext.alloc _ (.cells #[.int .u64 0, .int .i64 0, .int .u64 0, .int .u32 0, .int .i64 0, .int .u64 0, .int .u32 0] 75))).trans he1
        have r5 := RowIs.new w1 42 #[.int .u8 (k : Int), .int .i64 (X : Int), .int .u64 (g : Int)]
        have hEa := Ext.alloc w1 (.cells #[.int .u8 (k : Int), .int .i64 (X : Int), .int .u64 (g : Int)] 42)
        replace r2 := r2.ext hEa
        replace r4 := r4.ext hEa
        replace hE1 := hE1.trans hEa
        go_upto_region 5 with (fail)
        generalize w1.alloc (.cells #[.int .u8 (k : Int), .int .i64 (X : Int), .int .u64 (g : Int)] 42) = w2 at *
        generalize w1.heap.size = D at *
        clear he1 hEa hro
        have d0 := r4.cell 0 (.int .u64 0) rfl
        have d1 := r4.cell 1 (.int .i64 0) rfl
        have d2 := r4.cell 2 (.int .u64 0) rfl
        have d3 := r4.cell 3 (.int .u32 0) rfl
        have d4 := r4.cell 4 (.int .i64 0) rfl
        have d5 := r4.cell 5 (.int .u64 0) rfl
        have d6 := r4.cell 6 (.int .u32 0) rfl
        have k0 := r5.cell 0 (.int .u8 (k : Int)) rfl
        have k1 := r5.cell 1 (.int .i64 (X : Int)) rfl
        have k2 := r5.cell 2 (.int .u64 (g : Int)) rfl
        clear r4 r5
        go_wp2_with fail
        refine (hrd _ _ _).mono ?_
        rintro e w3 ⟨b, d, rfl, ⟨n0, n1, n2, n3, n4, n5⟩, he3⟩
        replace r2 := r2.ext he3
        replace hE1 := hE1.trans he3
        replace d0 := cell_ext d0 he3
        replace d1 := cell_ext d1 he3
        replace d2 := cell_ext d2 he3
        replace d3 := cell_ext d3 he3
        replace d4 := cell_ext d4 he3
        replace d5 := cell_ext d5 he3
        replace d6 := cell_ext d6 he3
        replace k0 := cell_ext k0 he3
        replace k1 := cell_ext k1 he3
        replace k2 := cell_ext k2 he3
        have R2 := Lib.hid r2
        clear r2
        go_wp2_with (refine wpl_row rfl rfl rfl rfl R2.out (by kernel_rfl) rfl (by simp [Value.oneCell']) ?_; intro w9 hw9 hr9; have HW9 := Lib.hid hw9; have HR9 := Lib.hid hr9; clear hw9 hr9)
        (try simp only [Exit.inBlock, Exit.then])
        refine bodyPost_ret (results_ct Try.results31 _ _ rfl HR9.out Try.underlying75 rfl (by kernel_rfl)) rfl ?_
        exact ⟨rfl, HW9.out.ext hE1 (Nat.le_refl _)⟩
    · rw [if_neg (fun h => h2 h.1.1.1)]
      have hz : ¬ p.extract 29 p.size = (⟨#[]⟩ : ByteArray) := fun e => by
        have h9 := congrArg ByteArray.size e
        rw [hzs] at h9
        have h8 : (⟨#[]⟩ : ByteArray).size = 0 := rfl
        omega
      have hz2 : (p.extract 29 p.size).toList.isEmpty = false := by
        rw [List.isEmpty_eq_false_iff]
        intro e
        rw [toList_data] at e
        exact hz (bytes_ext e)
      clear hzs
      generalize p.extract 29 p.size = Z at *
      go_enter Try.func31, Try.ntmps31
      go_wp2_with fail
      refine (hro _).mono ?_
      rintro e w1 ⟨rfl, he1⟩
      have r2 := ((RowIs.new w 75 #[.int .u64 0, .int .i64 0, .int .u64 0, .int .u32 0, .int .i64 0, .int .u64 0, .int .u32 0]).ext (Ext.alloc _ (.cells #[.int .u64 0, .int .i64 0, .int .u64 0, .int .u32 0, .int .i64 0, .int .u64 0, .int .u32 0] 75))).ext he1
      have r4 := (RowIs.new2 w (.cells #[.int .u64 0, .int .i64 0, .int .u64 0, .int .u32 0, .int .i64 0, .int .u64 0, .int .u32 0] 75) 75 #[.int .u64 0, .int .i64 0, .int .u64 0, .int .u32 0, .int .i64 0, .int .u64 0, .int .u32 0]).ext he1
      have hE1 := ((Ext.alloc w (.cells #[.int .u64 0, .int .i64 0, .int .u64 0, .int .u32 0, .int .i64 0, .int .u64 0, .int .u32 0] 75)).trans (Ext.alloc _ (.cells #[.int .u64 0, .int .i64 0, .int .u64 0, .int .u32 0, .int .i64 0, .int .u64 0, .int .u32 0] 75))).trans he1
      have r5 := RowIs.new w1 42 #[.int .u8 (k : Int), .int .i64 (X : Int), .int .u64 (g : Int)]
      have hEa := Ext.alloc w1 (.cells #[.int .u8 (k : Int), .int .i64 (X : Int), .int .u64 (g : Int)] 42)
      replace r2 := r2.ext hEa
      replace r4 := r4.ext hEa
      replace hE1 := hE1.trans hEa
      go_upto_region 5 with (fail)
      generalize w1.alloc (.cells #[.int .u8 (k : Int), .int .i64 (X : Int), .int .u64 (g : Int)] 42) = w2 at *
      generalize w1.heap.size = D at *
      clear he1 hEa hro
      have d0 := r4.cell 0 (.int .u64 0) rfl
      have d1 := r4.cell 1 (.int .i64 0) rfl
      have d2 := r4.cell 2 (.int .u64 0) rfl
      have d3 := r4.cell 3 (.int .u32 0) rfl
      have d4 := r4.cell 4 (.int .i64 0) rfl
      have d5 := r4.cell 5 (.int .u64 0) rfl
      have d6 := r4.cell 6 (.int .u32 0) rfl
      have k0 := r5.cell 0 (.int .u8 (k : Int)) rfl
      have k1 := r5.cell 1 (.int .i64 (X : Int)) rfl
      have k2 := r5.cell 2 (.int .u64 (g : Int)) rfl
      clear r4 r5
      go_wp2_with fail
      refine (hrd _ _ _).mono ?_
      rintro e w3 ⟨b, d, rfl, ⟨n0, n1, n2, n3, n4, n5⟩, he3⟩
      replace r2 := r2.ext he3
      replace hE1 := hE1.trans he3
      replace d0 := cell_ext d0 he3
      replace d1 := cell_ext d1 he3
      replace d2 := cell_ext d2 he3
      replace d3 := cell_ext d3 he3
      replace d4 := cell_ext d4 he3
      replace d5 := cell_ext d5 he3
      replace d6 := cell_ext d6 he3
      replace k0 := cell_ext k0 he3
      replace k1 := cell_ext k1 he3
      replace k2 := cell_ext k2 he3
      have R2 := Lib.hid r2
      clear r2
      go_wp2_with (refine wpl_row rfl rfl rfl rfl R2.out (by kernel_rfl) rfl (by simp [Value.oneCell']) ?_; intro w9 hw9 hr9; have HW9 := Lib.hid hw9; have HR9 := Lib.hid hr9; clear hw9 hr9)
      (try simp only [Exit.inBlock, Exit.then])
      refine bodyPost_ret (results_ct Try.results31 _ _ rfl HR9.out Try.underlying75 rfl (by kernel_rfl)) rfl ?_
      exact ⟨rfl, HW9.out.ext hE1 (Nat.le_refl _)⟩
end Go.Proofs.Ytbnpldilkkhgmaa
