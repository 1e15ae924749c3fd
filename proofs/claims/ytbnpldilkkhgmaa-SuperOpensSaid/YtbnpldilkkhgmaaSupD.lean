/- Contract of super.Open. -/
import Derived.Test.YtbnpldilkkhgmaaSupC
import Derived.Test.YtbnpldilkkhgmaaEnvJ
namespace Go.Proofs.Ytbnpldilkkhgmaa
open Go.RowKit
/-- what Open answers of an image that is one -/
def sopenAns (k X g : Nat) (p : ByteArray) : Value :=
  if ((p.size = 29 ∧ (three p.data.toList).a ≤ 2147483647) ∧ Sup.okB g (three p.data.toList).g ((tail3 (p.data.toList.drop 16)).a : Nat) = true) ∧ k = 1 ∧ X = g % 2 then
    .tuple #[.agg (blkC g ((three p.data.toList).a : Nat) (three p.data.toList).g (three p.data.toList).c ((tail3 (p.data.toList.drop 16)).a : Nat) (tail3 (p.data.toList.drop 16)).g (tail3 (p.data.toList.drop 16)).c), .int .i64 0]
  else .tuple #[.agg blkZ, .int .i64 4]
set_option maxRecDepth 100000 in
set_option maxHeartbeats 2000000 in
theorem sopen_bad (b : Nat) (s : ByteArray) (w : World) (ht : TabAt w b) (hm : s.size ≤ maxLen) (e : Int) (he : ¬ e = 0) (hop : openAns s = .tuple #[.agg hdZ, .string ⟨#[]⟩, .int .i64 e]) :
    Calls Try.prog 30 #[.pointer (some ⟨b, 0, none⟩), .string s] w fun en w' => en = .returned (.tuple #[.agg blkZ, .int .i64 e]) ∧ Ext w w' := by
  have hopn := fun w ht => open_any b s w ht hm
  rw [hop] at hopn
  unfold hdZ at hopn
  have he' : ((e : Int) != 0) = true := by simpa using he
  clear hop
  go_enter Try.func30, Try.ntmps30
  go_wp2_with fail
  refine (hopn _ (ht.ext (Ext.alloc _ _))).mono ?_
  rintro e w1 ⟨rfl, he1⟩
  have r2 := ((RowIs.new w _ _).ext he1).ext (Ext.alloc w1 (.cells #[.int .u8 0, .int .i64 0, .int .u64 0] 38))
  have hE1 := ((Ext.alloc w _).trans he1).trans (Ext.alloc w1 (.cells #[.int .u8 0, .int .i64 0, .int .u64 0] 38))
  have R2 := Lib.hid r2
  clear r2 hopn
  go_wp2_with (refine wpl_row rfl rfl rfl rfl R2.out (by kernel_rfl) rfl (by simp [Value.oneCell']) ?_; intro w6 hw6 hr6; have HW6 := Lib.hid hw6; have HR6 := Lib.hid hr6; clear hw6 hr6)
  (try simp only [Exit.inBlock, Exit.then])
  refine bodyPost_ret (results_ct Try.results30 _ _ rfl HR6.out Try.underlying70 rfl (by kernel_rfl)) rfl ?_
  exact ⟨rfl, HW6.out.ext hE1 (Nat.le_refl _)⟩
set_option maxRecDepth 100000 in
theorem open_nil (s : ByteArray) (w : World) : Calls Try.prog 19 #[.pointer none, .string s] w fun en w' => en = .returned (.tuple #[.agg hdZ, .string ⟨#[]⟩, .int .i64 1]) ∧ Ext w w' := by
  go_enter Try.func19, Try.ntmps19
  go_wp2_with fail
  (try simp only [Exit.inBlock, Exit.then])
  refine bodyPost_ret (results_ctt Try.results19 _ _ rfl (RowIs.new _ _ _) Try.underlying38 rfl (by kernel_rfl)) rfl ?_
  exact ⟨rfl, Ext.alloc _ _⟩
set_option maxRecDepth 100000 in
set_option maxHeartbeats 1000000 in
theorem sopen_nil (s : ByteArray) (w : World) : Calls Try.prog 30 #[.pointer none, .string s] w fun en w' => en = .returned (.tuple #[.agg blkZ, .int .i64 1]) ∧ Ext w w' := by
  go_enter Try.func30, Try.ntmps30
  go_wp2_with fail
  refine (open_nil s _).mono ?_
  unfold hdZ
  rintro e w1 ⟨rfl, he1⟩
  have r2 := ((RowIs.new w _ _).ext he1).ext (Ext.alloc w1 (.cells #[.int .u8 0, .int .i64 0, .int .u64 0] 38))
  have hE1 := ((Ext.alloc w _).trans he1).trans (Ext.alloc w1 (.cells #[.int .u8 0, .int .i64 0, .int .u64 0] 38))
  have R2 := Lib.hid r2
  clear r2
  go_wp2_with (refine wpl_row rfl rfl rfl rfl R2.out (by kernel_rfl) rfl (by simp [Value.oneCell']) ?_; intro w6 hw6 hr6; have HW6 := Lib.hid hw6; have HR6 := Lib.hid hr6; clear hw6 hr6)
  (try simp only [Exit.inBlock, Exit.then])
  refine bodyPost_ret (results_ct Try.results30 _ _ rfl HR6.out Try.underlying70 rfl (by kernel_rfl)) rfl ?_
  exact ⟨rfl, HW6.out.ext hE1 (Nat.le_refl _)⟩

set_option maxRecDepth 100000 in
set_option maxHeartbeats 2000000 in
theorem sopen_noparse (b k X g : Nat) (s p : ByteArray) (w : World) (ht : TabAt w b) (hm : s.size ≤ maxLen) (hp : p.size ≤ maxLen) (hop : openAns s = .tuple #[.agg (hdC k X g), .string p, .int .i64 0]) (hq : sparseAns p = .tuple #[.agg blkZ, .bool false]) :
    Calls Try.prog 30 #[.pointer (some ⟨b, 0, none⟩), .string s] w fun en w' => en = .returned (.tuple #[.agg blkZ, .int .i64 4]) ∧ Ext w w' := by
  have hopn := fun w ht => open_any b s w ht hm
  rw [hop] at hopn
  have hpa := fun w => sparse_any p w hp
  rw [hq] at hpa
  unfold hdC at hopn
  unfold blkZ at hpa
  clear hop hq
  go_enter Try.func30, Try.ntmps30
  go_wp2_with fail
  refine (hopn _ (ht.ext (Ext.alloc _ _))).mono ?_
  rintro e w1 ⟨rfl, he1⟩
  have r2 := (RowIs.new w _ _).ext he1
  have hE1 := (Ext.alloc w _).trans he1
  have hW1 : w.heap.size < w1.heap.size := r2.lt
  go_wp2_with fail
  have e0 := World.cell?_alloc_new w1 #[.int .u8 (k : Int), .int .i64 (X : Int), .int .u64 (g : Int)] 38 0
  have e1 := World.cell?_alloc_new w1 #[.int .u8 (k : Int), .int .i64 (X : Int), .int .u64 (g : Int)] 38 1
  have e2 := World.cell?_alloc_new w1 #[.int .u8 (k : Int), .int .i64 (X : Int), .int .u64 (g : Int)] 38 2
  have hEa := Ext.alloc w1 (.cells #[.int .u8 (k : Int), .int .i64 (X : Int), .int .u64 (g : Int)] 38)
  replace r2 := r2.ext hEa
  replace hE1 := hE1.trans hEa
  refine (hpa _).mono ?_
  rintro e w2 ⟨rfl, he2⟩
  replace e0 := fun o => cell_ext (cell_ext e0 he2) (Ext.alloc w2 o)
  replace e1 := fun o => cell_ext (cell_ext e1 he2) (Ext.alloc w2 o)
  replace e2 := fun o => cell_ext (cell_ext e2 he2) (Ext.alloc w2 o)
  replace r2 := fun o => (r2.ext he2).ext (Ext.alloc w2 o)
  replace hE1 := fun o => (hE1.trans he2).trans (Ext.alloc w2 o)
  generalize w1.heap.size = G at *
  clear hopn hpa hEa he1 he2
  go_upto_region 6 with (fail)
  have d0 := World.cell?_alloc_new w2 #[.int .u64 (g : Int), .int .i64 0, .int .u64 0, .int .u32 0, .int .i64 0, .int .u64 0, .int .u32 0] 70 0
  have d1 := World.cell?_alloc_new w2 #[.int .u64 (g : Int), .int .i64 0, .int .u64 0, .int .u32 0, .int .i64 0, .int .u64 0, .int .u32 0] 70 1
  have d2 := World.cell?_alloc_new w2 #[.int .u64 (g : Int), .int .i64 0, .int .u64 0, .int .u32 0, .int .i64 0, .int .u64 0, .int .u32 0] 70 2
  have d3 := World.cell?_alloc_new w2 #[.int .u64 (g : Int), .int .i64 0, .int .u64 0, .int .u32 0, .int .i64 0, .int .u64 0, .int .u32 0] 70 3
  have d4 := World.cell?_alloc_new w2 #[.int .u64 (g : Int), .int .i64 0, .int .u64 0, .int .u32 0, .int .i64 0, .int .u64 0, .int .u32 0] 70 4
  have d5 := World.cell?_alloc_new w2 #[.int .u64 (g : Int), .int .i64 0, .int .u64 0, .int .u32 0, .int .i64 0, .int .u64 0, .int .u32 0] 70 5
  have d6 := World.cell?_alloc_new w2 #[.int .u64 (g : Int), .int .i64 0, .int .u64 0, .int .u32 0, .int .i64 0, .int .u64 0, .int .u32 0] 70 6
  replace e0 := e0 (.cells #[.int .u64 (g : Int), .int .i64 0, .int .u64 0, .int .u32 0, .int .i64 0, .int .u64 0, .int .u32 0] 70)
  replace e1 := e1 (.cells #[.int .u64 (g : Int), .int .i64 0, .int .u64 0, .int .u32 0, .int .i64 0, .int .u64 0, .int .u32 0] 70)
  replace e2 := e2 (.cells #[.int .u64 (g : Int), .int .i64 0, .int .u64 0, .int .u32 0, .int .i64 0, .int .u64 0, .int .u32 0] 70)
  replace r2 := r2 (.cells #[.int .u64 (g : Int), .int .i64 0, .int .u64 0, .int .u32 0, .int .i64 0, .int .u64 0, .int .u32 0] 70)
  replace hE1 := hE1 (.cells #[.int .u64 (g : Int), .int .i64 0, .int .u64 0, .int .u32 0, .int .i64 0, .int .u64 0, .int .u32 0] 70)
  generalize w2.alloc (.cells #[.int .u64 (g : Int), .int .i64 0, .int .u64 0, .int .u32 0, .int .i64 0, .int .u64 0, .int .u32 0] 70) = w3 at *
  generalize w2.heap.size = D at *
  refine wp_region_drift_lit (n := 52) (by kernel_rfl) (by kernel_rfl) (by rfl) ?_
  apply chain_val
  · intro w2 hx  K hK
    simp only [Act.put, List.setIfInBounds_toArray, List.set_cons_zero, List.set_cons_succ] at hK ⊢
    go_simp
    exact hK _ _ (Ext.refl _) rfl
  apply chain_val
  · intro w2 hx  K hK
    simp only [Act.put, List.setIfInBounds_toArray, List.set_cons_zero, List.set_cons_succ] at hK ⊢
    go_simp
    exact hK _ _ (Ext.refl _) rfl
  apply chain_val
  · intro w2 hx  K hK
    simp only [Act.put, List.setIfInBounds_toArray, List.set_cons_zero, List.set_cons_succ] at hK ⊢
    go_simp
    exact hK _ _ (Ext.refl _) rfl
  apply chain_val
  · intro w2 hx  K hK
    simp only [Act.put, List.setIfInBounds_toArray, List.set_cons_zero, List.set_cons_succ] at hK ⊢
    go_simp
    exact hK _ _ (Ext.refl _) rfl
  apply chain_val
  · intro w2 hx  K hK
    simp only [Act.put, List.setIfInBounds_toArray, List.set_cons_zero, List.set_cons_succ] at hK ⊢
    go_simp
    exact hK _ _ (Ext.refl _) rfl
  apply chain_val
  · intro w2 hx  K hK
    simp only [Act.put, List.setIfInBounds_toArray, List.set_cons_zero, List.set_cons_succ] at hK ⊢
    go_simp
    exact hK _ _ (Ext.refl _) rfl
  apply chain_val
  · intro w2 hx  K hK
    simp only [Act.put, List.setIfInBounds_toArray, List.set_cons_zero, List.set_cons_succ] at hK ⊢
    go_simp
    exact hK _ _ (Ext.refl _) rfl
  apply chain_val
  · intro w2 hx  K hK
    simp only [Act.put, List.setIfInBounds_toArray, List.set_cons_zero, List.set_cons_succ] at hK ⊢
    go_simp
    exact hK _ _ (Ext.refl _) rfl
  apply chain_val
  · intro w2 hx  K hK
    simp only [Act.put, List.setIfInBounds_toArray, List.set_cons_zero, List.set_cons_succ] at hK ⊢
    go_simp
    exact hK _ _ (Ext.refl _) rfl
  apply chain_val
  · intro w2 hx  K hK
    simp only [Act.put, List.setIfInBounds_toArray, List.set_cons_zero, List.set_cons_succ] at hK ⊢
    go_simp
    exact hK _ _ (Ext.refl _) rfl
  apply chain_val
  · intro w2 hx  K hK
    simp only [Act.put, List.setIfInBounds_toArray, List.set_cons_zero, List.set_cons_succ] at hK ⊢
    go_simp
    exact hK _ _ (Ext.refl _) rfl
  apply chain_val
  · intro w2 hx  K hK
    simp only [Act.put, List.setIfInBounds_toArray, List.set_cons_zero, List.set_cons_succ] at hK ⊢
    go_simp
    exact hK _ _ (Ext.refl _) rfl
  apply chain_val
  · intro w2 hx  K hK
    simp only [Act.put, List.setIfInBounds_toArray, List.set_cons_zero, List.set_cons_succ] at hK ⊢
    go_simp
    exact hK _ _ (Ext.refl _) rfl
  apply chain_val
  · intro w2 hx  K hK
    simp only [Act.put, List.setIfInBounds_toArray, List.set_cons_zero, List.set_cons_succ] at hK ⊢
    go_simp
    exact hK _ _ (Ext.refl _) rfl
  apply chain_val
  · intro w2 hx  K hK
    simp only [Act.put, List.setIfInBounds_toArray, List.set_cons_zero, List.set_cons_succ] at hK ⊢
    go_simp
    exact hK _ _ (Ext.refl _) rfl
  apply chain_val
  · intro w2 hx  K hK
    simp only [Act.put, List.setIfInBounds_toArray, List.set_cons_zero, List.set_cons_succ] at hK ⊢
    go_simp
    exact hK _ _ (Ext.refl _) rfl
  apply chain_val
  · intro w2 hx  K hK
    simp only [Act.put, List.setIfInBounds_toArray, List.set_cons_zero, List.set_cons_succ] at hK ⊢
    go_simp
    exact hK _ _ (Ext.refl _) rfl
  apply chain_val
  · intro w2 hx  K hK
    simp only [Act.put, List.setIfInBounds_toArray, List.set_cons_zero, List.set_cons_succ] at hK ⊢
    go_simp
    exact hK _ _ (Ext.refl _) rfl
  apply chain_val
  · intro w2 hx  K hK
    simp only [Act.put, List.setIfInBounds_toArray, List.set_cons_zero, List.set_cons_succ] at hK ⊢
    go_simp
    exact hK _ _ (Ext.refl _) rfl
  apply chain_val (.bool true)
  · intro w2 hx  K hK
    simp only [Act.put, List.setIfInBounds_toArray, List.set_cons_zero, List.set_cons_succ] at hK ⊢
    go_simp
    exact hK _ _ (Ext.refl _) rfl
  refine chain_end fun w2 hx => ?_
  simp only [List.reverse_cons, List.reverse_nil, List.nil_append, List.cons_append, withDeps, Act.put, List.setIfInBounds_toArray, List.set_cons_zero, List.set_cons_succ]
  have R2 := Lib.hid (r2.ext hx)
  replace hE1 := hE1.trans hx
  clear r2
  go_wp2_with (refine wpl_row rfl rfl rfl rfl R2.out (by kernel_rfl) rfl (by simp [Value.oneCell']) ?_; intro w6 hw6 hr6; have HW6 := Lib.hid hw6; have HR6 := Lib.hid hr6; clear hw6 hr6)
  (try simp only [Exit.inBlock, Exit.then])
  refine bodyPost_ret (results_ct Try.results30 _ _ rfl HR6.out Try.underlying70 rfl (by kernel_rfl)) rfl ?_
  exact ⟨rfl, HW6.out.ext hE1 (Nat.le_refl _)⟩
set_option maxRecDepth 100000 in
set_option maxHeartbeats 4000000 in
theorem sopen_noright (b k X g a r u h sq ch : Nat) (s p : ByteArray) (w : World) (ht : TabAt w b) (hm : s.size ≤ maxLen) (hp : p.size ≤ maxLen) (hop : openAns s = .tuple #[.agg (hdC k X g), .string p, .int .i64 0]) (hq : sparseAns p = .tuple #[.agg (blkC 0 (a : Nat) r u (h : Nat) sq ch), .bool true]) (hb : Sup.okB g r (h : Int) = false) :
    Calls Try.prog 30 #[.pointer (some ⟨b, 0, none⟩), .string s] w fun en w' => en = .returned (.tuple #[.agg blkZ, .int .i64 4]) ∧ Ext w w' := by
  have hopn := fun w ht => open_any b s w ht hm
  rw [hop] at hopn
  have hpa := fun w => sparse_any p w hp
  rw [hq] at hpa
  unfold hdC at hopn
  unfold blkC at hpa
  have HB := Lib.hid hb
  clear hop hq hb
  go_enter Try.func30, Try.ntmps30
  go_wp2_with fail
  refine (hopn _ (ht.ext (Ext.alloc _ _))).mono ?_
  rintro e w1 ⟨rfl, he1⟩
  have r2 := (RowIs.new w _ _).ext he1
  have hE1 := (Ext.alloc w _).trans he1
  have hW1 : w.heap.size < w1.heap.size := r2.lt
  go_wp2_with fail
  have e0 := World.cell?_alloc_new w1 #[.int .u8 (k : Int), .int .i64 (X : Int), .int .u64 (g : Int)] 38 0
  have e1 := World.cell?_alloc_new w1 #[.int .u8 (k : Int), .int .i64 (X : Int), .int .u64 (g : Int)] 38 1
  have e2 := World.cell?_alloc_new w1 #[.int .u8 (k : Int), .int .i64 (X : Int), .int .u64 (g : Int)] 38 2
  have hEa := Ext.alloc w1 (.cells #[.int .u8 (k : Int), .int .i64 (X : Int), .int .u64 (g : Int)] 38)
  replace r2 := r2.ext hEa
  replace hE1 := hE1.trans hEa
  refine (hpa _).mono ?_
  rintro e w2 ⟨rfl, he2⟩
  replace e0 := fun o => cell_ext (cell_ext e0 he2) (Ext.alloc w2 o)
  replace e1 := fun o => cell_ext (cell_ext e1 he2) (Ext.alloc w2 o)
  replace e2 := fun o => cell_ext (cell_ext e2 he2) (Ext.alloc w2 o)
  replace r2 := fun o => (r2.ext he2).ext (Ext.alloc w2 o)
  replace hE1 := fun o => (hE1.trans he2).trans (Ext.alloc w2 o)
  generalize w1.heap.size = G at *
  clear hopn hpa hEa he1 he2
  go_upto_region 6 with (fail)
  have d0 := World.cell?_alloc_new w2 #[.int .u64 (g : Int), .int .i64 (a : Int), .int .u64 (r : Int), .int .u32 (u : Int), .int .i64 (h : Int), .int .u64 (sq : Int), .int .u32 (ch : Int)] 70 0
  have d1 := World.cell?_alloc_new w2 #[.int .u64 (g : Int), .int .i64 (a : Int), .int .u64 (r : Int), .int .u32 (u : Int), .int .i64 (h : Int), .int .u64 (sq : Int), .int .u32 (ch : Int)] 70 1
  have d2 := World.cell?_alloc_new w2 #[.int .u64 (g : Int), .int .i64 (a : Int), .int .u64 (r : Int), .int .u32 (u : Int), .int .i64 (h : Int), .int .u64 (sq : Int), .int .u32 (ch : Int)] 70 2
  have d3 := World.cell?_alloc_new w2 #[.int .u64 (g : Int), .int .i64 (a : Int), .int .u64 (r : Int), .int .u32 (u : Int), .int .i64 (h : Int), .int .u64 (sq : Int), .int .u32 (ch : Int)] 70 3
  have d4 := World.cell?_alloc_new w2 #[.int .u64 (g : Int), .int .i64 (a : Int), .int .u64 (r : Int), .int .u32 (u : Int), .int .i64 (h : Int), .int .u64 (sq : Int), .int .u32 (ch : Int)] 70 4
  have d5 := World.cell?_alloc_new w2 #[.int .u64 (g : Int), .int .i64 (a : Int), .int .u64 (r : Int), .int .u32 (u : Int), .int .i64 (h : Int), .int .u64 (sq : Int), .int .u32 (ch : Int)] 70 5
  have d6 := World.cell?_alloc_new w2 #[.int .u64 (g : Int), .int .i64 (a : Int), .int .u64 (r : Int), .int .u32 (u : Int), .int .i64 (h : Int), .int .u64 (sq : Int), .int .u32 (ch : Int)] 70 6
  replace e0 := e0 (.cells #[.int .u64 (g : Int), .int .i64 (a : Int), .int .u64 (r : Int), .int .u32 (u : Int), .int .i64 (h : Int), .int .u64 (sq : Int), .int .u32 (ch : Int)] 70)
  replace e1 := e1 (.cells #[.int .u64 (g : Int), .int .i64 (a : Int), .int .u64 (r : Int), .int .u32 (u : Int), .int .i64 (h : Int), .int .u64 (sq : Int), .int .u32 (ch : Int)] 70)
  replace e2 := e2 (.cells #[.int .u64 (g : Int), .int .i64 (a : Int), .int .u64 (r : Int), .int .u32 (u : Int), .int .i64 (h : Int), .int .u64 (sq : Int), .int .u32 (ch : Int)] 70)
  replace r2 := r2 (.cells #[.int .u64 (g : Int), .int .i64 (a : Int), .int .u64 (r : Int), .int .u32 (u : Int), .int .i64 (h : Int), .int .u64 (sq : Int), .int .u32 (ch : Int)] 70)
  replace hE1 := hE1 (.cells #[.int .u64 (g : Int), .int .i64 (a : Int), .int .u64 (r : Int), .int .u32 (u : Int), .int .i64 (h : Int), .int .u64 (sq : Int), .int .u32 (ch : Int)] 70)
  generalize w2.alloc (.cells #[.int .u64 (g : Int), .int .i64 (a : Int), .int .u64 (r : Int), .int .u32 (u : Int), .int .i64 (h : Int), .int .u64 (sq : Int), .int .u32 (ch : Int)] 70) = w3 at *
  generalize w2.heap.size = D at *
  refine wp_region_drift_lit (n := 52) (by kernel_rfl) (by kernel_rfl) (by rfl) ?_
  apply chain_val
  · intro w2 hx  K hK
    simp only [Act.put, List.setIfInBounds_toArray, List.set_cons_zero, List.set_cons_succ] at hK ⊢
    go_simp
    exact hK _ _ (Ext.refl _) rfl
  apply chain_val
  · intro w2 hx  K hK
    simp only [Act.put, List.setIfInBounds_toArray, List.set_cons_zero, List.set_cons_succ] at hK ⊢
    go_simp
    exact hK _ _ (Ext.refl _) rfl
  apply chain_val
  · intro w2 hx  K hK
    simp only [Act.put, List.setIfInBounds_toArray, List.set_cons_zero, List.set_cons_succ] at hK ⊢
    go_simp
    exact hK _ _ (Ext.refl _) rfl
  apply chain_val (.agg #[.int .u64 (g : Int), .int .i64 (a : Int), .int .u64 (r : Int), .int .u32 (u : Int), .int .i64 (h : Int), .int .u64 (sq : Int), .int .u32 (ch : Int)])
  · intro w2 hx  K hK
    simp only [Act.put, List.setIfInBounds_toArray, List.set_cons_zero, List.set_cons_succ] at hK ⊢
    have x0 := cell_ext d0 hx
    have x1 := cell_ext d1 hx
    have x2 := cell_ext d2 hx
    have x3 := cell_ext d3 hx
    have x4 := cell_ext d4 hx
    have x5 := cell_ext d5 hx
    have x6 := cell_ext d6 hx
    go_simp
    exact hK _ _ (Ext.refl _) rfl
  apply chain_val (.bool false)
  · intro w2 hx  K hK
    simp only [Act.put, List.setIfInBounds_toArray, List.set_cons_zero, List.set_cons_succ] at hK ⊢
    go_simp
    refine (bright_any _ _ _ _ _ _ _ _).mono ?_
    rw [HB.out]
    rintro e w7 ⟨rfl, he7⟩
    exact hK _ _ he7 rfl
  apply chain_val
  · intro w2 hx  K hK
    simp only [Act.put, List.setIfInBounds_toArray, List.set_cons_zero, List.set_cons_succ] at hK ⊢
    go_simp
    exact hK _ _ (Ext.refl _) rfl
  apply chain_val
  · intro w2 hx  K hK
    simp only [Act.put, List.setIfInBounds_toArray, List.set_cons_zero, List.set_cons_succ] at hK ⊢
    go_simp
    exact hK _ _ (Ext.refl _) rfl
  apply chain_val
  · intro w2 hx  K hK
    simp only [Act.put, List.setIfInBounds_toArray, List.set_cons_zero, List.set_cons_succ] at hK ⊢
    go_simp
    exact hK _ _ (Ext.refl _) rfl
  apply chain_val
  · intro w2 hx  K hK
    simp only [Act.put, List.setIfInBounds_toArray, List.set_cons_zero, List.set_cons_succ] at hK ⊢
    go_simp
    exact hK _ _ (Ext.refl _) rfl
  apply chain_val
  · intro w2 hx  K hK
    simp only [Act.put, List.setIfInBounds_toArray, List.set_cons_zero, List.set_cons_succ] at hK ⊢
    go_simp
    exact hK _ _ (Ext.refl _) rfl
  apply chain_val
  · intro w2 hx  K hK
    simp only [Act.put, List.setIfInBounds_toArray, List.set_cons_zero, List.set_cons_succ] at hK ⊢
    go_simp
    exact hK _ _ (Ext.refl _) rfl
  apply chain_val
  · intro w2 hx  K hK
    simp only [Act.put, List.setIfInBounds_toArray, List.set_cons_zero, List.set_cons_succ] at hK ⊢
    go_simp
    exact hK _ _ (Ext.refl _) rfl
  apply chain_val
  · intro w2 hx  K hK
    simp only [Act.put, List.setIfInBounds_toArray, List.set_cons_zero, List.set_cons_succ] at hK ⊢
    go_simp
    exact hK _ _ (Ext.refl _) rfl
  apply chain_val
  · intro w2 hx  K hK
    simp only [Act.put, List.setIfInBounds_toArray, List.set_cons_zero, List.set_cons_succ] at hK ⊢
    go_simp
    exact hK _ _ (Ext.refl _) rfl
  apply chain_val
  · intro w2 hx  K hK
    simp only [Act.put, List.setIfInBounds_toArray, List.set_cons_zero, List.set_cons_succ] at hK ⊢
    go_simp
    exact hK _ _ (Ext.refl _) rfl
  apply chain_val
  · intro w2 hx  K hK
    simp only [Act.put, List.setIfInBounds_toArray, List.set_cons_zero, List.set_cons_succ] at hK ⊢
    go_simp
    exact hK _ _ (Ext.refl _) rfl
  apply chain_val
  · intro w2 hx  K hK
    simp only [Act.put, List.setIfInBounds_toArray, List.set_cons_zero, List.set_cons_succ] at hK ⊢
    go_simp
    exact hK _ _ (Ext.refl _) rfl
  apply chain_val
  · intro w2 hx  K hK
    simp only [Act.put, List.setIfInBounds_toArray, List.set_cons_zero, List.set_cons_succ] at hK ⊢
    go_simp
    exact hK _ _ (Ext.refl _) rfl
  apply chain_val
  · intro w2 hx  K hK
    simp only [Act.put, List.setIfInBounds_toArray, List.set_cons_zero, List.set_cons_succ] at hK ⊢
    go_simp
    exact hK _ _ (Ext.refl _) rfl
  apply chain_val (.bool true)
  · intro w2 hx  K hK
    simp only [Act.put, List.setIfInBounds_toArray, List.set_cons_zero, List.set_cons_succ] at hK ⊢
    go_simp
    exact hK _ _ (Ext.refl _) rfl
  refine chain_end fun w2 hx => ?_
  simp only [List.reverse_cons, List.reverse_nil, List.nil_append, List.cons_append, withDeps, Act.put, List.setIfInBounds_toArray, List.set_cons_zero, List.set_cons_succ]
  have R2 := Lib.hid (r2.ext hx)
  replace hE1 := hE1.trans hx
  clear r2
  go_wp2_with (refine wpl_row rfl rfl rfl rfl R2.out (by kernel_rfl) rfl (by simp [Value.oneCell']) ?_; intro w6 hw6 hr6; have HW6 := Lib.hid hw6; have HR6 := Lib.hid hr6; clear hw6 hr6)
  (try simp only [Exit.inBlock, Exit.then])
  refine bodyPost_ret (results_ct Try.results30 _ _ rfl HR6.out Try.underlying70 rfl (by kernel_rfl)) rfl ?_
  exact ⟨rfl, HW6.out.ext hE1 (Nat.le_refl _)⟩
set_option maxRecDepth 100000 in
set_option maxHeartbeats 4000000 in
theorem sopen_nokind (b k X g a r u h sq ch : Nat) (s p : ByteArray) (w : World) (ht : TabAt w b) (hm : s.size ≤ maxLen) (hp : p.size ≤ maxLen) (hop : openAns s = .tuple #[.agg (hdC k X g), .string p, .int .i64 0]) (hq : sparseAns p = .tuple #[.agg (blkC 0 (a : Nat) r u (h : Nat) sq ch), .bool true]) (hb : Sup.okB g r (h : Int) = true) (hk : ¬ k = 1) :
    Calls Try.prog 30 #[.pointer (some ⟨b, 0, none⟩), .string s] w fun en w' => en = .returned (.tuple #[.agg blkZ, .int .i64 4]) ∧ Ext w w' := by
  have hopn := fun w ht => open_any b s w ht hm
  rw [hop] at hopn
  have hpa := fun w => sparse_any p w hp
  rw [hq] at hpa
  unfold hdC at hopn
  unfold blkC at hpa
  have HB := Lib.hid hb
  clear hop hq hb
  have hk' : ((k : Int) != 1) = true := by simp; omega
  have hk2 : decide ((k : Int) = 1) = false := decide_eq_false (by omega)
  have hk3 : ((k : Int) == 1) = false := by simp; omega
  go_enter Try.func30, Try.ntmps30
  go_wp2_with fail
  refine (hopn _ (ht.ext (Ext.alloc _ _))).mono ?_
  rintro e w1 ⟨rfl, he1⟩
  have r2 := (RowIs.new w _ _).ext he1
  have hE1 := (Ext.alloc w _).trans he1
  have hW1 : w.heap.size < w1.heap.size := r2.lt
  go_wp2_with fail
  have e0 := World.cell?_alloc_new w1 #[.int .u8 (k : Int), .int .i64 (X : Int), .int .u64 (g : Int)] 38 0
  have e1 := World.cell?_alloc_new w1 #[.int .u8 (k : Int), .int .i64 (X : Int), .int .u64 (g : Int)] 38 1
  have e2 := World.cell?_alloc_new w1 #[.int .u8 (k : Int), .int .i64 (X : Int), .int .u64 (g : Int)] 38 2
  have hEa := Ext.alloc w1 (.cells #[.int .u8 (k : Int), .int .i64 (X : Int), .int .u64 (g : Int)] 38)
  replace r2 := r2.ext hEa
  replace hE1 := hE1.trans hEa
  refine (hpa _).mono ?_
  rintro e w2 ⟨rfl, he2⟩
  replace e0 := fun o => cell_ext (cell_ext e0 he2) (Ext.alloc w2 o)
  replace e1 := fun o => cell_ext (cell_ext e1 he2) (Ext.alloc w2 o)
  replace e2 := fun o => cell_ext (cell_ext e2 he2) (Ext.alloc w2 o)
  replace r2 := fun o => (r2.ext he2).ext (Ext.alloc w2 o)
  replace hE1 := fun o => (hE1.trans he2).trans (Ext.alloc w2 o)
  generalize w1.heap.size = G at *
  clear hopn hpa hEa he1 he2
  go_upto_region 6 with (fail)
  have d0 := World.cell?_alloc_new w2 #[.int .u64 (g : Int), .int .i64 (a : Int), .int .u64 (r : Int), .int .u32 (u : Int), .int .i64 (h : Int), .int .u64 (sq : Int), .int .u32 (ch : Int)] 70 0
  have d1 := World.cell?_alloc_new w2 #[.int .u64 (g : Int), .int .i64 (a : Int), .int .u64 (r : Int), .int .u32 (u : Int), .int .i64 (h : Int), .int .u64 (sq : Int), .int .u32 (ch : Int)] 70 1
  have d2 := World.cell?_alloc_new w2 #[.int .u64 (g : Int), .int .i64 (a : Int), .int .u64 (r : Int), .int .u32 (u : Int), .int .i64 (h : Int), .int .u64 (sq : Int), .int .u32 (ch : Int)] 70 2
  have d3 := World.cell?_alloc_new w2 #[.int .u64 (g : Int), .int .i64 (a : Int), .int .u64 (r : Int), .int .u32 (u : Int), .int .i64 (h : Int), .int .u64 (sq : Int), .int .u32 (ch : Int)] 70 3
  have d4 := World.cell?_alloc_new w2 #[.int .u64 (g : Int), .int .i64 (a : Int), .int .u64 (r : Int), .int .u32 (u : Int), .int .i64 (h : Int), .int .u64 (sq : Int), .int .u32 (ch : Int)] 70 4
  have d5 := World.cell?_alloc_new w2 #[.int .u64 (g : Int), .int .i64 (a : Int), .int .u64 (r : Int), .int .u32 (u : Int), .int .i64 (h : Int), .int .u64 (sq : Int), .int .u32 (ch : Int)] 70 5
  have d6 := World.cell?_alloc_new w2 #[.int .u64 (g : Int), .int .i64 (a : Int), .int .u64 (r : Int), .int .u32 (u : Int), .int .i64 (h : Int), .int .u64 (sq : Int), .int .u32 (ch : Int)] 70 6
  replace e0 := e0 (.cells #[.int .u64 (g : Int), .int .i64 (a : Int), .int .u64 (r : Int), .int .u32 (u : Int), .int .i64 (h : Int), .int .u64 (sq : Int), .int .u32 (ch : Int)] 70)
  replace e1 := e1 (.cells #[.int .u64 (g : Int), .int .i64 (a : Int), .int .u64 (r : Int), .int .u32 (u : Int), .int .i64 (h : Int), .int .u64 (sq : Int), .int .u32 (ch : Int)] 70)
  replace e2 := e2 (.cells #[.int .u64 (g : Int), .int .i64 (a : Int), .int .u64 (r : Int), .int .u32 (u : Int), .int .i64 (h : Int), .int .u64 (sq : Int), .int .u32 (ch : Int)] 70)
  replace r2 := r2 (.cells #[.int .u64 (g : Int), .int .i64 (a : Int), .int .u64 (r : Int), .int .u32 (u : Int), .int .i64 (h : Int), .int .u64 (sq : Int), .int .u32 (ch : Int)] 70)
  replace hE1 := hE1 (.cells #[.int .u64 (g : Int), .int .i64 (a : Int), .int .u64 (r : Int), .int .u32 (u : Int), .int .i64 (h : Int), .int .u64 (sq : Int), .int .u32 (ch : Int)] 70)
  generalize w2.alloc (.cells #[.int .u64 (g : Int), .int .i64 (a : Int), .int .u64 (r : Int), .int .u32 (u : Int), .int .i64 (h : Int), .int .u64 (sq : Int), .int .u32 (ch : Int)] 70) = w3 at *
  generalize w2.heap.size = D at *
  refine wp_region_drift_lit (n := 52) (by kernel_rfl) (by kernel_rfl) (by rfl) ?_
  apply chain_val
  · intro w2 hx  K hK
    simp only [Act.put, List.setIfInBounds_toArray, List.set_cons_zero, List.set_cons_succ] at hK ⊢
    go_simp
    exact hK _ _ (Ext.refl _) rfl
  apply chain_val
  · intro w2 hx  K hK
    simp only [Act.put, List.setIfInBounds_toArray, List.set_cons_zero, List.set_cons_succ] at hK ⊢
    go_simp
    exact hK _ _ (Ext.refl _) rfl
  apply chain_val
  · intro w2 hx  K hK
    simp only [Act.put, List.setIfInBounds_toArray, List.set_cons_zero, List.set_cons_succ] at hK ⊢
    go_simp
    exact hK _ _ (Ext.refl _) rfl
  apply chain_val (.agg #[.int .u64 (g : Int), .int .i64 (a : Int), .int .u64 (r : Int), .int .u32 (u : Int), .int .i64 (h : Int), .int .u64 (sq : Int), .int .u32 (ch : Int)])
  · intro w2 hx  K hK
    simp only [Act.put, List.setIfInBounds_toArray, List.set_cons_zero, List.set_cons_succ] at hK ⊢
    have x0 := cell_ext d0 hx
    have x1 := cell_ext d1 hx
    have x2 := cell_ext d2 hx
    have x3 := cell_ext d3 hx
    have x4 := cell_ext d4 hx
    have x5 := cell_ext d5 hx
    have x6 := cell_ext d6 hx
    go_simp
    exact hK _ _ (Ext.refl _) rfl
  apply chain_val (.bool true)
  · intro w2 hx  K hK
    simp only [Act.put, List.setIfInBounds_toArray, List.set_cons_zero, List.set_cons_succ] at hK ⊢
    go_simp
    refine (bright_any _ _ _ _ _ _ _ _).mono ?_
    rw [HB.out]
    rintro e w7 ⟨rfl, he7⟩
    exact hK _ _ he7 rfl
  apply chain_val
  · intro w2 hx  K hK
    simp only [Act.put, List.setIfInBounds_toArray, List.set_cons_zero, List.set_cons_succ] at hK ⊢
    go_simp
    exact hK _ _ (Ext.refl _) rfl
  apply chain_val
  · intro w2 hx  K hK
    simp only [Act.put, List.setIfInBounds_toArray, List.set_cons_zero, List.set_cons_succ] at hK ⊢
    go_simp
    exact hK _ _ (Ext.refl _) rfl
  apply chain_val
  · intro w2 hx  K hK
    simp only [Act.put, List.setIfInBounds_toArray, List.set_cons_zero, List.set_cons_succ] at hK ⊢
    go_simp
    exact hK _ _ (Ext.refl _) rfl
  apply chain_val
  · intro w2 hx  K hK
    simp only [Act.put, List.setIfInBounds_toArray, List.set_cons_zero, List.set_cons_succ] at hK ⊢
    go_simp
    exact hK _ _ (Ext.refl _) rfl
  apply chain_val (.int .u8 (k : Int))
  · intro w2 hx  K hK
    simp only [Act.put, List.setIfInBounds_toArray, List.set_cons_zero, List.set_cons_succ] at hK ⊢
    have x0 := cell_ext e0 hx
    go_simp
    exact hK _ _ (Ext.refl _) rfl
  apply chain_val (.bool true)
  · intro w2 hx  K hK
    simp only [Act.put, List.setIfInBounds_toArray, List.set_cons_zero, List.set_cons_succ] at hK ⊢
    go_simp
    exact hK _ _ (Ext.refl _) rfl
  apply chain_val
  · intro w2 hx  K hK
    simp only [Act.put, List.setIfInBounds_toArray, List.set_cons_zero, List.set_cons_succ] at hK ⊢
    go_simp
    exact hK _ _ (Ext.refl _) rfl
  apply chain_val
  · intro w2 hx  K hK
    simp only [Act.put, List.setIfInBounds_toArray, List.set_cons_zero, List.set_cons_succ] at hK ⊢
    go_simp
    exact hK _ _ (Ext.refl _) rfl
  apply chain_val
  · intro w2 hx  K hK
    simp only [Act.put, List.setIfInBounds_toArray, List.set_cons_zero, List.set_cons_succ] at hK ⊢
    go_simp
    exact hK _ _ (Ext.refl _) rfl
  apply chain_val
  · intro w2 hx  K hK
    simp only [Act.put, List.setIfInBounds_toArray, List.set_cons_zero, List.set_cons_succ] at hK ⊢
    go_simp
    exact hK _ _ (Ext.refl _) rfl
  apply chain_val
  · intro w2 hx  K hK
    simp only [Act.put, List.setIfInBounds_toArray, List.set_cons_zero, List.set_cons_succ] at hK ⊢
    go_simp
    exact hK _ _ (Ext.refl _) rfl
  apply chain_val
  · intro w2 hx  K hK
    simp only [Act.put, List.setIfInBounds_toArray, List.set_cons_zero, List.set_cons_succ] at hK ⊢
    go_simp
    exact hK _ _ (Ext.refl _) rfl
  apply chain_val
  · intro w2 hx  K hK
    simp only [Act.put, List.setIfInBounds_toArray, List.set_cons_zero, List.set_cons_succ] at hK ⊢
    go_simp
    exact hK _ _ (Ext.refl _) rfl
  apply chain_val
  · intro w2 hx  K hK
    simp only [Act.put, List.setIfInBounds_toArray, List.set_cons_zero, List.set_cons_succ] at hK ⊢
    go_simp
    exact hK _ _ (Ext.refl _) rfl
  apply chain_val (.bool true)
  · intro w2 hx  K hK
    simp only [Act.put, List.setIfInBounds_toArray, List.set_cons_zero, List.set_cons_succ] at hK ⊢
    go_simp
    exact hK _ _ (Ext.refl _) rfl
  refine chain_end fun w2 hx => ?_
  simp only [List.reverse_cons, List.reverse_nil, List.nil_append, List.cons_append, withDeps, Act.put, List.setIfInBounds_toArray, List.set_cons_zero, List.set_cons_succ]
  have R2 := Lib.hid (r2.ext hx)
  replace hE1 := hE1.trans hx
  clear r2
  go_wp2_with (refine wpl_row rfl rfl rfl rfl R2.out (by kernel_rfl) rfl (by simp [Value.oneCell']) ?_; intro w6 hw6 hr6; have HW6 := Lib.hid hw6; have HR6 := Lib.hid hr6; clear hw6 hr6)
  (try simp only [Exit.inBlock, Exit.then])
  refine bodyPost_ret (results_ct Try.results30 _ _ rfl HR6.out Try.underlying70 rfl (by kernel_rfl)) rfl ?_
  exact ⟨rfl, HW6.out.ext hE1 (Nat.le_refl _)⟩
set_option maxRecDepth 100000 in
set_option maxHeartbeats 4000000 in
theorem sopen_noslot (b k X g a r u h sq ch : Nat) (s p : ByteArray) (w : World) (ht : TabAt w b) (hm : s.size ≤ maxLen) (hp : p.size ≤ maxLen) (hop : openAns s = .tuple #[.agg (hdC k X g), .string p, .int .i64 0]) (hq : sparseAns p = .tuple #[.agg (blkC 0 (a : Nat) r u (h : Nat) sq ch), .bool true]) (hb : Sup.okB g r (h : Int) = true) (hk : k = 1) (hX : ¬ X = g % 2) :
    Calls Try.prog 30 #[.pointer (some ⟨b, 0, none⟩), .string s] w fun en w' => en = .returned (.tuple #[.agg blkZ, .int .i64 4]) ∧ Ext w w' := by
  have hopn := fun w ht => open_any b s w ht hm
  rw [hop] at hopn
  have hpa := fun w => sparse_any p w hp
  rw [hq] at hpa
  unfold hdC at hopn
  unfold blkC at hpa
  have HB := Lib.hid hb
  clear hop hq hb
  have HSL := Lib.hid (slot_any g)
  generalize g % 2 = m at *
  have hk' : ((X : Int) != (m : Int)) = true := by simp; omega
  have hk2 : decide ((X : Int) = (m : Int)) = false := decide_eq_false (by omega)
  have hk3 : ((X : Int) == (m : Int)) = false := by simp; omega
  subst hk
  go_enter Try.func30, Try.ntmps30
  go_wp2_with fail
  refine (hopn _ (ht.ext (Ext.alloc _ _))).mono ?_
  rintro e w1 ⟨rfl, he1⟩
  have r2 := (RowIs.new w _ _).ext he1
  have hE1 := (Ext.alloc w _).trans he1
  have hW1 : w.heap.size < w1.heap.size := r2.lt
  go_wp2_with fail
  have e0 := World.cell?_alloc_new w1 #[.int .u8 ((1 : Nat) : Int), .int .i64 (X : Int), .int .u64 (g : Int)] 38 0
  have e1 := World.cell?_alloc_new w1 #[.int .u8 ((1 : Nat) : Int), .int .i64 (X : Int), .int .u64 (g : Int)] 38 1
  have e2 := World.cell?_alloc_new w1 #[.int .u8 ((1 : Nat) : Int), .int .i64 (X : Int), .int .u64 (g : Int)] 38 2
  have hEa := Ext.alloc w1 (.cells #[.int .u8 ((1 : Nat) : Int), .int .i64 (X : Int), .int .u64 (g : Int)] 38)
  replace r2 := r2.ext hEa
  replace hE1 := hE1.trans hEa
  refine (hpa _).mono ?_
  rintro e w2 ⟨rfl, he2⟩
  replace e0 := fun o => cell_ext (cell_ext e0 he2) (Ext.alloc w2 o)
  replace e1 := fun o => cell_ext (cell_ext e1 he2) (Ext.alloc w2 o)
  replace e2 := fun o => cell_ext (cell_ext e2 he2) (Ext.alloc w2 o)
  replace r2 := fun o => (r2.ext he2).ext (Ext.alloc w2 o)
  replace hE1 := fun o => (hE1.trans he2).trans (Ext.alloc w2 o)
  generalize w1.heap.size = G at *
  clear hopn hpa hEa he1 he2
  go_upto_region 6 with (fail)
  have d0 := World.cell?_alloc_new w2 #[.int .u64 (g : Int), .int .i64 (a : Int), .int .u64 (r : Int), .int .u32 (u : Int), .int .i64 (h : Int), .int .u64 (sq : Int), .int .u32 (ch : Int)] 70 0
  have d1 := World.cell?_alloc_new w2 #[.int .u64 (g : Int), .int .i64 (a : Int), .int .u64 (r : Int), .int .u32 (u : Int), .int .i64 (h : Int), .int .u64 (sq : Int), .int .u32 (ch : Int)] 70 1
  have d2 := World.cell?_alloc_new w2 #[.int .u64 (g : Int), .int .i64 (a : Int), .int .u64 (r : Int), .int .u32 (u : Int), .int .i64 (h : Int), .int .u64 (sq : Int), .int .u32 (ch : Int)] 70 2
  have d3 := World.cell?_alloc_new w2 #[.int .u64 (g : Int), .int .i64 (a : Int), .int .u64 (r : Int), .int .u32 (u : Int), .int .i64 (h : Int), .int .u64 (sq : Int), .int .u32 (ch : Int)] 70 3
  have d4 := World.cell?_alloc_new w2 #[.int .u64 (g : Int), .int .i64 (a : Int), .int .u64 (r : Int), .int .u32 (u : Int), .int .i64 (h : Int), .int .u64 (sq : Int), .int .u32 (ch : Int)] 70 4
  have d5 := World.cell?_alloc_new w2 #[.int .u64 (g : Int), .int .i64 (a : Int), .int .u64 (r : Int), .int .u32 (u : Int), .int .i64 (h : Int), .int .u64 (sq : Int), .int .u32 (ch : Int)] 70 5
  have d6 := World.cell?_alloc_new w2 #[.int .u64 (g : Int), .int .i64 (a : Int), .int .u64 (r : Int), .int .u32 (u : Int), .int .i64 (h : Int), .int .u64 (sq : Int), .int .u32 (ch : Int)] 70 6
  replace e0 := e0 (.cells #[.int .u64 (g : Int), .int .i64 (a : Int), .int .u64 (r : Int), .int .u32 (u : Int), .int .i64 (h : Int), .int .u64 (sq : Int), .int .u32 (ch : Int)] 70)
  replace e1 := e1 (.cells #[.int .u64 (g : Int), .int .i64 (a : Int), .int .u64 (r : Int), .int .u32 (u : Int), .int .i64 (h : Int), .int .u64 (sq : Int), .int .u32 (ch : Int)] 70)
  replace e2 := e2 (.cells #[.int .u64 (g : Int), .int .i64 (a : Int), .int .u64 (r : Int), .int .u32 (u : Int), .int .i64 (h : Int), .int .u64 (sq : Int), .int .u32 (ch : Int)] 70)
  replace r2 := r2 (.cells #[.int .u64 (g : Int), .int .i64 (a : Int), .int .u64 (r : Int), .int .u32 (u : Int), .int .i64 (h : Int), .int .u64 (sq : Int), .int .u32 (ch : Int)] 70)
  replace hE1 := hE1 (.cells #[.int .u64 (g : Int), .int .i64 (a : Int), .int .u64 (r : Int), .int .u32 (u : Int), .int .i64 (h : Int), .int .u64 (sq : Int), .int .u32 (ch : Int)] 70)
  generalize w2.alloc (.cells #[.int .u64 (g : Int), .int .i64 (a : Int), .int .u64 (r : Int), .int .u32 (u : Int), .int .i64 (h : Int), .int .u64 (sq : Int), .int .u32 (ch : Int)] 70) = w3 at *
  generalize w2.heap.size = D at *
  refine wp_region_drift_lit (n := 52) (by kernel_rfl) (by kernel_rfl) (by rfl) ?_
  apply chain_val
  · intro w2 hx  K hK
    simp only [Act.put, List.setIfInBounds_toArray, List.set_cons_zero, List.set_cons_succ] at hK ⊢
    go_simp
    exact hK _ _ (Ext.refl _) rfl
  apply chain_val
  · intro w2 hx  K hK
    simp only [Act.put, List.setIfInBounds_toArray, List.set_cons_zero, List.set_cons_succ] at hK ⊢
    go_simp
    exact hK _ _ (Ext.refl _) rfl
  apply chain_val
  · intro w2 hx  K hK
    simp only [Act.put, List.setIfInBounds_toArray, List.set_cons_zero, List.set_cons_succ] at hK ⊢
    go_simp
    exact hK _ _ (Ext.refl _) rfl
  apply chain_val (.agg #[.int .u64 (g : Int), .int .i64 (a : Int), .int .u64 (r : Int), .int .u32 (u : Int), .int .i64 (h : Int), .int .u64 (sq : Int), .int .u32 (ch : Int)])
  · intro w2 hx  K hK
    simp only [Act.put, List.setIfInBounds_toArray, List.set_cons_zero, List.set_cons_succ] at hK ⊢
    have x0 := cell_ext d0 hx
    have x1 := cell_ext d1 hx
    have x2 := cell_ext d2 hx
    have x3 := cell_ext d3 hx
    have x4 := cell_ext d4 hx
    have x5 := cell_ext d5 hx
    have x6 := cell_ext d6 hx
    go_simp
    exact hK _ _ (Ext.refl _) rfl
  apply chain_val (.bool true)
  · intro w2 hx  K hK
    simp only [Act.put, List.setIfInBounds_toArray, List.set_cons_zero, List.set_cons_succ] at hK ⊢
    go_simp
    refine (bright_any _ _ _ _ _ _ _ _).mono ?_
    rw [HB.out]
    rintro e w7 ⟨rfl, he7⟩
    exact hK _ _ he7 rfl
  apply chain_val
  · intro w2 hx  K hK
    simp only [Act.put, List.setIfInBounds_toArray, List.set_cons_zero, List.set_cons_succ] at hK ⊢
    go_simp
    exact hK _ _ (Ext.refl _) rfl
  apply chain_val
  · intro w2 hx  K hK
    simp only [Act.put, List.setIfInBounds_toArray, List.set_cons_zero, List.set_cons_succ] at hK ⊢
    go_simp
    exact hK _ _ (Ext.refl _) rfl
  apply chain_val
  · intro w2 hx  K hK
    simp only [Act.put, List.setIfInBounds_toArray, List.set_cons_zero, List.set_cons_succ] at hK ⊢
    go_simp
    exact hK _ _ (Ext.refl _) rfl
  apply chain_val
  · intro w2 hx  K hK
    simp only [Act.put, List.setIfInBounds_toArray, List.set_cons_zero, List.set_cons_succ] at hK ⊢
    go_simp
    exact hK _ _ (Ext.refl _) rfl
  apply chain_val (.int .u8 ((1 : Nat) : Int))
  · intro w2 hx  K hK
    simp only [Act.put, List.setIfInBounds_toArray, List.set_cons_zero, List.set_cons_succ] at hK ⊢
    have x0 := cell_ext e0 hx
    go_simp
    exact hK _ _ (Ext.refl _) rfl
  apply chain_val (.bool false)
  · intro w2 hx  K hK
    simp only [Act.put, List.setIfInBounds_toArray, List.set_cons_zero, List.set_cons_succ] at hK ⊢
    go_simp
    exact hK _ _ (Ext.refl _) rfl
  apply chain_val
  · intro w2 hx  K hK
    simp only [Act.put, List.setIfInBounds_toArray, List.set_cons_zero, List.set_cons_succ] at hK ⊢
    go_simp
    exact hK _ _ (Ext.refl _) rfl
  apply chain_val
  · intro w2 hx  K hK
    simp only [Act.put, List.setIfInBounds_toArray, List.set_cons_zero, List.set_cons_succ] at hK ⊢
    go_simp
    exact hK _ _ (Ext.refl _) rfl
  apply chain_val
  · intro w2 hx  K hK
    simp only [Act.put, List.setIfInBounds_toArray, List.set_cons_zero, List.set_cons_succ] at hK ⊢
    go_simp
    exact hK _ _ (Ext.refl _) rfl
  apply chain_val (.int .i64 (X : Int))
  · intro w2 hx  K hK
    simp only [Act.put, List.setIfInBounds_toArray, List.set_cons_zero, List.set_cons_succ] at hK ⊢
    have x0 := cell_ext e1 hx
    go_simp
    exact hK _ _ (Ext.refl _) rfl
  apply chain_val
  · intro w2 hx  K hK
    simp only [Act.put, List.setIfInBounds_toArray, List.set_cons_zero, List.set_cons_succ] at hK ⊢
    go_simp
    exact hK _ _ (Ext.refl _) rfl
  apply chain_val (.int .u64 (g : Int))
  · intro w2 hx  K hK
    simp only [Act.put, List.setIfInBounds_toArray, List.set_cons_zero, List.set_cons_succ] at hK ⊢
    have x0 := cell_ext e2 hx
    go_simp
    exact hK _ _ (Ext.refl _) rfl
  apply chain_val (.int .i64 ((m : Nat) : Int))
  · intro w2 hx  K hK
    simp only [Act.put, List.setIfInBounds_toArray, List.set_cons_zero, List.set_cons_succ] at hK ⊢
    go_simp
    refine (HSL.out _).mono ?_
    rintro e w7 ⟨rfl, he7⟩
    subst he7
    exact hK _ _ (Ext.refl _) rfl
  apply chain_val (.bool true)
  · intro w2 hx  K hK
    simp only [Act.put, List.setIfInBounds_toArray, List.set_cons_zero, List.set_cons_succ] at hK ⊢
    go_simp
    exact hK _ _ (Ext.refl _) rfl
  apply chain_val (.bool true)
  · intro w2 hx  K hK
    simp only [Act.put, List.setIfInBounds_toArray, List.set_cons_zero, List.set_cons_succ] at hK ⊢
    go_simp
    exact hK _ _ (Ext.refl _) rfl
  refine chain_end fun w2 hx => ?_
  simp only [List.reverse_cons, List.reverse_nil, List.nil_append, List.cons_append, withDeps, Act.put, List.setIfInBounds_toArray, List.set_cons_zero, List.set_cons_succ]
  have R2 := Lib.hid (r2.ext hx)
  replace hE1 := hE1.trans hx
  clear r2
  go_wp2_with (refine wpl_row rfl rfl rfl rfl R2.out (by kernel_rfl) rfl (by simp [Value.oneCell']) ?_; intro w6 hw6 hr6; have HW6 := Lib.hid hw6; have HR6 := Lib.hid hr6; clear hw6 hr6)
  (try simp only [Exit.inBlock, Exit.then])
  refine bodyPost_ret (results_ct Try.results30 _ _ rfl HR6.out Try.underlying70 rfl (by kernel_rfl)) rfl ?_
  exact ⟨rfl, HW6.out.ext hE1 (Nat.le_refl _)⟩
set_option maxRecDepth 100000 in
set_option maxHeartbeats 4000000 in
theorem sopen_yes (b k X g a r u h sq ch : Nat) (s p : ByteArray) (w : World) (ht : TabAt w b) (hm : s.size ≤ maxLen) (hp : p.size ≤ maxLen) (hop : openAns s = .tuple #[.agg (hdC k X g), .string p, .int .i64 0]) (hq : sparseAns p = .tuple #[.agg (blkC 0 (a : Nat) r u (h : Nat) sq ch), .bool true]) (hb : Sup.okB g r (h : Int) = true) (hk : k = 1) (hX : X = g % 2) :
    Calls Try.prog 30 #[.pointer (some ⟨b, 0, none⟩), .string s] w fun en w' => en = .returned (.tuple #[.agg (blkC g (a : Nat) r u (h : Nat) sq ch), .int .i64 0]) ∧ Ext w w' := by
  have hopn := fun w ht => open_any b s w ht hm
  rw [hop] at hopn
  have hpa := fun w => sparse_any p w hp
  rw [hq] at hpa
  unfold hdC at hopn
  unfold blkC at hpa
  have HB := Lib.hid hb
  clear hop hq hb
  have HSL := Lib.hid (slot_any g)
  generalize g % 2 = m at *
  subst hk
  subst hX
  go_enter Try.func30, Try.ntmps30
  go_wp2_with fail
  refine (hopn _ (ht.ext (Ext.alloc _ _))).mono ?_
  rintro e w1 ⟨rfl, he1⟩
  have r2 := (RowIs.new w _ _).ext he1
  have hE1 := (Ext.alloc w _).trans he1
  have hW1 : w.heap.size < w1.heap.size := r2.lt
  go_wp2_with fail
  have e0 := World.cell?_alloc_new w1 #[.int .u8 ((1 : Nat) : Int), .int .i64 (X : Int), .int .u64 (g : Int)] 38 0
  have e1 := World.cell?_alloc_new w1 #[.int .u8 ((1 : Nat) : Int), .int .i64 (X : Int), .int .u64 (g : Int)] 38 1
  have e2 := World.cell?_alloc_new w1 #[.int .u8 ((1 : Nat) : Int), .int .i64 (X : Int), .int .u64 (g : Int)] 38 2
  have hEa := Ext.alloc w1 (.cells #[.int .u8 ((1 : Nat) : Int), .int .i64 (X : Int), .int .u64 (g : Int)] 38)
  replace r2 := r2.ext hEa
  replace hE1 := hE1.trans hEa
  refine (hpa _).mono ?_
  rintro e w2 ⟨rfl, he2⟩
  replace e0 := fun o => cell_ext (cell_ext e0 he2) (Ext.alloc w2 o)
  replace e1 := fun o => cell_ext (cell_ext e1 he2) (Ext.alloc w2 o)
  replace e2 := fun o => cell_ext (cell_ext e2 he2) (Ext.alloc w2 o)
  replace r2 := fun o => (r2.ext he2).ext (Ext.alloc w2 o)
  replace hE1 := fun o => (hE1.trans he2).trans (Ext.alloc w2 o)
  generalize w1.heap.size = G at *
  clear hopn hpa hEa he1 he2
  go_upto_region 6 with (fail)
  have d0 := World.cell?_alloc_new w2 #[.int .u64 (g : Int), .int .i64 (a : Int), .int .u64 (r : Int), .int .u32 (u : Int), .int .i64 (h : Int), .int .u64 (sq : Int), .int .u32 (ch : Int)] 70 0
  have d1 := World.cell?_alloc_new w2 #[.int .u64 (g : Int), .int .i64 (a : Int), .int .u64 (r : Int), .int .u32 (u : Int), .int .i64 (h : Int), .int .u64 (sq : Int), .int .u32 (ch : Int)] 70 1
  have d2 := World.cell?_alloc_new w2 #[.int .u64 (g : Int), .int .i64 (a : Int), .int .u64 (r : Int), .int .u32 (u : Int), .int .i64 (h : Int), .int .u64 (sq : Int), .int .u32 (ch : Int)] 70 2
  have d3 := World.cell?_alloc_new w2 #[.int .u64 (g : Int), .int .i64 (a : Int), .int .u64 (r : Int), .int .u32 (u : Int), .int .i64 (h : Int), .int .u64 (sq : Int), .int .u32 (ch : Int)] 70 3
  have d4 := World.cell?_alloc_new w2 #[.int .u64 (g : Int), .int .i64 (a : Int), .int .u64 (r : Int), .int .u32 (u : Int), .int .i64 (h : Int), .int .u64 (sq : Int), .int .u32 (ch : Int)] 70 4
  have d5 := World.cell?_alloc_new w2 #[.int .u64 (g : Int), .int .i64 (a : Int), .int .u64 (r : Int), .int .u32 (u : Int), .int .i64 (h : Int), .int .u64 (sq : Int), .int .u32 (ch : Int)] 70 5
  have d6 := World.cell?_alloc_new w2 #[.int .u64 (g : Int), .int .i64 (a : Int), .int .u64 (r : Int), .int .u32 (u : Int), .int .i64 (h : Int), .int .u64 (sq : Int), .int .u32 (ch : Int)] 70 6
  replace e0 := e0 (.cells #[.int .u64 (g : Int), .int .i64 (a : Int), .int .u64 (r : Int), .int .u32 (u : Int), .int .i64 (h : Int), .int .u64 (sq : Int), .int .u32 (ch : Int)] 70)
  replace e1 := e1 (.cells #[.int .u64 (g : Int), .int .i64 (a : Int), .int .u64 (r : Int), .int .u32 (u : Int), .int .i64 (h : Int), .int .u64 (sq : Int), .int .u32 (ch : Int)] 70)
  replace e2 := e2 (.cells #[.int .u64 (g : Int), .int .i64 (a : Int), .int .u64 (r : Int), .int .u32 (u : Int), .int .i64 (h : Int), .int .u64 (sq : Int), .int .u32 (ch : Int)] 70)
  replace r2 := r2 (.cells #[.int .u64 (g : Int), .int .i64 (a : Int), .int .u64 (r : Int), .int .u32 (u : Int), .int .i64 (h : Int), .int .u64 (sq : Int), .int .u32 (ch : Int)] 70)
  replace hE1 := hE1 (.cells #[.int .u64 (g : Int), .int .i64 (a : Int), .int .u64 (r : Int), .int .u32 (u : Int), .int .i64 (h : Int), .int .u64 (sq : Int), .int .u32 (ch : Int)] 70)
  generalize w2.alloc (.cells #[.int .u64 (g : Int), .int .i64 (a : Int), .int .u64 (r : Int), .int .u32 (u : Int), .int .i64 (h : Int), .int .u64 (sq : Int), .int .u32 (ch : Int)] 70) = w3 at *
  generalize w2.heap.size = D at *
  refine wp_region_drift_lit (n := 52) (by kernel_rfl) (by kernel_rfl) (by rfl) ?_
  apply chain_val
  · intro w2 hx  K hK
    simp only [Act.put, List.setIfInBounds_toArray, List.set_cons_zero, List.set_cons_succ] at hK ⊢
    go_simp
    exact hK _ _ (Ext.refl _) rfl
  apply chain_val
  · intro w2 hx  K hK
    simp only [Act.put, List.setIfInBounds_toArray, List.set_cons_zero, List.set_cons_succ] at hK ⊢
    go_simp
    exact hK _ _ (Ext.refl _) rfl
  apply chain_val
  · intro w2 hx  K hK
    simp only [Act.put, List.setIfInBounds_toArray, List.set_cons_zero, List.set_cons_succ] at hK ⊢
    go_simp
    exact hK _ _ (Ext.refl _) rfl
  apply chain_val (.agg #[.int .u64 (g : Int), .int .i64 (a : Int), .int .u64 (r : Int), .int .u32 (u : Int), .int .i64 (h : Int), .int .u64 (sq : Int), .int .u32 (ch : Int)])
  · intro w2 hx  K hK
    simp only [Act.put, List.setIfInBounds_toArray, List.set_cons_zero, List.set_cons_succ] at hK ⊢
    have x0 := cell_ext d0 hx
    have x1 := cell_ext d1 hx
    have x2 := cell_ext d2 hx
    have x3 := cell_ext d3 hx
    have x4 := cell_ext d4 hx
    have x5 := cell_ext d5 hx
    have x6 := cell_ext d6 hx
    go_simp
    exact hK _ _ (Ext.refl _) rfl
  apply chain_val (.bool true)
  · intro w2 hx  K hK
    simp only [Act.put, List.setIfInBounds_toArray, List.set_cons_zero, List.set_cons_succ] at hK ⊢
    go_simp
    refine (bright_any _ _ _ _ _ _ _ _).mono ?_
    rw [HB.out]
    rintro e w7 ⟨rfl, he7⟩
    exact hK _ _ he7 rfl
  apply chain_val
  · intro w2 hx  K hK
    simp only [Act.put, List.setIfInBounds_toArray, List.set_cons_zero, List.set_cons_succ] at hK ⊢
    go_simp
    exact hK _ _ (Ext.refl _) rfl
  apply chain_val
  · intro w2 hx  K hK
    simp only [Act.put, List.setIfInBounds_toArray, List.set_cons_zero, List.set_cons_succ] at hK ⊢
    go_simp
    exact hK _ _ (Ext.refl _) rfl
  apply chain_val
  · intro w2 hx  K hK
    simp only [Act.put, List.setIfInBounds_toArray, List.set_cons_zero, List.set_cons_succ] at hK ⊢
    go_simp
    exact hK _ _ (Ext.refl _) rfl
  apply chain_val
  · intro w2 hx  K hK
    simp only [Act.put, List.setIfInBounds_toArray, List.set_cons_zero, List.set_cons_succ] at hK ⊢
    go_simp
    exact hK _ _ (Ext.refl _) rfl
  apply chain_val (.int .u8 ((1 : Nat) : Int))
  · intro w2 hx  K hK
    simp only [Act.put, List.setIfInBounds_toArray, List.set_cons_zero, List.set_cons_succ] at hK ⊢
    have x0 := cell_ext e0 hx
    go_simp
    exact hK _ _ (Ext.refl _) rfl
  apply chain_val (.bool false)
  · intro w2 hx  K hK
    simp only [Act.put, List.setIfInBounds_toArray, List.set_cons_zero, List.set_cons_succ] at hK ⊢
    go_simp
    exact hK _ _ (Ext.refl _) rfl
  apply chain_val
  · intro w2 hx  K hK
    simp only [Act.put, List.setIfInBounds_toArray, List.set_cons_zero, List.set_cons_succ] at hK ⊢
    go_simp
    exact hK _ _ (Ext.refl _) rfl
  apply chain_val
  · intro w2 hx  K hK
    simp only [Act.put, List.setIfInBounds_toArray, List.set_cons_zero, List.set_cons_succ] at hK ⊢
    go_simp
    exact hK _ _ (Ext.refl _) rfl
  apply chain_val
  · intro w2 hx  K hK
    simp only [Act.put, List.setIfInBounds_toArray, List.set_cons_zero, List.set_cons_succ] at hK ⊢
    go_simp
    exact hK _ _ (Ext.refl _) rfl
  apply chain_val (.int .i64 (X : Int))
  · intro w2 hx  K hK
    simp only [Act.put, List.setIfInBounds_toArray, List.set_cons_zero, List.set_cons_succ] at hK ⊢
    have x0 := cell_ext e1 hx
    go_simp
    exact hK _ _ (Ext.refl _) rfl
  apply chain_val
  · intro w2 hx  K hK
    simp only [Act.put, List.setIfInBounds_toArray, List.set_cons_zero, List.set_cons_succ] at hK ⊢
    go_simp
    exact hK _ _ (Ext.refl _) rfl
  apply chain_val (.int .u64 (g : Int))
  · intro w2 hx  K hK
    simp only [Act.put, List.setIfInBounds_toArray, List.set_cons_zero, List.set_cons_succ] at hK ⊢
    have x0 := cell_ext e2 hx
    go_simp
    exact hK _ _ (Ext.refl _) rfl
  apply chain_val (.int .i64 (X : Int))
  · intro w2 hx  K hK
    simp only [Act.put, List.setIfInBounds_toArray, List.set_cons_zero, List.set_cons_succ] at hK ⊢
    go_simp
    refine (HSL.out _).mono ?_
    rintro e w7 ⟨rfl, he7⟩
    subst he7
    exact hK _ _ (Ext.refl _) rfl
  apply chain_val (.bool false)
  · intro w2 hx  K hK
    simp only [Act.put, List.setIfInBounds_toArray, List.set_cons_zero, List.set_cons_succ] at hK ⊢
    go_simp
    exact hK _ _ (Ext.refl _) rfl
  apply chain_val (.bool false)
  · intro w2 hx  K hK
    simp only [Act.put, List.setIfInBounds_toArray, List.set_cons_zero, List.set_cons_succ] at hK ⊢
    go_simp
    exact hK _ _ (Ext.refl _) rfl
  refine chain_end fun w2 hx => ?_
  simp only [List.reverse_cons, List.reverse_nil, List.nil_append, List.cons_append, withDeps, Act.put, List.setIfInBounds_toArray, List.set_cons_zero, List.set_cons_succ]
  have d0 := cell_ext d0 hx
  have d1 := cell_ext d1 hx
  have d2 := cell_ext d2 hx
  have d3 := cell_ext d3 hx
  have d4 := cell_ext d4 hx
  have d5 := cell_ext d5 hx
  have d6 := cell_ext d6 hx
  have R2 := Lib.hid (r2.ext hx)
  replace hE1 := hE1.trans hx
  clear r2
  go_wp2_with (refine wpl_row rfl rfl rfl rfl R2.out (by kernel_rfl) rfl (by simp [Value.oneCell']) ?_; intro w6 hw6 hr6; have HW6 := Lib.hid hw6; have HR6 := Lib.hid hr6; clear hw6 hr6)
  (try simp only [Exit.inBlock, Exit.then])
  refine bodyPost_ret (results_ct Try.results30 _ _ rfl HR6.out Try.underlying70 rfl (by kernel_rfl)) rfl ?_
  exact ⟨rfl, HW6.out.ext hE1 (Nat.le_refl _)⟩
theorem sopen_good (b k X g : Nat) (s p : ByteArray) (w : World) (ht : TabAt w b) (hm : s.size ≤ maxLen) (hp : p.size ≤ maxLen) (hop : openAns s = .tuple #[.agg (hdC k X g), .string p, .int .i64 0]) :
    Calls Try.prog 30 #[.pointer (some ⟨b, 0, none⟩), .string s] w fun en w' => en = .returned (sopenAns k X g p) ∧ Ext w w' := by
  unfold sopenAns
  by_cases h1 : p.size = 29 ∧ (three p.data.toList).a ≤ 2147483647
  · have hq : sparseAns p = .tuple #[.agg (blkC 0 ((three p.data.toList).a : Nat) (three p.data.toList).g (three p.data.toList).c ((tail3 (p.data.toList.drop 16)).a : Nat) (tail3 (p.data.toList.drop 16)).g (tail3 (p.data.toList.drop 16)).c), .bool true] := by unfold sparseAns; rw [if_pos h1]
    cases h2 : Sup.okB g (three p.data.toList).g ((tail3 (p.data.toList.drop 16)).a : Nat) with
    | false =>
      rw [if_neg (fun h => by simp at h)]
      exact sopen_noright b k X g _ _ _ _ _ _ s p w ht hm hp hop hq h2
    | true =>
      by_cases h3 : k = 1
      · by_cases h4 : X = g % 2
        · rw [if_pos ⟨⟨h1, rfl⟩, h3, h4⟩]
          exact sopen_yes b k X g _ _ _ _ _ _ s p w ht hm hp hop hq h2 h3 h4
        · rw [if_neg (fun h => h4 h.2.2)]
          exact sopen_noslot b k X g _ _ _ _ _ _ s p w ht hm hp hop hq h2 h3 h4
      · rw [if_neg (fun h => h3 h.2.1)]
        exact sopen_nokind b k X g _ _ _ _ _ _ s p w ht hm hp hop hq h2 h3
  · rw [if_neg (fun h => h1 h.1.1)]
    exact sopen_noparse b k X g s p w ht hm hp hop (by unfold sparseAns; rw [if_neg h1])
end Go.Proofs.Ytbnpldilkkhgmaa
