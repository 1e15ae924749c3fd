/- Contract of super.Newest; slices of texts of the call's own. -/
import Derived.Test.YtbnpldilkkhgmaaSupE
import Derived.Test.YtbnpldilkkhgmaaOwn
namespace Go.Proofs.Ytbnpldilkkhgmaa
open Go.RowKit
/-- the texts l, of a slice's elements -/
def StrsAt (w : World) (a : Option Addr) (l : List ByteArray) : Prop := ∀ i (h : i < l.length), ∃ b off, a = some ⟨b, off, none⟩ ∧ w.cell? ⟨b, off + i, none⟩ = some (.string l[i])
theorem StrsAt.ext {w w' : World} {a : Option Addr} {l : List ByteArray} (h : StrsAt w a l) (e : Ext w w') : StrsAt w' a l := fun i hi => let ⟨b, o, h1, h2⟩ := h i hi; ⟨b, o, h1, cell_ext h2 e⟩
/-- the texts l, in a slice of the call's own -/
def OwnT (w : World) (B : Nat) (v : Value) (l : List ByteArray) : Prop := w.ownsRow B 9 1 v l.length (l.map Value.string)
theorem info_str : (Try.prog.info? 9).map (fun i => (i.zero, i.size, i.bytes)) = some (some (.string ⟨#[]⟩), 1, 16) := by kernel_rfl
theorem own_strs {w : World} {B : Nat} {v : Value} {l : List ByteArray} (h : OwnT w B v l) : ∃ a cap, v = .slice a l.length cap ∧ StrsAt w a l := by
  obtain ⟨_, ⟨rfl, hn⟩ | ⟨g, cap, cur, rfl, _, hg, h1, h2, h3, ht⟩⟩ := h
  · have : l = [] := List.length_eq_zero_iff.1 hn
    subst this
    exact ⟨none, 0, rfl, fun i hi => by simp at hi⟩
  · refine ⟨_, cap, rfl, fun i hi => ⟨g, 0, rfl, ?_⟩⟩
    rw [Nat.zero_add, cell_of_row w g i cur 9 (0, 0) hg]
    have e : (cur.toList.take (l.length * 1))[i]? = some (.string l[i]) := by rw [ht]; simp [hi]
    rw [List.getElem?_take] at e
    simpa [hi] using e
theorem own_one (w : World) (s : ByteArray) : OwnT (w.alloc (.cells #[.string s] 9)) w.heap.size (.slice (some ⟨w.heap.size, 0, none⟩) 1 1) [s] :=
  ⟨rfl, .inr ⟨w.heap.size, 1, _, rfl, Nat.le_refl _, heap_alloc_new w _, Nat.le_refl 1, (by decide : 1 ≤ maxLen), rfl, rfl⟩⟩
theorem wpl_two {w : World} {ops : Array Oper} {rest : List Oper} {o : Oper} {a : Act} {Q : Exit → Act → World → Prop} (hgd : o.guard = none) (s x : Operand) (ho : o.op = .call { callee := .builtin .append, args := #[s, x], argTypes := #[79, 79] })
    {B : Nat} {v : Value} (hs : a.eval s = v) {l : List ByteArray} (hown : OwnT w B v l) (hB : B ≤ w.heap.size) (hn : l.length ≤ 1000000) {c : Nat} (hx : a.eval x = .slice (some ⟨w.heap.size, 0, none⟩) 2 c) (p q : ByteArray)
    (h : ∀ v' w', OwnT w' B v' (l ++ [p, q]) → Below B w w' → (∀ z u, w.cell? z = some u → some z.block ≠ v.ownBlock → w'.cell? z = some u) → wpList Try.prog ops Q rest (a.put o.dst v') w') : wpList Try.prog ops Q (o :: rest) a (w.alloc (.cells #[.string p, .string q] 9)) := by
  obtain ⟨i0, hi, hz0, hz1, hz2⟩ := info_parts info_str
  have hcells : ∀ j u, [Value.string p, Value.string q][j]? = some u → (w.alloc (.cells #[.string p, .string q] 9)).cell? ((⟨w.heap.size, 0, none⟩ : Addr).add j) = some u := fun j u hj => by
    have hp : (⟨w.heap.size, 0, none⟩ : Addr).add j = ⟨w.heap.size, j, none⟩ := by unfold Addr.add; split <;> simp_all
    rw [hp, World.cell?_alloc_new]; simpa using hj
  have hown' : (w.alloc (.cells #[.string p, .string q] 9)).ownsRow B 9 1 v l.length (l.map Value.string) := World.ownsRow.alloc hown _
  obtain ⟨v', w', hr, h2, hg, _⟩ := run_append_own (P := Try.prog) (w := w.alloc (.cells #[.string p, .string q] 9)) B 79 o.type 9 i0 (.string ⟨#[]⟩) 1 16 Try.underlying79 hi hz0 hz1 hz2 rfl (by decide) v _ _ hown' ⟨w.heap.size, 0, none⟩ 2 c [.string p, .string q] rfl hcells
    (by intro z hz; simp at hz; rcases hz with rfl | rfl <;> rfl) (by unfold maxLen; omega) (by omega) (by simp; omega)
  refine wpList_plain hgd fun K hK => ?_
  unfold Oper.wp
  simp [execOp, ho, resolve, invoke, builtin, hs, hx, hr, Result.andThen]
  exact hK _ _ (h v' w' (by simpa [OwnT] using h2) (Below.grown ((Below.refl _ _).alloc hB _) hg (by simp; omega) fun k hk => (hown'.lt k hk).1) fun z u hz hne => hg.cell (cell_ext hz (Ext.alloc _ _)) hne)
/-- what an image opens to: a superblock of generation g; or, g being 0, none -/
def OpensTo (s : ByteArray) (g : Nat) : Prop := s.size ≤ maxLen ∧
  ((1 ≤ g ∧ ∃ (a : Int) (r u : Nat) (h : Int) (q c : Nat), ∀ b w, TabAt w b → Calls Try.prog 30 #[.pointer (some ⟨b, 0, none⟩), .string s] w fun e w' => e = .returned (.tuple #[.agg #[.int .u64 (g : Int), .int .i64 a, .int .u64 (r : Int), .int .u32 (u : Int), .int .i64 h, .int .u64 (q : Int), .int .u32 (c : Int)], .int .i64 0]) ∧ Ext w w') ∨
   (g = 0 ∧ ∃ e : Int, ¬ e = 0 ∧ ∀ b w, TabAt w b → Calls Try.prog 30 #[.pointer (some ⟨b, 0, none⟩), .string s] w fun en w' => en = .returned (.tuple #[.agg #[.int .u64 0, .int .i64 0, .int .u64 0, .int .u32 0, .int .i64 0, .int .u64 0, .int .u32 0], .int .i64 e]) ∧ Ext w w'))
theorem parts_small {s p : ByteArray} {h : Env.Hd} {c : Nat} (e : Env.parts s = some (h, p, c)) : p.size ≤ s.size := by
  unfold Env.parts at e
  simp only at e
  split at e
  · simp only [Option.some.injEq, Prod.mk.injEq] at e
    rw [← e.2.1]; simp; omega
  · cases e
theorem opens_any (s : ByteArray) (hm : s.size ≤ maxLen) : ∃ g, OpensTo s g := by
  rcases open_cases s with ⟨k, X, g, p, c', hq, _, hop, _⟩ | ⟨e, hop, he, _⟩
  · have hp := parts_small hq
    by_cases hc : ((p.size = 29 ∧ (three p.data.toList).a ≤ 2147483647) ∧ Sup.okB g (three p.data.toList).g ((tail3 (p.data.toList.drop 16)).a : Nat) = true) ∧ k = 1 ∧ X = g % 2
    · refine ⟨g, hm, .inl ⟨(Sup.okB_iff.1 hc.1.2).1.1.1, ((three p.data.toList).a : Nat), (three p.data.toList).g, (three p.data.toList).c, ((tail3 (p.data.toList.drop 16)).a : Nat), (tail3 (p.data.toList.drop 16)).g, (tail3 (p.data.toList.drop 16)).c, fun b w ht => ?_⟩⟩
      have := sopen_good b k X g s p w ht hm (by omega) hop
      unfold sopenAns at this
      rw [if_pos hc] at this
      exact this
    · refine ⟨0, hm, .inr ⟨rfl, 4, by decide, fun b w ht => ?_⟩⟩
      have := sopen_good b k X g s p w ht hm (by omega) hop
      unfold sopenAns at this
      rw [if_neg hc] at this
      exact this
  · exact ⟨0, hm, .inr ⟨rfl, e, by omega, fun b w ht => sopen_bad b s w ht hm e (by omega) hop⟩⟩
theorem opens_short (s : ByteArray) (hs : s.size < 128) : OpensTo s 0 := by
  have hm : s.size ≤ maxLen := by unfold maxLen; omega
  refine ⟨hm, .inr ⟨rfl, 4, by decide, fun b w ht => ?_⟩⟩
  have hno := parts_no2 (s := s) (by rw [← Bool.not_eq_true, Env.okSize_iff]; omega)
  refine sopen_bad b s w ht hm 4 (by decide) ?_
  unfold openAns
  rw [hno]
set_option maxRecDepth 100000 in
set_option maxHeartbeats 4000000 in
theorem newest_any (b : Nat) (L : List ByteArray) (gs : List Nat) (a : Option Addr) (ca : Nat) (w : World) (hl : L.length = gs.length) (hn : L.length ≤ 1000) (ht : TabAt w b) (hS : StrsAt w a L) (hO : ∀ i (h1 : i < L.length) (h2 : i < gs.length), OpensTo L[i] gs[i]) :
    Calls Try.prog 32 #[.pointer (some ⟨b, 0, none⟩), .slice a L.length ca] w fun e w' => (∃ (x : Int) (r u : Nat) (h : Int) (q c : Nat), e = .returned (.tuple #[.agg #[.int .u64 ((gs.foldl max 0 : Nat) : Int), .int .i64 x, .int .u64 (r : Int), .int .u32 (u : Int), .int .i64 h, .int .u64 (q : Int), .int .u32 (c : Int)], .bool (decide (0 < gs.foldl max 0))])) ∧ Ext w w' := by
  have HS := Lib.hid hS
  have HO := Lib.hid hO
  have HL := Lib.hid hl
  obtain ⟨M, hMM⟩ : ∃ M, gs.foldl max 0 = M := ⟨_, rfl⟩
  rw [hMM]
  have HMM := Lib.hid hMM
  clear hS hO hl hMM
  go_enter Try.func32, Try.ntmps32
  go_wp2_with fail
  have r4 := (RowIs.new w 70 blkZ).ext (Ext.alloc _ (.cells blkZ 70))
  have r6 := RowIs.new2 w (.cells blkZ 70) 70 blkZ
  have hE0 := (Ext.alloc w (.cells blkZ 70)).trans (Ext.alloc _ (.cells blkZ 70))
  unfold blkZ at r4 hE0
  unfold blkZ at r6
  generalize (w.alloc (.cells #[.int .u64 0, .int .i64 0, .int .u64 0, .int .u32 0, .int .i64 0, .int .u64 0, .int .u32 0] 70)).alloc (.cells #[.int .u64 0, .int .i64 0, .int .u64 0, .int .u32 0, .int .i64 0, .int .u64 0, .int .u32 0] 70) = w0 at *
  go_loopw [13] (fun i wx => ∃ (j m : Nat) (x : Int) (r u : Nat) (h : Int) (q c : Nat), j ≤ L.length ∧ i = .int .i64 j ∧ m = (gs.take j).foldl max 0 ∧ RowIs w.heap.size 70 #[.int .u64 0, .int .i64 0, .int .u64 0, .int .u32 0, .int .i64 0, .int .u64 0, .int .u32 0] wx ∧ RowIs (w.heap.size + 1) 70 #[.int .u64 (m : Int), .int .i64 x, .int .u64 (r : Int), .int .u32 (u : Int), .int .i64 h, .int .u64 (q : Int), .int .u32 (c : Int)] wx ∧ Ext w wx) (fun i _ => L.length - (intOf i).toNat)
  case atStart => exact ⟨0, 0, 0, 0, 0, 0, 0, 0, by omega, rfl, rfl, r4, r6, hE0⟩
  case round =>
    obtain ⟨j, m, x, r, u, h, q, c, hj, rfl, hm, r4', r6', hex⟩ := hrel
    have HM := Lib.hid hm; clear hm
    clear r4 r6 hE0
    by_cases hlt : j < L.length
    · obtain ⟨bb, oo, rfl, hc0⟩ := (HS.out.ext hex) j hlt
      have hlg : j < gs.length := by rw [← HL.out]; exact hlt
      have hop := HO.out j hlt hlg
      have htk : (gs.take (j + 1)).foldl max 0 = max m gs[j] := by
        rw [List.take_succ_eq_append_getElem hlg, List.foldl_append, ← HM.out]; rfl
      have HTK := Lib.hid htk; clear htk
      have HT := ht.ext hex
      generalize L[j] = s at *
      generalize gs[j]'hlg = G at *
      obtain ⟨hsz, ⟨hG, a', r', u', h', q', c', hopn⟩ | ⟨rfl, e, he, hopn⟩⟩ := hop
      · go_wp2_with fail
        refine (hopn b _ HT).mono ?_
        rintro e w1 ⟨rfl, he1⟩
        have n0 := World.cell?_alloc_new w1 #[.int .u64 (G : Int), .int .i64 a', .int .u64 (r' : Int), .int .u32 (u' : Int), .int .i64 h', .int .u64 (q' : Int), .int .u32 (c' : Int)] 70 0
        have n1 := World.cell?_alloc_new w1 #[.int .u64 (G : Int), .int .i64 a', .int .u64 (r' : Int), .int .u32 (u' : Int), .int .i64 h', .int .u64 (q' : Int), .int .u32 (c' : Int)] 70 1
        have n2 := World.cell?_alloc_new w1 #[.int .u64 (G : Int), .int .i64 a', .int .u64 (r' : Int), .int .u32 (u' : Int), .int .i64 h', .int .u64 (q' : Int), .int .u32 (c' : Int)] 70 2
        have n3 := World.cell?_alloc_new w1 #[.int .u64 (G : Int), .int .i64 a', .int .u64 (r' : Int), .int .u32 (u' : Int), .int .i64 h', .int .u64 (q' : Int), .int .u32 (c' : Int)] 70 3
        have n4 := World.cell?_alloc_new w1 #[.int .u64 (G : Int), .int .i64 a', .int .u64 (r' : Int), .int .u32 (u' : Int), .int .i64 h', .int .u64 (q' : Int), .int .u32 (c' : Int)] 70 4
        have n5 := World.cell?_alloc_new w1 #[.int .u64 (G : Int), .int .i64 a', .int .u64 (r' : Int), .int .u32 (u' : Int), .int .i64 h', .int .u64 (q' : Int), .int .u32 (c' : Int)] 70 5
        have n6 := World.cell?_alloc_new w1 #[.int .u64 (G : Int), .int .i64 a', .int .u64 (r' : Int), .int .u32 (u' : Int), .int .i64 h', .int .u64 (q' : Int), .int .u32 (c' : Int)] 70 6
        have hea := he1.trans (Ext.alloc w1 (.cells #[.int .u64 (G : Int), .int .i64 a', .int .u64 (r' : Int), .int .u32 (u' : Int), .int .i64 h', .int .u64 (q' : Int), .int .u32 (c' : Int)] 70))
        replace r4' := r4'.ext hea
        replace r6' := r6'.ext hea
        have d0 := r6'.cell 0 (.int .u64 (m : Int)) rfl
        have R6 := Lib.hid r6'
        have R4 := Lib.hid r4'
        clear r4' r6' hopn he1
        by_cases hgt : m < G
        · have hgt' : decide ((m : Int) < (G : Int)) = true := decide_eq_true (by omega)
          go_wp2_with (refine wpl_row rfl rfl rfl rfl R6.out (by kernel_rfl) rfl (by simp [Value.oneCell']) ?_; intro w6 hw6 hr6; have HW6 := Lib.hid hw6; have HR6 := Lib.hid hr6; clear hw6 hr6)
          go_roundw
          case rel => exact ⟨j + 1, G, a', r', u', h', q', c', by omega, by go_num, by rw [HTK.out]; omega, HW6.out.row R4.out (by omega), HR6.out, HW6.out.ext (hex.trans hea) (by omega)⟩
          case measure => simp [intOf]; omega
        · have hgt' : decide ((m : Int) < (G : Int)) = false := decide_eq_false (by omega)
          go_wp2_with fail
          go_roundw
          case rel => exact ⟨j + 1, m, x, r, u, h, q, c, by omega, by go_num, by rw [HTK.out]; omega, R4.out, R6.out, hex.trans hea⟩
          case measure => simp [intOf]; omega
      · have he' : ((e : Int) == 0) = false := by simpa using he
        go_wp2_with fail
        refine (hopn b _ HT).mono ?_
        rintro e w1 ⟨rfl, he1⟩
        have hea := he1.trans (Ext.alloc w1 (.cells #[.int .u64 0, .int .i64 0, .int .u64 0, .int .u32 0, .int .i64 0, .int .u64 0, .int .u32 0] 70))
        clear hopn
        go_wp2_with fail
        go_roundw
        case rel => exact ⟨j + 1, m, x, r, u, h, q, c, by omega, by go_num, by rw [HTK.out]; omega, r4'.ext hea, r6'.ext hea, hex.trans hea⟩
        case measure => simp [intOf]; omega
    · obtain rfl : j = L.length := by omega
      obtain rfl : m = M := by rw [HM.out, HL.out, List.take_length, HMM.out]
      clear hlt hj HM HMM
      have d0 := r6'.cell 0 (.int .u64 (m : Int)) rfl
      have d1 := r6'.cell 1 (.int .i64 x) rfl
      have d2 := r6'.cell 2 (.int .u64 (r : Int)) rfl
      have d3 := r6'.cell 3 (.int .u32 (u : Int)) rfl
      have d4 := r6'.cell 4 (.int .i64 h) rfl
      have d5 := r6'.cell 5 (.int .u64 (q : Int)) rfl
      have d6 := r6'.cell 6 (.int .u32 (c : Int)) rfl
      clear r6'
      have hd : decide ((0 : Int) < (m : Int)) = decide (0 < m) := decide_eq_decide.2 (by omega)
      go_upto_region 9 with (fail)
      have m1 : (w.heap.size, blkC m x r u h q c, 70) ∈ [(w.heap.size, blkC m x r u h q c, 70)] := List.mem_cons_self
      have u1 : ∀ p ∈ [(w.heap.size, blkC m x r u h q c, 70)], p.1 = w.heap.size → p = (w.heap.size, blkC m x r u h q c, 70) := by intro p hp _; simpa using hp
      have hb' : ∀ p ∈ [(w.heap.size, blkC m x r u h q c, 70)], w.heap.size ≤ p.1 := by intro p hp; simp at hp; rw [hp]; exact Nat.le_refl _
      have hn2 : ∀ p ∈ [(w.heap.size, blkC m x r u h q c, 70)], p.1 ≠ w.heap.size + 1 := by intro p hp; simp at hp; rw [hp]; simp
      refine RR.wp_region_drift_lit (n := 38) (Boxes.rel [(w.heap.size, blkC m x r u h q c, 70)]) (by kernel_rfl) (by kernel_rfl) (by rfl) ?_
      apply RR.chain_val (.agg #[.int .u64 (m : Int), .int .i64 x, .int .u64 (r : Int), .int .u32 (u : Int), .int .i64 h, .int .u64 (q : Int), .int .u32 (c : Int)])
      · rfl
      · intro w2 hx  K hK
        simp only [Act.put, List.setIfInBounds_toArray, List.set_cons_zero, List.set_cons_succ] at hK ⊢
        have hc0 := Boxes.cell d0 hn2 hx
        have hc1 := Boxes.cell d1 hn2 hx
        have hc2 := Boxes.cell d2 hn2 hx
        have hc3 := Boxes.cell d3 hn2 hx
        have hc4 := Boxes.cell d4 hn2 hx
        have hc5 := Boxes.cell d5 hn2 hx
        have hc6 := Boxes.cell d6 hn2 hx
        go_simp
        exact hK _ _ ((Boxes.rel [(w.heap.size, blkC m x r u h q c, 70)]).refl _) rfl
      apply RR.chain_val
      · rfl
      · intro w2 hx  K hK
        simp only [Act.put, List.setIfInBounds_toArray, List.set_cons_zero, List.set_cons_succ] at hK ⊢
        go_simp
        exact hK _ _ (RR.Rel.refl (Boxes.rel [(w.heap.size, blkC m x r u h q c, 70)]) _) rfl
      apply RR.chain_val (.int .u64 (m : Int))
      · rfl
      · intro w2 hx  K hK
        simp only [Act.put, List.setIfInBounds_toArray, List.set_cons_zero, List.set_cons_succ] at hK ⊢
        have hc0 := Boxes.cell d0 hn2 hx
        go_simp
        exact hK _ _ ((Boxes.rel [(w.heap.size, blkC m x r u h q c, 70)]).refl _) rfl
      apply RR.chain_val (.bool (decide (0 < m)))
      · rfl
      · intro w2 hx  K hK
        simp only [Act.put, List.setIfInBounds_toArray, List.set_cons_zero, List.set_cons_succ] at hK ⊢
        go_simp
        exact hK _ _ ((Boxes.rel [(w.heap.size, blkC m x r u h q c, 70)]).refl _) rfl
      refine RR.chain_store (PtrRow w.heap.size 70 (blkC m x r u h q c)) (fun _ _ _ e h => PtrRow.kept m1 h e) rfl rfl ?_ ?_
      · intro w2 hx  K hK
        simp only [Act.put, List.setIfInBounds_toArray, List.set_cons_zero, List.set_cons_succ] at hK ⊢
        obtain ⟨q, hr, hc⟩ := RowIs.either m1 r4' hx
        have hs : q.size = 7 := by rcases hc with rfl | rfl <;> rfl
        exact step_store rfl rfl rfl rfl hr (by kernel_rfl) hs (by simp [Value.oneCell']) (let ⟨e, q⟩ := setRow_boxes hr m1 u1; hK _ e ⟨rfl, q⟩)
      apply RR.chain_val
      · rfl
      · intro w2 hx _ _ v4 h4 K hK
        simp only [Act.put, List.setIfInBounds_toArray, List.set_cons_zero, List.set_cons_succ] at hK ⊢
        go_simp
        exact hK _ _ (RR.Rel.refl (Boxes.rel [(w.heap.size, blkC m x r u h q c, 70)]) _) rfl
      refine RR.chain_end fun w2 hx => ?_
      simp only [List.reverse_cons, List.reverse_nil, List.nil_append, List.cons_append, RR.withDeps, Act.put, List.setIfInBounds_toArray, List.set_cons_zero, List.set_cons_succ]
      intro v4 h4
      obtain ⟨rfl, h4⟩ := h4
      go_wp2_with fail
      (try simp only [Exit.inBlock, Exit.then])
      refine bodyPost_ret (results_ct Try.results32 _ _ rfl h4 Try.underlying70 rfl (by kernel_rfl)) rfl ?_
      exact ⟨⟨x, r, u, h, q, c, rfl⟩, Boxes.ext hex hx hb'⟩
end Go.Proofs.Ytbnpldilkkhgmaa
