/- Contract of super.parse. -/
import Derived.Test.YtbnpldilkkhgmaaSupB
namespace Go.Proofs.Ytbnpldilkkhgmaa
open Go.RowKit
theorem results_ct {P : Program} {fn : Func} {p q : Tmp} {t : TypeId} (h : fn.results = #[.cell p t, .tmp q]) (tmps : Array Value) (w : World) {g : Nat} {c : Array Value} {T : TypeId} {d : TypeDesc}
    (hp : tmps.getD p undef = .pointer (some ⟨g, 0, none⟩)) (hg : RowIs g T c w)
    (hu : P.underlying t = some d) (hd : (match d with | .struct _ | .array _ _ => true | _ => false) = true) (hi : (P.info? t).map (·.size) = some c.size) :
    (results fn tmps).run P w = .ok (.tuple #[.agg c, tmps.getD q undef]) w := by
  have hp' : tmps[p]?.getD undef = .pointer (some ⟨g, 0, none⟩) := by simpa using hp
  simp [results, h, hp', asAddr, run_loadVar_row w g T t c (0, 0) d hg hu hd hi]
/-- the reading of three numbers of 1, 8 and 4 bytes -/
def tail3 (l : List UInt8) : Three := ⟨Crc.le (l.take 1), Crc.le ((l.drop 1).take 8), Crc.le ((l.drop 9).take 4)⟩
theorem cutT (l : List UInt8) : Lend.cut Sup.ws3 l = [(tail3 l).a, (tail3 l).g, (tail3 l).c] := by
  simp [Lend.cut, Sup.ws3, tail3]
theorem tail3_lt (l : List UInt8) : (tail3 l).a < 256 ∧ (tail3 l).g < 18446744073709551616 ∧ (tail3 l).c < 4294967296 := ⟨Env.le_take 1, Env.le_take 8, Env.le_take 4⟩
theorem numsT (l : List UInt8) : Lend.nums Sup.ws3 l = if 13 ≤ l.length then some ([(tail3 l).a, (tail3 l).g, (tail3 l).c], l.drop 13) else none := by
  rw [Lend.nums_eq, cutT]
  have e : Lend.total Sup.ws3 = 13 := rfl
  have e2 : Sup.ws3.all Lend.okW = true := by decide
  rw [e, e2]
  by_cases h : 13 ≤ l.length <;> simp [h]
theorem readT_no (s : ByteArray) (v : Value) (w : World) (hs : s.size < 13) (hv : SlI .i64 3 Sup.ws3 v w) : Calls Try.prog 47 #[v, .string s] w fun e w' => e = .returned (.tuple #[.slice none 0 0, .string ⟨#[]⟩, .bool false]) ∧ Ext w w' := by
  obtain ⟨a, c, rfl, hI⟩ := hv
  exact (read_any Sup.ws3 s a c w (by decide) (by unfold maxLen; omega) hI).mono fun e w' hp => readPost_none (by rw [numsT, if_neg (by simpa using hs)]) hp
theorem readT_yes (s : ByteArray) (v : Value) (w : World) (hs : 13 ≤ s.size) (hm : s.size ≤ maxLen) (hv : SlI .i64 3 Sup.ws3 v w) : Calls Try.prog 47 #[v, .string s] w fun e w' =>
    ∃ b d, e = .returned (.tuple #[.slice (some ⟨b, 0, none⟩) 3 d, .string (s.extract 13 s.size), .bool true]) ∧ w.heap.size ≤ b ∧
      (w'.cell? ⟨b, 0, none⟩ = some (.int .u64 ((tail3 s.data.toList).a : Int)) ∧ w'.cell? ⟨b, 1, none⟩ = some (.int .u64 ((tail3 s.data.toList).g : Int)) ∧ w'.cell? ⟨b, 2, none⟩ = some (.int .u64 ((tail3 s.data.toList).c : Int))) ∧ Ext w w' := by
  obtain ⟨a, c, rfl, hI⟩ := hv
  refine (read_any Sup.ws3 s a c w (by decide) hm hI).mono fun e w' hp => ?_
  unfold ReadPost at hp
  rw [numsT, if_pos (by simpa using hs)] at hp
  obtain ⟨h2, v, rfl, h1⟩ := hp
  obtain ⟨_, ⟨_, hn⟩ | ⟨g, cap, cur, rfl, hB, hg, h3, h4, h5, ht⟩⟩ := h1
  · cases hn
  have hc : ∀ i (hi : i < 3), w'.cell? ⟨g, i, none⟩ = some (.int .u64 (([(tail3 s.data.toList).a, (tail3 s.data.toList).g, (tail3 s.data.toList).c][i] : Nat) : Int)) := fun i hi => by
    rw [cell_of_row w' g i cur 22 (0, 0) hg]
    have e := congrArg (fun l => l[i]?) ht
    simp only [List.getElem?_take, List.length_cons, List.length_nil] at e
    rw [if_pos (by omega)] at e
    rw [← Array.getElem?_toList, e]
    match i, hi with
    | 0, _ => rfl
    | 1, _ => rfl
    | 2, _ => rfl
  have e : s.extract 13 s.size = ⟨(s.data.toList.drop 13).toArray⟩ := bytes_ext (by rw [ext_data, List.take_of_length_le (by simp)])
  exact ⟨g, cap, by rw [e]; rfl, hB, ⟨hc 0 (by decide), hc 1 (by decide), hc 2 (by decide)⟩, h2⟩
/-- what parse answers -/
def sparseAns (s : ByteArray) : Value :=
  if s.size = 29 ∧ (three s.data.toList).a ≤ 2147483647 then
    .tuple #[.agg (blkC 0 ((three s.data.toList).a : Nat) (three s.data.toList).g (three s.data.toList).c ((tail3 (s.data.toList.drop 16)).a : Nat) (tail3 (s.data.toList.drop 16)).g (tail3 (s.data.toList.drop 16)).c), .bool true]
  else .tuple #[.agg blkZ, .bool false]
set_option maxRecDepth 100000 in
set_option maxHeartbeats 4000000 in
theorem sparse_any (s : ByteArray) (w : World) (hm : s.size ≤ maxLen) : Calls Try.prog 51 #[.string s] w fun e w' => e = .returned (sparseAns s) ∧ Ext w w' := by
  have hpa := fun w => parse_any s w hm
  unfold parseAns at hpa
  unfold sparseAns
  by_cases h1 : 16 ≤ s.size ∧ (three s.data.toList).a ≤ 2147483647
  · rw [if_pos h1] at hpa
    have hl : (s.extract 16 s.size).data.toList = s.data.toList.drop 16 := by rw [ext_data, List.take_of_length_le (by simp)]
    have hRs : (s.extract 16 s.size).size = s.size - 16 := by simp
    rw [← hl]
    have hq := three_lt s.data.toList
    generalize three s.data.toList = q at *
    obtain ⟨a, g, c⟩ := q
    obtain ⟨q1, q2, q3⟩ := hq
    simp only at hpa q1 q2 q3 h1 ⊢
    generalize s.extract 16 s.size = R at *
    unfold ptrC at hpa
    by_cases h2 : 13 ≤ R.size
    · have hrd := fun v w => readT_yes R v w h2 (by unfold maxLen at *; omega)
      have ht := tail3_lt R.data.toList
      generalize tail3 R.data.toList = t at *
      obtain ⟨h, sq, ch⟩ := t
      obtain ⟨t1, t2, t3⟩ := ht
      simp only at hrd t1 t2 t3 ⊢
      by_cases h3 : R.size = 13
      · rw [if_pos ⟨by omega, h1.2⟩]
        have hz : R.extract 13 R.size = ⟨#[]⟩ := bytes_ext (by rw [ext_data, List.take_of_length_le (by simp)]; exact List.drop_eq_nil_of_le (by simp; omega))
        rw [hz] at hrd
        clear hz hl hRs h1
        go_enter Try.func51, Try.ntmps51
        go_wp2_with fail
        refine (hpa _).mono ?_
        rintro e w1 ⟨rfl, he1⟩
        have r2 := (RowIs.new w _ _).ext he1
        have hE1 := (Ext.alloc w _).trans he1
        go_wp2_with fail
        have c0 := World.cell?_alloc_new w1 #[.int .i64 (a : Int), .int .u64 (g : Int), .int .u32 (c : Int)] 32 0
        have c1 := World.cell?_alloc_new w1 #[.int .i64 (a : Int), .int .u64 (g : Int), .int .u32 (c : Int)] 32 1
        have c2 := World.cell?_alloc_new w1 #[.int .i64 (a : Int), .int .u64 (g : Int), .int .u32 (c : Int)] 32 2
        have hEa := Ext.alloc w1 (.cells #[.int .i64 (a : Int), .int .u64 (g : Int), .int .u32 (c : Int)] 32)
        have hW1 : w.heap.size < w1.heap.size := r2.lt
        replace r2 := r2.ext hEa
        replace hE1 := hE1.trans hEa
        refine (own_widths3 _).mono ?_
        rintro e w2 ⟨⟨v, rfl, hv⟩, he2⟩
        replace c0 := cell_ext c0 he2
        replace c1 := cell_ext c1 he2
        replace c2 := cell_ext c2 he2
        replace r2 := r2.ext he2
        replace hE1 := hE1.trans he2
        go_wp2_with fail
        refine (hrd v _ hv).mono ?_
        rintro e w3 ⟨b, d, rfl, hbB, ⟨d0, d1, d2⟩, he3⟩
        replace c0 := cell_ext c0 he3
        replace c1 := cell_ext c1 he3
        replace c2 := cell_ext c2 he3
        replace r2 := r2.ext he3
        have hbw : w.heap.size ≠ b := by have := hE1.size; have := hEa.size; have := he2.size; simp at this; omega
        have hgw : w.heap.size ≠ w1.heap.size := by omega
        replace hE1 := hE1.trans he3
        generalize w1.heap.size = G at *
        clear hpa hrd hv he1 he2 he3 hEa hbB
        go_upto_region 5 with (fail)
        have v1 : IntKind.i64.wrap (h : Int) = (h : Int) := by rw [IntKind.wrap_i64]; omega
        have v2 : IntKind.u32.wrap (ch : Int) = (ch : Int) := by rw [IntKind.wrap_u32]; omega
        have m1 : (w.heap.size, blkC 0 (a : Nat) g c (h : Nat) sq ch, 70) ∈ [(w.heap.size, blkC 0 (a : Nat) g c (h : Nat) sq ch, 70)] := List.mem_cons_self
        have u1 : ∀ p ∈ [(w.heap.size, blkC 0 (a : Nat) g c (h : Nat) sq ch, 70)], p.1 = w.heap.size → p = (w.heap.size, blkC 0 (a : Nat) g c (h : Nat) sq ch, 70) := by intro p hp _; simpa using hp
        have hb' : ∀ p ∈ [(w.heap.size, blkC 0 (a : Nat) g c (h : Nat) sq ch, 70)], w.heap.size ≤ p.1 := by intro p hp; simp at hp; rw [hp]; exact Nat.le_refl _
        have hn2 : ∀ p ∈ [(w.heap.size, blkC 0 (a : Nat) g c (h : Nat) sq ch, 70)], p.1 ≠ b := by intro p hp; simp at hp; rw [hp]; exact hbw
        have hn3 : ∀ p ∈ [(w.heap.size, blkC 0 (a : Nat) g c (h : Nat) sq ch, 70)], p.1 ≠ G := by intro p hp; simp at hp; rw [hp]; exact hgw
        refine RR.wp_region_drift_lit (n := 46) (Boxes.rel [(w.heap.size, blkC 0 (a : Nat) g c (h : Nat) sq ch, 70)]) (by kernel_rfl) (by kernel_rfl) (by rfl) ?_
        apply RR.chain_val (.agg #[.int .i64 (a : Int), .int .u64 (g : Int), .int .u32 (c : Int)])
        · rfl
        · intro w2 hx  K hK
          simp only [Act.put, List.setIfInBounds_toArray, List.set_cons_zero, List.set_cons_succ] at hK ⊢
          have hc0 := Boxes.cell c0 hn3 hx
          have hc1 := Boxes.cell c1 hn3 hx
          have hc2 := Boxes.cell c2 hn3 hx
          go_simp
          exact hK _ _ ((Boxes.rel [(w.heap.size, blkC 0 (a : Nat) g c (h : Nat) sq ch, 70)]).refl _) rfl
        apply RR.chain_val
        · rfl
        · intro w2 hx  K hK
          simp only [Act.put, List.setIfInBounds_toArray, List.set_cons_zero, List.set_cons_succ] at hK ⊢
          go_simp
          exact hK _ _ (RR.Rel.refl (Boxes.rel [(w.heap.size, blkC 0 (a : Nat) g c (h : Nat) sq ch, 70)]) _) rfl
        apply RR.chain_val
        · rfl
        · intro w2 hx  K hK
          simp only [Act.put, List.setIfInBounds_toArray, List.set_cons_zero, List.set_cons_succ] at hK ⊢
          go_simp
          exact hK _ _ (RR.Rel.refl (Boxes.rel [(w.heap.size, blkC 0 (a : Nat) g c (h : Nat) sq ch, 70)]) _) rfl
        apply RR.chain_val (.int .u64 (h : Int))
        · rfl
        · intro w2 hx  K hK
          simp only [Act.put, List.setIfInBounds_toArray, List.set_cons_zero, List.set_cons_succ] at hK ⊢
          have hc := Boxes.cell d0 hn2 hx
          go_simp
          exact hK _ _ ((Boxes.rel [(w.heap.size, blkC 0 (a : Nat) g c (h : Nat) sq ch, 70)]).refl _) rfl
        apply RR.chain_val
        · rfl
        · intro w2 hx  K hK
          simp only [Act.put, List.setIfInBounds_toArray, List.set_cons_zero, List.set_cons_succ] at hK ⊢
          go_simp
          exact hK _ _ (RR.Rel.refl (Boxes.rel [(w.heap.size, blkC 0 (a : Nat) g c (h : Nat) sq ch, 70)]) _) rfl
        apply RR.chain_val
        · rfl
        · intro w2 hx  K hK
          simp only [Act.put, List.setIfInBounds_toArray, List.set_cons_zero, List.set_cons_succ] at hK ⊢
          go_simp
          exact hK _ _ (RR.Rel.refl (Boxes.rel [(w.heap.size, blkC 0 (a : Nat) g c (h : Nat) sq ch, 70)]) _) rfl
        apply RR.chain_val
        · rfl
        · intro w2 hx  K hK
          simp only [Act.put, List.setIfInBounds_toArray, List.set_cons_zero, List.set_cons_succ] at hK ⊢
          go_simp
          exact hK _ _ (RR.Rel.refl (Boxes.rel [(w.heap.size, blkC 0 (a : Nat) g c (h : Nat) sq ch, 70)]) _) rfl
        apply RR.chain_val (.int .u64 (sq : Int))
        · rfl
        · intro w2 hx  K hK
          simp only [Act.put, List.setIfInBounds_toArray, List.set_cons_zero, List.set_cons_succ] at hK ⊢
          have hc := Boxes.cell d1 hn2 hx
          go_simp
          exact hK _ _ ((Boxes.rel [(w.heap.size, blkC 0 (a : Nat) g c (h : Nat) sq ch, 70)]).refl _) rfl
        apply RR.chain_val
        · rfl
        · intro w2 hx  K hK
          simp only [Act.put, List.setIfInBounds_toArray, List.set_cons_zero, List.set_cons_succ] at hK ⊢
          go_simp
          exact hK _ _ (RR.Rel.refl (Boxes.rel [(w.heap.size, blkC 0 (a : Nat) g c (h : Nat) sq ch, 70)]) _) rfl
        apply RR.chain_val
        · rfl
        · intro w2 hx  K hK
          simp only [Act.put, List.setIfInBounds_toArray, List.set_cons_zero, List.set_cons_succ] at hK ⊢
          go_simp
          exact hK _ _ (RR.Rel.refl (Boxes.rel [(w.heap.size, blkC 0 (a : Nat) g c (h : Nat) sq ch, 70)]) _) rfl
        apply RR.chain_val (.int .u64 (ch : Int))
        · rfl
        · intro w2 hx  K hK
          simp only [Act.put, List.setIfInBounds_toArray, List.set_cons_zero, List.set_cons_succ] at hK ⊢
          have hc := Boxes.cell d2 hn2 hx
          go_simp
          exact hK _ _ ((Boxes.rel [(w.heap.size, blkC 0 (a : Nat) g c (h : Nat) sq ch, 70)]).refl _) rfl
        apply RR.chain_val
        · rfl
        · intro w2 hx  K hK
          simp only [Act.put, List.setIfInBounds_toArray, List.set_cons_zero, List.set_cons_succ] at hK ⊢
          go_simp
          exact hK _ _ (RR.Rel.refl (Boxes.rel [(w.heap.size, blkC 0 (a : Nat) g c (h : Nat) sq ch, 70)]) _) rfl
        apply RR.chain_val
        · rfl
        · intro w2 hx  K hK
          simp only [Act.put, List.setIfInBounds_toArray, List.set_cons_zero, List.set_cons_succ] at hK ⊢
          go_simp
          exact hK _ _ (RR.Rel.refl (Boxes.rel [(w.heap.size, blkC 0 (a : Nat) g c (h : Nat) sq ch, 70)]) _) rfl
        refine RR.chain_store (PtrRow w.heap.size 70 (blkC 0 (a : Nat) g c (h : Nat) sq ch)) (fun _ _ _ e h => PtrRow.kept m1 h e) rfl rfl ?_ ?_
        · intro w2 hx  K hK
          simp only [Act.put, List.setIfInBounds_toArray, List.set_cons_zero, List.set_cons_succ] at hK ⊢
          obtain ⟨q, hr, hc⟩ := RowIs.either m1 r2 hx
          have hs : q.size = 7 := by rcases hc with rfl | rfl <;> rfl
          exact step_store rfl rfl rfl rfl hr (by kernel_rfl) hs (by simp [Value.oneCell']) (let ⟨e, q⟩ := setRow_boxes hr m1 u1; hK _ e ⟨rfl, q⟩)
        apply RR.chain_val
        · rfl
        · intro w2 hx _ _ v13 h13 K hK
          simp only [Act.put, List.setIfInBounds_toArray, List.set_cons_zero, List.set_cons_succ] at hK ⊢
          go_simp
          exact hK _ _ (RR.Rel.refl (Boxes.rel [(w.heap.size, blkC 0 (a : Nat) g c (h : Nat) sq ch, 70)]) _) rfl
        refine RR.chain_end fun w2 hx => ?_
        simp only [List.reverse_cons, List.reverse_nil, List.nil_append, List.cons_append, RR.withDeps, Act.put, List.setIfInBounds_toArray, List.set_cons_zero, List.set_cons_succ]
        intro v13 h13
        obtain ⟨rfl, h13⟩ := h13
        go_wp2_with fail
        (try simp only [Exit.inBlock, Exit.then])
        refine bodyPost_ret (results_ct Try.results51 _ _ rfl h13 Try.underlying70 rfl (by kernel_rfl)) rfl ?_
        exact ⟨rfl, Boxes.ext hE1 hx hb'⟩
      · rw [if_neg (fun h => h3 (by omega))]
        have hz : ¬ R.extract 13 R.size = (⟨#[]⟩ : ByteArray) := fun e => by
          have h9 := congrArg ByteArray.size e
          simp at h9
          have h8 : (⟨#[]⟩ : ByteArray).size = 0 := rfl
          omega
        have hz2 : (R.extract 13 R.size).toList.isEmpty = false := by
          rw [List.isEmpty_eq_false_iff]
          intro e
          rw [toList_data] at e
          exact hz (bytes_ext e)
        generalize R.extract 13 R.size = Z at *
        clear hl hRs h1 h2 h3
        go_enter Try.func51, Try.ntmps51
        go_wp2_with fail
        refine (hpa _).mono ?_
        rintro e w1 ⟨rfl, he1⟩
        have r2 := ((RowIs.new w _ _).ext he1).ext (Ext.alloc w1 (.cells #[.int .i64 (a : Int), .int .u64 (g : Int), .int .u32 (c : Int)] 32))
        have hE1 := ((Ext.alloc w _).trans he1).trans (Ext.alloc w1 (.cells #[.int .i64 (a : Int), .int .u64 (g : Int), .int .u32 (c : Int)] 32))
        go_wp2_with fail
        refine (own_widths3 _).mono ?_
        rintro e w2 ⟨⟨v, rfl, hv⟩, he2⟩
        go_wp2_with fail
        refine (hrd v _ hv).mono ?_
        rintro e w3 ⟨b, d, rfl, hbB, ⟨d0, d1, d2⟩, he3⟩
        have R2 := Lib.hid ((r2.ext he2).ext he3)
        replace hE1 := (hE1.trans he2).trans he3
        clear r2
        go_wp2_with (refine wpl_row rfl rfl rfl rfl R2.out (by kernel_rfl) rfl (by simp [Value.oneCell']) ?_; intro w6 hw6 hr6; have HW6 := Lib.hid hw6; have HR6 := Lib.hid hr6; clear hw6 hr6)
        (try simp only [Exit.inBlock, Exit.then])
        refine bodyPost_ret (results_ct Try.results51 _ _ rfl HR6.out Try.underlying70 rfl (by kernel_rfl)) rfl ?_
        exact ⟨rfl, HW6.out.ext hE1 (Nat.le_refl _)⟩
    · rw [if_neg (fun h => h2 (by omega))]
      have hrd := fun v w => readT_no R v w (by omega)
      clear hl hRs h1 h2
      go_enter Try.func51, Try.ntmps51
      go_wp2_with fail
      refine (hpa _).mono ?_
      rintro e w1 ⟨rfl, he1⟩
      have r2 := ((RowIs.new w _ _).ext he1).ext (Ext.alloc w1 (.cells #[.int .i64 (a : Int), .int .u64 (g : Int), .int .u32 (c : Int)] 32))
      have hE1 := ((Ext.alloc w _).trans he1).trans (Ext.alloc w1 (.cells #[.int .i64 (a : Int), .int .u64 (g : Int), .int .u32 (c : Int)] 32))
      go_wp2_with fail
      refine (own_widths3 _).mono ?_
      rintro e w2 ⟨⟨v, rfl, hv⟩, he2⟩
      go_wp2_with fail
      refine (hrd v _ hv).mono ?_
      rintro e w3 ⟨rfl, he3⟩
      have R2 := Lib.hid ((r2.ext he2).ext he3)
      replace hE1 := (hE1.trans he2).trans he3
      clear r2
      go_wp2_with (refine wpl_row rfl rfl rfl rfl R2.out (by kernel_rfl) rfl (by simp [Value.oneCell']) ?_; intro w6 hw6 hr6; have HW6 := Lib.hid hw6; have HR6 := Lib.hid hr6; clear hw6 hr6)
      (try simp only [Exit.inBlock, Exit.then])
      refine bodyPost_ret (results_ct Try.results51 _ _ rfl HR6.out Try.underlying70 rfl (by kernel_rfl)) rfl ?_
      exact ⟨rfl, HW6.out.ext hE1 (Nat.le_refl _)⟩
  · rw [if_neg h1] at hpa
    rw [if_neg (fun h => h1 ⟨by omega, h.2⟩)]
    have hrd := fun v w => readT_no ⟨#[]⟩ v w (by decide)
    unfold ptrZ at hpa
    clear h1
    go_enter Try.func51, Try.ntmps51
    go_wp2_with fail
    refine (hpa _).mono ?_
    rintro e w1 ⟨rfl, he1⟩
    have r2 := ((RowIs.new w _ _).ext he1).ext (Ext.alloc w1 (.cells #[.int .i64 0, .int .u64 0, .int .u32 0] 32))
    have hE1 := ((Ext.alloc w _).trans he1).trans (Ext.alloc w1 (.cells #[.int .i64 0, .int .u64 0, .int .u32 0] 32))
    go_wp2_with fail
    refine (own_widths3 _).mono ?_
    rintro e w2 ⟨⟨v, rfl, hv⟩, he2⟩
    go_wp2_with fail
    refine (hrd v _ hv).mono ?_
    rintro e w3 ⟨rfl, he3⟩
    have R2 := Lib.hid ((r2.ext he2).ext he3)
    replace hE1 := (hE1.trans he2).trans he3
    clear r2
    go_wp2_with (refine wpl_row rfl rfl rfl rfl R2.out (by kernel_rfl) rfl (by simp [Value.oneCell']) ?_; intro w6 hw6 hr6; have HW6 := Lib.hid hw6; have HR6 := Lib.hid hr6; clear hw6 hr6)
    (try simp only [Exit.inBlock, Exit.then])
    refine bodyPost_ret (results_ct Try.results51 _ _ rfl HR6.out Try.underlying70 rfl (by kernel_rfl)) rfl ?_
    exact ⟨rfl, HW6.out.ext hE1 (Nat.le_refl _)⟩
end Go.Proofs.Ytbnpldilkkhgmaa
