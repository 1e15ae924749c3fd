/- The walk of law12.RecRecords. -/
import Derived.Test.YtemhflafiephpaaRecM
import Derived.Test.YtemhflafiephpaaLawRecTexts
namespace Go.Proofs.Ytemhflafiephpaa
open Go.RowKit
set_option maxRecDepth 100000 in
set_option maxHeartbeats 4000000 in
theorem recRecords_walk (q c : Nat) (a : Option Addr) (l : List Msg.Up) (ca : Nat) (w : World) (hq : q < 18446744073709551616) (hc : c < 4294967296) (hR : Recs w a l) (hca : l.length ≤ ca ∧ ca ≤ maxLen) (hS : ∀ u ∈ l, FitU u) :
    Calls Try.prog 12 #[.int .u64 (q : Int), .int .u32 (c : Int), .slice a l.length ca] w fun e w' => e = .returned (.bool true) ∧ Ext w w' := by
  have hof := of_any l a ca w hca hR hS
  have hfit := cutL_fit hS
  have hln := cutL_length l
  generalize cutL l = L at *
  have HOF := Lib.hid hof; have HF := Lib.hid hfit
  clear hof hfit hR hS hca
  go_enter Try.func12, Try.ntmps12
  go_wp2_with fail
  refine HOF.out.mono ?_
  rintro e w1 ⟨⟨v1, v2, rfl, ho1, ho2⟩, he1⟩
  obtain ⟨a1, c1, rfl, _, _, hR1⟩ := own_recs ho1
  obtain ⟨a2, c2, rfl, _, _, hR2⟩ := own_recs ho2
  go_upto_region 3 with (fail)
  have hE2 := (Ext.alloc w1 (.cells #[.int .u64 (q : Int), .int .u32 (c : Int), .slice a1 L.length c1] 84)).trans (Ext.alloc _ (.cells #[.int .u64 (q : Int), .int .u32 (c : Int), .slice a2 L.length c2] 75))
  have r9 := (RowIs.new w1 84 #[.int .u64 (q : Int), .int .u32 (c : Int), .slice a1 L.length c1]).ext (Ext.alloc _ (.cells #[.int .u64 (q : Int), .int .u32 (c : Int), .slice a2 L.length c2] 75))
  have r10 := RowIs.new2 w1 (.cells #[.int .u64 (q : Int), .int .u32 (c : Int), .slice a1 L.length c1] 84) 75 #[.int .u64 (q : Int), .int .u32 (c : Int), .slice a2 L.length c2]
  generalize (w1.alloc (.cells #[.int .u64 (q : Int), .int .u32 (c : Int), .slice a1 L.length c1] 84)).alloc (.cells #[.int .u64 (q : Int), .int .u32 (c : Int), .slice a2 L.length c2] 75) = w2 at *
  have d0 := r9.cell 0 _ rfl
  have d1 := r9.cell 1 _ rfl
  have d2 := r9.cell 2 _ rfl
  have e0 := r10.cell 0 _ rfl
  have e1 := r10.cell 1 _ rfl
  have e2 := r10.cell 2 _ rfl
  replace hR1 := hR1.ext hE2
  replace hR2 := hR2.ext hE2
  replace he1 := he1.trans hE2
  generalize w1.heap.size = g at *
  have hpy := fun w' (e : Ext w2 w') => payload_any q c L a1 c1 w' hq hc (by omega) (hR1.ext e) HF.out
  have hrp := fun w' (e : Ext w2 w') => refpayload_any q c L a2 c2 w' hq hc (by omega) (hR2.ext e) HF.out
  have hlk := fun b w' (ht : TabAt w' b) (e : Ext w2 w') => link_any b q c L a1 c1 w' ht hq hc (by omega) (hR1.ext e) HF.out
  have hrl := fun w' (e : Ext w2 w') => reflink_any q c L a2 c2 w' hq hc (by omega) (hR2.ext e) HF.out
  have HPY := Lib.hid hpy; have HRP := Lib.hid hrp; have HLK := Lib.hid hlk; have HRL := Lib.hid hrl
  clear hpy hrp hlk hrl r9 r10 hR1 hR2 HF HOF hE2 ho1 ho2
  generalize payR q c L = P at *
  generalize linkR q c L = K1 at *
  generalize (Rec.text L).2 = E at *
  go_wp2_with fail
  refine (HPY.out _ (Ext.refl _)).mono ?_
  rintro e w3 ⟨rfl, he3⟩
  replace d0 := cell_ext d0 he3
  replace d1 := cell_ext d1 he3
  replace d2 := cell_ext d2 he3
  replace e0 := cell_ext e0 he3
  replace e1 := cell_ext e1 he3
  replace e2 := cell_ext e2 he3
  go_wp2_with fail
  refine (HRP.out _ he3).mono ?_
  rintro e w4 ⟨rfl, he4⟩
  replace d0 := cell_ext d0 he4
  replace d1 := cell_ext d1 he4
  replace d2 := cell_ext d2 he4
  replace e0 := cell_ext e0 he4
  replace e1 := cell_ext e1 he4
  replace e2 := cell_ext e2 he4
  have h24 := he3.trans he4
  clear he3 he4
  go_wp2_with fail
  refine wp_region_drift_lit (n := 85) (by kernel_rfl) (by kernel_rfl) (by rfl) ?_
  apply chain_val (.agg #[.int .u64 (q : Int), .int .u32 (c : Int), .slice a1 L.length c1])
  · intro w2 hx  K hK
    simp only [Act.put, List.setIfInBounds_toArray, List.set_cons_zero, List.set_cons_succ] at hK ⊢
    have q0 := cell_ext d0 hx
    have q1 := cell_ext d1 hx
    have q2 := cell_ext d2 hx
    go_simp
    exact hK _ _ (Ext.refl _) rfl
  refine chain_pred (TabPtr) (fun _ _ _ e h => TabPtr.ext h e) ?_ ?_
  · intro w2 hx  K hK
    simp only [Act.put, List.setIfInBounds_toArray, List.set_cons_zero, List.set_cons_succ] at hK ⊢
    go_simp
    refine (make_ext _).mono ?_
    rintro e w9 ⟨b, rfl, ht, he9⟩
    exact hK _ _ he9 ⟨b, rfl, ht⟩
  apply chain_val (.tuple #[.int .u32 (K1 : Int), .int .i64 (E : Int)])
  · intro w2 hx _ _ v1 h1 K hK
    simp only [Act.put, List.setIfInBounds_toArray, List.set_cons_zero, List.set_cons_succ] at hK ⊢
    obtain ⟨b, rfl, ht⟩ := h1
    go_simp
    refine (HLK.out b _ ht (h24.trans hx)).mono ?_
    rintro e w9 ⟨rfl, he9⟩
    exact hK _ _ he9 rfl
  apply chain_val
  · intro w2 hx  K hK
    simp only [Act.put, List.setIfInBounds_toArray, List.set_cons_zero, List.set_cons_succ] at hK ⊢
    go_simp
    exact hK _ _ (Ext.refl _) rfl
  apply chain_val
  · intro w2 hx  K hK
    simp only [Act.put, List.setIfInBounds_toArray, List.set_cons_zero, List.set_cons_succ] at hK ⊢
    go_simp
    exact hK _ _ (Ext.refl _) rfl
  apply chain_val
  · intro w2 hx  K hK
    simp only [Act.put, List.setIfInBounds_toArray, List.set_cons_zero, List.set_cons_succ] at hK ⊢
    go_simp
    exact hK _ _ (Ext.refl _) rfl
  apply chain_val
  · intro w2 hx v1 h1 K hK
    simp only [Act.put, List.setIfInBounds_toArray, List.set_cons_zero, List.set_cons_succ] at hK ⊢
    go_simp
    exact hK _ _ (Ext.refl _) rfl
  apply chain_val
  · intro w2 hx v1 h1 K hK
    simp only [Act.put, List.setIfInBounds_toArray, List.set_cons_zero, List.set_cons_succ] at hK ⊢
    go_simp
    exact hK _ _ (Ext.refl _) rfl
  refine chain_end fun w2 hx => ?_
  simp only [List.reverse_cons, List.reverse_nil, List.nil_append, List.cons_append, withDeps, Act.put, List.setIfInBounds_toArray, List.set_cons_zero, List.set_cons_succ]
  intro v1 h1
  replace d0 := cell_ext d0 hx
  replace d1 := cell_ext d1 hx
  replace d2 := cell_ext d2 hx
  replace e0 := cell_ext e0 hx
  replace e1 := cell_ext e1 hx
  replace e2 := cell_ext e2 hx
  replace h24 := h24.trans hx
  go_wp2_with fail
  refine (HRL.out _ h24).mono ?_
  rintro e w5 ⟨rfl, he5⟩
  replace d0 := cell_ext d0 he5
  replace d1 := cell_ext d1 he5
  replace d2 := cell_ext d2 he5
  go_wp2_with fail
  refine (link_nil _ _ _ _).mono ?_
  rintro e w6 ⟨rfl, he6⟩
  go_wp2_with fail
  refine (wakes12 _).mono ?_
  rintro e w7 ⟨rfl, he7⟩
  go_wp2_with fail
  go_ret
  exact ⟨rfl, he1.trans (h24.trans (he5.trans (he6.trans he7)))⟩
end Go.Proofs.Ytemhflafiephpaa
