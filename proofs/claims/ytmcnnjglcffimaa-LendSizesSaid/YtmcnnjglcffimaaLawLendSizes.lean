/- The walk of law01.LendSizes. -/
import Derived.Test.YtmcnnjglcffimaaOwnI
import Derived.Deep.DeepCutAuto
namespace Go.Proofs.Ytmcnnjglcffimaa
open Go.RowKit
namespace Lend
theorem all_eights (n : Nat) : (List.replicate n (8 : Int)).all okW = true := by
  rw [List.all_eq_true]; intro x hx; rw [List.eq_of_mem_replicate hx]; rfl
theorem total_eights (n : Nat) : total (List.replicate n (8 : Int)) = 8 * n := by
  induction n with
  | zero => rfl
  | succ n ih => rw [List.replicate_succ, total_cons, ih]; show 8 + 8 * n = _; omega
theorem size_eights (n : Nat) : size (List.replicate n (8 : Int)) = 8 * n := by rw [size, if_pos (all_eights n), total_eights]
theorem fit_eights : ∀ {M : List Nat}, SmallN M → fit (List.replicate M.length (8 : Int)) M = true
  | [], _ => rfl
  | n :: M, h => by
    have h1 : n < 18446744073709551616 := h n (by simp)
    have h2 : SmallN M := fun x hx => h x (by simp [hx])
    rw [List.length_cons, List.replicate_succ, fit, fit_eights h2]
    have h3 : decide (n < 256 ^ (8 : Int).toNat) = true := decide_eq_true (by show n < 18446744073709551616; exact h1)
    rw [h3]; rfl
theorem cat_eights_length : ∀ (M : List Nat), (cat (List.replicate M.length (8 : Int)) M).length = 8 * M.length
  | [] => rfl
  | n :: M => by
    rw [List.length_cons, List.replicate_succ, cat, List.length_append, cat_eights_length M, put_length]; show 8 + _ = _; omega
theorem cat_eights_split : ∀ (M : List Nat) (k : Nat), k ≤ M.length → cat (List.replicate k (8 : Int)) (M.take k) ++ cat (List.replicate (M.length - k) (8 : Int)) (M.drop k) = cat (List.replicate M.length (8 : Int)) M
  | M, 0, _ => by simp [cat]
  | [], k + 1, h => by simp at h
  | n :: M, k + 1, h => by
    have ih := cat_eights_split M k (by simpa using h)
    rw [List.length_cons, List.replicate_succ, List.replicate_succ, List.take_succ_cons, List.drop_succ_cons, cat, cat, List.append_assoc]
    rw [show M.length + 1 - (k + 1) = M.length - k by omega, ih]
end Lend
theorem wAns_eights {M : List Nat} (h : SmallN M) {k : Nat} (hk : k = M.length) : wAns (List.replicate k (8 : Int)) M = .tuple #[.string ⟨(Lend.cat (List.replicate k (8 : Int)) M).toArray⟩, .bool true] := by
  subst hk
  exact wAns_some (by rw [Lend.bytes_eq (by simp), Lend.all_eights, Lend.fit_eights h]; rfl)
theorem sizes_plain {M : List Nat} (hs : SmallN M) {k : Nat} (hk : k ≤ M.length) : ∃ A B C : ByteArray, wAns (List.replicate M.length (8 : Int)) M = .tuple #[.string C, .bool true] ∧ C.size = 8 * M.length ∧
    wAns (List.replicate k (8 : Int)) (M.take k) = .tuple #[.string A, .bool true] ∧ wAns (List.replicate (M.length - k) (8 : Int)) (M.drop k) = .tuple #[.string B, .bool true] ∧ A ++ B = C := by
  refine ⟨_, _, _, wAns_eights hs rfl, ?_, wAns_eights (hs.take k) (by rw [List.length_take]; omega), wAns_eights (fun x hx => hs x (List.mem_of_mem_drop hx)) (by simp), ?_⟩
  · show (List.toArray _).size = _
    rw [List.size_toArray, Lend.cat_eights_length]
  · refine bytes_ext ?_
    rw [show ∀ x y : ByteArray, (x ++ y).data.toList = x.data.toList ++ y.data.toList from fun x y => by simp]
    exact Lend.cat_eights_split M k hk
theorem write_eights (k : Nat) (M : List Nat) (r : ByteArray) (a b : Option Addr) (ca cb : Nat) (w : World) (hk : M.length = k) (hl : k ≤ 1000) (hsm : SmallN M) (hI : Ints .i64 w a (List.replicate k (8 : Int))) (hJ : Nums w b M)
    (hr : wAns (List.replicate k (8 : Int)) M = .tuple #[.string r, .bool true]) :
    Calls Try.prog 19 #[.slice a k ca, .slice b k cb] w fun e w' => e = .returned (.tuple #[.string r, .bool true]) ∧ Ext w w' := by
  have h := write_any (List.replicate k (8 : Int)) M a b ca cb w (by rw [List.length_replicate]; exact hl) hsm hI hJ
  rw [List.length_replicate, hk, hr] at h
  exact h
theorem size_eights (k : Nat) (a : Option Addr) (ca : Nat) (w : World) (hl : k ≤ 1000) (hI : Ints .i64 w a (List.replicate k (8 : Int))) :
    Calls Try.prog 22 #[.slice a k ca] w fun e w' => e = .returned (.int .i64 ((8 * k : Nat) : Int)) ∧ w = w' := by
  have h := size_any (List.replicate k (8 : Int)) a ca w (by rw [List.length_replicate]; exact hl) hI
  rw [List.length_replicate, Lend.size_eights] at h
  exact h
set_option maxRecDepth 100000 in
set_option maxHeartbeats 2000000 in
theorem lendSizes_walk (b : Option Addr) (ns : List Nat) (cb : Nat) (at_ : UInt8) (w : World) (hJ : Nums w b ns) (hcb : ns.length ≤ cb ∧ cb ≤ maxLen) (hsm : SmallN ns) :
    Calls Try.prog 11 #[.slice b ns.length cb, .int .u8 (at_.toNat : Int)] w fun e w' => e = .returned (.bool true) ∧ Ext w w' := by
  unfold maxLen at hcb
  obtain ⟨hcb, hcb2⟩ := hcb
  have hat := at_.toNat_lt
  generalize at_.toNat = y at *
  go_enter Try.func11, Try.ntmps11
  go_upto_region 2 with (fail)
  go_cut [0] (fun x wr => ∃ (M : List Nat), x = .slice b M.length cb ∧ M.length ≤ 15 ∧ M.length ≤ cb ∧ Nums w b M ∧ SmallN M ∧ wr = w)
  case first =>
    go_wp2_with fail
    all_goals go_meet
    all_goals exact ⟨ns.take 15, by rw [List.length_take]; congr 1; omega, take_size _ _, by rw [List.length_take]; omega, hJ.take 15, hsm.take 15, rfl⟩
  case rest =>
    obtain ⟨M, rfl, hM, hMc, hJ2, hs2, rfl⟩ := hcut

    have HJ := Lib.hid hJ2; clear hJ2 hJ hsm
    go_wp2_with fail
    go_loopw [5, 20] (fun v i wx => ∃ k : Nat, k ≤ M.length ∧ i = .int .i64 k ∧ OwnI wx wc.heap.size v (List.replicate k 8) ∧ Ext wc wx) (fun _ i _ => M.length - (intOf i).toNat)
    case atStart => exact ⟨0, by omega, rfl, World.ownsRow_nil _ _ _ _, Ext.refl _⟩
    case round =>
      obtain ⟨k, hk, rfl, hown, hex⟩ := hrel
      have HO := Lib.hid hown; clear hown
      by_cases hlt : k < M.length
      · have hB2 : wc.heap.size ≤ wc.heap.size := Nat.le_refl _
        have hln : (List.replicate k (8 : Int)).length ≤ 1000000 := by rw [List.length_replicate]; omega
        go_wp2_with (at_builtin; refine wpl_int rfl _ _ rfl rfl HO.out hex.size hln rfl 8 ?_; intro v' w' ho hb; have HO2 := Lib.hid ho; clear ho)
        go_roundw
        case rel => exact ⟨k + 1, by omega, by go_num, by rw [List.replicate_succ']; exact HO2.out, Below.trans hex hb⟩
        case measure => simp [intOf]; omega
      · obtain rfl : k = M.length := by omega
        obtain ⟨a, ca, rfl, hca, hca2, hI⟩ := own_ints HO.out
        rw [List.length_replicate] at hca
        unfold maxLen at hca2
        obtain ⟨k, hkk⟩ : ∃ k, k = y % (M.length + 1) := ⟨_, rfl⟩
        have hkM : k ≤ M.length := by have := Nat.mod_lt y (show M.length + 1 > 0 by omega); omega
        obtain ⟨A, B, C, p1, p2, p3, p4, p5⟩ := sizes_plain hs2 hkM
        have P1 := Lib.hid p1; have P3 := Lib.hid p3; have P4 := Lib.hid p4; have P5 := Lib.hid p5; have HI := Lib.hid hI
        have HKK := Lib.hid hkk
        clear p1 p3 p4 p5 hI hkk
        simp only [List.length_replicate]
        go_wp2_with fail
        refine (write_eights M.length M C _ _ _ _ _ rfl (by omega) hs2 HI.out (HJ.out.ext hex) P1.out).mono ?_
        rintro e w1 ⟨rfl, he1⟩
        go_wp2_with fail
        refine (wakes01 _).mono ?_
        rintro e w2 ⟨rfl, he2⟩
        go_wp2_with fail
        refine (size_eights M.length _ _ _ (by omega) ((HI.out.ext he1).ext he2)).mono ?_
        rintro e w3 ⟨rfl, rfl⟩
        have hkI : (y : Int) % ((M.length : Int) + 1) = k := by rw [HKK.out, Int.natCast_emod]; rfl
        go_wp2_with fail
        simp only [hkI]
        have hkc : k ≤ ca := by omega
        have hkb : k ≤ cb := by omega
        have hkc' : (k : Int) ≤ (ca : Int) := by omega
        have hkb' : (k : Int) ≤ (cb : Int) := by omega
        have HI2 := HI.out.ext (he1.trans he2)
        have HJ2 := HJ.out.ext (hex.trans (he1.trans he2))
        have I1 := Lib.hid (HI2.take k); have J1 := Lib.hid (HJ2.take k)
        rw [List.take_replicate, Nat.min_eq_left hkM] at I1
        clear HI2 HJ2
        refine wp_region_drift_lit (n := 90) (by kernel_rfl) (by kernel_rfl) (by rfl) ?_
        apply chain_val
        · intro w2 hx  K hK
          simp only [Act.put, List.setIfInBounds_toArray, List.set_cons_zero, List.set_cons_succ] at hK ⊢
          go_simp
          exact hK _ _ (Ext.refl _) rfl
        apply chain_val
        · intro w2 hx  K hK
          simp only [Act.put, List.setIfInBounds_toArray, List.set_cons_zero, List.set_cons_succ] at hK ⊢
          go_simp
          exact hK _ _ (Ext.refl _) rfl
        apply chain_val (.slice a k ca)
        · intro w2 hx  K hK
          simp only [Act.put, List.setIfInBounds_toArray, List.set_cons_zero, List.set_cons_succ] at hK ⊢
          go_simp
          exact hK _ _ (Ext.refl _) rfl
        apply chain_val
        · intro w2 hx  K hK
          simp only [Act.put, List.setIfInBounds_toArray, List.set_cons_zero, List.set_cons_succ] at hK ⊢
          go_simp
          exact hK _ _ (Ext.refl _) rfl
        apply chain_val
        · intro w2 hx  K hK
          simp only [Act.put, List.setIfInBounds_toArray, List.set_cons_zero, List.set_cons_succ] at hK ⊢
          go_simp
          exact hK _ _ (Ext.refl _) rfl
        apply chain_val (.slice b k cb)
        · intro w2 hx  K hK
          simp only [Act.put, List.setIfInBounds_toArray, List.set_cons_zero, List.set_cons_succ] at hK ⊢
          go_simp
          exact hK _ _ (Ext.refl _) rfl
        apply chain_val (.tuple #[.string A, .bool true])
        · intro w2 hx  K hK
          simp only [Act.put, List.setIfInBounds_toArray, List.set_cons_zero, List.set_cons_succ] at hK ⊢
          go_simp
          refine (write_eights k (M.take k) A a b ca cb _ (by rw [List.length_take]; omega) (by omega) (hs2.take k) (I1.out.ext hx) (J1.out.ext hx) P3.out).mono ?_
          rintro e w3 ⟨rfl, he3⟩
          exact hK _ _ he3 rfl
        apply chain_val
        · intro w2 hx  K hK
          simp only [Act.put, List.setIfInBounds_toArray, List.set_cons_zero, List.set_cons_succ] at hK ⊢
          go_simp
          exact hK _ _ (Ext.refl _) rfl
        apply chain_val
        · intro w2 hx  K hK
          simp only [Act.put, List.setIfInBounds_toArray, List.set_cons_zero, List.set_cons_succ] at hK ⊢
          go_simp
          exact hK _ _ (Ext.refl _) rfl
        apply chain_val
        · intro w2 hx  K hK
          simp only [Act.put, List.setIfInBounds_toArray, List.set_cons_zero, List.set_cons_succ] at hK ⊢
          go_simp
          exact hK _ _ (Ext.refl _) rfl
        apply chain_val
        · intro w2 hx  K hK
          simp only [Act.put, List.setIfInBounds_toArray, List.set_cons_zero, List.set_cons_succ] at hK ⊢
          go_simp
          exact hK _ _ (Ext.refl _) rfl
        apply chain_val
        · intro w2 hx  K hK
          simp only [Act.put, List.setIfInBounds_toArray, List.set_cons_zero, List.set_cons_succ] at hK ⊢
          go_simp
          exact hK _ _ (Ext.refl _) rfl
        refine chain_end fun w2 hx => ?_
        simp only [List.reverse_cons, List.reverse_nil, List.nil_append, List.cons_append, withDeps, Act.put, List.setIfInBounds_toArray, List.set_cons_zero, List.set_cons_succ]
        go_wp2_with fail
        clear I1 J1 P3
        have HI3 := HI.out.ext ((he1.trans he2).trans hx)
        have HJ3 := HJ.out.ext (hex.trans ((he1.trans he2).trans hx))
        obtain ⟨a2, ha2, I2⟩ := HI3.from ca k (by rw [List.length_replicate]; exact hca)
        obtain ⟨b2, hb2, J2⟩ := HJ3.from cb k hMc
        have I1 := Lib.hid I2; have J1 := Lib.hid J2
        rw [List.drop_replicate] at I1
        clear HI3 HJ3 I2 J2
        have hk' : (k : Int) ≤ (M.length : Int) := by omega
        refine wp_region_drift_lit (n := 90) (by kernel_rfl) (by kernel_rfl) (by rfl) ?_
        apply chain_val
        · intro w2 hx  K hK
          simp only [Act.put, List.setIfInBounds_toArray, List.set_cons_zero, List.set_cons_succ] at hK ⊢
          go_simp
          exact hK _ _ (Ext.refl _) rfl
        apply chain_val
        · intro w2 hx  K hK
          simp only [Act.put, List.setIfInBounds_toArray, List.set_cons_zero, List.set_cons_succ] at hK ⊢
          go_simp
          exact hK _ _ (Ext.refl _) rfl
        apply chain_val (.slice a2 (M.length - k) (ca - k))
        · intro w2 hx  K hK
          simp only [Act.put, List.setIfInBounds_toArray, List.set_cons_zero, List.set_cons_succ] at hK ⊢
          go_simp
          exact hK _ _ (Ext.refl _) rfl
        apply chain_val
        · intro w2 hx  K hK
          simp only [Act.put, List.setIfInBounds_toArray, List.set_cons_zero, List.set_cons_succ] at hK ⊢
          go_simp
          exact hK _ _ (Ext.refl _) rfl
        apply chain_val
        · intro w2 hx  K hK
          simp only [Act.put, List.setIfInBounds_toArray, List.set_cons_zero, List.set_cons_succ] at hK ⊢
          go_simp
          exact hK _ _ (Ext.refl _) rfl
        apply chain_val (.slice b2 (M.length - k) (cb - k))
        · intro w2 hx  K hK
          simp only [Act.put, List.setIfInBounds_toArray, List.set_cons_zero, List.set_cons_succ] at hK ⊢
          go_simp
          exact hK _ _ (Ext.refl _) rfl
        apply chain_val (.tuple #[.string B, .bool true])
        · intro w2 hx  K hK
          simp only [Act.put, List.setIfInBounds_toArray, List.set_cons_zero, List.set_cons_succ] at hK ⊢
          go_simp
          refine (write_eights (M.length - k) (M.drop k) B a2 b2 _ _ _ (by rw [List.length_drop]) (by omega) (fun x hx => hs2 x (List.mem_of_mem_drop hx)) (I1.out.ext hx) (J1.out.ext hx) P4.out).mono ?_
          rintro e w3 ⟨rfl, he3⟩
          exact hK _ _ he3 rfl
        apply chain_val
        · intro w2 hx  K hK
          simp only [Act.put, List.setIfInBounds_toArray, List.set_cons_zero, List.set_cons_succ] at hK ⊢
          go_simp
          exact hK _ _ (Ext.refl _) rfl
        apply chain_val
        · intro w2 hx  K hK
          simp only [Act.put, List.setIfInBounds_toArray, List.set_cons_zero, List.set_cons_succ] at hK ⊢
          go_simp
          exact hK _ _ (Ext.refl _) rfl
        apply chain_val
        · intro w2 hx  K hK
          simp only [Act.put, List.setIfInBounds_toArray, List.set_cons_zero, List.set_cons_succ] at hK ⊢
          go_simp
          exact hK _ _ (Ext.refl _) rfl
        apply chain_val
        · intro w2 hx  K hK
          simp only [Act.put, List.setIfInBounds_toArray, List.set_cons_zero, List.set_cons_succ] at hK ⊢
          go_simp
          exact hK _ _ (Ext.refl _) rfl
        apply chain_val
        · intro w2 hx  K hK
          simp only [Act.put, List.setIfInBounds_toArray, List.set_cons_zero, List.set_cons_succ] at hK ⊢
          go_simp
          exact hK _ _ (Ext.refl _) rfl
        refine chain_end fun w2 hx => ?_
        simp only [List.reverse_cons, List.reverse_nil, List.nil_append, List.cons_append, withDeps, Act.put, List.setIfInBounds_toArray, List.set_cons_zero, List.set_cons_succ]
        have hAB : A.size + B.size = 8 * M.length := by rw [← p2, ← P5.out, ByteArray.size_append]
        go_wp2_with fail
        go_ret
        have hq : ((A ++ B).toList == C.toList) = true := by rw [P5.out]; exact beq_self_eq_true _
        exact ⟨by rw [← hq]; rfl, hex.trans ((he1.trans he2).trans (Ext.trans (by assumption) (by assumption)))⟩
end Go.Proofs.Ytmcnnjglcffimaa
