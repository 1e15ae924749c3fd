/- Contracts of ref05.right and ref05.Image; the program's Image and the reference's answer alike. -/
import Derived.Test.YtbnpldilkkhgmaaSupE
import Derived.Test.YtbnpldilkkhgmaaEnvO
import Derived.Test.YtbnpldilkkhgmaaLendRW
namespace Go.Proofs.Ytbnpldilkkhgmaa
open Go.RowKit
set_option maxRecDepth 100000 in
set_option maxHeartbeats 1000000 in
theorem refbright_any (g : Nat) (a : Int) (r u : Nat) (h : Int) (s c : Nat) (w : World) : Calls Try.prog 50 #[.agg #[.int .u64 (g : Int), .int .i64 a, .int .u64 (r : Int), .int .u32 (u : Int), .int .i64 h, .int .u64 (s : Int), .int .u32 (c : Int)]] w fun e w' => e = .returned (.bool (Env.okAddr a && Sup.okB g r h)) ∧ Ext w w' := by
  unfold Sup.okB Env.okAddr
  by_cases h1 : 1 ≤ g
  · have q1 : decide ((1 : Int) ≤ (g : Int)) = true := decide_eq_true (by omega)
    rw [decide_eq_true h1]
    by_cases h5 : 0 ≤ a
    · by_cases h6 : a ≤ 2147483647
      · rw [decide_eq_true h5, decide_eq_true h6]
        by_cases h2 : r ≤ g
        · have q2 : decide ((r : Int) ≤ (g : Int)) = true := decide_eq_true (by omega)
          rw [decide_eq_true h2]
          by_cases h3 : 1 ≤ h
          · by_cases h4 : h ≤ 32
            · rw [decide_eq_true h3, decide_eq_true h4]
              go_enter Try.func50, Try.ntmps50
              go_wp2_with fail
              go_ret
              exact ⟨rfl, Ext.alloc _ _⟩
            · have h4' : decide (h ≤ 32) = false := decide_eq_false h4
              rw [decide_eq_true h3, h4']
              go_enter Try.func50, Try.ntmps50
              go_wp2_with fail
              go_ret
              exact ⟨rfl, Ext.alloc _ _⟩
          · have h3' : decide (1 ≤ h) = false := decide_eq_false h3
            rw [h3']
            go_enter Try.func50, Try.ntmps50
            go_wp2_with fail
            go_ret
            exact ⟨rfl, Ext.alloc _ _⟩
        · have q2 : decide ((r : Int) ≤ (g : Int)) = false := decide_eq_false (by omega)
          rw [decide_eq_false h2]
          go_enter Try.func50, Try.ntmps50
          go_wp2_with fail
          go_ret
          exact ⟨rfl, Ext.alloc _ _⟩
      · have h6' : decide (a ≤ 2147483647) = false := decide_eq_false h6
        rw [decide_eq_true h5, h6']
        go_enter Try.func50, Try.ntmps50
        go_wp2_with fail
        go_ret
        exact ⟨rfl, Ext.alloc _ _⟩
    · have h5' : decide (0 ≤ a) = false := decide_eq_false h5
      rw [h5']
      go_enter Try.func50, Try.ntmps50
      go_wp2_with fail
      go_ret
      exact ⟨rfl, Ext.alloc _ _⟩
  · have q1 : decide ((1 : Int) ≤ (g : Int)) = false := decide_eq_false (by omega)
    rw [decide_eq_false h1]
    go_enter Try.func50, Try.ntmps50
    go_wp2_with fail
    go_ret
    exact ⟨by simp, Ext.alloc _ _⟩
def ws6p : List Int := [4, 8, 4, 1, 8, 4]
theorem six_bytes {X r u h s c : Nat} (hX : X < 4294967296) (hr : r < 18446744073709551616) (hu : u < 4294967296) (hh : h < 256) (hs : s < 18446744073709551616) (hc : c < 4294967296) :
    Lend.bytes ws6p [X, r, u, h, s, c] = some (payT X r u h s c).data.toList := by
  have e : (payT X r u h s c).data.toList = Lend.cat ws6p [X, r, u, h, s, c] := by rw [payT_list]; rfl
  rw [e, Lend.bytes_eq rfl, if_pos]
  rw [Bool.and_eq_true]
  refine ⟨by decide, (Lend.fit_iff rfl).2 fun k h1 h2 => ?_⟩
  match k, h1 with
  | 0, _ => exact hX
  | 1, _ => exact hr
  | 2, _ => exact hu
  | 3, _ => exact hh
  | 4, _ => exact hs
  | 5, _ => exact hc
theorem refwrite6 (w : World) (T U : TypeId) (X r u h s c : Nat) (hX : X < 4294967296) (hr : r < 18446744073709551616) (hu : u < 4294967296) (hh : h < 256) (hs : s < 18446744073709551616) (hc : c < 4294967296) :
    Calls Try.prog 21 #[.slice (some ⟨w.heap.size, 0, none⟩) 6 6, .slice (some ⟨w.heap.size + 1, 0, none⟩) 6 6] ((w.alloc (.cells #[.int .i64 4, .int .i64 8, .int .i64 4, .int .i64 1, .int .i64 8, .int .i64 4] T)).alloc (.cells #[.int .u64 (X : Int), .int .u64 (r : Int), .int .u64 (u : Int), .int .u64 (h : Int), .int .u64 (s : Int), .int .u64 (c : Int)] U)) fun e w' =>
      e = .returned (.tuple #[.string (payT X r u h s c), .bool true]) ∧ Ext w w' := by
  have h1 : Ints .i64 (w.alloc (.cells #[.int .i64 4, .int .i64 8, .int .i64 4, .int .i64 1, .int .i64 8, .int .i64 4] T)) (some ⟨w.heap.size, 0, none⟩) ws6p := ints_new w .i64 T ws6p rfl
  have hz : (w.alloc (.cells #[.int .i64 4, .int .i64 8, .int .i64 4, .int .i64 1, .int .i64 8, .int .i64 4] T)).heap.size = w.heap.size + 1 := by simp
  have e0 := Ext.alloc w (.cells #[.int .i64 4, .int .i64 8, .int .i64 4, .int .i64 1, .int .i64 8, .int .i64 4] T)
  generalize w.alloc (.cells #[.int .i64 4, .int .i64 8, .int .i64 4, .int .i64 1, .int .i64 8, .int .i64 4] T) = w1 at *
  have h2 := ints_new w1 .u64 U ([X, r, u, h, s, c].map Int.ofNat) rfl
  rw [hz] at h2
  have hsm : SmallN [X, r, u, h, s, c] := fun y hy => by
    simp at hy
    rcases hy with rfl | rfl | rfl | rfl | rfl | rfl <;> omega
  have h3 := refwrite_any ws6p [X, r, u, h, s, c] _ _ 6 6 _ (by decide) hsm (h1.ext (Ext.alloc w1 (.cells #[.int .u64 (X : Int), .int .u64 (r : Int), .int .u64 (u : Int), .int .u64 (h : Int), .int .u64 (s : Int), .int .u64 (c : Int)] U))) h2
  rw [wAns_some (six_bytes hX hr hu hh hs hc)] at h3
  exact h3.mono fun e w' ⟨h1, h2⟩ => ⟨h1, e0.trans ((Ext.alloc _ _).trans h2)⟩
set_option maxRecDepth 100000 in
set_option maxHeartbeats 2000000 in
theorem refimage_no (g : Nat) (a : Int) (r u : Nat) (h : Int) (s c : Nat) (z : Int) (w : World) (hb : ((Env.okAddr a && Sup.okB g r h) && Env.okSize z) = false) :
    Calls Try.prog 27 #[.agg #[.int .u64 (g : Int), .int .i64 a, .int .u64 (r : Int), .int .u32 (u : Int), .int .i64 h, .int .u64 (s : Int), .int .u32 (c : Int)], .int .i64 z] w fun e w' => e = .returned (.tuple #[.string ⟨#[]⟩, .int .i64 2]) ∧ Ext w w' := by
  have HR := Lib.hid (refbright_any g a r u h s c)
  cases h1 : Env.okAddr a && Sup.okB g r h with
  | false =>
    rw [h1] at HR
    clear h1 hb
    go_enter Try.func27, Try.ntmps27
    go_wp2_with fail
    refine (HR.out _).mono ?_
    rintro e w1 ⟨rfl, he1⟩
    go_wp2_with fail
    go_ret2
    exact ⟨rfl, (Ext.alloc _ _).trans he1⟩
  | true =>
    rw [h1, Bool.true_and] at hb
    rw [h1] at HR
    clear h1
    by_cases l1 : z < 128
    · have q1 : decide (z < 128) = true := decide_eq_true l1
      clear hb
      go_enter Try.func27, Try.ntmps27
      go_wp2_with fail
      refine (HR.out _).mono ?_
      rintro e w1 ⟨rfl, he1⟩
      go_wp2_with fail
      go_ret2
      exact ⟨rfl, (Ext.alloc _ _).trans he1⟩
    · have q1 : decide (z < 128) = false := decide_eq_false l1
      have l2 : 1024 < z := by
        apply Classical.byContradiction
        intro h2
        rw [Env.okSize_iff.2 (by omega)] at hb
        cases hb
      have q2 : decide (1024 < z) = true := decide_eq_true l2
      clear hb
      go_enter Try.func27, Try.ntmps27
      go_wp2_with fail
      refine (HR.out _).mono ?_
      rintro e w1 ⟨rfl, he1⟩
      go_wp2_with fail
      go_ret2
      exact ⟨rfl, (Ext.alloc _ _).trans he1⟩
set_option maxRecDepth 100000 in
set_option maxHeartbeats 2000000 in
theorem refimage_gen (g X r u h s c : Nat) (z : Int) (w : World) (hX : X ≤ 2147483647) (hr : r < 18446744073709551616) (hu : u < 4294967296) (hs : s < 18446744073709551616) (hc : c < 4294967296) (hb : Sup.okB g r (h : Int) = true) (hz : Env.okSize z = true)
    (S : ByteArray) (c' : Nat) (E : Int) (hrf : ∀ w, Calls Try.prog 15 #[.int .i64 z, .agg #[.int .u8 1, .int .i64 ((g % 2 : Nat) : Int), .int .u64 (g : Int)], .string (payT X r u h s c)] w fun e w' =>
      e = .returned (.tuple #[.string S, .int .u64 (c' : Int), .int .i64 E]) ∧ Ext w w') :
    Calls Try.prog 27 #[.agg #[.int .u64 (g : Int), .int .i64 (X : Int), .int .u64 (r : Int), .int .u32 (u : Int), .int .i64 (h : Int), .int .u64 (s : Int), .int .u32 (c : Int)], .int .i64 z] w fun e w' => e = .returned (.tuple #[.string S, .int .i64 E]) ∧ Ext w w' := by
  have hh := (Sup.okB_iff.1 hb).2
  have HR := Lib.hid (refbright_any g X r u h s c)
  rw [hb, Env.okAddr_iff.2 (show 0 ≤ (X : Int) ∧ (X : Int) ≤ 2147483647 by omega), Bool.true_and] at HR
  have ⟨z1, z2⟩ := Env.okSize_iff.1 hz
  have q1 : decide (z < 128) = false := decide_eq_false (by omega)
  have q2 : decide (1024 < z) = false := decide_eq_false (by omega)
  have HW := Lib.hid (fun w T U => refwrite6 w T U X r u h s c (by omega) hr hu (by omega) hs hc)
  have HRF := Lib.hid hrf
  clear hrf hb hz
  generalize payT X r u h s c = P at *
  obtain ⟨m, hm⟩ : ∃ m, g % 2 = m := ⟨_, rfl⟩
  rw [hm] at HRF
  have hw0 : IntKind.i64.wrap ((g : Int) % 2) = (m : Int) := by rw [IntKind.wrap_i64]; omega
  have hw1 : IntKind.u64.wrap (X : Int) = (X : Int) := by rw [IntKind.wrap_u64]; omega
  have hw2 : IntKind.u64.wrap (u : Int) = (u : Int) := by rw [IntKind.wrap_u64]; omega
  have hw3 : IntKind.u64.wrap (h : Int) = (h : Int) := by rw [IntKind.wrap_u64]; omega
  have hw4 : IntKind.u64.wrap (c : Int) = (c : Int) := by rw [IntKind.wrap_u64]; omega
  clear hm
  go_enter Try.func27, Try.ntmps27
  go_wp2_with fail
  refine (HR.out _).mono ?_
  rintro e w1 ⟨rfl, he1⟩
  have c0 := cell_ext (World.cell?_alloc_new w _ _ 0) he1
  have c1 := cell_ext (World.cell?_alloc_new w _ _ 1) he1
  have c2 := cell_ext (World.cell?_alloc_new w _ _ 2) he1
  have c3 := cell_ext (World.cell?_alloc_new w _ _ 3) he1
  have c4 := cell_ext (World.cell?_alloc_new w _ _ 4) he1
  have c5 := cell_ext (World.cell?_alloc_new w _ _ 5) he1
  have c6 := cell_ext (World.cell?_alloc_new w _ _ 6) he1
  replace he1 := (Ext.alloc w _).trans he1
  replace c1 := fun o => cell_ext c1 (Ext.alloc w1 o)
  replace c2 := fun o => cell_ext c2 (Ext.alloc w1 o)
  replace c3 := fun o => cell_ext c3 (Ext.alloc w1 o)
  replace c4 := fun o => cell_ext c4 (Ext.alloc w1 o)
  replace c5 := fun o => cell_ext c5 (Ext.alloc w1 o)
  replace c6 := fun o => cell_ext c6 (Ext.alloc w1 o)
  go_wp2_with fail
  refine (HW.out _ _ _).mono ?_
  rintro e w2 ⟨rfl, he2⟩
  replace c0 := cell_ext c0 he2
  go_wp2_with fail
  refine (HRF.out _).mono ?_
  rintro e w3 ⟨rfl, he3⟩
  go_wp2_with fail
  go_ret2
  exact ⟨rfl, he1.trans (he2.trans he3)⟩
/-- both answer alike -/
theorem image_both (g : Nat) (a : Int) (r u : Nat) (h : Int) (s c : Nat) (z : Int) (hg : g < 18446744073709551616) (hr : r < 18446744073709551616) (hu : u < 4294967296) (hs : s < 18446744073709551616) (hc : c < 4294967296) : ∃ (S : ByteArray) (E : Int),
    (∀ b w, TabAt w b → Calls Try.prog 26 #[.agg #[.int .u64 (g : Int), .int .i64 a, .int .u64 (r : Int), .int .u32 (u : Int), .int .i64 h, .int .u64 (s : Int), .int .u32 (c : Int)], .pointer (some ⟨b, 0, none⟩), .int .i64 z] w fun e w' => e = .returned (.tuple #[.string S, .int .i64 E]) ∧ Ext w w') ∧
    (∀ w, Calls Try.prog 27 #[.agg #[.int .u64 (g : Int), .int .i64 a, .int .u64 (r : Int), .int .u32 (u : Int), .int .i64 h, .int .u64 (s : Int), .int .u32 (c : Int)], .int .i64 z] w fun e w' => e = .returned (.tuple #[.string S, .int .i64 E]) ∧ Ext w w') := by
  cases h1 : Env.okAddr a && Sup.okB g r h with
  | false => exact ⟨_, 2, fun b w _ => image_no b g a r u h s c z w hr hu h1, fun w => refimage_no g a r u h s c z w (by rw [h1]; rfl)⟩
  | true =>
    have ⟨h2, h3⟩ := Bool.and_eq_true_iff.1 h1
    have b2 := Env.okAddr_iff.1 h2
    have b3 := Sup.okB_iff.1 h3
    obtain ⟨X, rfl⟩ : ∃ X : Nat, a = (X : Int) := ⟨a.toNat, by omega⟩
    obtain ⟨H, rfl⟩ : ∃ H : Nat, h = (H : Int) := ⟨h.toNat, by omega⟩
    cases hz : Env.okSize z with
    | false =>
      exact ⟨_, 2, fun b w ht => image_gen b g X r u H s c z w ht (by omega) hr hu hs hc h3 ⟨#[]⟩ 0 0 0 2 fun w _ => seal_bad b z 1 g ((g % 2 : Nat) : Int) (payT X r u H s c) w (by rw [hz]; rfl), fun w => refimage_no g X r u H s c z w (by rw [h1, hz]; rfl)⟩
    | true =>
      obtain ⟨S, a', g', c', E, _, _, hse, hrf⟩ := seal_both z 1 g ((g % 2 : Nat) : Int) (payT X r u H s c) hg
      exact ⟨S, E, fun b w ht => image_gen b g X r u H s c z w ht (by omega) hr hu hs hc h3 S a' g' c' E (hse b), fun w => refimage_gen g X r u H s c z w (by omega) hr hu hs hc h3 hz S c' E hrf⟩
end Go.Proofs.Ytbnpldilkkhgmaa
