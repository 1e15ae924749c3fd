/- The walk of law14.MsgOn. -/
import Derived.Test.YtemhflafiephpaaMsgAll
namespace Go.Proofs.Ytemhflafiephpaa
open Go.RowKit
theorem cell_new2 (w : World) (o : Obj) (T : TypeId) (cs : Array Value) (j : Nat) : ((w.alloc o).alloc (.cells cs T)).cell? ⟨w.heap.size + 1, j, none⟩ = cs[j]? := by
  rw [← world_size w o]; exact World.cell?_alloc_new _ _ _ _
theorem ups_cut {w : World} {a : Option Addr} {l : List Msg.Up} {ca : Nat} (hU : Ups w a l) (hcb : l.length ≤ ca) (hS : ∀ u ∈ l, SmallUp u) (n : Nat) :
    Ups w a (l.take n) ∧ (∀ u ∈ l.take n, SmallUp u) ∧ (l.take n).length ≤ n ∧ (l.take n).length ≤ ca := ⟨hU.take n, fun u hu => hS u (List.mem_of_mem_take hu), by rw [List.length_take]; omega, by rw [List.length_take]; omega⟩
set_option maxRecDepth 100000 in
set_option maxHeartbeats 2000000 in
theorem msgOn_walk (v : ByteArray) (t : Bool) (a : Option Addr) (l : List Msg.Up) (ca : Nat) (w : World) (hv : v.size ≤ maxLen) (hU : Ups w a l) (hca : l.length ≤ ca ∧ ca ≤ maxLen) (hS : ∀ u ∈ l, SmallUp u) :
    Calls Try.prog 4 #[.string v, .bool t, .slice a l.length ca] w fun e w' => e = .returned (.bool true) ∧ Ext w w' := by
  unfold maxLen at hv hca
  obtain ⟨hcb, hcb2⟩ := hca
  have hUc := ups_cut hU hcb hS 20
  have HU := Lib.hid hU; clear hU
  go_enter Try.func4, Try.ntmps4
  go_upto_region 1 with (fail)
  go_cut [0] (fun x wr => ∃ V : ByteArray, x = .string V ∧ V.size ≤ 60 ∧ wr = w)
  case first =>
    go_wp2_with fail
    all_goals go_meet
    all_goals exact ⟨_, rfl, by first | exact (cut_le _ _).1 | omega, rfl⟩
  obtain ⟨V, rfl, h1, rfl⟩ := hcut
  go_upto_if 26 with (fail)
  go_cut [7] (fun x wr => ∃ S : ByteArray, x = .string S ∧ S.size ≤ 60 ∧ (S, t) = Msg.all (V, t) [] ∧ wr = wc)
  case first =>
    cases t
    all_goals
      go_wp2_with fail
      go_meet
      exact ⟨_, rfl, by first | exact h1 | exact Nat.zero_le _, rfl, rfl⟩
  obtain ⟨S0, rfl, h2, hS0, rfl⟩ := hcut
  go_upto_region 6 with (fail)
  go_cut [31, 32, 33] (fun sl n i wr => ∃ L : List Msg.Up, sl = .slice a L.length ca ∧ n = .int .i64 L.length ∧ i = .int .i64 0 ∧ L.length ≤ 20 ∧ L.length ≤ ca ∧ Ups wr a L ∧ (∀ u ∈ L, SmallUp u) ∧ wr = wc)
  case first =>
    obtain ⟨q1, q2, q3, q4⟩ := hUc
    have q5 : (l.take 20).length = min 20 l.length := List.length_take
    go_wp2_with fail
    all_goals go_meet
    all_goals exact ⟨l.take 20, by rw [q5]; congr 1; omega, by rw [q5]; congr 1; omega, rfl, q3, q4, q1, q2, rfl⟩
  obtain ⟨L, rfl, rfl, rfl, h3, h4, hU2, hS2, rfl⟩ := hcut
  clear hUc HU
  have HU := Lib.hid hU2; clear hU2
  have HS0 := Lib.hid hS0; clear hS0
  go_wp2_with fail
  go_loopw [7, 8, 9, 33] (fun y b al i wx => ∃ (k : Nat) (S : ByteArray) (is : Bool) (M : List Msg.Up), k ≤ L.length ∧ i = .int .i64 k ∧ y = .string S ∧ b = .bool is ∧ S.size ≤ maxLen ∧ (S, is) = Msg.all (V, t) M ∧ M.length = k ∧ (∀ u ∈ M, SmallUp u) ∧ OwnU wx wc.heap.size al M ∧ Ext wc wx) (fun _ _ _ i _ => L.length - (intOf i).toNat)
  case atStart => exact ⟨0, S0, t, [], by omega, rfl, rfl, rfl, by unfold maxLen; omega, HS0.out, rfl, fun u hu => by simp at hu, OwnE.nil _ _ _, Ext.refl _⟩
  case round =>
    obtain ⟨k, S, is, M, hk, rfl, rfl, rfl, hSs, hall, hMk, hMs, hown, hex⟩ := hrel
    have HA := Lib.hid hall; have HM := Lib.hid hMs; have HO := Lib.hid hown
    clear hall hMs hown
    by_cases hlt : k < L.length
    · obtain ⟨b1, o1, rfl, hc0, hc1, hc2⟩ := (HU.out.ext hex) k hlt
      obtain ⟨s1, s2, s3⟩ := hS2 L[k] (by simp)
      generalize L[k] = u at *
      obtain ⟨K, Ky, X, D⟩ := u
      simp only at hc0 hc1 hc2
      obtain ⟨s1, s2, s3⟩ : K < 256 ∧ X.size ≤ maxLen ∧ D < 18446744073709551616 := ⟨s1, s2, s3⟩
      go_wp2_with fail
      refine (of_any K D X _ s2).mono ?_
      rintro e w1 ⟨X2, hx1, hx2, rfl, he1⟩
      have he1 := (Ext.alloc _ _).trans he1
      unfold upV
      go_wp2_with fail
      refine (on_any S keyK X2 is K D _ s1 hSs s3).mono ?_
      rintro e w2 ⟨rfl, he2⟩
      have c10 := cell_ext (cell_ext (World.cell?_alloc_new w1 _ _ 0) (Ext.alloc _ _)) he2
      have c11 := cell_ext (cell_ext (World.cell?_alloc_new w1 _ _ 1) (Ext.alloc _ _)) he2
      have c12 := cell_ext (cell_ext (World.cell?_alloc_new w1 _ _ 2) (Ext.alloc _ _)) he2
      have c13 := cell_ext (cell_ext (World.cell?_alloc_new w1 _ _ 3) (Ext.alloc _ _)) he2
      have c20 := cell_ext (cell_new2 w1 _ _ _ 0) he2
      have c21 := cell_ext (cell_new2 w1 _ _ _ 1) he2
      have c22 := cell_ext (cell_new2 w1 _ _ _ 2) he2
      have c23 := cell_ext (cell_new2 w1 _ _ _ 3) he2
      have he2 := (Ext.alloc _ _).trans ((Ext.alloc _ _).trans he2)
      have hsz := Msg.on_size (S, is) ⟨K, keyK, X2, D⟩ maxLen (by decide) hSs (by show X2.size ≤ maxLen; omega)
      have hMs2 := Lib.hid (show ∀ u ∈ M ++ [⟨K, keyK, X2, D⟩], SmallUp u from fun u hu => by
        rcases List.mem_append.1 hu with hu | hu
        · exact HM.out u hu
        · obtain rfl := List.mem_singleton.1 hu; exact ⟨s1, by show X2.size ≤ maxLen; omega, s3⟩)
      have hal := Lib.hid (Msg.all_snoc (V, t) M ⟨K, keyK, X2, D⟩)
      rw [← HA.out] at hal
      obtain ⟨S2, b2, hP⟩ : ∃ S2 b2, Msg.on (S, is) ⟨K, keyK, X2, D⟩ = (S2, b2) := ⟨_, _, rfl⟩
      have HP := Lib.hid hP
      rw [hP] at hsz hal ⊢
      clear hP
      unfold pairV
      go_wp2_with fail
      refine (refon_any S keyK X2 is K D _ s1 s3).mono ?_
      rw [HP.out]
      unfold pairV
      rintro e w3 ⟨rfl, he3⟩
      have c10 := cell_ext c10 he3
      have c11 := cell_ext c11 he3
      have c12 := cell_ext c12 he3
      have c13 := cell_ext c13 he3
      have hO3 := Lib.hid (OwnU.ext HO.out (he1.trans (he2.trans he3)))
      have hB : wc.heap.size ≤ w3.heap.size := (hex.trans (he1.trans (he2.trans he3))).size
      have hln : M.length ≤ 1000000 := by omega
      go_wp2_with (at_builtin; refine wpl_upd rfl _ _ rfl rfl hO3.out hB hln rfl K D keyK X2 ?_; intro v' w' ho hb; have HO2 := Lib.hid ho; clear ho)
      go_roundw
      case rel => exact ⟨k + 1, S2, b2, M ++ [⟨K, keyK, X2, D⟩], by omega, by go_num, rfl, rfl, hsz, hal.out.symm, by simp; omega, hMs2.out, HO2.out, Below.trans (hex.trans (he1.trans (he2.trans he3))) hb⟩
      case measure => simp [intOf]; omega
    · obtain rfl : k = L.length := by omega
      obtain ⟨a2, c2, rfl, hc2, _, hR⟩ := own_recs HO.out
      have HR := Lib.hid hR; clear hR
      go_wp2_with fail
      refine (all_len V t M hMk a2 c2 _ (by omega) (by unfold maxLen; omega) HR.out HM.out).mono ?_
      rw [← HA.out]
      unfold pairV
      rintro e w1 ⟨rfl, he1⟩
      go_wp2_with fail
      refine (wakes14 _).mono ?_
      rintro e w2 ⟨rfl, he2⟩
      go_wp2_with fail
      go_ret
      exact ⟨rfl, hex.trans (he1.trans he2)⟩
end Go.Proofs.Ytemhflafiephpaa
