/- Contract of the reference's Text. -/
import Derived.Test.YtemhflafiephpaaRecD
import Derived.Test.YtemhflafiephpaaLendR
namespace Go.Proofs.Ytemhflafiephpaa
open Go.RowKit
theorem conv_pair (w : World) (a b : Nat) (ha : a < 256) (hb : b < 256) : (convert 76 9 (.slice (some ⟨w.heap.size, 0, none⟩) 2 2)).run Try.prog (w.alloc (.cells #[.int .u8 (a : Int), .int .u8 (b : Int)] 5)) = .ok (.string ⟨#[UInt8.ofNat a, UInt8.ofNat b]⟩) (w.alloc (.cells #[.int .u8 (a : Int), .int .u8 (b : Int)] 5)) := by
  have h9 := conv_two w (UInt8.ofNat a) (UInt8.ofNat b) 2
  rw [show (UInt8.ofNat a).toNat = a from (UInt8.toNat_ofNat).trans (Nat.mod_eq_of_lt ha), show (UInt8.ofNat b).toNat = b from (UInt8.toNat_ofNat).trans (Nat.mod_eq_of_lt hb)] at h9
  exact h9
theorem conv_lone (w : World) (a : Nat) (ha : a < 256) : (convert 76 9 (.slice (some ⟨w.heap.size, 0, none⟩) 1 1)).run Try.prog (w.alloc (.cells #[.int .u8 (a : Int)] 5)) = .ok (.string ⟨#[UInt8.ofNat a]⟩) (w.alloc (.cells #[.int .u8 (a : Int)] 5)) := by
  have h9 := conv_one w (UInt8.ofNat a) 1
  rw [show (UInt8.ofNat a).toNat = a from (UInt8.toNat_ofNat).trans (Nat.mod_eq_of_lt ha)] at h9
  exact h9
theorem put8q_any (n : Nat) (w : World) (hn : n < 18446744073709551616) : Calls Try.prog 16 #[.int .u64 (n : Int), .int .i64 8] w fun e w' => ∃ q : Bool, e = .returned (.tuple #[.string (Msg.val n), .bool q]) ∧ Ext w w' := by
  have h := put_any n 8 w hn
  exact h.mono fun e w' ⟨h1, h2⟩ => ⟨_, h1.trans rfl, h2⟩
theorem bytes_1 {d : Nat} {y v : ByteArray} (o : List UInt8) : (⟨(o ++ Rec.bytes ⟨1, y, v, d⟩).toArray⟩ : ByteArray) = ((((⟨o.toArray⟩ ++ ⟨#[UInt8.ofNat 1, UInt8.ofNat y.size]⟩) ++ y) ++ ⟨#[UInt8.ofNat v.size]⟩) ++ v : ByteArray) := bytes_ext (by simp [Rec.bytes])
theorem bytes_2 {d : Nat} {y v : ByteArray} (o : List UInt8) : (⟨(o ++ Rec.bytes ⟨2, y, v, d⟩).toArray⟩ : ByteArray) = ((⟨o.toArray⟩ ++ ⟨#[UInt8.ofNat 2, UInt8.ofNat y.size]⟩) ++ y : ByteArray) := bytes_ext (by simp [Rec.bytes])
theorem bytes_3 {d : Nat} {y v : ByteArray} (o : List UInt8) : (⟨(o ++ Rec.bytes ⟨3, y, v, d⟩).toArray⟩ : ByteArray) = (((⟨o.toArray⟩ ++ ⟨#[UInt8.ofNat 3, UInt8.ofNat y.size]⟩) ++ y) ++ Msg.val d : ByteArray) := bytes_ext (by simp [Rec.bytes, Msg.val])
set_option maxRecDepth 100000 in
set_option maxHeartbeats 4000000 in
theorem reftext_any (l : List Msg.Up) (a : Option Addr) (ca : Nat) (w : World) (hl : l.length ≤ 1000) (hR : Recs w a l) (hS : ∀ u ∈ l, FitU u) :
    Calls Try.prog 26 #[.slice a l.length ca] w fun e w' => e = .returned (.tuple #[.string ⟨(Rec.text l).1.toArray⟩, .int .i64 ((Rec.text l).2 : Nat)]) ∧ Ext w w' := by
  obtain ⟨A, hA⟩ : ∃ A : Value, Value.tuple #[.string ⟨(Rec.text l).1.toArray⟩, .int .i64 ((Rec.text l).2 : Nat)] = A := ⟨_, rfl⟩
  rw [hA]
  have HA := Lib.hid hA; have HR := Lib.hid hR; have HS := Lib.hid hS
  clear hA hR hS
  go_enter Try.func26, Try.ntmps26
  go_wp2_with fail
  go_loopw [4, 5] (fun o i wx => ∃ (k : Nat) (S : ByteArray), k ≤ l.length ∧ i = .int .i64 k ∧ o = .string S ∧ S = ⟨((l.take k).flatMap Rec.bytes).toArray⟩ ∧ (∀ j (hj : j < l.length), j < k → Rec.check l[j] = 0) ∧ S.size ≤ 60 * k ∧ Ext w wx) (fun _ i _ => l.length - (intOf i).toNat)
  case atStart => exact ⟨0, ⟨#[]⟩, by omega, rfl, rfl, rfl, fun j hj h => by omega, Nat.zero_le _, Ext.refl _⟩
  case round =>
    obtain ⟨k, S, hk, rfl, rfl, hSe, hck, hln, hex⟩ := hrel
    have HC := Lib.hid hck; have HSE := Lib.hid hSe
    clear hck hSe
    by_cases hlt : k < l.length
    · obtain ⟨b1, o1, rfl, hc0, hc1, hc2, hc3⟩ := (HR.out.ext hex) k hlt
      obtain ⟨s1, s2, s3, s4⟩ := HS.out l[k] (by simp)
      have htk := Rec.flat_take_succ hlt
      by_cases h0 : Rec.check l[k] = 0
      · have hn2 : ∀ j (hj : j < l.length), j < k + 1 → Rec.check l[j] = 0 := fun j hj hjk => by
          by_cases hjk2 : j < k
          · exact HC.out j hj hjk2
          · obtain rfl : j = k := by omega
            exact h0
        have HN2 := Lib.hid hn2
        have HTK := Lib.hid htk
        clear hn2 htk
        generalize l[k] = u at *
        obtain ⟨K, Y, V, D⟩ := u
        simp only at hc0 hc1 hc2 hc3 s1 s2 s3 s4
        obtain ⟨⟨_, z2, z3⟩, z4, z5, z6⟩ := check_zero h0
        clear z5 z6
        have hck := fun w => refcheck_any K D Y V w s1 s4 s2 s3
        rw [h0] at hck
        have HCK := Lib.hid hck
        clear hck h0
        have hwy : IntKind.u8.wrap (Y.size : Int) = (Y.size : Int) := by rw [IntKind.wrap_u8]; omega
        have hwv : IntKind.u8.wrap (V.size : Int) = (V.size : Int) := by rw [IntKind.wrap_u8]; omega
        rcases z4 with rfl | rfl | rfl
        · have hnx : (⟨((l.take (k + 1)).flatMap Rec.bytes).toArray⟩ : ByteArray) = ((((S ++ ⟨#[UInt8.ofNat 1, UInt8.ofNat Y.size]⟩) ++ Y) ++ ⟨#[UInt8.ofNat V.size]⟩) ++ V) := by rw [HTK.out, bytes_1, ← HSE.out]
          have hcv : ∀ w : World, (convert 76 9 (.slice (some ⟨w.heap.size, 0, none⟩) 2 2)).run Try.prog (w.alloc (.cells #[.int .u8 1, .int .u8 (Y.size : Int)] 5)) = .ok (.string ⟨#[UInt8.ofNat 1, UInt8.ofNat Y.size]⟩) (w.alloc (.cells #[.int .u8 1, .int .u8 (Y.size : Int)] 5)) := fun w => conv_pair w 1 Y.size (by decide) (by omega)
          have hcv2 : ∀ (w : World) (o : Obj), (convert 76 9 (.slice (some ⟨w.heap.size + 1, 0, none⟩) 1 1)).run Try.prog ((w.alloc o).alloc (.cells #[.int .u8 (V.size : Int)] 5)) = .ok (.string ⟨#[UInt8.ofNat V.size]⟩) ((w.alloc o).alloc (.cells #[.int .u8 (V.size : Int)] 5)) := fun w o => by
            have h := conv_lone (w.alloc o) V.size (by omega)
            rw [show (w.alloc o).heap.size = w.heap.size + 1 by simp] at h
            exact h
          obtain ⟨T, hT⟩ : ∃ T : ByteArray, ⟨#[UInt8.ofNat 1, UInt8.ofNat Y.size]⟩ = T := ⟨_, rfl⟩
          have hTs : T.size = 2 := by rw [← hT]; rfl
          rw [hT] at hcv hnx
          obtain ⟨T2, hT2⟩ : ∃ T : ByteArray, ⟨#[UInt8.ofNat V.size]⟩ = T := ⟨_, rfl⟩
          have hT2s : T2.size = 1 := by rw [← hT2]; rfl
          rw [hT2] at hcv2 hnx
          have HNX := Lib.hid hnx
          clear hT hT2 hnx
          have q1 : (S ++ T).size = S.size + 2 := by rw [ByteArray.size_append, hTs]
          have q2 : (S ++ T ++ Y).size = S.size + 2 + Y.size := by rw [ByteArray.size_append, q1]
          have q3 : (S ++ T ++ Y ++ T2).size = S.size + 2 + Y.size + 1 := by rw [ByteArray.size_append, q2, hT2s]
          have q4 : (S ++ T ++ Y ++ T2 ++ V).size = S.size + 2 + Y.size + 1 + V.size := by rw [ByteArray.size_append, q3]
          have b0 : ¬ 9223372036854775807 < S.size + T.size := by omega
          have b1 : ¬ 9223372036854775807 < S.size + 2 + Y.size := by omega
          have b2 : ¬ 9223372036854775807 < S.size + 2 + Y.size + T2.size := by omega
          have b3 : ¬ 9223372036854775807 < S.size + 2 + Y.size + 1 + V.size := by omega
          go_wp2_with fail
          refine (HCK.out _).mono ?_
          rintro e w1 ⟨rfl, he1⟩
          have c0 := cell_ext (World.cell?_alloc_new wr _ _ 0) he1
          have c1 := cell_ext (World.cell?_alloc_new wr _ _ 1) he1
          have c2 := cell_ext (World.cell?_alloc_new wr _ _ 2) he1
          replace he1 := (Ext.alloc wr _).trans he1
          have c0o := fun o => cell_ext c0 (Ext.alloc w1 o)
          have c1o := fun o => cell_ext c1 (Ext.alloc w1 o)
          have c2o := fun o => cell_ext c2 (Ext.alloc w1 o)
          have c0p := fun o p => cell_ext (c0o o) (Ext.alloc _ p)
          have c2p := fun o p => cell_ext (c2o o) (Ext.alloc _ p)
          go_wp2_with fail
          go_roundw
          case rel => exact ⟨k + 1, _, by omega, by go_num, rfl, HNX.out.symm, HN2.out, by omega, hex.trans (he1.trans ((Ext.alloc _ _).trans (Ext.alloc _ _)))⟩
          case measure => simp [intOf]; omega
        · have hnx : (⟨((l.take (k + 1)).flatMap Rec.bytes).toArray⟩ : ByteArray) = ((S ++ ⟨#[UInt8.ofNat 2, UInt8.ofNat Y.size]⟩) ++ Y) := by rw [HTK.out, bytes_2, ← HSE.out]
          have hcv : ∀ w : World, (convert 76 9 (.slice (some ⟨w.heap.size, 0, none⟩) 2 2)).run Try.prog (w.alloc (.cells #[.int .u8 2, .int .u8 (Y.size : Int)] 5)) = .ok (.string ⟨#[UInt8.ofNat 2, UInt8.ofNat Y.size]⟩) (w.alloc (.cells #[.int .u8 2, .int .u8 (Y.size : Int)] 5)) := fun w => conv_pair w 2 Y.size (by decide) (by omega)
          obtain ⟨T, hT⟩ : ∃ T : ByteArray, ⟨#[UInt8.ofNat 2, UInt8.ofNat Y.size]⟩ = T := ⟨_, rfl⟩
          have hTs : T.size = 2 := by rw [← hT]; rfl
          rw [hT] at hcv hnx
          have HNX := Lib.hid hnx
          clear hT hnx
          have q1 : (S ++ T).size = S.size + 2 := by rw [ByteArray.size_append, hTs]
          have q2 : (S ++ T ++ Y).size = S.size + 2 + Y.size := by rw [ByteArray.size_append, q1]
          have b0 : ¬ 9223372036854775807 < S.size + T.size := by omega
          have b1 : ¬ 9223372036854775807 < S.size + 2 + Y.size := by omega
          go_wp2_with fail
          refine (HCK.out _).mono ?_
          rintro e w1 ⟨rfl, he1⟩
          have c0 := cell_ext (World.cell?_alloc_new wr _ _ 0) he1
          have c1 := cell_ext (World.cell?_alloc_new wr _ _ 1) he1
          replace he1 := (Ext.alloc wr _).trans he1
          have c0o := fun o => cell_ext c0 (Ext.alloc w1 o)
          have c1o := fun o => cell_ext c1 (Ext.alloc w1 o)
          go_wp2_with fail
          go_roundw
          case rel => exact ⟨k + 1, _, by omega, by go_num, rfl, HNX.out.symm, HN2.out, by omega, hex.trans (he1.trans (Ext.alloc _ _))⟩
          case measure => simp [intOf]; omega
        · have hnx : (⟨((l.take (k + 1)).flatMap Rec.bytes).toArray⟩ : ByteArray) = (((S ++ ⟨#[UInt8.ofNat 3, UInt8.ofNat Y.size]⟩) ++ Y) ++ Msg.val D) := by rw [HTK.out, bytes_3, ← HSE.out]
          have hcv : ∀ w : World, (convert 76 9 (.slice (some ⟨w.heap.size, 0, none⟩) 2 2)).run Try.prog (w.alloc (.cells #[.int .u8 3, .int .u8 (Y.size : Int)] 5)) = .ok (.string ⟨#[UInt8.ofNat 3, UInt8.ofNat Y.size]⟩) (w.alloc (.cells #[.int .u8 3, .int .u8 (Y.size : Int)] 5)) := fun w => conv_pair w 3 Y.size (by decide) (by omega)
          obtain ⟨T, hT⟩ : ∃ T : ByteArray, ⟨#[UInt8.ofNat 3, UInt8.ofNat Y.size]⟩ = T := ⟨_, rfl⟩
          have hTs : T.size = 2 := by rw [← hT]; rfl
          rw [hT] at hcv hnx
          have HNX := Lib.hid hnx
          clear hT hnx
          have hVs := Msg.val_size D
          have hpt := fun w => put8q_any D w s4
          generalize Msg.val D = W at *
          have q1 : (S ++ T).size = S.size + 2 := by rw [ByteArray.size_append, hTs]
          have q2 : (S ++ T ++ Y).size = S.size + 2 + Y.size := by rw [ByteArray.size_append, q1]
          have q3 : (S ++ T ++ Y ++ W).size = S.size + 2 + Y.size + 8 := by rw [ByteArray.size_append, q2, hVs]
          have b0 : ¬ 9223372036854775807 < S.size + T.size := by omega
          have b1 : ¬ 9223372036854775807 < S.size + 2 + Y.size := by omega
          have b2 : ¬ 9223372036854775807 < S.size + 2 + Y.size + W.size := by omega
          go_wp2_with fail
          refine (HCK.out _).mono ?_
          rintro e w1 ⟨rfl, he1⟩
          have c0 := cell_ext (World.cell?_alloc_new wr _ _ 0) he1
          have c1 := cell_ext (World.cell?_alloc_new wr _ _ 1) he1
          have c3 := cell_ext (World.cell?_alloc_new wr _ _ 3) he1
          replace he1 := (Ext.alloc wr _).trans he1
          have c0o := fun o => cell_ext c0 (Ext.alloc w1 o)
          have c1o := fun o => cell_ext c1 (Ext.alloc w1 o)
          have c3o := fun o => cell_ext c3 (Ext.alloc w1 o)
          go_wp2_with fail
          refine (hpt _).mono ?_
          rintro e w2 ⟨q, rfl, he2⟩
          go_wp2_with fail
          go_roundw
          case rel => exact ⟨k + 1, _, by omega, by go_num, rfl, HNX.out.symm, HN2.out, by omega, hex.trans (he1.trans ((Ext.alloc _ _).trans he2))⟩
          case measure => simp [intOf]; omega
      · have hbad := Lib.hid (Rec.text_bad hlt HC.out h0)
        clear htk
        have HA2 := HA.out
        rw [hbad.out] at HA2
        generalize l[k] = u at *
        obtain ⟨K, Y, V, D⟩ := u
        simp only at hc0 hc1 hc2 hc3 s1 s2 s3 s4
        have hck := fun w => refcheck_any K D Y V w s1 s4 s2 s3
        generalize Rec.check ⟨K, Y, V, D⟩ = c at *
        have hne : ((c : Int) != 0) = true := by simp; omega
        have HCK := Lib.hid hck; have HA3 := Lib.hid HA2
        clear hck HA2
        go_wp2_with fail
        refine (HCK.out _).mono ?_
        rintro e w1 ⟨rfl, he1⟩
        go_wp2_with fail
        go_ret2
        exact ⟨by rw [← HA3.out]; rfl, hex.trans ((Ext.alloc _ _).trans he1)⟩
    · obtain rfl : k = l.length := by omega
      have hall : ∀ u ∈ l, Rec.check u = 0 := fun u hu => by
        obtain ⟨j, hj, rfl⟩ := List.getElem_of_mem hu
        exact HC.out j hj hj
      have hok := Lib.hid (Rec.text_ok hall)
      have HA2 := HA.out
      rw [hok.out] at HA2
      have hS2 := HSE.out
      rw [List.take_length] at hS2
      rw [← hS2] at HA2
      have HA3 := Lib.hid HA2
      clear HA2 hS2 hall hln
      go_wp2_with fail
      go_ret2
      exact ⟨by rw [← HA3.out]; rfl, hex⟩
end Go.Proofs.Ytemhflafiephpaa
