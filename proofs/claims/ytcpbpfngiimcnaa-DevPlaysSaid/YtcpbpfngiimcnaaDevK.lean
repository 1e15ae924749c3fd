/- law03.full and law03.wakes. -/
import Derived.Test.YtcpbpfngiimcnaaDevJ
namespace Go.Proofs.Ytcpbpfngiimcnaa
open Go.RowKit
def fullT (s : ByteArray) : ByteArray := (s ++ ⟨Array.replicate 128 42⟩).extract 0 128
theorem fullT_size (s : ByteArray) : (fullT s).size = 128 := by
  unfold fullT
  rw [ByteArray.size_extract, ByteArray.size_append]
  have : (⟨Array.replicate 128 42⟩ : ByteArray).size = 128 := rfl
  omega
set_option maxRecDepth 100000 in
set_option maxHeartbeats 4000000 in
theorem full_any (s : ByteArray) (w : World) (hs : s.size ≤ 1000000) : Calls Try.prog 11 #[.string s] w fun e w' => e = .returned (.string (fullT s)) ∧ Ext w w' := by
  obtain ⟨F, hF⟩ : ∃ F, fullT s = F := ⟨_, rfl⟩
  rw [hF]
  unfold fullT at hF
  go_enter Try.func11, Try.ntmps11
  go_wp2_with fail
  refine (srepeat_any 42 _).mono ?_
  rintro e w1 ⟨rfl, he1⟩
  have h128 : (⟨Array.replicate 128 42⟩ : ByteArray).size = 128 := rfl
  generalize (⟨Array.replicate 128 42⟩ : ByteArray) = R at *
  have HF := Lib.hid hF
  clear hF
  go_wp2_with fail
  go_ret
  exact ⟨by rw [← HF.out]; rfl, he1⟩
namespace Dev
def st1 (s : ByteArray) : St := { new with writes := 1, cache := [(2, s)] }
def st2 (s : ByteArray) : St := { new with reads := 1, writes := 1, cache := [(2, s)] }
def st3 : St := { new with reads := 1, writes := 1 }
def st4 : St := { new with reads := 2, writes := 1 }
theorem write_new {s : ByteArray} (hs : s.size = 128) : write new 2 s = (st1 s, 0) := by
  simp [write, ready, new, isSec, burn, aim, hs, st1]
theorem read_st1 (s : ByteArray) : read (st1 s) 2 = (st2 s, s, 0) := by
  simp [read, ready, new, isSec, st1, st2, look]
theorem crash_st2 (s : ByteArray) : crash (st2 s) [] = st3 := by
  simp [crash, st2, st3, new]
theorem read_st3 : read st3 2 = (st4, zero, 0) := by
  simp [read, ready, new, isSec, st3, st4, look]
end Dev
theorem fit_new : Dev.Fit Dev.new := ⟨by decide, by decide, by decide, by decide, by decide, by decide, by decide⟩
theorem fit_st1 (s : ByteArray) : Dev.Fit (Dev.st1 s) := ⟨by simp [Dev.st1, Dev.new], by simp [Dev.st1, Dev.new], by simp [Dev.st1, Dev.new], by simp [Dev.st1, Dev.new], by simp [Dev.st1], by simp [Dev.st1, Dev.new], by simp [Dev.st1]⟩
theorem fit_st2 (s : ByteArray) : Dev.Fit (Dev.st2 s) := ⟨by simp [Dev.st2, Dev.new], by simp [Dev.st2, Dev.new], by simp [Dev.st2, Dev.new], by simp [Dev.st2], by simp [Dev.st2], by simp [Dev.st2, Dev.new], by simp [Dev.st2]⟩
theorem fit_st3 : Dev.Fit Dev.st3 := ⟨by simp [Dev.st3, Dev.new], by simp [Dev.st3, Dev.new], by simp [Dev.st3, Dev.new], by simp [Dev.st3], by simp [Dev.st3], by simp [Dev.st3, Dev.new], by simp [Dev.st3, Dev.new]⟩
set_option maxRecDepth 100000 in
set_option maxHeartbeats 8000000 in
theorem wakes03 (w : World) : Calls Try.prog 8 #[] w fun e w' => e = .returned (.bool true) ∧ Ext w w' := by
  obtain ⟨F, hF⟩ : ∃ F, fullT ⟨#[97]⟩ = F := ⟨_, rfl⟩
  have hFs : F.size = 128 := by rw [← hF]; exact fullT_size _
  have hfu := fun w => full_any ⟨#[97]⟩ w (by decide)
  rw [hF] at hfu
  have hz : Dev.zero = ⟨Array.replicate 128 0⟩ := rfl
  have hrp := fun w => srepeat_any 0 w
  rw [← hz] at hrp
  generalize hzz : Dev.zero = Z at hrp
  have HFU := Lib.hid hfu; have HRP := Lib.hid hrp; have HZ := Lib.hid hzz
  clear hfu hrp hz hzz hF
  go_enter Try.func8, Try.ntmps8
  go_wp2_with fail
  refine (new_yes _).mono ?_
  rintro e w1 ⟨⟨v, rfl, b, m, q, rfl, hp⟩, he1⟩
  have HP := Lib.hid hp
  have hlow := hp.low
  clear hp
  go_wp2_with fail
  refine (HFU.out _).mono ?_
  rintro e w2 ⟨rfl, he2⟩
  replace HP := Lib.hid (HP.out.ext he2)
  have HE := Lib.hid (he1.trans he2)
  clear he1 he2
  go_wp2_with fail
  refine (devwrite_any 2 F (by unfold maxLen; omega) HE.out.size fit_new HP.out).mono ?_
  rw [Dev.write_new hFs]
  rintro e w3 ⟨rfl, hp, hd⟩
  replace HP := Lib.hid hp
  replace HE := Lib.hid (hd.low HE.out (Nat.le_refl _) hlow)
  clear hp hd
  go_wp2_with fail
  refine (devread_any 2 (fit_st1 F) HP.out).mono ?_
  rw [Dev.read_st1]
  rintro e w4 ⟨rfl, hp, hd⟩
  replace HP := Lib.hid hp
  replace HE := Lib.hid (hd.low HE.out (Nat.le_refl _) hlow)
  clear hp hd
  go_wp2_with fail
  refine (devcrash_any none 0 [] (by simp) (fun f hf => by cases hf) (fun w' _ i h => by cases h) (fit_st2 F) HP.out).mono ?_
  rw [Dev.crash_st2]
  rintro e w5 ⟨⟨v5, rfl⟩, hp, hd⟩
  replace HP := Lib.hid hp
  replace HE := Lib.hid (hd.low HE.out (Nat.le_refl _) hlow)
  clear hp hd
  go_wp2_with fail
  refine (devread_any 2 fit_st3 HP.out).mono ?_
  rw [Dev.read_st3, HZ.out]
  rintro e w6 ⟨rfl, hp, hd⟩
  replace HP := Lib.hid hp
  replace HE := Lib.hid (hd.low HE.out (Nat.le_refl _) hlow)
  clear hp hd
  go_wp2_with fail
  refine (HFU.out _).mono ?_
  rintro e w7 ⟨rfl, he7⟩
  go_wp2_with fail
  refine (HRP.out _).mono ?_
  rintro e w8 ⟨rfl, he8⟩
  go_wp2_with fail
  go_ret
  exact ⟨rfl, HE.out.trans (he7.trans he8)⟩
end Go.Proofs.Ytcpbpfngiimcnaa
