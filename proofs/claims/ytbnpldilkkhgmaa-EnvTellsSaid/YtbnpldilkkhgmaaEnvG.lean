/- Contract of env.Open. -/
import Derived.Test.YtbnpldilkkhgmaaEnvF
namespace Go.Proofs.Ytbnpldilkkhgmaa
open Go.RowKit
theorem parts_facts {s : ByteArray} {h : Env.Hd} {p : ByteArray} {c : Nat} (e : Env.parts s = some (h, p, c)) :
    ∃ k X g : Nat, h = ⟨k, X, g⟩ ∧ Env.okHead ⟨k, X, g⟩ = true ∧ k < 256 ∧ X < 4294967296 ∧ g < 18446744073709551616 ∧ c < 4294967296 ∧ 24 + p.size ≤ s.size ∧ (128 ≤ s.size ∧ s.size ≤ 1024) := by
  unfold Env.parts at e
  simp only at e
  split at e
  · rename_i hc
    obtain ⟨q1, q2, q3, q4, q5⟩ := Env.six_lt (s.data.toList.drop 4)
    simp only [Bool.and_eq_true, decide_eq_true_eq] at hc
    obtain ⟨⟨_, h2⟩, h3, h4⟩ := hc
    have hb := Env.okSize_iff.1 h2
    cases e
    refine ⟨_, _, _, rfl, h3, q1, q3, q4, q5, ?_, by omega⟩
    simp; omega
  · cases e
/-- what Open answers -/
def openAns (s : ByteArray) : Value := match Env.parts s with
  | none => .tuple #[.agg hdZ, .string ⟨#[]⟩, .int .i64 4]
  | some (h, p, c) => if imgT s.size h p c = s then (if sumT s.size h p = c then .tuple #[.agg (hdC h.kind h.addr h.gen), .string p, .int .i64 0] else .tuple #[.agg hdZ, .string ⟨#[]⟩, .int .i64 5]) else .tuple #[.agg hdZ, .string ⟨#[]⟩, .int .i64 4]
set_option maxRecDepth 100000 in
set_option maxHeartbeats 4000000 in
theorem open_any (b : Nat) (s : ByteArray) (w : World) (ht : TabAt w b) (hm : s.size ≤ maxLen) : Calls Try.prog 19 #[.pointer (some ⟨b, 0, none⟩), .string s] w fun e w' => e = .returned (openAns s) ∧ Ext w w' := by
  have hp := fun w => parts_any s w hm
  obtain ⟨A, hA⟩ : ∃ A, openAns s = A := ⟨_, rfl⟩
  rw [hA]
  cases hq : Env.parts s with
  | none =>
    rw [parts_none hq] at hp
    unfold hdZ at hp
    have HA := Lib.hid (show .tuple #[.agg hdZ, .string ⟨#[]⟩, .int .i64 4] = A by rw [← hA]; unfold openAns; rw [hq])
    clear hA hq
    go_enter Try.func19, Try.ntmps19
    go_wp2_with fail
    refine (hp _).mono ?_
    rintro e w1 ⟨rfl, he1⟩
    have R4 := Lib.hid (((RowIs.new w _ _).ext he1).ext (Ext.alloc w1 (.cells #[.int .u8 0, .int .i64 0, .int .u64 0] 38)))
    have he1 := (Ext.alloc w _).trans he1
    go_wp2_with (refine wpl_row rfl rfl rfl rfl R4.out (by kernel_rfl) rfl (by simp [Value.oneCell']) ?_; intro w6 hw6 hr6; have HW6 := Lib.hid hw6; have HR6 := Lib.hid hr6; clear hw6 hr6)
    (try simp only [Exit.inBlock, Exit.then])
    refine bodyPost_ret (results_ctt Try.results19 _ _ rfl HR6.out Try.underlying38 rfl (by kernel_rfl)) rfl ?_
    exact ⟨by rw [← HA.out]; rfl, HW6.out.ext (he1.trans (Ext.alloc _ _)) (Nat.le_refl _)⟩
  | some x =>
    obtain ⟨h, p, c⟩ := x
    obtain ⟨k, X, g, rfl, hok, f1, f2, f3, f4, f5, f6, f7⟩ := parts_facts hq
    rw [parts_some hq] at hp
    have HA := Lib.hid (show (if imgT s.size ⟨k, X, g⟩ p c = s then (if sumT s.size ⟨k, X, g⟩ p = c then .tuple #[.agg (hdC k X g), .string p, .int .i64 0] else .tuple #[.agg hdZ, .string ⟨#[]⟩, .int .i64 5]) else .tuple #[.agg hdZ, .string ⟨#[]⟩, .int .i64 4]) = A by rw [← hA]; unfold openAns; rw [hq])
    clear hA hq hok
    have hbare := fun w => bare_any s.size k X g p w f1 f2 f3 f5 (by omega)
    have hsz := imgT_size (h := ⟨k, X, g⟩) (c := 0) f5
    have hwith := img_with (size := s.size) (h := ⟨k, X, g⟩) (p := p) (c := c) (d := 0)
    have hsum := Lib.hid (show Crc.sum (imgT s.size ⟨k, X, g⟩ p 0).data.toList = sumT s.size ⟨k, X, g⟩ p from rfl)
    generalize sumT s.size ⟨k, X, g⟩ p = c' at *
    generalize imgT s.size ⟨k, X, g⟩ p c = T at *
    generalize imgT s.size ⟨k, X, g⟩ p 0 = I at *
    have hwt := fun w => with_any I c w (by omega) (by unfold maxLen; omega) f4
    rw [hwith] at hwt
    clear hwith
    unfold hdC at hp HA
    simp only at hp
    go_enter Try.func19, Try.ntmps19
    go_wp2_with fail
    refine (hp _).mono ?_
    rintro e w1 ⟨rfl, he1⟩
    have r4 := (RowIs.new w _ _).ext he1
    have he1 := (Ext.alloc w _).trans he1
    go_wp2_with fail
    refine (hbare _).mono ?_
    rintro e w2 ⟨rfl, he2⟩
    have d0 := cell_ext (World.cell?_alloc_new w1 _ _ 0) he2
    have d1 := cell_ext (World.cell?_alloc_new w1 _ _ 1) he2
    have d2 := cell_ext (World.cell?_alloc_new w1 _ _ 2) he2
    have he2' := (Ext.alloc w1 _).trans he2
    replace r4 := r4.ext he2'
    have he2'' := he1.trans he2'
    go_wp2_with fail
    refine (hwt _).mono ?_
    rintro e w3 ⟨rfl, he3⟩
    replace d0 := cell_ext d0 he3
    replace d1 := cell_ext d1 he3
    replace d2 := cell_ext d2 he3
    replace r4 := r4.ext he3
    have he3' := he2''.trans he3
    by_cases hT : T = s
    · subst hT
      rw [if_pos rfl] at HA
      go_wp2_with fail
      refine (of_one_new b _ _ c' I w3 (ht.ext he3') (by unfold maxLen; omega) hsum.out).mono ?_
      rintro e w4 ⟨rfl, _, he4⟩
      replace d0 := cell_ext d0 he4
      replace d1 := cell_ext d1 he4
      replace d2 := cell_ext d2 he4
      have R4 := Lib.hid (r4.ext he4)
      have he4' := he3'.trans he4
      clear r4
      by_cases hc : c' = c
      · subst hc
        rw [if_pos rfl] at HA
        go_wp2_with (refine wpl_row rfl rfl rfl rfl R4.out (by kernel_rfl) rfl (by simp [Value.oneCell']) ?_; intro w6 hw6 hr6; have HW6 := Lib.hid hw6; have HR6 := Lib.hid hr6; clear hw6 hr6)
        (try simp only [Exit.inBlock, Exit.then])
        refine bodyPost_ret (results_ctt Try.results19 _ _ rfl HR6.out Try.underlying38 rfl (by kernel_rfl)) rfl ?_
        exact ⟨by rw [← HA.out]; rfl, HW6.out.ext he4' (Nat.le_refl _)⟩
      · rw [if_neg hc] at HA
        have hne : ((c' : Int) != (c : Int)) = true := by simp; omega
        go_wp2_with (refine wpl_row rfl rfl rfl rfl R4.out (by kernel_rfl) rfl (by simp [Value.oneCell']) ?_; intro w6 hw6 hr6; have HW6 := Lib.hid hw6; have HR6 := Lib.hid hr6; clear hw6 hr6)
        (try simp only [Exit.inBlock, Exit.then])
        refine bodyPost_ret (results_ctt Try.results19 _ _ rfl HR6.out Try.underlying38 rfl (by kernel_rfl)) rfl ?_
        exact ⟨by rw [← HA.out]; rfl, HW6.out.ext he4' (Nat.le_refl _)⟩
    · rw [if_neg hT] at HA
      have hTl := str_ne hT
      have R4 := Lib.hid r4
      clear r4
      go_wp2_with (refine wpl_row rfl rfl rfl rfl R4.out (by kernel_rfl) rfl (by simp [Value.oneCell']) ?_; intro w6 hw6 hr6; have HW6 := Lib.hid hw6; have HR6 := Lib.hid hr6; clear hw6 hr6)
      (try simp only [Exit.inBlock, Exit.then])
      refine bodyPost_ret (results_ctt Try.results19 _ _ rfl HR6.out Try.underlying38 rfl (by kernel_rfl)) rfl ?_
      exact ⟨by rw [← HA.out]; rfl, HW6.out.ext he3' (Nat.le_refl _)⟩
end Go.Proofs.Ytbnpldilkkhgmaa
