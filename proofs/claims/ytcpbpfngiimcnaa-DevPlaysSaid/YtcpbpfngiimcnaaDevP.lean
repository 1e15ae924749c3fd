/- The contracts of the device's Media, Off, Count, Fuse. -/
import Derived.Test.YtcpbpfngiimcnaaDevL
namespace Go.Proofs.Ytcpbpfngiimcnaa
open Go.RowKit
section
variable {B b m q : Nat} {d : Dev.St} {w : World}
set_option maxRecDepth 100000 in
set_option maxHeartbeats 4000000 in
theorem devmedia_any (i : Int) (hP : PD w B b m q d) : Calls Try.prog 14 #[.pointer (some ⟨b, 0, none⟩), .int .i64 i] w fun e w' =>
    e = .returned (.string (if Dev.isSec i = true then d.media.getD i.toNat .empty else .empty)) ∧ Ext w w' := by
  obtain ⟨⟨cv, hr, hc⟩, hm, hq, hok, hlow⟩ := hP
  have HR := Lib.hid hr; have HM := Lib.hid hm
  have hml := hok.media
  clear hr hc hm hq hok
  obtain ⟨A, hA⟩ : ∃ A, (if Dev.isSec i = true then d.media.getD i.toNat .empty else .empty) = A := ⟨_, rfl⟩
  rw [hA]
  have HA := Lib.hid hA
  clear hA
  go_enter Try.func14, Try.ntmps14
  go_wp2_with fail
  refine (devis_any i HR.out).mono ?_
  rintro e w1 ⟨rfl, he1⟩
  cases hsec : Dev.isSec i with
  | false =>
    have hA : ByteArray.empty = A := by
      have := HA.out
      rw [hsec] at this
      exact this
    clear hsec HA
    go_wp2_with fail
    go_ret
    exact ⟨by rw [← hA]; rfl, he1⟩
  | true =>
    have hi := Dev.isSec_iff.1 hsec
    obtain ⟨j, rfl⟩ : ∃ j : Nat, i = (j : Int) := ⟨i.toNat, by omega⟩
    have c2 := (HR.out.ext he1).cell 2 (.slice (some ⟨m, 0, none⟩) 9 9) rfl
    have cm := (HM.out.ext he1).cellT j (by omega)
    have hA := HA.out
    rw [if_pos hsec, Int.toNat_natCast] at hA
    rw [hA] at cm
    clear hsec hA HA
    go_wp2_with fail
    go_ret
    exact ⟨rfl, he1⟩
set_option maxRecDepth 100000 in
set_option maxHeartbeats 4000000 in
theorem devoff_any (hP : PD w B b m q d) : Calls Try.prog 35 #[.pointer (some ⟨b, 0, none⟩)] w fun e w' => e = .returned (.bool d.off) ∧ Ext w w' := by
  obtain ⟨⟨cv, hr, hc⟩, hm, hq, hok, hlow⟩ := hP
  have c9 := hr.cell 9 (.bool d.off) rfl
  clear hr hc hm hq hok
  generalize d.off = g at *
  cases g
  all_goals
    go_enter Try.func35, Try.ntmps35
    go_wp2_with fail
    go_ret
    exact ⟨rfl, Ext.refl _⟩
set_option maxRecDepth 100000 in
set_option maxHeartbeats 4000000 in
theorem devcount_any (hP : PD w B b m q d) : Calls Try.prog 34 #[.pointer (some ⟨b, 0, none⟩)] w fun e w' => e = .returned (.tuple #[.int .i64 (d.reads : Int), .int .i64 (d.writes : Int), .int .i64 (d.fls : Int)]) ∧ Ext w w' := by
  obtain ⟨⟨cv, hr, hc⟩, hm, hq, hok, hlow⟩ := hP
  have c11 := hr.cell 11 (.int .i64 (d.reads : Int)) rfl
  have c12 := hr.cell 12 (.int .i64 (d.writes : Int)) rfl
  have c13 := hr.cell 13 (.int .i64 (d.fls : Int)) rfl
  clear hr hc hm hq hok
  go_enter Try.func34, Try.ntmps34
  go_wp2_with fail
  first
  | go_ret3
    exact ⟨rfl, Ext.refl _⟩
  | (go_quiet (fail)
     go_wp2_with fail
     go_ret3
     exact ⟨rfl, Ext.drewN _ _⟩)
set_option maxRecDepth 100000 in
set_option maxHeartbeats 4000000 in
theorem devfuse_any (n : Nat) (hP : PD w B b m q d) : Calls Try.prog 28 #[.pointer (some ⟨b, 0, none⟩), .int .i64 (n : Int)] w fun e w' => (∃ v, e = .returned v) ∧ PD w' B b m q { d with fuse := n } ∧ DF 95 B b m q w w' := by
  obtain ⟨⟨cv, hr, hc⟩, hm, hq, hok, hlow⟩ := hP
  have c5 := hr.cell 5 _ rfl
  have f5 := hr.free 5
  have hmx : max (n : Int) 0 = (n : Int) := by omega
  have HR := Lib.hid hr; have HC := Lib.hid hc; have HM := Lib.hid hm; have HQ := Lib.hid hq; have HOK := Lib.hid hok
  clear hr hc hm hq hok
  go_enter Try.func28, Try.ntmps28
  go_wp2_with fail
  go_end0
  exact ⟨⟨_, rfl⟩, PD.field HR.out HC.out HM.out HQ.out HOK.out hlow (HR.out.setCell 5 (.int .i64 (n : Int))) (Wrote.setCell HR.out 5 _).but rfl rfl rfl⟩
end
end Go.Proofs.Ytcpbpfngiimcnaa
